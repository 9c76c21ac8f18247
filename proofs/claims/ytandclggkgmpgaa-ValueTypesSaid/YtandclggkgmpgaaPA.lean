/- A pure logic of the model's code: pure data, how values in memory stand for it, and how that stays. No condition beyond each lemma's own. -/
import Derived.WalkKit
import Derived.WalkSpells
import Derived.WalkLawsBesides
import Derived.Deep.QuietTactic
import Derived.BigQuiet
import Derived.Lib.Hide
import Derived.Deep.LoopGhost
import Derived.Laws.AppendOwnNone
import Derived.Below
set_option linter.unusedVariables false
set_option linter.unusedSimpArgs false
set_option linter.unusedSectionVars false
namespace Go.Proofs.Ytandclggkgmpgaa
open Go.RowKit

/-- Pure data. -/
inductive D where
  | bool (b : Bool)
  | int (k : IntKind) (n : Int)
  | str (s : ByteArray)
  | nilp
  | ep (cs : List D)
  | sl (n : Nat) (cs : List D)
  | fn (f : Fn) (first cap : List D)
  | nilf
  | agg (cs : List D)
  | tup (cs : List D)

/-- These cells lie there, each of one cell, none of those that may still be written. -/
def Cells (M : Addr → Prop) (w : World) (a : Addr) (us : List Value) : Prop :=
  (us ≠ [] → a.spot = none) ∧ ∀ j u, us[j]? = some u → w.cell? (a.add j) = some u ∧ ¬ M (a.add j) ∧ u.oneCell' = true

mutual
/-- A value stands for a datum. -/
inductive Rep (M : Addr → Prop) (w : World) : Value → D → Prop
  | bool (b : Bool) : Rep M w (.bool b) (.bool b)
  | int (k : IntKind) (n : Int) : Rep M w (.int k n) (.int k n)
  | str (s : ByteArray) : Rep M w (.string s) (.str s)
  | nilp : Rep M w (.pointer none) .nilp
  | ep (a : Addr) (us : List Value) (cs : List D) (h : Cells M w a us) (hr : RepL M w us cs) : Rep M w (.pointer (some a)) (.ep cs)
  | sl (p : Option Addr) (n cap : Nat) (us : List Value) (cs : List D) (hn : n ≤ cap) (hz : p = none → n = 0 ∧ cap = 0 ∧ us = [])
      (h : ∀ a, p = some a → Cells M w a us) (hr : RepL M w us cs) : Rep M w (.slice p n cap) (.sl n cs)
  | fn (f : Fn) (vs us : Array Value) (ds es : List D) (h1 : RepL M w vs.toList ds) (h2 : RepL M w us.toList es) : Rep M w (.func f vs us) (.fn f ds es)
  | nilf : Rep M w .nilFunc .nilf
  | agg (vs : Array Value) (ds : List D) (h : RepL M w vs.toList ds) (h1 : ∀ v ∈ vs.toList, v.oneCell' = true) : Rep M w (.agg vs) (.agg ds)
  | tup (vs : Array Value) (ds : List D) (h : RepL M w vs.toList ds) : Rep M w (.tuple vs) (.tup ds)
inductive RepL (M : Addr → Prop) (w : World) : List Value → List D → Prop
  | nil : RepL M w [] []
  | cons (v : Value) (d : D) (vs : List Value) (ds : List D) (h : Rep M w v d) (t : RepL M w vs ds) : RepL M w (v :: vs) (d :: ds)
end

/-- What may not be written any more stays. -/
def Stay (M : Addr → Prop) (w : World) (M' : Addr → Prop) (w' : World) : Prop :=
  ∀ a u, w.cell? a = some u → ¬ M a → w'.cell? a = some u ∧ ¬ M' a

theorem Cells.mono {M M' : Addr → Prop} {w w' : World} {a : Addr} {us : List Value} (hs : Stay M w M' w') (h : Cells M w a us) : Cells M' w' a us :=
  ⟨h.1, fun j u hu => have ⟨h1, h2, h3⟩ := h.2 j u hu; have ⟨k1, k2⟩ := hs _ _ h1 h2; ⟨k1, k2, h3⟩⟩
mutual
theorem Rep.mono {M M' : Addr → Prop} {w w' : World} (hs : Stay M w M' w') : ∀ {v : Value} {d : D}, Rep M w v d → Rep M' w' v d
  | _, _, .bool b => .bool b
  | _, _, .int k n => .int k n
  | _, _, .str s => .str s
  | _, _, .nilp => .nilp
  | _, _, .ep a us cs h hr => .ep a us cs (h.mono hs) (RepL.mono hs hr)
  | _, _, .sl p n cap us cs hn hz h hr => .sl p n cap us cs hn hz (fun a ha => (h a ha).mono hs) (RepL.mono hs hr)
  | _, _, .fn f vs us ds es h1 h2 => .fn f vs us ds es (RepL.mono hs h1) (RepL.mono hs h2)
  | _, _, .nilf => .nilf
  | _, _, .agg vs ds h h1 => .agg vs ds (RepL.mono hs h) h1
  | _, _, .tup vs ds h => .tup vs ds (RepL.mono hs h)
theorem RepL.mono {M M' : Addr → Prop} {w w' : World} (hs : Stay M w M' w') : ∀ {vs : List Value} {ds : List D}, RepL M w vs ds → RepL M' w' vs ds
  | _, _, .nil => .nil
  | _, _, .cons v d vs ds h t => .cons v d vs ds (Rep.mono hs h) (RepL.mono hs t)
end
theorem RepL.length {M : Addr → Prop} {w : World} : ∀ {vs : List Value} {ds : List D}, RepL M w vs ds → vs.length = ds.length
  | _, _, .nil => rfl
  | _, _, .cons _ _ _ _ _ t => by simp [RepL.length t]
theorem RepL.get {M : Addr → Prop} {w : World} : ∀ {vs : List Value} {ds : List D}, RepL M w vs ds → ∀ {j : Nat} {d : D}, ds[j]? = some d → ∃ v, vs[j]? = some v ∧ Rep M w v d
  | _, _, .nil, j, d, h => by simp at h
  | _, _, .cons v d' vs ds h t, 0, d, hj => by simp at hj; subst hj; exact ⟨v, rfl, h⟩
  | _, _, .cons v d' vs ds h t, j + 1, d, hj => by simp at hj; simpa using RepL.get t hj
theorem RepL.getV {M : Addr → Prop} {w : World} : ∀ {vs : List Value} {ds : List D}, RepL M w vs ds → ∀ {j : Nat} {v : Value}, vs[j]? = some v → ∃ d, ds[j]? = some d ∧ Rep M w v d
  | _, _, .nil, j, d, h => by simp at h
  | _, _, .cons v d' vs ds h t, 0, d, hj => by simp at hj; subst hj; exact ⟨d', rfl, h⟩
  | _, _, .cons v d' vs ds h t, j + 1, d, hj => by simp at hj; simpa using RepL.getV t hj
theorem RepL.of {M : Addr → Prop} {w : World} : ∀ {vs : List Value} {ds : List D}, vs.length = ds.length → (∀ (j : Nat) (v : Value) (d : D), vs[j]? = some v → ds[j]? = some d → Rep M w v d) → RepL M w vs ds
  | [], [], _, _ => .nil
  | v :: vs, d :: ds, hl, h => .cons _ _ _ _ (h 0 v d rfl rfl) (RepL.of (by simpa using hl) fun j v d h1 h2 => h (j + 1) v d (by simpa using h1) (by simpa using h2))
  | [], _ :: _, hl, _ => by simp at hl
  | _ :: _, [], hl, _ => by simp at hl
theorem RepL.append {M : Addr → Prop} {w : World} {vs us : List Value} {ds es : List D} (h : RepL M w vs ds) (h' : RepL M w us es) : RepL M w (vs ++ us) (ds ++ es) := by
  match vs, ds, h with
  | _, _, .nil => exact h'
  | _, _, .cons v d vs ds h t => exact .cons _ _ _ _ h (RepL.append t h')
theorem RepL.take {M : Addr → Prop} {w : World} {vs : List Value} {ds : List D} (h : RepL M w vs ds) (k : Nat) : RepL M w (vs.take k) (ds.take k) := by
  match vs, ds, h, k with
  | _, _, .nil, k => simpa using RepL.nil
  | _, _, .cons v d vs ds h t, 0 => exact .nil
  | _, _, .cons v d vs ds h t, k + 1 => exact .cons _ _ _ _ h (RepL.take t k)
theorem RepL.drop {M : Addr → Prop} {w : World} {vs : List Value} {ds : List D} (h : RepL M w vs ds) (k : Nat) : RepL M w (vs.drop k) (ds.drop k) := by
  match vs, ds, h, k with
  | _, _, .nil, k => simpa using RepL.nil
  | _, _, .cons v d vs ds h t, 0 => exact .cons _ _ _ _ h t
  | _, _, .cons v d vs ds h t, k + 1 => exact RepL.drop t k

theorem Addr.add_plain {a : Addr} (h : a.spot = none) (j : Nat) : a.add j = ⟨a.block, a.off + j, none⟩ := by
  obtain ⟨b, o, s⟩ := a
  simp at h
  subst h
  unfold Addr.add
  split <;> simp_all
theorem Cells.drop {M : Addr → Prop} {w : World} {a : Addr} {us : List Value} (h : Cells M w a us) (k : Nat) : Cells M w (a.add k) (us.drop k) := by
  by_cases hk : us.drop k = []
  · exact ⟨fun h => absurd hk h, fun j u hu => by simp [hk] at hu⟩
  have h0 : us ≠ [] := fun e => hk (by simp [e])
  have e := Addr.add_plain (h.1 h0)
  refine ⟨fun _ => by rw [e], fun j u hu => ?_⟩
  have := h.2 (k + j) u (by simpa using hu)
  rwa [Addr.add_plain (by rw [e]), e, Nat.add_assoc, ← e]
theorem Cells.take {M : Addr → Prop} {w : World} {a : Addr} {us : List Value} (h : Cells M w a us) (k : Nat) : Cells M w a (us.take k) :=
  ⟨fun h0 => h.1 fun e => h0 (by simp [e]), fun j u hu => h.2 j u (by rw [List.getElem?_take] at hu; split at hu; exact hu; cases hu)⟩
theorem cells_lt {M : Addr → Prop} {w : World} {a : Addr} {us : List Value} (h : Cells M w a us) (h0 : us ≠ []) : a.block < w.heap.size := by
  cases us with
  | nil => exact absurd rfl h0
  | cons u us =>
    exact World.block_lt_of_cell? w _ (h.2 0 u rfl).1

/-- What a slot holds. -/
inductive SV where
  | d (x : D)
  | loc (s off : Nat)
  | own (r n : Nat) (cs : List D)
  | nil
  | junk
/-- What a name of the call's own memory stands for. -/
inductive HO where
  | none
  | box (cs : List SV)
  | row (e : TypeId) (size n : Nat)
abbrev Frm := Nat → SV
abbrev Hp := Nat → HO
def upd (f : Frm) (t : Nat) (v : SV) : Frm := fun u => if u = t then v else f u
def hup (H : Hp) (t : Nat) (v : HO) : Hp := fun u => if u = t then v else H u

/-- The cells that may still be written. -/
def Mut (M0 : Addr → Prop) (H : Hp) (mu : Nat → Option Nat) (a : Addr) : Prop :=
  M0 a ∨ ∃ s, match H s with
    | .none => False
    | .box _ => mu s = some a.block
    | .row _ size n => mu s = some a.block ∧ n * size ≤ a.off

/-- v is the one slice that owns what lies behind its elements. -/
def Owner (mu : Nat → Option Nat) (w : World) (r : Nat) (v : Value) (e : TypeId) (size n : Nat) : Prop :=
  (v = .slice none 0 0 ∧ n = 0 ∧ mu r = none) ∨
  ∃ g cap cur, v = .slice (some ⟨g, 0, none⟩) n cap ∧ mu r = some g ∧ w.heap[g]? = some (.cells cur e (0, 0)) ∧ n ≤ cap ∧ cap ≤ maxLen ∧ cur.size = cap * size

def SRep (M0 : Addr → Prop) (H : Hp) (mu : Nat → Option Nat) (w : World) (v : Value) : SV → Prop
  | .d x => Rep (Mut M0 H mu) w v x
  | .loc s off => ∃ cs b, H s = .box cs ∧ mu s = some b ∧ v = .pointer (some ⟨b, off, none⟩)
  | .own r n cs => Rep (Mut M0 H mu) w v (.sl n cs) ∧ ∃ e size k, H r = .row e size k ∧ n ≤ k ∧ (n = k → cs.length = n * size ∧ Owner mu w r v e size n)
  | .nil => v = .slice none 0 0
  | .junk => True

/-- How memory may turn under the slots. -/
structure Turn (M0 : Addr → Prop) (H : Hp) (mu : Nat → Option Nat) (w : World) (H' : Hp) (mu' : Nat → Option Nat) (w' : World) : Prop where
  stay : Stay (Mut M0 H mu) w (Mut M0 H' mu') w'
  box : ∀ s cs, H s = .box cs → (∃ cs', H' s = .box cs') ∧ mu' s = mu s
  row : ∀ r e size k, H r = .row e size k → ∃ k', k ≤ k' ∧ H' r = .row e size k' ∧ (k' = k → mu' r = mu r ∧ ∀ g, mu r = some g → w'.heap[g]? = w.heap[g]?)

theorem SRep.turn {M0 : Addr → Prop} {H H' : Hp} {mu mu' : Nat → Option Nat} {w w' : World} (ht : Turn M0 H mu w H' mu' w') {v : Value} {x : SV} (h : SRep M0 H mu w v x) : SRep M0 H' mu' w' v x := by
  cases x with
  | d x => exact Rep.mono ht.stay h
  | loc s off =>
    obtain ⟨cs, b, h1, h2, rfl⟩ := h
    obtain ⟨⟨cs', h3⟩, h4⟩ := ht.box s cs h1
    exact ⟨cs', b, h3, h4.trans h2, rfl⟩
  | own r n cs =>
    obtain ⟨h0, e, size, k, h1, h2, h3⟩ := h
    obtain ⟨k', h4, h5, h6⟩ := ht.row r e size k h1
    refine ⟨Rep.mono ht.stay h0, e, size, k', h5, Nat.le_trans h2 h4, fun hk => ?_⟩
    obtain rfl : n = k := by omega
    obtain ⟨h7, h8⟩ := h6 hk.symm
    obtain ⟨h9, h3⟩ := h3 rfl
    refine ⟨h9, ?_⟩
    rcases h3 with ⟨a1, a2, a3⟩ | ⟨g, cap, cur, a1, a2, a3, a4, a5, a6⟩
    · exact .inl ⟨a1, a2, h7.trans a3⟩
    · exact .inr ⟨g, cap, cur, a1, h7.trans a2, (h8 g a2).trans a3, a4, a5, a6⟩
  | nil => exact h
  | junk => trivial
/-- The datum that a slot's value is to others. -/
def SV.toD : SV → Option D
  | .d x => some x
  | .own _ n cs => some (.sl n cs)
  | .nil => some (.sl 0 [])
  | _ => none
theorem SRep.toD {M0 : Addr → Prop} {H : Hp} {mu : Nat → Option Nat} {w : World} {v : Value} {x : SV} {y : D} (h : SRep M0 H mu w v x) (hd : x.toD = some y) : Rep (Mut M0 H mu) w v y := by
  cases x with
  | d x => simp [SV.toD] at hd; subst hd; exact h
  | own r n cs => simp [SV.toD] at hd; subst hd; exact h.1
  | loc s off => simp [SV.toD] at hd
  | nil =>
    simp [SV.toD] at hd
    subst hd
    rw [show v = .slice none 0 0 from h]
    exact .sl none 0 0 [] [] (Nat.le_refl _) (fun _ => ⟨rfl, rfl, rfl⟩) (fun a e => by cases e) .nil
  | junk => simp [SV.toD] at hd
end Go.Proofs.Ytandclggkgmpgaa
