/- The state of a call under the pure logic, and how each kind of step turns it. No condition beyond each lemma's own. -/
import Derived.Test.YtefiebkngpcaoaaDoorPA
set_option maxRecDepth 100000
set_option linter.unusedVariables false
set_option linter.unusedSimpArgs false
set_option linter.unusedSectionVars false
namespace Go.Proofs.YtefiebkngpcaoaaDoor
open Go.RowKit

/-- Old blocks that were not handed in by name lie as they lay. -/
structure BelowX (foot : Nat → Prop) (w w' : World) : Prop where
  os : w'.os = w.os
  tape : w'.tape = w.tape
  output : w'.output = w.output
  size : w.heap.size ≤ w'.heap.size
  block : ∀ k, k < w.heap.size → ¬ foot k → w'.heap[k]? = w.heap[k]?
theorem BelowX.refl (foot : Nat → Prop) (w : World) : BelowX foot w w := ⟨rfl, rfl, rfl, Nat.le_refl _, fun _ _ _ => rfl⟩
theorem BelowX.below {foot : Nat → Prop} {w w' : World} (h : BelowX foot w w') (hf : ∀ k, ¬ foot k) : Below w.heap.size w w' := ⟨h.os, h.tape, h.output, h.size, fun k hk => h.block k hk (hf k)⟩

/-- A call of yield: a round; whether it goes on. -/
def YieldGo (P : Program) (l : Nat) (args : Array Value) (W : World) (R : Bool → World → Prop) : Prop :=
  ∃ fn tmps assign body, (Instr.yield l args).run P W = .ok (.round l fn tmps assign body) W ∧ RoundIn Fence.wide 0 P l fn tmps assign body W fun e W' => ∃ b, e = .returned (.bool b) ∧ R b W'
/-- What stands around a call: the world at its start; the blocks handed in by name; whether old blocks stay; since when what is asked to be kept; what others' cells there were then; the slots that stay; the round; what those who are told of an iterator's parts have told. -/
structure Ctx where
  P : Program
  w : World
  foot : Nat → Prop
  pure : Prop
  c0 : Addr → Prop
  R : Addr → Prop
  w1 : World
  X : Addr → Prop
  fix : Nat → Bool
  tm : Array Value
  ro : Option Nat
  H0 : Hp
  mu0 : Nat → Option Nat
  fp : ∀ s, s < TR → H0 s = .none
  J : Nat → List (List D) → List (List D) → (Addr → Prop) → (Addr → Prop) → World → Prop
  Jx : (Addr → Prop) → (Addr → Prop) → World → Prop
  jst : ∀ l pre rest Mc Mi Mi' w w', J l pre rest Mc Mi w → Keep Mi w Mi' w' → (∀ x, Mi' x → x.block < w'.heap.size) → J l pre rest Mc Mi' w'
  jxst : ∀ Mc Mi Mi' w w', Jx Mc Mi w → Keep Mi w Mi' w' → (∀ x, Mi' x → x.block < w'.heap.size) → Jx Mc Mi' w'
  hy : ∀ l pre x rest Mc Mi W (args : Array Value), J l pre (x :: rest) Mc Mi W → RepL (fun a => Mc a ∨ Mi a) W args.toList x →
    YieldGo P l args W fun b W' => ∃ Mc', Keep Mc W Mc' W' ∧ (∀ x, Mc' x → x.block < W'.heap.size) ∧ if b then J l (pre ++ [x]) rest Mc' Mi W' else Jx Mc' Mi W'
/-- What an iterator may write. -/
def Mine (M0 : MM) (H : Hp) (mu : Nat → Option Nat) (a : Addr) : Prop := M0.x a ∨ Named H mu a
/-- The marks of the loops over iterators. -/
def MarkOk (M0 : MM) (C : Ctx) (w : World) (d : Deferred) : Prop :=
  ∃ D, d = { target := .collected D, args := #[] } ∧ C.w.heap.size ≤ D ∧ w.heap[D]? = some (.deferred (some [])) ∧ ∀ y : Addr, y.block = D → M0.x y
/-- What may have turned since. -/
def MN (C : Ctx) (M0 : MM) (H : Hp) (mu : Nat → Option Nat) (y : Addr) : Prop := M0.c y ∨ Named H mu y ∨ (M0.x y ∧ C.w1.heap.size ≤ y.block)

structure StM (N : Nat) (M0 : MM) (C : Ctx) (f : Frm) (H : Hp) (mu : Nat → Option Nat) (a : Act) (w : World) : Prop where
  marks : ∀ d ∈ a.defers, MarkOk M0 C w d
  nodup : a.defers.Nodup
  rdef : C.ro ≠ Option.none → a.defers = []
  size : a.tmps.size = N
  nle : N ≤ TR
  slots : ∀ t, t < N → SRep M0 H mu w (a.tmps.getD t undef) (f t)
  base : C.w.heap.size ≤ w.heap.size
  osq : w.os = C.w.os ∧ w.tape = C.w.tape ∧ w.output = C.w.output
  below : C.pure → BelowX C.foot C.w w
  cp : C.pure → M0.c = C.c0
  keep : Keep C.R C.w1 (MN C M0 H mu) w
  xeq : ∀ y : Addr, y.block < C.w1.heap.size → (M0.x y ↔ C.X y)
  xc : ∀ x, M0.x x → ∀ y : Addr, y.block = x.block → ¬ M0.c y
  old : ∀ x, M0.all x → x.block < w.heap.size
  sep : ∀ s b, H s ≠ .none → mu s = some b → ∀ x : Addr, x.block = b → ¬ M0.all x
  box : ∀ s cs, H s = .box cs → ∃ b arr e, mu s = some b ∧ (C.w.heap.size ≤ b ∨ C.foot b) ∧ w.heap[b]? = some (.cells arr e (0, 0)) ∧ arr.size = cs.length ∧
    ∀ j x, cs[j]? = some x → SRep M0 H mu w (arr.getD j undef) x ∧ (arr.getD j undef).oneCell' = true
  row : ∀ r e size k, H r = .row e size k → mu r = none ∨ ∃ g, mu r = some g ∧ C.w.heap.size ≤ g ∧ g < w.heap.size
  vec : ∀ r e sz ver cs, H r = .vec e sz ver cs → (mu r = none ∧ cs = []) ∨ ∃ g cur, mu r = some g ∧ (C.w.heap.size ≤ g ∨ C.foot g) ∧ w.heap[g]? = some (.cells cur e (0, 0)) ∧ cs.length ≤ cur.size ∧ (∀ u ∈ cur.toList, u.oneCell' = true) ∧
    ∀ j x, cs[j]? = some x → SRep M0 H mu w (cur.getD j undef) x
  inj : ∀ s s' b, H s ≠ .none → H s' ≠ .none → mu s = some b → mu s' = some b → s = s'
  same : ∀ t, C.fix t = true → a.tmps.getD t undef = C.tm.getD t undef
  tr : ∀ l pre rest, f TR = .trace l pre rest → ¬ C.pure ∧ C.J l pre rest M0.c (Mine M0 H mu) w
  st : f TR = .stop → ¬ C.pure ∧ C.Jx M0.c (Mine M0 H mu) w
  rnd : ∀ l, C.ro = some l → (∃ r, w.heap[l]? = some (.loop r)) ∧ ∀ y : Addr, y.block = l → M0.x y
  mono : Steps C.H0 C.mu0 C.w H mu w
  gl : Globs (Mut M0 H mu) w
def St (N : Nat) (C : Ctx) (f : Frm) (H : Hp) (a : Act) (w : World) : Prop := ∃ M0 mu, StM N M0 C f H mu a w

def updo (f : Frm) (dst : Option Tmp) (x : SV) : Frm := match dst with | some t => upd f t x | none => f
section
variable {N : Nat} {M0 : MM} {w0 : Ctx} {w w' : World} {f f' : Frm} {H H' : Hp} {mu mu' : Nat → Option Nat} {a a' : Act}

theorem put_getD (a : Act) (d t : Nat) (v : Value) (hd : d < a.tmps.size) : (a.put (some d) v).tmps.getD t undef = if t = d then v else a.tmps.getD t undef := by
  simp only [Act.put]
  by_cases h : t = d
  · subst h; simp [hd]
  · simp [h, Array.getElem?_setIfInBounds_ne (Ne.symm h)]
theorem put_size (a : Act) (dst : Option Tmp) (v : Value) : (a.put dst v).tmps.size = a.tmps.size := by cases dst <;> simp [Act.put]
theorem put_defers (a : Act) (dst : Option Tmp) (v : Value) : (a.put dst v).defers = a.defers := by cases dst <;> rfl

theorem StM.named_lt (h : StM N M0 w0 f H mu a w) {x : Addr} (hx : Named H mu x) : (w0.w.heap.size ≤ x.block ∨ w0.foot x.block) ∧ x.block < w.heap.size := by
  obtain ⟨s, hs⟩ := hx
  cases hh : H s with
  | none => rw [hh] at hs; exact hs.elim
  | box cs =>
    rw [hh] at hs
    obtain ⟨b', arr, e, h1, h2, h3, _⟩ := h.box s cs hh
    have := hs.symm.trans h1
    cases this
    exact ⟨h2, (Array.getElem?_eq_some_iff.1 h3).1⟩
  | row e size k =>
    rw [hh] at hs
    rcases h.row s e size k hh with h1 | ⟨g, h1, h2, h3⟩
    · have := hs.1.symm.trans h1; cases this
    · have := hs.1.symm.trans h1; cases this; exact ⟨.inl h2, h3⟩
  | vec e sz ver cs =>
    rw [hh] at hs
    rcases h.vec s e sz ver cs hh with h1 | ⟨g, cur, h1, h2, h3, _⟩
    · have := hs.symm.trans h1.1; cases this
    · have := hs.symm.trans h1; cases this; exact ⟨h2, (Array.getElem?_eq_some_iff.1 h3).1⟩
theorem StM.mut_lt (h : StM N M0 w0 f H mu a w) {x : Addr} (hx : Mut M0 H mu x) : x.block < w.heap.size := hx.elim (h.old x) fun h1 => (h.named_lt h1).2
theorem StM.mu_lt (h : StM N M0 w0 f H mu a w) {s b : Nat} (hs : H s ≠ .none) (hm : mu s = some b) : b < w.heap.size := by
  cases hh : H s with
  | none => exact absurd hh hs
  | box cs =>
    obtain ⟨b', arr, e, h1, h2, h3, _⟩ := h.box s cs hh
    rw [hm] at h1; cases h1
    exact (Array.getElem?_eq_some_iff.1 h3).1
  | row e size k =>
    rcases h.row s e size k hh with h1 | ⟨g, h1, h2, h3⟩
    · rw [hm] at h1; cases h1
    · rw [hm] at h1; cases h1
      exact h3
  | vec e sz ver cs =>
    rcases h.vec s e sz ver cs hh with h1 | ⟨g, cur, h1, h2, h3, _⟩
    · rw [hm] at h1; cases h1.1
    · rw [hm] at h1; cases h1
      exact (Array.getElem?_eq_some_iff.1 h3).1

/-- A block in which others may write bears no name. -/
theorem StM.not_named (h : StM N M0 w0 f H mu a w) {x : Addr} (hx : M0.all x) {y : Addr} (hy : y.block = x.block) : ¬ Named H mu y := by
  rintro ⟨s, hs⟩
  cases hh : H s with
  | none => rw [hh] at hs; exact hs
  | box cs => rw [hh] at hs; exact h.sep s _ (by rw [hh]; simp) hs x hy.symm hx
  | row e size k => rw [hh] at hs; exact h.sep s _ (by rw [hh]; simp) hs.1 x hy.symm hx
  | vec e sz ver cs => rw [hh] at hs; exact h.sep s _ (by rw [hh]; simp) hs x hy.symm hx
/-- What is kept since some time goes on through a step of one's own. -/
theorem keep_own {R : Addr → Prop} {w1 : World} (hk : Keep R w1 (MN w0 M0 H mu) w) (own : Keep (Named H mu) w (Named H' mu') w') : Keep R w1 (MN w0 M0 H' mu') w' where
  os := own.os.trans hk.os
  tape := own.tape.trans hk.tape
  output := own.output.trans hk.output
  size := Nat.le_trans hk.size own.size
  cell := fun x u h1 h2 => by
    obtain ⟨g1, g2⟩ := hk.cell x u h1 h2
    have ⟨k1, k2⟩ := own.cell x u g1 fun h3 => g2 (.inr (.inl h3))
    exact ⟨k1, fun h3 => h3.elim (fun h4 => g2 (.inl h4)) fun h4 => h4.elim k2 fun h5 => g2 (.inr (.inr h5))⟩
  blk := fun b hb hm => by
    obtain ⟨g1, g2⟩ := hk.blk b hb hm
    obtain ⟨k1, k2⟩ := own.blk b (Nat.lt_of_lt_of_le hb hk.size) fun y hy h3 => g2 y hy (.inr (.inl h3))
    exact ⟨k1.trans g1, fun y hy h3 => h3.elim (fun h4 => g2 y hy (.inl h4)) fun h4 => h4.elim (k2 y hy) fun h5 => g2 y hy (.inr (.inr h5))⟩
theorem keep_mine (own : Keep (Named H mu) w (Named H' mu') w') : Keep (Mine M0 H mu) w (Mine M0 H' mu') w' :=
  ⟨own.os, own.tape, own.output, own.size, fun x u h1 h2 => have ⟨g1, g2⟩ := own.cell x u h1 fun h => h2 (.inr h); ⟨g1, fun h => h.elim (fun h => h2 (.inl h)) g2⟩,
    fun b hb hm => have ⟨g1, g2⟩ := own.blk b hb fun y hy h => hm y hy (.inr h); ⟨g1, fun y hy h => h.elim (fun h => hm y hy (.inl h)) (g2 y hy)⟩⟩

/-- A step of one's own: what its lemma owes, and no more. -/
theorem StM.move (h : StM N M0 w0 f H mu a w) (own : Keep (Named H mu) w (Named H' mu') w') (hsteps : Steps H mu w H' mu' w') (hdef : a'.defers = a.defers) (hsize : a'.tmps.size = N)
    (hnew : ∀ s b, H' s ≠ .none → mu' s = some b → (∃ s0, H s0 ≠ .none ∧ mu s0 = some b) ∨ w.heap.size ≤ b)
    (hslots : ∀ t, t < N → SRep M0 H' mu' w' (a'.tmps.getD t undef) (f' t))
    (hbox : ∀ s cs, H' s = .box cs → ∃ b arr e, mu' s = some b ∧ (w0.w.heap.size ≤ b ∨ w0.foot b) ∧ w'.heap[b]? = some (.cells arr e (0, 0)) ∧ arr.size = cs.length ∧
      ∀ j x, cs[j]? = some x → SRep M0 H' mu' w' (arr.getD j undef) x ∧ (arr.getD j undef).oneCell' = true)
    (hrow : ∀ r e size k, H' r = .row e size k → mu' r = none ∨ ∃ g, mu' r = some g ∧ w0.w.heap.size ≤ g ∧ g < w'.heap.size)
    (hvec : ∀ r e sz ver cs, H' r = .vec e sz ver cs → (mu' r = none ∧ cs = []) ∨ ∃ g cur, mu' r = some g ∧ (w0.w.heap.size ≤ g ∨ w0.foot g) ∧ w'.heap[g]? = some (.cells cur e (0, 0)) ∧ cs.length ≤ cur.size ∧ (∀ u ∈ cur.toList, u.oneCell' = true) ∧
      ∀ j x, cs[j]? = some x → SRep M0 H' mu' w' (cur.getD j undef) x)
    (hinj : ∀ s s' b, H' s ≠ .none → H' s' ≠ .none → mu' s = some b → mu' s' = some b → s = s')
    (hsame : ∀ t, w0.fix t = true → a'.tmps.getD t undef = a.tmps.getD t undef) (hTR : f' TR = f TR ∨ f' TR = .junk ∨ ∃ x, f' TR = .d x) : StM N M0 w0 f' H' mu' a' w' := by
  have hlt' : ∀ x, Named H' mu' x → x.block < w'.heap.size := by
    rintro x ⟨s, hs⟩
    cases hh : H' s with
    | none => rw [hh] at hs; exact hs.elim
    | box cs =>
      rw [hh] at hs
      obtain ⟨b', arr, e, h1, h2, h3, _⟩ := hbox s cs hh
      have := hs.symm.trans h1
      cases this
      exact (Array.getElem?_eq_some_iff.1 h3).1
    | row e size k =>
      rw [hh] at hs
      rcases hrow s e size k hh with h1 | ⟨g, h1, h2, h3⟩
      · have := hs.1.symm.trans h1; cases this
      · have := hs.1.symm.trans h1; cases this; exact h3
    | vec e sz ver cs =>
      rw [hh] at hs
      rcases hvec s e sz ver cs hh with h1 | ⟨g, cur, h1, h2, h3, _⟩
      · have := hs.symm.trans h1.1; cases this
      · have := hs.symm.trans h1; cases this; exact (Array.getElem?_eq_some_iff.1 h3).1
  have hold : ∀ x, M0.all x → x.block < w'.heap.size := fun x hx => Nat.lt_of_lt_of_le (h.old x hx) own.size
  have hmine : ∀ x, Mine M0 H' mu' x → x.block < w'.heap.size := fun x hx => hx.elim (fun h1 => hold x (.inr h1)) (hlt' x)
  refine ⟨fun d hd => ?_, by rw [hdef]; exact h.nodup, fun h1 => hdef.trans (h.rdef h1), hsize, h.nle, hslots, Nat.le_trans h.base own.size, ⟨own.os.trans h.osq.1, own.tape.trans h.osq.2.1, own.output.trans h.osq.2.2⟩, fun hp => ?_, h.cp, keep_own h.keep own, h.xeq, h.xc, hold,
    fun s b hs hm x hx => ?_, hbox, hrow, hvec, hinj, fun t ht => (hsame t ht).trans (h.same t ht), fun l pre rest ht => ?_, fun ht => ?_, fun l hl => ?_, h.mono.trans w0.fp hsteps, h.gl.mono own.cell.mut⟩
  · rw [hdef] at hd
    obtain ⟨D, e1, e2, e3, e4⟩ := h.marks d hd
    obtain ⟨k1, k2⟩ := own.blk D (Array.getElem?_eq_some_iff.1 e3).1 fun y hy hn => h.not_named (.inr (e4 y hy)) rfl hn
    exact ⟨D, e1, e2, k1.trans e3, e4⟩
  · have hb := h.below hp
    refine ⟨own.os.trans hb.os, own.tape.trans hb.tape, own.output.trans hb.output, Nat.le_trans hb.size own.size, fun k hk hf => ?_⟩
    exact (own.blk k (Nat.lt_of_lt_of_le hk hb.size) fun y hy hn => by
      have := (h.named_lt hn).1
      rw [hy] at this
      exact this.elim (fun h => by omega) hf).1.trans (hb.block k hk hf)
  · rcases hnew s b hs hm with ⟨s0, g1, g2⟩ | hge
    · exact h.sep s0 b g1 g2 x hx
    · intro hx2
      have := h.old x hx2
      omega
  · rcases hTR with hT | hT | ⟨x, hT⟩
    · exact ⟨(h.tr l pre rest (hT.symm.trans ht)).1, w0.jst _ _ _ _ _ _ _ _ (h.tr l pre rest (hT.symm.trans ht)).2 (keep_mine own) hmine⟩
    · rw [hT] at ht; cases ht
    · rw [hT] at ht; cases ht
  · rcases hTR with hT | hT | ⟨x, hT⟩
    · exact ⟨(h.st (hT.symm.trans ht)).1, w0.jxst _ _ _ _ _ (h.st (hT.symm.trans ht)).2 (keep_mine own) hmine⟩
    · rw [hT] at ht; cases ht
    · rw [hT] at ht; cases ht
  · obtain ⟨⟨r, g1⟩, g2⟩ := h.rnd l hl
    obtain ⟨k1, k2⟩ := own.blk l (Array.getElem?_eq_some_iff.1 g1).1 fun y hy hn => h.not_named (.inr (g2 y hy)) rfl hn
    exact ⟨⟨r, k1.trans g1⟩, g2⟩

/-- The slots behind one operation. -/
theorem StM.slots_put {dst : Option Tmp} (hd : ∀ d, dst = some d → d < N ∧ w0.fix d = false) (hs : a.tmps.size = N) (hsl : ∀ t, t < N → SRep M0 H mu w (a.tmps.getD t undef) (f t)) {v : Value} {x : SV} (hv : SRep M0 H mu w v x) :
    ∀ t, t < N → SRep M0 H mu w ((a.put dst v).tmps.getD t undef) (updo f dst x t) := by
  intro t ht
  cases dst with
  | none => exact hsl t ht
  | some d =>
    rw [put_getD a d t v (by rw [hs]; exact (hd d rfl).1)]
    simp only [updo, upd]
    split
    · exact hv
    · exact hsl t ht
/-- A step that leaves the world and the names alone. -/
theorem StM.put (h : StM N M0 w0 f H mu a w) {dst : Option Tmp} (hd : ∀ d, dst = some d → d < N ∧ w0.fix d = false) {v : Value} {x : SV} (hv : SRep M0 H mu w v x) : StM N M0 w0 (updo f dst x) H mu (a.put dst v) w := by
  have hT : updo f dst x TR = f TR := by
    cases dst with
    | none => rfl
    | some d =>
      have h1 := (hd d rfl).1
      have h2 : N ≤ 1000000 := h.nle
      have h3 : (1000000 : Nat) ≠ d := Nat.ne_of_gt (Nat.lt_of_lt_of_le h1 h2)
      simp only [updo, upd]
      exact if_neg h3
  exact { h with
    marks := by rw [put_defers]; exact h.marks
    nodup := by rw [put_defers]; exact h.nodup
    rdef := by rw [put_defers]; exact h.rdef
    size := by rw [put_size]; exact h.size
    slots := StM.slots_put hd h.size h.slots hv
    same := fun t ht => by
      cases dst with
      | none => exact h.same t ht
      | some d =>
        obtain ⟨h1, h2⟩ := hd d rfl
        rw [put_getD a d t v (by rw [h.size]; exact h1), if_neg (by intro e; subst e; rw [h2] at ht; cases ht)]
        exact h.same t ht
    tr := fun l pre rest ht => h.tr l pre rest (hT.symm.trans ht)
    st := fun ht => h.st (hT.symm.trans ht) }

/-- A world that only grows, the names the same. -/
theorem Turn.grow {w w' : World} (hb : Below w.heap.size w w') (hr : ∀ r e size k g, H r = .row e size k → mu r = some g → g < w.heap.size) : Turn M0 H mu w H mu w' where
  vec := fun r e sz ver cs h => ⟨ver, cs, h, Nat.le_refl _, fun _ => ⟨rfl, rfl, fun g cur e' _ hg => ⟨cur, (hb.block g (Array.getElem?_eq_some_iff.1 hg).1).trans hg, rfl⟩⟩⟩
  own := Keep.below hb
  box := fun s cs h => ⟨⟨cs, h⟩, rfl⟩
  row := fun r e size k h => ⟨k, Nat.le_refl _, h, fun _ => ⟨rfl, fun g hg => hb.block g (hr r e size k g h hg)⟩⟩
theorem StM.turn_grow (h : StM N M0 w0 f H mu a w) (hx : Below w.heap.size w w') : Turn M0 H mu w H mu w' := Turn.grow hx fun r e size k g h1 h2 => h.mu_lt (by rw [h1]; simp) h2
/-- Names of cells written here and there that a step leaves alone. -/
theorem StM.vecs (h : StM N M0 w0 f H mu a w) (ht : Turn M0 H mu w H' mu' w') (hv : ∀ r e sz ver cs, H' r = .vec e sz ver cs → H r = .vec e sz ver cs ∧ mu' r = mu r ∧ ∀ g, mu r = some g → w'.heap[g]? = w.heap[g]?) :
    ∀ r e sz ver cs, H' r = .vec e sz ver cs → (mu' r = none ∧ cs = []) ∨ ∃ g cur, mu' r = some g ∧ (w0.w.heap.size ≤ g ∨ w0.foot g) ∧ w'.heap[g]? = some (.cells cur e (0, 0)) ∧ cs.length ≤ cur.size ∧ (∀ u ∈ cur.toList, u.oneCell' = true) ∧
      ∀ j x, cs[j]? = some x → SRep M0 H' mu' w' (cur.getD j undef) x := fun r e sz ver cs hr => by
  obtain ⟨h1, h2, h3⟩ := hv r e sz ver cs hr
  rcases h.vec r e sz ver cs h1 with ⟨k1, k2⟩ | ⟨g, cur, k1, k2, k3, k4, k5, k6⟩
  · exact .inl ⟨h2.trans k1, k2⟩
  · exact .inr ⟨g, cur, h2.trans k1, k2, (h3 g k1).trans k3, k4, k5, fun j x hj => (k6 j x hj).turn ht⟩
theorem StM.grow (h : StM N M0 w0 f H mu a w) (hx : Below w.heap.size w w') : StM N M0 w0 f H mu a w' := by
  have ht : Turn M0 H mu w H mu w' := h.turn_grow hx
  refine h.move ht.own (Steps.of ht fun s hs => .inl hs) rfl h.size (fun s b h1 h2 => .inl ⟨s, h1, h2⟩) (fun t ht' => (h.slots t ht').turn ht) ?_ ?_ (h.vecs ht fun r e sz ver cs hr => ⟨hr, rfl, fun g hg => hx.block g (h.mu_lt (by rw [hr]; simp) hg)⟩) h.inj (fun _ _ => rfl) (.inl rfl)
  · intro s cs hs
    obtain ⟨b, arr, e, h1, h2, h3, h4, h5⟩ := h.box s cs hs
    exact ⟨b, arr, e, h1, h2, (hx.block b (Array.getElem?_eq_some_iff.1 h3).1).trans h3, h4, fun j x hj => ⟨(h5 j x hj).1.turn ht, (h5 j x hj).2⟩⟩
  · intro r e size k hr
    rcases h.row r e size k hr with h1 | ⟨g, h1, h2, h3⟩
    · exact .inl h1
    · exact .inr ⟨g, h1, h2, Nat.lt_of_lt_of_le h3 hx.size⟩
theorem StM.drew (h : StM N M0 w0 f H mu a w) : StM N M0 w0 f H mu a w.drew := h.grow (Below.refl _ _).drew

theorem named_new {s : Nat} (o : HO) (b : Option Nat) {x : Addr} (hx : Named (hup H s o) (fun t => if t = s then b else mu t) x) : Named H mu x ∨ b = some x.block := by
  obtain ⟨t, h3⟩ := hx
  by_cases hts : t = s
  · subst hts
    simp only [hup, if_true] at h3
    split at h3
    · exact h3.elim
    · exact .inr h3
    · exact .inr h3.1
    · exact .inr h3
  · simp only [hup, hts, if_false] at h3
    exact .inl ⟨t, h3⟩
theorem Turn.new (h : StM N M0 w0 f H mu a w) {s : Nat} (hs : H s = .none) (o : HO) (b : Option Nat) (hb : ∀ x, b = some x → w.heap.size ≤ x) (hw : Below w.heap.size w w') :
    Turn M0 H mu w (hup H s o) (fun t => if t = s then b else mu t) w' where
  own := by
    refine ⟨hw.os, hw.tape, hw.output, hw.size, fun x u h1 h2 => ?_, fun k hk hm => ⟨hw.block k hk, fun y hy hn => ?_⟩⟩
    · have hlt := World.block_lt_of_cell? w x h1
      refine ⟨(World.cell?_of_block (hw.block _ hlt)).trans h1, fun h3 => ?_⟩
      rcases named_new o b h3 with h4 | h4
      · exact h2 h4
      · have := hb _ h4; omega
    · rcases named_new o b hn with h4 | h4
      · exact hm y hy h4
      · have := hb _ h4; omega
  box := by
    intro t cs ht
    have hts : t ≠ s := by intro e; subst e; rw [hs] at ht; cases ht
    exact ⟨⟨cs, by simp [hup, hts, ht]⟩, by simp [hts]⟩
  row := by
    intro t e size k ht
    have hts : t ≠ s := by intro e; subst e; rw [hs] at ht; cases ht
    refine ⟨k, Nat.le_refl _, by simp [hup, hts, ht], fun _ => ⟨by simp [hts], fun g hg => hw.block g ?_⟩⟩
    exact h.mu_lt (by rw [ht]; simp) hg
  vec := by
    intro t e sz ver cs ht
    have hts : t ≠ s := by intro e; subst e; rw [hs] at ht; cases ht
    exact ⟨ver, cs, by simp [hup, hts, ht], Nat.le_refl _, fun _ => ⟨rfl, by simp [hts], fun g cur e' _ hg => ⟨cur, (hw.block g (Array.getElem?_eq_some_iff.1 hg).1).trans hg, rfl⟩⟩⟩

theorem hup_new {s t : Nat} {o : HO} (hsT : s < TR) (h1 : H t = .none) : hup H s o t = .none ∨ t < TR := by
  by_cases h : t = s
  · subst h; exact .inr hsT
  · exact .inl (by simp [hup, h, h1])
/-- The rest of the state when a name is laid anew. -/
theorem StM.new (h : StM N M0 w0 f H mu a w) {s : Nat} (hs : H s = .none) (hsT : s < TR) (o : HO) (b : Option Nat) (hb : ∀ x, b = some x → w.heap.size ≤ x ∧ x < w'.heap.size) (hx : Below w.heap.size w w')
    (hbox : ∀ cs, o = .box cs → ∃ b' arr e, b = some b' ∧ w'.heap[b']? = some (.cells arr e (0, 0)) ∧ arr.size = cs.length ∧
      ∀ j x, cs[j]? = some x → SRep M0 (hup H s o) (fun t => if t = s then b else mu t) w' (arr.getD j undef) x ∧ (arr.getD j undef).oneCell' = true)
    (hvec : ∀ e sz ver cs, o = .vec e sz ver cs → (b = none ∧ cs = []) ∨ ∃ g cur, b = some g ∧ w'.heap[g]? = some (.cells cur e (0, 0)) ∧ cs.length ≤ cur.size ∧ (∀ u ∈ cur.toList, u.oneCell' = true) ∧
      ∀ j x, cs[j]? = some x → SRep M0 (hup H s o) (fun t => if t = s then b else mu t) w' (cur.getD j undef) x := by intro e sz ver cs h; cases h) :
    StM N M0 w0 f (hup H s o) (fun t => if t = s then b else mu t) a w' := by
  have ht : Turn M0 H mu w (hup H s o) (fun t => if t = s then b else mu t) w' := Turn.new h hs o b (fun x e => (hb x e).1) hx
  refine h.move ht.own (Steps.of ht fun t h1 => hup_new hsT h1) rfl h.size ?_ (fun t ht' => (h.slots t ht').turn ht) ?_ ?_ (fun t e sz ver cs ht2 => ?_) ?_ (fun _ _ => rfl) (.inl rfl)
  rotate_left 3
  · by_cases hts : t = s
    · subst hts
      simp only [hup, if_true] at ht2
      rcases hvec e sz ver cs ht2 with ⟨k1, k2⟩ | ⟨g, cur, k1, k2⟩
      · exact .inl ⟨by simp [k1], k2⟩
      · exact .inr ⟨g, cur, by simp [k1], .inl (Nat.le_trans h.base (hb g k1).1), k2⟩
    · simp only [hup, hts, if_false] at ht2
      rcases h.vec t e sz ver cs ht2 with ⟨k1, k2⟩ | ⟨g, cur, k1, k2, k3, k4, k5, k6⟩
      · exact .inl ⟨by simp [hts, k1], k2⟩
      · exact .inr ⟨g, cur, by simp [hts, k1], k2, (hx.block g (Array.getElem?_eq_some_iff.1 k3).1).trans k3, k4, k5, fun j x hj => (k6 j x hj).turn ht⟩
  rotate_left 1
  · intro t b' h1 h2
    by_cases hts : t = s
    · subst hts
      simp only [if_true] at h2
      exact .inr (hb b' h2).1
    · simp only [hup, hts, if_false] at h1 h2
      exact .inl ⟨t, h1, h2⟩
  · intro t cs hcs
    by_cases hts : t = s
    · subst hts
      simp only [hup, if_true] at hcs
      obtain ⟨b', arr, e, h1, h2, h3, h4⟩ := hbox cs hcs
      exact ⟨b', arr, e, by simp [h1], .inl (Nat.le_trans h.base (hb b' h1).1), h2, h3, h4⟩
    · simp only [hup, hts, if_false] at hcs
      obtain ⟨b', arr, e, h1, h2, h3, h4, h5⟩ := h.box t cs hcs
      exact ⟨b', arr, e, by simp [hts, h1], h2, (hx.block b' (Array.getElem?_eq_some_iff.1 h3).1).trans h3, h4, fun j x hj => ⟨(h5 j x hj).1.turn ht, (h5 j x hj).2⟩⟩
  · intro t e size k hr
    by_cases hts : t = s
    · subst hts
      simp only [if_true]
      cases b with
      | none => exact .inl rfl
      | some x => exact .inr ⟨x, rfl, Nat.le_trans h.base (hb x rfl).1, (hb x rfl).2⟩
    · simp only [hup, hts, if_false] at hr ⊢
      rcases h.row t e size k hr with h1 | ⟨g, h1, h2, h3⟩
      · exact .inl h1
      · exact .inr ⟨g, h1, h2, Nat.lt_of_lt_of_le h3 hx.size⟩
  · intro t t' x h1 h2 h3 h4
    by_cases hts : t = s <;> by_cases hts' : t' = s
    · exact hts.trans hts'.symm
    · simp only [hup, hts, hts', if_true, if_false] at h1 h2 h3 h4
      have := h.mu_lt h2 h4
      have := (hb x h3).1
      omega
    · simp only [hup, hts, hts', if_true, if_false] at h1 h2 h3 h4
      have := h.mu_lt h1 h3
      have := (hb x h4).1
      omega
    · simp only [hup, hts, hts', if_false] at h1 h2 h3 h4
      exact h.inj t t' x h1 h2 h3 h4
end
end Go.Proofs.YtefiebkngpcaoaaDoor
