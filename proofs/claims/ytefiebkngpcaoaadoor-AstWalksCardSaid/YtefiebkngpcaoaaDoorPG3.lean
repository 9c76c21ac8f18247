/- The pure logic over others' steps: what an iterator does under its caller, a caller's round under its iterator. No condition beyond each lemma's own. -/
import Derived.Test.YtefiebkngpcaoaaDoorPG2
import Derived.RangeFuncNested
set_option maxRecDepth 100000
set_option linter.unusedVariables false
set_option linter.unusedSimpArgs false
set_option linter.unusedSectionVars false
namespace Go.Proofs.YtefiebkngpcaoaaDoor
open Go.RowKit
section
variable {P : Program} {N : Nat} {M0 M0' : MM} {C : Ctx} {w w' : World} {f f' : Frm} {H H' : Hp} {mu mu' : Nat → Option Nat} {a a' : Act}

theorem SRep.others (hst : Stay (Mut M0 H mu) w (Mut M0' H mu) w') (hb : ∀ s b, H s ≠ .none → mu s = some b → w'.heap[b]? = w.heap[b]?) {v : Value} {x : SV} (h : SRep M0 H mu w v x) : SRep M0' H mu w' v x := by
  have sal : ∀ {vs : List Value} {xs : List SA}, SAL M0 H mu w vs xs → SAL M0' H mu w' vs xs := fun h => ⟨h.1, fun j v x h1 h2 => by
    have := h.2 j v x h1 h2
    cases x with
    | d x => exact Rep.mono hst this
    | loc s off => exact this⟩
  cases x with
  | d x => exact Rep.mono hst h
  | own r n cs =>
    obtain ⟨h0, e, size, k, h1, h2, h3⟩ := h
    refine ⟨Rep.mono hst h0, e, size, k, h1, h2, fun hk => ?_⟩
    obtain ⟨h4, h5⟩ := h3 hk
    refine ⟨h4, ?_⟩
    rcases h5 with h5 | ⟨g, cap, cur, a1, a2, a3, a4⟩
    · exact .inl h5
    · exact .inr ⟨g, cap, cur, a1, a2, (hb r g (by rw [h1]; simp) a2).trans a3, a4⟩
  | clo g first cap =>
    obtain ⟨vs, us, h1, h2, h3⟩ := h
    exact ⟨vs, us, h1, sal h2, sal h3⟩
  | loc s off => exact h
  | bs s off n cap => exact h
  | vec r ver n =>
    obtain ⟨h0, e, sz, ver1, cs, h1, h2, h3⟩ := h
    refine ⟨h0, e, sz, ver1, cs, h1, h2, fun hv => ?_⟩
    obtain ⟨g1, g2⟩ := h3 hv
    refine ⟨g1, ?_⟩
    rcases g2 with g2 | ⟨g, cap, cur, e', a1, a2, a3, a4⟩
    · exact .inl g2
    · exact .inr ⟨g, cap, cur, e', a1, a2, (hb r g (by rw [h1]; simp) a2).trans a3, a4⟩
  | vptr r ver off => exact h
  | nil => exact h
  | yld l => exact h
  | trace l pre rest => trivial
  | stop => trivial
  | junk => trivial

/-- A round of the caller's, seen by the iterator. -/
theorem StM.yielded (h : StM N M0 C f H mu a w) (hp : ¬ C.pure) {Mc' : Addr → Prop} (kp : Keep M0.c w Mc' w') (hbd : ∀ x, Mc' x → x.block < w'.heap.size) (hf : ∀ t, t < N → f' t = f t)
    (htr : ∀ l pre rest, f' TR = .trace l pre rest → C.J l pre rest Mc' (Mine M0 H mu) w') (hst : f' TR = .stop → C.Jx Mc' (Mine M0 H mu) w') : StM N ⟨Mc', M0.x⟩ C f' H mu a w' := by
  have hstay : Stay (Mut M0 H mu) w (Mut ⟨Mc', M0.x⟩ H mu) w' := fun y u h1 h2 => by
    obtain ⟨g1, g2⟩ := kp.cell y u h1 fun h3 => h2 (.inl (.inl h3))
    exact ⟨g1, fun h3 => h3.elim (fun h4 => h4.elim g2 fun h5 => h2 (.inl (.inr h5))) fun h4 => h2 (.inr h4)⟩
  have hnb : ∀ s b, H s ≠ .none → mu s = some b → w'.heap[b]? = w.heap[b]? ∧ ∀ y : Addr, y.block = b → ¬ Mc' y := fun s b h1 h2 => kp.blk b (h.mu_lt h1 h2) fun y hy h3 => h.sep s b h1 h2 y hy (.inl h3)
  have hsr : ∀ {v : Value} {x : SV}, SRep M0 H mu w v x → SRep ⟨Mc', M0.x⟩ H mu w' v x := fun h => SRep.others hstay (fun s b h1 h2 => (hnb s b h1 h2).1) h
  refine ⟨fun d hd => ?_, h.nodup, h.rdef, h.size, h.nle, fun t ht => ?_, Nat.le_trans h.base kp.size, ⟨kp.os.trans h.osq.1, kp.tape.trans h.osq.2.1, kp.output.trans h.osq.2.2⟩, fun h1 => absurd h1 hp, fun h1 => absurd h1 hp, ?_, h.xeq, fun x hx y hy hc => ?_, fun x hx => ?_,
    fun s b h1 h2 x hx h3 => ?_, fun s cs hs => ?_, fun r e size k hr => ?_, fun r e sz ver cs hr => ?_, h.inj, h.same, fun l pre rest ht => ⟨hp, htr l pre rest ht⟩, fun ht => ⟨hp, hst ht⟩, fun l hl => ?_, h.mono.trans C.fp (Steps.same fun s b h1 h2 => (hnb s b h1 h2).1), h.gl.mono hstay⟩
  · obtain ⟨D, e1, e2, e3, e4⟩ := h.marks d hd
    exact ⟨D, e1, e2, (kp.blk D (Array.getElem?_eq_some_iff.1 e3).1 fun y hy => h.xc y (e4 y hy) y rfl).1.trans e3, e4⟩
  · rw [hf t ht]; exact hsr (h.slots t ht)
  · refine ⟨kp.os.trans h.keep.os, kp.tape.trans h.keep.tape, kp.output.trans h.keep.output, Nat.le_trans h.keep.size kp.size, fun x u h1 h2 => ?_, fun b hb hm => ?_⟩
    · obtain ⟨g1, g2⟩ := h.keep.cell x u h1 h2
      obtain ⟨k1, k2⟩ := kp.cell x u g1 fun h3 => g2 (.inl h3)
      exact ⟨k1, fun h3 => h3.elim k2 fun h4 => g2 (.inr h4)⟩
    · obtain ⟨g1, g2⟩ := h.keep.blk b hb hm
      obtain ⟨k1, k2⟩ := kp.blk b (Nat.lt_of_lt_of_le hb h.keep.size) fun y hy h3 => g2 y hy (.inl h3)
      exact ⟨k1.trans g1, fun y hy h3 => h3.elim (k2 y hy) fun h4 => g2 y hy (.inr h4)⟩
  · exact (kp.blk x.block (h.old x (.inr hx)) fun z hz => h.xc x hx z hz).2 y hy hc
  · exact hx.elim (hbd x) fun h1 => Nat.lt_of_lt_of_le (h.old x (.inr h1)) kp.size
  · exact h3.elim ((hnb s b h1 h2).2 x hx) fun h4 => h.sep s b h1 h2 x hx (.inr h4)
  · obtain ⟨b, arr, e, h1, h2, h3, h4, h5⟩ := h.box s cs hs
    exact ⟨b, arr, e, h1, h2, (hnb s b (by rw [hs]; simp) h1).1.trans h3, h4, fun j x hj => ⟨hsr (h5 j x hj).1, (h5 j x hj).2⟩⟩
  · rcases h.row r e size k hr with h1 | ⟨g, h1, h2, h3⟩
    · exact .inl h1
    · exact .inr ⟨g, h1, h2, Nat.lt_of_lt_of_le h3 kp.size⟩
  · rcases h.vec r e sz ver cs hr with h1 | ⟨g, cur, h1, h2, h3, h4, h5, h6⟩
    · exact .inl h1
    · exact .inr ⟨g, cur, h1, h2, (hnb r g (by rw [hr]; simp) h1).1.trans h3, h4, h5, fun j x hj => hsr (h6 j x hj)⟩
  · obtain ⟨⟨r, g1⟩, g2⟩ := h.rnd l hl
    exact ⟨⟨r, (kp.blk l (Array.getElem?_eq_some_iff.1 g1).1 fun y hy => h.xc y (g2 y hy) y rfl).1.trans g1⟩, g2⟩

/-- An iterator's own steps, seen by the caller. -/
theorem StM.inner {c x Mi Mi' : Addr → Prop} (h : StM N ⟨c, fun y => x y ∨ Mi y⟩ C f H mu a w) (kp : Keep Mi w Mi' w') (hbd : ∀ y, Mi' y → y.block < w'.heap.size) {B0 : Nat} (hB1 : C.w1.heap.size ≤ B0) (hB : C.w.heap.size ≤ B0) (hB0 : B0 ≤ w.heap.size)
    (hmi : ∀ y, Mi y → B0 ≤ y.block) (hD : ∀ d ∈ a.defers, ∀ D, d.target = .collected D → ∀ y : Addr, y.block = D → ¬ Mi y) (hro : ∀ l, C.ro = some l → ∀ y : Addr, y.block = l → ¬ Mi y) :
    StM N ⟨c, fun y => x y ∨ Mi' y⟩ C f H mu a w' ∧ ∀ y, Mi' y → B0 ≤ y.block := by
  have hmi' : ∀ y, Mi' y → B0 ≤ y.block := fun y hy => by
    rcases Nat.lt_or_ge y.block B0 with h1 | h1
    · exact absurd hy ((kp.blk y.block (by omega) fun z hz h2 => by have := hmi z h2; omega).2 y rfl)
    · exact h1
  have low : ∀ b, b < B0 → w'.heap[b]? = w.heap[b]? := fun b hb => (kp.blk b (by omega) fun z hz h2 => by have := hmi z h2; omega).1
  have hstay : Stay (Mut ⟨c, fun y => x y ∨ Mi y⟩ H mu) w (Mut ⟨c, fun y => x y ∨ Mi' y⟩ H mu) w' := fun y u h1 h2 => by
    obtain ⟨g1, g2⟩ := kp.cell y u h1 fun h3 => h2 (.inl (.inr (.inr h3)))
    exact ⟨g1, fun h3 => h3.elim (fun h4 => h4.elim (fun h5 => h2 (.inl (.inl h5))) fun h5 => h5.elim (fun h6 => h2 (.inl (.inr (.inl h6)))) g2) fun h4 => h2 (.inr h4)⟩
  have hnb : ∀ s b, H s ≠ .none → mu s = some b → w'.heap[b]? = w.heap[b]? ∧ ∀ y : Addr, y.block = b → ¬ Mi' y := fun s b h1 h2 => kp.blk b (h.mu_lt h1 h2) fun y hy h3 => h.sep s b h1 h2 y hy (.inr (.inr h3))
  have hsr : ∀ {v : Value} {y : SV}, SRep ⟨c, fun y => x y ∨ Mi y⟩ H mu w v y → SRep ⟨c, fun y => x y ∨ Mi' y⟩ H mu w' v y := fun h => SRep.others hstay (fun s b h1 h2 => (hnb s b h1 h2).1) h
  have hold : ∀ y, (⟨c, fun y => x y ∨ Mi' y⟩ : MM).all y → y.block < w'.heap.size := fun y hy => hy.elim (fun h1 => Nat.lt_of_lt_of_le (h.old y (.inl h1)) kp.size) fun h1 => h1.elim (fun h2 => Nat.lt_of_lt_of_le (h.old y (.inr (.inl h2))) kp.size) (hbd y)
  have kmine : Keep (Mine ⟨c, fun y => x y ∨ Mi y⟩ H mu) w (Mine ⟨c, fun y => x y ∨ Mi' y⟩ H mu) w' :=
    ⟨kp.os, kp.tape, kp.output, kp.size, fun y u h1 h2 => have ⟨g1, g2⟩ := kp.cell y u h1 fun h3 => h2 (.inl (.inr h3)); ⟨g1, fun h3 => h3.elim (fun h4 => h4.elim (fun h5 => h2 (.inl (.inl h5))) g2) fun h4 => h2 (.inr h4)⟩,
      fun b hb hm => have ⟨g1, g2⟩ := kp.blk b hb fun y hy h3 => hm y hy (.inl (.inr h3)); ⟨g1, fun y hy h3 => h3.elim (fun h4 => h4.elim (fun h5 => hm y hy (.inl (.inl h5))) (g2 y hy)) fun h4 => hm y hy (.inr h4)⟩⟩
  have hmb : ∀ y, Mine ⟨c, fun y => x y ∨ Mi' y⟩ H mu y → y.block < w'.heap.size := fun y hy => hy.elim (fun h1 => hold y (.inr h1)) fun h1 => Nat.lt_of_lt_of_le (h.named_lt h1).2 kp.size
  refine ⟨⟨fun d hd => ?_, h.nodup, h.rdef, h.size, h.nle, fun t ht => hsr (h.slots t ht), Nat.le_trans h.base kp.size, ⟨kp.os.trans h.osq.1, kp.tape.trans h.osq.2.1, kp.output.trans h.osq.2.2⟩, fun hp => ?_, h.cp, ?_, fun y hy => ?_, fun z hz y hy hc => ?_, hold,
    fun s b h1 h2 y hy h3 => ?_, fun s cs hs => ?_, fun r e size k hr => ?_, fun r e sz ver cs hr => ?_, h.inj, h.same, fun l pre rest ht => ?_, fun ht => ?_, fun l hl => ?_, h.mono.trans C.fp (Steps.same fun s b h1 h2 => (hnb s b h1 h2).1), h.gl.mono hstay⟩, hmi'⟩
  · obtain ⟨D, e1, e2, e3, e4⟩ := h.marks d hd
    have hno := hD d hd D (by rw [e1])
    exact ⟨D, e1, e2, (kp.blk D (Array.getElem?_eq_some_iff.1 e3).1 hno).1.trans e3, fun y hy => (e4 y hy).elim .inl fun h1 => absurd h1 (hno y hy)⟩
  · have hb := h.below hp
    exact ⟨kp.os.trans hb.os, kp.tape.trans hb.tape, kp.output.trans hb.output, Nat.le_trans hb.size kp.size, fun k hk hf => (low k (by omega)).trans (hb.block k hk hf)⟩
  · refine ⟨kp.os.trans h.keep.os, kp.tape.trans h.keep.tape, kp.output.trans h.keep.output, Nat.le_trans h.keep.size kp.size, fun y u h1 h2 => ?_, fun b hb hm => ?_⟩
    · obtain ⟨g1, g2⟩ := h.keep.cell y u h1 h2
      obtain ⟨k1, k2⟩ := kp.cell y u g1 fun h3 => g2 (.inr (.inr ⟨.inr h3, Nat.le_trans hB1 (hmi y h3)⟩))
      exact ⟨k1, fun h3 => h3.elim (fun h4 => g2 (.inl h4)) fun h4 => h4.elim (fun h5 => g2 (.inr (.inl h5))) fun h5 => h5.1.elim (fun h6 => g2 (.inr (.inr ⟨.inl h6, h5.2⟩))) k2⟩
    · obtain ⟨g1, g2⟩ := h.keep.blk b hb hm
      exact ⟨(low b (by omega)).trans g1, fun y hy h3 => h3.elim (fun h4 => g2 y hy (.inl h4)) fun h4 => h4.elim (fun h5 => g2 y hy (.inr (.inl h5))) fun h5 => h5.1.elim (fun h6 => g2 y hy (.inr (.inr ⟨.inl h6, h5.2⟩))) fun h6 => by have := hmi' y h6; omega⟩
  · rw [← h.xeq y hy]
    have e1 : ¬ Mi y := fun h1 => by have := hmi y h1; omega
    have e2 : ¬ Mi' y := fun h1 => by have := hmi' y h1; omega
    simp [e1, e2]
  · rcases hz with h1 | h1
    · exact h.xc z (.inl h1) y hy hc
    · rcases Nat.lt_or_ge z.block w.heap.size with h2 | h2
      · by_cases h3 : ∃ z0 : Addr, z0.block = z.block ∧ Mi z0
        · obtain ⟨z0, h4, h5⟩ := h3
          exact h.xc z0 (.inr h5) y (hy.trans h4.symm) hc
        · exact (kp.blk z.block h2 fun z0 h4 h5 => h3 ⟨z0, h4, h5⟩).2 z rfl h1
      · have := h.old y (.inl hc)
        omega
  · exact h3.elim (fun h4 => h.sep s b h1 h2 y hy (.inl h4)) fun h4 => h4.elim (fun h5 => h.sep s b h1 h2 y hy (.inr (.inl h5))) ((hnb s b h1 h2).2 y hy)
  · obtain ⟨b, arr, e, h1, h2, h3, h4, h5⟩ := h.box s cs hs
    exact ⟨b, arr, e, h1, h2, (hnb s b (by rw [hs]; simp) h1).1.trans h3, h4, fun j y hj => ⟨hsr (h5 j y hj).1, (h5 j y hj).2⟩⟩
  · rcases h.row r e size k hr with h1 | ⟨g, h1, h2, h3⟩
    · exact .inl h1
    · exact .inr ⟨g, h1, h2, Nat.lt_of_lt_of_le h3 kp.size⟩
  · rcases h.vec r e sz ver cs hr with h1 | ⟨g, cur, h1, h2, h3, h4, h5, h6⟩
    · exact .inl h1
    · exact .inr ⟨g, cur, h1, h2, (hnb r g (by rw [hr]; simp) h1).1.trans h3, h4, h5, fun j x hj => hsr (h6 j x hj)⟩
  · exact ⟨(h.tr l pre rest ht).1, C.jst _ _ _ _ _ _ _ _ (h.tr l pre rest ht).2 kmine hmb⟩
  · exact ⟨(h.st ht).1, C.jxst _ _ _ _ _ (h.st ht).2 kmine hmb⟩
  · obtain ⟨⟨r, g1⟩, g2⟩ := h.rnd l hl
    have hno := hro l hl
    exact ⟨⟨r, (kp.blk l (Array.getElem?_eq_some_iff.1 g1).1 hno).1.trans g1⟩, fun y hy => (g2 y hy).elim .inl fun h1 => absurd h1 (hno y hy)⟩

theorem putObj_keep {l : Nat} {o o' : Obj} (hl : w.heap[l]? = some o) (ho : o.isCells = false) : Keep (fun y => y.block = l) w (fun y => y.block = l) (w.putObj l o') where
  os := rfl
  tape := rfl
  output := rfl
  size := by simp
  cell := fun y u h1 h2 => ⟨(World.cell?_of_block (World.putObj_heap_other h2)).trans h1, h2⟩
  blk := fun b hb hm => ⟨World.putObj_heap_other fun e => hm ⟨b, 0, none⟩ rfl e, hm⟩
/-- A record of a loop turns. -/
theorem StM.putRec (h : StM N M0 C f H mu a w) {l : Nat} {o o' : Obj} (hl : w.heap[l]? = some o) (ho : o.isCells = false) (hx : ∀ y : Addr, y.block = l → M0.x y) (h1 : C.w1.heap.size ≤ l) (h0 : C.w.heap.size ≤ l)
    (hd : ∀ d ∈ a.defers, d.target ≠ .collected l) (hro : C.ro ≠ some l) : StM N M0 C f H mu a (w.putObj l o') := by
  have e : M0 = ⟨M0.c, fun y => M0.x y ∨ y.block = l⟩ := by
    obtain ⟨c, x⟩ := M0
    simp only [MM.mk.injEq, true_and]
    funext y
    exact propext ⟨.inl, fun h => h.elim id (hx y)⟩
  have hlt := (Array.getElem?_eq_some_iff.1 hl).1
  rw [e] at h ⊢
  exact (StM.inner h (putObj_keep hl ho) (fun y hy => by rw [World.putObj_size, hy]; exact hlt) h1 h0 (Nat.le_of_lt hlt) (fun y hy => by omega) (fun d hd' D hD y hy hy2 => hd d hd' (by rw [hD, ← hy, hy2])) (fun r hr y hy hy2 => hro (by rw [hr, ← hy, hy2]))).1
/-- A mark is taken up at a return. -/
theorem StM.dropMark {d : Deferred} {ds : List Deferred} (h : StM N M0 C f H mu { a with defers := d :: ds } w) (hw : C.w1.heap.size ≤ C.w.heap.size) : ∃ D, d.target = .collected D ∧ (Instr.takeDeferred D).run P w = .ok [] (w.putObj D (.deferred none)) ∧ StM N M0 C f H mu { a with defers := ds } (w.putObj D (.deferred none)) := by
  obtain ⟨D, e1, e2, e3, e4⟩ := h.marks d (by simp)
  have hro : C.ro = none := by
    cases hr : C.ro with
    | none => rfl
    | some l => have := h.rdef (by rw [hr]; simp); simp at this
  have hnd := h.nodup
  simp only [List.nodup_cons] at hnd
  have h' : StM N M0 C f H mu { a with defers := ds } w :=
    ⟨fun d' hd' => h.marks d' (by simp at hd' ⊢; exact .inr hd'), hnd.2, fun h1 => absurd hro h1, h.size, h.nle, h.slots, h.base, h.osq, h.below, h.cp, h.keep, h.xeq, h.xc, h.old, h.sep, h.box, h.row, h.vec, h.inj, h.same, h.tr, h.st, h.rnd, h.mono, h.gl⟩
  refine ⟨D, by rw [e1], run_takeDeferred e3, h'.putRec e3 rfl e4 (by omega) e2 (fun d' hd' he => ?_) (by rw [hro]; simp)⟩
  obtain ⟨D', g1, -⟩ := h'.marks d' hd'
  rw [g1] at he
  simp only [Target.collected.injEq] at he
  rw [he] at g1
  rw [← e1] at g1
  rw [g1] at hd'
  exact hnd.1 hd'
/-- The same state, by another reckoning of what is to be kept. -/
theorem StM.rebase (h : StM N M0 C f H mu a w) (R : Addr → Prop) (w1 : World) (X : Addr → Prop) (fix : Nat → Bool) (tm : Array Value) (ro : Option Nat)
    (hk : Keep R w1 (MN { C with R := R, w1 := w1, X := X, fix := fix, tm := tm, ro := ro } M0 H mu) w) (hx : ∀ y : Addr, y.block < w1.heap.size → (M0.x y ↔ X y)) (hs : ∀ t, fix t = true → a.tmps.getD t undef = tm.getD t undef)
    (hrd : ro ≠ none → a.defers = []) (hr : ∀ l, ro = some l → (∃ r, w.heap[l]? = some (.loop r)) ∧ ∀ y : Addr, y.block = l → M0.x y) : StM N M0 { C with R := R, w1 := w1, X := X, fix := fix, tm := tm, ro := ro } f H mu a w :=
  ⟨h.marks, h.nodup, hrd, h.size, h.nle, h.slots, h.base, h.osq, h.below, h.cp, hk, hx, h.xc, h.old, h.sep, h.box, h.row, h.vec, h.inj, hs, h.tr, h.st, hr, h.mono, h.gl⟩
/-- The context of what is walked from here on. -/
def Ctx.since (C : Ctx) (M0 : MM) (H : Hp) (mu : Nat → Option Nat) (w : World) (fix : Nat → Bool) (tm : Array Value) (ro : Option Nat) : Ctx :=
  { C with R := fun y => M0.c y ∨ Named H mu y, w1 := w, X := M0.x, fix := fix, tm := tm, ro := ro }
/-- Another activation on the same memory. -/
theorem StM.since (h : StM N M0 C f H mu a w) (fix : Nat → Bool) (tm : Array Value) (ro : Option Nat) (hdef : a'.defers = []) (hsz : a'.tmps.size = N) (hsl : ∀ t, t < N → SRep M0 H mu w (a'.tmps.getD t undef) (f' t)) (hTR : f' TR = f TR)
    (hs : ∀ t, fix t = true → a'.tmps.getD t undef = tm.getD t undef) (hr : ∀ l, ro = some l → (∃ r, w.heap[l]? = some (.loop r)) ∧ ∀ y : Addr, y.block = l → M0.x y) : StM N M0 (C.since M0 H mu w fix tm ro) f' H mu a' w :=
  ⟨(fun d hd => by rw [hdef] at hd; cases hd), (by rw [hdef]; exact List.nodup_nil), fun _ => hdef, hsz, h.nle, hsl, h.base, h.osq, h.below, h.cp,
    ⟨rfl, rfl, rfl, Nat.le_refl _, fun x u h1 h2 => ⟨h1, fun h3 => h3.elim (fun h4 => h2 (.inl h4)) fun h4 => h4.elim (fun h5 => h2 (.inr h5)) fun h5 => by have := World.block_lt_of_cell? w x h1; have h6 : w.heap.size ≤ x.block := h5.2; omega⟩,
      fun b hb hm => ⟨rfl, fun y hy h3 => h3.elim (fun h4 => hm y hy (.inl h4)) fun h4 => h4.elim (fun h5 => hm y hy (.inr h5)) fun h5 => by have h6 : w.heap.size ≤ y.block := h5.2; omega⟩⟩,
    fun y hy => Iff.rfl, h.xc, h.old, h.sep, h.box, h.row, h.vec, h.inj, hs, fun l pre rest ht => h.tr l pre rest (hTR.symm.trans ht), fun ht => h.st (hTR.symm.trans ht), hr, h.mono, h.gl⟩
/-- What was kept since then is kept since before. -/
theorem keep_since {M1 : MM} {H1 : Hp} {mu1 : Nat → Option Nat} {w1 : World} {fix : Nat → Bool} {tm : Array Value} {ro : Option Nat} (hk : Keep (C.since M0 H mu w fix tm ro).R (C.since M0 H mu w fix tm ro).w1 (MN (C.since M0 H mu w fix tm ro) M1 H1 mu1) w1)
    (hx : ∀ y : Addr, y.block < (C.since M0 H mu w fix tm ro).w1.heap.size → (M1.x y ↔ (C.since M0 H mu w fix tm ro).X y)) : Keep (MN C M0 H mu) w (MN C M1 H1 mu1) w1 where
  os := hk.os
  tape := hk.tape
  output := hk.output
  size := hk.size
  cell := fun y u h1 h2 => by
    obtain ⟨g1, g2⟩ := hk.cell y u h1 fun h3 => h3.elim (fun h4 => h2 (.inl h4)) fun h4 => h2 (.inr (.inl h4))
    refine ⟨g1, fun h3 => h3.elim (fun h4 => g2 (.inl h4)) fun h4 => h4.elim (fun h5 => g2 (.inr (.inl h5))) fun h5 => ?_⟩
    have hlt := World.block_lt_of_cell? w y h1
    exact h2 (.inr (.inr ⟨(hx y hlt).1 h5.1, h5.2⟩))
  blk := fun b hb hm => by
    obtain ⟨g1, g2⟩ := hk.blk b hb fun y hy h3 => h3.elim (fun h4 => hm y hy (.inl h4)) fun h4 => hm y hy (.inr (.inl h4))
    refine ⟨g1, fun y hy h3 => h3.elim (fun h4 => g2 y hy (.inl h4)) fun h4 => h4.elim (fun h5 => g2 y hy (.inr (.inl h5))) fun h5 => ?_⟩
    exact hm y hy (.inr (.inr ⟨(hx y (show y.block < w.heap.size by omega)).1 h5.1, h5.2⟩))
/-- Back out of what was walked since. -/
theorem StM.restore {M1 : MM} {H1 : Hp} {mu1 : Nat → Option Nat} {w1 : World} {fix : Nat → Bool} {tm : Array Value} {ro : Option Nat} {f1 f1' : Frm} {a1 : Act} (h : StM N M0 C f H mu a w) (h1 : StM N M1 (C.since M0 H mu w fix tm ro) f1 H1 mu1 a1 w1)
    (hsl : ∀ t, t < N → SRep M1 H1 mu1 w1 (a.tmps.getD t undef) (f1' t)) (hTR : f1' TR = f1 TR) : StM N M1 C f1' H1 mu1 a w1 := by
  have hkk := keep_since h1.keep h1.xeq
  have hxe : ∀ y : Addr, y.block < w.heap.size → (M1.x y ↔ M0.x y) := h1.xeq
  have hrec : ∀ D, D < w.heap.size → (∀ y : Addr, y.block = D → M0.x y) → w1.heap[D]? = w.heap[D]? ∧ ∀ y : Addr, y.block = D → M1.x y := fun D hD hx =>
    ⟨(h1.keep.blk D hD fun y hy h3 => h3.elim (fun h4 => h.xc y (hx y hy) y rfl h4) fun h4 => h.not_named (.inr (hx y hy)) rfl h4).1, fun y hy => (hxe y (by rw [hy]; exact hD)).2 (hx y hy)⟩
  refine ⟨fun d hd => ?_, h.nodup, h.rdef, h.size, h.nle, hsl, h1.base, h1.osq, h1.below, h1.cp, h.keep.trans hkk, fun y hy => ?_, h1.xc, h1.old, h1.sep, h1.box, h1.row, h1.vec, h1.inj, h.same, fun l pre rest ht => h1.tr l pre rest (hTR.symm.trans ht), fun ht => h1.st (hTR.symm.trans ht), fun l hl => ?_, h1.mono, h1.gl⟩
  · obtain ⟨D, e1, e2, e3, e4⟩ := h.marks d hd
    obtain ⟨g1, g2⟩ := hrec D (Array.getElem?_eq_some_iff.1 e3).1 e4
    exact ⟨D, e1, e2, g1.trans e3, g2⟩
  · rw [hxe y (Nat.lt_of_lt_of_le hy h.keep.size)]
    exact h.xeq y hy
  · obtain ⟨⟨r, g1⟩, g2⟩ := h.rnd l hl
    obtain ⟨k1, k2⟩ := hrec l (Array.getElem?_eq_some_iff.1 g1).1 g2
    exact ⟨⟨r, k1.trans g1⟩, k2⟩
/-- New blocks that are none of the cells'. -/
theorem StM.claim (h : StM N M0 C f H mu a w) (hx : Below w.heap.size w w') {mark : List Deferred} (hm : ∀ d ∈ mark, ∃ D, d = { target := .collected D, args := #[] } ∧ w.heap.size ≤ D ∧ w'.heap[D]? = some (.deferred (some []))) (hnd : mark.Nodup) (hro : C.ro ≠ none → mark = []) :
    StM N ⟨M0.c, fun y => M0.x y ∨ (w.heap.size ≤ y.block ∧ y.block < w'.heap.size)⟩ C f H mu { a with defers := mark ++ a.defers } w' := by
  have up : ∀ {A A' : Addr → Prop}, (∀ y, A' y → A y ∨ w.heap.size ≤ y.block) → Keep A w A' w' := fun hA => ⟨hx.os, hx.tape, hx.output, hx.size, fun y u h1 h2 =>
    have hlt := World.block_lt_of_cell? w y h1
    ⟨(World.cell?_of_block (hx.block _ hlt)).trans h1, fun h3 => (hA y h3).elim h2 fun h4 => by omega⟩, fun b hb hm => ⟨hx.block b hb, fun y hy h3 => (hA y h3).elim (hm y hy) fun h4 => by omega⟩⟩
  have hstay : Stay (Mut M0 H mu) w (Mut ⟨M0.c, fun y => M0.x y ∨ (w.heap.size ≤ y.block ∧ y.block < w'.heap.size)⟩ H mu) w' := (up fun y hy => hy.elim (fun h1 => h1.elim (fun h2 => .inl (.inl (.inl h2))) fun h2 => h2.elim (fun h3 => .inl (.inl (.inr h3))) fun h3 => .inr h3.1) fun h1 => .inl (.inr h1)).cell
  have hsr : ∀ {v : Value} {x : SV}, SRep M0 H mu w v x → SRep ⟨M0.c, fun y => M0.x y ∨ (w.heap.size ≤ y.block ∧ y.block < w'.heap.size)⟩ H mu w' v x := fun h' => SRep.others hstay (fun s b h1 h2 => hx.block b (h.mu_lt h1 h2)) h'
  have hmine : ∀ y, Mine ⟨M0.c, fun y => M0.x y ∨ (w.heap.size ≤ y.block ∧ y.block < w'.heap.size)⟩ H mu y → Mine M0 H mu y ∨ w.heap.size ≤ y.block := fun y hy => hy.elim (fun h1 => h1.elim (fun h2 => .inl (.inl h2)) fun h2 => .inr h2.1) fun h1 => .inl (.inr h1)
  have hmb : ∀ y, Mine ⟨M0.c, fun y => M0.x y ∨ (w.heap.size ≤ y.block ∧ y.block < w'.heap.size)⟩ H mu y → y.block < w'.heap.size := fun y hy => hy.elim (fun h1 => h1.elim (fun h2 => Nat.lt_of_lt_of_le (h.old y (.inr h2)) hx.size) fun h2 => h2.2) fun h1 => Nat.lt_of_lt_of_le (h.named_lt h1).2 hx.size
  have hs1 : C.w1.heap.size ≤ w.heap.size := h.keep.size
  refine ⟨fun d hd => ?_, ?_, fun h1 => ?_, h.size, h.nle, fun t ht => hsr (h.slots t ht), Nat.le_trans h.base hx.size, ⟨hx.os.trans h.osq.1, hx.tape.trans h.osq.2.1, hx.output.trans h.osq.2.2⟩, fun hp => ?_, h.cp, h.keep.trans (up ?_), fun y hy => ?_, fun z hz y hy hc => ?_, fun y hy => ?_,
    fun s b h1 h2 y hy h3 => ?_, fun s cs hs => ?_, fun r e size k hr => ?_, fun r e sz ver cs hr => ?_, h.inj, h.same, fun l pre rest ht => ⟨(h.tr l pre rest ht).1, C.jst _ _ _ _ _ _ _ _ (h.tr l pre rest ht).2 (up hmine) hmb⟩, fun ht => ⟨(h.st ht).1, C.jxst _ _ _ _ _ (h.st ht).2 (up hmine) hmb⟩, fun l hl => ?_, h.mono.trans C.fp (Steps.same fun s b h1 h2 => hx.block b (h.mu_lt h1 h2)), h.gl.mono hstay⟩
  · rcases List.mem_append.1 hd with h1 | h1
    · obtain ⟨D, e1, e2, e3⟩ := hm d h1
      refine ⟨D, e1, Nat.le_trans h.base e2, e3, fun y hy => .inr ⟨by omega, ?_⟩⟩
      rw [hy]; exact (Array.getElem?_eq_some_iff.1 e3).1
    · obtain ⟨D, e1, e2, e3, e4⟩ := h.marks d h1
      exact ⟨D, e1, e2, (hx.block D (Array.getElem?_eq_some_iff.1 e3).1).trans e3, fun y hy => .inl (e4 y hy)⟩
  · refine List.nodup_append.2 ⟨hnd, h.nodup, fun d hd d' hd' e => ?_⟩
    obtain ⟨D, e1, e2, e3⟩ := hm d hd
    obtain ⟨D', g1, g2, g3, g4⟩ := h.marks d' hd'
    rw [e1, g1] at e
    simp only [Deferred.mk.injEq, Target.collected.injEq, and_true] at e
    have := (Array.getElem?_eq_some_iff.1 g3).1
    omega
  · show mark ++ a.defers = []
    rw [hro h1, h.rdef h1]; rfl
  · have hb := h.below hp
    exact ⟨hx.os.trans hb.os, hx.tape.trans hb.tape, hx.output.trans hb.output, Nat.le_trans hb.size hx.size, fun k hk hf => (hx.block k (Nat.lt_of_lt_of_le hk hb.size)).trans (hb.block k hk hf)⟩
  · exact fun y hy => hy.elim (fun h1 => .inl (.inl h1)) fun h1 => h1.elim (fun h2 => .inl (.inr (.inl h2))) fun h2 => h2.1.elim (fun h3 => .inl (.inr (.inr ⟨h3, h2.2⟩))) fun h3 => .inr h3.1
  · rw [← h.xeq y hy]
    have e1 : ¬ (w.heap.size ≤ y.block ∧ y.block < w'.heap.size) := fun h1 => by omega
    simp [e1]
  · rcases hz with h1 | h1
    · exact h.xc z h1 y hy hc
    · have := h.old y (.inl hc); omega
  · rcases hy with h1 | h1 | h1
    · exact Nat.lt_of_lt_of_le (h.old y (.inl h1)) hx.size
    · exact Nat.lt_of_lt_of_le (h.old y (.inr h1)) hx.size
    · exact h1.2
  · have hlt := h.mu_lt h1 h2
    rcases h3 with h4 | h4 | h4
    · exact h.sep s b h1 h2 y hy (.inl h4)
    · exact h.sep s b h1 h2 y hy (.inr h4)
    · omega
  · obtain ⟨b, arr, e, h1, h2, h3, h4, h5⟩ := h.box s cs hs
    exact ⟨b, arr, e, h1, h2, (hx.block b (Array.getElem?_eq_some_iff.1 h3).1).trans h3, h4, fun j y hj => ⟨hsr (h5 j y hj).1, (h5 j y hj).2⟩⟩
  · rcases h.row r e size k hr with h1 | ⟨g, h1, h2, h3⟩
    · exact .inl h1
    · exact .inr ⟨g, h1, h2, Nat.lt_of_lt_of_le h3 hx.size⟩
  · rcases h.vec r e sz ver cs hr with h1 | ⟨g, cur, h1, h2, h3, h4, h5, h6⟩
    · exact .inl h1
    · exact .inr ⟨g, cur, h1, h2, (hx.block g (h.mu_lt (by rw [hr]; simp) h1)).trans h3, h4, h5, fun j x hj => hsr (h6 j x hj)⟩
  · obtain ⟨⟨r, g1⟩, g2⟩ := h.rnd l hl
    exact ⟨⟨r, (hx.block l (Array.getElem?_eq_some_iff.1 g1).1).trans g1⟩, fun y hy => .inl (g2 y hy)⟩
/-- What a round keeps, as its iterator is told. -/
theorem keep_mc {c0 X0 Mi : Addr → Prop} {M1 : MM} {H1 : Hp} {mu1 : Nat → Option Nat} {w1 : World} {C1 : Ctx} (hw : C1.w1 = w) (hk : Keep (fun y => c0 y ∨ Named H mu y) w (MN C1 M1 H1 mu1) w1) (hx : ∀ y : Addr, y.block < w.heap.size → (M1.x y ↔ X0 y)) :
    Keep (Mut ⟨c0, fun y => X0 y ∧ ¬ Mi y⟩ H mu) w (Mut ⟨M1.c, fun y => M1.x y ∧ ¬ Mi y⟩ H1 mu1) w1 where
  os := hk.os
  tape := hk.tape
  output := hk.output
  size := hk.size
  cell := fun y u h1 h2 => by
    obtain ⟨g1, g2⟩ := hk.cell y u h1 fun h3 => h3.elim (fun h4 => h2 (.inl (.inl h4))) fun h4 => h2 (.inr h4)
    have hlt := World.block_lt_of_cell? w y h1
    exact ⟨g1, fun h3 => h3.elim (fun h4 => h4.elim (fun h5 => g2 (.inl h5)) fun h5 => h2 (.inl (.inr ⟨(hx y hlt).1 h5.1, h5.2⟩))) fun h4 => g2 (.inr (.inl h4))⟩
  blk := fun b hb hm => by
    obtain ⟨g1, g2⟩ := hk.blk b hb fun y hy h3 => h3.elim (fun h4 => hm y hy (.inl (.inl h4))) fun h4 => hm y hy (.inr h4)
    exact ⟨g1, fun y hy h3 => h3.elim (fun h4 => h4.elim (fun h5 => g2 y hy (.inl h5)) fun h5 => hm y hy (.inl (.inr ⟨(hx y (by omega)).1 h5.1, h5.2⟩))) fun h4 => g2 y hy (.inr (.inl h4))⟩
theorem Keep.more {M M' M2 : Addr → Prop} (h : Keep M w M' w') (hm : ∀ a, M a → M2 a) : Keep M2 w M' w' :=
  { h with cell := fun a u h1 h2 => h.cell a u h1 fun h3 => h2 (hm a h3), blk := fun b hb h2 => h.blk b hb fun a ha h3 => h2 a ha (hm a h3) }
/-- What a loop over an iterator lays. -/
theorem enter_spec {ro : Option Nat} (hro : ∀ l0, ro = some l0 → ∃ r, w.heap[l0]? = some (.loop r)) (fn : FuncId) (tmps : Array Value) (ps : Array Tmp) (assign body : Code) :
    ∃ l mark W1 dfr, (Instr.enterLoop fn tmps ps assign body ro).run P w = .ok (l, mark) W1 ∧ W1.heap[l]? = some (.loop { state := .ready, pending := none, fn, tmps, params := ps, assign, body, defers := dfr }) ∧ Below w.heap.size w W1 ∧ w.heap.size ≤ l ∧ W1.heap.size = l + 1 ∧
      mark.Nodup ∧ (ro ≠ none → mark = []) ∧ ∀ d ∈ mark, ∃ D, d = { target := .collected D, args := #[] } ∧ w.heap.size ≤ D ∧ D < l ∧ W1.heap[D]? = some (.deferred (some [])) := by
  cases ro with
  | none =>
    have hL1 : ∀ o, ((w.alloc (.deferred (some []))).alloc o).heap[w.heap.size + 1]? = some o := fun o => by
      have := World.alloc_heap_new (w.alloc (.deferred (some []))) o
      rwa [World.size_alloc] at this
    refine ⟨w.heap.size + 1, [{ target := .collected w.heap.size, args := #[] }], _, _, run_enterLoop_outer fn tmps ps assign body, hL1 _, ((Below.refl _ w).alloc (Nat.le_refl _) _).alloc (by simp) _, by omega, by simp, by simp, fun h => absurd rfl h, fun d hd => ?_⟩
    simp only [List.mem_singleton] at hd
    exact ⟨w.heap.size, hd, Nat.le_refl _, by omega, (Below.heap_alloc _ _ _ (by simp)).trans (World.alloc_heap_new w _)⟩
  | some l0 =>
    obtain ⟨r, hr⟩ := hro l0 rfl
    exact ⟨w.heap.size, [], _, _, run_enterLoop_inner hr fn tmps ps assign body, World.alloc_heap_new w _, (Below.refl _ w).alloc (Nat.le_refl _) _, Nat.le_refl _, by simp, List.nodup_nil, fun _ => rfl, fun d hd => by cases hd⟩
end
end Go.Proofs.YtefiebkngpcaoaaDoor
