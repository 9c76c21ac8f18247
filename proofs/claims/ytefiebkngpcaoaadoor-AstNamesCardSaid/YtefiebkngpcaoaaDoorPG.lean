/- A region of the pure logic: the walk in the text's order serves every order, where what conflicts is ordered. No condition beyond each lemma's own. -/
import Derived.Test.YtefiebkngpcaoaaDoorPF
set_option maxRecDepth 100000
set_option linter.unusedVariables false
set_option linter.unusedSimpArgs false
set_option linter.unusedSectionVars false
namespace Go.Proofs.YtefiebkngpcaoaaDoor
open Go.RowKit

/-- Is the operation's guard met? -/
def pW (ops : Array Oper) (f : Frm) (o : Oper) : Option Bool :=
  match o.guard with
  | none => some true
  | some (g, want) => match (ops[g]?).bind (·.dst) with
    | some t => match f t with
      | .d (.bool b) => some (b == want)
      | .d (.tup _) => some false
      | _ => none
    | none => none
def Eff.no : Eff := .val (.d (.tup []))
/-- One operation of a region, wanted or not. -/
def PStep (P : Program) (ops : Array Oper) (o : Oper) (f : Frm) (H : Hp) (e : Eff) : Prop :=
  (pW ops f o = some true ∧ POp P o f H e) ∨ (pW ops f o = some false ∧ e = .no)
def opsOk (N : Nat) (ops : Array Oper) : Bool := ops.toList.all (opOk N) && ops.toList.all fun o => match o.guard with
  | some (g, _) => match (ops[g]?).bind (·.dst) with | some t => decide (t < N) | none => true
  | none => true
/-- The walk in the text's order, with the effects so far. -/
def pSeq (P : Program) (ops : Array Oper) (Q : List Eff → Frm → Hp → Prop) : List Oper → List Eff → Frm → Hp → Prop
  | [], tr, f, H => Q tr f H
  | o :: rest, tr, f, H => ∃ e, PStep P ops o f H e ∧ pSeq P ops Q rest (tr ++ [e]) (updo f o.dst e.res) (app H e.wr)

section
variable {P : Program} {N : Nat} {M0 : MM} {w0 : Ctx} {w : World} {f f' : Frm} {H H' : Hp} {mu : Nat → Option Nat} {a : Act} {o : Oper} {e : Eff} {ops : Array Oper}

theorem opsOk_op (h : opsOk N ops = true) {i : Nat} {o : Oper} (hi : ops[i]? = some o) : opOk N o = true := by
  simp only [opsOk, Bool.and_eq_true, List.all_eq_true] at h
  exact h.1 o (List.mem_of_getElem? (i := i) (by simpa using hi))
theorem opsOk_guard (h : opsOk N ops = true) {i : Nat} {o : Oper} (hi : ops[i]? = some o) {g : Nat} {want : Bool} (hg : o.guard = some (g, want)) {t : Nat} (ht : (ops[g]?).bind (·.dst) = some t) : t < N := by
  simp only [opsOk, Bool.and_eq_true, List.all_eq_true] at h
  have := h.2 o (List.mem_of_getElem? (i := i) (by simpa using hi))
  simpa [hg, ht] using this
theorem pW_sound (h : StM N M0 w0 f H mu a w) (hk : opsOk N ops = true) {i : Nat} (hi : ops[i]? = some o) {b : Bool} (hw : pW ops f o = some b) : Region.wanted o (yielded ops a.tmps) = b := by
  unfold pW at hw
  unfold Region.wanted
  cases hg : o.guard with
  | none => rw [hg] at hw; simpa using hw
  | some gw =>
    obtain ⟨g, want⟩ := gw
    rw [hg] at hw
    simp only at hw ⊢
    split at hw
    · rename_i t ht
      have hs := h.slots t (opsOk_guard hk hi hg ht)
      have hlt : t < a.tmps.size := by rw [h.size]; exact opsOk_guard hk hi hg ht
      have hge : a.tmps[t]? = some (a.tmps.getD t undef) := by simp [hlt]
      unfold yielded
      rw [ht]
      simp only [Option.bind_some, hge]
      split at hw
      · rename_i c hc
        rw [hc] at hs
        rw [rep_bool (show Rep (Mut M0 H mu) w _ (.bool c) from hs)]
        cases hw
        simp
      · rename_i ds hc
        rw [hc] at hs
        generalize a.tmps.getD t undef = v at hs
        cases (show Rep (Mut M0 H mu) w v (.tup ds) from hs)
        cases hw
        rfl
      · cases hw
    · cases hw
theorem pW_local (hw : ∀ t, (∀ g want, o.guard = some (g, want) → (ops[g]?).bind (·.dst) = some t → f t = f' t)) : pW ops f o = pW ops f' o := by
  unfold pW
  cases hg : o.guard with
  | none => rfl
  | some gw =>
    obtain ⟨g, want⟩ := gw
    simp only
    cases ht : (ops[g]?).bind (·.dst) with
    | none => rfl
    | some t => simp only [hw t g want hg ht]
/-- No operation writes a slot that is to stay. -/
def FixOk (C : Ctx) (ops : Array Oper) : Prop := ∀ (i : Nat) (o : Oper), ops[i]? = some o → ∀ d, o.dst = some d → C.fix d = false
theorem pstep_wpOp (h : StM N M0 w0 f H mu a w) (hk : opsOk N ops = true) (hfx : FixOk w0 ops) {i : Nat} (hi : ops[i]? = some o) (hp : PStep P ops o f H e) {n : Nat} {K : Act → World → Prop} {Q : Exit → Act → World → Prop}
    (hK : ∀ v w' mu', StM N M0 w0 (updo f o.dst e.res) (app H e.wr) mu' (a.put o.dst v) w' → K (a.put o.dst v) w') : wpOpIn (fen w0.ro) n P ops Q i K a w := by
  unfold wpOpIn
  simp only [hi]
  rcases hp with ⟨h1, h2⟩ | ⟨h1, rfl⟩
  · rw [pW_sound h hk hi h1]
    simp only [if_true]
    exact pop_wp h (opsOk_op hk hi) (hfx i o hi) h2 hK
  · rw [pW_sound h hk hi h1]
    simp only [Bool.false_eq_true, if_false]
    exact ⟨fun _ _ => trivial, hK undef w mu (h.put (fun d hd => ⟨opOk_dst (opsOk_op hk hi) d hd, hfx i o hi d hd⟩) (Rep.tup #[] [] .nil))⟩

/-! ### Every order -/

/-- Does the operation look at the slot? -/
def looks (ops : Array Oper) (o : Oper) (t : Nat) : Bool := (o.looksAt ops).contains t
/-- Must i come before j? -/
def isBef (T : Array Nat) (i j : Nat) : Bool := (T.getD j 0).testBit i
/-- All that share a slot are ordered, and the edges lead back. -/
def ordOk (ops : Array Oper) (T : Array Nat) : Bool :=
  (List.range ops.size).all fun j => match ops[j]? with
    | none => true
    | some oj => (oj.after.all fun e => !Region.binds .any e || decide (e.on < j)) && (List.range ops.size).all fun i => match ops[i]? with
      | none => true
      | some oi => match oi.dst with
        | none => true
        | some d => i == j || (if (oj.looksAt ops).contains d || oj.dst == some d then (if i < j then isBef T i j else isBef T j i) else true)
def Eff.names (e : Eff) : List Nat := (match e.rd with | some s => [s] | none => []) ++ e.wr.map (·.1)
/-- All that share a name which one of them writes are ordered. -/
def nameOk (T : Array Nat) (tr : List Eff) : Bool :=
  tr.zipIdx.all fun (e, i) => e.wr.all fun (s, _) => tr.zipIdx.all fun (e', j) => i == j || !(e'.names.contains s) || (if i < j then isBef T i j else isBef T j i)

theorem before_spec (ops : Array Oper) : ∀ j i, isBef (Region.before ops) i j = true → ∃ o e, ops[j]? = some o ∧ e ∈ o.after ∧ Region.binds .any e = true ∧ (e.on = i ∨ isBef (Region.before ops) i e.on = true) := by
  have inner : ∀ (l : List Edge) (acc : Array Nat) (s i : Nat), (l.foldl (fun s e => if Region.binds .any e then s ||| 2 ^ e.on ||| acc.getD e.on 0 else s) s).testBit i = true →
      s.testBit i = true ∨ ∃ e ∈ l, Region.binds .any e = true ∧ (e.on = i ∨ isBef acc i e.on = true) := by
    intro l acc
    induction l with
    | nil => intro s i h; exact .inl h
    | cons x l ih =>
      intro s i h
      simp only [List.foldl_cons] at h
      rcases ih _ i h with h1 | ⟨e, he, h1⟩
      · by_cases hb : Region.binds .any x = true
        · rw [if_pos hb] at h1
          simp only [Nat.testBit_or, Bool.or_eq_true] at h1
          rcases h1 with (h1 | h1) | h1
          · exact .inl h1
          · refine .inr ⟨x, by simp, hb, .inl ?_⟩
            rw [Nat.testBit_two_pow] at h1
            simpa using h1
          · exact .inr ⟨x, by simp, hb, .inr h1⟩
        · rw [if_neg hb] at h1
          exact .inl h1
      · exact .inr ⟨e, by simp [he], h1⟩
  have outer : ∀ (l : List Oper) (acc : Array Nat), (∀ k (hk : k < acc.size), True) →
      let r := l.foldl (fun acc o => acc.push (o.after.foldl (fun s e => if Region.binds .any e then s ||| 2 ^ e.on ||| acc.getD e.on 0 else s) 0)) acc
      r.size = acc.size + l.length ∧ (∀ k, k < acc.size → r.getD k 0 = acc.getD k 0) ∧
      ∀ k o, l[k]? = some o → ∀ i, isBef r i (acc.size + k) = true → ∃ e ∈ o.after, Region.binds .any e = true ∧ (e.on = i ∨ isBef r i e.on = true) := by
    intro l
    induction l with
    | nil => intro acc _; exact ⟨rfl, fun k hk => rfl, fun k o h => by simp at h⟩
    | cons x l ih =>
      intro acc _
      simp only [List.foldl_cons]
      obtain ⟨h1, h2, h3⟩ := ih (acc.push (x.after.foldl (fun s e => if Region.binds .any e then s ||| 2 ^ e.on ||| acc.getD e.on 0 else s) 0)) (fun _ _ => trivial)
      refine ⟨by rw [h1]; simp; omega, fun k hk => ?_, fun k o hk i hi => ?_⟩
      · rw [h2 k (by simp; omega)]
        simp [Array.getElem?_push, Nat.ne_of_lt hk]
      · cases k with
        | zero =>
          simp at hk
          subst hk
          unfold isBef at hi
          rw [h2 _ (by simp)] at hi
          rw [show ∀ X : Nat, (acc.push X).getD (acc.size + 0) 0 = X from fun X => by simp] at hi
          rw [← Array.foldl_toList] at hi
          rcases inner _ acc 0 i hi with h4 | ⟨e, he, hb, h4⟩
          · simp at h4
          · refine ⟨e, Array.mem_toList_iff.1 he, hb, h4.elim (fun h6 => .inl h6) fun h5 => .inr ?_⟩
            unfold isBef at h5 ⊢
            by_cases hlt : e.on < acc.size
            · rw [h2 _ (by simp; omega)]
              simpa [Array.getElem?_push, Nat.ne_of_lt hlt] using h5
            · simp [Array.getElem?_eq_none (Nat.le_of_not_lt hlt)] at h5
        | succ k =>
          have := h3 k o (by simpa using hk) i (by simp only [Array.size_push]; rw [show acc.size + 1 + k = acc.size + (k + 1) by omega]; exact hi)
          exact this
  intro j i h
  unfold Region.before at h ⊢
  rw [← Array.foldl_toList] at h ⊢
  obtain ⟨h1, h2, h3⟩ := outer ops.toList #[] (fun _ _ => trivial)
  have hj : j < ops.size := by
    rcases Nat.lt_or_ge j ops.size with hj | hj
    · exact hj
    · unfold isBef at h
      rw [Array.getD_eq_getD_getElem?, Array.getElem?_eq_none (by rw [h1]; simpa using hj)] at h
      simp at h
  obtain ⟨e, he, hb⟩ := h3 j ops[j] (by simp [hj]) i (by simpa using h)
  exact ⟨ops[j], e, by simp [hj], he, hb⟩
end
end Go.Proofs.YtefiebkngpcaoaaDoor
