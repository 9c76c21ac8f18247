/- A region of the pure logic: the walk in the text's order serves every order, where what conflicts is ordered. No condition beyond each lemma's own. A region of the pure logic that draws its order. Condition: what conflicts is ordered. The pure logic over others' steps: what an iterator does under its caller, a caller's round under its iterator. No condition beyond each lemma's own. The pure logic of iterators: a contract that says what is gone through; yield. No condition beyond each lemma's own. -/
import Derived.Test.YtefiebkngpcaoaaDoorPF
import Derived.RangeFuncNested
set_option maxRecDepth 100000
set_option linter.unusedVariables false
set_option linter.unusedSimpArgs false
set_option linter.unusedSectionVars false
namespace Go.Proofs.YtefiebkngpcaoaaDoor
open Go.RowKit

/-- Is the operation's guard met? -/
def pW (ops : Array Oper) (f : Frm) (o : Oper) : Option Bool :=
  match o.guard with
  | none => some true
  | some (g, want) => match (ops[g]?).bind (·.dst) with
    | some t => match f t with
      | .d (.bool b) => some (b == want)
      | .d (.tup _) => some false
      | _ => none
    | none => none
def Eff.no : Eff := .val (.d (.tup []))
/-- One operation of a region, wanted or not. -/
def PStep (P : Program) (ops : Array Oper) (o : Oper) (f : Frm) (H : Hp) (e : Eff) : Prop :=
  (pW ops f o = some true ∧ POp P o f H e) ∨ (pW ops f o = some false ∧ e = .no)
def opsOk (N : Nat) (ops : Array Oper) : Bool := ops.toList.all (opOk N) && ops.toList.all fun o => match o.guard with
  | some (g, _) => match (ops[g]?).bind (·.dst) with | some t => decide (t < N) | none => true
  | none => true
/-- The walk in the text's order, with the effects so far. -/
def pSeq (P : Program) (ops : Array Oper) (Q : List Eff → Frm → Hp → Prop) : List Oper → List Eff → Frm → Hp → Prop
  | [], tr, f, H => Q tr f H
  | o :: rest, tr, f, H => ∃ e, PStep P ops o f H e ∧ pSeq P ops Q rest (tr ++ [e]) (updo f o.dst e.res) (app H e.wr)

section
variable {P : Program} {N : Nat} {M0 : MM} {w0 : Ctx} {w : World} {f f' : Frm} {H H' : Hp} {mu : Nat → Option Nat} {a : Act} {o : Oper} {e : Eff} {ops : Array Oper}

theorem opsOk_op (h : opsOk N ops = true) {i : Nat} {o : Oper} (hi : ops[i]? = some o) : opOk N o = true := by
  simp only [opsOk, Bool.and_eq_true, List.all_eq_true] at h
  exact h.1 o (List.mem_of_getElem? (i := i) (by simpa using hi))
theorem opsOk_guard (h : opsOk N ops = true) {i : Nat} {o : Oper} (hi : ops[i]? = some o) {g : Nat} {want : Bool} (hg : o.guard = some (g, want)) {t : Nat} (ht : (ops[g]?).bind (·.dst) = some t) : t < N := by
  simp only [opsOk, Bool.and_eq_true, List.all_eq_true] at h
  have := h.2 o (List.mem_of_getElem? (i := i) (by simpa using hi))
  simpa [hg, ht] using this
theorem pW_sound (h : StM N M0 w0 f H mu a w) (hk : opsOk N ops = true) {i : Nat} (hi : ops[i]? = some o) {b : Bool} (hw : pW ops f o = some b) : Region.wanted o (yielded ops a.tmps) = b := by
  unfold pW at hw
  unfold Region.wanted
  cases hg : o.guard with
  | none => rw [hg] at hw; simpa using hw
  | some gw =>
    obtain ⟨g, want⟩ := gw
    rw [hg] at hw
    simp only at hw ⊢
    split at hw
    · rename_i t ht
      have hs := h.slots t (opsOk_guard hk hi hg ht)
      have hlt : t < a.tmps.size := by rw [h.size]; exact opsOk_guard hk hi hg ht
      have hge : a.tmps[t]? = some (a.tmps.getD t undef) := by simp [hlt]
      unfold yielded
      rw [ht]
      simp only [Option.bind_some, hge]
      split at hw
      · rename_i c hc
        rw [hc] at hs
        rw [rep_bool (show Rep (Mut M0 H mu) w _ (.bool c) from hs)]
        cases hw
        simp
      · rename_i ds hc
        rw [hc] at hs
        generalize a.tmps.getD t undef = v at hs
        cases (show Rep (Mut M0 H mu) w v (.tup ds) from hs)
        cases hw
        rfl
      · cases hw
    · cases hw
theorem pW_local (hw : ∀ t, (∀ g want, o.guard = some (g, want) → (ops[g]?).bind (·.dst) = some t → f t = f' t)) : pW ops f o = pW ops f' o := by
  unfold pW
  cases hg : o.guard with
  | none => rfl
  | some gw =>
    obtain ⟨g, want⟩ := gw
    simp only
    cases ht : (ops[g]?).bind (·.dst) with
    | none => rfl
    | some t => simp only [hw t g want hg ht]
/-- No operation writes a slot that is to stay. -/
def FixOk (C : Ctx) (ops : Array Oper) : Prop := ∀ (i : Nat) (o : Oper), ops[i]? = some o → ∀ d, o.dst = some d → C.fix d = false
theorem pstep_wpOp (h : StM N M0 w0 f H mu a w) (hk : opsOk N ops = true) (hfx : FixOk w0 ops) {i : Nat} (hi : ops[i]? = some o) (hp : PStep P ops o f H e) {n : Nat} {K : Act → World → Prop} {Q : Exit → Act → World → Prop}
    (hK : ∀ v w' mu', StM N M0 w0 (updo f o.dst e.res) (app H e.wr) mu' (a.put o.dst v) w' → K (a.put o.dst v) w') : wpOpIn (fen w0.ro) n P ops Q i K a w := by
  unfold wpOpIn
  simp only [hi]
  rcases hp with ⟨h1, h2⟩ | ⟨h1, rfl⟩
  · rw [pW_sound h hk hi h1]
    simp only [if_true]
    exact pop_wp h (opsOk_op hk hi) (hfx i o hi) h2 hK
  · rw [pW_sound h hk hi h1]
    simp only [Bool.false_eq_true, if_false]
    exact ⟨fun _ _ => trivial, hK undef w mu (h.put (fun d hd => ⟨opOk_dst (opsOk_op hk hi) d hd, hfx i o hi d hd⟩) (Rep.tup #[] [] .nil))⟩

/-! ### Every order -/

/-- Does the operation look at the slot? -/
def looks (ops : Array Oper) (o : Oper) (t : Nat) : Bool := (o.looksAt ops).contains t
/-- Must i come before j? -/
def isBef (T : Array Nat) (i j : Nat) : Bool := (T.getD j 0).testBit i
/-- All that share a slot are ordered, and the edges lead back. -/
def ordOk (ops : Array Oper) (T : Array Nat) : Bool :=
  (List.range ops.size).all fun j => match ops[j]? with
    | none => true
    | some oj => (oj.after.all fun e => !Region.binds .any e || decide (e.on < j)) && (List.range ops.size).all fun i => match ops[i]? with
      | none => true
      | some oi => match oi.dst with
        | none => true
        | some d => i == j || (if (oj.looksAt ops).contains d || oj.dst == some d then (if i < j then isBef T i j else isBef T j i) else true)
def Eff.names (e : Eff) : List Nat := (match e.rd with | some s => [s] | none => []) ++ e.wr.map (·.1)
/-- All that share a name which one of them writes are ordered. -/
def nameOk (T : Array Nat) (tr : List Eff) : Bool :=
  tr.zipIdx.all fun (e, i) => e.wr.all fun (s, _) => tr.zipIdx.all fun (e', j) => i == j || !(e'.names.contains s) || (if i < j then isBef T i j else isBef T j i)

theorem before_spec (ops : Array Oper) : ∀ j i, isBef (Region.before ops) i j = true → ∃ o e, ops[j]? = some o ∧ e ∈ o.after ∧ Region.binds .any e = true ∧ (e.on = i ∨ isBef (Region.before ops) i e.on = true) := by
  have inner : ∀ (l : List Edge) (acc : Array Nat) (s i : Nat), (l.foldl (fun s e => if Region.binds .any e then s ||| 2 ^ e.on ||| acc.getD e.on 0 else s) s).testBit i = true →
      s.testBit i = true ∨ ∃ e ∈ l, Region.binds .any e = true ∧ (e.on = i ∨ isBef acc i e.on = true) := by
    intro l acc
    induction l with
    | nil => intro s i h; exact .inl h
    | cons x l ih =>
      intro s i h
      simp only [List.foldl_cons] at h
      rcases ih _ i h with h1 | ⟨e, he, h1⟩
      · by_cases hb : Region.binds .any x = true
        · rw [if_pos hb] at h1
          simp only [Nat.testBit_or, Bool.or_eq_true] at h1
          rcases h1 with (h1 | h1) | h1
          · exact .inl h1
          · refine .inr ⟨x, by simp, hb, .inl ?_⟩
            rw [Nat.testBit_two_pow] at h1
            simpa using h1
          · exact .inr ⟨x, by simp, hb, .inr h1⟩
        · rw [if_neg hb] at h1
          exact .inl h1
      · exact .inr ⟨e, by simp [he], h1⟩
  have outer : ∀ (l : List Oper) (acc : Array Nat), (∀ k (hk : k < acc.size), True) →
      let r := l.foldl (fun acc o => acc.push (o.after.foldl (fun s e => if Region.binds .any e then s ||| 2 ^ e.on ||| acc.getD e.on 0 else s) 0)) acc
      r.size = acc.size + l.length ∧ (∀ k, k < acc.size → r.getD k 0 = acc.getD k 0) ∧
      ∀ k o, l[k]? = some o → ∀ i, isBef r i (acc.size + k) = true → ∃ e ∈ o.after, Region.binds .any e = true ∧ (e.on = i ∨ isBef r i e.on = true) := by
    intro l
    induction l with
    | nil => intro acc _; exact ⟨rfl, fun k hk => rfl, fun k o h => by simp at h⟩
    | cons x l ih =>
      intro acc _
      simp only [List.foldl_cons]
      obtain ⟨h1, h2, h3⟩ := ih (acc.push (x.after.foldl (fun s e => if Region.binds .any e then s ||| 2 ^ e.on ||| acc.getD e.on 0 else s) 0)) (fun _ _ => trivial)
      refine ⟨by rw [h1]; simp; omega, fun k hk => ?_, fun k o hk i hi => ?_⟩
      · rw [h2 k (by simp; omega)]
        simp [Array.getElem?_push, Nat.ne_of_lt hk]
      · cases k with
        | zero =>
          simp at hk
          subst hk
          unfold isBef at hi
          rw [h2 _ (by simp)] at hi
          rw [show ∀ X : Nat, (acc.push X).getD (acc.size + 0) 0 = X from fun X => by simp] at hi
          rw [← Array.foldl_toList] at hi
          rcases inner _ acc 0 i hi with h4 | ⟨e, he, hb, h4⟩
          · simp at h4
          · refine ⟨e, Array.mem_toList_iff.1 he, hb, h4.elim (fun h6 => .inl h6) fun h5 => .inr ?_⟩
            unfold isBef at h5 ⊢
            by_cases hlt : e.on < acc.size
            · rw [h2 _ (by simp; omega)]
              simpa [Array.getElem?_push, Nat.ne_of_lt hlt] using h5
            · simp [Array.getElem?_eq_none (Nat.le_of_not_lt hlt)] at h5
        | succ k =>
          have := h3 k o (by simpa using hk) i (by simp only [Array.size_push]; rw [show acc.size + 1 + k = acc.size + (k + 1) by omega]; exact hi)
          exact this
  intro j i h
  unfold Region.before at h ⊢
  rw [← Array.foldl_toList] at h ⊢
  obtain ⟨h1, h2, h3⟩ := outer ops.toList #[] (fun _ _ => trivial)
  have hj : j < ops.size := by
    rcases Nat.lt_or_ge j ops.size with hj | hj
    · exact hj
    · unfold isBef at h
      rw [Array.getD_eq_getD_getElem?, Array.getElem?_eq_none (by rw [h1]; simpa using hj)] at h
      simp at h
  obtain ⟨e, he, hb⟩ := h3 j ops[j] (by simp [hj]) i (by simpa using h)
  exact ⟨ops[j], e, by simp [hj], he, hb⟩
end
end Go.Proofs.YtefiebkngpcaoaaDoor
namespace Go.Proofs.YtefiebkngpcaoaaDoor
open Go.RowKit

def dstAt (l : List Oper) (k : Nat) : Option Tmp := (l[k]?).bind (·.dst)
/-- The slots, the names, when those of the first k that are in D have come up. -/
def fS (l : List Oper) (es : List Eff) (f : Frm) (D : Nat → Bool) : Nat → Frm
  | 0 => f
  | k + 1 => if D k then updo (fS l es f D k) (dstAt l k) (es.getD k .no).res else fS l es f D k
def hS (es : List Eff) (H : Hp) (D : Nat → Bool) : Nat → Hp
  | 0 => H
  | k + 1 => if D k then app (hS es H D k) (es.getD k .no).wr else hS es H D k
section
variable {P : Program} {N : Nat} {M0 : MM} {w0 : Ctx} {w : World} {f f' : Frm} {H H' : Hp} {mu : Nat → Option Nat} {a : Act} {o : Oper} {e : Eff} {ops : Array Oper}

theorem updo_ne {d : Option Tmp} {x : SV} {t : Nat} (h : d ≠ some t) : updo f d x t = f t := by
  cases d with
  | none => rfl
  | some u =>
    have : t ≠ u := fun e => h (by rw [e])
    simp [updo, upd, this]
theorem updo_eq {x : SV} {t : Nat} : updo f (some t) x t = x := by simp [updo, upd]
theorem app_ne : ∀ {r : List (Nat × HO)} {H : Hp} {s : Nat}, (∀ q, (s, q) ∉ r) → app H r s = H s
  | [], _, _, _ => rfl
  | (u, q) :: r, H, s, h => by
    have : s ≠ u := fun e => h q (by rw [e]; simp)
    rw [app, app_ne fun q' hq => h q' (by simp [hq])]
    simp [hup, this]
theorem app_eq : ∀ {r : List (Nat × HO)} {H H' : Hp} {s : Nat}, (∃ q, (s, q) ∈ r) → app H r s = app H' r s
  | [], _, _, _, h => by obtain ⟨q, hq⟩ := h; cases hq
  | (u, q) :: r, H, H', s, h => by
    rw [app, app]
    by_cases hr : ∃ q', (s, q') ∈ r
    · exact app_eq hr
    · have hu : s = u := by
        obtain ⟨q', hq'⟩ := h
        rcases List.mem_cons.1 hq' with h1 | h1
        · cases h1; rfl
        · exact absurd ⟨q', h1⟩ hr
      rw [app_ne fun q' hq => hr ⟨q', hq⟩, app_ne fun q' hq => hr ⟨q', hq⟩]
      simp [hup, hu]
theorem fS_agree {l : List Oper} {es : List Eff} {f : Frm} {D D' : Nat → Bool} {t : Nat} : ∀ m, (∀ k, k < m → dstAt l k = some t → D k = D' k) → fS l es f D m t = fS l es f D' m t
  | 0, _ => rfl
  | m + 1, h => by
    have ih := fS_agree (es := es) (f := f) m fun k hk => h k (by omega)
    have aux : ∀ E : Nat → Bool, fS l es f E (m + 1) t = if E m ∧ dstAt l m = some t then (es.getD m .no).res else fS l es f E m t := by
      intro E
      simp only [fS]
      by_cases hE : E m = true
      · by_cases hd : dstAt l m = some t
        · simp only [hE, hd, if_true, and_self, updo_eq]
        · simp only [hE, hd, if_true, and_false, if_false, updo_ne hd]
      · simp [hE]
    rw [aux D, aux D', ih]
    by_cases hd : dstAt l m = some t
    · rw [h m (by omega) hd]
    · simp [hd]
theorem fS_tail {l : List Oper} {es : List Eff} {f : Frm} {D : Nat → Bool} {t m : Nat} : ∀ n, m ≤ n → (∀ k, m ≤ k → k < n → dstAt l k = some t → D k = false) → fS l es f D n t = fS l es f D m t
  | 0, h, _ => by rw [show m = 0 by omega]
  | n + 1, h, hh => by
    rcases Nat.lt_or_ge n m with h1 | h1
    · rw [show m = n + 1 by omega]
    · rw [← fS_tail n h1 fun k a b => hh k a (by omega)]
      simp only [fS]
      by_cases hE : D n = true
      · have hd : dstAt l n ≠ some t := fun hd => by rw [hh n h1 (by omega) hd] at hE; cases hE
        simp only [hE, if_true, updo_ne hd]
      · simp [hE]
theorem hS_agree {es : List Eff} {H : Hp} {D D' : Nat → Bool} {s : Nat} : ∀ m, (∀ k, k < m → (∃ q, (s, q) ∈ (es.getD k .no).wr) → D k = D' k) → hS es H D m s = hS es H D' m s
  | 0, _ => rfl
  | m + 1, h => by
    have ih := hS_agree (es := es) (H := H) m fun k hk => h k (by omega)
    simp only [hS]
    by_cases hw : ∃ q, (s, q) ∈ (es.getD m .no).wr
    · rw [h m (by omega) hw]
      by_cases hE : D' m = true
      · simp only [hE, if_true]
        exact app_eq hw
      · simp [hE, ih]
    · have hw' : ∀ q, (s, q) ∉ (es.getD m .no).wr := fun q hq => hw ⟨q, hq⟩
      by_cases hE : D m = true <;> by_cases hE' : D' m = true <;> simp only [hE, hE', if_true, if_false, Bool.false_eq_true, app_ne hw', ih]
theorem hS_tail {es : List Eff} {H : Hp} {D : Nat → Bool} {s m : Nat} : ∀ n, m ≤ n → (∀ k, m ≤ k → k < n → (∃ q, (s, q) ∈ (es.getD k .no).wr) → D k = false) → hS es H D n s = hS es H D m s
  | 0, h, _ => by rw [show m = 0 by omega]
  | n + 1, h, hh => by
    rcases Nat.lt_or_ge n m with h1 | h1
    · rw [show m = n + 1 by omega]
    · rw [← hS_tail n h1 fun k a b => hh k a (by omega)]
      simp only [hS]
      by_cases hE : D n = true
      · have hd : ∀ q, (s, q) ∉ (es.getD n .no).wr := fun q hq => by rw [hh n h1 (by omega) ⟨q, hq⟩] at hE; cases hE
        simp only [hE, if_true, app_ne hd]
      · simp [hE]
theorem fS_cons {o : Oper} {l : List Oper} {e : Eff} {es : List Eff} {f : Frm} : ∀ k, fS (o :: l) (e :: es) f (fun _ => true) (k + 1) = fS l es (updo f o.dst e.res) (fun _ => true) k
  | 0 => by simp [fS, dstAt]
  | k + 1 => by
    rw [fS, fS_cons k]
    simp [fS, dstAt]
theorem hS_cons {e : Eff} {es : List Eff} {H : Hp} : ∀ k, hS (e :: es) H (fun _ => true) (k + 1) = hS es (app H e.wr) (fun _ => true) k
  | 0 => by simp [hS]
  | k + 1 => by
    rw [hS, hS_cons k]
    simp [hS]
/-- The walk's effects, and the state at each of its steps. -/
theorem pSeq_trace {Q : List Eff → Frm → Hp → Prop} : ∀ (l : List Oper) (tr : List Eff) (f : Frm) (H : Hp), pSeq P ops Q l tr f H →
    ∃ es : List Eff, es.length = l.length ∧ (∀ (k : Nat) (o : Oper), l[k]? = some o → PStep P ops o (fS l es f (fun _ => true) k) (hS es H (fun _ => true) k) (es.getD k .no)) ∧
      Q (tr ++ es) (fS l es f (fun _ => true) l.length) (hS es H (fun _ => true) l.length)
  | [], tr, f, H, h => ⟨[], rfl, fun k o hk => by simp at hk, by simpa [fS, hS, pSeq] using h⟩
  | o :: l, tr, f, H, h => by
    obtain ⟨e, h1, h2⟩ := h
    obtain ⟨es, g1, g2, g3⟩ := pSeq_trace l _ _ _ h2
    refine ⟨e :: es, by simp [g1], fun k o' hk => ?_, ?_⟩
    · cases k with
      | zero => simp at hk; subst hk; exact h1
      | succ k =>
        rw [fS_cons, hS_cons]
        exact g2 k o' (by simpa using hk)
    · rw [List.length_cons, fS_cons, hS_cons]
      simpa using g3

theorem names_rd {e : Eff} {s : Nat} (h : e.rd = some s) : s ∈ e.names := by simp [Eff.names, h]
theorem names_wr {e : Eff} {s : Nat} {q : HO} (h : (s, q) ∈ e.wr) : s ∈ e.names := by simp only [Eff.names, List.mem_append, List.mem_map]; exact .inr ⟨_, h, rfl⟩
/-- A list of those that have come up. -/
def DL (listed : Array Bool) : Nat → Bool := fun k => listed.getD k false
theorem ordOk_edge (h : ordOk ops (Region.before ops) = true) {j : Nat} {oj : Oper} (hj : ops[j]? = some oj) : ∀ e ∈ oj.after, Region.binds .any e = true → e.on < j := by
  simp only [ordOk, List.all_eq_true, List.mem_range] at h
  have := h j (Array.getElem?_eq_some_iff.1 hj).1
  simp only [hj, Bool.and_eq_true, Array.all_eq_true_iff_forall_mem] at this
  intro e he hb
  have := this.1 e he
  simpa [hb] using this
theorem ordOk_slot (h : ordOk ops (Region.before ops) = true) {i j : Nat} {oi oj : Oper} (hi : ops[i]? = some oi) (hj : ops[j]? = some oj) (hne : i ≠ j) {d : Tmp} (hd : oi.dst = some d) (hl : d ∈ oj.looksAt ops ∨ oj.dst = some d) :
    if i < j then isBef (Region.before ops) i j = true else isBef (Region.before ops) j i = true := by
  simp only [ordOk, List.all_eq_true, List.mem_range] at h
  have := h j (Array.getElem?_eq_some_iff.1 hj).1
  simp only [hj, Bool.and_eq_true, List.all_eq_true, List.mem_range] at this
  have := this.2 i (Array.getElem?_eq_some_iff.1 hi).1
  have hc : ((oj.looksAt ops).contains d || oj.dst == some d) = true := by
    rcases hl with hl | hl
    · simp [hl]
    · simp [hl]
  simp only [hi, hd, hc, if_true, Bool.or_eq_true, beq_iff_eq, hne, false_or] at this
  split <;> simp_all
theorem nameOk_spec {T : Array Nat} {tr : List Eff} (h : nameOk T tr = true) {i j : Nat} {e e' : Eff} (hi : tr[i]? = some e) (hj : tr[j]? = some e') (hne : i ≠ j) {s : Nat} {q : HO} (hw : (s, q) ∈ e.wr) (hs : s ∈ e'.names) :
    if i < j then isBef T i j = true else isBef T j i = true := by
  simp only [nameOk, List.all_eq_true] at h
  have h1 := h (e, i) (by rw [List.mem_zipIdx_iff_getElem?]; exact hi)
  simp only [List.all_eq_true] at h1
  have h2 := h1 (s, q) hw (e', j) (by rw [List.mem_zipIdx_iff_getElem?]; exact hj)
  have hc : e'.names.contains s = true := by simp [hs]
  simp only [hc, Bool.or_eq_true, beq_iff_eq, hne, false_or, Bool.not_true, Bool.false_eq_true] at h2
  split <;> simp_all
/-- Closed: with each all that must come before it. -/
def Clo (ops : Array Oper) (listed : Array Bool) : Prop := ∀ i j, isBef (Region.before ops) i j = true → listed.getD j false = true → listed.getD i false = true
theorem ready_clo {listed : Array Bool} (hsz : listed.size = ops.size) (hc : Clo ops listed) {j : Nat} (hj : j ∈ Region.ready .any ops listed) : Clo ops (listed.setIfInBounds j true) ∧ ∀ i, isBef (Region.before ops) i j = true → listed.getD i false = true := by
  obtain ⟨hun, oj, hoj, hall⟩ := mem_ready.1 hj
  have hbef : ∀ i, isBef (Region.before ops) i j = true → listed.getD i false = true := by
    intro i hi
    obtain ⟨o, e, ho, he, hb, h2⟩ := before_spec ops j i hi
    rw [hoj] at ho
    cases ho
    rcases h2 with h2 | h2
    · rw [← h2]; exact hall e he hb
    · exact hc i e.on h2 (hall e he hb)
  refine ⟨fun i k hik hk => ?_, hbef⟩
  by_cases hkj : k = j
  · subst hkj
    exact getD_set_true (hbef i hik)
  · rw [getD_set_ne false (Ne.symm hkj)] at hk
    exact getD_set_true (hc i k hik hk)

variable {es : List Eff} {f0 : Frm} {H0 : Hp}
/-- Behind those that have come up, one more that may come up finds all that it looks at as in the text's order. -/
theorem any_sound {n : Nat} (hk : opsOk N ops = true) (hfx : FixOk w0 ops) (ho : ordOk ops (Region.before ops) = true) (hlen : es.length = ops.size) (hn : nameOk (Region.before ops) es = true)
    (hstep : ∀ (k : Nat) (o : Oper), ops[k]? = some o → PStep P ops o (fS ops.toList es f0 (fun _ => true) k) (hS es H0 (fun _ => true) k) (es.getD k .no))
    {Q : Exit → Act → World → Prop} (hQ : ∀ a w mu, StM N M0 w0 (fS ops.toList es f0 (fun _ => true) ops.size) (hS es H0 (fun _ => true) ops.size) mu a w → Q .normal a w) :
    ∀ (fuel : Nat) (U : List Nat) (listed : Array Bool) (a : Act) (w : World) (mu : Nat → Option Nat), listed.size = ops.size → Clo ops listed → U.Nodup → (∀ i, i < ops.size → (listed.getD i true = false ↔ i ∈ U)) → U.length ≤ fuel →
      StM N M0 w0 (fS ops.toList es f0 (DL listed) ops.size) (hS es H0 (DL listed) ops.size) mu a w → wpAnyIn (fen w0.ro) n P .any ops Q fuel listed a w := by
  have hdst : ∀ k, k < ops.size → dstAt ops.toList k = (ops[k]?).bind (·.dst) := fun k _ => by simp [dstAt]
  have done : ∀ (U : List Nat) (listed : Array Bool), listed.size = ops.size → (∀ i, i < ops.size → (listed.getD i true = false ↔ i ∈ U)) → Clo ops listed → Region.ready .any ops listed = [] → ∀ i, i < ops.size → DL listed i = true := by
    intro U listed hsz hU hc hr
    intro i
    induction i using Nat.strongRecOn with
    | _ i ih =>
      intro hi
      by_cases hl : listed.getD i false = true
      · exact hl
      · exfalso
        have hmem : i ∈ Region.ready .any ops listed := by
          refine mem_ready.2 ⟨?_, ops[i], by simp [hi], fun e he hb => ?_⟩
          · have : i < listed.size := by omega
            simp [this] at hl ⊢
            exact hl
          · have := ordOk_edge ho (j := i) (oj := ops[i]) (by simp [hi]) e he hb
            exact ih e.on this (by omega)
        rw [hr] at hmem
        cases hmem
  have fin : ∀ (U : List Nat) (listed : Array Bool) (a : Act) (w : World) (mu : Nat → Option Nat), listed.size = ops.size → (∀ i, i < ops.size → (listed.getD i true = false ↔ i ∈ U)) → Clo ops listed →
      StM N M0 w0 (fS ops.toList es f0 (DL listed) ops.size) (hS es H0 (DL listed) ops.size) mu a w → Region.ready .any ops listed = [] → Q .normal a w := by
    intro U listed a w mu hsz hU hc h hr
    have hall := done U listed hsz hU hc hr
    have e1 : fS ops.toList es f0 (DL listed) ops.size = fS ops.toList es f0 (fun _ => true) ops.size := funext fun t => fS_agree _ fun k hk _ => hall k hk
    have e2 : hS es H0 (DL listed) ops.size = hS es H0 (fun _ => true) ops.size := funext fun t => hS_agree _ fun k hk _ => hall k hk
    rw [e1, e2] at h
    exact hQ a w mu h
  intro fuel
  induction fuel with
  | zero =>
    intro U listed a w mu hsz hc hnd hU hlen' h
    have hU0 : U = [] := List.eq_nil_of_length_eq_zero (by omega)
    have hr : Region.ready .any ops listed = [] := by
      cases hh : Region.ready .any ops listed with
      | nil => rfl
      | cons i l =>
        exfalso
        obtain ⟨hun, o, hoi, -⟩ := mem_ready.1 (show i ∈ Region.ready .any ops listed by rw [hh]; simp)
        have := (hU i (Array.getElem?_eq_some_iff.1 hoi).1).1 hun
        rw [hU0] at this
        cases this
    exact ⟨hr, fin U listed a w mu hsz hU hc h hr⟩
  | succ fuel ih =>
    intro U listed a w mu hsz hc hnd hU hlen' h
    refine ⟨fin U listed a w mu hsz hU hc h, fun j hj => ?_⟩
    obtain ⟨hun, oj, hoj, hall⟩ := mem_ready.1 hj
    have hjn : j < ops.size := (Array.getElem?_eq_some_iff.1 hoj).1
    obtain ⟨hc', hbef⟩ := ready_clo hsz hc hj
    have hjl : DL listed j = false := by
      have : j < listed.size := by omega
      simp [DL, this] at hun ⊢
      exact hun
    -- which writers of what j looks at have come up
    have key : ∀ k, k < ops.size → k ≠ j → (if k < j then isBef (Region.before ops) k j = true else isBef (Region.before ops) j k = true) → DL listed k = decide (k < j) := by
      intro k hk hkj hb
      by_cases hlt : k < j
      · rw [if_pos hlt] at hb
        simp only [hlt, decide_true]
        exact hbef k hb
      · rw [if_neg hlt] at hb
        simp only [hlt, decide_false]
        by_cases hkl : DL listed k = true
        · have := hc j k hb hkl
          rw [show listed.getD j false = DL listed j from rfl, hjl] at this
          cases this
        · simpa using hkl
    have text : fS ops.toList es f0 (fun _ => true) j = fS ops.toList es f0 (fun k => decide (k < j)) ops.size := by
      funext t
      rw [fS_tail ops.size (Nat.le_of_lt hjn) (D := fun k => decide (k < j)) fun k h1 h2 _ => by simp; omega]
      exact fS_agree _ fun k hk _ => by simp [hk]
    have textH : hS es H0 (fun _ => true) j = hS es H0 (fun k => decide (k < j)) ops.size := by
      funext t
      rw [hS_tail ops.size (Nat.le_of_lt hjn) (D := fun k => decide (k < j)) fun k h1 h2 _ => by simp; omega]
      exact hS_agree _ fun k hk _ => by simp [hk]
    have slot : ∀ t, (t ∈ oj.looksAt ops) → fS ops.toList es f0 (fun _ => true) j t = fS ops.toList es f0 (DL listed) ops.size t := by
      intro t ht
      rw [text]
      refine fS_agree _ fun k hk hd => ?_
      rw [hdst k hk] at hd
      by_cases hkj : k = j
      · subst hkj; rw [hjl]; simp
      · obtain ⟨ok, hok, hdk⟩ := Option.bind_eq_some_iff.1 hd
        exact (key k hk hkj (ordOk_slot ho hok hoj hkj hdk (.inl ht))).symm
    have name : ∀ s, s ∈ (es.getD j .no).names → hS es H0 (fun _ => true) j s = hS es H0 (DL listed) ops.size s := by
      intro s hs
      rw [textH]
      refine hS_agree _ fun k hk hq => ?_
      by_cases hkj : k = j
      · subst hkj; rw [hjl]; simp
      · obtain ⟨q, hq⟩ := hq
        have hke : es[k]? = some (es.getD k .no) := by simp [show k < es.length by omega]
        have hje : es[j]? = some (es.getD j .no) := by simp [show j < es.length by omega]
        exact (key k hk hkj (nameOk_spec hn hke hje hkj hq hs)).symm
    have hp := hstep j oj hoj
    have hp' : PStep P ops oj (fS ops.toList es f0 (DL listed) ops.size) (hS es H0 (DL listed) ops.size) (es.getD j .no) := by
      have hpw : pW ops (fS ops.toList es f0 (fun _ => true) j) oj = pW ops (fS ops.toList es f0 (DL listed) ops.size) oj :=
        pW_local fun t g want hg ht => slot t (by simp [Oper.looksAt, hg, ht])
      rcases hp with ⟨h1, h2⟩ | ⟨h1, h2⟩
      · refine .inl ⟨hpw ▸ h1, pop_local h2 (fun x hx => ?_) fun s hs => name s ?_⟩
        · cases x with
          | tmp t => exact slot t (List.mem_append_left _ (List.mem_filterMap.2 ⟨.tmp t, hx, rfl⟩))
          | _ => rfl
        · rcases hs with hs | ⟨q, hs⟩
          · exact names_rd hs
          · exact names_wr hs
      · exact .inr ⟨hpw ▸ h1, h2⟩
    refine pstep_wpOp h hk hfx hoj hp' fun v w' mu' hs => ?_
    have hDL : ∀ k, DL (listed.setIfInBounds j true) k = if k = j then true else DL listed k := by
      intro k
      by_cases hkj : k = j
      · subst hkj; simp [DL, show k < listed.size by omega]
      · simp only [DL, getD_set_ne false (Ne.symm hkj), hkj, if_false]
    have e1 : updo (fS ops.toList es f0 (DL listed) ops.size) oj.dst (es.getD j .no).res = fS ops.toList es f0 (DL (listed.setIfInBounds j true)) ops.size := by
      funext t
      by_cases hd : oj.dst = some t
      · rw [hd, updo_eq]
        rw [fS_tail (m := j + 1) ops.size hjn (D := DL (listed.setIfInBounds j true)) ?_]
        · rw [fS, hDL, if_pos rfl, if_pos rfl, hdst j hjn, hoj]
          simp only [Option.bind_some, hd, updo_eq]
        · intro k hk1 hk2 hdk
          rw [hDL, if_neg (by omega)]
          rw [hdst k hk2] at hdk
          obtain ⟨ok, hok, hdk'⟩ := Option.bind_eq_some_iff.1 hdk
          rw [key k hk2 (by omega) (ordOk_slot ho hok hoj (by omega) hdk' (.inr hd))]
          simp; omega
      · rw [updo_ne hd]
        refine fS_agree _ fun k hk hdk => ?_
        have hkj : k ≠ j := by
          intro e
          subst e
          rw [hdst k hk, hoj] at hdk
          exact hd hdk
        rw [hDL, if_neg hkj]
    have e2 : app (hS es H0 (DL listed) ops.size) (es.getD j .no).wr = hS es H0 (DL (listed.setIfInBounds j true)) ops.size := by
      funext s
      by_cases hq : ∃ q, (s, q) ∈ (es.getD j .no).wr
      · have hqq := hq
        obtain ⟨q, hq⟩ := hq
        rw [hS_tail (m := j + 1) ops.size hjn (D := DL (listed.setIfInBounds j true)) ?_]
        · rw [hS, hDL, if_pos rfl, if_pos rfl]
          exact app_eq hqq
        · intro k hk1 hk2 hqk
          rw [hDL, if_neg (by omega)]
          obtain ⟨q', hq'⟩ := hqk
          have hke : es[k]? = some (es.getD k .no) := by simp [show k < es.length by omega]
          have hje : es[j]? = some (es.getD j .no) := by simp [show j < es.length by omega]
          rw [key k hk2 (by omega) (nameOk_spec hn hke hje (by omega) hq' (names_wr hq))]
          simp; omega
      · rw [app_ne fun q hq' => hq ⟨q, hq'⟩]
        refine hS_agree _ fun k hk hqk => ?_
        have hkj : k ≠ j := by intro e; subst e; exact hq hqk
        rw [hDL, if_neg hkj]
    rw [e1, e2] at hs
    have hjU : j ∈ U := (hU j hjn).1 hun
    refine ih (U.erase j) _ _ w' mu' (by simp [hsz]) hc' (hnd.erase j) (fun i hi => ?_) (by rw [List.length_erase_of_mem hjU]; omega) hs
    rw [hnd.mem_erase_iff, ← hU i hi]
    by_cases hij : i = j
    · subst hij
      simp [show i < listed.size by omega]
    · rw [getD_set_ne true (Ne.symm hij)]
      simp [hij]
end
end Go.Proofs.YtefiebkngpcaoaaDoor
namespace Go.Proofs.YtefiebkngpcaoaaDoor
open Go.RowKit
section
variable {P : Program} {N : Nat} {M0 M0' : MM} {C : Ctx} {w w' : World} {f f' : Frm} {H H' : Hp} {mu mu' : Nat → Option Nat} {a a' : Act}

theorem SRep.others (hst : Stay (Mut M0 H mu) w (Mut M0' H mu) w') (hb : ∀ s b, H s ≠ .none → mu s = some b → w'.heap[b]? = w.heap[b]?) {v : Value} {x : SV} (h : SRep M0 H mu w v x) : SRep M0' H mu w' v x := by
  have sal : ∀ {vs : List Value} {xs : List SA}, SAL M0 H mu w vs xs → SAL M0' H mu w' vs xs := fun h => ⟨h.1, fun j v x h1 h2 => by
    have := h.2 j v x h1 h2
    cases x with
    | d x => exact Rep.mono hst this
    | loc s off => exact this⟩
  cases x with
  | d x => exact Rep.mono hst h
  | own r n cs =>
    obtain ⟨h0, e, size, k, h1, h2, h3⟩ := h
    refine ⟨Rep.mono hst h0, e, size, k, h1, h2, fun hk => ?_⟩
    obtain ⟨h4, h5⟩ := h3 hk
    refine ⟨h4, ?_⟩
    rcases h5 with h5 | ⟨g, cap, cur, a1, a2, a3, a4⟩
    · exact .inl h5
    · exact .inr ⟨g, cap, cur, a1, a2, (hb r g (by rw [h1]; simp) a2).trans a3, a4⟩
  | clo g first cap =>
    obtain ⟨vs, us, h1, h2, h3⟩ := h
    exact ⟨vs, us, h1, sal h2, sal h3⟩
  | loc s off => exact h
  | bs s off n cap => exact h
  | vec r ver n =>
    obtain ⟨h0, e, sz, ver1, cs, h1, h2, h3⟩ := h
    refine ⟨h0, e, sz, ver1, cs, h1, h2, fun hv => ?_⟩
    obtain ⟨g1, g2⟩ := h3 hv
    refine ⟨g1, ?_⟩
    rcases g2 with g2 | ⟨g, cap, cur, e', a1, a2, a3, a4⟩
    · exact .inl g2
    · exact .inr ⟨g, cap, cur, e', a1, a2, (hb r g (by rw [h1]; simp) a2).trans a3, a4⟩
  | vptr r ver off => exact h
  | nil => exact h
  | yld l => exact h
  | trace l pre rest => trivial
  | stop => trivial
  | junk => trivial

/-- A round of the caller's, seen by the iterator. -/
theorem StM.yielded (h : StM N M0 C f H mu a w) (hp : ¬ C.pure) {Mc' : Addr → Prop} (kp : Keep M0.c w Mc' w') (hbd : ∀ x, Mc' x → x.block < w'.heap.size) (hf : ∀ t, t < N → f' t = f t)
    (htr : ∀ l pre rest, f' TR = .trace l pre rest → C.J l pre rest Mc' (Mine M0 H mu) w') (hst : f' TR = .stop → C.Jx Mc' (Mine M0 H mu) w') : StM N ⟨Mc', M0.x⟩ C f' H mu a w' := by
  have hstay : Stay (Mut M0 H mu) w (Mut ⟨Mc', M0.x⟩ H mu) w' := fun y u h1 h2 => by
    obtain ⟨g1, g2⟩ := kp.cell y u h1 fun h3 => h2 (.inl (.inl h3))
    exact ⟨g1, fun h3 => h3.elim (fun h4 => h4.elim g2 fun h5 => h2 (.inl (.inr h5))) fun h4 => h2 (.inr h4)⟩
  have hnb : ∀ s b, H s ≠ .none → mu s = some b → w'.heap[b]? = w.heap[b]? ∧ ∀ y : Addr, y.block = b → ¬ Mc' y := fun s b h1 h2 => kp.blk b (h.mu_lt h1 h2) fun y hy h3 => h.sep s b h1 h2 y hy (.inl h3)
  have hsr : ∀ {v : Value} {x : SV}, SRep M0 H mu w v x → SRep ⟨Mc', M0.x⟩ H mu w' v x := fun h => SRep.others hstay (fun s b h1 h2 => (hnb s b h1 h2).1) h
  refine ⟨fun d hd => ?_, h.nodup, h.rdef, h.size, h.nle, fun t ht => ?_, Nat.le_trans h.base kp.size, ⟨kp.os.trans h.osq.1, kp.tape.trans h.osq.2.1, kp.output.trans h.osq.2.2⟩, fun h1 => absurd h1 hp, fun h1 => absurd h1 hp, ?_, h.xeq, fun x hx y hy hc => ?_, fun x hx => ?_,
    fun s b h1 h2 x hx h3 => ?_, fun s cs hs => ?_, fun r e size k hr => ?_, fun r e sz ver cs hr => ?_, h.inj, h.same, fun l pre rest ht => ⟨hp, htr l pre rest ht⟩, fun ht => ⟨hp, hst ht⟩, fun l hl => ?_, h.mono.trans C.fp (Steps.same fun s b h1 h2 => (hnb s b h1 h2).1), h.gl.mono hstay⟩
  · obtain ⟨D, e1, e2, e3, e4⟩ := h.marks d hd
    exact ⟨D, e1, e2, (kp.blk D (Array.getElem?_eq_some_iff.1 e3).1 fun y hy => h.xc y (e4 y hy) y rfl).1.trans e3, e4⟩
  · rw [hf t ht]; exact hsr (h.slots t ht)
  · refine ⟨kp.os.trans h.keep.os, kp.tape.trans h.keep.tape, kp.output.trans h.keep.output, Nat.le_trans h.keep.size kp.size, fun x u h1 h2 => ?_, fun b hb hm => ?_⟩
    · obtain ⟨g1, g2⟩ := h.keep.cell x u h1 h2
      obtain ⟨k1, k2⟩ := kp.cell x u g1 fun h3 => g2 (.inl h3)
      exact ⟨k1, fun h3 => h3.elim k2 fun h4 => g2 (.inr h4)⟩
    · obtain ⟨g1, g2⟩ := h.keep.blk b hb hm
      obtain ⟨k1, k2⟩ := kp.blk b (Nat.lt_of_lt_of_le hb h.keep.size) fun y hy h3 => g2 y hy (.inl h3)
      exact ⟨k1.trans g1, fun y hy h3 => h3.elim (k2 y hy) fun h4 => g2 y hy (.inr h4)⟩
  · exact (kp.blk x.block (h.old x (.inr hx)) fun z hz => h.xc x hx z hz).2 y hy hc
  · exact hx.elim (hbd x) fun h1 => Nat.lt_of_lt_of_le (h.old x (.inr h1)) kp.size
  · exact h3.elim ((hnb s b h1 h2).2 x hx) fun h4 => h.sep s b h1 h2 x hx (.inr h4)
  · obtain ⟨b, arr, e, h1, h2, h3, h4, h5⟩ := h.box s cs hs
    exact ⟨b, arr, e, h1, h2, (hnb s b (by rw [hs]; simp) h1).1.trans h3, h4, fun j x hj => ⟨hsr (h5 j x hj).1, (h5 j x hj).2⟩⟩
  · rcases h.row r e size k hr with h1 | ⟨g, h1, h2, h3⟩
    · exact .inl h1
    · exact .inr ⟨g, h1, h2, Nat.lt_of_lt_of_le h3 kp.size⟩
  · rcases h.vec r e sz ver cs hr with h1 | ⟨g, cur, h1, h2, h3, h4, h5, h6⟩
    · exact .inl h1
    · exact .inr ⟨g, cur, h1, h2, (hnb r g (by rw [hr]; simp) h1).1.trans h3, h4, h5, fun j x hj => hsr (h6 j x hj)⟩
  · obtain ⟨⟨r, g1⟩, g2⟩ := h.rnd l hl
    exact ⟨⟨r, (kp.blk l (Array.getElem?_eq_some_iff.1 g1).1 fun y hy => h.xc y (g2 y hy) y rfl).1.trans g1⟩, g2⟩

/-- An iterator's own steps, seen by the caller. -/
theorem StM.inner {c x Mi Mi' : Addr → Prop} (h : StM N ⟨c, fun y => x y ∨ Mi y⟩ C f H mu a w) (kp : Keep Mi w Mi' w') (hbd : ∀ y, Mi' y → y.block < w'.heap.size) {B0 : Nat} (hB1 : C.w1.heap.size ≤ B0) (hB : C.w.heap.size ≤ B0) (hB0 : B0 ≤ w.heap.size)
    (hmi : ∀ y, Mi y → B0 ≤ y.block) (hD : ∀ d ∈ a.defers, ∀ D, d.target = .collected D → ∀ y : Addr, y.block = D → ¬ Mi y) (hro : ∀ l, C.ro = some l → ∀ y : Addr, y.block = l → ¬ Mi y) :
    StM N ⟨c, fun y => x y ∨ Mi' y⟩ C f H mu a w' ∧ ∀ y, Mi' y → B0 ≤ y.block := by
  have hmi' : ∀ y, Mi' y → B0 ≤ y.block := fun y hy => by
    rcases Nat.lt_or_ge y.block B0 with h1 | h1
    · exact absurd hy ((kp.blk y.block (by omega) fun z hz h2 => by have := hmi z h2; omega).2 y rfl)
    · exact h1
  have low : ∀ b, b < B0 → w'.heap[b]? = w.heap[b]? := fun b hb => (kp.blk b (by omega) fun z hz h2 => by have := hmi z h2; omega).1
  have hstay : Stay (Mut ⟨c, fun y => x y ∨ Mi y⟩ H mu) w (Mut ⟨c, fun y => x y ∨ Mi' y⟩ H mu) w' := fun y u h1 h2 => by
    obtain ⟨g1, g2⟩ := kp.cell y u h1 fun h3 => h2 (.inl (.inr (.inr h3)))
    exact ⟨g1, fun h3 => h3.elim (fun h4 => h4.elim (fun h5 => h2 (.inl (.inl h5))) fun h5 => h5.elim (fun h6 => h2 (.inl (.inr (.inl h6)))) g2) fun h4 => h2 (.inr h4)⟩
  have hnb : ∀ s b, H s ≠ .none → mu s = some b → w'.heap[b]? = w.heap[b]? ∧ ∀ y : Addr, y.block = b → ¬ Mi' y := fun s b h1 h2 => kp.blk b (h.mu_lt h1 h2) fun y hy h3 => h.sep s b h1 h2 y hy (.inr (.inr h3))
  have hsr : ∀ {v : Value} {y : SV}, SRep ⟨c, fun y => x y ∨ Mi y⟩ H mu w v y → SRep ⟨c, fun y => x y ∨ Mi' y⟩ H mu w' v y := fun h => SRep.others hstay (fun s b h1 h2 => (hnb s b h1 h2).1) h
  have hold : ∀ y, (⟨c, fun y => x y ∨ Mi' y⟩ : MM).all y → y.block < w'.heap.size := fun y hy => hy.elim (fun h1 => Nat.lt_of_lt_of_le (h.old y (.inl h1)) kp.size) fun h1 => h1.elim (fun h2 => Nat.lt_of_lt_of_le (h.old y (.inr (.inl h2))) kp.size) (hbd y)
  have kmine : Keep (Mine ⟨c, fun y => x y ∨ Mi y⟩ H mu) w (Mine ⟨c, fun y => x y ∨ Mi' y⟩ H mu) w' :=
    ⟨kp.os, kp.tape, kp.output, kp.size, fun y u h1 h2 => have ⟨g1, g2⟩ := kp.cell y u h1 fun h3 => h2 (.inl (.inr h3)); ⟨g1, fun h3 => h3.elim (fun h4 => h4.elim (fun h5 => h2 (.inl (.inl h5))) g2) fun h4 => h2 (.inr h4)⟩,
      fun b hb hm => have ⟨g1, g2⟩ := kp.blk b hb fun y hy h3 => hm y hy (.inl (.inr h3)); ⟨g1, fun y hy h3 => h3.elim (fun h4 => h4.elim (fun h5 => hm y hy (.inl (.inl h5))) (g2 y hy)) fun h4 => hm y hy (.inr h4)⟩⟩
  have hmb : ∀ y, Mine ⟨c, fun y => x y ∨ Mi' y⟩ H mu y → y.block < w'.heap.size := fun y hy => hy.elim (fun h1 => hold y (.inr h1)) fun h1 => Nat.lt_of_lt_of_le (h.named_lt h1).2 kp.size
  refine ⟨⟨fun d hd => ?_, h.nodup, h.rdef, h.size, h.nle, fun t ht => hsr (h.slots t ht), Nat.le_trans h.base kp.size, ⟨kp.os.trans h.osq.1, kp.tape.trans h.osq.2.1, kp.output.trans h.osq.2.2⟩, fun hp => ?_, h.cp, ?_, fun y hy => ?_, fun z hz y hy hc => ?_, hold,
    fun s b h1 h2 y hy h3 => ?_, fun s cs hs => ?_, fun r e size k hr => ?_, fun r e sz ver cs hr => ?_, h.inj, h.same, fun l pre rest ht => ?_, fun ht => ?_, fun l hl => ?_, h.mono.trans C.fp (Steps.same fun s b h1 h2 => (hnb s b h1 h2).1), h.gl.mono hstay⟩, hmi'⟩
  · obtain ⟨D, e1, e2, e3, e4⟩ := h.marks d hd
    have hno := hD d hd D (by rw [e1])
    exact ⟨D, e1, e2, (kp.blk D (Array.getElem?_eq_some_iff.1 e3).1 hno).1.trans e3, fun y hy => (e4 y hy).elim .inl fun h1 => absurd h1 (hno y hy)⟩
  · have hb := h.below hp
    exact ⟨kp.os.trans hb.os, kp.tape.trans hb.tape, kp.output.trans hb.output, Nat.le_trans hb.size kp.size, fun k hk hf => (low k (by omega)).trans (hb.block k hk hf)⟩
  · refine ⟨kp.os.trans h.keep.os, kp.tape.trans h.keep.tape, kp.output.trans h.keep.output, Nat.le_trans h.keep.size kp.size, fun y u h1 h2 => ?_, fun b hb hm => ?_⟩
    · obtain ⟨g1, g2⟩ := h.keep.cell y u h1 h2
      obtain ⟨k1, k2⟩ := kp.cell y u g1 fun h3 => g2 (.inr (.inr ⟨.inr h3, Nat.le_trans hB1 (hmi y h3)⟩))
      exact ⟨k1, fun h3 => h3.elim (fun h4 => g2 (.inl h4)) fun h4 => h4.elim (fun h5 => g2 (.inr (.inl h5))) fun h5 => h5.1.elim (fun h6 => g2 (.inr (.inr ⟨.inl h6, h5.2⟩))) k2⟩
    · obtain ⟨g1, g2⟩ := h.keep.blk b hb hm
      exact ⟨(low b (by omega)).trans g1, fun y hy h3 => h3.elim (fun h4 => g2 y hy (.inl h4)) fun h4 => h4.elim (fun h5 => g2 y hy (.inr (.inl h5))) fun h5 => h5.1.elim (fun h6 => g2 y hy (.inr (.inr ⟨.inl h6, h5.2⟩))) fun h6 => by have := hmi' y h6; omega⟩
  · rw [← h.xeq y hy]
    have e1 : ¬ Mi y := fun h1 => by have := hmi y h1; omega
    have e2 : ¬ Mi' y := fun h1 => by have := hmi' y h1; omega
    simp [e1, e2]
  · rcases hz with h1 | h1
    · exact h.xc z (.inl h1) y hy hc
    · rcases Nat.lt_or_ge z.block w.heap.size with h2 | h2
      · by_cases h3 : ∃ z0 : Addr, z0.block = z.block ∧ Mi z0
        · obtain ⟨z0, h4, h5⟩ := h3
          exact h.xc z0 (.inr h5) y (hy.trans h4.symm) hc
        · exact (kp.blk z.block h2 fun z0 h4 h5 => h3 ⟨z0, h4, h5⟩).2 z rfl h1
      · have := h.old y (.inl hc)
        omega
  · exact h3.elim (fun h4 => h.sep s b h1 h2 y hy (.inl h4)) fun h4 => h4.elim (fun h5 => h.sep s b h1 h2 y hy (.inr (.inl h5))) ((hnb s b h1 h2).2 y hy)
  · obtain ⟨b, arr, e, h1, h2, h3, h4, h5⟩ := h.box s cs hs
    exact ⟨b, arr, e, h1, h2, (hnb s b (by rw [hs]; simp) h1).1.trans h3, h4, fun j y hj => ⟨hsr (h5 j y hj).1, (h5 j y hj).2⟩⟩
  · rcases h.row r e size k hr with h1 | ⟨g, h1, h2, h3⟩
    · exact .inl h1
    · exact .inr ⟨g, h1, h2, Nat.lt_of_lt_of_le h3 kp.size⟩
  · rcases h.vec r e sz ver cs hr with h1 | ⟨g, cur, h1, h2, h3, h4, h5, h6⟩
    · exact .inl h1
    · exact .inr ⟨g, cur, h1, h2, (hnb r g (by rw [hr]; simp) h1).1.trans h3, h4, h5, fun j x hj => hsr (h6 j x hj)⟩
  · exact ⟨(h.tr l pre rest ht).1, C.jst _ _ _ _ _ _ _ _ (h.tr l pre rest ht).2 kmine hmb⟩
  · exact ⟨(h.st ht).1, C.jxst _ _ _ _ _ (h.st ht).2 kmine hmb⟩
  · obtain ⟨⟨r, g1⟩, g2⟩ := h.rnd l hl
    have hno := hro l hl
    exact ⟨⟨r, (kp.blk l (Array.getElem?_eq_some_iff.1 g1).1 hno).1.trans g1⟩, fun y hy => (g2 y hy).elim .inl fun h1 => absurd h1 (hno y hy)⟩

theorem putObj_keep {l : Nat} {o o' : Obj} (hl : w.heap[l]? = some o) (ho : o.isCells = false) : Keep (fun y => y.block = l) w (fun y => y.block = l) (w.putObj l o') where
  os := rfl
  tape := rfl
  output := rfl
  size := by simp
  cell := fun y u h1 h2 => ⟨(World.cell?_of_block (World.putObj_heap_other h2)).trans h1, h2⟩
  blk := fun b hb hm => ⟨World.putObj_heap_other fun e => hm ⟨b, 0, none⟩ rfl e, hm⟩
/-- A record of a loop turns. -/
theorem StM.putRec (h : StM N M0 C f H mu a w) {l : Nat} {o o' : Obj} (hl : w.heap[l]? = some o) (ho : o.isCells = false) (hx : ∀ y : Addr, y.block = l → M0.x y) (h1 : C.w1.heap.size ≤ l) (h0 : C.w.heap.size ≤ l)
    (hd : ∀ d ∈ a.defers, d.target ≠ .collected l) (hro : C.ro ≠ some l) : StM N M0 C f H mu a (w.putObj l o') := by
  have e : M0 = ⟨M0.c, fun y => M0.x y ∨ y.block = l⟩ := by
    obtain ⟨c, x⟩ := M0
    simp only [MM.mk.injEq, true_and]
    funext y
    exact propext ⟨.inl, fun h => h.elim id (hx y)⟩
  have hlt := (Array.getElem?_eq_some_iff.1 hl).1
  rw [e] at h ⊢
  exact (StM.inner h (putObj_keep hl ho) (fun y hy => by rw [World.putObj_size, hy]; exact hlt) h1 h0 (Nat.le_of_lt hlt) (fun y hy => by omega) (fun d hd' D hD y hy hy2 => hd d hd' (by rw [hD, ← hy, hy2])) (fun r hr y hy hy2 => hro (by rw [hr, ← hy, hy2]))).1
/-- A mark is taken up at a return. -/
theorem StM.dropMark {d : Deferred} {ds : List Deferred} (h : StM N M0 C f H mu { a with defers := d :: ds } w) (hw : C.w1.heap.size ≤ C.w.heap.size) : ∃ D, d.target = .collected D ∧ (Instr.takeDeferred D).run P w = .ok [] (w.putObj D (.deferred none)) ∧ StM N M0 C f H mu { a with defers := ds } (w.putObj D (.deferred none)) := by
  obtain ⟨D, e1, e2, e3, e4⟩ := h.marks d (by simp)
  have hro : C.ro = none := by
    cases hr : C.ro with
    | none => rfl
    | some l => have := h.rdef (by rw [hr]; simp); simp at this
  have hnd := h.nodup
  simp only [List.nodup_cons] at hnd
  have h' : StM N M0 C f H mu { a with defers := ds } w :=
    ⟨fun d' hd' => h.marks d' (by simp at hd' ⊢; exact .inr hd'), hnd.2, fun h1 => absurd hro h1, h.size, h.nle, h.slots, h.base, h.osq, h.below, h.cp, h.keep, h.xeq, h.xc, h.old, h.sep, h.box, h.row, h.vec, h.inj, h.same, h.tr, h.st, h.rnd, h.mono, h.gl⟩
  refine ⟨D, by rw [e1], run_takeDeferred e3, h'.putRec e3 rfl e4 (by omega) e2 (fun d' hd' he => ?_) (by rw [hro]; simp)⟩
  obtain ⟨D', g1, -⟩ := h'.marks d' hd'
  rw [g1] at he
  simp only [Target.collected.injEq] at he
  rw [he] at g1
  rw [← e1] at g1
  rw [g1] at hd'
  exact hnd.1 hd'
/-- The same state, by another reckoning of what is to be kept. -/
theorem StM.rebase (h : StM N M0 C f H mu a w) (R : Addr → Prop) (w1 : World) (X : Addr → Prop) (fix : Nat → Bool) (tm : Array Value) (ro : Option Nat)
    (hk : Keep R w1 (MN { C with R := R, w1 := w1, X := X, fix := fix, tm := tm, ro := ro } M0 H mu) w) (hx : ∀ y : Addr, y.block < w1.heap.size → (M0.x y ↔ X y)) (hs : ∀ t, fix t = true → a.tmps.getD t undef = tm.getD t undef)
    (hrd : ro ≠ none → a.defers = []) (hr : ∀ l, ro = some l → (∃ r, w.heap[l]? = some (.loop r)) ∧ ∀ y : Addr, y.block = l → M0.x y) : StM N M0 { C with R := R, w1 := w1, X := X, fix := fix, tm := tm, ro := ro } f H mu a w :=
  ⟨h.marks, h.nodup, hrd, h.size, h.nle, h.slots, h.base, h.osq, h.below, h.cp, hk, hx, h.xc, h.old, h.sep, h.box, h.row, h.vec, h.inj, hs, h.tr, h.st, hr, h.mono, h.gl⟩
/-- The context of what is walked from here on. -/
def Ctx.since (C : Ctx) (M0 : MM) (H : Hp) (mu : Nat → Option Nat) (w : World) (fix : Nat → Bool) (tm : Array Value) (ro : Option Nat) : Ctx :=
  { C with R := fun y => M0.c y ∨ Named H mu y, w1 := w, X := M0.x, fix := fix, tm := tm, ro := ro }
/-- Another activation on the same memory. -/
theorem StM.since (h : StM N M0 C f H mu a w) (fix : Nat → Bool) (tm : Array Value) (ro : Option Nat) (hdef : a'.defers = []) (hsz : a'.tmps.size = N) (hsl : ∀ t, t < N → SRep M0 H mu w (a'.tmps.getD t undef) (f' t)) (hTR : f' TR = f TR)
    (hs : ∀ t, fix t = true → a'.tmps.getD t undef = tm.getD t undef) (hr : ∀ l, ro = some l → (∃ r, w.heap[l]? = some (.loop r)) ∧ ∀ y : Addr, y.block = l → M0.x y) : StM N M0 (C.since M0 H mu w fix tm ro) f' H mu a' w :=
  ⟨(fun d hd => by rw [hdef] at hd; cases hd), (by rw [hdef]; exact List.nodup_nil), fun _ => hdef, hsz, h.nle, hsl, h.base, h.osq, h.below, h.cp,
    ⟨rfl, rfl, rfl, Nat.le_refl _, fun x u h1 h2 => ⟨h1, fun h3 => h3.elim (fun h4 => h2 (.inl h4)) fun h4 => h4.elim (fun h5 => h2 (.inr h5)) fun h5 => by have := World.block_lt_of_cell? w x h1; have h6 : w.heap.size ≤ x.block := h5.2; omega⟩,
      fun b hb hm => ⟨rfl, fun y hy h3 => h3.elim (fun h4 => hm y hy (.inl h4)) fun h4 => h4.elim (fun h5 => hm y hy (.inr h5)) fun h5 => by have h6 : w.heap.size ≤ y.block := h5.2; omega⟩⟩,
    fun y hy => Iff.rfl, h.xc, h.old, h.sep, h.box, h.row, h.vec, h.inj, hs, fun l pre rest ht => h.tr l pre rest (hTR.symm.trans ht), fun ht => h.st (hTR.symm.trans ht), hr, h.mono, h.gl⟩
/-- What was kept since then is kept since before. -/
theorem keep_since {M1 : MM} {H1 : Hp} {mu1 : Nat → Option Nat} {w1 : World} {fix : Nat → Bool} {tm : Array Value} {ro : Option Nat} (hk : Keep (C.since M0 H mu w fix tm ro).R (C.since M0 H mu w fix tm ro).w1 (MN (C.since M0 H mu w fix tm ro) M1 H1 mu1) w1)
    (hx : ∀ y : Addr, y.block < (C.since M0 H mu w fix tm ro).w1.heap.size → (M1.x y ↔ (C.since M0 H mu w fix tm ro).X y)) : Keep (MN C M0 H mu) w (MN C M1 H1 mu1) w1 where
  os := hk.os
  tape := hk.tape
  output := hk.output
  size := hk.size
  cell := fun y u h1 h2 => by
    obtain ⟨g1, g2⟩ := hk.cell y u h1 fun h3 => h3.elim (fun h4 => h2 (.inl h4)) fun h4 => h2 (.inr (.inl h4))
    refine ⟨g1, fun h3 => h3.elim (fun h4 => g2 (.inl h4)) fun h4 => h4.elim (fun h5 => g2 (.inr (.inl h5))) fun h5 => ?_⟩
    have hlt := World.block_lt_of_cell? w y h1
    exact h2 (.inr (.inr ⟨(hx y hlt).1 h5.1, h5.2⟩))
  blk := fun b hb hm => by
    obtain ⟨g1, g2⟩ := hk.blk b hb fun y hy h3 => h3.elim (fun h4 => hm y hy (.inl h4)) fun h4 => hm y hy (.inr (.inl h4))
    refine ⟨g1, fun y hy h3 => h3.elim (fun h4 => g2 y hy (.inl h4)) fun h4 => h4.elim (fun h5 => g2 y hy (.inr (.inl h5))) fun h5 => ?_⟩
    exact hm y hy (.inr (.inr ⟨(hx y (show y.block < w.heap.size by omega)).1 h5.1, h5.2⟩))
/-- Back out of what was walked since. -/
theorem StM.restore {M1 : MM} {H1 : Hp} {mu1 : Nat → Option Nat} {w1 : World} {fix : Nat → Bool} {tm : Array Value} {ro : Option Nat} {f1 f1' : Frm} {a1 : Act} (h : StM N M0 C f H mu a w) (h1 : StM N M1 (C.since M0 H mu w fix tm ro) f1 H1 mu1 a1 w1)
    (hsl : ∀ t, t < N → SRep M1 H1 mu1 w1 (a.tmps.getD t undef) (f1' t)) (hTR : f1' TR = f1 TR) : StM N M1 C f1' H1 mu1 a w1 := by
  have hkk := keep_since h1.keep h1.xeq
  have hxe : ∀ y : Addr, y.block < w.heap.size → (M1.x y ↔ M0.x y) := h1.xeq
  have hrec : ∀ D, D < w.heap.size → (∀ y : Addr, y.block = D → M0.x y) → w1.heap[D]? = w.heap[D]? ∧ ∀ y : Addr, y.block = D → M1.x y := fun D hD hx =>
    ⟨(h1.keep.blk D hD fun y hy h3 => h3.elim (fun h4 => h.xc y (hx y hy) y rfl h4) fun h4 => h.not_named (.inr (hx y hy)) rfl h4).1, fun y hy => (hxe y (by rw [hy]; exact hD)).2 (hx y hy)⟩
  refine ⟨fun d hd => ?_, h.nodup, h.rdef, h.size, h.nle, hsl, h1.base, h1.osq, h1.below, h1.cp, h.keep.trans hkk, fun y hy => ?_, h1.xc, h1.old, h1.sep, h1.box, h1.row, h1.vec, h1.inj, h.same, fun l pre rest ht => h1.tr l pre rest (hTR.symm.trans ht), fun ht => h1.st (hTR.symm.trans ht), fun l hl => ?_, h1.mono, h1.gl⟩
  · obtain ⟨D, e1, e2, e3, e4⟩ := h.marks d hd
    obtain ⟨g1, g2⟩ := hrec D (Array.getElem?_eq_some_iff.1 e3).1 e4
    exact ⟨D, e1, e2, g1.trans e3, g2⟩
  · rw [hxe y (Nat.lt_of_lt_of_le hy h.keep.size)]
    exact h.xeq y hy
  · obtain ⟨⟨r, g1⟩, g2⟩ := h.rnd l hl
    obtain ⟨k1, k2⟩ := hrec l (Array.getElem?_eq_some_iff.1 g1).1 g2
    exact ⟨⟨r, k1.trans g1⟩, k2⟩
/-- New blocks that are none of the cells'. -/
theorem StM.claim (h : StM N M0 C f H mu a w) (hx : Below w.heap.size w w') {mark : List Deferred} (hm : ∀ d ∈ mark, ∃ D, d = { target := .collected D, args := #[] } ∧ w.heap.size ≤ D ∧ w'.heap[D]? = some (.deferred (some []))) (hnd : mark.Nodup) (hro : C.ro ≠ none → mark = []) :
    StM N ⟨M0.c, fun y => M0.x y ∨ (w.heap.size ≤ y.block ∧ y.block < w'.heap.size)⟩ C f H mu { a with defers := mark ++ a.defers } w' := by
  have up : ∀ {A A' : Addr → Prop}, (∀ y, A' y → A y ∨ w.heap.size ≤ y.block) → Keep A w A' w' := fun hA => ⟨hx.os, hx.tape, hx.output, hx.size, fun y u h1 h2 =>
    have hlt := World.block_lt_of_cell? w y h1
    ⟨(World.cell?_of_block (hx.block _ hlt)).trans h1, fun h3 => (hA y h3).elim h2 fun h4 => by omega⟩, fun b hb hm => ⟨hx.block b hb, fun y hy h3 => (hA y h3).elim (hm y hy) fun h4 => by omega⟩⟩
  have hstay : Stay (Mut M0 H mu) w (Mut ⟨M0.c, fun y => M0.x y ∨ (w.heap.size ≤ y.block ∧ y.block < w'.heap.size)⟩ H mu) w' := (up fun y hy => hy.elim (fun h1 => h1.elim (fun h2 => .inl (.inl (.inl h2))) fun h2 => h2.elim (fun h3 => .inl (.inl (.inr h3))) fun h3 => .inr h3.1) fun h1 => .inl (.inr h1)).cell
  have hsr : ∀ {v : Value} {x : SV}, SRep M0 H mu w v x → SRep ⟨M0.c, fun y => M0.x y ∨ (w.heap.size ≤ y.block ∧ y.block < w'.heap.size)⟩ H mu w' v x := fun h' => SRep.others hstay (fun s b h1 h2 => hx.block b (h.mu_lt h1 h2)) h'
  have hmine : ∀ y, Mine ⟨M0.c, fun y => M0.x y ∨ (w.heap.size ≤ y.block ∧ y.block < w'.heap.size)⟩ H mu y → Mine M0 H mu y ∨ w.heap.size ≤ y.block := fun y hy => hy.elim (fun h1 => h1.elim (fun h2 => .inl (.inl h2)) fun h2 => .inr h2.1) fun h1 => .inl (.inr h1)
  have hmb : ∀ y, Mine ⟨M0.c, fun y => M0.x y ∨ (w.heap.size ≤ y.block ∧ y.block < w'.heap.size)⟩ H mu y → y.block < w'.heap.size := fun y hy => hy.elim (fun h1 => h1.elim (fun h2 => Nat.lt_of_lt_of_le (h.old y (.inr h2)) hx.size) fun h2 => h2.2) fun h1 => Nat.lt_of_lt_of_le (h.named_lt h1).2 hx.size
  have hs1 : C.w1.heap.size ≤ w.heap.size := h.keep.size
  refine ⟨fun d hd => ?_, ?_, fun h1 => ?_, h.size, h.nle, fun t ht => hsr (h.slots t ht), Nat.le_trans h.base hx.size, ⟨hx.os.trans h.osq.1, hx.tape.trans h.osq.2.1, hx.output.trans h.osq.2.2⟩, fun hp => ?_, h.cp, h.keep.trans (up ?_), fun y hy => ?_, fun z hz y hy hc => ?_, fun y hy => ?_,
    fun s b h1 h2 y hy h3 => ?_, fun s cs hs => ?_, fun r e size k hr => ?_, fun r e sz ver cs hr => ?_, h.inj, h.same, fun l pre rest ht => ⟨(h.tr l pre rest ht).1, C.jst _ _ _ _ _ _ _ _ (h.tr l pre rest ht).2 (up hmine) hmb⟩, fun ht => ⟨(h.st ht).1, C.jxst _ _ _ _ _ (h.st ht).2 (up hmine) hmb⟩, fun l hl => ?_, h.mono.trans C.fp (Steps.same fun s b h1 h2 => hx.block b (h.mu_lt h1 h2)), h.gl.mono hstay⟩
  · rcases List.mem_append.1 hd with h1 | h1
    · obtain ⟨D, e1, e2, e3⟩ := hm d h1
      refine ⟨D, e1, Nat.le_trans h.base e2, e3, fun y hy => .inr ⟨by omega, ?_⟩⟩
      rw [hy]; exact (Array.getElem?_eq_some_iff.1 e3).1
    · obtain ⟨D, e1, e2, e3, e4⟩ := h.marks d h1
      exact ⟨D, e1, e2, (hx.block D (Array.getElem?_eq_some_iff.1 e3).1).trans e3, fun y hy => .inl (e4 y hy)⟩
  · refine List.nodup_append.2 ⟨hnd, h.nodup, fun d hd d' hd' e => ?_⟩
    obtain ⟨D, e1, e2, e3⟩ := hm d hd
    obtain ⟨D', g1, g2, g3, g4⟩ := h.marks d' hd'
    rw [e1, g1] at e
    simp only [Deferred.mk.injEq, Target.collected.injEq, and_true] at e
    have := (Array.getElem?_eq_some_iff.1 g3).1
    omega
  · show mark ++ a.defers = []
    rw [hro h1, h.rdef h1]; rfl
  · have hb := h.below hp
    exact ⟨hx.os.trans hb.os, hx.tape.trans hb.tape, hx.output.trans hb.output, Nat.le_trans hb.size hx.size, fun k hk hf => (hx.block k (Nat.lt_of_lt_of_le hk hb.size)).trans (hb.block k hk hf)⟩
  · exact fun y hy => hy.elim (fun h1 => .inl (.inl h1)) fun h1 => h1.elim (fun h2 => .inl (.inr (.inl h2))) fun h2 => h2.1.elim (fun h3 => .inl (.inr (.inr ⟨h3, h2.2⟩))) fun h3 => .inr h3.1
  · rw [← h.xeq y hy]
    have e1 : ¬ (w.heap.size ≤ y.block ∧ y.block < w'.heap.size) := fun h1 => by omega
    simp [e1]
  · rcases hz with h1 | h1
    · exact h.xc z h1 y hy hc
    · have := h.old y (.inl hc); omega
  · rcases hy with h1 | h1 | h1
    · exact Nat.lt_of_lt_of_le (h.old y (.inl h1)) hx.size
    · exact Nat.lt_of_lt_of_le (h.old y (.inr h1)) hx.size
    · exact h1.2
  · have hlt := h.mu_lt h1 h2
    rcases h3 with h4 | h4 | h4
    · exact h.sep s b h1 h2 y hy (.inl h4)
    · exact h.sep s b h1 h2 y hy (.inr h4)
    · omega
  · obtain ⟨b, arr, e, h1, h2, h3, h4, h5⟩ := h.box s cs hs
    exact ⟨b, arr, e, h1, h2, (hx.block b (Array.getElem?_eq_some_iff.1 h3).1).trans h3, h4, fun j y hj => ⟨hsr (h5 j y hj).1, (h5 j y hj).2⟩⟩
  · rcases h.row r e size k hr with h1 | ⟨g, h1, h2, h3⟩
    · exact .inl h1
    · exact .inr ⟨g, h1, h2, Nat.lt_of_lt_of_le h3 hx.size⟩
  · rcases h.vec r e sz ver cs hr with h1 | ⟨g, cur, h1, h2, h3, h4, h5, h6⟩
    · exact .inl h1
    · exact .inr ⟨g, cur, h1, h2, (hx.block g (h.mu_lt (by rw [hr]; simp) h1)).trans h3, h4, h5, fun j x hj => hsr (h6 j x hj)⟩
  · obtain ⟨⟨r, g1⟩, g2⟩ := h.rnd l hl
    exact ⟨⟨r, (hx.block l (Array.getElem?_eq_some_iff.1 g1).1).trans g1⟩, fun y hy => .inl (g2 y hy)⟩
/-- What a round keeps, as its iterator is told. -/
theorem keep_mc {c0 X0 Mi : Addr → Prop} {M1 : MM} {H1 : Hp} {mu1 : Nat → Option Nat} {w1 : World} {C1 : Ctx} (hw : C1.w1 = w) (hk : Keep (fun y => c0 y ∨ Named H mu y) w (MN C1 M1 H1 mu1) w1) (hx : ∀ y : Addr, y.block < w.heap.size → (M1.x y ↔ X0 y)) :
    Keep (Mut ⟨c0, fun y => X0 y ∧ ¬ Mi y⟩ H mu) w (Mut ⟨M1.c, fun y => M1.x y ∧ ¬ Mi y⟩ H1 mu1) w1 where
  os := hk.os
  tape := hk.tape
  output := hk.output
  size := hk.size
  cell := fun y u h1 h2 => by
    obtain ⟨g1, g2⟩ := hk.cell y u h1 fun h3 => h3.elim (fun h4 => h2 (.inl (.inl h4))) fun h4 => h2 (.inr h4)
    have hlt := World.block_lt_of_cell? w y h1
    exact ⟨g1, fun h3 => h3.elim (fun h4 => h4.elim (fun h5 => g2 (.inl h5)) fun h5 => h2 (.inl (.inr ⟨(hx y hlt).1 h5.1, h5.2⟩))) fun h4 => g2 (.inr (.inl h4))⟩
  blk := fun b hb hm => by
    obtain ⟨g1, g2⟩ := hk.blk b hb fun y hy h3 => h3.elim (fun h4 => hm y hy (.inl (.inl h4))) fun h4 => hm y hy (.inr h4)
    exact ⟨g1, fun y hy h3 => h3.elim (fun h4 => h4.elim (fun h5 => g2 y hy (.inl h5)) fun h5 => hm y hy (.inl (.inr ⟨(hx y (by omega)).1 h5.1, h5.2⟩))) fun h4 => g2 y hy (.inr (.inl h4))⟩
theorem Keep.more {M M' M2 : Addr → Prop} (h : Keep M w M' w') (hm : ∀ a, M a → M2 a) : Keep M2 w M' w' :=
  { h with cell := fun a u h1 h2 => h.cell a u h1 fun h3 => h2 (hm a h3), blk := fun b hb h2 => h.blk b hb fun a ha h3 => h2 a ha (hm a h3) }
/-- What a loop over an iterator lays. -/
theorem enter_spec {ro : Option Nat} (hro : ∀ l0, ro = some l0 → ∃ r, w.heap[l0]? = some (.loop r)) (fn : FuncId) (tmps : Array Value) (ps : Array Tmp) (assign body : Code) :
    ∃ l mark W1 dfr, (Instr.enterLoop fn tmps ps assign body ro).run P w = .ok (l, mark) W1 ∧ W1.heap[l]? = some (.loop { state := .ready, pending := none, fn, tmps, params := ps, assign, body, defers := dfr }) ∧ Below w.heap.size w W1 ∧ w.heap.size ≤ l ∧ W1.heap.size = l + 1 ∧
      mark.Nodup ∧ (ro ≠ none → mark = []) ∧ ∀ d ∈ mark, ∃ D, d = { target := .collected D, args := #[] } ∧ w.heap.size ≤ D ∧ D < l ∧ W1.heap[D]? = some (.deferred (some [])) := by
  cases ro with
  | none =>
    have hL1 : ∀ o, ((w.alloc (.deferred (some []))).alloc o).heap[w.heap.size + 1]? = some o := fun o => by
      have := World.alloc_heap_new (w.alloc (.deferred (some []))) o
      rwa [World.size_alloc] at this
    refine ⟨w.heap.size + 1, [{ target := .collected w.heap.size, args := #[] }], _, _, run_enterLoop_outer fn tmps ps assign body, hL1 _, ((Below.refl _ w).alloc (Nat.le_refl _) _).alloc (by simp) _, by omega, by simp, by simp, fun h => absurd rfl h, fun d hd => ?_⟩
    simp only [List.mem_singleton] at hd
    exact ⟨w.heap.size, hd, Nat.le_refl _, by omega, (Below.heap_alloc _ _ _ (by simp)).trans (World.alloc_heap_new w _)⟩
  | some l0 =>
    obtain ⟨r, hr⟩ := hro l0 rfl
    exact ⟨w.heap.size, [], _, _, run_enterLoop_inner hr fn tmps ps assign body, World.alloc_heap_new w _, (Below.refl _ w).alloc (Nat.le_refl _) _, Nat.le_refl _, by simp, List.nodup_nil, fun _ => rfl, fun d hd => by cases hd⟩
end
end Go.Proofs.YtefiebkngpcaoaaDoor
namespace Go.Proofs.YtefiebkngpcaoaaDoor
open Go.RowKit

/-- An iterator's contract: called with whatever body, it goes through these, in order, till it is told to stop. -/
def PS (P : Program) (k : FuncId) (cap : List D) (xs : List (List D)) : Prop :=
  (∃ fn, P.funcs[k]? = some fn ∧ (fn.name == "runtime.NumGoroutine") = false ∧ fn.body.isNone = false) ∧
  ∀ (l : Nat) (J : List (List D) → List (List D) → (Addr → Prop) → (Addr → Prop) → World → Prop) (Jx : (Addr → Prop) → (Addr → Prop) → World → Prop) (M : Addr → Prop) (w : World) (vs : List Value),
    (∀ pre rest Mc Mi Mi' w w', J pre rest Mc Mi w → Keep Mi w Mi' w' → (∀ x, Mi' x → x.block < w'.heap.size) → J pre rest Mc Mi' w') →
    (∀ Mc Mi Mi' w w', Jx Mc Mi w → Keep Mi w Mi' w' → (∀ x, Mi' x → x.block < w'.heap.size) → Jx Mc Mi' w') →
    (∀ pre x rest Mc Mi W (args : Array Value), J pre (x :: rest) Mc Mi W → RepL (fun a => Mc a ∨ Mi a) W args.toList x →
      YieldGo P l args W fun b W' => ∃ Mc', Keep Mc W Mc' W' ∧ (∀ x, Mc' x → x.block < W'.heap.size) ∧ if b then J (pre ++ [x]) rest Mc' Mi W' else Jx Mc' Mi W') →
    Globs M w → RepL M w vs cap → (∀ x, M x → x.block < w.heap.size) → J [] xs M (fun _ => False) w →
    Calls P k (#[.func (.yield l) #[] #[]] ++ vs.toArray) w fun e w' => (∃ v, e = .returned v) ∧ ∃ Mc Mi, J xs [] Mc Mi w' ∨ Jx Mc Mi w'
section
variable {P : Program} {o : Oper} {f : Frm} {H : Hp}
/-- yield, out of an iterator. -/
theorem sem_yield {x : Operand} {as : Array Operand} {tys : Array TypeId} {l : Nat} {pre rest : List (List D)} {d : List D} (ho : o.op = .call { callee := .value x, args := as, argTypes := tys }) (hx : ev f x = .yld l) (htr : f TR = .trace l pre (d :: rest))
    (ha : toDs (as.toList.map (ev f)) = some d) {K : Frm → Hp → Prop} (hK : ∀ b, K (updo (upd f TR (if b then .trace l (pre ++ [d]) rest else .stop)) o.dst (.d (.bool b))) H) : Sem1 P o f H K := by
  intro N M0 C mu a w n Q Kw hP hk hfx h hKw
  have hx0 := opOk_ops hk
  simp only [ho, Op.operands, Call.operands] at hx0
  have hv : a.eval x = .func (.yield l) #[] #[] := by
    have := ev_sound h (hx0 x (by simp))
    rw [hx] at this
    exact this
  have hargs : RepL (Mut M0 H mu) w (as.map a.eval).toList d := by
    rw [Array.toList_map]
    refine toDs_sound ha (by simp) fun j v x hj hy => ?_
    simp only [List.getElem?_map, Option.map_eq_some_iff] at hj hy
    obtain ⟨q, hq, rfl⟩ := hj
    obtain ⟨q', hq', rfl⟩ := hy
    rw [hq] at hq'
    cases hq'
    exact ev_sound h (hx0 q (by simp; exact .inr (Array.mem_toList_iff.1 (List.mem_of_getElem? hq))))
  obtain ⟨hp, hJ⟩ := h.tr l pre (d :: rest) htr
  have hset : ∀ y, M0.c y ∨ Mine M0 H mu y → Mut M0 H mu y := fun y hy => hy.elim (fun h1 => .inl (.inl h1)) fun h1 => h1.elim (fun h2 => .inl (.inr h2)) .inr
  have hargs' : RepL (fun y => M0.c y ∨ Mine M0 H mu y) w (as.map a.eval).toList d := RepL.mono (fun y u g1 g2 => ⟨g1, fun g3 => g2 (hset y g3)⟩) hargs
  obtain ⟨fn, tmps, assign, body, hrun, hround⟩ := C.hy l pre d rest M0.c (Mine M0 H mu) w _ hJ hargs'
  have hexec : (execOp a.eval o).run P w = .ok (.round l fn tmps assign body) w := by
    rw [← hP]
    simp only [execOp, ho, resolve, hv, Deferred.ofValue, Sem.run_bind, Sem.run_pure, Result.andThen_ok, invoke, Array.empty_append]
    exact hrun
  refine ⟨fun _ _ => trivial, ?_⟩
  rw [Oper.semAt_eq _ _ _ (nodefer ho (by simp)), hexec]
  refine ⟨(fun h => by cases h), ?_⟩
  have h1 : RoundIn Fence.wide (n - 1) P l fn tmps assign body w (fun e W' => ∃ b, e = .returned (.bool b) ∧ ∃ Mc', Keep M0.c w Mc' W' ∧ (∀ x, Mc' x → x.block < W'.heap.size) ∧ if b then C.J l (pre ++ [d]) rest Mc' (Mine M0 H mu) W' else C.Jx Mc' (Mine M0 H mu) W') := by
    rw [hP] at hround
    exact ⟨hround.1, fun c cs _ => hround.2 c cs (room_wide _)⟩
  have h2 := h1.mono (R' := fun
      | .returned v, w'' => Kw (a.put o.dst v) w''
      | .panicked chain, w'' => Q (.panic chain) a w''
      | .outgrown, _ => LetsOut Q) (by
    rintro e W' ⟨b, rfl, Mc', k1, k2, k3⟩
    have hs := StM.yielded (f' := upd f TR (if b then .trace l (pre ++ [d]) rest else .stop)) h hp k1 k2 (fun t ht => by
        simp only [upd]
        rw [if_neg]
        have := h.nle
        intro e
        subst e
        exact absurd ht (by omega))
      (fun l' pre' rest' ht => by
        simp only [upd, if_true] at ht
        cases b with
        | true => simp at ht; obtain ⟨rfl, rfl, rfl⟩ := ht; simpa using k3
        | false => simp at ht)
      (fun ht => by
        simp only [upd, if_true] at ht
        cases b with
        | true => simp at ht
        | false => simpa using k3)
    exact hKw _ _ _ _ _ _ (hs.put (v := .bool b) (x := .d (.bool b)) (fun d hd => ⟨opOk_dst hk d hd, hfx d hd⟩) (Rep.bool b)) (hK b))
  exact h2
/-- An iterator that hands its yield on to another one. -/
theorem sem_deleg {x q : Operand} {tys : Array TypeId} {l : Nat} {pre rest xs : List (List D)} {k : FuncId} {cap : List D} (ho : o.op = .call { callee := .value x, args := #[q], argTypes := tys }) (hx : ev f x = .d (.fn (.func k) [] cap)) (hq : ev f q = .yld l) (hPS : PS P k cap xs)
    (htr : f TR = .trace l pre (xs ++ rest)) {K : Frm → Hp → Prop} (hT : K (updo (upd f TR (.trace l (pre ++ xs) rest)) o.dst .junk) H) (hF : K (updo (upd f TR .stop) o.dst .junk) H) : Sem1 P o f H K := by
  intro N M0 C mu a w n Q Kw hP hk hfx h hKw
  have hx0 := opOk_ops hk
  simp only [ho, Op.operands, Call.operands] at hx0
  have hvq : a.eval q = .func (.yield l) #[] #[] := by
    have := ev_sound h (hx0 q (by simp))
    rw [hq] at this
    exact this
  have hv := ev_sound h (hx0 x (by simp))
  rw [hx] at hv
  obtain ⟨us, hvx, hus⟩ : ∃ us : Array Value, a.eval x = .func (.func k) #[] us ∧ RepL (Mut M0 H mu) w us.toList cap := by
    generalize a.eval x = v at hv
    cases (show Rep (Mut M0 H mu) w v (.fn (.func k) [] cap) from hv) with
    | fn fk vs us ds es g1 g2 =>
      have : vs = #[] := by
        apply Array.ext'
        have := g1.length
        simpa using this
      subst this
      exact ⟨us, rfl, g2⟩
  obtain ⟨⟨fn, hf, hn, hb⟩, hcall⟩ := hPS
  have hexec : (execOp a.eval o).run P w = .ok (.enter k (#[.func (.yield l) #[] #[]] ++ us)) w := by
    simp only [execOp, ho, resolve, hvx, Deferred.ofValue, Sem.run_bind, Sem.run_pure, Result.andThen_ok, invoke, Array.empty_append]
    have : (#[q] : Array Operand).map a.eval = #[.func (.yield l) #[] #[]] := by simp [hvq]
    rw [this]
    exact run_call hf hn hb _
  have updTR : ∀ (y : SV) (t : Nat), t < N → upd f TR y t = f t := fun y t ht => by
    simp only [upd]
    rw [if_neg]
    intro e
    have := h.nle
    subst e
    exact absurd ht (Nat.not_lt.2 this)
  have toUpd : ∀ {M : MM} {w' : World} {g g' : Frm}, StM N M C g H mu a w' → (∀ t, t < N → g' t = g t) → (∀ l pre rest, g' TR = .trace l pre rest → g TR = .trace l pre rest) → (g' TR = .stop → g TR = .stop) → StM N M C g' H mu a w' :=
    fun hs h1 h2 h3 => ⟨hs.marks, hs.nodup, hs.rdef, hs.size, hs.nle, fun t ht => by rw [h1 t ht]; exact hs.slots t ht, hs.base, hs.osq, hs.below, hs.cp, hs.keep, hs.xeq, hs.xc, hs.old, hs.sep, hs.box, hs.row, hs.vec, hs.inj, hs.same, fun l p r ht => hs.tr l p r (h2 l p r ht), fun ht => hs.st (h3 ht), hs.rnd, hs.mono, hs.gl⟩
  have hD : ∀ d ∈ a.defers, ∀ D, d.target = .collected D → D < w.heap.size := fun d hd D hD => by
    obtain ⟨D', g1, g2, g3, g4⟩ := h.marks d hd
    rw [g1] at hD
    simp only [Target.collected.injEq] at hD
    have := (Array.getElem?_eq_some_iff.1 g3).1
    omega
  have hro : ∀ r, C.ro = some r → r < w.heap.size := fun r hr => (Array.getElem?_eq_some_iff.1 (h.rnd r hr).1.choose_spec).1
  have hin : ∀ {c x' Mi Mi' : Addr → Prop} {W W' : World} {g : Frm}, StM N ⟨c, fun y => x' y ∨ Mi y⟩ C g H mu a W → (∀ y, Mi y → w.heap.size ≤ y.block) → w.heap.size ≤ W.heap.size → Keep Mi W Mi' W' → (∀ y, Mi' y → y.block < W'.heap.size) →
      StM N ⟨c, fun y => x' y ∨ Mi' y⟩ C g H mu a W' ∧ ∀ y, Mi' y → w.heap.size ≤ y.block := fun hs hmi hsz kp hb =>
    StM.inner hs kp hb h.keep.size h.base hsz hmi (fun d hd D hD' y hy hm => by have := hD d hd D hD'; have := hmi y hm; omega) (fun r hr y hy hm => by have := hro r hr; have := hmi y hm; omega)
  have hcc := hcall l (fun pre' rest' Mc Mi W => xs = pre' ++ rest' ∧ ∃ c x', Mc = Mut ⟨c, x'⟩ H mu ∧ StM N ⟨c, fun y => x' y ∨ Mi y⟩ C (upd f TR (.trace l (pre ++ pre') (rest' ++ rest))) H mu a W ∧ (∀ y, Mi y → w.heap.size ≤ y.block) ∧ w.heap.size ≤ W.heap.size)
    (fun Mc Mi W => ∃ c x', Mc = Mut ⟨c, x'⟩ H mu ∧ StM N ⟨c, fun y => x' y ∨ Mi y⟩ C (upd f TR .stop) H mu a W ∧ (∀ y, Mi y → w.heap.size ≤ y.block) ∧ w.heap.size ≤ W.heap.size)
    (Mut M0 H mu) w us.toList
    (fun pre' rest' Mc Mi Mi' W W' ⟨hxs, c, x', h1, h2, h3, h4⟩ kp hb => have ⟨k1, k2⟩ := hin h2 h3 h4 kp hb; ⟨hxs, c, x', h1, k1, k2, Nat.le_trans h4 kp.size⟩)
    (fun Mc Mi Mi' W W' ⟨c, x', h1, h2, h3, h4⟩ kp hb => have ⟨k1, k2⟩ := hin h2 h3 h4 kp hb; ⟨c, x', h1, k1, k2, Nat.le_trans h4 kp.size⟩)
    ?yield h.gl hus (fun x hx => h.mut_lt hx) ⟨by simp, M0.c, M0.x, rfl, toUpd (M := ⟨M0.c, fun y => M0.x y ∨ False⟩) (by simpa using h) (updTR _) (fun l' p r ht => by simp only [upd, if_true, List.append_nil] at ht; rw [htr]; exact ht) (fun ht => by simp only [upd, if_true] at ht; cases ht), fun y hy => hy.elim, Nat.le_refl _⟩
  case yield =>
    rintro pre' d rest' Mc Mi W args ⟨hxs, c, x', hm, hs, h3, h4⟩ hargs
    obtain ⟨hp, hJ⟩ := hs.tr l (pre ++ pre') (d :: (rest' ++ rest)) (by simp [upd])
    have hargs' : RepL (fun y => c y ∨ Mine ⟨c, fun y => x' y ∨ Mi y⟩ H mu y) W args.toList d := RepL.mono (fun y u g1 g2 => ⟨g1, fun g3 => g2 (by
      rw [hm]
      rcases g3 with g3 | (g3 | g3) | g3
      · exact .inl (.inl (.inl g3))
      · exact .inl (.inl (.inr g3))
      · exact .inr g3
      · exact .inl (.inr g3))⟩) hargs
    obtain ⟨fn, tmps, assign, body, hrun, hround⟩ := C.hy l (pre ++ pre') d (rest' ++ rest) c _ W args hJ hargs'
    rw [hP] at hrun hround
    refine ⟨fn, tmps, assign, body, hrun, hround.mono ?_⟩
    rintro e W' ⟨b, rfl, c', k1, k2, k3⟩
    have hkeep : Keep Mc W (Mut ⟨c', x'⟩ H mu) W' := by
      rw [hm]
      exact ⟨k1.os, k1.tape, k1.output, k1.size, fun y u g1 g2 => have ⟨q1, q2⟩ := k1.cell y u g1 fun g => g2 (.inl (.inl g)); ⟨q1, fun g => g.elim (fun g => g.elim q2 fun g => g2 (.inl (.inr g))) fun g => g2 (.inr g)⟩,
        fun b hb hm => have ⟨q1, q2⟩ := k1.blk b hb fun y hy g => hm y hy (.inl (.inl g)); ⟨q1, fun y hy g => g.elim (fun g => g.elim (q2 y hy) fun g => hm y hy (.inl (.inr g))) fun g => hm y hy (.inr g)⟩⟩
    have go : ∀ y : SV, (∀ l' p r, y = .trace l' p r → C.J l' p r c' (Mine ⟨c, fun y => x' y ∨ Mi y⟩ H mu) W') → (y = .stop → C.Jx c' (Mine ⟨c, fun y => x' y ∨ Mi y⟩ H mu) W') → StM N ⟨c', fun y => x' y ∨ Mi y⟩ C (upd f TR y) H mu a W' := fun y g1 g2 =>
      StM.yielded hs hp k1 k2 (fun t ht => by rw [updTR _ t ht, updTR _ t ht]) (fun l' p r ht => g1 l' p r (by simpa [upd] using ht)) (fun ht => g2 (by simpa [upd] using ht))
    refine ⟨b, rfl, Mut ⟨c', x'⟩ H mu, hkeep, ?_, ?_⟩
    · have hs' := go .junk (fun l' p r e => by cases e) (fun e => by cases e)
      exact fun y hy => hs'.mut_lt (hy.elim (fun g => g.elim (fun g => .inl (.inl g)) fun g => .inl (.inr (.inl g))) .inr)
    · cases b with
      | true =>
        simp only [if_true] at k3 ⊢
        exact ⟨by rw [hxs]; simp, c', x', rfl, go _ (fun l' p r e => by cases e; rw [← List.append_assoc]; exact k3) (fun e => by cases e), h3, Nat.le_trans h4 k1.size⟩
      | false =>
        simp only [Bool.false_eq_true, if_false] at k3 ⊢
        exact ⟨c', x', rfl, go _ (fun l' p r e => by cases e) (fun _ => k3), h3, Nat.le_trans h4 k1.size⟩
  rw [Array.toArray_toList] at hcc
  refine wpIn_enter (nodefer ho (by simp)) hexec (hcc.mono ?_)
  rintro e w' ⟨⟨v, rfl⟩, Mc, Mi, (⟨-, c, x', -, hs, -⟩ | ⟨c, x', -, hs, -⟩)⟩
  · exact ⟨v, rfl, hKw _ _ _ _ _ _ (hs.put (v := v) (x := .junk) (fun d hd => ⟨opOk_dst hk d hd, hfx d hd⟩) trivial) (by simpa using hT)⟩
  · exact ⟨v, rfl, hKw _ _ _ _ _ _ (hs.put (v := v) (x := .junk) (fun d hd => ⟨opOk_dst hk d hd, hfx d hd⟩) trivial) hF⟩
end
end Go.Proofs.YtefiebkngpcaoaaDoor
