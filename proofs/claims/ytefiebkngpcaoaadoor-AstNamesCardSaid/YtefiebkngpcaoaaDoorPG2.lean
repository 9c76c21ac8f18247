/- A region of the pure logic that draws its order. Condition: what conflicts is ordered. -/
import Derived.Test.YtefiebkngpcaoaaDoorPG
set_option maxRecDepth 100000
set_option linter.unusedVariables false
set_option linter.unusedSimpArgs false
set_option linter.unusedSectionVars false
namespace Go.Proofs.YtefiebkngpcaoaaDoor
open Go.RowKit

def dstAt (l : List Oper) (k : Nat) : Option Tmp := (l[k]?).bind (·.dst)
/-- The slots, the names, when those of the first k that are in D have come up. -/
def fS (l : List Oper) (es : List Eff) (f : Frm) (D : Nat → Bool) : Nat → Frm
  | 0 => f
  | k + 1 => if D k then updo (fS l es f D k) (dstAt l k) (es.getD k .no).res else fS l es f D k
def hS (es : List Eff) (H : Hp) (D : Nat → Bool) : Nat → Hp
  | 0 => H
  | k + 1 => if D k then app (hS es H D k) (es.getD k .no).wr else hS es H D k
section
variable {P : Program} {N : Nat} {M0 : MM} {w0 : Ctx} {w : World} {f f' : Frm} {H H' : Hp} {mu : Nat → Option Nat} {a : Act} {o : Oper} {e : Eff} {ops : Array Oper}

theorem updo_ne {d : Option Tmp} {x : SV} {t : Nat} (h : d ≠ some t) : updo f d x t = f t := by
  cases d with
  | none => rfl
  | some u =>
    have : t ≠ u := fun e => h (by rw [e])
    simp [updo, upd, this]
theorem updo_eq {x : SV} {t : Nat} : updo f (some t) x t = x := by simp [updo, upd]
theorem app_ne : ∀ {r : List (Nat × HO)} {H : Hp} {s : Nat}, (∀ q, (s, q) ∉ r) → app H r s = H s
  | [], _, _, _ => rfl
  | (u, q) :: r, H, s, h => by
    have : s ≠ u := fun e => h q (by rw [e]; simp)
    rw [app, app_ne fun q' hq => h q' (by simp [hq])]
    simp [hup, this]
theorem app_eq : ∀ {r : List (Nat × HO)} {H H' : Hp} {s : Nat}, (∃ q, (s, q) ∈ r) → app H r s = app H' r s
  | [], _, _, _, h => by obtain ⟨q, hq⟩ := h; cases hq
  | (u, q) :: r, H, H', s, h => by
    rw [app, app]
    by_cases hr : ∃ q', (s, q') ∈ r
    · exact app_eq hr
    · have hu : s = u := by
        obtain ⟨q', hq'⟩ := h
        rcases List.mem_cons.1 hq' with h1 | h1
        · cases h1; rfl
        · exact absurd ⟨q', h1⟩ hr
      rw [app_ne fun q' hq => hr ⟨q', hq⟩, app_ne fun q' hq => hr ⟨q', hq⟩]
      simp [hup, hu]
theorem fS_agree {l : List Oper} {es : List Eff} {f : Frm} {D D' : Nat → Bool} {t : Nat} : ∀ m, (∀ k, k < m → dstAt l k = some t → D k = D' k) → fS l es f D m t = fS l es f D' m t
  | 0, _ => rfl
  | m + 1, h => by
    have ih := fS_agree (es := es) (f := f) m fun k hk => h k (by omega)
    have aux : ∀ E : Nat → Bool, fS l es f E (m + 1) t = if E m ∧ dstAt l m = some t then (es.getD m .no).res else fS l es f E m t := by
      intro E
      simp only [fS]
      by_cases hE : E m = true
      · by_cases hd : dstAt l m = some t
        · simp only [hE, hd, if_true, and_self, updo_eq]
        · simp only [hE, hd, if_true, and_false, if_false, updo_ne hd]
      · simp [hE]
    rw [aux D, aux D', ih]
    by_cases hd : dstAt l m = some t
    · rw [h m (by omega) hd]
    · simp [hd]
theorem fS_tail {l : List Oper} {es : List Eff} {f : Frm} {D : Nat → Bool} {t m : Nat} : ∀ n, m ≤ n → (∀ k, m ≤ k → k < n → dstAt l k = some t → D k = false) → fS l es f D n t = fS l es f D m t
  | 0, h, _ => by rw [show m = 0 by omega]
  | n + 1, h, hh => by
    rcases Nat.lt_or_ge n m with h1 | h1
    · rw [show m = n + 1 by omega]
    · rw [← fS_tail n h1 fun k a b => hh k a (by omega)]
      simp only [fS]
      by_cases hE : D n = true
      · have hd : dstAt l n ≠ some t := fun hd => by rw [hh n h1 (by omega) hd] at hE; cases hE
        simp only [hE, if_true, updo_ne hd]
      · simp [hE]
theorem hS_agree {es : List Eff} {H : Hp} {D D' : Nat → Bool} {s : Nat} : ∀ m, (∀ k, k < m → (∃ q, (s, q) ∈ (es.getD k .no).wr) → D k = D' k) → hS es H D m s = hS es H D' m s
  | 0, _ => rfl
  | m + 1, h => by
    have ih := hS_agree (es := es) (H := H) m fun k hk => h k (by omega)
    simp only [hS]
    by_cases hw : ∃ q, (s, q) ∈ (es.getD m .no).wr
    · rw [h m (by omega) hw]
      by_cases hE : D' m = true
      · simp only [hE, if_true]
        exact app_eq hw
      · simp [hE, ih]
    · have hw' : ∀ q, (s, q) ∉ (es.getD m .no).wr := fun q hq => hw ⟨q, hq⟩
      by_cases hE : D m = true <;> by_cases hE' : D' m = true <;> simp only [hE, hE', if_true, if_false, Bool.false_eq_true, app_ne hw', ih]
theorem hS_tail {es : List Eff} {H : Hp} {D : Nat → Bool} {s m : Nat} : ∀ n, m ≤ n → (∀ k, m ≤ k → k < n → (∃ q, (s, q) ∈ (es.getD k .no).wr) → D k = false) → hS es H D n s = hS es H D m s
  | 0, h, _ => by rw [show m = 0 by omega]
  | n + 1, h, hh => by
    rcases Nat.lt_or_ge n m with h1 | h1
    · rw [show m = n + 1 by omega]
    · rw [← hS_tail n h1 fun k a b => hh k a (by omega)]
      simp only [hS]
      by_cases hE : D n = true
      · have hd : ∀ q, (s, q) ∉ (es.getD n .no).wr := fun q hq => by rw [hh n h1 (by omega) ⟨q, hq⟩] at hE; cases hE
        simp only [hE, if_true, app_ne hd]
      · simp [hE]
theorem fS_cons {o : Oper} {l : List Oper} {e : Eff} {es : List Eff} {f : Frm} : ∀ k, fS (o :: l) (e :: es) f (fun _ => true) (k + 1) = fS l es (updo f o.dst e.res) (fun _ => true) k
  | 0 => by simp [fS, dstAt]
  | k + 1 => by
    rw [fS, fS_cons k]
    simp [fS, dstAt]
theorem hS_cons {e : Eff} {es : List Eff} {H : Hp} : ∀ k, hS (e :: es) H (fun _ => true) (k + 1) = hS es (app H e.wr) (fun _ => true) k
  | 0 => by simp [hS]
  | k + 1 => by
    rw [hS, hS_cons k]
    simp [hS]
/-- The walk's effects, and the state at each of its steps. -/
theorem pSeq_trace {Q : List Eff → Frm → Hp → Prop} : ∀ (l : List Oper) (tr : List Eff) (f : Frm) (H : Hp), pSeq P ops Q l tr f H →
    ∃ es : List Eff, es.length = l.length ∧ (∀ (k : Nat) (o : Oper), l[k]? = some o → PStep P ops o (fS l es f (fun _ => true) k) (hS es H (fun _ => true) k) (es.getD k .no)) ∧
      Q (tr ++ es) (fS l es f (fun _ => true) l.length) (hS es H (fun _ => true) l.length)
  | [], tr, f, H, h => ⟨[], rfl, fun k o hk => by simp at hk, by simpa [fS, hS, pSeq] using h⟩
  | o :: l, tr, f, H, h => by
    obtain ⟨e, h1, h2⟩ := h
    obtain ⟨es, g1, g2, g3⟩ := pSeq_trace l _ _ _ h2
    refine ⟨e :: es, by simp [g1], fun k o' hk => ?_, ?_⟩
    · cases k with
      | zero => simp at hk; subst hk; exact h1
      | succ k =>
        rw [fS_cons, hS_cons]
        exact g2 k o' (by simpa using hk)
    · rw [List.length_cons, fS_cons, hS_cons]
      simpa using g3

theorem names_rd {e : Eff} {s : Nat} (h : e.rd = some s) : s ∈ e.names := by simp [Eff.names, h]
theorem names_wr {e : Eff} {s : Nat} {q : HO} (h : (s, q) ∈ e.wr) : s ∈ e.names := by simp only [Eff.names, List.mem_append, List.mem_map]; exact .inr ⟨_, h, rfl⟩
/-- A list of those that have come up. -/
def DL (listed : Array Bool) : Nat → Bool := fun k => listed.getD k false
theorem ordOk_edge (h : ordOk ops (Region.before ops) = true) {j : Nat} {oj : Oper} (hj : ops[j]? = some oj) : ∀ e ∈ oj.after, Region.binds .any e = true → e.on < j := by
  simp only [ordOk, List.all_eq_true, List.mem_range] at h
  have := h j (Array.getElem?_eq_some_iff.1 hj).1
  simp only [hj, Bool.and_eq_true, Array.all_eq_true_iff_forall_mem] at this
  intro e he hb
  have := this.1 e he
  simpa [hb] using this
theorem ordOk_slot (h : ordOk ops (Region.before ops) = true) {i j : Nat} {oi oj : Oper} (hi : ops[i]? = some oi) (hj : ops[j]? = some oj) (hne : i ≠ j) {d : Tmp} (hd : oi.dst = some d) (hl : d ∈ oj.looksAt ops ∨ oj.dst = some d) :
    if i < j then isBef (Region.before ops) i j = true else isBef (Region.before ops) j i = true := by
  simp only [ordOk, List.all_eq_true, List.mem_range] at h
  have := h j (Array.getElem?_eq_some_iff.1 hj).1
  simp only [hj, Bool.and_eq_true, List.all_eq_true, List.mem_range] at this
  have := this.2 i (Array.getElem?_eq_some_iff.1 hi).1
  have hc : ((oj.looksAt ops).contains d || oj.dst == some d) = true := by
    rcases hl with hl | hl
    · simp [hl]
    · simp [hl]
  simp only [hi, hd, hc, if_true, Bool.or_eq_true, beq_iff_eq, hne, false_or] at this
  split <;> simp_all
theorem nameOk_spec {T : Array Nat} {tr : List Eff} (h : nameOk T tr = true) {i j : Nat} {e e' : Eff} (hi : tr[i]? = some e) (hj : tr[j]? = some e') (hne : i ≠ j) {s : Nat} {q : HO} (hw : (s, q) ∈ e.wr) (hs : s ∈ e'.names) :
    if i < j then isBef T i j = true else isBef T j i = true := by
  simp only [nameOk, List.all_eq_true] at h
  have h1 := h (e, i) (by rw [List.mem_zipIdx_iff_getElem?]; exact hi)
  simp only [List.all_eq_true] at h1
  have h2 := h1 (s, q) hw (e', j) (by rw [List.mem_zipIdx_iff_getElem?]; exact hj)
  have hc : e'.names.contains s = true := by simp [hs]
  simp only [hc, Bool.or_eq_true, beq_iff_eq, hne, false_or, Bool.not_true, Bool.false_eq_true] at h2
  split <;> simp_all
/-- Closed: with each all that must come before it. -/
def Clo (ops : Array Oper) (listed : Array Bool) : Prop := ∀ i j, isBef (Region.before ops) i j = true → listed.getD j false = true → listed.getD i false = true
theorem ready_clo {listed : Array Bool} (hsz : listed.size = ops.size) (hc : Clo ops listed) {j : Nat} (hj : j ∈ Region.ready .any ops listed) : Clo ops (listed.setIfInBounds j true) ∧ ∀ i, isBef (Region.before ops) i j = true → listed.getD i false = true := by
  obtain ⟨hun, oj, hoj, hall⟩ := mem_ready.1 hj
  have hbef : ∀ i, isBef (Region.before ops) i j = true → listed.getD i false = true := by
    intro i hi
    obtain ⟨o, e, ho, he, hb, h2⟩ := before_spec ops j i hi
    rw [hoj] at ho
    cases ho
    rcases h2 with h2 | h2
    · rw [← h2]; exact hall e he hb
    · exact hc i e.on h2 (hall e he hb)
  refine ⟨fun i k hik hk => ?_, hbef⟩
  by_cases hkj : k = j
  · subst hkj
    exact getD_set_true (hbef i hik)
  · rw [getD_set_ne false (Ne.symm hkj)] at hk
    exact getD_set_true (hc i k hik hk)

variable {es : List Eff} {f0 : Frm} {H0 : Hp}
/-- Behind those that have come up, one more that may come up finds all that it looks at as in the text's order. -/
theorem any_sound {n : Nat} (hk : opsOk N ops = true) (hfx : FixOk w0 ops) (ho : ordOk ops (Region.before ops) = true) (hlen : es.length = ops.size) (hn : nameOk (Region.before ops) es = true)
    (hstep : ∀ (k : Nat) (o : Oper), ops[k]? = some o → PStep P ops o (fS ops.toList es f0 (fun _ => true) k) (hS es H0 (fun _ => true) k) (es.getD k .no))
    {Q : Exit → Act → World → Prop} (hQ : ∀ a w mu, StM N M0 w0 (fS ops.toList es f0 (fun _ => true) ops.size) (hS es H0 (fun _ => true) ops.size) mu a w → Q .normal a w) :
    ∀ (fuel : Nat) (U : List Nat) (listed : Array Bool) (a : Act) (w : World) (mu : Nat → Option Nat), listed.size = ops.size → Clo ops listed → U.Nodup → (∀ i, i < ops.size → (listed.getD i true = false ↔ i ∈ U)) → U.length ≤ fuel →
      StM N M0 w0 (fS ops.toList es f0 (DL listed) ops.size) (hS es H0 (DL listed) ops.size) mu a w → wpAnyIn (fen w0.ro) n P .any ops Q fuel listed a w := by
  have hdst : ∀ k, k < ops.size → dstAt ops.toList k = (ops[k]?).bind (·.dst) := fun k _ => by simp [dstAt]
  have done : ∀ (U : List Nat) (listed : Array Bool), listed.size = ops.size → (∀ i, i < ops.size → (listed.getD i true = false ↔ i ∈ U)) → Clo ops listed → Region.ready .any ops listed = [] → ∀ i, i < ops.size → DL listed i = true := by
    intro U listed hsz hU hc hr
    intro i
    induction i using Nat.strongRecOn with
    | _ i ih =>
      intro hi
      by_cases hl : listed.getD i false = true
      · exact hl
      · exfalso
        have hmem : i ∈ Region.ready .any ops listed := by
          refine mem_ready.2 ⟨?_, ops[i], by simp [hi], fun e he hb => ?_⟩
          · have : i < listed.size := by omega
            simp [this] at hl ⊢
            exact hl
          · have := ordOk_edge ho (j := i) (oj := ops[i]) (by simp [hi]) e he hb
            exact ih e.on this (by omega)
        rw [hr] at hmem
        cases hmem
  have fin : ∀ (U : List Nat) (listed : Array Bool) (a : Act) (w : World) (mu : Nat → Option Nat), listed.size = ops.size → (∀ i, i < ops.size → (listed.getD i true = false ↔ i ∈ U)) → Clo ops listed →
      StM N M0 w0 (fS ops.toList es f0 (DL listed) ops.size) (hS es H0 (DL listed) ops.size) mu a w → Region.ready .any ops listed = [] → Q .normal a w := by
    intro U listed a w mu hsz hU hc h hr
    have hall := done U listed hsz hU hc hr
    have e1 : fS ops.toList es f0 (DL listed) ops.size = fS ops.toList es f0 (fun _ => true) ops.size := funext fun t => fS_agree _ fun k hk _ => hall k hk
    have e2 : hS es H0 (DL listed) ops.size = hS es H0 (fun _ => true) ops.size := funext fun t => hS_agree _ fun k hk _ => hall k hk
    rw [e1, e2] at h
    exact hQ a w mu h
  intro fuel
  induction fuel with
  | zero =>
    intro U listed a w mu hsz hc hnd hU hlen' h
    have hU0 : U = [] := List.eq_nil_of_length_eq_zero (by omega)
    have hr : Region.ready .any ops listed = [] := by
      cases hh : Region.ready .any ops listed with
      | nil => rfl
      | cons i l =>
        exfalso
        obtain ⟨hun, o, hoi, -⟩ := mem_ready.1 (show i ∈ Region.ready .any ops listed by rw [hh]; simp)
        have := (hU i (Array.getElem?_eq_some_iff.1 hoi).1).1 hun
        rw [hU0] at this
        cases this
    exact ⟨hr, fin U listed a w mu hsz hU hc h hr⟩
  | succ fuel ih =>
    intro U listed a w mu hsz hc hnd hU hlen' h
    refine ⟨fin U listed a w mu hsz hU hc h, fun j hj => ?_⟩
    obtain ⟨hun, oj, hoj, hall⟩ := mem_ready.1 hj
    have hjn : j < ops.size := (Array.getElem?_eq_some_iff.1 hoj).1
    obtain ⟨hc', hbef⟩ := ready_clo hsz hc hj
    have hjl : DL listed j = false := by
      have : j < listed.size := by omega
      simp [DL, this] at hun ⊢
      exact hun
    -- which writers of what j looks at have come up
    have key : ∀ k, k < ops.size → k ≠ j → (if k < j then isBef (Region.before ops) k j = true else isBef (Region.before ops) j k = true) → DL listed k = decide (k < j) := by
      intro k hk hkj hb
      by_cases hlt : k < j
      · rw [if_pos hlt] at hb
        simp only [hlt, decide_true]
        exact hbef k hb
      · rw [if_neg hlt] at hb
        simp only [hlt, decide_false]
        by_cases hkl : DL listed k = true
        · have := hc j k hb hkl
          rw [show listed.getD j false = DL listed j from rfl, hjl] at this
          cases this
        · simpa using hkl
    have text : fS ops.toList es f0 (fun _ => true) j = fS ops.toList es f0 (fun k => decide (k < j)) ops.size := by
      funext t
      rw [fS_tail ops.size (Nat.le_of_lt hjn) (D := fun k => decide (k < j)) fun k h1 h2 _ => by simp; omega]
      exact fS_agree _ fun k hk _ => by simp [hk]
    have textH : hS es H0 (fun _ => true) j = hS es H0 (fun k => decide (k < j)) ops.size := by
      funext t
      rw [hS_tail ops.size (Nat.le_of_lt hjn) (D := fun k => decide (k < j)) fun k h1 h2 _ => by simp; omega]
      exact hS_agree _ fun k hk _ => by simp [hk]
    have slot : ∀ t, (t ∈ oj.looksAt ops) → fS ops.toList es f0 (fun _ => true) j t = fS ops.toList es f0 (DL listed) ops.size t := by
      intro t ht
      rw [text]
      refine fS_agree _ fun k hk hd => ?_
      rw [hdst k hk] at hd
      by_cases hkj : k = j
      · subst hkj; rw [hjl]; simp
      · obtain ⟨ok, hok, hdk⟩ := Option.bind_eq_some_iff.1 hd
        exact (key k hk hkj (ordOk_slot ho hok hoj hkj hdk (.inl ht))).symm
    have name : ∀ s, s ∈ (es.getD j .no).names → hS es H0 (fun _ => true) j s = hS es H0 (DL listed) ops.size s := by
      intro s hs
      rw [textH]
      refine hS_agree _ fun k hk hq => ?_
      by_cases hkj : k = j
      · subst hkj; rw [hjl]; simp
      · obtain ⟨q, hq⟩ := hq
        have hke : es[k]? = some (es.getD k .no) := by simp [show k < es.length by omega]
        have hje : es[j]? = some (es.getD j .no) := by simp [show j < es.length by omega]
        exact (key k hk hkj (nameOk_spec hn hke hje hkj hq hs)).symm
    have hp := hstep j oj hoj
    have hp' : PStep P ops oj (fS ops.toList es f0 (DL listed) ops.size) (hS es H0 (DL listed) ops.size) (es.getD j .no) := by
      have hpw : pW ops (fS ops.toList es f0 (fun _ => true) j) oj = pW ops (fS ops.toList es f0 (DL listed) ops.size) oj :=
        pW_local fun t g want hg ht => slot t (by simp [Oper.looksAt, hg, ht])
      rcases hp with ⟨h1, h2⟩ | ⟨h1, h2⟩
      · refine .inl ⟨hpw ▸ h1, pop_local h2 (fun x hx => ?_) fun s hs => name s ?_⟩
        · cases x with
          | tmp t => exact slot t (List.mem_append_left _ (List.mem_filterMap.2 ⟨.tmp t, hx, rfl⟩))
          | _ => rfl
        · rcases hs with hs | ⟨q, hs⟩
          · exact names_rd hs
          · exact names_wr hs
      · exact .inr ⟨hpw ▸ h1, h2⟩
    refine pstep_wpOp h hk hfx hoj hp' fun v w' mu' hs => ?_
    have hDL : ∀ k, DL (listed.setIfInBounds j true) k = if k = j then true else DL listed k := by
      intro k
      by_cases hkj : k = j
      · subst hkj; simp [DL, show k < listed.size by omega]
      · simp only [DL, getD_set_ne false (Ne.symm hkj), hkj, if_false]
    have e1 : updo (fS ops.toList es f0 (DL listed) ops.size) oj.dst (es.getD j .no).res = fS ops.toList es f0 (DL (listed.setIfInBounds j true)) ops.size := by
      funext t
      by_cases hd : oj.dst = some t
      · rw [hd, updo_eq]
        rw [fS_tail (m := j + 1) ops.size hjn (D := DL (listed.setIfInBounds j true)) ?_]
        · rw [fS, hDL, if_pos rfl, if_pos rfl, hdst j hjn, hoj]
          simp only [Option.bind_some, hd, updo_eq]
        · intro k hk1 hk2 hdk
          rw [hDL, if_neg (by omega)]
          rw [hdst k hk2] at hdk
          obtain ⟨ok, hok, hdk'⟩ := Option.bind_eq_some_iff.1 hdk
          rw [key k hk2 (by omega) (ordOk_slot ho hok hoj (by omega) hdk' (.inr hd))]
          simp; omega
      · rw [updo_ne hd]
        refine fS_agree _ fun k hk hdk => ?_
        have hkj : k ≠ j := by
          intro e
          subst e
          rw [hdst k hk, hoj] at hdk
          exact hd hdk
        rw [hDL, if_neg hkj]
    have e2 : app (hS es H0 (DL listed) ops.size) (es.getD j .no).wr = hS es H0 (DL (listed.setIfInBounds j true)) ops.size := by
      funext s
      by_cases hq : ∃ q, (s, q) ∈ (es.getD j .no).wr
      · have hqq := hq
        obtain ⟨q, hq⟩ := hq
        rw [hS_tail (m := j + 1) ops.size hjn (D := DL (listed.setIfInBounds j true)) ?_]
        · rw [hS, hDL, if_pos rfl, if_pos rfl]
          exact app_eq hqq
        · intro k hk1 hk2 hqk
          rw [hDL, if_neg (by omega)]
          obtain ⟨q', hq'⟩ := hqk
          have hke : es[k]? = some (es.getD k .no) := by simp [show k < es.length by omega]
          have hje : es[j]? = some (es.getD j .no) := by simp [show j < es.length by omega]
          rw [key k hk2 (by omega) (nameOk_spec hn hke hje (by omega) hq' (names_wr hq))]
          simp; omega
      · rw [app_ne fun q hq' => hq ⟨q, hq'⟩]
        refine hS_agree _ fun k hk hqk => ?_
        have hkj : k ≠ j := by intro e; subst e; exact hq hqk
        rw [hDL, if_neg hkj]
    rw [e1, e2] at hs
    have hjU : j ∈ U := (hU j hjn).1 hun
    refine ih (U.erase j) _ _ w' mu' (by simp [hsz]) hc' (hnd.erase j) (fun i hi => ?_) (by rw [List.length_erase_of_mem hjU]; omega) hs
    rw [hnd.mem_erase_iff, ← hU i hi]
    by_cases hij : i = j
    · subst hij
      simp [show i < listed.size by omega]
    · rw [getD_set_ne true (Ne.symm hij)]
      simp [hij]
end
end Go.Proofs.YtefiebkngpcaoaaDoor
