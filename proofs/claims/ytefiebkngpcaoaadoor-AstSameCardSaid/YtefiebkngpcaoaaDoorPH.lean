/- The pure logic of code: regions, branches, blocks, loops; and a function's contract out of it. Conditions: the closed checks of the code. -/
import Derived.Test.YtefiebkngpcaoaaDoorPG4
import Derived.Sort.LoopGhostIn
set_option maxRecDepth 100000
set_option linter.unusedVariables false
set_option linter.unusedSimpArgs false
set_option linter.unusedSectionVars false
namespace Go.Proofs.YtefiebkngpcaoaaDoor
open Go.RowKit

abbrev Sig := Option Nat × List Nat
def Eff.sig (e : Eff) : Sig := (e.rd, e.wr.map (·.1))
/-- All that share a name which one of them writes are ordered. -/
def nm (T : Array Nat) (l : List Sig) : Bool :=
  l.zipIdx.all fun (e, i) => e.2.all fun s => l.zipIdx.all fun (e', j) => i == j || !(e'.1 == some s || e'.2.contains s) || (if i < j then isBef T i j else isBef T j i)
/-- The sign of an operation that is walked by what it does to the whole state. -/
abbrev anySig : Sig := (some TR, [])
/-- One region, walked in the text's order. -/
def pEval (P : Program) (ops : Array Oper) (dr : Bool) (Q : List Sig → Frm → Hp → Prop) : List Oper → List Sig → Frm → Hp → Prop
  | [], tr, f, H => Q tr f H
  | o :: rest, tr, f, H => match pW ops f o with
    | some true => (∃ e, POp P o f H e ∧ pEval P ops dr Q rest (tr ++ [e.sig]) (updo f o.dst e.res) (app H e.wr)) ∨ (dr = false ∧ Sem1 P o f H fun f' H' => pEval P ops dr Q rest (tr ++ [anySig]) f' H')
    | some false => pEval P ops dr Q rest (tr ++ [(none, [])]) (updo f o.dst (.d (.tup []))) H
    | none => False
/-- Does the name mean the same? -/
def keptA (H H' : Hp) : SA → Prop
  | .loc s _ => H' s = H s
  | .d _ => True
def kept (H H' : Hp) : SV → Prop
  | .loc s _ => H' s = H s
  | .own r _ _ => H' r = H r
  | .bs s _ _ _ => H' s = H s
  | .vec r _ _ => H' r = H r
  | .vptr r _ _ => H' r = H r
  | .clo _ first cap => (∀ x ∈ first, keptA H H' x) ∧ ∀ x ∈ cap, keptA H H' x
  | _ => True
/-- A frame of which less is said. -/
structure Less (f : Frm) (H : Hp) (f' : Frm) (H' : Hp) : Prop where
  slot : ∀ t, f' t = f t ∨ f' t = .junk ∨ (∃ x, (f t).toD = some x ∧ f' t = .d x) ∨ ∃ r ver n e sz cs ds, f t = .vec r ver n ∧ H r = .vec e sz ver cs ∧ toDs cs = some ds ∧ H' r = .none ∧ f' t = .d (.sl n ds)
  name : ∀ s, H' s = H s ∨ H' s = .none
  kslot : ∀ t, kept H H' (f' t)
  kbox : ∀ s cs, H' s = .box cs → ∀ x ∈ cs, kept H H' x
  kvec : ∀ r e sz ver cs, H' r = .vec e sz ver cs → ∀ x ∈ cs, kept H H' x
/-- The same state, told otherwise. -/
inductive Cv : Frm → Hp → Frm → Hp → Prop
  | refl (f : Frm) (H : Hp) : Cv f H f H
  | trans {f H f1 H1 f2 H2} (h1 : Cv f H f1 H1) (h2 : Cv f1 H1 f2 H2) : Cv f H f2 H2
  | less {f H f' H'} (h : Less f H f' H') : Cv f H f' H'
  | adopt {f : Frm} {H : Hp} (t r : Nat) (e : TypeId) (size : Nat) (h1 : f t = .nil) (h2 : H r = .none) (h4 : r < TR) : Cv f H (upd f t (.own r 0 [])) (hup H r (.row e size 0))
  | adoptV {f : Frm} {H : Hp} (t r : Nat) (e : TypeId) (size : Nat) (h1 : f t = .nil) (h2 : H r = .none) (h4 : r < TR) : Cv f H (upd f t (.vec r 0 0)) (hup H r (.vec e size 0 []))
  | adoptVB {f : Frm} {H : Hp} (s : Nat) (cs : List SV) (i r : Nat) (e : TypeId) (size : Nat) (h1 : H s = .box cs) (h3 : cs[i]? = some .nil ∨ cs[i]? = some (.d .nils)) (h2 : H r = .none) (h4 : r < TR) : Cv f H f (hup (hup H r (.vec e size 0 [])) s (.box (cs.set i (.vec r 0 0))))
  | adoptB {f : Frm} {H : Hp} (s : Nat) (cs : List SV) (i r : Nat) (e : TypeId) (size : Nat) (h1 : H s = .box cs) (h3 : cs[i]? = some .nil ∨ cs[i]? = some (.d .nils)) (h2 : H r = .none) (h4 : r < TR) : Cv f H f (hup (hup H r (.row e size 0)) s (.box (cs.set i (.own r 0 []))))
def pThen (K : Frm → Hp → Prop) (Q : Exit → Frm → Hp → Prop) : Exit → Frm → Hp → Prop
  | .normal, f, H => K f H
  | .outgrown, _, _ => False
  | e, f, H => Q e f H
def pBlock (id : Nat) (Q : Exit → Frm → Hp → Prop) : Exit → Frm → Hp → Prop
  | .exit id', f, H => if id' = id then Q .normal f H else Q (.exit id') f H
  | .outgrown, _, _ => False
  | e, f, H => Q e f H
/-- The state, told otherwise, so that. -/
def Gh (K : Frm → Hp → Prop) (f : Frm) (H : Hp) : Prop :=
  ∀ (N : Nat) (M0 : MM) (C : Ctx) (mu : Nat → Option Nat) (a : Act) (w : World), StM N M0 C f H mu a w → ∃ f' H' M0' mu', StM N M0' C f' H' mu' a w ∧ K f' H'
def pOnly (K : Frm → Hp → Prop) : Exit → Frm → Hp → Prop
  | .normal, f, H => K f H
  | _, _, _ => False
/-- These slots are told nothing of. -/
def Clr (W : List Nat) (f : Frm) : Prop := ∀ t ∈ W, f t = .junk
/-- How a round may be left. -/
def pRound (W : List Nat) (I : Frm → Hp → Prop) (Q : Exit → Frm → Hp → Prop) : Exit → Frm → Hp → Prop
  | .normal, f, H => Gh (fun f H => I f H ∧ Clr W f) f H
  | .ret, f, H => Gh (fun f H => Q .ret f H ∧ Clr W f) f H
  | .exit id, f, H => Gh (fun f H => Q (.exit id) f H ∧ Clr W f) f H
  | _, _, _ => False
/-- The slots that code writes. -/
def wrt : Code → List Nat
  | .region _ ops _ => ops.toList.filterMap (·.dst)
  | .seq x y => wrt x ++ wrt y
  | .cond _ x y => wrt x ++ wrt y
  | .block _ x => wrt x
  | .loop x => wrt x
  | .scope x => wrt x
  | .rangeFunc _ ps x y => ps.toList ++ wrt x ++ wrt y
  | _ => []
def setPs : List Tmp → List D → Frm → Frm
  | t :: ts, d :: ds, f => setPs ts ds (upd f t (.d d))
  | _, _, f => f
def pwp (P : Program) : Code → (Exit → Frm → Hp → Prop) → Frm → Hp → Prop
  | .skip, Q, f, H => Q .normal f H
  | .label _, Q, f, H => Q .normal f H
  | .ret, Q, f, H => Q .ret f H
  | .exit id, Q, f, H => Q (.exit id) f H
  | .region _ ops draw, Q, f, H => pEval P ops draw (fun tr f H => (match draw with | true => nm (Region.before ops) tr = true | false => True) ∧ Q .normal f H) ops.toList [] f H
  | .seq x y, Q, f, H => pwp P x (pThen (Gh fun f H => pwp P y Q f H) Q) f H
  | .cond c x y, Q, f, H => ∃ b, ev f c = .d (.bool b) ∧ (if b then pwp P x Q f H else pwp P y Q f H)
  | .block id x, Q, f, H => pwp P x (pBlock id Q) f H
  | .loop x, Q, f, H => ∃ I : Nat → Frm → Hp → Prop, Gh (fun f H => ∃ n, I n f H) f H ∧
      ∀ n f H, I n f H → pwp P x (pThen (Gh fun f H => ∃ m, m < n ∧ I m f H) Q) f H
  | .rangeFunc g ps x y, Q, f, H => ∃ (k : FuncId) (cap : List D) (xs : List (List D)) (I : List (List D) → List (List D) → Frm → Hp → Prop), PS P k cap xs ∧ (∀ d ∈ xs, d.length = ps.size) ∧
      Gh (fun f H => ev f g = .d (.fn (.func k) [] cap) ∧ I [] xs f H ∧ Clr (ps.toList ++ wrt x ++ wrt y) f) f H ∧
      (∀ pre d rest f H, I pre (d :: rest) f H → Clr (ps.toList ++ wrt x ++ wrt y) f → pwp P x (pOnly fun f H => pwp P y (pRound (ps.toList ++ wrt x ++ wrt y) (I (pre ++ [d]) rest) Q) f H) (setPs ps.toList d f) H) ∧
      ∀ f H, I xs [] f H → Clr (ps.toList ++ wrt x ++ wrt y) f → Q .normal f H
  | _, _, _, _ => False
/-- The closed checks. -/
def codeOk (N : Nat) : Code → Bool
  | .skip | .label _ | .ret | .exit _ => true
  | .region _ ops draw => opsOk N ops && (!draw || ordOk ops (Region.before ops))
  | .seq x y => codeOk N x && codeOk N y
  | .cond c x y => opB N c && codeOk N x && codeOk N y
  | .block _ x => codeOk N x
  | .loop x => codeOk N x
  | .rangeFunc g ps x y => opB N g && ps.toList.all (fun t => decide (t < N)) && codeOk N x && codeOk N y
  | _ => true
section
variable {P : Program} {N : Nat} {M0 : MM} {w0 : Ctx} {w : World} {f f' : Frm} {H H' : Hp} {mu : Nat → Option Nat} {a : Act} {o : Oper} {e : Eff} {ops : Array Oper}

theorem sig_names (e : Eff) (s : Nat) : e.names.contains s = (e.sig.1 == some s || e.sig.2.contains s) := by
  unfold Eff.names Eff.sig
  cases e.rd with
  | none => rfl
  | some r =>
    show (r :: e.wr.map (·.1)).contains s = ((some r == some s) || (e.wr.map (·.1)).contains s)
    rw [List.contains_cons]
    congr 1
    by_cases h : s = r
    · subst h; simp
    · rw [beq_eq_false_iff_ne.2 h, beq_eq_false_iff_ne.2 fun e => h (Option.some.inj e).symm]
theorem nm_spec (T : Array Nat) (tr : List Eff) : nm T (tr.map Eff.sig) = nameOk T tr := by
  unfold nm nameOk
  simp only [List.zipIdx_map, List.all_map, Function.comp_def, Prod.map, id]
  congr 1
  funext x
  obtain ⟨e, i⟩ := x
  simp only [Eff.sig, List.all_map, Function.comp_def]
  congr 1
  funext p
  obtain ⟨s, q⟩ := p
  simp only
  congr 1
  funext y
  obtain ⟨e', j⟩ := y
  simp only [sig_names, Eff.sig]
theorem pEval_seq {Q : List Sig → Frm → Hp → Prop} : ∀ (l : List Oper) (tr : List Eff) (f : Frm) (H : Hp), pEval P ops true Q l (tr.map Eff.sig) f H → pSeq P ops (fun tr f H => Q (tr.map Eff.sig) f H) l tr f H
  | [], tr, f, H, h => h
  | o :: l, tr, f, H, h => by
    unfold pEval at h
    split at h
    · rename_i hw
      rcases h with ⟨e, he, h⟩ | ⟨h, -⟩
      · exact ⟨e, .inl ⟨hw, he⟩, pEval_seq l _ _ _ (by simpa using h)⟩
      · cases h
    · rename_i hw
      exact ⟨.no, .inr ⟨hw, rfl⟩, pEval_seq l (tr ++ [.no]) _ _ (by rw [List.map_append]; exact h)⟩
    · exact h.elim
/-- A slice of cells that are written no more. -/
theorem StM.frozen (h : StM N M0 w0 f H mu a w) {r ver n : Nat} {v : Value} (hv : VecRep H mu w v r ver n) {e : TypeId} {sz : Nat} {cs : List SV} (hH : H r = .vec e sz ver cs) {ds : List D} (hd : toDs cs = some ds) {M : Addr → Prop} (hst : Stay (Mut M0 H mu) w M w)
    (hno : ∀ y : Addr, mu r = some y.block → ¬ M y) : Rep M w v (.sl n ds) := by
  obtain ⟨h0, e1, sz1, v1, cs1, g1, g2, g3⟩ := hv
  rw [hH] at g1
  cases g1
  obtain ⟨g4, g5⟩ := g3 rfl
  rcases g5 with ⟨a1, a2, a3⟩ | ⟨g, cap, cur, e', a1, a2, a3, a4, a5, a6⟩
  · subst a2
    have : cs = [] := List.eq_nil_of_length_eq_zero (by simpa using g4)
    subst this
    simp only [toDs, Option.some.injEq] at hd
    subst hd
    rw [a1]
    exact .sl none 0 0 [] [] (Nat.le_refl _) (fun _ => ⟨rfl, rfl, rfl⟩) (fun a e => by cases e) .nil
  · obtain ⟨cur', k1, k2, k3, k4, k5⟩ := h.vecCells hH a2
    obtain ⟨q1, q2, q3⟩ := k5 0
    simp only [List.drop_zero] at q1 q2 q3
    rw [a1]
    refine .sl _ _ _ (cur'.toList.take cs.length) ds a4 (fun e => by cases e) (fun ad ha => ?_) (RepL.mono hst (toDs_sound hd q1 q3))
    cases ha
    exact ⟨fun _ => rfl, fun j u hj => ⟨(q2 j u hj).1, hno _ (by rw [Addr.add_mid]; exact a2), (q2 j u hj).2⟩⟩
theorem StM.less (h : StM N M0 w0 f H mu a w) (hc : Less f H f' H') : StM N M0 w0 f' H' mu a w := by
  have hTR : f' TR = f TR ∨ f' TR = .junk ∨ ∃ x, f' TR = .d x := (hc.slot TR).imp_right fun h => h.imp_right fun h => h.elim (fun ⟨x, _, h⟩ => ⟨x, h⟩) fun ⟨_, _, _, _, _, _, _, _, _, _, _, h⟩ => ⟨_, h⟩
  have hmu : ∀ x, Named H' mu x → Named H mu x := by
    rintro x ⟨s, hx⟩
    refine ⟨s, ?_⟩
    rcases hc.name s with h4 | h4
    · rw [h4] at hx; exact hx
    · rw [h4] at hx; exact hx.elim
  have own : Keep (Named H mu) w (Named H' mu) w := (Keep.refl _ _).fewer hmu
  have hst : Stay (Mut M0 H mu) w (Mut M0 H' mu) w := own.cell.mut
  have sal : ∀ {vs : List Value} {xs : List SA}, SAL M0 H mu w vs xs → (∀ x ∈ xs, keptA H H' x) → SAL M0 H' mu w vs xs := fun h hk => ⟨h.1, fun j v x h1 h2 => by
    have h3 := h.2 j v x h1 h2
    have h4 := hk x (List.mem_of_getElem? h2)
    cases x with
    | d x => exact Rep.mono hst h3
    | loc s off => obtain ⟨cs, b, g1, g2⟩ := h3; exact ⟨cs, b, h4.trans g1, g2⟩⟩
  have conv : ∀ v x, SRep M0 H mu w v x → kept H H' x → SRep M0 H' mu w v x := by
    intro v x hx hk
    cases x with
    | d x => exact Rep.mono hst hx
    | loc s off => obtain ⟨cs, b, g1, g2⟩ := hx; exact ⟨cs, b, hk.trans g1, g2⟩
    | own r n cs => obtain ⟨g0, e, sz, k, g1, g2⟩ := hx; exact ⟨Rep.mono hst g0, e, sz, k, hk.trans g1, g2⟩
    | bs s off n cap => obtain ⟨cs, b, g1, g2⟩ := hx; exact ⟨cs, b, hk.trans g1, g2⟩
    | vec r ver n => obtain ⟨h0, e, sz, v1, cs, g1, g2⟩ := hx; exact ⟨h0, e, sz, v1, cs, hk.trans g1, g2⟩
    | vptr r ver off => obtain ⟨h0, e, sz, v1, cs, g1, g2⟩ := hx; exact ⟨h0, e, sz, v1, cs, hk.trans g1, g2⟩
    | clo g first cap => obtain ⟨vs, us, g1, g2, g3⟩ := hx; exact ⟨vs, us, g1, sal g2 hk.1, sal g3 hk.2⟩
    | nil => exact hx
    | yld l => exact hx
    | trace l pre rest => trivial
    | stop => trivial
    | junk => trivial
  have back : ∀ s, H' s ≠ .none → H' s = H s := fun s hs => (hc.name s).resolve_right hs
  refine h.move own ⟨fun s hs => .inl (by rcases hc.name s with h1 | h1; exact h1.trans hs; exact h1), fun s cs hs => (hc.name s).elim (fun h1 => .inr ⟨⟨cs, h1.trans hs⟩, rfl⟩) .inl, fun r e sz ver cs hr => (hc.name r).elim (fun h1 => .inr ⟨ver, cs, h1.trans hr, Nat.le_refl _, fun _ => ⟨rfl, rfl, fun g cur e' _ hg => ⟨cur, hg, rfl⟩⟩⟩) .inl⟩ rfl h.size (fun s b h1 h2 => .inl ⟨s, by rw [← back s h1]; exact h1, h2⟩) (fun t ht => ?_) (fun s cs hs => ?_) (fun r e size k hr => ?_) (fun r e sz ver cs hr => ?_) (fun s s' b h1 h2 => ?_) (fun _ _ => rfl) hTR
  · rcases hc.slot t with h1 | h1 | ⟨x, h1, h2⟩ | ⟨r, ver, n, e, sz, cs, ds, h1, h2, h3, h4, h5⟩
    · have := hc.kslot t
      rw [h1] at this ⊢
      exact conv _ _ (h.slots t ht) this
    · rw [h1]; exact trivial
    · rw [h2]; exact Rep.mono hst (SRep.toD (h.slots t ht) h1)
    · have hv := h.slots t ht
      rw [h1] at hv
      rw [h5]
      refine h.frozen hv h2 h3 hst fun y hy hm => ?_
      rcases hm with hm | ⟨s, hs⟩
      · exact h.sep r _ (by rw [h2]; simp) hy y rfl hm
      · have hne : H' s ≠ .none := fun e => by rw [e] at hs; exact hs
        have hms : mu s = some y.block := by
          cases hh : H' s with
          | none => exact absurd hh hne
          | box cs => rw [hh] at hs; exact hs
          | row e sz k => rw [hh] at hs; exact hs.1
          | vec e sz v c => rw [hh] at hs; exact hs
        have := h.inj s r _ (by rw [← back s hne]; exact hne) (by rw [h2]; simp) hms hy
        subst this
        exact hne h4
  · obtain ⟨b, arr, e, g1, g2, g3, g4, g5⟩ := h.box s cs ((back s (by rw [hs]; simp)).symm.trans hs)
    exact ⟨b, arr, e, g1, g2, g3, g4, fun j x hj => ⟨conv _ _ (g5 j x hj).1 (hc.kbox s cs hs x (List.mem_of_getElem? hj)), (g5 j x hj).2⟩⟩
  · exact h.row r e size k ((back r (by rw [hr]; simp)).symm.trans hr)
  · rcases h.vec r e sz ver cs ((back r (by rw [hr]; simp)).symm.trans hr) with g1 | ⟨g, cur, g1, g2, g3, g4, g5, g6⟩
    · exact .inl g1
    · exact .inr ⟨g, cur, g1, g2, g3, g4, g5, fun j x hj => conv _ _ (g6 j x hj) (hc.kvec r e sz ver cs hr x (List.mem_of_getElem? hj))⟩
  · exact h.inj s s' b (by rw [← back s h1]; exact h1) (by rw [← back s' h2]; exact h2)
theorem upd_tr {t : Nat} {v x : SV} (hx : x ≠ v) (hq : upd f t v TR = x) : f TR = x := by
  simp only [upd] at hq
  split at hq
  · exact absurd hq.symm hx
  · exact hq
theorem StM.cv (h : StM N M0 w0 f H mu a w) (hc : Cv f H f' H') : ∃ mu', StM N M0 w0 f' H' mu' a w := by
  induction hc generalizing mu with
  | refl f H => exact ⟨mu, h⟩
  | trans h1 h2 ih1 ih2 =>
    obtain ⟨mu', h'⟩ := ih1 h
    exact ih2 h'
  | less hl => exact ⟨mu, h.less hl⟩
  | adopt t r e size h1 h2 h4 =>
    have h' := h.new (w' := w) h2 h4 (.row e size 0) none (by simp) (Below.refl _ _) (by simp)
    refine ⟨_, { h' with slots := fun u hu => ?_, tr := fun l pre rest ht => h'.tr l pre rest (upd_tr (by simp) ht), st := fun ht => h'.st (upd_tr (by simp) ht) }⟩
    simp only [upd]
    split
    · rename_i hut
      subst hut
      have hv := h'.slots u hu
      rw [h1] at hv
      refine ⟨?_, e, size, 0, by simp [hup], Nat.le_refl _, fun _ => ⟨by simp, .inl ⟨hv, rfl, by simp⟩⟩⟩
      rw [show a.tmps.getD u undef = .slice none 0 0 from hv]
      exact .sl none 0 0 [] [] (Nat.le_refl _) (fun _ => ⟨rfl, rfl, rfl⟩) (fun a e => by cases e) .nil
    · exact h'.slots u hu
  | adoptV t r e size h1 h2 h4 =>
    have h' := h.new (w' := w) h2 h4 (.vec e size 0 []) none (by simp) (Below.refl _ _) (by simp) (fun e sz ver cs he => by cases he; exact .inl ⟨rfl, rfl⟩)
    refine ⟨_, { h' with slots := fun u hu => ?_, tr := fun l pre rest ht => h'.tr l pre rest (upd_tr (by simp) ht), st := fun ht => h'.st (upd_tr (by simp) ht) }⟩
    simp only [upd]
    split
    · rename_i hut
      subst hut
      have hv := h'.slots u hu
      rw [h1] at hv
      rw [show a.tmps.getD u undef = .slice none 0 0 from hv]
      exact ⟨⟨_, _, rfl, fun _ => rfl⟩, e, size, 0, [], by simp [hup], Nat.le_refl _, fun _ => ⟨by simp, .inl ⟨rfl, rfl, by simp⟩⟩⟩
    · exact h'.slots u hu
  | adoptVB s cs i r e size h1 h3 h2 h4 =>
    have hsr : s ≠ r := by intro e; subst e; rw [h1] at h2; cases h2
    have h' := h.new (w' := w) h2 h4 (.vec e size 0 []) none (by simp) (Below.refl _ _) (by simp) (fun e sz ver cs he => by cases he; exact .inl ⟨rfl, rfl⟩)
    obtain ⟨b, arr, et, g1, g2, g3, g4, g5⟩ := h'.box s cs (by simp [hup, hsr, h1])
    have h2' := h'.setBox (s := s) (cs := cs) (cs' := cs.set i (.vec r 0 0)) (by simp [hup, hsr, h1]) g1 g3 arr (by simp [g4]) (by
      intro j x hj
      rw [List.getElem?_set] at hj
      split at hj
      · rename_i hij
        subst hij
        split at hj
        · cases hj
          have hv : arr.getD i undef = .slice none 0 0 ∧ (arr.getD i undef).oneCell' = true := by
            rcases h3 with h3 | h3
            · exact g5 i _ h3
            · refine ⟨?_, (g5 i _ h3).2⟩
              have := (g5 i _ h3).1
              generalize arr.getD i undef = v at this
              cases (show Rep _ _ v .nils from this)
              rfl
          rw [show arr.getD i undef = .slice none 0 0 from hv.1]
          exact ⟨⟨⟨_, _, rfl, fun _ => rfl⟩, e, size, 0, [], by simp [hup], Nat.le_refl _, fun _ => ⟨by simp, .inl ⟨rfl, rfl, by simp⟩⟩⟩, rfl⟩
        · cases hj
      · exact g5 j x hj)
    have hw : w.setRow b arr = w := by
      have hlt := (Array.getElem?_eq_some_iff.1 g3).1
      unfold World.setRow
      congr 1
      apply Array.ext
      · simp
      · intro k hk1 hk2
        rw [Array.getElem_modify]
        split
        · rename_i e
          subst e
          rw [(Array.getElem?_eq_some_iff.1 g3).2]
        · rfl
    rw [hw] at h2'
    exact ⟨_, h2'⟩
  | adoptB s cs i r e size h1 h3 h2 h4 =>
    have hsr : s ≠ r := by intro e; subst e; rw [h1] at h2; cases h2
    have h' := h.new (w' := w) h2 h4 (.row e size 0) none (by simp) (Below.refl _ _) (by simp)
    obtain ⟨b, arr, et, g1, g2, g3, g4, g5⟩ := h'.box s cs (by simp [hup, hsr, h1])
    have h2' := h'.setBox (s := s) (cs := cs) (cs' := cs.set i (.own r 0 [])) (by simp [hup, hsr, h1]) g1 g3 arr (by simp [g4]) (by
      intro j x hj
      rw [List.getElem?_set] at hj
      split at hj
      · rename_i hij
        subst hij
        split at hj
        · cases hj
          have hv : arr.getD i undef = .slice none 0 0 ∧ (arr.getD i undef).oneCell' = true := by
            rcases h3 with h3 | h3
            · exact g5 i _ h3
            · refine ⟨?_, (g5 i _ h3).2⟩
              have := (g5 i _ h3).1
              generalize arr.getD i undef = v at this
              cases (show Rep _ _ v .nils from this)
              rfl
          refine ⟨⟨?_, e, size, 0, by simp [hup], Nat.le_refl _, fun _ => ⟨by simp, .inl ⟨hv.1, rfl, by simp⟩⟩⟩, hv.2⟩
          rw [show arr.getD i undef = .slice none 0 0 from hv.1]
          exact .sl none 0 0 [] [] (Nat.le_refl _) (fun _ => ⟨rfl, rfl, rfl⟩) (fun a e => by cases e) .nil
        · cases hj
      · exact g5 j x hj)
    have hw : w.setRow b arr = w := by
      have hlt := (Array.getElem?_eq_some_iff.1 g3).1
      unfold World.setRow
      congr 1
      apply Array.ext
      · simp
      · intro k hk1 hk2
        rw [Array.getElem_modify]
        split
        · rename_i e
          subst e
          rw [(Array.getElem?_eq_some_iff.1 g3).2]
        · rfl
    rw [hw] at h2'
    exact ⟨_, h2'⟩

theorem Gh.of {K : Frm → Hp → Prop} (h : K f H) : Gh K f H := fun _ M0 _ mu _ _ hs => ⟨f, H, M0, mu, hs, h⟩
theorem Gh.cv {K : Frm → Hp → Prop} (hc : Cv f H f' H') (h : K f' H') : Gh K f H := fun _ M0 _ _ _ _ hs => have ⟨mu', hs'⟩ := hs.cv hc; ⟨f', H', M0, mu', hs', h⟩
/-- One region that does not draw. -/
theorem pEval_list {Q' : List Sig → Frm → Hp → Prop} {Q : Exit → Act → World → Prop} {n : Nat} (hP : w0.P = P) (hk : opsOk N ops = true) (hfx : FixOk w0 ops) (hQ : ∀ tr f H a w M0 mu, StM N M0 w0 f H mu a w → Q' tr f H → Q .normal a w) :
    ∀ (l : List Oper) (tr : List Sig) (f : Frm) (H : Hp) (M0 : MM) (mu : Nat → Option Nat) (a : Act) (w : World), (∀ o ∈ l, ∃ i : Nat, ops[i]? = some o) → StM N M0 w0 f H mu a w → pEval P ops false Q' l tr f H → wpListIn (fen w0.ro) n P ops Q l a w
  | [], tr, f, H, M0, mu, a, w, _, h, hp => hQ tr f H a w M0 mu h hp
  | o :: l, tr, f, H, M0, mu, a, w, hl, h, hp => by
    obtain ⟨i, hi⟩ := hl o (by simp)
    unfold wpListIn
    unfold pEval at hp
    split at hp
    · rename_i hw
      rw [pW_sound h hk hi hw]
      simp only [if_true]
      rcases hp with ⟨e, g1, g2⟩ | ⟨-, g1⟩
      · exact pop_wp h (opsOk_op hk hi) (hfx i o hi) g1 fun v w' mu' hs => pEval_list hP hk hfx hQ l _ _ _ M0 mu' _ w' (fun o ho => hl o (by simp [ho])) hs g2
      · exact g1 N M0 w0 mu a w n Q _ hP (opsOk_op hk hi) (hfx i o hi) h fun f' H' M0' mu' a' w' hs hq => pEval_list hP hk hfx hQ l _ _ _ M0' mu' _ w' (fun o ho => hl o (by simp [ho])) hs hq
    · rename_i hw
      rw [pW_sound h hk hi hw]
      simp only [Bool.false_eq_true, if_false]
      exact ⟨fun _ _ => trivial, pEval_list hP hk hfx hQ l _ _ _ M0 mu _ w (fun o ho => hl o (by simp [ho])) (h.put (x := .d (.tup [])) (fun d hd => ⟨opOk_dst (opsOk_op hk hi) d hd, hfx i o hi d hd⟩) (Rep.tup #[] [] .nil)) hp⟩
    · exact hp.elim
theorem fixOk_of {id : Nat} {dr : Bool} (h : ∀ d ∈ wrt (.region id ops dr), w0.fix d = false) : FixOk w0 ops := fun i o hi d hd => h d (by
  simp only [wrt, List.mem_filterMap]
  exact ⟨o, List.mem_of_getElem? (i := i) (by simpa using hi), hd⟩)
/-- How the parameters of a round are set. -/
theorem setPs_sound {tm : Array Value} : ∀ (ts : List Tmp) (ds : List D) (vs : List Value) (f : Frm) (tmps : Array Value), (∀ t ∈ ts, t < N) → N ≤ TR → tmps.size = N → RepL (Mut M0 H mu) w vs ds → (∀ t, t < N → SRep M0 H mu w (tmps.getD t undef) (f t)) →
    let tmps' := (ts.zip vs).foldl (fun (t : Array Value) (p : Tmp × Value) => t.setIfInBounds p.1 p.2) tmps
    tmps'.size = N ∧ (∀ t, t < N → SRep M0 H mu w (tmps'.getD t undef) (setPs ts ds f t)) ∧ (∀ t, ¬ t ∈ ts → tmps'.getD t undef = tmps.getD t undef) ∧ setPs ts ds f TR = f TR
  | [], ds, vs, f, tmps, _, _, hsz, _, hs => ⟨hsz, by simpa [setPs] using hs, fun _ _ => rfl, rfl⟩
  | t :: ts, ds, [], f, tmps, _, _, hsz, hr, hs => by
    cases hr
    exact ⟨hsz, by simpa [setPs] using hs, fun _ _ => rfl, rfl⟩
  | t :: ts, ds, v :: vs, f, tmps, ht, hN, hsz, hr, hs => by
    cases hr with
    | cons v d vs ds hv hr =>
      have htN := ht t (by simp)
      have hput : ∀ u, (tmps.setIfInBounds t v).getD u undef = if u = t then v else tmps.getD u undef := fun u => by
        by_cases hu : u = t
        · subst hu; simp [hsz, htN]
        · simp [hu, Array.getElem?_setIfInBounds_ne (Ne.symm hu)]
      obtain ⟨g1, g2, g3, g4⟩ := setPs_sound (tm := tm) ts ds vs (upd f t (.d d)) (tmps.setIfInBounds t v) (fun u hu => ht u (by simp [hu])) hN (by simpa using hsz) hr (fun u hu => by
        rw [hput]
        simp only [upd]
        split
        · exact hv
        · exact hs u hu)
      refine ⟨g1, g2, fun u hu => ?_, ?_⟩
      · simp only [List.mem_cons, not_or] at hu
        simp only [List.zip_cons_cons, List.foldl_cons]
        rw [g3 u hu.2, hput, if_neg hu.1]
      · simp only [setPs]
        rw [g4]
        simp only [upd]
        rw [if_neg]
        intro e
        have : t < 1000000 := Nat.lt_of_lt_of_le htN hN
        rw [← e] at this
        exact absurd this (Nat.lt_irrefl _)
def jumpOf : Exit → Option Code
  | .ret => some .ret
  | .exit id => some (.exit id)
  | _ => none
/-- What the body of a loop over an iterator is to the iterator. -/
structure RgInv (N : Nat) (C : Ctx) (a' : Act) (l : Nat) (W : List Nat) (K : Frm → Hp → Prop) (rec : Loop) (Mc Mi : Addr → Prop) (w : World) (f : Frm) (H : Hp) (mu : Nat → Option Nat) (c x : Addr → Prop) : Prop where
  k : K f H
  clr : Clr W f
  mc : Mc = Mut ⟨c, x⟩ H mu
  st : StM N ⟨c, fun y => x y ∨ Mi y⟩ C f H mu a' w
  hl : w.heap[l]? = some (.loop rec)
  lx : ∀ y : Addr, y.block = l → x y
  mi : ∀ y, Mi y → l + 1 ≤ y.block
  up : l + 1 ≤ w.heap.size
theorem RgInv.stable {C : Ctx} {a' : Act} {l : Nat} {W : List Nat} {K : Frm → Hp → Prop} {rec : Loop} {Mc Mi Mi' : Addr → Prop} {w' : World} {c x : Addr → Prop} (h : RgInv N C a' l W K rec Mc Mi w f H mu c x) (hw1 : C.w1.heap.size ≤ l + 1) (hw : C.w.heap.size ≤ l + 1)
    (hD : ∀ d ∈ a'.defers, ∀ D, d.target = .collected D → D < l) (hro : ∀ r, C.ro = some r → r < l) (kp : Keep Mi w Mi' w') (hb : ∀ y, Mi' y → y.block < w'.heap.size) : RgInv N C a' l W K rec Mc Mi' w' f H mu c x := by
  obtain ⟨h1, h2⟩ := StM.inner h.st kp hb hw1 hw h.up h.mi (fun d hd D hD' y hy hm => by have := hD d hd D hD'; have := h.mi y hm; omega) (fun r hr y hy hm => by have := hro r hr; have := h.mi y hm; omega)
  refine ⟨h.k, h.clr, h.mc, h1, ?_, h.lx, h2, Nat.le_trans h.up kp.size⟩
  exact (kp.blk l (by have := h.up; omega) fun y hy hm => by have := h.mi y hm; omega).1.trans h.hl
/-- A round's middle: the record turns, the body begins. -/
theorem RgInv.mid {C : Ctx} {a' a3 : Act} {l : Nat} {W : List Nat} {K : Frm → Hp → Prop} {rec : Loop} {Mc Mi : Addr → Prop} {c x : Addr → Prop} {fix : Nat → Bool} {M3 : MM} {f3 : Frm} {H3 : Hp} {mu3 : Nat → Option Nat} {w3 : World}
    (hr : RgInv N C a' l W K rec Mc Mi w f H mu c x) (hw1 : C.w1.heap.size ≤ l) (hw : C.w.heap.size ≤ l) (hD : ∀ d ∈ a'.defers, ∀ D, d.target = .collected D → D < l) (hro : ∀ r, C.ro = some r → r < l)
    (h3 : StM N M3 (C.since ⟨c, fun y => x y ∨ Mi y⟩ H mu w fix a'.tmps (some l)) f3 H3 mu3 a3 w3) (o : Loop) :
    w3.heap[l]? = some (.loop rec) ∧ (∀ y : Addr, y.block = l → M3.x y) ∧ StM N M3 C (fun t => if t = TR then f3 TR else .junk) H3 mu3 a' (w3.putObj l (.loop o)) ∧
      StM N M3 (C.since M3 H3 mu3 (w3.putObj l (.loop o)) fix a'.tmps (some l)) f3 H3 mu3 a3 (w3.putObj l (.loop o)) := by
  have hup := hr.up
  have hl3 : w3.heap[l]? = some (.loop rec) := (h3.keep.blk l (show l < w.heap.size by omega) fun y hy h4 => h4.elim (fun h5 => hr.st.xc y (.inl (hr.lx y hy)) y rfl h5) fun h5 => hr.st.not_named (.inr (.inl (hr.lx y hy))) rfl h5).1.trans hr.hl
  have hl3x : ∀ y : Addr, y.block = l → M3.x y := fun y hy => (h3.xeq y (show y.block < w.heap.size by omega)).2 (.inl (hr.lx y hy))
  have S1 : StM N M3 C (fun t => if t = TR then f3 TR else .junk) H3 mu3 a' w3 := hr.st.restore h3 (fun t ht => by
    have hne : t ≠ 1000000 := fun e => by have := hr.st.nle; subst e; exact absurd ht (Nat.not_lt.2 this)
    show SRep M3 H3 mu3 w3 _ (if t = TR then f3 TR else .junk)
    rw [if_neg hne]; exact trivial) (by simp)
  have S2 := S1.putRec (o' := .loop o) hl3 rfl hl3x hw1 hw (fun d hd he => by have := hD d hd l he; omega) (fun he => by have := hro l he; omega)
  refine ⟨hl3, hl3x, S2, S2.since fix a'.tmps (some l) (h3.rdef (by simp [Ctx.since])) h3.size (fun t ht => ?_) (by simp) h3.same (fun l' hl' => ?_)⟩
  · have kp := putObj_keep (w := w3) (o' := .loop o) hl3 rfl
    refine SRep.others (fun y u g1 g2 => ⟨(kp.cell y u g1 fun h4 => g2 (.inl (.inr (hl3x y h4)))).1, g2⟩) (fun s b g1 g2 => World.putObj_heap_other fun e => ?_) (h3.slots t ht)
    subst e
    exact h3.sep s b g1 g2 ⟨b, 0, none⟩ rfl (.inr (hl3x _ rfl))
  · cases hl'
    exact ⟨⟨o, World.putObj_heap_same (Array.getElem?_eq_some_iff.1 hl3).1⟩, hl3x⟩
/-- A round's end. -/
theorem RgInv.fin {C : Ctx} {a' a3 a5 : Act} {l : Nat} {W : List Nat} {K K' : Frm → Hp → Prop} {rec : Loop} {Mc Mi : Addr → Prop} {c x : Addr → Prop} {fix : Nat → Bool} {M3 M5 : MM} {f3 f5 : Frm} {H3 H5 : Hp} {mu3 mu5 : Nat → Option Nat} {w3 w5 : World}
    (hr : RgInv N C a' l W K rec Mc Mi w f H mu c x) (hw1 : C.w1.heap.size ≤ l) (hw : C.w.heap.size ≤ l) (hD : ∀ d ∈ a'.defers, ∀ D, d.target = .collected D → D < l) (hro : ∀ r, C.ro = some r → r < l)
    (h3 : StM N M3 (C.since ⟨c, fun y => x y ∨ Mi y⟩ H mu w fix a'.tmps (some l)) f3 H3 mu3 a3 w3) (o o' : Loop)
    (h5 : StM N M5 (C.since M3 H3 mu3 (w3.putObj l (.loop o)) fix a'.tmps (some l)) f5 H5 mu5 a5 w5) (hfix : ∀ t, t < N → fix t = false → t ∈ W) (hk : K' f5 H5) (hc : Clr W f5) :
    w5.heap[l]? = some (.loop o) ∧ ∃ Mc', Keep Mc w Mc' (w5.putObj l (.loop o')) ∧ (∀ y, Mc' y → y.block < (w5.putObj l (.loop o')).heap.size) ∧ RgInv N C a' l W K' o' Mc' Mi (w5.putObj l (.loop o')) f5 H5 mu5 M5.c (fun y => M5.x y ∧ ¬ Mi y) := by
  obtain ⟨hl3, hl3x, S2, S3⟩ := hr.mid hw1 hw hD hro h3 o
  have hup := hr.up
  have hsz3 : w.heap.size ≤ w3.heap.size := h3.keep.size
  have hl4 : (w3.putObj l (.loop o)).heap[l]? = some (.loop o) := World.putObj_heap_same (Array.getElem?_eq_some_iff.1 hl3).1
  have hl5 : w5.heap[l]? = some (.loop o) := (h5.keep.blk l (show l < (w3.putObj l (.loop o)).heap.size by rw [World.putObj_size]; omega) fun y hy h4 => h4.elim (fun h6 => S2.xc y (hl3x y hy) y rfl h6) fun h6 => S2.not_named (.inr (hl3x y hy)) rfl h6).1.trans hl4
  have x5 : ∀ y : Addr, y.block < w3.heap.size → (M5.x y ↔ M3.x y) := fun y hy => h5.xeq y (show y.block < (w3.putObj l (.loop o)).heap.size by rw [World.putObj_size]; exact hy)
  have x3 : ∀ y : Addr, y.block < w.heap.size → (M3.x y ↔ (x y ∨ Mi y)) := h3.xeq
  have hl5x : ∀ y : Addr, y.block = l → M5.x y := fun y hy => (x5 y (by omega)).2 (hl3x y hy)
  have hmi : ∀ y, Mi y → M5.x y := fun y hy => by
    have hlt := hr.st.old y (.inr (.inr hy))
    exact (x5 y (by omega)).2 ((x3 y hlt).2 (.inr hy))
  have hlmi : ∀ y : Addr, y.block = l → ¬ Mi y := fun y hy h1 => by have := hr.mi y h1; omega
  have S4 : StM N M5 C f5 H5 mu5 a' w5 := S2.restore h5 (fun t ht => by
    cases hf : fix t with
    | false => rw [hc t (hfix t ht hf)]; exact trivial
    | true =>
      have he : a5.tmps.getD t undef = a'.tmps.getD t undef := h5.same t hf
      rw [← he]; exact h5.slots t ht) rfl
  have S5 := S4.putRec (o' := .loop o') hl5 rfl hl5x hw1 hw (fun d hd he => by have := hD d hd l he; omega) (fun he => by have := hro l he; omega)
  have hall : (⟨M5.c, fun y => (M5.x y ∧ ¬ Mi y) ∨ Mi y⟩ : MM) = M5 := by
    obtain ⟨c5, z5⟩ := M5
    simp only [MM.mk.injEq, true_and]
    funext y
    refine propext ⟨fun h => h.elim (fun h => h.1) (hmi y), fun h => ?_⟩
    by_cases hm : Mi y
    · exact .inr hm
    · exact .inl ⟨h, hm⟩
  have lput : ∀ {M : Addr → Prop} {w0 : World} {o1 o2 : Obj}, w0.heap[l]? = some o1 → o1.isCells = false → (∀ y : Addr, y.block = l → M y) → Keep M w0 M (w0.putObj l o2) := fun {M w0 o1 o2} g1 g2 g3 =>
    have kp := putObj_keep (w := w0) (o' := o2) g1 g2
    ⟨rfl, rfl, rfl, kp.size, fun y u k1 k2 => ⟨(kp.cell y u k1 fun h4 => k2 (g3 y h4)).1, k2⟩, fun b hb hm => ⟨World.putObj_heap_other fun e => hm ⟨b, 0, none⟩ rfl (g3 _ e), hm⟩⟩
  refine ⟨hl5, Mut ⟨M5.c, fun y => M5.x y ∧ ¬ Mi y⟩ H5 mu5, ?_, fun y hy => ?_, hk, hc, rfl, by rw [hall]; exact S5, World.putObj_heap_same (Array.getElem?_eq_some_iff.1 hl5).1, fun y hy => ⟨hl5x y hy, hlmi y hy⟩, hr.mi, ?_⟩
  · have k1 : Keep (Mut ⟨c, fun y => (x y ∨ Mi y) ∧ ¬ Mi y⟩ H mu) w (Mut ⟨M3.c, fun y => M3.x y ∧ ¬ Mi y⟩ H3 mu3) w3 := keep_mc (X0 := fun y => x y ∨ Mi y) rfl h3.keep x3
    have k2 : Keep (Mut ⟨M3.c, fun y => M3.x y ∧ ¬ Mi y⟩ H3 mu3) w3 (Mut ⟨M3.c, fun y => M3.x y ∧ ¬ Mi y⟩ H3 mu3) (w3.putObj l (.loop o)) := lput hl3 rfl fun y hy => .inl (.inr ⟨hl3x y hy, hlmi y hy⟩)
    have k3 : Keep (Mut ⟨M3.c, fun y => M3.x y ∧ ¬ Mi y⟩ H3 mu3) (w3.putObj l (.loop o)) (Mut ⟨M5.c, fun y => M5.x y ∧ ¬ Mi y⟩ H5 mu5) w5 := keep_mc (X0 := M3.x) rfl h5.keep h5.xeq
    have k4 : Keep (Mut ⟨M5.c, fun y => M5.x y ∧ ¬ Mi y⟩ H5 mu5) w5 (Mut ⟨M5.c, fun y => M5.x y ∧ ¬ Mi y⟩ H5 mu5) (w5.putObj l (.loop o')) := lput hl5 rfl fun y hy => .inl (.inr ⟨hl5x y hy, hlmi y hy⟩)
    rw [hr.mc]
    refine (k1.more fun y hy => ?_).trans (k2.trans (k3.trans k4))
    exact hy.elim (fun h => h.elim (fun h => .inl (.inl h)) fun h => .inl (.inr (h.1.elim id fun h' => absurd h' h.2))) .inr
  · rw [World.putObj_size]
    exact S4.mut_lt (hy.elim (fun h => h.elim (fun h => .inl (.inl h)) fun h => .inl (.inr h.1)) .inr)
  · rw [World.putObj_size]
    have := (Array.getElem?_eq_some_iff.1 hl5).1
    omega
/-- A loop over an iterator, where its parts are sound. -/
theorem range_sound {g : Operand} {ps : Array Tmp} {x y : Code} (hg : opB N g = true) (hps : ∀ t ∈ ps.toList, t < N)
    (ihx : ∀ (C : Ctx) (n : Nat) (Q' : Exit → Frm → Hp → Prop) (Q : Exit → Act → World → Prop), C.P = P → (∀ d ∈ wrt x, C.fix d = false) → (∀ e f H a w M0 mu, e ≠ .outgrown → StM N M0 C f H mu a w → Q' e f H → Q e a w) →
      ∀ M0 f H mu a w, StM N M0 C f H mu a w → pwp P x Q' f H → x.wpIn (fen C.ro) n P Q a w)
    (ihy : ∀ (C : Ctx) (n : Nat) (Q' : Exit → Frm → Hp → Prop) (Q : Exit → Act → World → Prop), C.P = P → (∀ d ∈ wrt y, C.fix d = false) → (∀ e f H a w M0 mu, e ≠ .outgrown → StM N M0 C f H mu a w → Q' e f H → Q e a w) →
      ∀ M0 f H mu a w, StM N M0 C f H mu a w → pwp P y Q' f H → y.wpIn (fen C.ro) n P Q a w)
    {C : Ctx} {n : Nat} {Q' : Exit → Frm → Hp → Prop} {Q : Exit → Act → World → Prop} (hP : C.P = P) (hQ : ∀ e f H a w M0 mu, e ≠ .outgrown → StM N M0 C f H mu a w → Q' e f H → Q e a w)
    (h : StM N M0 C f H mu a w) (hp : pwp P (.rangeFunc g ps x y) Q' f H) : (Code.rangeFunc g ps x y).wpIn (fen C.ro) n P Q a w := by
  obtain ⟨k, cap, xs, I, hPS, hlen, hgh, hround, hdone⟩ := hp
  obtain ⟨f1, H1, M1, mu1, h1, hgv, hI, hclr⟩ := hgh N M0 C mu a w h
  have hv := ev_sound h1 hg
  rw [hgv] at hv
  obtain ⟨us, hgval, hus⟩ : ∃ us : Array Value, a.eval g = .func (.func k) #[] us ∧ RepL (Mut M1 H1 mu1) w us.toList cap := by
    generalize a.eval g = v at hv
    cases (show Rep (Mut M1 H1 mu1) w v (.fn (.func k) [] cap) from hv) with
    | fn fk vs us ds es g1 g2 =>
      have : vs = #[] := by
        apply Array.ext'
        have := g1.length
        simpa using this
      subst this
      exact ⟨us, rfl, g2⟩
  refine wpIn_rangeFunc ?_
  intro fn hfn
  obtain ⟨l, mark, W1, dfr, e1, e2, e3, e4, e5, e6, e7, e8⟩ := enter_spec (P := P) (w := w) (ro := C.ro) (fun l0 hl => (h1.rnd l0 hl).1) fn a.tmps ps x y
  obtain ⟨⟨fn0, hf0, hn0, hb0⟩, hcall⟩ := hPS
  obtain ⟨a', ha'⟩ : ∃ a' : Act, a' = { a with defers := mark ++ a.defers } := ⟨_, rfl⟩
  have h2 : StM N ⟨M1.c, fun z => M1.x z ∨ (w.heap.size ≤ z.block ∧ z.block < W1.heap.size)⟩ C f1 H1 mu1 a' W1 := by rw [ha']; exact h1.claim e3 (fun d hd => let ⟨D, g1, g2, g3, g4⟩ := e8 d hd; ⟨D, g1, g2, g4⟩) e6 e7
  have htm : a'.tmps = a.tmps := by rw [ha']
  have hw1 : C.w1.heap.size ≤ l := Nat.le_trans h1.keep.size e4
  have hw : C.w.heap.size ≤ l := Nat.le_trans h1.base e4
  have hD : ∀ d ∈ a'.defers, ∀ D, d.target = .collected D → D < l := by
    intro d hd D hD
    rw [ha'] at hd
    rcases List.mem_append.1 hd with g | g
    · obtain ⟨D', g1, g2, g3, g4⟩ := e8 d g
      rw [g1] at hD
      simp only [Target.collected.injEq] at hD
      omega
    · obtain ⟨D', g1, g2, g3, g4⟩ := h1.marks d g
      rw [g1] at hD
      simp only [Target.collected.injEq] at hD
      have := (Array.getElem?_eq_some_iff.1 g3).1
      omega
  have hro : ∀ r, C.ro = some r → r < l := fun r hr => by
    obtain ⟨⟨q, g1⟩, -⟩ := h1.rnd r hr
    have := (Array.getElem?_eq_some_iff.1 g1).1
    omega
  obtain ⟨rec, hrec⟩ : ∃ rec : LoopState → Option Code → Loop, rec = fun st pe => { state := st, pending := pe, fn, tmps := a.tmps, params := ps, assign := x, body := y, defers := dfr } := ⟨_, rfl⟩
  obtain ⟨Wl, hWl⟩ : ∃ Wl, Wl = ps.toList ++ wrt x ++ wrt y := ⟨_, rfl⟩
  rw [← hWl] at hclr hround hdone
  refine ⟨l, mark, W1, { target := .fn (.func k) us, args := #[.func (.yield l) #[] #[]] }, W1, k, #[.func (.yield l) #[] #[]] ++ us, W1, e1, ?_, fun _ _ => trivial, ?_, (fun h => by cases h), ?_⟩
  · simp only [resolve, hgval]
    simp [go_sem]
  · simp only [invoke]
    exact run_call hf0 hn0 hb0 _
  · rw [← ha']
    have hcc := hcall l (fun pre rest Mc Mi W => xs = pre ++ rest ∧ ∃ f H mu c x', RgInv N C a' l Wl (I pre rest) (rec .ready none) Mc Mi W f H mu c x')
      (fun Mc Mi W => ∃ e jump f H mu c x', jumpOf e = some jump ∧ RgInv N C a' l Wl (Q' e) (rec .done (some jump)) Mc Mi W f H mu c x')
      (Mut ⟨M1.c, fun z => M1.x z ∨ (w.heap.size ≤ z.block ∧ z.block < W1.heap.size)⟩ H1 mu1) W1 us.toList
      (fun pre rest Mc Mi Mi' w w' ⟨hx, f, H, mu, c, x', hr⟩ kp hb => ⟨hx, f, H, mu, c, x', hr.stable (by omega) (by omega) hD hro kp hb⟩)
      (fun Mc Mi Mi' w w' ⟨e, jump, f, H, mu, c, x', hj, hr⟩ kp hb => ⟨e, jump, f, H, mu, c, x', hj, hr.stable (by omega) (by omega) hD hro kp hb⟩)
      ?yield h2.gl (RepL.mono (M := Mut M1 H1 mu1) (w := w) (fun z u g1 g2 => by
        have hlt := World.block_lt_of_cell? w z g1
        exact ⟨(World.cell?_of_block (e3.block _ hlt)).trans g1, fun g3 => g2 (g3.elim (fun g4 => g4.elim (fun g5 => .inl (.inl g5)) fun g5 => g5.elim (fun g6 => .inl (.inr g6)) fun g6 => by omega) .inr)⟩) hus)
      (fun z hz => h2.mut_lt hz) ⟨by simp, f1, H1, mu1, M1.c, fun z => M1.x z ∨ (w.heap.size ≤ z.block ∧ z.block < W1.heap.size), hI, hclr, rfl, by simpa using h2, by rw [hrec]; exact e2, fun z hz => .inr ⟨by omega, by omega⟩, fun z hz => hz.elim, by omega⟩
    case yield =>
      rintro pre d rest Mc Mi W args ⟨hxs, f2, H2, mu2, c, x', hr⟩ hargs
      have hd : d ∈ xs := by rw [hxs]; simp
      have hasz : args.size = ps.size := by
        have := hargs.length
        simp only [Array.length_toList] at this
        rw [this, hlen d hd]
      have hy := run_yield (P := P) (args := args) hr.hl (by rw [hrec]; exact hasz)
      rw [hrec] at hy
      refine ⟨fn, _, x, y, hy, roundIn_of_wpIn (F := Fence.wide) trivial ?_⟩
      have hset : ∀ z, Mut ⟨c, fun z => x' z ∨ Mi z⟩ H2 mu2 z → Mc z ∨ Mi z := by
        rw [hr.mc]
        rintro z ((h | h | h) | h)
        · exact .inl (.inl (.inl h))
        · exact .inl (.inl (.inr h))
        · exact .inr h
        · exact .inl (.inr h)
      have hargs' : RepL (Mut ⟨c, fun z => x' z ∨ Mi z⟩ H2 mu2) W args.toList d := RepL.mono (fun z u g1 g2 => ⟨g1, fun g3 => g2 (hset z g3)⟩) hargs
      obtain ⟨g1, g2, g3, g4⟩ := setPs_sound (tm := #[]) ps.toList d args.toList f2 a'.tmps hps hr.st.nle hr.st.size hargs' hr.st.slots
      have hfold : (ps.zip args).foldl (fun (tmps : Array Value) (p : Tmp × Value) => tmps.setIfInBounds p.1 p.2) a.tmps = (ps.toList.zip args.toList).foldl (fun (t : Array Value) (p : Tmp × Value) => t.setIfInBounds p.1 p.2) a'.tmps := by
        rw [htm, ← Array.foldl_toList, Array.toList_zip]
      obtain ⟨fix, hfix⟩ : ∃ fix : Nat → Bool, fix = fun t => decide (t < N) && !(Wl.contains t) := ⟨_, rfl⟩
      have hfx0 : ∀ t, fix t = true → t < N ∧ t ∉ Wl := fun t ht => by
        rw [hfix] at ht
        simpa using ht
      have hfx1 : ∀ t, t < N → fix t = false → t ∈ Wl := fun t ht hf => by
        rw [hfix] at hf
        simpa [ht] using hf
      have hA : StM N ⟨c, fun z => x' z ∨ Mi z⟩ (C.since ⟨c, fun z => x' z ∨ Mi z⟩ H2 mu2 W fix a'.tmps (some l)) (setPs ps.toList d f2) H2 mu2 { tmps := (ps.toList.zip args.toList).foldl (fun (t : Array Value) (p : Tmp × Value) => t.setIfInBounds p.1 p.2) a'.tmps, defers := [] } W :=
        hr.st.since fix a'.tmps (some l) rfl g1 g2 g4 (fun t ht => g3 t fun h => (hfx0 t ht).2 (by rw [hWl]; simp; exact .inl (Array.mem_toList_iff.1 h))) (fun l' hl' => by
          cases hl'
          exact ⟨⟨_, hr.hl⟩, fun z hz => .inl (hr.lx z hz)⟩)
      have hwx : ∀ t ∈ wrt x, fix t = false := fun t ht => by
        cases hf : fix t with
        | false => rfl
        | true => exact absurd (show t ∈ Wl by rw [hWl]; simp [ht]) (hfx0 t hf).2
      have hwy : ∀ t ∈ wrt y, fix t = false := fun t ht => by
        cases hf : fix t with
        | false => rfl
        | true => exact absurd (show t ∈ Wl by rw [hWl]; simp [ht]) (hfx0 t hf).2
      have hfoldG : ({ tmps := (ps.zip args).foldl (fun (tmps : Array Value) (x : Tmp × Value) => match x with | (t, a) => tmps.setIfInBounds t a) a.tmps, defers := [] } : Act) = { tmps := (ps.toList.zip args.toList).foldl (fun (t : Array Value) (p : Tmp × Value) => t.setIfInBounds p.1 p.2) a'.tmps, defers := [] } := by
        rw [← hfold]
      refine hfoldG ▸ ihx (C.since ⟨c, fun z => x' z ∨ Mi z⟩ H2 mu2 W fix a'.tmps (some l)) 0 (pOnly fun f H => pwp P y (pRound Wl (I (pre ++ [d]) rest) Q') f H) _ hP hwx ?_ _ _ H2 mu2 _ W hA (hround pre d rest f2 H2 hr.k hr.clr)
      intro e f3 H3 a3 w3 M3 mu3 hne h3 hq
      cases e with
      | normal =>
        obtain ⟨m1, m2, m3, m4⟩ := hr.mid hw1 hw hD hro h3 { (rec .ready none) with state := .busy }
        refine ⟨_, run_beginRound m1 (by rw [hrec]), ?_⟩
        refine ihy (C.since M3 H3 mu3 (w3.putObj l (.loop { (rec .ready none) with state := .busy })) fix a'.tmps (some l)) 0 (pRound Wl (I (pre ++ [d]) rest) Q') _ hP hwy ?_ M3 f3 H3 mu3 a3 _ m4 hq
        intro e f4 H4 a4 w4 M4 mu4 hne h4 hq
        have fin : ∀ (jump : Option Code) (K' : Frm → Hp → Prop), Gh (fun f H => K' f H ∧ Clr Wl f) f4 H4 →
            (Instr.endRound l jump).run P w4 = .ok (.bool jump.isNone) (w4.putObj l (.loop (rec (if jump.isNone then .ready else .done) jump))) ∧ ∃ Mc' f5 H5 mu5 c5 x5, Keep Mc W Mc' (w4.putObj l (.loop (rec (if jump.isNone then .ready else .done) jump))) ∧
              (∀ z, Mc' z → z.block < (w4.putObj l (.loop (rec (if jump.isNone then .ready else .done) jump))).heap.size) ∧ RgInv N C a' l Wl K' (rec (if jump.isNone then .ready else .done) jump) Mc' Mi (w4.putObj l (.loop (rec (if jump.isNone then .ready else .done) jump))) f5 H5 mu5 c5 x5 := by
          intro jump K' hgh
          obtain ⟨f5, H5, M5, mu5, h5, hk5, hc5⟩ := hgh N M4 _ mu4 a4 w4 h4
          obtain ⟨n1, Mc', n2, n3, n4⟩ := hr.fin hw1 hw hD hro h3 { (rec .ready none) with state := .busy } (rec (if jump.isNone then .ready else .done) jump) h5 hfx1 hk5 hc5
          have hend := run_endRound (P := P) jump n1
          rw [hrec] at hend
          refine ⟨?_, Mc', f5, H5, mu5, _, _, n2, n3, n4⟩
          rw [hend, hrec]
        cases e with
        | normal =>
          obtain ⟨n1, Mc', f5, H5, mu5, c5, x5, n2, n3, n4⟩ := fin none _ hq
          exact ⟨_, _, n1, true, rfl, Mc', n2, n3, by rw [if_pos rfl]; exact ⟨by rw [hxs]; simp, f5, H5, mu5, c5, x5, n4⟩⟩
        | ret =>
          obtain ⟨n1, Mc', f5, H5, mu5, c5, x5, n2, n3, n4⟩ := fin (some .ret) _ hq
          exact ⟨_, _, n1, false, rfl, Mc', n2, n3, by rw [if_neg (by simp)]; exact ⟨.ret, .ret, f5, H5, mu5, c5, x5, rfl, n4⟩⟩
        | exit id =>
          obtain ⟨n1, Mc', f5, H5, mu5, c5, x5, n2, n3, n4⟩ := fin (some (.exit id)) _ hq
          exact ⟨_, _, n1, false, rfl, Mc', n2, n3, by rw [if_neg (by simp)]; exact ⟨.exit id, .exit id, f5, H5, mu5, c5, x5, rfl, n4⟩⟩
        | _ => exact hq.elim
      | _ => exact hq.elim
    have h3 : CallsIn Fence.wide (n - 1) P k (#[.func (.yield l) #[] #[]] ++ us) W1 (rangePost (fen C.ro) n P l Q a') := callsIn_wide.2 (by
      rw [Array.toArray_toList] at hcc
      refine hcc.mono ?_
      rintro e W2 ⟨⟨v, rfl⟩, Mc, Mi, (⟨-, f2, H2, mu2, c, x', hr⟩ | ⟨e, jump, f2, H2, mu2, c, x', hj, hr⟩)⟩
      · have hend := run_endLoop (P := P) hr.hl (by rw [hrec]; simp)
        rw [hrec] at hend
        exact ⟨none, _, hend, hQ .normal f2 H2 a' _ _ mu2 (by simp) (hr.st.putRec hr.hl rfl (fun z hz => .inl (hr.lx z hz)) hw1 hw (fun d hd he => by have := hD d hd l he; omega) (fun he => by have := hro l he; omega)) (hdone f2 H2 hr.k hr.clr)⟩
      · have hend := run_endLoop (P := P) hr.hl (by rw [hrec]; simp)
        rw [hrec] at hend
        have hs := hr.st.putRec (o' := .loop { (rec .done (some jump)) with state := .exhausted }) hr.hl rfl (fun z hz => .inl (hr.lx z hz)) hw1 hw (fun d hd he => by have := hD d hd l he; omega) (fun he => by have := hro l he; omega)
        rw [hrec] at hs
        refine ⟨some jump, _, hend, ?_⟩
        cases e with
        | ret => cases hj; exact wpIn_ret (hQ .ret f2 H2 a' _ _ mu2 (by simp) hs hr.k)
        | exit id => cases hj; exact wpIn_exit (hQ (.exit id) f2 H2 a' _ _ mu2 (by simp) hs hr.k)
        | _ => cases hj)
    exact h3
/-- Code under the pure logic is code under the walk's. -/
theorem pwp_sound (hmix : P.follows .mixedOrders = true) : ∀ (c : Code) (C : Ctx) (n : Nat) (Q' : Exit → Frm → Hp → Prop) (Q : Exit → Act → World → Prop), C.P = P → codeOk N c = true → (∀ d ∈ wrt c, C.fix d = false) →
    (∀ e f H a w M0 mu, e ≠ .outgrown → StM N M0 C f H mu a w → Q' e f H → Q e a w) → ∀ M0 f H mu a w, StM N M0 C f H mu a w → pwp P c Q' f H → c.wpIn (fen C.ro) n P Q a w := by
  intro c
  induction c with
  | skip => intro C n Q' Q _ _ _ hQ M0 f H mu a w h hp; exact wpIn_skip (hQ _ f H a w M0 mu (by simp) h hp)
  | label l => intro C n Q' Q _ _ _ hQ M0 f H mu a w h hp; exact wpIn_label (hQ _ f H a w M0 mu (by simp) h hp)
  | ret => intro C n Q' Q _ _ _ hQ M0 f H mu a w h hp; exact wpIn_ret (hQ _ f H a w M0 mu (by simp) h hp)
  | exit id => intro C n Q' Q _ _ _ hQ M0 f H mu a w h hp; exact wpIn_exit (hQ _ f H a w M0 mu (by simp) h hp)
  | region id ops draw =>
    intro C n Q' Q hP hk hfx hQ M0 f H mu a w h hp
    simp only [codeOk, Bool.and_eq_true, Bool.or_eq_true, Bool.not_eq_true'] at hk
    have hfo : FixOk C ops := fixOk_of hfx
    cases draw with
    | false =>
      refine wpIn_region_list ?_
      exact pEval_list hP hk.1 hfo (fun tr f H a w M0 mu h' hq => hQ _ f H a w M0 mu (by simp) h' hq.2) ops.toList [] f H M0 mu a w (fun o ho => by
        obtain ⟨i, hi⟩ := List.mem_iff_getElem?.1 ho
        exact ⟨i, by simpa using hi⟩) h hp
    | true =>
      have hs := pEval_seq ops.toList [] f H hp
      obtain ⟨es, g1, g2, g3, g4⟩ := pSeq_trace _ _ _ _ hs
      refine wpIn_region_any hmix ?_
      have ho : ordOk ops (Region.before ops) = true := by simpa using hk.2
      have hnm : nameOk (Region.before ops) es = true := by rw [← nm_spec]; simpa using g3
      have hlen : ops.toList.length = ops.size := by simp
      have hd : StM N M0 C f H mu a { w with drawn := w.drawn + 1 } := h.drew
      have e1 : fS ops.toList es f (DL (Array.replicate ops.size false)) ops.size = f := by
        have : ∀ m, fS ops.toList es f (DL (Array.replicate ops.size false)) m = f := by
          intro m
          induction m with
          | zero => rfl
          | succ m ih =>
            have : DL (Array.replicate ops.size false) m = false := by
              simp only [DL, Array.getD_eq_getD_getElem?, Array.getElem?_replicate]; split <;> rfl
            simp [fS, this, ih]
        exact this _
      have e2 : hS es H (DL (Array.replicate ops.size false)) ops.size = H := by
        have : ∀ m, hS es H (DL (Array.replicate ops.size false)) m = H := by
          intro m
          induction m with
          | zero => rfl
          | succ m ih =>
            have : DL (Array.replicate ops.size false) m = false := by
              simp only [DL, Array.getD_eq_getD_getElem?, Array.getElem?_replicate]; split <;> rfl
            simp [hS, this, ih]
        exact this _
      refine any_sound (N := N) (M0 := M0) (w0 := C) (es := es) (f0 := f) (H0 := H) hk.1 hfo ho (by rw [g1]; simp) hnm (fun k o hko => g2 k o (by simpa using hko)) (fun a w mu h' => ?_) ops.size (List.range ops.size) _ a _ mu (by simp) ?_ List.nodup_range ?_ (by simp) (by rw [e1, e2]; exact hd)
      · rw [hlen] at g4
        exact hQ _ _ _ a w M0 mu (by simp) h' g4
      · intro i j _ hj
        simp only [Array.getD_eq_getD_getElem?, Array.getElem?_replicate] at hj
        split at hj <;> cases hj
      · intro i hi
        simp [hi]
  | seq x y ihx ihy =>
    intro C n Q' Q hP hk hfx hQ M0 f H mu a w h hp
    simp only [codeOk, Bool.and_eq_true] at hk
    simp only [wrt, List.mem_append] at hfx
    refine wpIn_seq (ihx C n (pThen (Gh fun f H => pwp P y Q' f H) Q') _ hP hk.1 (fun d hd => hfx d (.inl hd)) ?_ M0 f H mu a w h hp)
    intro e f H a w M0 mu hne h' hq
    cases e with
    | normal =>
      obtain ⟨f', H', M0', mu', h'', hq'⟩ := hq N M0 C mu a w h'
      exact ihy C n Q' Q hP hk.2 (fun d hd => hfx d (.inr hd)) hQ M0' f' H' mu' a w h'' hq'
    | outgrown => exact absurd rfl hne
    | _ => exact hQ _ f H a w M0 mu (by simp) h' hq
  | cond c x y ihx ihy =>
    intro C n Q' Q hP hk hfx hQ M0 f H mu a w h hp
    simp only [codeOk, Bool.and_eq_true] at hk
    simp only [wrt, List.mem_append] at hfx
    obtain ⟨b, hb, hp⟩ := hp
    have hv := ev_sound h hk.1.1
    rw [hb] at hv
    refine wpIn_cond (t := b) (rep_bool (show Rep (Mut M0 H mu) w _ (.bool b) from hv)) ?_
    cases b with
    | true => exact ihx C n Q' Q hP hk.1.2 (fun d hd => hfx d (.inl hd)) hQ M0 f H mu a w h hp
    | false => exact ihy C n Q' Q hP hk.2 (fun d hd => hfx d (.inr hd)) hQ M0 f H mu a w h hp
  | block id x ih =>
    intro C n Q' Q hP hk hfx hQ M0 f H mu a w h hp
    refine wpIn_block (ih C n (pBlock id Q') _ hP hk hfx ?_ M0 f H mu a w h hp)
    intro e f H a w M0 mu hne h' hq
    cases e with
    | exit id' =>
      simp only [pBlock] at hq
      simp only [Exit.inBlock]
      split at hq
      · rename_i e; rw [if_pos e]; exact hQ _ f H a w M0 mu (by simp) h' hq
      · rename_i e; rw [if_neg e]; exact hQ _ f H a w M0 mu (by simp) h' hq
    | outgrown => exact absurd rfl hne
    | _ => exact hQ _ f H a w M0 mu (by simp) h' hq
  | loop x ih =>
    intro C n Q' Q hP hk hfx hQ M0 f H mu a w h hp
    obtain ⟨I, hgh, hround⟩ := hp
    obtain ⟨f', H', M0', mu', h', m, hI⟩ := hgh N M0 C mu a w h
    refine wpIn_loop_ghost (fun n a w => ∃ f H M0 mu, StM N M0 C f H mu a w ∧ I n f H) m ⟨f', H', M0', mu', h', hI⟩ ?_
    rintro m a w ⟨f, H, M0, mu, h, hI⟩
    refine ih C n (pThen (Gh fun f H => ∃ m', m' < m ∧ I m' f H) Q') _ hP hk hfx ?_ M0 f H mu a w h (hround m f H hI)
    intro e f H a w M0 mu hne h' hq
    cases e with
    | normal =>
      obtain ⟨f', H', M0', mu', h'', m', hm, hI⟩ := hq N M0 C mu a w h'
      exact ⟨m', hm, f', H', M0', mu', h'', hI⟩
    | outgrown => exact absurd rfl hne
    | _ => exact hQ _ f H a w M0 mu (by simp) h' hq
  | rangeFunc g ps x y ihx ihy =>
    intro C n Q' Q hP hk hfx hQ M0 f H mu a w h hp
    simp only [codeOk, Bool.and_eq_true, List.all_eq_true, decide_eq_true_eq] at hk
    exact range_sound hk.1.1.1 hk.1.1.2 (fun C n Q' Q hP hf hQ => ihx C n Q' Q hP hk.1.2 hf hQ) (fun C n Q' Q hP hf hQ => ihy C n Q' Q hP hk.2 hf hQ) hP hQ h hp
  | _ => intro C n Q' Q _ _ _ hQ M0 f H mu a w h hp; exact hp.elim
end

/-- The datum that a slot's value is when all is done. -/
def SV.fin (H : Hp) : SV → Option D
  | .vec r ver n => match H r with
    | .vec _ _ ver' cs => if ver = ver' then match toDs cs with
        | some ds => some (.sl n ds)
        | none => none
      else none
    | _ => none
  | x => x.toD
def pRes1 (P : Program) (f : Frm) (H : Hp) : ResultVar → Option D
  | .tmp t => (f t).fin H
  | .cell t ty => match f t, tyI P ty with
    | .loc s off, some (ag, n) => match H s with
      | .box cs => match rdS ag n (cs.drop off) with
        | some v => v.fin H
        | none => none
      | _ => none
    | .d (.ep cs), some (ag, n) => rdD ag n cs
    | _, _ => none
def pRess (P : Program) (f : Frm) (H : Hp) : List ResultVar → Option (List D)
  | [] => some []
  | r :: rs => match pRes1 P f H r, pRess P f H rs with
    | some d, some ds => some (d :: ds)
    | _, _ => none
def packD : List D → D
  | [d] => d
  | ds => .tup ds
/-- What a body must come to. -/
def bodyQ (P : Program) (rs : List ResultVar) (res : D) : Exit → Frm → Hp → Prop
  | .normal, f, H | .ret, f, H => ∃ ds, pRess P f H rs = some ds ∧ packD ds = res
  | _, _, _ => False
def resOk (N : Nat) (rs : List ResultVar) : Bool := rs.all fun | .tmp t => decide (t < N) | .cell t _ => decide (t < N)
/-- An argument in its slot. -/
def D.sv : D → SV
  | .nils => .nil
  | d => .d d
theorem D.sv_sound {M0 : MM} {H : Hp} {mu : Nat → Option Nat} {w : World} {v : Value} {d : D} (h : Rep (Mut M0 H mu) w v d) : SRep M0 H mu w v d.sv := by
  cases d with
  | nils => cases h; rfl
  | _ => exact h
def ini (args : List D) : Frm := fun t => match args[t]? with
  | some d => d.sv
  | none => .d (.tup [])
section
variable {P : Program} {N : Nat} {M0 : MM} {w0 : Ctx} {w : World} {f f' : Frm} {H H' : Hp} {mu : Nat → Option Nat} {a : Act}

def res1 (tmps : Array Value) : ResultVar → Sem Value
  | .tmp t => pure (tmps.getD t undef)
  | .cell a t => do loadVar t (← asAddr (tmps.getD a undef))
theorem results_res1 (fn : Func) (tmps : Array Value) : results fn tmps = (fn.results.mapM (res1 tmps) >>= fun vs => pure (if h : vs.size = 1 then vs[0] else .tuple vs)) := by
  unfold results
  congr 2
theorem stay_all : Stay (Mut M0 H mu) w M0.all w := fun x u h1 h2 => ⟨h1, fun h3 => h2 (.inl h3)⟩
theorem StM.fin (h : StM N M0 w0 f H mu a w) {v : Value} {x : SV} (hv : SRep M0 H mu w v x) {d : D} (hd : x.fin H = some d) : Rep M0.all w v d := by
  have other : ∀ {y : SV}, SRep M0 H mu w v y → y.toD = some d → Rep M0.all w v d := fun h1 h2 => Rep.mono stay_all (SRep.toD h1 h2)
  cases x with
  | vec r ver n =>
    simp only [SV.fin] at hd
    split at hd
    · rename_i e sz ver' cs hH
      split at hd
      · rename_i hvv
        subst hvv
        split at hd
        · rename_i ds hds
          cases hd
          exact h.frozen hv hH hds stay_all fun y hy hm => h.sep r _ (by rw [hH]; simp) hy y rfl hm
        · cases hd
      · cases hd
    · cases hd
  | _ => exact other hv hd
theorem pRes1_sound (h : StM N M0 w0 f H mu a w) {r : ResultVar} (hr : resOk N [r] = true) {d : D} (hd : pRes1 P f H r = some d) : ∃ v, (res1 a.tmps r).run P w = .ok v w ∧ Rep M0.all w v d := by
  cases r with
  | tmp t =>
    simp [resOk] at hr
    exact ⟨_, rfl, h.fin (h.slots t hr) hd⟩
  | cell t ty =>
    simp [resOk] at hr
    have hv := h.slots t hr
    simp only [pRes1] at hd
    split at hd
    · rename_i s off ag n hs ht
      rw [hs] at hv
      obtain ⟨cs0, b, g1, g2, g3⟩ := hv
      split at hd
      · rename_i cs hcs
        split at hd
        · rename_i v hrd
          obtain ⟨b', arr, et, k1, k2, k3, k4, k5⟩ := h.boxCells hcs
          rw [g2] at k1
          cases k1
          obtain ⟨u, hu1, hu2⟩ := rdS_sound (x := ⟨b, off, none⟩) (us := arr.toList.drop off) ht (by simp [k3]) (k5 off).1 (k5 off).2 hrd
          refine ⟨u, ?_, h.fin hu2 hd⟩
          simp only [Instr.loadAt, Instr.sureAddr, Sem.run_bind, Sem.run_pure, Result.andThen_ok] at hu1
          simp only [res1, g3, asAddr, Sem.run_bind, Sem.run_pure, Result.andThen_ok, hu1]
        · cases hd
      · cases hd
    · rename_i cs ag n hs ht
      rw [hs] at hv
      obtain ⟨ad, us, g1, g2, g3⟩ := rep_ep (show Rep (Mut M0 H mu) w _ (.ep cs) from hv)
      obtain ⟨u, hu1, hu2⟩ := rdD_sound ht g2 g3 hd
      refine ⟨u, ?_, Rep.mono stay_all hu2⟩
      simp only [Instr.loadAt, Instr.sureAddr, Sem.run_bind, Sem.run_pure, Result.andThen_ok] at hu1
      simp only [res1, g1, asAddr, Sem.run_bind, Sem.run_pure, Result.andThen_ok, hu1]
    · cases hd
theorem run_mapM_list {g : ResultVar → Sem Value} : ∀ (rs : List ResultVar) (acc : Array Value) (vs : List Value), rs.length = vs.length → (∀ (j : Nat) r v, rs[j]? = some r → vs[j]? = some v → (g r).run P w = .ok v w) →
    (List.mapM.loop g rs acc.toList.reverse).run P w = .ok (acc.toList ++ vs) w
  | [], acc, [], _, _ => by simp [List.mapM.loop]
  | r :: rs, acc, v :: vs, hl, h => by
    have ih := run_mapM_list rs (acc.push v) vs (by simpa using hl) fun j r v h1 h2 => h (j + 1) r v (by simpa using h1) (by simpa using h2)
    simp only [List.mapM.loop, Sem.run_bind, h 0 r v rfl rfl, Result.andThen_ok]
    simpa using ih
  | [], _, _ :: _, hl, _ => by simp at hl
  | _ :: _, _, [], hl, _ => by simp at hl
theorem pRess_sound (h : StM N M0 w0 f H mu a w) : ∀ {rs : List ResultVar} {ds : List D}, resOk N rs = true → pRess P f H rs = some ds → ∃ vs : List Value, rs.length = vs.length ∧ (∀ (j : Nat) r v, rs[j]? = some r → vs[j]? = some v → (res1 a.tmps r).run P w = .ok v w) ∧ RepL M0.all w vs ds
  | [], ds, _, hd => by
    simp [pRess] at hd
    subst hd
    exact ⟨[], rfl, fun j r v h => by simp at h, .nil⟩
  | r :: rs, ds, hr, hd => by
    unfold pRess at hd
    split at hd
    · rename_i d ds' h1 h2
      cases hd
      simp only [resOk, List.all_cons, Bool.and_eq_true] at hr
      obtain ⟨v, hv1, hv2⟩ := pRes1_sound h (by simp only [resOk, List.all_cons, List.all_nil, Bool.and_true]; exact hr.1) h1
      obtain ⟨vs, k1, k2, k3⟩ := pRess_sound h hr.2 h2
      refine ⟨v :: vs, by simp [k1], fun j r' v' h3 h4 => ?_, .cons _ _ _ _ hv2 k3⟩
      cases j with
      | zero => simp at h3 h4; subst h3 h4; exact hv1
      | succ j => exact k2 j r' v' (by simpa using h3) (by simpa using h4)
    · cases hd
theorem results_of (h : StM N M0 w0 f H mu a w) {fn : Func} {rs : List ResultVar} (hr : fn.results = rs.toArray) (hro : resOk N rs = true) {ds : List D} (h1 : pRess P f H rs = some ds) :
    ∃ v, (results fn a.tmps).run P w = .ok v w ∧ Rep M0.all w v (packD ds) := by
  obtain ⟨us, k1, k2, k3⟩ := pRess_sound h hro h1
  have hm := run_mapM_list (P := P) (w := w) (g := res1 a.tmps) rs #[] us k1 k2
  have hrun : (fn.results.mapM (res1 a.tmps)).run P w = .ok us.toArray w := by
    rw [hr]
    rw [List.mapM_toArray]
    have : (List.mapM (res1 a.tmps) rs).run P w = .ok us w := by simpa [List.mapM] using hm
    simp [this]
  refine ⟨(if h : us.toArray.size = 1 then us.toArray[0] else .tuple us.toArray), ?_, ?_⟩
  · rw [results_res1, Sem.run_bind, hrun]
    rfl
  · match us, ds, k3 with
    | [u], [d], .cons _ _ _ _ hu .nil => simpa [packD] using hu
    | [], [], h0 => exact Rep.tup _ _ (by simpa using h0)
    | u :: u' :: us, d :: d' :: ds, h0 => exact Rep.tup _ _ (by simpa using h0)
/-- A return: the marks are taken up, then what is asked is asked. -/
theorem leaves_of {fn : Func} {R : Ending → World → Prop} {n : Nat} {tmps : Array Value} : ∀ (ds : List Deferred) (w : World), StM N M0 w0 f H mu { tmps := tmps, defers := ds } w → w0.w1.heap.size ≤ w0.w.heap.size →
    (∀ w', StM N M0 w0 f H mu { tmps := tmps, defers := [] } w' → ∃ v, (results fn tmps).run P w' = .ok v w' ∧ R (.returned v) w') → LeavesInM Fence.wide n P fn tmps R ds .returning w
  | [], w, h, _, hR => hR w h
  | d :: ds, w, h, hw, hR => by
    obtain ⟨D, h1, h2, h3⟩ := StM.dropMark (P := P) (a := { tmps := tmps, defers := [] }) (d := d) (ds := ds) h hw
    exact ⟨by simp, .inl ⟨D, _, h1, h2, leaves_of ds _ h3 hw hR⟩⟩
def Ctx.plain (P : Program) (w : World) (M : Addr → Prop) : Ctx where
  P := P
  w := w
  foot := fun _ => False
  pure := True
  c0 := M
  R := fun _ => True
  w1 := w
  X := fun _ => False
  fix := fun _ => false
  tm := #[]
  ro := none
  H0 := fun _ => .none
  mu0 := fun _ => none
  fp := fun _ _ => rfl
  J := fun _ _ _ _ _ _ => False
  Jx := fun _ _ _ => False
  jst := fun _ _ _ _ _ _ _ _ h _ _ => h
  jxst := fun _ _ _ _ _ h _ _ => h
  hy := fun _ _ _ _ _ _ _ _ h => h.elim
theorem ini_slots {vs : List Value} {args : List D} {M : Addr → Prop} (hvs : RepL M w vs args) (N : Nat) (t : Nat) : SRep ⟨M, fun _ => False⟩ (fun _ => .none) (fun _ => none) w ((vs.toArray ++ Array.replicate (N - vs.toArray.size) undef).getD t undef) (ini args t) := by
  have hst : Stay M w (Mut ⟨M, fun _ => False⟩ (fun _ => HO.none) (fun _ => none)) w := fun x u g1 g2 => ⟨g1, fun g3 => g2 (g3.elim (fun h => h.elim id False.elim) fun ⟨s, hs⟩ => hs.elim)⟩
  have hlen := hvs.length
  unfold ini
  cases hd : args[t]? with
  | none =>
    have hge : args.length ≤ t := by
      rcases Nat.lt_or_ge t args.length with h | h
      · rw [List.getElem?_eq_getElem h] at hd; cases hd
      · exact h
    have : (vs.toArray ++ Array.replicate (N - vs.toArray.size) undef).getD t undef = undef := by
      rw [Array.getD_eq_getD_getElem?, Array.getElem?_append_right (by simp; omega), Array.getElem?_replicate]
      split <;> rfl
    rw [this]
    exact Rep.tup #[] [] .nil
  | some d =>
    obtain ⟨v, hv, hrv⟩ := hvs.get hd
    have hlt : t < vs.length := (List.getElem?_eq_some_iff.1 hv).1
    have : (vs.toArray ++ Array.replicate (N - vs.toArray.size) undef).getD t undef = v := by
      rw [Array.getD_eq_getD_getElem?, Array.getElem?_append_left (by simpa using hlt)]
      simp [hv]
    rw [this]
    exact D.sv_sound (Rep.mono hst hrv)
theorem D.sv_ghost (d : D) : (∀ l pre rest, d.sv ≠ .trace l pre rest) ∧ d.sv ≠ .stop := by
  cases d <;> exact ⟨(fun _ _ _ h => by cases h), (fun h => by cases h)⟩
theorem ini_ghost (args : List D) (t : Nat) : (∀ l pre rest, ini args t ≠ .trace l pre rest) ∧ ini args t ≠ .stop := by
  unfold ini
  split
  · exact D.sv_ghost _
  · exact ⟨(fun _ _ _ h => by cases h), (fun h => by cases h)⟩
theorem pc_of_pwp {k : FuncId} {fn : Func} {c : Code} {args : List D} {res : D} (rs : List ResultVar) (hf : P.funcs[k]? = some fn) (hb : fn.body = some c) (hr : fn.results = rs.toArray)
    (hk : ((fn.name != "runtime.NumGoroutine") && codeOk fn.ntmps c && resOk fn.ntmps rs && decide (args.length ≤ fn.ntmps) && P.follows .mixedOrders && decide (fn.ntmps ≤ TR)) = true)
    (hp : pwp P c (bodyQ P rs res) (ini args) (fun _ => .none)) : PC P k args res := by
  simp only [Bool.and_eq_true, decide_eq_true_eq, bne, Bool.not_eq_true'] at hk
  obtain ⟨⟨⟨⟨⟨hn, hc⟩, hro⟩, hl⟩, hmix⟩, hTR⟩ := hk
  refine ⟨⟨fn, hf, hn, by rw [hb]; rfl⟩, fun M w vs hgl hvs hM => ?_⟩
  have hlen := hvs.length
  refine callsIn_wide.1 (callsIn_of_wp_marks (F := Fence.wide) (n := 0) hf hb trivial (pwp_sound (N := fn.ntmps) hmix c (Ctx.plain P w M) 0 (bodyQ P rs res) _ rfl hc (fun _ _ => rfl) ?_ ⟨M, fun _ => False⟩ (ini args) (fun _ => .none) (fun _ => none) _ w ?_ hp))
  · intro e f H a w' M0 mu hne h hq
    have fin : (∃ ds, pRess P f H rs = some ds ∧ packD ds = res) → LeavesInM Fence.wide 0 P fn a.tmps (fun e w' => ∃ v, e = .returned v ∧ Rep M w' v res ∧ Below w.heap.size w w') a.defers .returning w' := by
      rintro ⟨ds, h1, h2⟩
      refine leaves_of a.defers w' h (Nat.le_refl _) fun w2 h' => ?_
      obtain ⟨v, g1, g2⟩ := results_of h' hr hro h1
      refine ⟨v, g1, v, rfl, ?_, (h'.below trivial).below fun _ h => h⟩
      rw [← h2]
      exact Rep.mono (fun x u k1 k2 => ⟨k1, fun k3 => k2 (.inl (by rw [h'.cp trivial]; exact k3))⟩) g2
    cases e with
    | normal => exact fin hq
    | ret => exact fin hq
    | _ => exact hq.elim
  · exact ⟨(fun d hd => by cases hd), List.nodup_nil, fun _ => rfl, (by simp; omega), hTR, fun t _ => ini_slots hvs fn.ntmps t, Nat.le_refl _, ⟨rfl, rfl, rfl⟩, fun _ => BelowX.refl _ _, fun _ => rfl,
      ⟨rfl, rfl, rfl, Nat.le_refl _, fun x u _ h2 => absurd trivial h2, fun b _ h2 => absurd trivial (h2 ⟨b, 0, none⟩ rfl)⟩, fun y _ => Iff.rfl, fun x hx => hx.elim, fun x hx => hx.elim (hM x) False.elim, fun s b h => absurd rfl h, (fun s cs h => by cases h),
      (fun r e sz k h => by cases h), (fun r e sz ver cs h => by cases h), fun s s' b h => absurd rfl h, (fun t h => by cases h), fun l pre rest h => absurd h ((ini_ghost args TR).1 l pre rest), fun h => absurd h (ini_ghost args TR).2, (fun l h => by cases h), Steps.same (fun s b h => absurd rfl h), hgl.iff fun x hx => hx.elim (fun h => h.elim id False.elim) fun ⟨s, hs⟩ => hs.elim⟩
end
section
variable {P : Program} {ops : Array Oper} {dr : Bool} {Q : List Sig → Frm → Hp → Prop} {o : Oper} {rest : List Oper} {tr : List Sig} {f : Frm} {H : Hp}

theorem ev_nil (h : Q tr f H) : pEval P ops dr Q [] tr f H := h
/-- An operation that only yields. -/
theorem ev_val {t : Tmp} {x : SV} {rd : Option Nat} (hg : o.guard = none) (hd : o.dst = some t) (he : pstep P o f H = some ⟨x, rd, []⟩)
    (h : pEval P ops dr Q rest (tr ++ [(rd, [])]) (upd f t x) H) : pEval P ops dr Q (o :: rest) tr f H := by
  unfold pEval
  simp only [pW, hg]
  refine .inl ⟨_, .step _ he, ?_⟩
  simp only [hd, updo, app, Eff.sig]
  exact h
/-- An operation that lays or writes a name. -/
theorem ev_wr {t : Tmp} {x : SV} {rd : Option Nat} {s : Nat} {q : HO} (hg : o.guard = none) (hd : o.dst = some t) (he : pstep P o f H = some ⟨x, rd, [(s, q)]⟩)
    (h : pEval P ops dr Q rest (tr ++ [(rd, [s])]) (upd f t x) (hup H s q)) : pEval P ops dr Q (o :: rest) tr f H := by
  unfold pEval
  simp only [pW, hg]
  refine .inl ⟨_, .step _ he, ?_⟩
  simp only [hd, updo, app, Eff.sig]
  exact h
theorem ev_st {x : SV} {rd : Option Nat} {s : Nat} {q : HO} (hg : o.guard = none) (hd : o.dst = none) (he : pstep P o f H = some ⟨x, rd, [(s, q)]⟩)
    (h : pEval P ops dr Q rest (tr ++ [(rd, [s])]) f (hup H s q)) : pEval P ops dr Q (o :: rest) tr f H := by
  unfold pEval
  simp only [pW, hg]
  refine .inl ⟨_, .step _ he, ?_⟩
  simp only [hd, updo, app, Eff.sig]
  exact h
/-- A guard: parted, the guard's slot made plain. -/
theorem pW_some {g : Nat} {want : Bool} {t : Tmp} {b : Bool} (hg : o.guard = some (g, want)) (ht : (ops[g]?).bind (·.dst) = some t) (hb : f t = .d (.bool b)) : pW ops f o = some (b == want) := by
  simp only [pW, hg, ht, hb]
theorem upd_same {t : Tmp} {x : SV} (h : f t = x) : upd f t x = f := by
  funext u
  simp only [upd]
  split
  · rename_i e; rw [e, h]
  · rfl
def ungd (o : Oper) : Oper := { o with guard := none }
theorem pstep_ungd : pstep P (ungd o) f H = pstep P o f H := rfl
theorem POp_ungd {e : Eff} (h : POp P (ungd o) f H e) : POp P o f H e := by
  cases h with
  | step e he => exact .step e he
  | call x as tys k first cap ds res ho hx ha hc => exact .call x as tys k first cap ds res ho hx ha hc
  | ice t x ys ds ho hc hds => exact .ice t x ys ds ho hc hds
  | buildn t parts zs pl ps cs ho hz hpl hps hf => exact .buildn t parts zs pl ps cs ho hz hpl hps hf
  | callm x as tys k args H0 H1 res ρ ns0 ns1 ho hx hc hh => exact .callm x as tys k args H0 H1 res ρ ns0 ns1 ho hx hc hh
  | calln x as tys k first cap ds res ho hx ha hc => exact .calln x as tys k first cap ds res ho hx ha hc
  | vbuild t len parts s et sz bts ps zs cs ho hdr hs hel hps hz hc hf hcl => exact .vbuild t len parts s et sz bts ps zs cs ho hdr hs hel hps hz hc hf hcl
  | eql op t t' x y xs ys b ho hx hy hb hop => exact .eql op t t' x y xs ys b ho hx hy hb hop
  | grow s x t r n m cs news zs e sz bts ho hes hH hex hel hz hzl hsz hlen hb hmax => exact .grow s x t r n m cs news zs e sz bts ho hes hH hex hel hz hzl hsz hlen hb hmax
  | grow0 s x t r m news zs e sz bts ho hdr hes hH hex hel hz hzl hsz hlen hb hmax => exact .grow0 s x t r m news zs e sz bts ho hdr hes hH hex hel hz hzl hsz hlen hb hmax
  | vapp s x t r ver n m cs news zs e sz bts ho hes hH hex hel hz hzl hsz hmp hlen hb hmax => exact .vapp s x t r ver n m cs news zs e sz bts ho hes hH hex hel hz hzl hsz hmp hlen hb hmax
  | vapp0 s x t r m news zs e sz bts ho hdr hes hH hex hel hz hzl hsz hmp hlen hb hmax => exact .vapp0 s x t r m news zs e sz bts ho hdr hes hH hex hel hz hzl hsz hmp hlen hb hmax
/-- Any operation, by what it does to the whole state. -/
theorem ev_any (hg : o.guard = none) (h : Sem1 P o f H fun f' H' => pEval P ops false Q rest (tr ++ [anySig]) f' H') : pEval P ops false Q (o :: rest) tr f H := by
  unfold pEval
  simp only [pW, hg]
  exact .inr ⟨trivial, h⟩
theorem ev_guard {g : Nat} {want : Bool} {t : Tmp} {b : Bool} (hg : o.guard = some (g, want)) (ht : (ops[g]?).bind (·.dst) = some t) (hb : f t = .d (.bool b))
    (hT : b = want → pEval P ops dr Q (ungd o :: rest) tr (upd f t (.d (.bool want))) H)
    (hF : b = !want → pEval P ops dr Q rest (tr ++ [(none, [])]) (updo (upd f t (.d (.bool !want))) o.dst (.d (.tup []))) H) : pEval P ops dr Q (o :: rest) tr f H := by
  unfold pEval
  rw [pW_some hg ht hb]
  by_cases hbw : b = want
  · have h := hT hbw
    subst hbw
    rw [upd_same hb] at h
    unfold pEval at h
    have hw : pW ops f (ungd o) = some true := rfl
    rw [hw] at h
    simp only [beq_self_eq_true]
    rcases h with ⟨e, he, h⟩ | ⟨hd, h⟩
    · exact .inl ⟨e, POp_ungd he, h⟩
    · exact .inr ⟨hd, h⟩
  · have hbn : b = !want := by cases b <;> cases want <;> simp_all
    have h := hF hbn
    rw [upd_same (hbn ▸ hb)] at h
    have : (b == want) = false := by simp [hbw]
    rw [this]
    exact h
/-- A guard that is known. -/
theorem ev_yes {g : Nat} {want : Bool} {t : Tmp} (hg : o.guard = some (g, want)) (ht : (ops[g]?).bind (·.dst) = some t) (hb : f t = .d (.bool want))
    (h : pEval P ops dr Q (ungd o :: rest) tr f H) : pEval P ops dr Q (o :: rest) tr f H :=
  ev_guard hg ht hb (fun _ => by rw [upd_same hb]; exact h) (fun e => by cases want <;> cases e)
theorem ev_no {g : Nat} {want : Bool} {t : Tmp} (hg : o.guard = some (g, want)) (ht : (ops[g]?).bind (·.dst) = some t) (hb : f t = .d (.bool !want) ∨ ∃ ds, f t = .d (.tup ds))
    (h : pEval P ops dr Q rest (tr ++ [(none, [])]) (updo f o.dst (.d (.tup []))) H) : pEval P ops dr Q (o :: rest) tr f H := by
  unfold pEval
  have : pW ops f o = some false := by
    rcases hb with hb | ⟨ds, hb⟩
    · rw [pW_some hg ht hb]; cases want <;> rfl
    · simp only [pW, hg, ht, hb]
  rw [this]
  exact h
def tupQ : SV → Bool
  | .d (.tup _) => true
  | _ => false
/-- A guard whose operation was passed over. -/
theorem ev_nt {g : Nat} {want : Bool} {t : Tmp} (hg : o.guard = some (g, want)) (ht : (ops[g]?).bind (·.dst) = some t) (hb : tupQ (f t) = true)
    (h : pEval P ops dr Q rest (tr ++ [(none, [])]) (updo f o.dst (.d (.tup []))) H) : pEval P ops dr Q (o :: rest) tr f H :=
  ev_no hg ht (.inr (by unfold tupQ at hb; split at hb <;> first | (rename_i ds he; exact ⟨ds, he⟩) | cases hb)) h
/-- A call. -/
theorem ev_call {t : Tmp} {x : Operand} {as : Array Operand} {tys : Array TypeId} {k : FuncId} {first cap ds : List D} {res : D} (hg : o.guard = none) (hd : o.dst = some t) (ho : o.op = .call { callee := .value x, args := as, argTypes := tys })
    (hx : ev f x = .d (.fn (.func k) first cap)) (ha : toDs (as.toList.map (ev f)) = some ds) (hc : PC P k (first ++ ds ++ cap) res)
    (h : pEval P ops dr Q rest (tr ++ [(none, [])]) (upd f t (.d res)) H) : pEval P ops dr Q (o :: rest) tr f H := by
  unfold pEval
  simp only [pW, hg]
  refine .inl ⟨.val (.d res), .call x as tys k first cap ds res ho hx ha hc, ?_⟩
  simp only [Eff.val, Eff.sig, hd, updo, app]
  exact h
/-- A call, nil slices told as such. -/
theorem ev_calln {t : Tmp} {x : Operand} {as : Array Operand} {tys : Array TypeId} {k : FuncId} {first cap ds : List D} {res : D} (hg : o.guard = none) (hd : o.dst = some t) (ho : o.op = .call { callee := .value x, args := as, argTypes := tys })
    (hx : ev f x = .d (.fn (.func k) first cap)) (ha : toDsN (as.toList.map (ev f)) = some ds) (hc : PC P k (first ++ ds ++ cap) res)
    (h : pEval P ops dr Q rest (tr ++ [(none, [])]) (upd f t (.d res)) H) : pEval P ops dr Q (o :: rest) tr f H := by
  unfold pEval
  simp only [pW, hg]
  refine .inl ⟨.val (.d res), .calln x as tys k first cap ds res ho hx ha hc, ?_⟩
  simp only [Eff.val, Eff.sig, hd, updo, app]
  exact h
/-- append on an owned slice; on a nil one (the new row bears the slot's name). -/
theorem ev_app {tm : Tmp} {s x : Operand} {t : TypeId} {r n m : Nat} {cs news zs : List D} {e sz bts : Nat} (hg : o.guard = none) (hd : o.dst = some tm) (ho : o.op = .call { callee := .builtin .append, args := #[s, x], argTypes := #[t, t] })
    (hes : ev f s = .own r n cs) (hH : H r = .row e sz n) (hex : (ev f x).toD = some (.sl m news)) (hel : elT P t = some (e, sz, bts)) (hz : zeroT P e = some zs) (hzl : zs.length = sz) (hsz : 0 < sz) (hlen : news.length = m * sz)
    (hb : (n + m) * bts ≤ 140737488355328) (hmax : n + m ≤ 4611686018427387904)
    (h : pEval P ops dr Q rest (tr ++ [(some r, [r])]) (upd f tm (.own r (n + m) (cs ++ news))) (hup H r (.row e sz (n + m)))) : pEval P ops dr Q (o :: rest) tr f H := by
  unfold pEval
  simp only [pW, hg]
  refine .inl ⟨_, .grow s x t r n m cs news zs e sz bts ho hes hH hex hel hz hzl hsz hlen hb hmax, ?_⟩
  simp only [Eff.sig, hd, updo, app]
  exact h
theorem ev_app0 {tm : Tmp} {s x : Operand} {t : TypeId} {m : Nat} {news zs : List D} {e sz bts : Nat} (hg : o.guard = none) (hd : o.dst = some tm) (ho : o.op = .call { callee := .builtin .append, args := #[s, x], argTypes := #[t, t] })
    (hes : ev f s = .nil) (hH : H tm = .none) (hex : (ev f x).toD = some (.sl m news)) (hel : elT P t = some (e, sz, bts)) (hz : zeroT P e = some zs) (hzl : zs.length = sz) (hsz : 0 < sz) (hlen : news.length = m * sz)
    (hb : m * bts ≤ 140737488355328) (hmax : m ≤ 4611686018427387904)
    (h : pEval P ops dr Q rest (tr ++ [(some tm, [tm])]) (upd f tm (.own tm m news)) (hup H tm (.row e sz m))) : pEval P ops dr Q (o :: rest) tr f H := by
  unfold pEval
  simp only [pW, hg]
  refine .inl ⟨_, .grow0 s x t tm m news zs e sz bts ho hd hes hH hex hel hz hzl hsz hlen hb hmax, ?_⟩
  simp only [Eff.sig, hd, updo, app]
  exact h
/-- append where the cells are written here and there. -/
theorem ev_vapp {tm : Tmp} {s x : Operand} {t : TypeId} {r ver n m : Nat} {cs : List SV} {news zs : List D} {e sz bts : Nat} (hg : o.guard = none) (hd : o.dst = some tm) (ho : o.op = .call { callee := .builtin .append, args := #[s, x], argTypes := #[t, t] })
    (hes : ev f s = .vec r ver n) (hH : H r = .vec e sz ver cs) (hex : (ev f x).toD = some (.sl m news)) (hel : elT P t = some (e, sz, bts)) (hz : zeroT P e = some zs) (hzl : zs.length = sz) (hsz : 0 < sz) (hmp : 0 < m) (hlen : news.length = m * sz)
    (hb : (n + m) * bts ≤ 140737488355328) (hmax : n + m ≤ 4611686018427387904)
    (h : pEval P ops dr Q rest (tr ++ [(some r, [r])]) (upd f tm (.vec r (ver + 1) (n + m))) (hup H r (.vec e sz (ver + 1) (cs ++ news.map .d)))) : pEval P ops dr Q (o :: rest) tr f H := by
  unfold pEval
  simp only [pW, hg]
  refine .inl ⟨_, .vapp s x t r ver n m cs news zs e sz bts ho hes hH hex hel hz hzl hsz hmp hlen hb hmax, ?_⟩
  simp only [Eff.sig, hd, updo, app]
  exact h
theorem ev_vapp0 {tm : Tmp} {s x : Operand} {t : TypeId} {m : Nat} {news zs : List D} {e sz bts : Nat} (hg : o.guard = none) (hd : o.dst = some tm) (ho : o.op = .call { callee := .builtin .append, args := #[s, x], argTypes := #[t, t] })
    (hes : ev f s = .nil) (hH : H tm = .none) (hex : (ev f x).toD = some (.sl m news)) (hel : elT P t = some (e, sz, bts)) (hz : zeroT P e = some zs) (hzl : zs.length = sz) (hsz : 0 < sz) (hmp : 0 < m) (hlen : news.length = m * sz)
    (hb : m * bts ≤ 140737488355328) (hmax : m ≤ 4611686018427387904)
    (h : pEval P ops dr Q rest (tr ++ [(some tm, [tm])]) (upd f tm (.vec tm 0 m)) (hup H tm (.vec e sz 0 (news.map .d)))) : pEval P ops dr Q (o :: rest) tr f H := by
  unfold pEval
  simp only [pW, hg]
  refine .inl ⟨_, .vapp0 s x t tm m news zs e sz bts ho hd hes hH hex hel hz hzl hsz hmp hlen hb hmax, ?_⟩
  simp only [Eff.sig, hd, updo, app]
  exact h
/-- A slice literal whose cells are to be written here and there. -/
theorem ev_vbuild {tm : Tmp} {t : TypeId} {len : Nat} {parts : Array (Nat × Operand)} {et sz bts : Nat} {ps : List (Nat × D)} {zs cs : List D} (hg : o.guard = none) (hd : o.dst = some tm) (ho : o.op = .buildSlice t len parts) (hs : H tm = .none) (hel : elT P t = some (et, sz, bts))
    (hps : partsD f parts.toList = some ps) (hz : zeroT P et = some zs) (hc : zs.length = sz ∧ len * sz ≤ 16777216 ∧ len * sz ≠ 0) (hf : pfill (fun i => some (i * sz, sz)) (repD len zs) ps = some cs) (hcl : cs.length = len * sz)
    (h : pEval P ops dr Q rest (tr ++ [(none, [tm])]) (upd f tm (.vec tm 0 len)) (hup H tm (.vec et sz 0 (cs.map .d)))) : pEval P ops dr Q (o :: rest) tr f H := by
  unfold pEval
  simp only [pW, hg]
  refine .inl ⟨_, .vbuild t len parts tm et sz bts ps zs cs ho hd hs hel hps hz hc hf hcl, ?_⟩
  simp only [Eff.sig, hd, updo, app]
  exact h
/-- A struct literal, nil slices told as such. -/
theorem ev_buildn {tm : Tmp} {t : TypeId} {parts : Array (Nat × Operand)} {zs : List D} {pl : List (Nat × Nat)} {ps : List (Nat × D)} {cs : List D} (hg : o.guard = none) (hd : o.dst = some tm) (ho : o.op = .build t parts) (hz : zeroTN P t = some zs) (hpl : placesT P t = some pl) (hps : partsD f parts.toList = some ps)
    (hf : pfill (fun i => pl[i]?) zs ps = some cs) (h : pEval P ops dr Q rest (tr ++ [(none, [])]) (upd f tm (.d (.agg cs))) H) : pEval P ops dr Q (o :: rest) tr f H := by
  unfold pEval
  simp only [pW, hg]
  refine .inl ⟨_, .buildn t parts zs pl ps cs ho hz hpl hps hf, ?_⟩
  simp only [Eff.val, Eff.sig, hd, updo, app]
  exact h
/-- A variable that nobody writes any more. -/
theorem ev_ice {tm : Tmp} {t : TypeId} {x : Operand} {ys : List SV} {ds : List D} (hg : o.guard = none) (hd : o.dst = some tm) (ho : o.op = .box t x) (hc : (ev f x).cells = some ys) (ht : toDs ys = some ds)
    (h : pEval P ops dr Q rest (tr ++ [(none, [])]) (upd f tm (.d (.ep ds))) H) : pEval P ops dr Q (o :: rest) tr f H := by
  unfold pEval
  simp only [pW, hg]
  refine .inl ⟨_, .ice t x ys ds ho hc ht, ?_⟩
  simp only [Eff.val, Eff.sig, hd, updo, app]
  exact h
theorem ev_eql {tm : Tmp} {op : BinOp} {t t' : TypeId} {x y : Operand} {xs ys : List D} {b : Bool} (hg : o.guard = none) (hd : o.dst = some tm) (ho : o.op = .binOp op t x y t') (hx : ev f x = .d (.agg xs)) (hy : ev f y = .d (.agg ys))
    (hb : AggEq P t xs ys b) (hop : op = .eql ∨ op = .neq) (h : pEval P ops dr Q rest (tr ++ [(none, [])]) (upd f tm (.d (.bool (if op = .eql then b else !b)))) H) : pEval P ops dr Q (o :: rest) tr f H := by
  unfold pEval
  simp only [pW, hg]
  refine .inl ⟨_, .eql op t t' x y xs ys b ho hx hy hb hop, ?_⟩
  simp only [Eff.val, Eff.sig, hd, updo, app]
  exact h
end
section
variable {P : Program} {Q : Exit → Frm → Hp → Prop} {f : Frm} {H : Hp} {c x y : Code}
theorem wp_reg {id : Nat} {ops : Array Oper} (h : pEval P ops false (fun _ f H => Q .normal f H) ops.toList [] f H) : pwp P (.region id ops false) Q f H := by
  have e : (fun (_ : List Sig) (f : Frm) (H : Hp) => True ∧ Q .normal f H) = fun _ f H => Q .normal f H := by funext _ f H; simp
  show pEval P ops false (fun _ f H => True ∧ Q .normal f H) _ _ _ _
  rw [e]
  exact h
theorem wp_regd {id : Nat} {ops : Array Oper} (h : pEval P ops true (fun tr f H => nm (Region.before ops) tr = true ∧ Q .normal f H) ops.toList [] f H) : pwp P (.region id ops true) Q f H := h
theorem Gh.mono {K K' : Frm → Hp → Prop} (hk : ∀ f H, K f H → K' f H) (h : Gh K f H) : Gh K' f H := fun N M0 C mu a w hs => have ⟨f', H', M0', mu', h1, h2⟩ := h N M0 C mu a w hs; ⟨f', H', M0', mu', h1, hk _ _ h2⟩
theorem Sem1.mono {o : Oper} {K K' : Frm → Hp → Prop} (hk : ∀ f H, K f H → K' f H) (h : Sem1 P o f H K) : Sem1 P o f H K' :=
  fun N M0 C mu a w n Q Kw hP ho hfx hs hKw => h N M0 C mu a w n Q Kw hP ho hfx hs fun f' H' M0' mu' a' w' h1 h2 => hKw f' H' M0' mu' a' w' h1 (hk _ _ h2)
theorem pEval_mono {ops : Array Oper} {dr : Bool} {Q Q' : List Sig → Frm → Hp → Prop} (hq : ∀ tr f H, Q tr f H → Q' tr f H) : ∀ (l : List Oper) (tr : List Sig) (f : Frm) (H : Hp), pEval P ops dr Q l tr f H → pEval P ops dr Q' l tr f H
  | [], tr, f, H, h => hq _ _ _ h
  | o :: l, tr, f, H, h => by
    unfold pEval at h ⊢
    split at h
    · rcases h with ⟨e, h1, h2⟩ | ⟨h1, h2⟩
      · exact .inl ⟨e, h1, pEval_mono hq l _ _ _ h2⟩
      · exact .inr ⟨h1, h2.mono fun f H => pEval_mono hq l _ f H⟩
    · exact pEval_mono hq l _ _ _ h
    · exact h.elim
theorem pThen_mono {K K' : Frm → Hp → Prop} {Q Q' : Exit → Frm → Hp → Prop} (hk : ∀ f H, K f H → K' f H) (hq : ∀ e f H, Q e f H → Q' e f H) (e : Exit) (f : Frm) (H : Hp) (h : pThen K Q e f H) : pThen K' Q' e f H := by
  cases e <;> simp only [pThen] at h ⊢ <;> first | exact hk _ _ h | exact hq _ _ _ h
theorem pBlock_mono {id : Nat} {Q Q' : Exit → Frm → Hp → Prop} (hq : ∀ e f H, Q e f H → Q' e f H) (e : Exit) (f : Frm) (H : Hp) (h : pBlock id Q e f H) : pBlock id Q' e f H := by
  cases e <;> simp only [pBlock] at h ⊢ <;> first | exact hq _ _ _ h | (split at h <;> rename_i hi <;> simp only [hi, if_true, if_false] <;> exact hq _ _ _ h)
theorem pRound_mono {W : List Nat} {I : Frm → Hp → Prop} {Q Q' : Exit → Frm → Hp → Prop} (hq : ∀ e f H, Q e f H → Q' e f H) (e : Exit) (f : Frm) (H : Hp) (h : pRound W I Q e f H) : pRound W I Q' e f H := by
  cases e <;> simp only [pRound] at h ⊢ <;> first | exact h | exact h.mono fun f H h => ⟨hq _ _ _ h.1, h.2⟩
theorem pOnly_mono {K K' : Frm → Hp → Prop} (hk : ∀ f H, K f H → K' f H) (e : Exit) (f : Frm) (H : Hp) (h : pOnly K e f H) : pOnly K' e f H := by
  cases e <;> simp only [pOnly] at h ⊢; exact hk _ _ h
theorem pwp_mono : ∀ (x : Code) (Q Q' : Exit → Frm → Hp → Prop), (∀ e f H, Q e f H → Q' e f H) → ∀ (f : Frm) (H : Hp), pwp P x Q f H → pwp P x Q' f H := by
  intro x
  induction x with
  | skip => intro Q Q' hq f H h; exact hq _ _ _ h
  | label l => intro Q Q' hq f H h; exact hq _ _ _ h
  | ret => intro Q Q' hq f H h; exact hq _ _ _ h
  | exit id => intro Q Q' hq f H h; exact hq _ _ _ h
  | region id ops dr => intro Q Q' hq f H h; exact pEval_mono (fun tr f H h => ⟨h.1, hq _ _ _ h.2⟩) _ _ _ _ h
  | seq x y ihx ihy => intro Q Q' hq f H h; exact ihx _ _ (pThen_mono (fun f H h => h.mono fun f H => ihy _ _ hq f H) hq) f H h
  | cond c x y ihx ihy =>
    intro Q Q' hq f H h
    obtain ⟨b, h1, h2⟩ := h
    refine ⟨b, h1, ?_⟩
    cases b with
    | true => exact ihx _ _ hq f H h2
    | false => exact ihy _ _ hq f H h2
  | block id x ih => intro Q Q' hq f H h; exact ih _ _ (pBlock_mono hq) f H h
  | loop x ih =>
    intro Q Q' hq f H h
    obtain ⟨I, h1, h2⟩ := h
    exact ⟨I, h1, fun n f H hi => ih _ _ (pThen_mono (fun _ _ h => h) hq) f H (h2 n f H hi)⟩
  | rangeFunc g ps x y ihx ihy =>
    intro Q Q' hq f H h
    obtain ⟨k, cap, xs, I, h1, h2, h3, h4, h5⟩ := h
    exact ⟨k, cap, xs, I, h1, h2, h3, fun pre d rest f H hi hc => ihx _ _ (pOnly_mono fun f H => ihy _ _ (pRound_mono hq) f H) _ _ (h4 pre d rest f H hi hc), fun f H hi hc => hq _ _ _ (h5 f H hi hc)⟩
  | _ => intro Q Q' hq f H h; exact h.elim
theorem wp_sq (h : pwp P x (pThen (fun f H => pwp P y Q f H) Q) f H) : pwp P (.seq x y) Q f H :=
  pwp_mono x _ _ (pThen_mono (fun _ _ h => Gh.of h) fun _ _ _ h => h) f H h
/-- The same, the state told otherwise in between. -/
theorem wp_sqg (h : pwp P x (pThen (Gh fun f H => pwp P y Q f H) Q) f H) : pwp P (.seq x y) Q f H := h
theorem wp_if {t : Operand} {b : Bool} (hb : ev f t = .d (.bool b)) (hT : b = true → pwp P x Q f H) (hF : b = false → pwp P y Q f H) : pwp P (.cond t x y) Q f H := by
  refine ⟨b, hb, ?_⟩
  cases b with
  | true => exact hT rfl
  | false => exact hF rfl
/-- The same; the slot is told anew. -/
theorem wp_ifu {t : Tmp} {b : Bool} (hb : f t = .d (.bool b)) (hT : b = true → pwp P x Q (upd f t (.d (.bool true))) H) (hF : b = false → pwp P y Q (upd f t (.d (.bool false))) H) : pwp P (.cond (.tmp t) x y) Q f H :=
  wp_if (t := .tmp t) hb (fun h => by have := hT h; rw [h] at hb; rwa [upd_same hb] at this) fun h => by have := hF h; rw [h] at hb; rwa [upd_same hb] at this
/-- What is told of the state at a place, once for all ways that come there. -/
theorem wp_cut (T : Frm → Hp → Prop) (h1 : ∀ f H, T f H → pwp P y Q f H) (h2 : pwp P x (pThen (fun f H => ∃ f' H', Cv f H f' H' ∧ T f' H') Q) f H) : pwp P (.seq x y) Q f H :=
  wp_sqg (pwp_mono x _ _ (pThen_mono (fun _ _ ⟨_, _, hc, ht⟩ => Gh.cv hc (h1 _ _ ht)) fun _ _ _ h => h) f H h2)
theorem wp_ift {t : Operand} (hb : ev f t = .d (.bool true)) (h : pwp P x Q f H) : pwp P (.cond t x y) Q f H := wp_if hb (fun _ => h) (fun e => by cases e)
theorem wp_iff {t : Operand} (hb : ev f t = .d (.bool false)) (h : pwp P y Q f H) : pwp P (.cond t x y) Q f H := wp_if hb (fun e => by cases e) (fun _ => h)
theorem wp_blk {id : Nat} (h : pwp P x (pBlock id Q) f H) : pwp P (.block id x) Q f H := h
/-- A loop: an invariant that bears a number. -/
theorem wp_lp (I : Nat → Frm → Hp → Prop) (n : Nat) (f' : Frm) (H' : Hp) (hc : Cv f H f' H') (h0 : I n f' H')
    (hr : ∀ n f H, I n f H → pwp P x (pThen (fun f H => ∃ m f' H', m < n ∧ Cv f H f' H' ∧ I m f' H') Q) f H) : pwp P (.loop x) Q f H :=
  ⟨I, Gh.cv hc ⟨n, h0⟩, fun n f H hi => pwp_mono x _ _ (pThen_mono (fun f H ⟨m, f', H', h1, h2, h3⟩ => Gh.cv h2 ⟨m, h1, h3⟩) fun _ _ _ h => h) f H (hr n f H hi)⟩
/-- A frame of these slots alone. -/
def frm : List (Nat × SV) → Frm
  | [] => fun _ => .junk
  | (t, x) :: l => fun u => if u = t then x else frm l u
theorem frm_slot {l : List (Nat × SV)} (h : ∀ p ∈ l, f p.1 = p.2 ∨ p.2 = .junk ∨ ∃ x, (f p.1).toD = some x ∧ p.2 = .d x) : ∀ t, frm l t = f t ∨ frm l t = .junk ∨ ∃ x, (f t).toD = some x ∧ frm l t = .d x := by
  intro t
  induction l with
  | nil => exact .inr (.inl rfl)
  | cons p l ih =>
    obtain ⟨u, x⟩ := p
    simp only [frm]
    split
    · rename_i e
      subst e
      rcases h (t, x) (by simp) with h1 | h1 | ⟨y, h1, h2⟩
      · exact .inl h1.symm
      · exact .inr (.inl h1)
      · exact .inr (.inr ⟨y, h1, h2⟩)
    · exact ih fun p hp => h p (by simp [hp])
/-- Keep these slots alone, all of them data. -/
def SV.isD : SV → Bool
  | .d _ | .nil | .junk => true
  | _ => false
theorem Cv.keep (l : List (Nat × SV)) (h : ∀ p ∈ l, f p.1 = p.2 ∨ p.2 = .junk ∨ ∃ x, (f p.1).toD = some x ∧ p.2 = .d x) (hd : ∀ p ∈ l, p.2.isD = true) : Cv f H (frm l) (fun _ => .none) := by
  refine .less ⟨fun t => (frm_slot h t).imp_right fun h => h.imp_right .inl, fun s => .inr rfl, fun t => ?_, (fun s cs hs => by cases hs), (fun r e sz ver cs hs => by cases hs)⟩
  have : (frm l t).isD = true := by
    induction l with
    | nil => rfl
    | cons p l ih =>
      obtain ⟨u, x⟩ := p
      simp only [frm]
      split
      · exact hd (u, x) (by simp)
      · exact ih (fun p hp => h p (by simp [hp])) fun p hp => hd p (by simp [hp])
  generalize frm l t = z at this
  cases z <;> first | trivial | (simp [SV.isD] at this)
end
section
variable {P : Program} {K : Frm → Hp → Prop} {Q : Exit → Frm → Hp → Prop} {f : Frm} {H : Hp}
theorem th_n (h : K f H) : pThen K Q .normal f H := h
theorem th_r (h : Q .ret f H) : pThen K Q .ret f H := h
theorem th_e {id : Nat} (h : Q (.exit id) f H) : pThen K Q (.exit id) f H := h
theorem bl_n {id : Nat} (h : Q .normal f H) : pBlock id Q .normal f H := h
theorem bl_r {id : Nat} (h : Q .ret f H) : pBlock id Q .ret f H := h
theorem bl_e {id : Nat} (h : Q .normal f H) : pBlock id Q (.exit id) f H := by simp only [pBlock, if_true]; exact h
theorem bl_o {id id' : Nat} (hne : (id' == id) = false) (h : Q (.exit id') f H) : pBlock id Q (.exit id') f H := by
  have : id' ≠ id := by simpa using hne
  simp only [pBlock, this, if_false]; exact h
theorem wp_sk (h : Q .normal f H) : pwp P .skip Q f H := h
theorem wp_lb {l : Nat} (h : Q .normal f H) : pwp P (.label l) Q f H := h
theorem wp_rt (h : Q .ret f H) : pwp P .ret Q f H := h
theorem wp_ex {id : Nat} (h : Q (.exit id) f H) : pwp P (.exit id) Q f H := h
theorem nm_and {T : Array Nat} {tr : List Sig} {R : Prop} (h1 : nm T tr = true) (h : R) : nm T tr = true ∧ R := ⟨h1, h⟩
theorem bq_r {rs : List ResultVar} {res : D} {ds : List D} (h1 : pRess P f H rs = some ds) (h2 : packD ds = res) : bodyQ P rs res .ret f H := ⟨ds, h1, h2⟩
theorem bq_n {rs : List ResultVar} {res : D} {ds : List D} (h1 : pRess P f H rs = some ds) (h2 : packD ds = res) : bodyQ P rs res .normal f H := ⟨ds, h1, h2⟩
end
/-! ### A loop over an iterator, for the walk -/
def clrB (W : List Nat) (l : List (Nat × SV)) : Bool := W.all fun t => !(l.map (·.1)).contains t
theorem clr_of {W : List Nat} : ∀ {l : List (Nat × SV)}, clrB W l = true → Clr W (frm l)
  | [], _, t, _ => rfl
  | (u, x) :: l, h, t, ht => by
    simp only [clrB, List.all_eq_true] at h
    have h1 := h t ht
    simp only [List.map_cons, List.contains_cons, Bool.not_or, Bool.and_eq_true, Bool.not_eq_true', beq_eq_false_iff_ne] at h1
    simp only [frm]
    rw [if_neg h1.1]
    exact clr_of (by
      simp only [clrB, List.all_eq_true]
      intro t ht
      have h1 := h t ht
      simp only [List.map_cons, List.contains_cons, Bool.not_or, Bool.and_eq_true] at h1
      exact h1.2) t ht
section
variable {P : Program} {Q : Exit → Frm → Hp → Prop} {f : Frm} {H : Hp}
/-- A round's ways out: which slots and names it goes on with. -/
def RgK (W : List Nat) (K : Frm → Hp → Prop) (f : Frm) (H : Hp) : Prop := ∃ l H', Cv f H (frm l) H' ∧ clrB W l = true ∧ K (frm l) H'
theorem RgK.gh {W : List Nat} {K : Frm → Hp → Prop} (h : RgK W K f H) : Gh (fun f H => K f H ∧ Clr W f) f H := by
  obtain ⟨l, H', h1, h2, h3⟩ := h
  exact Gh.cv h1 ⟨h3, clr_of h2⟩
theorem rd_n {W : List Nat} {I : Frm → Hp → Prop} (h : RgK W I f H) : pRound W I Q .normal f H := h.gh
theorem rd_r {W : List Nat} {I : Frm → Hp → Prop} (h : RgK W (Q .ret) f H) : pRound W I Q .ret f H := h.gh
theorem rd_e {W : List Nat} {I : Frm → Hp → Prop} {id : Nat} (h : RgK W (Q (.exit id)) f H) : pRound W I Q (.exit id) f H := h.gh
theorem on_n {K : Frm → Hp → Prop} (h : K f H) : pOnly K .normal f H := h
/-- A loop over an iterator: what holds when pre has come. -/
theorem wp_rg {g : Operand} {ps : Array Tmp} {x y : Code} {k : FuncId} {cap : List D} {xs : List (List D)} (psl : List Tmp) (hpl : ps.toList = psl) (hps : PS P k cap xs) (hlen : ∀ d ∈ xs, d.length = psl.length) (I : List (List D) → Frm → Hp → Prop) (l : List (Nat × SV)) (H' : Hp)
    (hc : Cv f H (frm l) H') (hW : clrB (psl ++ wrt x ++ wrt y) l = true) (hg : ev (frm l) g = .d (.fn (.func k) [] cap)) (h0 : I [] (frm l) H')
    (hr : ∀ pre d rest f H, xs = pre ++ d :: rest → I pre f H → pwp P x (pOnly fun f H => pwp P y (pRound (psl ++ wrt x ++ wrt y) (I (pre ++ [d])) Q) f H) (setPs psl d f) H)
    (hd : ∀ f H, I xs f H → Q .normal f H) : pwp P (.rangeFunc g ps x y) Q f H := by
  subst hpl
  refine ⟨k, cap, xs, fun pre rest f H => xs = pre ++ rest ∧ I pre f H, hps, fun d hd => (hlen d hd).trans (by simp), Gh.cv hc ⟨hg, ⟨rfl, h0⟩, clr_of hW⟩, fun pre d rest f H hi _ => ?_, fun f H hi _ => hd f H hi.2⟩
  refine pwp_mono x _ _ (fun e f H h => pOnly_mono (fun f H h => pwp_mono y _ _ (fun e f H h => ?_) f H h) e f H h) _ _ (hr pre d rest f H hi.1 hi.2)
  cases e <;> simp only [pRound] at h ⊢ <;> first | exact h | exact h.mono fun f H h => ⟨⟨by rw [hi.1]; simp, h.1⟩, h.2⟩
end
attribute [irreducible] pwp pEval pThen pBlock bodyQ pRound pOnly
end Go.Proofs.YtefiebkngpcaoaaDoor
