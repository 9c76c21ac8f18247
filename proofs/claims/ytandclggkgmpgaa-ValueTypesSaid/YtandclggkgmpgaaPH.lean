/- The pure logic of code: regions, branches, blocks, loops; and a function's contract out of it. Conditions: the closed checks of the code. -/
import Derived.Test.YtandclggkgmpgaaPG2
set_option linter.unusedVariables false
set_option linter.unusedSimpArgs false
set_option linter.unusedSectionVars false
namespace Go.Proofs.Ytandclggkgmpgaa
open Go.RowKit

abbrev Sig := Option Nat × Option Nat
def Eff.sig (e : Eff) : Sig := (e.rd, match e.wr with | some (s, _) => some s | none => none)
/-- All that share a name which one of them writes are ordered. -/
def nm (T : Array Nat) (l : List Sig) : Bool :=
  l.zipIdx.all fun (e, i) => match e.2 with
    | none => true
    | some s => l.zipIdx.all fun (e', j) => i == j || !(e'.1 == some s || e'.2 == some s) || (if i < j then isBef T i j else isBef T j i)
/-- One region, walked in the text's order. -/
def pEval (P : Program) (ops : Array Oper) (Q : List Sig → Frm → Hp → Prop) : List Oper → List Sig → Frm → Hp → Prop
  | [], tr, f, H => Q tr f H
  | o :: rest, tr, f, H => match pW ops f o with
    | some true => ∃ e, POp P o f H e ∧ pEval P ops Q rest (tr ++ [e.sig]) (updo f o.dst e.res) (app H e.wr)
    | some false => pEval P ops Q rest (tr ++ [(none, none)]) (updo f o.dst (.d (.tup []))) H
    | none => False
/-- Does the name mean the same? -/
def kept (H H' : Hp) : SV → Prop
  | .loc s _ => H' s = H s
  | .own r _ _ => H' r = H r
  | _ => True
/-- A frame of which less is said. -/
structure Less (f : Frm) (H : Hp) (f' : Frm) (H' : Hp) : Prop where
  slot : ∀ t, f' t = f t ∨ f' t = .junk ∨ ∃ x, (f t).toD = some x ∧ f' t = .d x
  name : ∀ s, H' s = H s ∨ H' s = .none
  kslot : ∀ t, kept H H' (f' t)
  kbox : ∀ s cs, H' s = .box cs → ∀ x ∈ cs, kept H H' x
/-- The same state, told otherwise. -/
inductive Cv : Frm → Hp → Frm → Hp → Prop
  | refl (f : Frm) (H : Hp) : Cv f H f H
  | trans {f H f1 H1 f2 H2} (h1 : Cv f H f1 H1) (h2 : Cv f1 H1 f2 H2) : Cv f H f2 H2
  | less {f H f' H'} (h : Less f H f' H') : Cv f H f' H'
  | adopt {f : Frm} {H : Hp} (t r : Nat) (e : TypeId) (size : Nat) (h1 : f t = .nil) (h2 : H r = .none) : Cv f H (upd f t (.own r 0 [])) (hup H r (.row e size 0))
  | adoptB {f : Frm} {H : Hp} (s : Nat) (cs : List SV) (i r : Nat) (e : TypeId) (size : Nat) (h1 : H s = .box cs) (h3 : cs[i]? = some .nil) (h2 : H r = .none) : Cv f H f (hup (hup H r (.row e size 0)) s (.box (cs.set i (.own r 0 []))))
def pThen (K : Frm → Hp → Prop) (Q : Exit → Frm → Hp → Prop) : Exit → Frm → Hp → Prop
  | .normal, f, H => K f H
  | .outgrown, _, _ => False
  | e, f, H => Q e f H
def pBlock (id : Nat) (Q : Exit → Frm → Hp → Prop) : Exit → Frm → Hp → Prop
  | .exit id', f, H => if id' = id then Q .normal f H else Q (.exit id') f H
  | .outgrown, _, _ => False
  | e, f, H => Q e f H
def pwp (P : Program) : Code → (Exit → Frm → Hp → Prop) → Frm → Hp → Prop
  | .skip, Q, f, H => Q .normal f H
  | .label _, Q, f, H => Q .normal f H
  | .ret, Q, f, H => Q .ret f H
  | .exit id, Q, f, H => Q (.exit id) f H
  | .region _ ops draw, Q, f, H => pEval P ops (fun tr f H => (match draw with | true => nm (Region.before ops) tr = true | false => True) ∧ Q .normal f H) ops.toList [] f H
  | .seq x y, Q, f, H => pwp P x (pThen (fun f H => pwp P y Q f H) Q) f H
  | .cond c x y, Q, f, H => ∃ b, ev f c = .d (.bool b) ∧ (if b then pwp P x Q f H else pwp P y Q f H)
  | .block id x, Q, f, H => pwp P x (pBlock id Q) f H
  | .loop x, Q, f, H => ∃ I : Nat → Frm → Hp → Prop, (∃ n f' H', Cv f H f' H' ∧ I n f' H') ∧
      ∀ n f H, I n f H → pwp P x (pThen (fun f H => ∃ m f' H', m < n ∧ Cv f H f' H' ∧ I m f' H') Q) f H
  | _, _, _, _ => False
/-- The closed checks. -/
def codeOk (N : Nat) : Code → Bool
  | .skip | .label _ | .ret | .exit _ => true
  | .region _ ops draw => opsOk N ops && (!draw || ordOk ops (Region.before ops))
  | .seq x y => codeOk N x && codeOk N y
  | .cond c x y => opB N c && codeOk N x && codeOk N y
  | .block _ x => codeOk N x
  | .loop x => codeOk N x
  | _ => true
section
variable {P : Program} {N : Nat} {M0 : Addr → Prop} {w0 w : World} {f f' : Frm} {H H' : Hp} {mu : Nat → Option Nat} {a : Act} {o : Oper} {e : Eff} {ops : Array Oper}

theorem sig_names (e : Eff) (s : Nat) : e.names.contains s = (e.sig.1 == some s || e.sig.2 == some s) := by
  unfold Eff.names Eff.sig
  cases e.rd <;> cases e.wr <;> simp [Bool.beq_eq_decide_eq, eq_comm]
theorem nm_spec (T : Array Nat) (tr : List Eff) : nm T (tr.map Eff.sig) = nameOk T tr := by
  unfold nm nameOk
  simp only [List.zipIdx_map, List.all_map, Function.comp_def, Prod.map, id]
  congr 1
  funext x
  obtain ⟨e, i⟩ := x
  simp only [Eff.sig]
  cases hw : e.wr with
  | none => rfl
  | some p =>
    obtain ⟨s, q⟩ := p
    simp only
    congr 1
    funext y
    obtain ⟨e', j⟩ := y
    simp only [sig_names, Eff.sig]
theorem pEval_seq {Q : List Sig → Frm → Hp → Prop} : ∀ (l : List Oper) (tr : List Eff) (f : Frm) (H : Hp), pEval P ops Q l (tr.map Eff.sig) f H → pSeq P ops (fun tr f H => Q (tr.map Eff.sig) f H) l tr f H
  | [], tr, f, H, h => h
  | o :: l, tr, f, H, h => by
    unfold pEval at h
    split at h
    · rename_i hw
      obtain ⟨e, he, h⟩ := h
      exact ⟨e, .inl ⟨hw, he⟩, pEval_seq l _ _ _ (by simpa using h)⟩
    · rename_i hw
      exact ⟨.no, .inr ⟨hw, rfl⟩, pEval_seq l (tr ++ [.no]) _ _ (by rw [List.map_append]; exact h)⟩
    · exact h.elim
theorem StM.less (h : StM N M0 w0 f H mu a w) (hc : Less f H f' H') : StM N M0 w0 f' H' mu a w := by
  have hmu : ∀ x, Mut M0 H' mu x → Mut M0 H mu x := by
    intro x hx
    rcases hx with hx | ⟨s, hx⟩
    · exact .inl hx
    · refine .inr ⟨s, ?_⟩
      rcases hc.name s with h4 | h4
      · rw [h4] at hx; exact hx
      · rw [h4] at hx; exact hx.elim
  have hst : Stay (Mut M0 H mu) w (Mut M0 H' mu) w := fun x u g1 g2 => ⟨g1, fun g3 => g2 (hmu x g3)⟩
  have conv : ∀ v x, SRep M0 H mu w v x → kept H H' x → SRep M0 H' mu w v x := by
    intro v x hx hk
    cases x with
    | d x => exact Rep.mono hst hx
    | loc s off => obtain ⟨cs, b, g1, g2⟩ := hx; exact ⟨cs, b, hk.trans g1, g2⟩
    | own r n cs => obtain ⟨g0, e, sz, k, g1, g2⟩ := hx; exact ⟨Rep.mono hst g0, e, sz, k, hk.trans g1, g2⟩
    | nil => exact hx
    | junk => trivial
  have back : ∀ s, H' s ≠ .none → H' s = H s := fun s hs => (hc.name s).resolve_right hs
  refine { h with slots := fun t ht => ?_, box := fun s cs hs => ?_, row := fun r e size k hr => ?_, inj := fun s s' b h1 h2 => ?_ }
  · rcases hc.slot t with h1 | h1 | ⟨x, h1, h2⟩
    · have := hc.kslot t
      rw [h1] at this ⊢
      exact conv _ _ (h.slots t ht) this
    · rw [h1]; exact trivial
    · rw [h2]; exact Rep.mono hst (SRep.toD (h.slots t ht) h1)
  · obtain ⟨b, arr, e, g1, g2, g3, g4, g5⟩ := h.box s cs ((back s (by rw [hs]; simp)).symm.trans hs)
    exact ⟨b, arr, e, g1, g2, g3, g4, fun j x hj => ⟨conv _ _ (g5 j x hj).1 (hc.kbox s cs hs x (List.mem_of_getElem? hj)), (g5 j x hj).2⟩⟩
  · exact h.row r e size k ((back r (by rw [hr]; simp)).symm.trans hr)
  · exact h.inj s s' b (by rw [← back s h1]; exact h1) (by rw [← back s' h2]; exact h2)
theorem StM.cv (h : StM N M0 w0 f H mu a w) (hc : Cv f H f' H') : ∃ mu', StM N M0 w0 f' H' mu' a w := by
  induction hc generalizing mu with
  | refl f H => exact ⟨mu, h⟩
  | trans h1 h2 ih1 ih2 =>
    obtain ⟨mu', h'⟩ := ih1 h
    exact ih2 h'
  | less hl => exact ⟨mu, h.less hl⟩
  | adopt t r e size h1 h2 =>
    have h' := h.new (w' := w) h2 (.row e size 0) none (by simp) (Below.refl _ _) (by simp)
    refine ⟨_, { h' with slots := fun u hu => ?_ }⟩
    simp only [upd]
    split
    · rename_i hut
      subst hut
      have hv := h'.slots u hu
      rw [h1] at hv
      refine ⟨?_, e, size, 0, by simp [hup], Nat.le_refl _, fun _ => ⟨by simp, .inl ⟨hv, rfl, by simp⟩⟩⟩
      rw [show a.tmps.getD u undef = .slice none 0 0 from hv]
      exact .sl none 0 0 [] [] (Nat.le_refl _) (fun _ => ⟨rfl, rfl, rfl⟩) (fun a e => by cases e) .nil
    · exact h'.slots u hu
  | adoptB s cs i r e size h1 h3 h2 =>
    have hsr : s ≠ r := by intro e; subst e; rw [h1] at h2; cases h2
    have h' := h.new (w' := w) h2 (.row e size 0) none (by simp) (Below.refl _ _) (by simp)
    obtain ⟨b, arr, et, g1, g2, g3, g4, g5⟩ := h'.box s cs (by simp [hup, hsr, h1])
    have h2' := h'.setBox (s := s) (cs := cs) (cs' := cs.set i (.own r 0 [])) (by simp [hup, hsr, h1]) g1 g3 arr (by simp [g4]) (by
      intro j x hj
      rw [List.getElem?_set] at hj
      split at hj
      · rename_i hij
        subst hij
        split at hj
        · cases hj
          have hv := (g5 i _ h3)
          refine ⟨⟨?_, e, size, 0, by simp [hup], Nat.le_refl _, fun _ => ⟨by simp, .inl ⟨hv.1, rfl, by simp⟩⟩⟩, hv.2⟩
          rw [show arr.getD i undef = .slice none 0 0 from hv.1]
          exact .sl none 0 0 [] [] (Nat.le_refl _) (fun _ => ⟨rfl, rfl, rfl⟩) (fun a e => by cases e) .nil
        · cases hj
      · exact g5 j x hj)
    have hw : w.setRow b arr = w := by
      have hlt := (Array.getElem?_eq_some_iff.1 g3).1
      unfold World.setRow
      congr 1
      apply Array.ext
      · simp
      · intro k hk1 hk2
        rw [Array.getElem_modify]
        split
        · rename_i e
          subst e
          rw [(Array.getElem?_eq_some_iff.1 g3).2]
        · rfl
    rw [hw] at h2'
    exact ⟨_, h2'⟩

/-- Code under the pure logic is code under the walk's. -/
theorem pwp_sound (hmix : P.follows .mixedOrders = true) : ∀ (c : Code) (Q' : Exit → Frm → Hp → Prop) (Q : Exit → Act → World → Prop), codeOk N c = true →
    (∀ e f H a w mu, e ≠ .outgrown → StM N M0 w0 f H mu a w → Q' e f H → Q e a w) → ∀ f H mu a w, StM N M0 w0 f H mu a w → pwp P c Q' f H → c.wp P Q a w := by
  intro c
  induction c with
  | skip => intro Q' Q _ hQ f H mu a w h hp; exact wp_skip (hQ _ f H a w mu (by simp) h hp)
  | label l => intro Q' Q _ hQ f H mu a w h hp; exact wp_label (hQ _ f H a w mu (by simp) h hp)
  | ret => intro Q' Q _ hQ f H mu a w h hp; exact wp_ret (hQ _ f H a w mu (by simp) h hp)
  | exit id => intro Q' Q _ hQ f H mu a w h hp; exact wp_exit (hQ _ f H a w mu (by simp) h hp)
  | region id ops draw =>
    intro Q' Q hk hQ f H mu a w h hp
    simp only [codeOk, Bool.and_eq_true, Bool.or_eq_true, Bool.not_eq_true'] at hk
    have hs := pEval_seq ops.toList [] f H hp
    cases draw with
    | false =>
      refine wp_region_list ?_
      exact pSeq_sound (Q' := _) hk.1 (fun tr f H a w mu h' hq => hQ _ f H a w mu (by simp) h' hq.2) ops.toList [] f H mu a w (fun o ho => by
        obtain ⟨i, hi⟩ := List.mem_iff_getElem?.1 ho
        exact ⟨i, by simpa using hi⟩) h hs
    | true =>
      obtain ⟨es, g1, g2, g3, g4⟩ := pSeq_trace _ _ _ _ hs
      refine wp_region_any hmix ?_
      have ho : ordOk ops (Region.before ops) = true := by simpa using hk.2
      have hnm : nameOk (Region.before ops) es = true := by rw [← nm_spec]; simpa using g3
      have hlen : ops.toList.length = ops.size := by simp
      have hd : StM N M0 w0 f H mu a { w with drawn := w.drawn + 1 } := h.drew
      have e1 : fS ops.toList es f (DL (Array.replicate ops.size false)) ops.size = f := by
        have : ∀ m, fS ops.toList es f (DL (Array.replicate ops.size false)) m = f := by
          intro m
          induction m with
          | zero => rfl
          | succ m ih =>
            have : DL (Array.replicate ops.size false) m = false := by
              simp only [DL, Array.getD_eq_getD_getElem?, Array.getElem?_replicate]; split <;> rfl
            simp [fS, this, ih]
        exact this _
      have e2 : hS es H (DL (Array.replicate ops.size false)) ops.size = H := by
        have : ∀ m, hS es H (DL (Array.replicate ops.size false)) m = H := by
          intro m
          induction m with
          | zero => rfl
          | succ m ih =>
            have : DL (Array.replicate ops.size false) m = false := by
              simp only [DL, Array.getD_eq_getD_getElem?, Array.getElem?_replicate]; split <;> rfl
            simp [hS, this, ih]
        exact this _
      refine any_sound (N := N) (M0 := M0) (w0 := w0) (es := es) (f0 := f) (H0 := H) hk.1 ho (by rw [g1]; simp) hnm (fun k o hko => g2 k o (by simpa using hko)) (fun a w mu h' => ?_) ops.size (List.range ops.size) _ a _ mu (by simp) ?_ List.nodup_range ?_ (by simp) (by rw [e1, e2]; exact hd)
      · rw [hlen] at g4
        exact hQ _ _ _ a w mu (by simp) h' g4
      · intro i j _ hj
        simp only [Array.getD_eq_getD_getElem?, Array.getElem?_replicate] at hj
        split at hj <;> cases hj
      · intro i hi
        simp [hi]
  | seq x y ihx ihy =>
    intro Q' Q hk hQ f H mu a w h hp
    simp only [codeOk, Bool.and_eq_true] at hk
    refine wp_seq (ihx (pThen (fun f H => pwp P y Q' f H) Q') _ hk.1 ?_ f H mu a w h hp)
    intro e f H a w mu hne h' hq
    cases e with
    | normal => exact ihy Q' Q hk.2 hQ f H mu a w h' hq
    | outgrown => exact absurd rfl hne
    | _ => exact hQ _ f H a w mu (by simp) h' hq
  | cond c x y ihx ihy =>
    intro Q' Q hk hQ f H mu a w h hp
    simp only [codeOk, Bool.and_eq_true] at hk
    obtain ⟨b, hb, hp⟩ := hp
    have hv := ev_sound h hk.1.1
    rw [hb] at hv
    refine wp_cond (t := b) (rep_bool (show Rep (Mut M0 H mu) w _ (.bool b) from hv)) ?_
    cases b with
    | true => exact ihx Q' Q hk.1.2 hQ f H mu a w h hp
    | false => exact ihy Q' Q hk.2 hQ f H mu a w h hp
  | block id x ih =>
    intro Q' Q hk hQ f H mu a w h hp
    refine wp_block (ih (pBlock id Q') _ hk ?_ f H mu a w h hp)
    intro e f H a w mu hne h' hq
    cases e with
    | exit id' =>
      simp only [pBlock] at hq
      simp only [Exit.inBlock]
      split at hq
      · rename_i e; rw [if_pos e]; exact hQ _ f H a w mu (by simp) h' hq
      · rename_i e; rw [if_neg e]; exact hQ _ f H a w mu (by simp) h' hq
    | outgrown => exact absurd rfl hne
    | _ => exact hQ _ f H a w mu (by simp) h' hq
  | loop x ih =>
    intro Q' Q hk hQ f H mu a w h hp
    obtain ⟨I, ⟨n, f', H', hc, hI⟩, hround⟩ := hp
    obtain ⟨mu', h'⟩ := h.cv hc
    refine wp_loop_ghost (fun n a w => ∃ f H mu, StM N M0 w0 f H mu a w ∧ I n f H) n ⟨f', H', mu', h', hI⟩ ?_
    rintro n a w ⟨f, H, mu, h, hI⟩
    refine ih (pThen (fun f H => ∃ m f' H', m < n ∧ Cv f H f' H' ∧ I m f' H') Q') _ hk ?_ f H mu a w h (hround n f H hI)
    intro e f H a w mu hne h' hq
    cases e with
    | normal =>
      obtain ⟨m, f', H', hm, hc, hI⟩ := hq
      obtain ⟨mu', h''⟩ := h'.cv hc
      exact ⟨m, hm, f', H', mu', h'', hI⟩
    | outgrown => exact absurd rfl hne
    | _ => exact hQ _ f H a w mu (by simp) h' hq
  | _ => intro Q' Q _ hQ f H mu a w h hp; exact hp.elim
end

def pRes1 (P : Program) (f : Frm) (H : Hp) : ResultVar → Option D
  | .tmp t => (f t).toD
  | .cell t ty => match f t, tyI P ty with
    | .loc s off, some (ag, n) => match H s with
      | .box cs => match rdS ag n (cs.drop off) with
        | some v => v.toD
        | none => none
      | _ => none
    | .d (.ep cs), some (ag, n) => rdD ag n cs
    | _, _ => none
def pRess (P : Program) (f : Frm) (H : Hp) : List ResultVar → Option (List D)
  | [] => some []
  | r :: rs => match pRes1 P f H r, pRess P f H rs with
    | some d, some ds => some (d :: ds)
    | _, _ => none
def packD : List D → D
  | [d] => d
  | ds => .tup ds
/-- What a body must come to. -/
def bodyQ (P : Program) (rs : List ResultVar) (res : D) : Exit → Frm → Hp → Prop
  | .normal, f, H | .ret, f, H => ∃ ds, pRess P f H rs = some ds ∧ packD ds = res
  | _, _, _ => False
def resOk (N : Nat) (rs : List ResultVar) : Bool := rs.all fun | .tmp t => decide (t < N) | .cell t _ => decide (t < N)
def ini (args : List D) : Frm := fun t => match args[t]? with
  | some d => .d d
  | none => .d (.tup [])
section
variable {P : Program} {N : Nat} {M0 : Addr → Prop} {w0 w : World} {f f' : Frm} {H H' : Hp} {mu : Nat → Option Nat} {a : Act}

def res1 (tmps : Array Value) : ResultVar → Sem Value
  | .tmp t => pure (tmps.getD t undef)
  | .cell a t => do loadVar t (← asAddr (tmps.getD a undef))
theorem results_res1 (fn : Func) (tmps : Array Value) : results fn tmps = (fn.results.mapM (res1 tmps) >>= fun vs => pure (if h : vs.size = 1 then vs[0] else .tuple vs)) := by
  unfold results
  congr 2
theorem pRes1_sound (h : StM N M0 w0 f H mu a w) {r : ResultVar} (hr : resOk N [r] = true) {d : D} (hd : pRes1 P f H r = some d) : ∃ v, (res1 a.tmps r).run P w = .ok v w ∧ Rep (Mut M0 H mu) w v d := by
  cases r with
  | tmp t =>
    simp [resOk] at hr
    exact ⟨_, rfl, SRep.toD (h.slots t hr) hd⟩
  | cell t ty =>
    simp [resOk] at hr
    have hv := h.slots t hr
    simp only [pRes1] at hd
    split at hd
    · rename_i s off ag n hs ht
      rw [hs] at hv
      obtain ⟨cs0, b, g1, g2, g3⟩ := hv
      split at hd
      · rename_i cs hcs
        split at hd
        · rename_i v hrd
          obtain ⟨b', arr, et, k1, k2, k3, k4, k5⟩ := h.boxCells hcs
          rw [g2] at k1
          cases k1
          obtain ⟨u, hu1, hu2⟩ := rdS_sound (x := ⟨b, off, none⟩) (us := arr.toList.drop off) ht (by simp [k3]) (k5 off).1 (k5 off).2 hrd
          refine ⟨u, ?_, SRep.toD hu2 hd⟩
          simp only [Instr.loadAt, Instr.sureAddr, Sem.run_bind, Sem.run_pure, Result.andThen_ok] at hu1
          simp only [res1, g3, asAddr, Sem.run_bind, Sem.run_pure, Result.andThen_ok, hu1]
        · cases hd
      · cases hd
    · rename_i cs ag n hs ht
      rw [hs] at hv
      obtain ⟨ad, us, g1, g2, g3⟩ := rep_ep (show Rep (Mut M0 H mu) w _ (.ep cs) from hv)
      obtain ⟨u, hu1, hu2⟩ := rdD_sound ht g2 g3 hd
      refine ⟨u, ?_, hu2⟩
      simp only [Instr.loadAt, Instr.sureAddr, Sem.run_bind, Sem.run_pure, Result.andThen_ok] at hu1
      simp only [res1, g1, asAddr, Sem.run_bind, Sem.run_pure, Result.andThen_ok, hu1]
    · cases hd
theorem run_mapM_list {g : ResultVar → Sem Value} : ∀ (rs : List ResultVar) (acc : Array Value) (vs : List Value), rs.length = vs.length → (∀ (j : Nat) r v, rs[j]? = some r → vs[j]? = some v → (g r).run P w = .ok v w) →
    (List.mapM.loop g rs acc.toList.reverse).run P w = .ok (acc.toList ++ vs) w
  | [], acc, [], _, _ => by simp [List.mapM.loop]
  | r :: rs, acc, v :: vs, hl, h => by
    have ih := run_mapM_list rs (acc.push v) vs (by simpa using hl) fun j r v h1 h2 => h (j + 1) r v (by simpa using h1) (by simpa using h2)
    simp only [List.mapM.loop, Sem.run_bind, h 0 r v rfl rfl, Result.andThen_ok]
    simpa using ih
  | [], _, _ :: _, hl, _ => by simp at hl
  | _ :: _, _, [], hl, _ => by simp at hl
theorem pRess_sound (h : StM N M0 w0 f H mu a w) : ∀ {rs : List ResultVar} {ds : List D}, resOk N rs = true → pRess P f H rs = some ds → ∃ vs : List Value, rs.length = vs.length ∧ (∀ (j : Nat) r v, rs[j]? = some r → vs[j]? = some v → (res1 a.tmps r).run P w = .ok v w) ∧ RepL (Mut M0 H mu) w vs ds
  | [], ds, _, hd => by
    simp [pRess] at hd
    subst hd
    exact ⟨[], rfl, fun j r v h => by simp at h, .nil⟩
  | r :: rs, ds, hr, hd => by
    unfold pRess at hd
    split at hd
    · rename_i d ds' h1 h2
      cases hd
      simp only [resOk, List.all_cons, Bool.and_eq_true] at hr
      obtain ⟨v, hv1, hv2⟩ := pRes1_sound h (by simp only [resOk, List.all_cons, List.all_nil, Bool.and_true]; exact hr.1) h1
      obtain ⟨vs, k1, k2, k3⟩ := pRess_sound h hr.2 h2
      refine ⟨v :: vs, by simp [k1], fun j r' v' h3 h4 => ?_, .cons _ _ _ _ hv2 k3⟩
      cases j with
      | zero => simp at h3 h4; subst h3 h4; exact hv1
      | succ j => exact k2 j r' v' (by simpa using h3) (by simpa using h4)
    · cases hd
theorem pc_of_pwp {k : FuncId} {fn : Func} {c : Code} {args : List D} {res : D} (rs : List ResultVar) (hf : P.funcs[k]? = some fn) (hb : fn.body = some c) (hr : fn.results = rs.toArray)
    (hk : ((fn.name != "runtime.NumGoroutine") && codeOk fn.ntmps c && resOk fn.ntmps rs && decide (args.length ≤ fn.ntmps) && P.follows .mixedOrders) = true)
    (hp : pwp P c (bodyQ P rs res) (ini args) (fun _ => .none)) : PC P k args res := by
  simp only [Bool.and_eq_true, decide_eq_true_eq, bne, Bool.not_eq_true'] at hk
  obtain ⟨⟨⟨⟨hn, hc⟩, hro⟩, hl⟩, hmix⟩ := hk
  refine ⟨⟨fn, hf, hn, by rw [hb]; rfl⟩, fun M w vs hvs hM => ?_⟩
  have hlen := hvs.length
  refine calls_of_wp hf hb (pwp_sound (N := fn.ntmps) (M0 := M) (w0 := w) hmix c (bodyQ P rs res) _ hc ?_ (ini args) (fun _ => .none) (fun _ => none) _ w ?_ hp)
  · intro e f H a w' mu hne h hq
    have fin : (∃ ds, pRess P f H rs = some ds ∧ packD ds = res) → a.defers = [] ∧ ∃ v, (results fn a.tmps).run P w' = .ok v w' ∧ ∃ v', Ending.returned v = .returned v' ∧ Rep M w' v' res ∧ Below w.heap.size w w' := by
      rintro ⟨ds, h1, h2⟩
      obtain ⟨us, k1, k2, k3⟩ := pRess_sound h hro h1
      have hm := run_mapM_list (P := P) (w := w') (g := res1 a.tmps) rs #[] us k1 k2
      have hrun : (fn.results.mapM (res1 a.tmps)).run P w' = .ok us.toArray w' := by
        rw [hr]
        rw [List.mapM_toArray]
        have : (List.mapM (res1 a.tmps) rs).run P w' = .ok us w' := by simpa [List.mapM] using hm
        simp [this]
      have hst : Stay (Mut M H mu) w' M w' := fun x u g1 g2 => ⟨g1, fun g3 => g2 (.inl g3)⟩
      have hk3 := RepL.mono hst k3
      refine ⟨h.defers, (if h : us.toArray.size = 1 then us.toArray[0] else .tuple us.toArray), ?_, _, rfl, ?_, h.below⟩
      · rw [results_res1, Sem.run_bind, hrun]
        rfl
      · rw [← h2]
        match us, ds, hk3 with
        | [u], [d], .cons _ _ _ _ hu .nil => simpa [packD] using hu
        | [], [], h0 => exact Rep.tup _ _ (by simpa using h0)
        | u :: u' :: us, d :: d' :: ds, h0 => exact Rep.tup _ _ (by simpa using h0)
    cases e with
    | normal => exact fin hq
    | ret => exact fin hq
    | _ => exact hq.elim
  · refine { defers := rfl, size := by simp; omega, slots := fun t ht => ?_, below := Below.refl _ _, old := hM, box := fun s cs h => (by cases h), row := fun r e sz k h => (by cases h), inj := fun s s' b h => absurd rfl h }
    have hst : Stay M w (Mut M (fun _ => HO.none) (fun _ => none)) w := fun x u g1 g2 => ⟨g1, fun g3 => g2 (g3.elim id fun ⟨s, hs⟩ => hs.elim)⟩
    unfold ini
    cases hd : args[t]? with
    | none =>
      have hge : args.length ≤ t := by
        rcases Nat.lt_or_ge t args.length with h | h
        · rw [List.getElem?_eq_getElem h] at hd; cases hd
        · exact h
      have : (vs.toArray ++ Array.replicate (fn.ntmps - vs.toArray.size) undef).getD t undef = undef := by
        rw [Array.getD_eq_getD_getElem?, Array.getElem?_append_right (by simp; omega), Array.getElem?_replicate]
        split <;> rfl
      rw [this]
      exact Rep.tup #[] [] .nil
    | some d =>
      obtain ⟨v, hv, hrv⟩ := hvs.get hd
      have hlt : t < vs.length := (List.getElem?_eq_some_iff.1 hv).1
      have : (vs.toArray ++ Array.replicate (fn.ntmps - vs.toArray.size) undef).getD t undef = v := by
        rw [Array.getD_eq_getD_getElem?, Array.getElem?_append_left (by simpa using hlt)]
        simp [hv]
      rw [this]
      exact Rep.mono hst hrv
end
section
variable {P : Program} {ops : Array Oper} {Q : List Sig → Frm → Hp → Prop} {o : Oper} {rest : List Oper} {tr : List Sig} {f : Frm} {H : Hp}

theorem ev_nil (h : Q tr f H) : pEval P ops Q [] tr f H := h
/-- An operation that only yields. -/
theorem ev_val {t : Tmp} {x : SV} {rd : Option Nat} (hg : o.guard = none) (hd : o.dst = some t) (he : pstep P o f H = some ⟨x, rd, none⟩)
    (h : pEval P ops Q rest (tr ++ [(rd, none)]) (upd f t x) H) : pEval P ops Q (o :: rest) tr f H := by
  unfold pEval
  simp only [pW, hg]
  refine ⟨_, .step _ he, ?_⟩
  simp only [hd, updo, app, Eff.sig]
  exact h
/-- An operation that lays or writes a name. -/
theorem ev_wr {t : Tmp} {x : SV} {rd : Option Nat} {s : Nat} {q : HO} (hg : o.guard = none) (hd : o.dst = some t) (he : pstep P o f H = some ⟨x, rd, some (s, q)⟩)
    (h : pEval P ops Q rest (tr ++ [(rd, some s)]) (upd f t x) (hup H s q)) : pEval P ops Q (o :: rest) tr f H := by
  unfold pEval
  simp only [pW, hg]
  refine ⟨_, .step _ he, ?_⟩
  simp only [hd, updo, app, Eff.sig]
  exact h
theorem ev_st {x : SV} {rd : Option Nat} {s : Nat} {q : HO} (hg : o.guard = none) (hd : o.dst = none) (he : pstep P o f H = some ⟨x, rd, some (s, q)⟩)
    (h : pEval P ops Q rest (tr ++ [(rd, some s)]) f (hup H s q)) : pEval P ops Q (o :: rest) tr f H := by
  unfold pEval
  simp only [pW, hg]
  refine ⟨_, .step _ he, ?_⟩
  simp only [hd, updo, app, Eff.sig]
  exact h
/-- A guard: parted, the guard's slot made plain. -/
theorem pW_some {g : Nat} {want : Bool} {t : Tmp} {b : Bool} (hg : o.guard = some (g, want)) (ht : (ops[g]?).bind (·.dst) = some t) (hb : f t = .d (.bool b)) : pW ops f o = some (b == want) := by
  simp only [pW, hg, ht, hb]
theorem upd_same {t : Tmp} {x : SV} (h : f t = x) : upd f t x = f := by
  funext u
  simp only [upd]
  split
  · rename_i e; rw [e, h]
  · rfl
def ungd (o : Oper) : Oper := { o with guard := none }
theorem pstep_ungd : pstep P (ungd o) f H = pstep P o f H := rfl
theorem POp_ungd {e : Eff} (h : POp P (ungd o) f H e) : POp P o f H e := by
  cases h with
  | step e he => exact .step e he
  | call x as tys k first cap ds res ho hx ha hc => exact .call x as tys k first cap ds res ho hx ha hc
  | ice t x ys ds ho hc hds => exact .ice t x ys ds ho hc hds
  | eql op t t' x y xs ys b ho hx hy hb hop => exact .eql op t t' x y xs ys b ho hx hy hb hop
  | grow s x t r n m cs news zs e sz bts ho hes hH hex hel hz hzl hsz hlen hb hmax => exact .grow s x t r n m cs news zs e sz bts ho hes hH hex hel hz hzl hsz hlen hb hmax
  | grow0 s x t r m news zs e sz bts ho hes hH hex hel hz hzl hsz hlen hb hmax => exact .grow0 s x t r m news zs e sz bts ho hes hH hex hel hz hzl hsz hlen hb hmax
theorem ev_guard {g : Nat} {want : Bool} {t : Tmp} {b : Bool} (hg : o.guard = some (g, want)) (ht : (ops[g]?).bind (·.dst) = some t) (hb : f t = .d (.bool b))
    (hT : b = want → pEval P ops Q (ungd o :: rest) tr (upd f t (.d (.bool want))) H)
    (hF : b = !want → pEval P ops Q rest (tr ++ [(none, none)]) (updo (upd f t (.d (.bool !want))) o.dst (.d (.tup []))) H) : pEval P ops Q (o :: rest) tr f H := by
  unfold pEval
  rw [pW_some hg ht hb]
  by_cases hbw : b = want
  · have h := hT hbw
    subst hbw
    rw [upd_same hb] at h
    unfold pEval at h
    have hw : pW ops f (ungd o) = some true := rfl
    rw [hw] at h
    simp only [beq_self_eq_true]
    obtain ⟨e, he, h⟩ := h
    exact ⟨e, POp_ungd he, h⟩
  · have hbn : b = !want := by cases b <;> cases want <;> simp_all
    have h := hF hbn
    rw [upd_same (hbn ▸ hb)] at h
    have : (b == want) = false := by simp [hbw]
    rw [this]
    exact h
/-- A guard that is known. -/
theorem ev_yes {g : Nat} {want : Bool} {t : Tmp} (hg : o.guard = some (g, want)) (ht : (ops[g]?).bind (·.dst) = some t) (hb : f t = .d (.bool want))
    (h : pEval P ops Q (ungd o :: rest) tr f H) : pEval P ops Q (o :: rest) tr f H :=
  ev_guard hg ht hb (fun _ => by rw [upd_same hb]; exact h) (fun e => by cases want <;> cases e)
theorem ev_no {g : Nat} {want : Bool} {t : Tmp} (hg : o.guard = some (g, want)) (ht : (ops[g]?).bind (·.dst) = some t) (hb : f t = .d (.bool !want) ∨ ∃ ds, f t = .d (.tup ds))
    (h : pEval P ops Q rest (tr ++ [(none, none)]) (updo f o.dst (.d (.tup []))) H) : pEval P ops Q (o :: rest) tr f H := by
  unfold pEval
  have : pW ops f o = some false := by
    rcases hb with hb | ⟨ds, hb⟩
    · rw [pW_some hg ht hb]; cases want <;> rfl
    · simp only [pW, hg, ht, hb]
  rw [this]
  exact h
def tupQ : SV → Bool
  | .d (.tup _) => true
  | _ => false
/-- A guard whose operation was passed over. -/
theorem ev_nt {g : Nat} {want : Bool} {t : Tmp} (hg : o.guard = some (g, want)) (ht : (ops[g]?).bind (·.dst) = some t) (hb : tupQ (f t) = true)
    (h : pEval P ops Q rest (tr ++ [(none, none)]) (updo f o.dst (.d (.tup []))) H) : pEval P ops Q (o :: rest) tr f H :=
  ev_no hg ht (.inr (by unfold tupQ at hb; split at hb <;> first | (rename_i ds he; exact ⟨ds, he⟩) | cases hb)) h
/-- A call. -/
theorem ev_call {t : Tmp} {x : Operand} {as : Array Operand} {tys : Array TypeId} {k : FuncId} {first cap ds : List D} {res : D} (hg : o.guard = none) (hd : o.dst = some t) (ho : o.op = .call { callee := .value x, args := as, argTypes := tys })
    (hx : ev f x = .d (.fn (.func k) first cap)) (ha : toDs (as.toList.map (ev f)) = some ds) (hc : PC P k (first ++ ds ++ cap) res)
    (h : pEval P ops Q rest (tr ++ [(none, none)]) (upd f t (.d res)) H) : pEval P ops Q (o :: rest) tr f H := by
  unfold pEval
  simp only [pW, hg]
  refine ⟨.val (.d res), .call x as tys k first cap ds res ho hx ha hc, ?_⟩
  simp only [Eff.val, Eff.sig, hd, updo, app]
  exact h
/-- append on an owned slice; on a nil one (the new row bears the slot's name). -/
theorem ev_app {tm : Tmp} {s x : Operand} {t : TypeId} {r n m : Nat} {cs news zs : List D} {e sz bts : Nat} (hg : o.guard = none) (hd : o.dst = some tm) (ho : o.op = .call { callee := .builtin .append, args := #[s, x], argTypes := #[t, t] })
    (hes : ev f s = .own r n cs) (hH : H r = .row e sz n) (hex : (ev f x).toD = some (.sl m news)) (hel : elT P t = some (e, sz, bts)) (hz : zeroT P e = some zs) (hzl : zs.length = sz) (hsz : 0 < sz) (hlen : news.length = m * sz)
    (hb : (n + m) * bts ≤ 140737488355328) (hmax : n + m ≤ 4611686018427387904)
    (h : pEval P ops Q rest (tr ++ [(some r, some r)]) (upd f tm (.own r (n + m) (cs ++ news))) (hup H r (.row e sz (n + m)))) : pEval P ops Q (o :: rest) tr f H := by
  unfold pEval
  simp only [pW, hg]
  refine ⟨_, .grow s x t r n m cs news zs e sz bts ho hes hH hex hel hz hzl hsz hlen hb hmax, ?_⟩
  simp only [Eff.sig, hd, updo, app]
  exact h
theorem ev_app0 {tm : Tmp} {s x : Operand} {t : TypeId} {m : Nat} {news zs : List D} {e sz bts : Nat} (hg : o.guard = none) (hd : o.dst = some tm) (ho : o.op = .call { callee := .builtin .append, args := #[s, x], argTypes := #[t, t] })
    (hes : ev f s = .nil) (hH : H tm = .none) (hex : (ev f x).toD = some (.sl m news)) (hel : elT P t = some (e, sz, bts)) (hz : zeroT P e = some zs) (hzl : zs.length = sz) (hsz : 0 < sz) (hlen : news.length = m * sz)
    (hb : m * bts ≤ 140737488355328) (hmax : m ≤ 4611686018427387904)
    (h : pEval P ops Q rest (tr ++ [(some tm, some tm)]) (upd f tm (.own tm m news)) (hup H tm (.row e sz m))) : pEval P ops Q (o :: rest) tr f H := by
  unfold pEval
  simp only [pW, hg]
  refine ⟨_, .grow0 s x t tm m news zs e sz bts ho hes hH hex hel hz hzl hsz hlen hb hmax, ?_⟩
  simp only [Eff.sig, hd, updo, app]
  exact h
/-- A variable that nobody writes any more. -/
theorem ev_ice {tm : Tmp} {t : TypeId} {x : Operand} {ys : List SV} {ds : List D} (hg : o.guard = none) (hd : o.dst = some tm) (ho : o.op = .box t x) (hc : (ev f x).cells = some ys) (ht : toDs ys = some ds)
    (h : pEval P ops Q rest (tr ++ [(none, none)]) (upd f tm (.d (.ep ds))) H) : pEval P ops Q (o :: rest) tr f H := by
  unfold pEval
  simp only [pW, hg]
  refine ⟨_, .ice t x ys ds ho hc ht, ?_⟩
  simp only [Eff.val, Eff.sig, hd, updo, app]
  exact h
theorem ev_eql {tm : Tmp} {op : BinOp} {t t' : TypeId} {x y : Operand} {xs ys : List D} {b : Bool} (hg : o.guard = none) (hd : o.dst = some tm) (ho : o.op = .binOp op t x y t') (hx : ev f x = .d (.agg xs)) (hy : ev f y = .d (.agg ys))
    (hb : AggEq P t xs ys b) (hop : op = .eql ∨ op = .neq) (h : pEval P ops Q rest (tr ++ [(none, none)]) (upd f tm (.d (.bool (if op = .eql then b else !b)))) H) : pEval P ops Q (o :: rest) tr f H := by
  unfold pEval
  simp only [pW, hg]
  refine ⟨_, .eql op t t' x y xs ys b ho hx hy hb hop, ?_⟩
  simp only [Eff.val, Eff.sig, hd, updo, app]
  exact h
end
section
variable {P : Program} {Q : Exit → Frm → Hp → Prop} {f : Frm} {H : Hp} {c x y : Code}
theorem wp_reg {id : Nat} {ops : Array Oper} (h : pEval P ops (fun _ f H => Q .normal f H) ops.toList [] f H) : pwp P (.region id ops false) Q f H := by
  have e : (fun (_ : List Sig) (f : Frm) (H : Hp) => True ∧ Q .normal f H) = fun _ f H => Q .normal f H := by funext _ f H; simp
  show pEval P ops (fun _ f H => True ∧ Q .normal f H) _ _ _ _
  rw [e]
  exact h
theorem wp_regd {id : Nat} {ops : Array Oper} (h : pEval P ops (fun tr f H => nm (Region.before ops) tr = true ∧ Q .normal f H) ops.toList [] f H) : pwp P (.region id ops true) Q f H := h
theorem wp_sq (h : pwp P x (pThen (fun f H => pwp P y Q f H) Q) f H) : pwp P (.seq x y) Q f H := h
theorem wp_if {t : Operand} {b : Bool} (hb : ev f t = .d (.bool b)) (hT : b = true → pwp P x Q f H) (hF : b = false → pwp P y Q f H) : pwp P (.cond t x y) Q f H := by
  refine ⟨b, hb, ?_⟩
  cases b with
  | true => exact hT rfl
  | false => exact hF rfl
theorem wp_ift {t : Operand} (hb : ev f t = .d (.bool true)) (h : pwp P x Q f H) : pwp P (.cond t x y) Q f H := wp_if hb (fun _ => h) (fun e => by cases e)
theorem wp_iff {t : Operand} (hb : ev f t = .d (.bool false)) (h : pwp P y Q f H) : pwp P (.cond t x y) Q f H := wp_if hb (fun e => by cases e) (fun _ => h)
theorem wp_blk {id : Nat} (h : pwp P x (pBlock id Q) f H) : pwp P (.block id x) Q f H := h
/-- A loop: an invariant that bears a number. -/
theorem wp_lp (I : Nat → Frm → Hp → Prop) (n : Nat) (f' : Frm) (H' : Hp) (hc : Cv f H f' H') (h0 : I n f' H')
    (hr : ∀ n f H, I n f H → pwp P x (pThen (fun f H => ∃ m f' H', m < n ∧ Cv f H f' H' ∧ I m f' H') Q) f H) : pwp P (.loop x) Q f H :=
  ⟨I, ⟨n, f', H', hc, h0⟩, hr⟩
/-- A frame of these slots alone. -/
def frm : List (Nat × SV) → Frm
  | [] => fun _ => .junk
  | (t, x) :: l => fun u => if u = t then x else frm l u
theorem frm_slot {l : List (Nat × SV)} (h : ∀ p ∈ l, f p.1 = p.2 ∨ p.2 = .junk ∨ ∃ x, (f p.1).toD = some x ∧ p.2 = .d x) : ∀ t, frm l t = f t ∨ frm l t = .junk ∨ ∃ x, (f t).toD = some x ∧ frm l t = .d x := by
  intro t
  induction l with
  | nil => exact .inr (.inl rfl)
  | cons p l ih =>
    obtain ⟨u, x⟩ := p
    simp only [frm]
    split
    · rename_i e
      subst e
      rcases h (t, x) (by simp) with h1 | h1 | ⟨y, h1, h2⟩
      · exact .inl h1.symm
      · exact .inr (.inl h1)
      · exact .inr (.inr ⟨y, h1, h2⟩)
    · exact ih fun p hp => h p (by simp [hp])
/-- Keep these slots alone, all of them data. -/
def SV.isD : SV → Bool
  | .d _ | .nil | .junk => true
  | _ => false
theorem Cv.keep (l : List (Nat × SV)) (h : ∀ p ∈ l, f p.1 = p.2 ∨ p.2 = .junk ∨ ∃ x, (f p.1).toD = some x ∧ p.2 = .d x) (hd : ∀ p ∈ l, p.2.isD = true) : Cv f H (frm l) (fun _ => .none) := by
  refine .less ⟨frm_slot h, fun s => .inr rfl, fun t => ?_, fun s cs hs => by cases hs⟩
  have : (frm l t).isD = true := by
    induction l with
    | nil => rfl
    | cons p l ih =>
      obtain ⟨u, x⟩ := p
      simp only [frm]
      split
      · exact hd (u, x) (by simp)
      · exact ih (fun p hp => h p (by simp [hp])) fun p hp => hd p (by simp [hp])
  generalize frm l t = z at this
  cases z <;> first | trivial | (simp [SV.isD] at this)
end
section
variable {P : Program} {K : Frm → Hp → Prop} {Q : Exit → Frm → Hp → Prop} {f : Frm} {H : Hp}
theorem th_n (h : K f H) : pThen K Q .normal f H := h
theorem th_r (h : Q .ret f H) : pThen K Q .ret f H := h
theorem th_e {id : Nat} (h : Q (.exit id) f H) : pThen K Q (.exit id) f H := h
theorem bl_n {id : Nat} (h : Q .normal f H) : pBlock id Q .normal f H := h
theorem bl_r {id : Nat} (h : Q .ret f H) : pBlock id Q .ret f H := h
theorem bl_e {id : Nat} (h : Q .normal f H) : pBlock id Q (.exit id) f H := by simp only [pBlock, if_true]; exact h
theorem bl_o {id id' : Nat} (hne : (id' == id) = false) (h : Q (.exit id') f H) : pBlock id Q (.exit id') f H := by
  have : id' ≠ id := by simpa using hne
  simp only [pBlock, this, if_false]; exact h
theorem wp_sk (h : Q .normal f H) : pwp P .skip Q f H := h
theorem wp_lb {l : Nat} (h : Q .normal f H) : pwp P (.label l) Q f H := h
theorem wp_rt (h : Q .ret f H) : pwp P .ret Q f H := h
theorem wp_ex {id : Nat} (h : Q (.exit id) f H) : pwp P (.exit id) Q f H := h
theorem nm_and {T : Array Nat} {tr : List Sig} {R : Prop} (h1 : nm T tr = true) (h : R) : nm T tr = true ∧ R := ⟨h1, h⟩
theorem bq_r {rs : List ResultVar} {res : D} {ds : List D} (h1 : pRess P f H rs = some ds) (h2 : packD ds = res) : bodyQ P rs res .ret f H := ⟨ds, h1, h2⟩
theorem bq_n {rs : List ResultVar} {res : D} {ds : List D} (h1 : pRess P f H rs = some ds) (h2 : packD ds = res) : bodyQ P rs res .normal f H := ⟨ds, h1, h2⟩
end
attribute [irreducible] pwp pEval pThen pBlock bodyQ
end Go.Proofs.Ytandclggkgmpgaa
