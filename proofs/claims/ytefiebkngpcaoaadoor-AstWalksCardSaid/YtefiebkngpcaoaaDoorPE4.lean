/- Each operation of the pure logic is sound: indexes, arithmetic, comparisons, conversions. Condition: the slots that it names are the frame's. -/
import Derived.Test.YtefiebkngpcaoaaDoorPE3
import Derived.Laws.StructEq
import Derived.Laws.Small
set_option maxRecDepth 100000
set_option linter.unusedVariables false
set_option linter.unusedSimpArgs false
set_option linter.unusedSectionVars false
namespace Go.Proofs.YtefiebkngpcaoaaDoor
open Go.RowKit
section
variable {P : Program} {N : Nat} {M0 : MM} {w0 : Ctx} {w : World} {f : Frm} {H : Hp} {mu : Nat → Option Nat} {a : Act}

theorem elT_spec {t e sz by_ : Nat} (h : elT P t = some (e, sz, by_)) : ∃ i, P.underlying t = some (.slice e) ∧ P.info? e = some i ∧ i.size = sz ∧ i.bytes = by_ := by
  unfold elT at h
  split at h
  · rename_i e' hu
    split at h
    · rename_i i hi
      cases h
      exact ⟨i, hu, hi, rfl, rfl⟩
    · cases h
  · cases h
theorem rep_sl {M : Addr → Prop} {v : Value} {n : Nat} {cs : List D} (h : Rep M w v (.sl n cs)) : ∃ p cap us, v = .slice p n cap ∧ n ≤ cap ∧ (p = none → n = 0 ∧ cap = 0 ∧ us = []) ∧ (∀ a, p = some a → Cells M w a us) ∧ RepL M w us cs := by
  cases h with
  | sl p n cap us cs hn hz h hr => exact ⟨p, cap, us, rfl, hn, hz, h, hr⟩
theorem goes_indexAddr (h : StM N M0 w0 f H mu a w) {o : Oper} (hd : ∀ d, o.dst = some d → d < N ∧ w0.fix d = false) {t : TypeId} {x i : Operand} (ho : o.op = .indexAddr t x i) (hx : opB N x = true) (hi : opB N i = true) {e : Eff} (he : pstep P o f H = some e) :
    Goes P N M0 w0 o f H e a w := by
  have hv := ev_sound h hx
  have hu := ev_sound h hi
  simp only [pstep, ho] at he
  split at he
  · rename_i s off n cap et sz by_ k j hs ht hj
    split at he
    · rename_i hb
      cases he
      rw [hj] at hu
      rw [hs] at hv
      have e2 : a.eval i = .int k j := rep_int (show Rep (Mut M0 H mu) w _ (.int k j) from hu)
      obtain ⟨cs, b, g1, g2, g3, g4⟩ := hv
      obtain ⟨inf, q1, q2, q3, -⟩ := elT_spec ht
      have hj0 : 0 ≤ j := hb.1
      have hjn : j < (n : Int) := hb.2
      refine goes_val (v := .pointer (some ((⟨b, off, none⟩ : Addr).add (j.toNat * sz)))) h hd (by simp [execOp, ho, g3, e2, Instr.indexAt, asIntOf, run_underlying q1, hj0, hjn, sizeOf, typeInfo, q2, q3]) ⟨cs, b, g1, g2, by rw [Addr.add_mid]⟩
    · cases he
  · rename_i r ver n et sz by_ k j hs ht hj
    split at he
    · rename_i hb
      cases he
      obtain ⟨hj0, hjn⟩ := hb
      rw [hj] at hu
      rw [hs] at hv
      have e2 : a.eval i = .int k j := rep_int (show Rep (Mut M0 H mu) w _ (.int k j) from hu)
      obtain ⟨⟨p, cap, hx0, hp⟩, e0, sz0, ver1, cs0, g1, g2, g3⟩ := hv
      obtain ⟨inf, q1, q2, q3, -⟩ := elT_spec ht
      cases p with
      | none => have := hp rfl; omega
      | some ad =>
        refine goes_val (v := .pointer (some (ad.add (j.toNat * sz)))) h hd (by simp [execOp, ho, hx0, e2, Instr.indexAt, asIntOf, run_underlying q1, hj0, hjn, sizeOf, typeInfo, q2, q3]) ⟨⟨_, rfl⟩, e0, sz0, ver1, cs0, g1, g2, fun hvv => ?_⟩
        obtain ⟨g4, g5⟩ := g3 hvv
        rcases g5 with ⟨a1, a2, a3⟩ | ⟨g, cap', cur, e', a1, a2, a3, a4, a5, a6⟩
        · omega
        · rw [hx0] at a1
          cases a1
          exact ⟨g, a2, by rw [Addr.add_mid, Nat.zero_add]⟩
    · cases he
  · rename_i et sz by_ k j ht hj hnb hnb2
    split at he
    · rename_i n cs hs
      split at he
      · rename_i hb
        cases he
        rw [hj] at hu
        have e2 : a.eval i = .int k j := rep_int (show Rep (Mut M0 H mu) w _ (.int k j) from hu)
        obtain ⟨p, cap, us, g1, g2, g3, g4, g5⟩ := rep_sl (hv.toD hs)
        obtain ⟨inf, q1, q2, q3, -⟩ := elT_spec ht
        cases p with
        | none => have := (g3 rfl).1; omega
        | some ad =>
          have hc := g4 ad rfl
          refine goes_val (v := .pointer (some (ad.add (j.toNat * sz)))) h hd ?_ (Rep.ep _ _ _ (hc.drop _) (g5.drop _))
          have hj0 : 0 ≤ j := hb.1
          have hjn : j < (n : Int) := hb.2
          simp [execOp, ho, g1, e2, Instr.indexAt, asIntOf, run_underlying q1, hj0, hjn, sizeOf, typeInfo, q2, q3]
      · cases he
    · cases he
  · cases he
theorem run_pInt {op : BinOp} {k : IntKind} {x y : Int} {r : D} (h : pInt op k x y = some r) : ∃ v, (∀ t w, (binOp op t (.int k x) (.int k y)).run P w = .ok v w) ∧ ∀ M w, Rep M w v r := by
  cases op <;> simp only [pInt] at h <;> first
    | (cases h; done)
    | (cases h; exact ⟨_, fun t w => by simp [binOp, Op.intArith, Op.intBits, Op.intCmp]; rfl, fun M w => by constructor⟩)
    | (split at h
       · cases h
       · rename_i hy
         cases h
         exact ⟨_, fun t w => by simp [binOp, Op.intDiv, hy]; rfl, fun M w => by constructor⟩)
theorem run_pStr {op : BinOp} {x y : ByteArray} {r : D} (h : pStr op x y = some r) : ∃ v, (∀ t w, (binOp op t (.string x) (.string y)).run P w = .ok v w) ∧ ∀ M w, Rep M w v r := by
  cases op <;> simp only [pStr] at h <;> first
    | (cases h; done)
    | (cases h; exact ⟨_, fun t w => by simp [binOp, Op.stringOp]; rfl, fun M w => by constructor⟩)
    | (cases h; exact ⟨_, fun t w => by simp only [binOp, Op.stringOp, Sem.run_pure]; rfl, fun M w => by constructor⟩)
    | (split at h
       · rename_i hy
         cases h
         exact ⟨_, fun t w => by simp only [binOp]; exact run_string_add_sum w x y (by simp only [fits, decide_eq_true_eq] at hy; omega), fun M w => by constructor⟩
       · cases h)
theorem boolT_spec {t : TypeId} (h : boolT P t = true) : P.underlying t = some .bool := by
  unfold boolT at h
  split at h <;> first | assumption | cases h
theorem run_equal_bool {t : TypeId} (h : boolT P t = true) (x y : Bool) (w : World) : (Op.equal t (.bool x) (.bool y)).run P w = .ok (x == y) w := by
  exact run_equalIn_bool w 9999 t x y (boolT_spec h)
theorem run_pBin {op : BinOp} {x y r : D} {t0 : TypeId} (h : pBin P t0 op x y = some r) {M : Addr → Prop} {v u : Value} (hv : Rep M w v x) (hu : Rep M w u y) :
    ∃ z, (binOp op t0 v u).run P w = .ok z w ∧ Rep M w z r ∧ (∀ cs, v ≠ .agg cs) ∧ v ≠ .nilIface := by
  unfold pBin at h
  split at h
  · rename_i k a k' b
    have e1 := rep_int hv
    have e2 := rep_int hu
    subst e1 e2
    split at h
    · split at h
      · cases h
      · rename_i hb
        cases h
        exact ⟨_, by simp [binOp, Op.shift, hb]; rfl, by constructor, by simp, by simp⟩
    · split at h
      · cases h
      · rename_i hb
        cases h
        exact ⟨_, by simp [binOp, Op.shift, hb]; rfl, by constructor, by simp, by simp⟩
    · split at h
      · rename_i hk
        subst hk
        obtain ⟨z, h1, h2⟩ := run_pInt (P := P) h
        exact ⟨z, h1 t0 w, h2 M w, by simp, by simp⟩
      · cases h
  · rename_i a b
    have e1 := rep_str hv
    have e2 := rep_str hu
    subst e1 e2
    obtain ⟨z, h1, h2⟩ := run_pStr (P := P) h
    exact ⟨z, h1 t0 w, h2 M w, by simp, by simp⟩
  · rename_i a b
    have e1 := rep_bool hv
    have e2 := rep_bool hu
    subst e1 e2
    split at h
    · rename_i hbt
      split at h <;> first
        | (cases h; done)
        | (cases h; exact ⟨_, by simp [binOp, run_equal_bool hbt]; rfl, by constructor, by simp, by simp⟩)
    · cases h
  · cases h
theorem run_eqGuard {op : BinOp} {t : TypeId} {x y : Operand} {v u : Value} (h1 : ∀ cs, v ≠ .agg cs) (h2 : v ≠ .nilIface) : (eqGuard op t x y v u).run P w = .ok () w := by
  cases v <;> first
    | (exact absurd rfl (h1 _))
    | (exact absurd rfl h2)
    | (cases op <;> simp [eqGuard])
theorem goes_binOp (h : StM N M0 w0 f H mu a w) {o : Oper} (hd : ∀ d, o.dst = some d → d < N ∧ w0.fix d = false) {op : BinOp} {t t' : TypeId} {x y : Operand} (ho : o.op = .binOp op t x y t') (hx : opB N x = true) (hy : opB N y = true) {e : Eff} (he : pstep P o f H = some e) :
    Goes P N M0 w0 o f H e a w := by
  have hv := ev_sound h hx
  have hu := ev_sound h hy
  simp only [pstep, ho] at he
  split at he
  · rename_i p q hs ht
    split at he
    · rename_i r hr
      cases he
      rw [hs] at hv
      rw [ht] at hu
      obtain ⟨z, k1, k2, k3, k4⟩ := run_pBin (P := P) (w := w) hr (show Rep (Mut M0 H mu) w _ p from hv) (show Rep (Mut M0 H mu) w _ q from hu)
      exact goes_val (v := z) h hd (by simp [execOp, ho, run_eqGuard k3 k4, k1]) k2
    · cases he
  · cases he
theorem goes_unOp (h : StM N M0 w0 f H mu a w) {o : Oper} (hd : ∀ d, o.dst = some d → d < N ∧ w0.fix d = false) {op : UnOp} {t : TypeId} {x : Operand} (ho : o.op = .unOp op t x) (hx : opB N x = true) {e : Eff} (he : pstep P o f H = some e) :
    Goes P N M0 w0 o f H e a w := by
  have hv := ev_sound h hx
  simp only [pstep, ho] at he
  split at he
  · rename_i p hs
    split at he
    · rename_i r hr
      cases he
      rw [hs] at hv
      generalize hev : a.eval x = v at hv
      unfold pUn at hr
      split at hr
      · have := rep_int (show Rep (Mut M0 H mu) w _ _ from hv)
        subst this
        cases hr
        exact goes_val h hd (by simp [execOp, ho, hev, Op.unary, Op.intArith]) (Rep.int _ _)
      · have := rep_bool (show Rep (Mut M0 H mu) w _ _ from hv)
        subst this
        cases hr
        exact goes_val h hd (by simp [execOp, ho, hev, Op.unary]) (Rep.bool _)
      · cases hr
    · cases he
  · cases he
end
end Go.Proofs.YtefiebkngpcaoaaDoor
