/- == on flat structs, under the pure logic. Condition: the type is flat (a closed check). -/
import Derived.Test.YtefiebkngpcaoaaDoorPH
set_option maxRecDepth 100000
set_option linter.unusedVariables false
set_option linter.unusedSimpArgs false
set_option linter.unusedSectionVars false
namespace Go.Proofs.YtefiebkngpcaoaaDoor
open Go.RowKit

def flatF (P : Program) (g : TypeId → Option (List Nat)) : Nat → List Field → Option (List Nat)
  | _, [] => some []
  | off, f :: fs => match tyI P f.type, g f.type with
    | some (ag, k), some l => match flatF P g (off + k) fs with
      | some r => if f.name ≠ "_" ∧ f.offset = off ∧ l.length = k ∧ (ag || k == 1) = true then some (l ++ r) else none
      | none => none
    | _, _ => none
/-- The cells of a type whose parts are numbers (0), texts (1), bools (2). -/
def flatL (P : Program) : Nat → TypeId → Option (List Nat)
  | 0, _ => none
  | n + 1, t => match P.underlying t, P.info? t with
    | some (.int _), some i => if i.size = 1 then some [0] else none
    | some .string, some i => if i.size = 1 then some [1] else none
    | some .bool, some i => if i.size = 1 then some [2] else none
    | some (.struct fs), some i => if P.stoodInHeld t then none else match flatF P (flatL P n) 0 fs.toList with
      | some l => if l.length = i.size then some l else none
      | none => none
    | _, _ => none
def deq1 : Nat → D → D → Option Bool
  | 0, .int k a, .int k' b => if k = k' then some (a == b) else none
  | 1, .str a, .str b => some (a.toList == b.toList)
  | 2, .bool a, .bool b => some (a == b)
  | _, _, _ => none
def deqs : List Nat → List D → List D → Option Bool
  | [], [], [] => some true
  | t :: l, x :: xs, y :: ys => match deq1 t x y, deqs l xs ys with
    | some a, some b => some (a && b)
    | _, _ => none
  | _, _, _ => none
section
variable {P : Program} {w : World}
theorem deqs_append : ∀ (l l' : List Nat) (xs ys : List D) (b : Bool), deqs (l ++ l') xs ys = some b → ∃ c d, deqs l (xs.take l.length) (ys.take l.length) = some c ∧ deqs l' (xs.drop l.length) (ys.drop l.length) = some d ∧ b = (c && d)
  | [], l', xs, ys, b, h => ⟨true, b, rfl, h, by simp⟩
  | t :: l, l', x :: xs, y :: ys, b, h => by
    simp only [List.cons_append, deqs] at h
    split at h
    · rename_i p q h1 h2
      cases h
      obtain ⟨c, d, g1, g2, g3⟩ := deqs_append l l' xs ys q h2
      exact ⟨p && c, d, by simp [deqs, h1, g1], by simpa using g2, by rw [g3, Bool.and_assoc]⟩
    · cases h
  | t :: l, l', [], ys, b, h => by simp [deqs] at h
  | t :: l, l', x :: xs, [], b, h => by simp [deqs] at h
theorem deqs_length : ∀ {l : List Nat} {xs ys : List D} {b : Bool}, deqs l xs ys = some b → xs.length = l.length ∧ ys.length = l.length
  | [], [], [], _, _ => ⟨rfl, rfl⟩
  | t :: l, x :: xs, y :: ys, b, h => by
    unfold deqs at h
    split at h
    · rename_i p q h1 h2
      have := deqs_length h2
      simp [this]
    · cases h
  | [], _ :: _, _, _, h => by simp [deqs] at h
  | [], [], _ :: _, _, h => by simp [deqs] at h
  | _ :: _, [], _, _, h => by simp [deqs] at h
  | _ :: _, _ :: _, [], _, h => by simp [deqs] at h
/-- How two values stand as cells: of many, or one. -/
def Forms (ag : Bool) (x : D) (xs : List D) : Prop := if ag then x = .agg xs else xs = [x]
def EqFl (P : Program) (M : Addr → Prop) (d : Nat) (t : TypeId) (l : List Nat) : Prop :=
  ∀ (w : World) (a b : Value) (x y : D) (xs ys : List D) (ag : Bool) (k : Nat) (r : Bool), tyI P t = some (ag, k) → Rep M w a x → Rep M w b y → Forms ag x xs → Forms ag y ys → deqs l xs ys = some r → (Op.equalIn d t a b).run P w = .ok r w
theorem eqFields_fl {M : Addr → Prop} {d : Nat} {g : TypeId → Option (List Nat)} (hg : ∀ t l, g t = some l → EqFl P M d t l) : ∀ (fs : List Field) (off : Nat) (l : List Nat), flatF P g off fs = some l →
    ∀ (vs us : Array Value) (xs ys : List D) (r : Bool), RepL M w vs.toList xs → RepL M w us.toList ys → (∀ u ∈ vs.toList, u.oneCell' = true) → (∀ u ∈ us.toList, u.oneCell' = true) → deqs l (xs.drop off) (ys.drop off) = some r →
    (Op.eqFields d vs us fs).run P w = .ok r w
  | [], off, l, h => by
    intro vs us xs ys r _ _ _ _ hd
    simp [flatF] at h
    subst h
    cases hx : xs.drop off with
    | nil =>
      cases hy : ys.drop off with
      | nil => rw [hx, hy] at hd; simp [deqs] at hd; subst hd; simp [Op.eqFields]
      | cons y ys => rw [hx, hy] at hd; simp [deqs] at hd
    | cons x xs => rw [hx] at hd; simp [deqs] at hd
  | f :: fs, off, l, h => by
    intro vs us xs ys r hv hu hv1 hu1 hd
    unfold flatF at h
    split at h
    · rename_i ag k l1 ht hgt
      split at h
      · rename_i l2 hl2
        split at h
        · rename_i hc
          cases h
          obtain ⟨hn, ho, hk, hag⟩ := hc
          obtain ⟨c, e, d1, d2, d3⟩ := deqs_append _ _ _ _ _ hd
          rw [hk] at d1 d2
          have hlx := (deqs_length d1).1
          have hly := (deqs_length d1).2
          have rd : ∀ {zs : List D}, ((zs.drop off).take k).length = k → ∃ z, rdD ag k (zs.drop off) = some z ∧ Forms ag z ((zs.drop off).take k) := by
            intro zs hzl
            cases ag with
            | true =>
              refine ⟨.agg ((zs.drop off).take k), ?_, rfl⟩
              simp only [rdD, if_true]
              rw [if_pos (by rw [List.length_take] at hzl; omega)]
            | false =>
              have hk1 : k = 1 := by simpa using hag
              subst hk1
              cases hz : zs.drop off with
              | nil => rw [hz] at hzl; simp at hzl
              | cons z zs' => exact ⟨z, by simp [rdD], by simp [Forms]⟩
          obtain ⟨z1, z2, z3⟩ := rd (zs := xs) (by rw [hlx, hk])
          obtain ⟨y1, y2, y3⟩ := rd (zs := ys) (by rw [hly, hk])
          obtain ⟨va, va1, va2⟩ := run_part ht hv hv1 (off := off) z2
          obtain ⟨ub, ub1, ub2⟩ := run_part ht hu hu1 (off := off) y2
          have he := hg f.type l1 hgt w va ub z1 y1 _ _ ag k c ht va2 ub2 z3 y3 d1
          have ih := eqFields_fl hg fs (off + k) l2 hl2 vs us xs ys e hv hu hv1 hu1 (by simpa [List.drop_drop] using d2)
          simp only [Op.eqFields, hn, ne_eq, not_false_eq_true, if_true, Sem.run_bind, ho, va1, ub1, he, Result.andThen_ok]
          subst d3
          cases c with
          | true => simpa using ih
          | false => simp
        · cases h
      · cases h
    · cases h
theorem flat_eq {M : Addr → Prop} (d : Nat) : ∀ (n : Nat) (t : TypeId) (l : List Nat), flatL P n t = some l → EqFl P M (d + n) t l
  | 0, t, l, h => by simp [flatL] at h
  | n + 1, t, l, h => by
    intro w a b x y xs ys ag k r ht ha hb hx hy hd
    unfold flatL at h
    have tyf : ∀ {dd i}, P.underlying t = some dd → P.info? t = some i → (match dd with | .struct _ | .array _ _ => true | _ => false) = ag := by
      intro dd i hu hi
      have := (tyI_spec ht).1 w
      unfold isAgg at this
      rw [Sem.run_bind, run_underlying hu w] at this
      cases dd <;> simp_all
    split at h
    · rename_i kk i hu hi
      have hag := tyf hu hi
      simp only at hag
      subst hag
      split at h
      · cases h
        simp only [Forms, Bool.false_eq_true, if_false] at hx hy
        subst hx hy
        simp only [deqs] at hd
        split at hd
        · rename_i p q h1 h2
          cases h2; cases hd
          unfold deq1 at h1
          split at h1 <;> first | (cases h1; done) | (exfalso; omega) | skip
          split at h1
          · rename_i hk
            cases h1
            subst hk
            rw [rep_int ha, rep_int hb, Bool.and_true]
            exact run_equalIn_int w (d + n) t _ kk _ _ hu
          · cases h1
        · cases hd
      · cases h
    · rename_i i hu hi
      have hag := tyf hu hi
      simp only at hag
      subst hag
      split at h
      · cases h
        simp only [Forms, Bool.false_eq_true, if_false] at hx hy
        subst hx hy
        simp only [deqs] at hd
        split at hd
        · rename_i p q h1 h2
          cases h2; cases hd
          unfold deq1 at h1
          split at h1 <;> first | (cases h1; done) | (exfalso; omega) | skip
          cases h1
          rw [rep_str ha, rep_str hb, Bool.and_true]
          exact run_equalIn_string w (d + n) t _ _ hu
        · cases hd
      · cases h
    · rename_i i hu hi
      have hag := tyf hu hi
      simp only at hag
      subst hag
      split at h
      · cases h
        simp only [Forms, Bool.false_eq_true, if_false] at hx hy
        subst hx hy
        simp only [deqs] at hd
        split at hd
        · rename_i p q h1 h2
          cases h2; cases hd
          unfold deq1 at h1
          split at h1 <;> first | (cases h1; done) | (exfalso; omega) | skip
          cases h1
          rw [rep_bool ha, rep_bool hb, Bool.and_true]
          exact run_equalIn_bool w (d + n) t _ _ hu
        · cases hd
      · cases h
    · rename_i fs i hu hi
      have hag := tyf hu hi
      simp only at hag
      subst hag
      split at h
      · cases h
      · rename_i hst
        split at h
        · rename_i l' hl
          split at h
          · cases h
            simp only [Forms, if_true] at hx hy
            subst hx hy
            generalize hga : D.agg xs = xa at ha
            generalize hgb : D.agg ys = yb at hb
            cases ha <;> first | (cases hga; done) | skip
            rename_i vs ds hv hv1
            cases hga
            cases hb <;> first | (cases hgb; done) | skip
            rename_i us es hu' hu1
            cases hgb
            have hf : P.fieldsOf t = fs := by simp [Program.fieldsOf, hu]
            rw [show d + (n + 1) = (d + n) + 1 from rfl, run_equalIn_struct w (d + n) t vs us (by rw [hf]; exact hu) (by simpa using hst), hf]
            exact eqFields_fl (fun t l h => flat_eq d n t l h) fs.toList 0 _ hl vs us xs ys r hv hu' hv1 hu1 (by simpa using hd)
          · cases h
        · cases h
    · cases h
/-- The cells of a flat struct that == may be asked of. -/
def flatQ (P : Program) (t : TypeId) : Option (List Nat) :=
  match tyI P t, flatL P 5 t with
  | some (true, _), some l => if P.eqGuardType P.depth t then none else some l
  | _, _ => none
theorem aggEq_of_flat {t : TypeId} {l : List Nat} {xs ys : List D} {b : Bool} (h : flatQ P t = some l) (hd : deqs l xs ys = some b) : AggEq P t xs ys b := by
  unfold flatQ at h
  split at h
  · rename_i k l' ht hl
    split at h
    · cases h
    · rename_i hg
      cases h
      intro M w vs us x y op hop hv hu h1 h2
      have hfl : EqFl P M (9995 + 5) t l := flat_eq 9995 5 t l hl
      refine ⟨?_, hfl w (.agg vs) (.agg us) (.agg xs) (.agg ys) xs ys true k b ht (.agg _ _ hv h1) (.agg _ _ hu h2) rfl rfl hd⟩
      have hg' : P.eqGuardType P.depth t = false := by simpa using hg
      rcases hop with rfl | rfl <;> simp [eqGuard, program, Sem.run, hg']
  · cases h
theorem ev_eqf {ops : Array Oper} {dr : Bool} {Q : List Sig → Frm → Hp → Prop} {o : Oper} {rest : List Oper} {tr : List Sig} {f : Frm} {H : Hp} {tm : Tmp} {op : BinOp} {t t' : TypeId} {x y : Operand} {l : List Nat} {xs ys : List D} {b : Bool}
    (hg : o.guard = none) (hd : o.dst = some tm) (ho : o.op = .binOp op t x y t') (hx : ev f x = .d (.agg xs)) (hy : ev f y = .d (.agg ys))
    (hq : flatQ P t = some l) (hb : deqs l xs ys = some b) (hop : op = .eql ∨ op = .neq) (h : pEval P ops dr Q rest (tr ++ [(none, [])]) (upd f tm (.d (.bool (if op = .eql then b else !b)))) H) : pEval P ops dr Q (o :: rest) tr f H :=
  ev_eql hg hd ho hx hy (aggEq_of_flat hq hb) hop h
end
/-! ### The state at a loop's head -/
def hpm : List (Nat × HO) → Hp
  | [] => fun _ => .none
  | (t, x) :: l => fun u => if u = t then x else hpm l u
def Slots (f : Frm) : List (Nat × SV) → Prop
  | [] => True
  | (t, x) :: l => f t = x ∧ Slots f l
def Names (H : Hp) : List (Nat × HO) → Prop
  | [] => True
  | (t, x) :: l => H t = x ∧ Names H l
def okSA (ns : List Nat) : SA → Bool
  | .loc s _ => ns.contains s
  | .d _ => true
def okSV (ns : List Nat) : SV → Bool
  | .loc s _ => ns.contains s
  | .own r _ _ => ns.contains r
  | .bs s _ _ _ => ns.contains s
  | .vec r _ _ => ns.contains r
  | .vptr r _ _ => ns.contains r
  | .clo _ first cap => first.all (okSA ns) && cap.all (okSA ns)
  | _ => true
def okHO (ns : List Nat) : HO → Bool
  | .box cs => cs.all (okSV ns)
  | .vec _ _ _ cs => cs.all (okSV ns)
  | _ => true
theorem hpm_same {H : Hp} : ∀ {hl : List (Nat × HO)}, Names H hl → ∀ s, (hl.map (·.1)).contains s = true → hpm hl s = H s
  | [], _, s, h => by simp at h
  | (t, x) :: l, hn, s, h => by
    simp only [hpm]
    split
    · rename_i e; rw [e, hn.1]
    · rename_i e
      simp only [List.map_cons, List.contains_cons, Bool.or_eq_true, beq_iff_eq, e, false_or] at h
      exact hpm_same hn.2 s h
theorem hpm_or {H : Hp} : ∀ {hl : List (Nat × HO)}, Names H hl → ∀ s, hpm hl s = H s ∨ hpm hl s = .none
  | [], _, s => .inr rfl
  | (t, x) :: l, hn, s => by
    simp only [hpm]
    split
    · rename_i e; rw [e, hn.1]; exact .inl rfl
    · exact hpm_or hn.2 s
theorem frm_or {f : Frm} : ∀ {l : List (Nat × SV)}, Slots f l → ∀ t, frm l t = f t ∨ frm l t = .junk
  | [], _, t => .inr rfl
  | (u, x) :: l, h, t => by
    simp only [frm]
    split
    · rename_i e; rw [e, h.1]; exact .inl rfl
    · exact frm_or h.2 t
theorem frm_ok {ns : List Nat} : ∀ {l : List (Nat × SV)}, (l.all fun p => okSV ns p.2) = true → ∀ t, okSV ns (frm l t) = true
  | [], _, t => rfl
  | (u, x) :: l, h, t => by
    simp only [List.all_cons, Bool.and_eq_true] at h
    simp only [frm]
    split
    · exact h.1
    · exact frm_ok h.2 t
theorem hpm_ok {ns : List Nat} : ∀ {l : List (Nat × HO)}, (l.all fun p => okHO ns p.2) = true → ∀ t, okHO ns (hpm l t) = true
  | [], _, t => rfl
  | (u, x) :: l, h, t => by
    simp only [List.all_cons, Bool.and_eq_true] at h
    simp only [hpm]
    split
    · exact h.1
    · exact hpm_ok h.2 t
theorem kept_of {H : Hp} {hl : List (Nat × HO)} (hn : Names H hl) {x : SV} (h : okSV (hl.map (·.1)) x = true) : kept H (hpm hl) x := by
  have sa : ∀ {y : SA}, okSA (hl.map (·.1)) y = true → keptA H (hpm hl) y := fun {y} hy => by
    cases y with
    | loc s off => exact hpm_same hn s hy
    | d x => trivial
  cases x with
  | loc s off => exact hpm_same hn s h
  | own r n cs => exact hpm_same hn r h
  | bs s off n cap => exact hpm_same hn s h
  | vec r ver n => exact hpm_same hn r h
  | vptr r ver off => exact hpm_same hn r h
  | clo g first cap =>
    simp only [okSV, Bool.and_eq_true, List.all_eq_true] at h
    exact ⟨fun y hy => sa (h.1 y hy), fun y hy => sa (h.2 y hy)⟩
  | _ => trivial
/-- Keep these slots and these names alone. -/
theorem Cv.keepH {f : Frm} {H : Hp} (l : List (Nat × SV)) (hl : List (Nat × HO)) (hs : Slots f l) (hn : Names H hl) (hk : ((l.all fun p => okSV (hl.map (·.1)) p.2) && hl.all fun p => okHO (hl.map (·.1)) p.2) = true) : Cv f H (frm l) (hpm hl) := by
  simp only [Bool.and_eq_true] at hk
  refine .less ⟨fun t => (frm_or hs t).elim .inl fun h => .inr (.inl h), hpm_or hn, fun t => kept_of hn (frm_ok hk.1 t), fun s cs hcs x hx => kept_of hn ?_, fun r e sz ver cs hcs x hx => kept_of hn ?_⟩
  · have := hpm_ok hk.2 s
    rw [hcs] at this
    exact List.all_eq_true.1 this x hx
  · have := hpm_ok hk.2 r
    rw [hcs] at this
    exact List.all_eq_true.1 this x hx
/-- A nil slice that is to be appended to. -/
theorem Cv.ad (l : List (Nat × SV)) (hl : List (Nat × HO)) (t r : Nat) (e : TypeId) (sz : Nat) (h1 : frm l t = .nil) (h2 : hpm hl r = .none) (h4 : r < 1000000 := by decide) : Cv (frm l) (hpm hl) (frm ((t, .own r 0 []) :: l)) (hpm ((r, .row e sz 0) :: hl)) :=
  .adopt t r e sz h1 h2 h4
/-- A slice whose cells are written no more. -/
theorem Cv.frz {f : Frm} {H : Hp} (l : List (Nat × SV)) (hl : List (Nat × HO)) (t r ver n : Nat) (e : TypeId) (sz : Nat) (cs : List SV) (ds : List D) (h1 : f t = .vec r ver n) (h2 : H r = .vec e sz ver cs) (h3 : toDs cs = some ds) (h4 : hpm hl r = .none)
    (hs : Slots f l) (hn : Names H hl) (hk : ((l.all fun p => okSV (hl.map (·.1)) p.2) && hl.all fun p => okHO (hl.map (·.1)) p.2) = true) : Cv f H (frm ((t, .d (.sl n ds)) :: l)) (hpm hl) := by
  simp only [Bool.and_eq_true] at hk
  refine .less ⟨fun u => ?_, hpm_or hn, fun u => ?_, fun s cs hcs x hx => kept_of hn ?_, fun r e sz ver cs hcs x hx => kept_of hn ?_⟩
  · simp only [frm]
    split
    · rename_i hu
      subst hu
      exact .inr (.inr (.inr ⟨r, ver, n, e, sz, cs, ds, h1, h2, h3, h4, rfl⟩))
    · exact (frm_or hs u).elim .inl fun h => .inr (.inl h)
  · simp only [frm]
    split
    · exact trivial
    · exact kept_of hn (frm_ok hk.1 u)
  · have := hpm_ok hk.2 s
    rw [hcs] at this
    exact List.all_eq_true.1 this x hx
  · have := hpm_ok hk.2 r
    rw [hcs] at this
    exact List.all_eq_true.1 this x hx
/-- A nil slice whose cells are to be written here and there. -/
theorem Cv.adV (l : List (Nat × SV)) (hl : List (Nat × HO)) (t r : Nat) (e : TypeId) (sz : Nat) (h1 : frm l t = .nil) (h2 : hpm hl r = .none) (h4 : r < 1000000 := by decide) : Cv (frm l) (hpm hl) (frm ((t, .vec r 0 0) :: l)) (hpm ((r, .vec e sz 0 []) :: hl)) :=
  .adoptV t r e sz h1 h2 h4
/-- A nil slice in a variable, whose cells are to be written here and there. -/
theorem Cv.adVB (l : List (Nat × SV)) (hl : List (Nat × HO)) (s : Nat) (cs : List SV) (i r : Nat) (e : TypeId) (sz : Nat) (h1 : hpm hl s = .box cs) (h3 : cs[i]? = some .nil ∨ cs[i]? = some (.d .nils)) (h2 : hpm hl r = .none) (h4 : r < 1000000 := by decide) :
    Cv (frm l) (hpm hl) (frm l) (hpm ((s, .box (cs.set i (.vec r 0 0))) :: (r, .vec e sz 0 []) :: hl)) :=
  .adoptVB s cs i r e sz h1 h3 h2 h4
theorem Cv.adB (l : List (Nat × SV)) (hl : List (Nat × HO)) (s : Nat) (cs : List SV) (i r : Nat) (e : TypeId) (sz : Nat) (h1 : hpm hl s = .box cs) (h3 : cs[i]? = some .nil ∨ cs[i]? = some (.d .nils)) (h2 : hpm hl r = .none) (h4 : r < 1000000 := by decide) :
    Cv (frm l) (hpm hl) (frm l) (hpm ((s, .box (cs.set i (.own r 0 []))) :: (r, .row e sz 0) :: hl)) :=
  .adoptB s cs i r e sz h1 h3 h2 h4
/-- A loop whose state is told by the number of the round. -/
theorem wp_for {P : Program} {x : Code} {Q : Exit → Frm → Hp → Prop} {f : Frm} {H : Hp} (n : Nat) (F : Nat → List (Nat × SV)) (G : Nat → List (Nat × HO)) (C : Nat → Prop) (hc : Cv f H (frm (F 0)) (hpm (G 0))) (h0 : C 0)
    (hr : ∀ i, i < n → C i → pwp P x (pThen (fun f H => Cv f H (frm (F (i + 1))) (hpm (G (i + 1))) ∧ C (i + 1)) Q) (frm (F i)) (hpm (G i)))
    (hd : C n → pwp P x (pThen (fun _ _ => False) Q) (frm (F n)) (hpm (G n))) : pwp P (.loop x) Q f H := by
  refine wp_lp (fun m f H => ∃ i, i ≤ n ∧ m = n - i ∧ f = frm (F i) ∧ H = hpm (G i) ∧ C i) n _ _ hc ⟨0, by omega, rfl, rfl, rfl, h0⟩ ?_
  rintro m f H ⟨i, hi, rfl, rfl, rfl, hC⟩
  by_cases h : i < n
  · exact pwp_mono _ _ _ (pThen_mono (fun f H ⟨h1, h2⟩ => ⟨n - (i + 1), _, _, by omega, h1, i + 1, h, rfl, rfl, rfl, h2⟩) fun _ _ _ h => h) _ _ (hr i h hC)
  · obtain rfl : i = n := by omega
    exact pwp_mono _ _ _ (pThen_mono (fun f H h => h.elim) fun _ _ _ h => h) _ _ (hd hC)
attribute [go_sem] if_true if_false D.sv SV.toDN toDsN SV.fin SV.toSA toSAs bytesS setPs tupQ pstep repD Nat.mul_one Nat.one_mul Nat.zero_mul Nat.zero_add Nat.add_zero List.append_nil List.drop_nil List.take_nil hpm deqs deq1 partsD pfill D.cells bndD bytesD pBuilt ungd ev cst ofV ofVs ofV1 upd updo hup ini frm SV.cells SV.toD toDs rdS rdD zS pBin pInt pStr pUn Eff.val pRess pRes1 List.map_cons List.map_nil List.getElem?_cons_zero List.getElem?_cons_succ List.getElem?_nil List.drop_zero List.drop_succ_cons List.take_zero List.take_succ_cons List.length_cons List.length_nil List.head?_cons List.cons_append List.nil_append Option.some.injEq Bool.not_true Bool.not_false
@[go_sem] theorem gt_words_eq : gcells 0 = some gt_words := rfl
end Go.Proofs.YtefiebkngpcaoaaDoor
