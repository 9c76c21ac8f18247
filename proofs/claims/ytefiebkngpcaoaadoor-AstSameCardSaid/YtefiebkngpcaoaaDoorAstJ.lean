/- A program that came in. No condition. -/
import Derived.Test.YtefiebkngpcaoaaDoorAstM
import Derived.Test.YtefiebkngpcaoaaDoorAstI
set_option maxRecDepth 100000
set_option linter.unusedVariables false
set_option linter.unusedSimpArgs false
set_option linter.unusedSectionVars false
namespace Go.Proofs.YtefiebkngpcaoaaDoor
open Go.RowKit

theorem Type_fields : ∃ f g : Field, (Tryd.prog.fieldsOf 96).toList = [f, g] ∧ f.offset = 0 ∧ g.offset = 1 ∧ f.type = 3 ∧ g.type = 94 := by
  refine ⟨_, _, rfl, ?_, ?_, ?_, ?_⟩ <;> kernel_rfl
theorem opens_Type : ∀ fuel, Opens Tryd.prog 96 Typ.cells Typ.Ok fuel := by
  intro fuel
  induction fuel using Nat.strongRecOn with
  | _ fuel ih =>
    have hs : ∀ m, m < fuel → OpensF Tryd.prog (Tryd.prog.fieldsOf 96).toList 0 (fun p : Int × (List Typ × Unit) => [D.int .i64 p.1] ++ ([D.sl p.2.1.length (p.2.1.flatMap Typ.cells)] ++ [])) (fun p => (Lit.int .i64 p.1).wf = true ∧ (p.2.1.length ≤ maxLen ∧ ∀ x ∈ p.2.1, x.Ok) ∧ True) 2 m := by
      intro m hm
      obtain ⟨f, g, hfg, o1, o2, t1, t2⟩ := Type_fields
      rw [hfg]
      exact opensF_cons (k := 1) o1 (by rw [t1]; kernel_rfl) (by rw [t1]; exact opens_int Tryd.underlying3 m) (opensF_cons (k := 1) o2 (by rw [t2]; kernel_rfl) (by rw [t2]; exact opens_slice (fuel := m) (n := 2) Tryd.underlying94 (by kernel_rfl) fun j hj => ih j (by omega)) opensF_nil)
    refine (opens_struct Tryd.underlying96 (by kernel_rfl) hs).imp ?_
    rintro ⟨k, l, u⟩ ⟨h1, ⟨h2, h3⟩, -⟩
    exact ⟨.mk k l, .mk k l (i64_of_wf h1) h2 h3, Typ.cells_mk k l⟩
theorem Port_fields : ∃ f0 f1 : Field, (Tryd.prog.fieldsOf 98).toList = [f0, f1] ∧ f0.offset = 0 ∧ f1.offset = 1 ∧ f0.type = 9 ∧ f1.type = 96 := by
  refine ⟨_, _, rfl, ?_, ?_, ?_, ?_⟩ <;> kernel_rfl
theorem opens_Port : ∀ fuel, Opens Tryd.prog 98 Prt.cells Prt.Ok fuel := by
  intro fuel
  have hs : ∀ m, m < fuel → OpensF Tryd.prog (Tryd.prog.fieldsOf 98).toList 0 (fun p : ByteArray × (Typ × (Unit)) => [D.str p.1] ++ (Typ.cells p.2.1 ++ ([]))) (fun p => p.1.size ≤ maxLen ∧ p.2.1.Ok ∧ True) 3 m := by
    intro m _
    obtain ⟨f0, f1, hfg, o0, o1, t0, t1⟩ := Port_fields
    rw [hfg]
    exact opensF_cons (k := 1) o0 (by rw [t0]; kernel_rfl) (by rw [t0]; exact opens_str Tryd.underlying9 m) (opensF_cons (k := 2) o1 (by rw [t1]; kernel_rfl) (by rw [t1]; exact opens_Type m) (opensF_nil))
  refine (opens_struct Tryd.underlying98 (by kernel_rfl) hs).imp ?_
  rintro ⟨x0, x1, u⟩ ⟨h0, h1, -⟩
  exact ⟨⟨x0, x1⟩, ⟨h0, h1⟩, by simp [Prt.cells, Row.cs, rowE, rowPrt, rowStt, rowEmt, rowPt, rowLnk, rowAkt, rowRul, rowMdl]⟩
theorem Set_fields : ∃ f0 f1 : Field, (Tryd.prog.fieldsOf 100).toList = [f0, f1] ∧ f0.offset = 0 ∧ f1.offset = 1 ∧ f0.type = 9 ∧ f1.type = 24 := by
  refine ⟨_, _, rfl, ?_, ?_, ?_, ?_⟩ <;> kernel_rfl
theorem opens_Set : ∀ fuel, Opens Tryd.prog 100 Stt.cells Stt.Ok fuel := by
  intro fuel
  have hs : ∀ m, m < fuel → OpensF Tryd.prog (Tryd.prog.fieldsOf 100).toList 0 (fun p : ByteArray × (Exp × (Unit)) => [D.str p.1] ++ (Exp.cells p.2.1 ++ ([]))) (fun p => p.1.size ≤ maxLen ∧ p.2.1.Ok ∧ True) 6 m := by
    intro m _
    obtain ⟨f0, f1, hfg, o0, o1, t0, t1⟩ := Set_fields
    rw [hfg]
    exact opensF_cons (k := 1) o0 (by rw [t0]; kernel_rfl) (by rw [t0]; exact opens_str Tryd.underlying9 m) (opensF_cons (k := 5) o1 (by rw [t1]; kernel_rfl) (by rw [t1]; exact opens_Expr m) (opensF_nil))
  refine (opens_struct Tryd.underlying100 (by kernel_rfl) hs).imp ?_
  rintro ⟨x0, x1, u⟩ ⟨h0, h1, -⟩
  exact ⟨⟨x0, x1⟩, ⟨h0, h1⟩, by simp [Stt.cells, Row.cs, rowE, rowPrt, rowStt, rowEmt, rowPt, rowLnk, rowAkt, rowRul, rowMdl]⟩
theorem Emit_fields : ∃ f0 f1 f2 : Field, (Tryd.prog.fieldsOf 75).toList = [f0, f1, f2] ∧ f0.offset = 0 ∧ f1.offset = 1 ∧ f2.offset = 6 ∧ f0.type = 9 ∧ f1.type = 24 ∧ f2.type = 22 := by
  refine ⟨_, _, _, rfl, ?_, ?_, ?_, ?_, ?_, ?_⟩ <;> kernel_rfl
theorem opens_Emit : ∀ fuel, Opens Tryd.prog 75 Emt.cells Emt.Ok fuel := by
  intro fuel
  have hs : ∀ m, m < fuel → OpensF Tryd.prog (Tryd.prog.fieldsOf 75).toList 0 (fun p : ByteArray × (Exp × (List Exp × (Unit))) => [D.str p.1] ++ (Exp.cells p.2.1 ++ ([D.sl p.2.2.1.length (p.2.2.1.flatMap Exp.cells)] ++ ([])))) (fun p => p.1.size ≤ maxLen ∧ p.2.1.Ok ∧ (p.2.2.1.length ≤ maxLen ∧ ∀ x ∈ p.2.2.1, x.Ok) ∧ True) 7 m := by
    intro m _
    obtain ⟨f0, f1, f2, hfg, o0, o1, o2, t0, t1, t2⟩ := Emit_fields
    rw [hfg]
    exact opensF_cons (k := 1) o0 (by rw [t0]; kernel_rfl) (by rw [t0]; exact opens_str Tryd.underlying9 m) (opensF_cons (k := 5) o1 (by rw [t1]; kernel_rfl) (by rw [t1]; exact opens_Expr m) (opensF_cons (k := 1) o2 (by rw [t2]; kernel_rfl) (by rw [t2]; exact opens_slice (fuel := m) (n := 5) Tryd.underlying22 (by kernel_rfl) fun j _ => opens_Expr j) (opensF_nil)))
  refine (opens_struct Tryd.underlying75 (by kernel_rfl) hs).imp ?_
  rintro ⟨x0, x1, x2, u⟩ ⟨h0, h1, h2, -⟩
  exact ⟨⟨x0, x1, x2⟩, ⟨h0, h1, h2⟩, by simp [Emt.cells, Row.cs, rowE, rowPrt, rowStt, rowEmt, rowPt, rowLnk, rowAkt, rowRul, rowMdl]⟩
theorem Part_fields : ∃ f0 f1 : Field, (Tryd.prog.fieldsOf 109).toList = [f0, f1] ∧ f0.offset = 0 ∧ f1.offset = 1 ∧ f0.type = 9 ∧ f1.type = 9 := by
  refine ⟨_, _, rfl, ?_, ?_, ?_, ?_⟩ <;> kernel_rfl
theorem opens_Part : ∀ fuel, Opens Tryd.prog 109 Pt.cells Pt.Ok fuel := by
  intro fuel
  have hs : ∀ m, m < fuel → OpensF Tryd.prog (Tryd.prog.fieldsOf 109).toList 0 (fun p : ByteArray × (ByteArray × (Unit)) => [D.str p.1] ++ ([D.str p.2.1] ++ ([]))) (fun p => p.1.size ≤ maxLen ∧ p.2.1.size ≤ maxLen ∧ True) 2 m := by
    intro m _
    obtain ⟨f0, f1, hfg, o0, o1, t0, t1⟩ := Part_fields
    rw [hfg]
    exact opensF_cons (k := 1) o0 (by rw [t0]; kernel_rfl) (by rw [t0]; exact opens_str Tryd.underlying9 m) (opensF_cons (k := 1) o1 (by rw [t1]; kernel_rfl) (by rw [t1]; exact opens_str Tryd.underlying9 m) (opensF_nil))
  refine (opens_struct Tryd.underlying109 (by kernel_rfl) hs).imp ?_
  rintro ⟨x0, x1, u⟩ ⟨h0, h1, -⟩
  exact ⟨⟨x0, x1⟩, ⟨h0, h1⟩, by simp [Pt.cells, Row.cs, rowE, rowPrt, rowStt, rowEmt, rowPt, rowLnk, rowAkt, rowRul, rowMdl]⟩
theorem End_fields : ∃ f0 f1 : Field, (Tryd.prog.fieldsOf 112).toList = [f0, f1] ∧ f0.offset = 0 ∧ f1.offset = 1 ∧ f0.type = 9 ∧ f1.type = 9 := by
  refine ⟨_, _, rfl, ?_, ?_, ?_, ?_⟩ <;> kernel_rfl
theorem opens_End : ∀ fuel, Opens Tryd.prog 112 En.cells En.Ok fuel := by
  intro fuel
  have hs : ∀ m, m < fuel → OpensF Tryd.prog (Tryd.prog.fieldsOf 112).toList 0 (fun p : ByteArray × (ByteArray × (Unit)) => [D.str p.1] ++ ([D.str p.2.1] ++ ([]))) (fun p => p.1.size ≤ maxLen ∧ p.2.1.size ≤ maxLen ∧ True) 2 m := by
    intro m _
    obtain ⟨f0, f1, hfg, o0, o1, t0, t1⟩ := End_fields
    rw [hfg]
    exact opensF_cons (k := 1) o0 (by rw [t0]; kernel_rfl) (by rw [t0]; exact opens_str Tryd.underlying9 m) (opensF_cons (k := 1) o1 (by rw [t1]; kernel_rfl) (by rw [t1]; exact opens_str Tryd.underlying9 m) (opensF_nil))
  refine (opens_struct Tryd.underlying112 (by kernel_rfl) hs).imp ?_
  rintro ⟨x0, x1, u⟩ ⟨h0, h1, -⟩
  exact ⟨⟨x0, x1⟩, ⟨h0, h1⟩, by simp [En.cells, Row.cs, rowE, rowPrt, rowStt, rowEmt, rowPt, rowLnk, rowAkt, rowRul, rowMdl]⟩
theorem Link_fields : ∃ f0 f1 : Field, (Tryd.prog.fieldsOf 114).toList = [f0, f1] ∧ f0.offset = 0 ∧ f1.offset = 2 ∧ f0.type = 112 ∧ f1.type = 112 := by
  refine ⟨_, _, rfl, ?_, ?_, ?_, ?_⟩ <;> kernel_rfl
theorem opens_Link : ∀ fuel, Opens Tryd.prog 114 Lnk.cells Lnk.Ok fuel := by
  intro fuel
  have hs : ∀ m, m < fuel → OpensF Tryd.prog (Tryd.prog.fieldsOf 114).toList 0 (fun p : En × (En × (Unit)) => En.cells p.1 ++ (En.cells p.2.1 ++ ([]))) (fun p => p.1.Ok ∧ p.2.1.Ok ∧ True) 4 m := by
    intro m _
    obtain ⟨f0, f1, hfg, o0, o1, t0, t1⟩ := Link_fields
    rw [hfg]
    exact opensF_cons (k := 2) o0 (by rw [t0]; kernel_rfl) (by rw [t0]; exact opens_End m) (opensF_cons (k := 2) o1 (by rw [t1]; kernel_rfl) (by rw [t1]; exact opens_End m) (opensF_nil))
  refine (opens_struct Tryd.underlying114 (by kernel_rfl) hs).imp ?_
  rintro ⟨x0, x1, u⟩ ⟨h0, h1, -⟩
  exact ⟨⟨x0, x1⟩, ⟨h0, h1⟩, by simp [Lnk.cells, Lnk.cells, En.cells, Row.cs, rowE, rowPrt, rowStt, rowEmt, rowPt, rowLnk, rowAkt, rowRul, rowMdl]⟩
theorem Act_fields : ∃ f0 f1 f2 f3 : Field, (Tryd.prog.fieldsOf 121).toList = [f0, f1, f2, f3] ∧ f0.offset = 0 ∧ f1.offset = 1 ∧ f2.offset = 2 ∧ f3.offset = 3 ∧ f0.type = 3 ∧ f1.type = 9 ∧ f2.type = 9 ∧ f3.type = 114 := by
  refine ⟨_, _, _, _, rfl, ?_, ?_, ?_, ?_, ?_, ?_, ?_, ?_⟩ <;> kernel_rfl
theorem opens_Act : ∀ fuel, Opens Tryd.prog 121 Akt.cells Akt.Ok fuel := by
  intro fuel
  have hs : ∀ m, m < fuel → OpensF Tryd.prog (Tryd.prog.fieldsOf 121).toList 0 (fun p : Int × (ByteArray × (ByteArray × (Lnk × (Unit)))) => [D.int .i64 p.1] ++ ([D.str p.2.1] ++ ([D.str p.2.2.1] ++ (Lnk.cells p.2.2.2.1 ++ ([]))))) (fun p => (Lit.int .i64 p.1).wf = true ∧ p.2.1.size ≤ maxLen ∧ p.2.2.1.size ≤ maxLen ∧ p.2.2.2.1.Ok ∧ True) 7 m := by
    intro m _
    obtain ⟨f0, f1, f2, f3, hfg, o0, o1, o2, o3, t0, t1, t2, t3⟩ := Act_fields
    rw [hfg]
    exact opensF_cons (k := 1) o0 (by rw [t0]; kernel_rfl) (by rw [t0]; exact opens_int Tryd.underlying3 m) (opensF_cons (k := 1) o1 (by rw [t1]; kernel_rfl) (by rw [t1]; exact opens_str Tryd.underlying9 m) (opensF_cons (k := 1) o2 (by rw [t2]; kernel_rfl) (by rw [t2]; exact opens_str Tryd.underlying9 m) (opensF_cons (k := 4) o3 (by rw [t3]; kernel_rfl) (by rw [t3]; exact opens_Link m) (opensF_nil))))
  refine (opens_struct Tryd.underlying121 (by kernel_rfl) hs).imp ?_
  rintro ⟨x0, x1, x2, x3, u⟩ ⟨h0, h1, h2, h3, -⟩
  exact ⟨⟨x0, x1, x2, x3⟩, ⟨i64_of_wf h0, h1, h2, h3⟩, by simp [Akt.cells, Lnk.cells, En.cells, Row.cs, rowE, rowPrt, rowStt, rowEmt, rowPt, rowLnk, rowAkt, rowRul, rowMdl]⟩
theorem Rule_fields : ∃ f0 f1 : Field, (Tryd.prog.fieldsOf 78).toList = [f0, f1] ∧ f0.offset = 0 ∧ f1.offset = 5 ∧ f0.type = 24 ∧ f1.type = 76 := by
  refine ⟨_, _, rfl, ?_, ?_, ?_, ?_⟩ <;> kernel_rfl
theorem opens_Rule : ∀ fuel, Opens Tryd.prog 78 Rul.cells Rul.Ok fuel := by
  intro fuel
  have hs : ∀ m, m < fuel → OpensF Tryd.prog (Tryd.prog.fieldsOf 78).toList 0 (fun p : Exp × (List Akt × (Unit)) => Exp.cells p.1 ++ ([D.sl p.2.1.length (p.2.1.flatMap Akt.cells)] ++ ([]))) (fun p => p.1.Ok ∧ (p.2.1.length ≤ maxLen ∧ ∀ x ∈ p.2.1, x.Ok) ∧ True) 6 m := by
    intro m _
    obtain ⟨f0, f1, hfg, o0, o1, t0, t1⟩ := Rule_fields
    rw [hfg]
    exact opensF_cons (k := 5) o0 (by rw [t0]; kernel_rfl) (by rw [t0]; exact opens_Expr m) (opensF_cons (k := 1) o1 (by rw [t1]; kernel_rfl) (by rw [t1]; exact opens_slice (fuel := m) (n := 7) Tryd.underlying76 (by kernel_rfl) fun j _ => opens_Act j) (opensF_nil))
  refine (opens_struct Tryd.underlying78 (by kernel_rfl) hs).imp ?_
  rintro ⟨x0, x1, u⟩ ⟨h0, h1, -⟩
  exact ⟨⟨x0, x1⟩, ⟨h0, h1⟩, by simp [Rul.cells, Row.cs, rowE, rowPrt, rowStt, rowEmt, rowPt, rowLnk, rowAkt, rowRul, rowMdl]⟩
theorem Model_fields : ∃ f0 f1 f2 f3 f4 f5 f6 f7 f8 f9 f10 f11 f12 f13 : Field, (Tryd.prog.fieldsOf 71).toList = [f0, f1, f2, f3, f4, f5, f6, f7, f8, f9, f10, f11, f12, f13] ∧ f0.offset = 0 ∧ f1.offset = 1 ∧ f2.offset = 2 ∧ f3.offset = 3 ∧ f4.offset = 4 ∧ f5.offset = 5 ∧ f6.offset = 6 ∧ f7.offset = 7 ∧ f8.offset = 8 ∧ f9.offset = 9 ∧ f10.offset = 10 ∧ f11.offset = 11 ∧ f12.offset = 12 ∧ f13.offset = 13 ∧ f0.type = 9 ∧ f1.type = 4 ∧ f2.type = 64 ∧ f3.type = 64 ∧ f4.type = 65 ∧ f5.type = 22 ∧ f6.type = 66 ∧ f7.type = 65 ∧ f8.type = 65 ∧ f9.type = 3 ∧ f10.type = 65 ∧ f11.type = 67 ∧ f12.type = 68 ∧ f13.type = 69 := by
  refine ⟨_, _, _, _, _, _, _, _, _, _, _, _, _, _, rfl, ?_, ?_, ?_, ?_, ?_, ?_, ?_, ?_, ?_, ?_, ?_, ?_, ?_, ?_, ?_, ?_, ?_, ?_, ?_, ?_, ?_, ?_, ?_, ?_, ?_, ?_, ?_, ?_⟩ <;> kernel_rfl
theorem opens_Model : ∀ fuel, Opens Tryd.prog 71 Mdl.cells Mdl.Ok fuel := by
  intro fuel
  have hs : ∀ m, m < fuel → OpensF Tryd.prog (Tryd.prog.fieldsOf 71).toList 0 (fun p : ByteArray × (Bool × (List Prt × (List Prt × (List Stt × (List Exp × (List Emt × (List Stt × (List Stt × (Int × (List Stt × (List Pt × (List Lnk × (List Rul × (Unit)))))))))))))) => [D.str p.1] ++ ([D.bool p.2.1] ++ ([D.sl p.2.2.1.length (p.2.2.1.flatMap Prt.cells)] ++ ([D.sl p.2.2.2.1.length (p.2.2.2.1.flatMap Prt.cells)] ++ ([D.sl p.2.2.2.2.1.length (p.2.2.2.2.1.flatMap Stt.cells)] ++ ([D.sl p.2.2.2.2.2.1.length (p.2.2.2.2.2.1.flatMap Exp.cells)] ++ ([D.sl p.2.2.2.2.2.2.1.length (p.2.2.2.2.2.2.1.flatMap Emt.cells)] ++ ([D.sl p.2.2.2.2.2.2.2.1.length (p.2.2.2.2.2.2.2.1.flatMap Stt.cells)] ++ ([D.sl p.2.2.2.2.2.2.2.2.1.length (p.2.2.2.2.2.2.2.2.1.flatMap Stt.cells)] ++ ([D.int .i64 p.2.2.2.2.2.2.2.2.2.1] ++ ([D.sl p.2.2.2.2.2.2.2.2.2.2.1.length (p.2.2.2.2.2.2.2.2.2.2.1.flatMap Stt.cells)] ++ ([D.sl p.2.2.2.2.2.2.2.2.2.2.2.1.length (p.2.2.2.2.2.2.2.2.2.2.2.1.flatMap Pt.cells)] ++ ([D.sl p.2.2.2.2.2.2.2.2.2.2.2.2.1.length (p.2.2.2.2.2.2.2.2.2.2.2.2.1.flatMap Lnk.cells)] ++ ([D.sl p.2.2.2.2.2.2.2.2.2.2.2.2.2.1.length (p.2.2.2.2.2.2.2.2.2.2.2.2.2.1.flatMap Rul.cells)] ++ ([]))))))))))))))) (fun p => p.1.size ≤ maxLen ∧ True ∧ (p.2.2.1.length ≤ maxLen ∧ ∀ x ∈ p.2.2.1, x.Ok) ∧ (p.2.2.2.1.length ≤ maxLen ∧ ∀ x ∈ p.2.2.2.1, x.Ok) ∧ (p.2.2.2.2.1.length ≤ maxLen ∧ ∀ x ∈ p.2.2.2.2.1, x.Ok) ∧ (p.2.2.2.2.2.1.length ≤ maxLen ∧ ∀ x ∈ p.2.2.2.2.2.1, x.Ok) ∧ (p.2.2.2.2.2.2.1.length ≤ maxLen ∧ ∀ x ∈ p.2.2.2.2.2.2.1, x.Ok) ∧ (p.2.2.2.2.2.2.2.1.length ≤ maxLen ∧ ∀ x ∈ p.2.2.2.2.2.2.2.1, x.Ok) ∧ (p.2.2.2.2.2.2.2.2.1.length ≤ maxLen ∧ ∀ x ∈ p.2.2.2.2.2.2.2.2.1, x.Ok) ∧ (Lit.int .i64 p.2.2.2.2.2.2.2.2.2.1).wf = true ∧ (p.2.2.2.2.2.2.2.2.2.2.1.length ≤ maxLen ∧ ∀ x ∈ p.2.2.2.2.2.2.2.2.2.2.1, x.Ok) ∧ (p.2.2.2.2.2.2.2.2.2.2.2.1.length ≤ maxLen ∧ ∀ x ∈ p.2.2.2.2.2.2.2.2.2.2.2.1, x.Ok) ∧ (p.2.2.2.2.2.2.2.2.2.2.2.2.1.length ≤ maxLen ∧ ∀ x ∈ p.2.2.2.2.2.2.2.2.2.2.2.2.1, x.Ok) ∧ (p.2.2.2.2.2.2.2.2.2.2.2.2.2.1.length ≤ maxLen ∧ ∀ x ∈ p.2.2.2.2.2.2.2.2.2.2.2.2.2.1, x.Ok) ∧ True) 14 m := by
    intro m _
    obtain ⟨f0, f1, f2, f3, f4, f5, f6, f7, f8, f9, f10, f11, f12, f13, hfg, o0, o1, o2, o3, o4, o5, o6, o7, o8, o9, o10, o11, o12, o13, t0, t1, t2, t3, t4, t5, t6, t7, t8, t9, t10, t11, t12, t13⟩ := Model_fields
    rw [hfg]
    exact opensF_cons (k := 1) o0 (by rw [t0]; kernel_rfl) (by rw [t0]; exact opens_str Tryd.underlying9 m) (opensF_cons (k := 1) o1 (by rw [t1]; kernel_rfl) (by rw [t1]; exact opens_bool Tryd.underlying4 m) (opensF_cons (k := 1) o2 (by rw [t2]; kernel_rfl) (by rw [t2]; exact opens_slice (fuel := m) (n := 3) Tryd.underlying64 (by kernel_rfl) fun j _ => opens_Port j) (opensF_cons (k := 1) o3 (by rw [t3]; kernel_rfl) (by rw [t3]; exact opens_slice (fuel := m) (n := 3) Tryd.underlying64 (by kernel_rfl) fun j _ => opens_Port j) (opensF_cons (k := 1) o4 (by rw [t4]; kernel_rfl) (by rw [t4]; exact opens_slice (fuel := m) (n := 6) Tryd.underlying65 (by kernel_rfl) fun j _ => opens_Set j) (opensF_cons (k := 1) o5 (by rw [t5]; kernel_rfl) (by rw [t5]; exact opens_slice (fuel := m) (n := 5) Tryd.underlying22 (by kernel_rfl) fun j _ => opens_Expr j) (opensF_cons (k := 1) o6 (by rw [t6]; kernel_rfl) (by rw [t6]; exact opens_slice (fuel := m) (n := 7) Tryd.underlying66 (by kernel_rfl) fun j _ => opens_Emit j) (opensF_cons (k := 1) o7 (by rw [t7]; kernel_rfl) (by rw [t7]; exact opens_slice (fuel := m) (n := 6) Tryd.underlying65 (by kernel_rfl) fun j _ => opens_Set j) (opensF_cons (k := 1) o8 (by rw [t8]; kernel_rfl) (by rw [t8]; exact opens_slice (fuel := m) (n := 6) Tryd.underlying65 (by kernel_rfl) fun j _ => opens_Set j) (opensF_cons (k := 1) o9 (by rw [t9]; kernel_rfl) (by rw [t9]; exact opens_int Tryd.underlying3 m) (opensF_cons (k := 1) o10 (by rw [t10]; kernel_rfl) (by rw [t10]; exact opens_slice (fuel := m) (n := 6) Tryd.underlying65 (by kernel_rfl) fun j _ => opens_Set j) (opensF_cons (k := 1) o11 (by rw [t11]; kernel_rfl) (by rw [t11]; exact opens_slice (fuel := m) (n := 2) Tryd.underlying67 (by kernel_rfl) fun j _ => opens_Part j) (opensF_cons (k := 1) o12 (by rw [t12]; kernel_rfl) (by rw [t12]; exact opens_slice (fuel := m) (n := 4) Tryd.underlying68 (by kernel_rfl) fun j _ => opens_Link j) (opensF_cons (k := 1) o13 (by rw [t13]; kernel_rfl) (by rw [t13]; exact opens_slice (fuel := m) (n := 6) Tryd.underlying69 (by kernel_rfl) fun j _ => opens_Rule j) (opensF_nil))))))))))))))
  refine (opens_struct Tryd.underlying71 (by kernel_rfl) hs).imp ?_
  rintro ⟨x0, x1, x2, x3, x4, x5, x6, x7, x8, x9, x10, x11, x12, x13, u⟩ ⟨h0, h1, h2, h3, h4, h5, h6, h7, h8, h9, h10, h11, h12, h13, -⟩
  exact ⟨⟨x0, x1, x2, x3, x4, x5, x6, x7, x8, x9, x10, x11, x12, x13⟩, ⟨h0, h2, h3, h4, h5, h6, h7, h8, i64_of_wf h9, h10, h11, h12, h13⟩, by simp [Mdl.cells, Row.cs, rowE, rowPrt, rowStt, rowEmt, rowPt, rowLnk, rowAkt, rowRul, rowMdl]⟩
theorem Program_fields : ∃ f0 f1 : Field, (Tryd.prog.fieldsOf 39).toList = [f0, f1] ∧ f0.offset = 0 ∧ f1.offset = 1 ∧ f0.type = 37 ∧ f1.type = 9 := by
  refine ⟨_, _, rfl, ?_, ?_, ?_, ?_⟩ <;> kernel_rfl
theorem opens_Program : ∀ fuel, Opens Tryd.prog 39 Prg.cells Prg.Ok fuel := by
  intro fuel
  have hs : ∀ m, m < fuel → OpensF Tryd.prog (Tryd.prog.fieldsOf 39).toList 0 (fun p : List Mdl × (ByteArray × (Unit)) => [D.sl p.1.length (p.1.flatMap Mdl.cells)] ++ ([D.str p.2.1] ++ ([]))) (fun p => (p.1.length ≤ maxLen ∧ ∀ x ∈ p.1, x.Ok) ∧ p.2.1.size ≤ maxLen ∧ True) 2 m := by
    intro m _
    obtain ⟨f0, f1, hfg, o0, o1, t0, t1⟩ := Program_fields
    rw [hfg]
    exact opensF_cons (k := 1) o0 (by rw [t0]; kernel_rfl) (by rw [t0]; exact opens_slice (fuel := m) (n := 14) Tryd.underlying37 (by kernel_rfl) fun j _ => opens_Model j) (opensF_cons (k := 1) o1 (by rw [t1]; kernel_rfl) (by rw [t1]; exact opens_str Tryd.underlying9 m) (opensF_nil))
  refine (opens_struct Tryd.underlying39 (by kernel_rfl) hs).imp ?_
  rintro ⟨x0, x1, u⟩ ⟨h0, h1, -⟩
  exact ⟨⟨x0, x1⟩, ⟨h0, h1⟩, by simp [Prg.cells, Row.cs, rowE, rowPrt, rowStt, rowEmt, rowPt, rowLnk, rowAkt, rowRul, rowMdl]⟩
theorem came_prog {H : Type} {enc : TypeId × Value → H} {w : World} {base : Nat} {v : Value} {d : DataW H} {p : List MemPlace} (hv : Value.okWide Tryd.prog w .any base 39 v) (h : DataW.Trod enc Tryd.prog w 0 (fun _ => true) true 39 v d p) :
    ∃ x : Prg, x.Ok ∧ Rep (fun _ => False) w v (.agg x.cells) := came_struct Tryd.underlying39 hv h opens_Program
end Go.Proofs.YtefiebkngpcaoaaDoor
