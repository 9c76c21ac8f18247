/- strings.Join and strings.Compare as contracts on pure data; brackets. Conditions: how long the texts are. -/
import Derived.Test.YtandclggkgmpgaaValB
import Derived.Test.YtandclggkgmpgaaPL2
import Derived.Test.YtandclggkgmpgaaShelf
set_option maxRecDepth 100000
set_option linter.unusedVariables false
set_option linter.unusedSimpArgs false
set_option linter.unusedSectionVars false
namespace Go.Proofs.Ytandclggkgmpgaa
open Go.RowKit

theorem rowS_get {xs : List ByteArray} {j : Nat} {x : ByteArray} (h : xs[j]? = some x) : (rowS.cs xs)[j]? = some (.str x) := by
  have : rowS.cs xs = xs.map .str := by
    clear h
    induction xs with
    | nil => rfl
    | cons y l ih =>
      rw [Row.cs_cons, ih]; rfl
  rw [this, List.getElem?_map, h]; rfl
/-- Texts joined. -/
def joinS (xs : List ByteArray) (sep : ByteArray) : ByteArray := ⟨(Lib.join (xs.map (·.data.toList)) sep.data.toList).toArray⟩
theorem Join_pc (xs : List ByteArray) (sep : ByteArray) (hN : xs.length ≤ 140737488355328) (hlen : (joinS xs sep).size ≤ 140737488355328) : PC Try.prog 62 [.sl xs.length (rowS.cs xs), .str sep] (.str (joinS xs sep)) := by
  refine ⟨⟨_, Try.func62, by kernel_rfl, by kernel_rfl⟩, fun M w vs _ hvs hM => ?_⟩
  cases hvs with
  | cons v d vs ds h1 t =>
    cases t with
    | cons v2 d2 vs2 ds2 h2 t2 =>
      cases t2
      cases h2
      cases h1 with
      | sl p n cap us cs hn hz hc hr =>
        cases xs with
        | nil =>
          exact (Try.strings_Join_none p cap sep w).mono fun e w' ⟨he, hw⟩ => ⟨_, he, .str _, by rw [hw]; exact Below.refl _ _⟩
        | cons x xs =>
          cases p with
          | none => have := (hz rfl).1; simp at this
          | some a =>
            have hcells := hc a rfl
            have hus : us ≠ [] := by
              intro e
              rw [e] at hr
              have := hr.length
              rw [Row.cs_length] at this
              simp [rowS] at this
            have hsp := hcells.1 hus
            have hlt := cells_lt hcells hus
            obtain ⟨b, o, s⟩ := a
            simp only at hsp
            subst hsp
            refine (Try.strings_Join b o cap (x :: xs) sep w (fun j y hy => ?_) hlt hN (by simpa using hn) (by simpa [joinS, ByteArray.size] using hlen)).mono fun e w' ⟨he, hw⟩ => ⟨_, he, .str _, hw⟩
            obtain ⟨u, hu, hru⟩ := hr.get (rowS_get hy)
            have := (hcells.2 j u hu).1
            rw [rep_str hru] at this
            rwa [Addr.add_plain rfl] at this
theorem SCmp_pc (a b : ByteArray) : PC Try.prog 60 [.str a, .str b] (.int .i64 (Lib.compareBytes a.data.toList b.data.toList)) :=
  pc_of_ex Try.func60 (by kernel_rfl) rfl rfl fun w => (Try.strings_Compare a b w).mono fun e w' ⟨he, hw⟩ => ⟨he, by rw [hw]; exact Ex.refl w⟩
def paren (xs : List ByteArray) : ByteArray := if xs.length = 1 then ⟨#[40]⟩ ++ xs.getD 0 ⟨#[]⟩ ++ ⟨#[44, 41]⟩ else ⟨#[40]⟩ ++ joinS xs ⟨#[44, 32]⟩ ++ ⟨#[41]⟩
theorem bracket_pc (xs : List ByteArray) (hN : xs.length ≤ 1000) (hlen : (joinS xs ⟨#[44, 32]⟩).size ≤ 1000000) : PC Try.prog 50 [.sl xs.length (rowS.cs xs)] (.str (paren xs)) := by
  refine pc_of_pwp _ Try.func50 rfl Try.results50 (by kernel_rfl) ?_
  have hj := Join_pc xs ⟨#[44, 32]⟩ (by omega) (by omega)
  have s1 : (⟨#[40]⟩ : ByteArray).size = 1 := rfl
  have t1 : (#[40] : Array UInt8).size = 1 := rfl
  have t2 : (#[41] : Array UInt8).size = 1 := rfl
  have t3 : (#[44, 41] : Array UInt8).size = 2 := rfl
  have s2 : (⟨#[41]⟩ : ByteArray).size = 1 := rfl
  have s3 : (⟨#[44, 41]⟩ : ByteArray).size = 2 := rfl
  by_cases h1 : xs.length = 1
  · have e1 : ((xs.length : Int) == 1) = true := by simp [h1]
    match xs, h1 with
    | [x], _ =>
      have e2 : ((0 : Int) < (([x] : List ByteArray).length : Int)) := by simp
      have e3 : x.size ≤ 1000000 := by
        have : joinS [x] ⟨#[44, 32]⟩ = x := by simp [joinS, Lib.join]
        rw [this] at hlen; exact hlen
      have e4 : rowS.cs [x] = [.str x] := rfl
      have e5 : fits ⟨#[40]⟩ x = true := decide_eq_true (by omega)
      have e6 : fits (⟨#[40]⟩ ++ x) ⟨#[44, 41]⟩ = true := decide_eq_true (by rw [ByteArray.size_append]; omega)
      (have hF := And.intro e1 (And.intro e2 (And.intro e4 (And.intro e5 e6))); repeat' (first|apply th_n|apply wp_sq|apply wp_blk|apply wp_reg|apply wp_regd|(apply nm_and;kernel_rfl)|apply ev_nil|(apply ev_val;rfl;rfl;(simp +decide only [go_sem, hF, Int.le_refl, and_self, Int.toNat_zero] <;> rfl))|(apply ev_wr;rfl;rfl;(simp +decide only [go_sem, hF, Int.le_refl, and_self, Int.toNat_zero] <;> rfl))|(apply ev_st;rfl;rfl;(simp +decide only [go_sem, hF, Int.le_refl, and_self, Int.toNat_zero] <;> rfl))|(apply ev_yes;rfl;rfl;(simp +decide only [go_sem, hF, Int.le_refl, and_self, Int.toNat_zero] <;> rfl))|(apply ev_nt;rfl;rfl;(simp +decide only [go_sem, hF, Int.le_refl, and_self, Int.toNat_zero] <;> rfl))|(apply ev_no;rfl;rfl;(refine Or.inl ?_;(simp +decide only [go_sem, hF, Int.le_refl, and_self, Int.toNat_zero] <;> rfl)))|(apply ev_guard;rfl;rfl;(simp +decide only [go_sem, hF, Int.le_refl, and_self, Int.toNat_zero] <;> rfl);intro _;rotate_left;intro _;rotate_right)|(apply wp_ift;(simp +decide only [go_sem, hF, Int.le_refl, and_self, Int.toNat_zero] <;> rfl))|(apply wp_iff;(simp +decide only [go_sem, hF, Int.le_refl, and_self, Int.toNat_zero] <;> rfl))|(apply wp_ifu;(simp +decide only [go_sem, hF, Int.le_refl, and_self, Int.toNat_zero] <;> rfl);intro _;rotate_left;intro _;rotate_right)|(apply wp_if;(simp +decide only [go_sem, hF, Int.le_refl, and_self, Int.toNat_zero] <;> rfl);intro _;rotate_left;intro _;rotate_right)|apply on_n|apply th_r|apply th_e|apply bl_n|apply bl_r|apply bl_e|(apply bl_o;(rfl))|apply wp_sk|apply wp_lb|apply wp_rt|apply wp_ex|(apply bq_r;(simp +decide only [go_sem, hF, Int.le_refl, and_self, Int.toNat_zero] <;> rfl))|(apply bq_n;(simp +decide only [go_sem, hF, Int.le_refl, and_self, Int.toNat_zero] <;> rfl))))
      rfl
  · have e1 : ((xs.length : Int) == 1) = false := by simp; omega
    generalize hjj : joinS xs ⟨#[44, 32]⟩ = y at *
    have e5 : fits ⟨#[40]⟩ y = true := decide_eq_true (by omega)
    have e6 : fits (⟨#[40]⟩ ++ y) ⟨#[41]⟩ = true := decide_eq_true (by rw [ByteArray.size_append]; omega)
    (have hF := And.intro e1 (And.intro e5 e6); repeat' (first|apply th_n|apply wp_sq|apply wp_blk|apply wp_reg|apply wp_regd|(apply nm_and;kernel_rfl)|apply ev_nil|(apply ev_val;rfl;rfl;(simp +decide only [go_sem, hF] <;> rfl))|(apply ev_call;rfl;rfl;rfl;(simp +decide only [go_sem, hF] <;> rfl);(simp +decide only [go_sem, hF] <;> rfl);(first|exact hj))|(apply ev_wr;rfl;rfl;(simp +decide only [go_sem, hF] <;> rfl))|(apply ev_st;rfl;rfl;(simp +decide only [go_sem, hF] <;> rfl))|(apply ev_yes;rfl;rfl;(simp +decide only [go_sem, hF] <;> rfl))|(apply ev_nt;rfl;rfl;(simp +decide only [go_sem, hF] <;> rfl))|(apply ev_no;rfl;rfl;(refine Or.inl ?_;(simp +decide only [go_sem, hF] <;> rfl)))|(apply ev_guard;rfl;rfl;(simp +decide only [go_sem, hF] <;> rfl);intro _;rotate_left;intro _;rotate_right)|(apply wp_ift;(simp +decide only [go_sem, hF] <;> rfl))|(apply wp_iff;(simp +decide only [go_sem, hF] <;> rfl))|(apply wp_ifu;(simp +decide only [go_sem, hF] <;> rfl);intro _;rotate_left;intro _;rotate_right)|(apply wp_if;(simp +decide only [go_sem, hF] <;> rfl);intro _;rotate_left;intro _;rotate_right)|apply on_n|apply th_r|apply th_e|apply bl_n|apply bl_r|apply bl_e|(apply bl_o;(rfl))|apply wp_sk|apply wp_lb|apply wp_rt|apply wp_ex|(apply bq_r;(simp +decide only [go_sem, hF] <;> rfl))|(apply bq_n;(simp +decide only [go_sem, hF] <;> rfl))))
    rw [paren, if_neg h1, hjj]; rfl
end Go.Proofs.Ytandclggkgmpgaa
