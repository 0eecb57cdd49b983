/- CnfTells: for every input the law returns true, and it reads as it did; no condition. -/
import Derived.Test.YtfpkjfmpamlakaaT
set_option linter.unusedSimpArgs false
set_option linter.unusedVariables false
namespace Go.Proofs.Ytfpkjfmpamlakaa
open Go.AM Go.Proofs Go.ChangeShapes Go.WideShapes Go.ChangeAt Go.RowKit

set_option maxRecDepth 100000 in
theorem cnfTells_lifted (os : Os) (started : os.Started) (H : Type) (enc : TypeId × Value → H) :
    ReturnsInHanded {} Try.checked os n_w19_CnfTells .any (Rows.cnfTellsSpec.pre6 enc Try.prog Try.f3 Rows.cnfTellsRow.domain false) (Rows.cnfTellsSpec.post enc Try.prog Try.f3 false true false false) := by
  refine returnsInHanded_of_change_shaped (C := Try.checked) own started (by kernel_rfl) Try.func3
    (ChangeSpec.witness6 (enc := enc) (C := Try.checked) false ⟨#[], #[.slice none 0 0, .int .i64 0, .slice none 0 0, .agg #[.int .i64 0, .slice none 0 0, .slice none 0 0], .agg #[.int .i64 0, .slice none 0 0, .slice none 0 0], .int .i64 0, .int .i64 0], []⟩ 8 (by kernel_rfl) (by kernel_rfl) (by kernel_rfl) (by kernel_rfl)) ?_
  intro W base args ds gs before hval hW _ _ hsh _
  refine law_calls (Γ := ΓW) (shs := [(false, shIss), (false, shI), (false, shBs), (true, shCn), (true, shCn), (false, shI), (false, shI)]) laid mapsR (tb := 4) (by kernel_rfl) Try.underlying4 (of_decide_eq_true (by kernel_rfl)) (by kernel_rfl) rfl ?_ ΓW_ok ?_ hval hW
  · intro ds hds
    match ds, hds with
    | [d1, d2, d3, d4, d5, d6, d7], _ => exact ⟨rfl, rfl, rfl⟩
  · intro xs has
    simp only [IsArgs] at has
    obtain ⟨_, _, rfl, h1, _, _, _, rfl, h2, _, _, _, rfl, h3, _, _, _, rfl, h4, _, _, _, rfl, h5, _, _, _, rfl, h6, _, _, _, rfl, h7, _, rfl⟩ := has
    obtain ⟨a, rfl⟩ := dec_rows h1
    obtain ⟨vars, rfl, _⟩ := dec_int h2
    obtain ⟨v, rfl⟩ := dec_bools h3
    obtain ⟨u, hu⟩ := dec_cn h4
    obtain ⟨w, hw⟩ := dec_cn h5
    obtain ⟨t, rfl, _⟩ := dec_int h6
    obtain ⟨lit, rfl, hl, _⟩ := dec_int h7
    simp only [mkA, hu, hw]
    exact l_CnfTells a .self vars v .self u w t lit hl

theorem cnfTells_holds : Rows.CnfTellsSaid :=
  OpenClaim.holds_of_wide 3 Try.f3 rfl rfl rfl rfl rfl rfl rfl ⟨rfl, rfl, rfl, rfl, rfl⟩ rfl rfl rfl rfl rfl (by kernel_rfl) Try.func3 (by kernel_rfl)
    (of_decide_eq_true (by kernel_rfl)) (by unfold Func.isWrapper; first | (rw [if_pos (by decide +kernel)]; kernel_rfl) | (rw [if_neg (by decide +kernel)]; exact ⟨rfl, rfl⟩))
    (fun os started H enc _ => cnfTells_lifted os started H enc)
#print axioms cnfTells_holds
end Go.Proofs.Ytfpkjfmpamlakaa
