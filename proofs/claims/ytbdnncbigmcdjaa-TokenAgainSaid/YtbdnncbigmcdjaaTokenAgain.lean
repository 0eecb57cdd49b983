/- TokenAgain: for every text the law returns true, and the text reads as it did; no condition. -/
import Derived.Test.YtbdnncbigmcdjaaF
import Derived.Test.YtbdnncbigmcdjaaFP
namespace Go.Proofs.Ytbdnncbigmcdjaa
open Go.AM Go.Proofs Go.ChangeShapes Go.WideShapes Go.ChangeAt Go.RowKit

set_option maxRecDepth 100000 in
theorem tokenAgain_lifted (os : Os) (started : os.Started) (H : Type) (enc : TypeId × Value → H) :
    ReturnsInHanded {} Try.checked os n_w03_TokenAgain .any (Rows.tokenAgainSpec.pre6 enc Try.prog Try.f5 Rows.tokenAgainRow.domain false) (Rows.tokenAgainSpec.post enc Try.prog Try.f5 false true false false) := by
  refine returnsInHanded_of_change_shaped (C := Try.checked) own started (by kernel_rfl) Try.func5
    (ChangeSpec.witness6 (enc := enc) (C := Try.checked) false ⟨#[], #[.string ⟨#[]⟩], []⟩ 8 (by kernel_rfl) (by kernel_rfl) (by kernel_rfl) (by kernel_rfl)) ?_
  intro W base args ds gs before hval hW _ _ hsh _
  obtain ⟨m, hm⟩ := Try.laysM219.s1_3 W hsh
  refine law_calls (Γ := ΓW m) (shs := [(false, .str)]) laid mapsR (tb := 4) (by kernel_rfl) Try.underlying4 (of_decide_eq_true (by kernel_rfl)) (by kernel_rfl) rfl ?_ (ΓW_ok hm) ?_ hval hW
  · intro ds hds
    match ds, hds with
    | [d], _ => exact ⟨rfl, rfl, rfl⟩
  · intro xs has
    obtain ⟨s, rfl⟩ := args_str has
    exact l_TokenAgain (ΓW_M m) s

theorem tokenAgain_holds : Rows.TokenAgainSaid :=
  OpenClaim.holds_of_wide 5 Try.f5 rfl rfl rfl rfl rfl rfl rfl ⟨rfl, rfl, rfl, rfl, rfl⟩ rfl rfl rfl rfl rfl (by kernel_rfl) Try.func5 (by kernel_rfl)
    (of_decide_eq_true (by kernel_rfl)) (by unfold Func.isWrapper; first | (rw [if_pos (by decide +kernel)]; kernel_rfl) | (rw [if_neg (by decide +kernel)]; exact ⟨rfl, rfl⟩))
    (fun os started H enc _ => tokenAgain_lifted os started H enc)
#print axioms tokenAgain_holds
end Go.Proofs.Ytbdnncbigmcdjaa
