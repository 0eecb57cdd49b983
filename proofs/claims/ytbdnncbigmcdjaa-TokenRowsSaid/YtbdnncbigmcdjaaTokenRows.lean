/- TokenRows: for every two rows of tokens the law returns true, and they read as they did; no condition. -/
import Derived.Test.YtbdnncbigmcdjaaF
namespace Go.Proofs.Ytbdnncbigmcdjaa
open Go.AM Go.Proofs Go.ChangeShapes Go.WideShapes Go.ChangeAt Go.RowKit

set_option maxRecDepth 100000 in
theorem tokenRows_lifted (os : Os) (started : os.Started) (H : Type) (enc : TypeId × Value → H) :
    ReturnsInHanded {} Try.checked os n_w03_TokenRows .any (Rows.tokenRowsSpec.pre6 enc Try.prog Try.f4 Rows.tokenRowsRow.domain false) (Rows.tokenRowsSpec.post enc Try.prog Try.f4 false true false false) := by
  refine returnsInHanded_of_change_shaped (C := Try.checked) own started (by kernel_rfl) Try.func4
    (ChangeSpec.witness6 (enc := enc) (C := Try.checked) false ⟨#[], #[.slice none 0 0, .slice none 0 0], []⟩ 8 (by kernel_rfl) (by kernel_rfl) (by kernel_rfl) (by kernel_rfl)) ?_
  intro W base args ds gs before hval hW _ _ hsh _
  obtain ⟨m, hm⟩ := Try.laysM219.s1_3 W hsh
  refine law_calls (Γ := ΓW m) (shs := [(false, .list 3 true (.parts [.int .i64, .str, .int .i64])), (false, .list 3 true (.parts [.int .i64, .str, .int .i64]))]) laid mapsR (tb := 4) (by kernel_rfl) Try.underlying4 (of_decide_eq_true (by kernel_rfl)) (by kernel_rfl) rfl ?_ (ΓW_ok hm) ?_ hval hW
  · intro ds hds
    match ds, hds with
    | [d1, d2], _ => exact ⟨rfl, rfl, rfl⟩
  · intro xs has
    obtain ⟨a, b, rfl⟩ := args_toks has
    exact l_TokenRows (ΓW_M m) a b (.inl rfl) (.inl rfl)

theorem tokenRows_holds : Rows.TokenRowsSaid :=
  OpenClaim.holds_of_wide 4 Try.f4 rfl rfl rfl rfl rfl rfl rfl ⟨rfl, rfl, rfl, rfl, rfl⟩ rfl rfl rfl rfl rfl (by kernel_rfl) Try.func4 (by kernel_rfl)
    (of_decide_eq_true (by kernel_rfl)) (by unfold Func.isWrapper; first | (rw [if_pos (by decide +kernel)]; kernel_rfl) | (rw [if_neg (by decide +kernel)]; exact ⟨rfl, rfl⟩))
    (fun os started H enc _ => tokenRows_lifted os started H enc)
#print axioms tokenRows_holds
end Go.Proofs.Ytbdnncbigmcdjaa
