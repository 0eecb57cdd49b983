/- SpotOrder: for every input the law returns true, and each argument reads as it did; the package's variable starts as the program's text lays it. -/
import Derived.Test.YthnplnkddbbojaaDoorT
namespace Go.Proofs.YthnplnkddbbojaaDoor
open Go.AM Go.Proofs Go.ChangeShapes Go.WideShapes Go.ChangeAt Go.RowKit

theorem spotOrder_laid_met (os : Os) : laidMet Tryd.prog Rows.spotOrderRow.laid ((laidWorld os).forCall (fun _ _ => 0) ⟨#[], #[.string ⟨#[]⟩, .int .u8 0, .int .u8 0], []⟩).memory :=
  laidMet_of_run' 8 (by kernel_rfl) (by kernel_rfl)
theorem spotOrder_reads (os : Os) {H : Type} (enc : TypeId × Value → H) : ∃ ds places, DataW.whole enc Tryd.prog ((laidWorld os).forCall (fun _ _ => 0) ⟨#[], #[.string ⟨#[]⟩, .int .u8 0, .int .u8 0], []⟩).memory Tryd.f6.params.toList Rows.spotOrderSpec.vars false (#[.string ⟨#[]⟩, .int .u8 0, .int .u8 0] : Array Value).toList 8 = some (ds, [], places) :=
  ⟨[.lit (.string []), .lit (.int .u8 0), .lit (.int .u8 0)], [], by kernel_rfl⟩

set_option maxRecDepth 100000 in
theorem spotOrder_lifted (os : Os) (started : os.Started) (H : Type) (enc : TypeId × Value → H) (F : Stop.Interp) :
    ReturnsInHanded {} Tryd.checked os 6 .any ((OpenSpec.ofChange Rows.spotOrderSpec).preRow enc Tryd.prog Tryd.f6 Rows.spotOrderRow.domain false Rows.spotOrderRow.laid) (((OpenSpec.ofChange Rows.spotOrderSpec).at F).post enc Tryd.prog Tryd.f6 false true false false) := by
  obtain ⟨ds, places, hx⟩ := spotOrder_reads os enc
  refine returnsInHanded_of_row (C := Tryd.checked) (s := OpenSpec.ofChange Rows.spotOrderSpec) own started (by kernel_rfl) Tryd.func6
    (witness_row_at (enc := enc) (C := Tryd.checked) false (laidWorld os) #[.string ⟨#[]⟩, .int .u8 0, .int .u8 0] rfl (by kernel_rfl) (by kernel_rfl) (by kernel_rfl)
      (OpenSpec.preRow_of_cond 8 hx (by kernel_rfl) (fun k hk => by cases hk) (by kernel_rfl) (spotOrder_laid_met os))) ?_
  intro W base args ds gs before hval hW _ _ _ hL hsh _
  obtain ⟨m, hm⟩ := Tryd.laysM219.s1_3 W hsh
  refine law_calls (Γ := ΓW m) (shs := [(false, .str), (false, .int .u8), (false, .int .u8)]) laid mapsR (tb := 4) (by kernel_rfl) u4 (of_decide_eq_true (by kernel_rfl)) (by kernel_rfl) rfl ?_ (ΓW_ok hL hm) ?_ hval hW
  · intro ds hds
    match ds, hds with
    | [d0, d1, d2], _ => exact ⟨rfl, rfl, rfl⟩
  · intro xs has
    obtain ⟨s, a, b, rfl, ⟨h1, h2⟩, h3, h4⟩ := args_str2 has
    simp [IntKind.min, IntKind.max, IntKind.signed, IntKind.bits] at h1 h2 h3 h4
    exact p_SpotOrder (ΓW_S m) s a b ⟨by omega, by omega⟩ ⟨by omega, by omega⟩

theorem spotOrder_said : Rows.SpotOrderSaid :=
  OpenClaim.holds_of_cond 6 Tryd.f6 rfl rfl rfl rfl rfl rfl rfl ⟨rfl, rfl, rfl, rfl, rfl⟩ rfl rfl rfl rfl rfl (by kernel_rfl) Tryd.func6 (by kernel_rfl)
    (of_decide_eq_true (by kernel_rfl)) (by unfold Func.isWrapper; first | (rw [if_pos (by decide +kernel)]; kernel_rfl) | (rw [if_neg (by decide +kernel)]; exact ⟨rfl, rfl⟩))
    (fun os started H enc _ F => by rw [OpenClaim.pre_eq_preRow]; exact spotOrder_lifted os started H enc F)

theorem spotOrder_plain (f : FuncId) (fn : Func) (hf : Tryd.pinned.checked.prog.funcNamed "patchbay/patchbaylaw01.SpotOrder" = some f) (hfn : Tryd.pinned.checked.prog.funcs[f]? = some fn) :
    false = Tryd.pinned.checked.prog.looks [] ∧ ∀ (j : Nat) t, fn.params[j]? = some t → Tryd.pinned.checked.prog.wantsStandIn t = false := by
  obtain rfl : f = 6 := Option.some.inj ((show Tryd.prog.funcNamed "patchbay/patchbaylaw01.SpotOrder" = some 6 by kernel_rfl).symm.trans hf) |>.symm
  obtain rfl : fn = Tryd.f6 := (Option.some.inj (Tryd.func6.symm.trans hfn)).symm
  refine ⟨by kernel_rfl, fun j t ht => ?_⟩
  have h1 : (Tryd.f6.params.toList.all fun t => !Tryd.prog.wantsStandIn t) = true := by kernel_rfl
  have h2 := List.all_eq_true.1 h1 t (by simpa using Array.mem_of_getElem? ht)
  revert h2
  show (!Tryd.prog.wantsStandIn t) = true → Tryd.prog.wantsStandIn t = false
  cases Tryd.prog.wantsStandIn t <;> intro h <;> first | rfl | cases h

theorem spotOrder_holds : Rows.SpotOrderCardSaid :=
  Claim7.holds_tied_plain_at .later [] _ _ _ _ spotOrder_said (fun _ h => by cases h) (by kernel_rfl) (fun _ h => by cases h) spotOrder_row_tie rfl ⟨rfl, rfl⟩ (by kernel_rfl) rfl spotOrder_plain (by kernel_rfl)
#print axioms spotOrder_holds
end Go.Proofs.YthnplnkddbbojaaDoor
