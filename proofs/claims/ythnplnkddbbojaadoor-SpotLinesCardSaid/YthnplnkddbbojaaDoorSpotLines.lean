/- SpotLines: for every input the law returns true, and each argument reads as it did; the package's variable starts as the program's text lays it. -/
import Derived.Test.YthnplnkddbbojaaDoorT
namespace Go.Proofs.YthnplnkddbbojaaDoor
open Go.AM Go.Proofs Go.ChangeShapes Go.WideShapes Go.ChangeAt Go.RowKit

theorem spotLines_laid_met (os : Os) : laidMet Tryd.prog Rows.spotLinesRow.laid ((laidWorld os).forCall (fun _ _ => 0) ⟨#[], #[.string ⟨#[]⟩], []⟩).memory :=
  laidMet_of_run' 8 (by kernel_rfl) (by kernel_rfl)
theorem spotLines_reads (os : Os) {H : Type} (enc : TypeId × Value → H) : ∃ ds places, DataW.whole enc Tryd.prog ((laidWorld os).forCall (fun _ _ => 0) ⟨#[], #[.string ⟨#[]⟩], []⟩).memory Tryd.f4.params.toList Rows.spotLinesSpec.vars false (#[.string ⟨#[]⟩] : Array Value).toList 8 = some (ds, [], places) :=
  ⟨[.lit (.string [])], [], by kernel_rfl⟩

set_option maxRecDepth 100000 in
theorem spotLines_lifted (os : Os) (started : os.Started) (H : Type) (enc : TypeId × Value → H) (F : Stop.Interp) :
    ReturnsInHanded {} Tryd.checked os 4 .any ((OpenSpec.ofChange Rows.spotLinesSpec).preRow enc Tryd.prog Tryd.f4 Rows.spotLinesRow.domain false Rows.spotLinesRow.laid) (((OpenSpec.ofChange Rows.spotLinesSpec).at F).post enc Tryd.prog Tryd.f4 false true false false) := by
  obtain ⟨ds, places, hx⟩ := spotLines_reads os enc
  refine returnsInHanded_of_row (C := Tryd.checked) (s := OpenSpec.ofChange Rows.spotLinesSpec) own started (by kernel_rfl) Tryd.func4
    (witness_row_at (enc := enc) (C := Tryd.checked) false (laidWorld os) #[.string ⟨#[]⟩] rfl (by kernel_rfl) (by kernel_rfl) (by kernel_rfl)
      (OpenSpec.preRow_of_cond 8 hx (by kernel_rfl) (fun k hk => by cases hk) (by kernel_rfl) (spotLines_laid_met os))) ?_
  intro W base args ds gs before hval hW _ _ _ hL hsh _
  obtain ⟨m, hm⟩ := Tryd.laysM219.s1_3 W hsh
  refine law_calls (Γ := ΓW m) (shs := [(false, .str)]) laid mapsR (tb := 4) (by kernel_rfl) u4 (of_decide_eq_true (by kernel_rfl)) (by kernel_rfl) rfl ?_ (ΓW_ok hL hm) ?_ hval hW
  · intro ds hds
    match ds, hds with
    | [d0], _ => exact ⟨rfl, rfl, rfl⟩
  · intro xs has
    obtain ⟨s, rfl⟩ := args_str has
    exact p_SpotLines (ΓW_S m) s

theorem spotLines_said : Rows.SpotLinesSaid :=
  OpenClaim.holds_of_cond 4 Tryd.f4 rfl rfl rfl rfl rfl rfl rfl ⟨rfl, rfl, rfl, rfl, rfl⟩ rfl rfl rfl rfl rfl (by kernel_rfl) Tryd.func4 (by kernel_rfl)
    (of_decide_eq_true (by kernel_rfl)) (by unfold Func.isWrapper; first | (rw [if_pos (by decide +kernel)]; kernel_rfl) | (rw [if_neg (by decide +kernel)]; exact ⟨rfl, rfl⟩))
    (fun os started H enc _ F => by rw [OpenClaim.pre_eq_preRow]; exact spotLines_lifted os started H enc F)

theorem spotLines_plain (f : FuncId) (fn : Func) (hf : Tryd.pinned.checked.prog.funcNamed "patchbay/patchbaylaw01.SpotLines" = some f) (hfn : Tryd.pinned.checked.prog.funcs[f]? = some fn) :
    false = Tryd.pinned.checked.prog.looks [] ∧ ∀ (j : Nat) t, fn.params[j]? = some t → Tryd.pinned.checked.prog.wantsStandIn t = false := by
  obtain rfl : f = 4 := Option.some.inj ((show Tryd.prog.funcNamed "patchbay/patchbaylaw01.SpotLines" = some 4 by kernel_rfl).symm.trans hf) |>.symm
  obtain rfl : fn = Tryd.f4 := (Option.some.inj (Tryd.func4.symm.trans hfn)).symm
  refine ⟨by kernel_rfl, fun j t ht => ?_⟩
  have h1 : (Tryd.f4.params.toList.all fun t => !Tryd.prog.wantsStandIn t) = true := by kernel_rfl
  have h2 := List.all_eq_true.1 h1 t (by simpa using Array.mem_of_getElem? ht)
  revert h2
  show (!Tryd.prog.wantsStandIn t) = true → Tryd.prog.wantsStandIn t = false
  cases Tryd.prog.wantsStandIn t <;> intro h <;> first | rfl | cases h

theorem spotLines_holds : Rows.SpotLinesCardSaid :=
  Claim7.holds_tied_plain_at .later [] _ _ _ _ spotLines_said (fun _ h => by cases h) (by kernel_rfl) (fun _ h => by cases h) spotLines_row_tie rfl ⟨rfl, rfl⟩ (by kernel_rfl) rfl spotLines_plain (by kernel_rfl)
#print axioms spotLines_holds
end Go.Proofs.YthnplnkddbbojaaDoor
