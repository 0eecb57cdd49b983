/- SpotEnds: for every input the law returns true, and each argument reads as it did; the package's variable starts as the program's text lays it. -/
import Derived.Test.YthnplnkddbbojaaDoorT
namespace Go.Proofs.YthnplnkddbbojaaDoor
open Go.AM Go.Proofs Go.ChangeShapes Go.WideShapes Go.ChangeAt Go.RowKit

theorem spotEnds_laid_met (os : Os) : laidMet Tryd.prog Rows.spotEndsRow.laid ((laidWorld os).forCall (fun _ _ => 0) ⟨#[], #[.string ⟨#[]⟩, .int .i64 0, .int .i64 0], []⟩).memory :=
  laidMet_of_run' 8 (by kernel_rfl) (by kernel_rfl)
theorem spotEnds_reads (os : Os) {H : Type} (enc : TypeId × Value → H) : ∃ ds places, DataW.whole enc Tryd.prog ((laidWorld os).forCall (fun _ _ => 0) ⟨#[], #[.string ⟨#[]⟩, .int .i64 0, .int .i64 0], []⟩).memory Tryd.f8.params.toList Rows.spotEndsSpec.vars false (#[.string ⟨#[]⟩, .int .i64 0, .int .i64 0] : Array Value).toList 8 = some (ds, [], places) :=
  ⟨[.lit (.string []), .lit (.int .i64 0), .lit (.int .i64 0)], [], by kernel_rfl⟩

set_option maxRecDepth 100000 in
theorem spotEnds_lifted (os : Os) (started : os.Started) (H : Type) (enc : TypeId × Value → H) (F : Stop.Interp) :
    ReturnsInHanded {} Tryd.checked os 8 .any ((OpenSpec.ofChange Rows.spotEndsSpec).preRow enc Tryd.prog Tryd.f8 Rows.spotEndsRow.domain false Rows.spotEndsRow.laid) (((OpenSpec.ofChange Rows.spotEndsSpec).at F).post enc Tryd.prog Tryd.f8 false true false false) := by
  obtain ⟨ds, places, hx⟩ := spotEnds_reads os enc
  refine returnsInHanded_of_row (C := Tryd.checked) (s := OpenSpec.ofChange Rows.spotEndsSpec) own started (by kernel_rfl) Tryd.func8
    (witness_row_at (enc := enc) (C := Tryd.checked) false (laidWorld os) #[.string ⟨#[]⟩, .int .i64 0, .int .i64 0] rfl (by kernel_rfl) (by kernel_rfl) (by kernel_rfl)
      (OpenSpec.preRow_of_cond 8 hx (by kernel_rfl) (fun k hk => by cases hk) (by kernel_rfl) (spotEnds_laid_met os))) ?_
  intro W base args ds gs before hval hW _ _ _ hL hsh _
  obtain ⟨m, hm⟩ := Tryd.laysM219.s1_3 W hsh
  refine law_calls (Γ := ΓW m) (shs := [(false, .str), (false, .int .i64), (false, .int .i64)]) laid mapsR (tb := 4) (by kernel_rfl) u4 (of_decide_eq_true (by kernel_rfl)) (by kernel_rfl) rfl ?_ (ΓW_ok hL hm) ?_ hval hW
  · intro ds hds
    match ds, hds with
    | [d0, d1, d2], _ => exact ⟨rfl, rfl, rfl⟩
  · intro xs has
    obtain ⟨s, n, e, rfl, _⟩ := args_str2 has
    exact p_SpotEnds (ΓW_S m) s n e

theorem spotEnds_said : Rows.SpotEndsSaid :=
  OpenClaim.holds_of_cond 8 Tryd.f8 rfl rfl rfl rfl rfl rfl rfl ⟨rfl, rfl, rfl, rfl, rfl⟩ rfl rfl rfl rfl rfl (by kernel_rfl) Tryd.func8 (by kernel_rfl)
    (of_decide_eq_true (by kernel_rfl)) (by unfold Func.isWrapper; first | (rw [if_pos (by decide +kernel)]; kernel_rfl) | (rw [if_neg (by decide +kernel)]; exact ⟨rfl, rfl⟩))
    (fun os started H enc _ F => by rw [OpenClaim.pre_eq_preRow]; exact spotEnds_lifted os started H enc F)

theorem spotEnds_plain (f : FuncId) (fn : Func) (hf : Tryd.pinned.checked.prog.funcNamed "patchbay/patchbaylaw01.SpotEnds" = some f) (hfn : Tryd.pinned.checked.prog.funcs[f]? = some fn) :
    false = Tryd.pinned.checked.prog.looks [] ∧ ∀ (j : Nat) t, fn.params[j]? = some t → Tryd.pinned.checked.prog.wantsStandIn t = false := by
  obtain rfl : f = 8 := Option.some.inj ((show Tryd.prog.funcNamed "patchbay/patchbaylaw01.SpotEnds" = some 8 by kernel_rfl).symm.trans hf) |>.symm
  obtain rfl : fn = Tryd.f8 := (Option.some.inj (Tryd.func8.symm.trans hfn)).symm
  refine ⟨by kernel_rfl, fun j t ht => ?_⟩
  have h1 : (Tryd.f8.params.toList.all fun t => !Tryd.prog.wantsStandIn t) = true := by kernel_rfl
  have h2 := List.all_eq_true.1 h1 t (by simpa using Array.mem_of_getElem? ht)
  revert h2
  show (!Tryd.prog.wantsStandIn t) = true → Tryd.prog.wantsStandIn t = false
  cases Tryd.prog.wantsStandIn t <;> intro h <;> first | rfl | cases h

theorem spotEnds_holds : Rows.SpotEndsCardSaid :=
  Claim7.holds_tied_plain_at .later [] _ _ _ _ spotEnds_said (fun _ h => by cases h) (by kernel_rfl) (fun _ h => by cases h) spotEnds_row_tie rfl ⟨rfl, rfl⟩ (by kernel_rfl) rfl spotEnds_plain (by kernel_rfl)
#print axioms spotEnds_holds
end Go.Proofs.YthnplnkddbbojaaDoor
