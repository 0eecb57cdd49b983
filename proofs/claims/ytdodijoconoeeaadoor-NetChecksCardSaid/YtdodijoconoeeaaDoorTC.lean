/- NetChecks: for every input the law returns true, and each argument reads as it did; the package's variables start as the program's text lays them. -/
import Derived.Test.YtdodijoconoeeaaDoorT
set_option linter.unusedSimpArgs false
set_option linter.unusedVariables false
namespace Go.Proofs.YtdodijoconoeeaaDoor
open Go.AM Go.Proofs Go.ChangeShapes Go.WideShapes Go.ChangeAt Go.RowKit

theorem netChecks_reads (os : Os) {H : Type} (enc : TypeId × Value → H) : ∃ ds places, DataW.whole enc Tryd.prog ((startW os).forCall (fun _ _ => 0) ⟨#[], #[.agg #[.slice none 0 0, .slice none 0 0, .slice none 0 0, .slice none 0 0], .agg #[.slice none 0 0, .slice none 0 0, .slice none 0 0, .slice none 0 0], .string ⟨#[]⟩], []⟩).memory Tryd.f3.params.toList Rows.netChecksSpec.vars false (#[.agg #[.slice none 0 0, .slice none 0 0, .slice none 0 0, .slice none 0 0], .agg #[.slice none 0 0, .slice none 0 0, .slice none 0 0, .slice none 0 0], .string ⟨#[]⟩] : Array Value).toList 8 = some (ds, [], places) :=
  ⟨[.agg [.nil, .nil, .nil, .nil], .agg [.nil, .nil, .nil, .nil], .lit (.string [])], [], by kernel_rfl⟩

set_option maxRecDepth 100000 in
theorem netChecks_lifted (os : Os) (started : os.Started) (H : Type) (enc : TypeId × Value → H) (F : Stop.Interp) :
    ReturnsInHanded {} Tryd.checked os 3 .any ((OpenSpec.ofChange Rows.netChecksSpec).preRow enc Tryd.prog Tryd.f3 Rows.netChecksRow.domain false Rows.netChecksRow.laid) (((OpenSpec.ofChange Rows.netChecksSpec).at F).post enc Tryd.prog Tryd.f3 false true false false) := by
  obtain ⟨ds, places, hx⟩ := netChecks_reads os enc
  refine returnsInHanded_of_row (C := Tryd.checked) (s := OpenSpec.ofChange Rows.netChecksSpec) own started (by kernel_rfl) Tryd.func3
    (witness_row_at (enc := enc) (C := Tryd.checked) false (startW os) #[.agg #[.slice none 0 0, .slice none 0 0, .slice none 0 0, .slice none 0 0], .agg #[.slice none 0 0, .slice none 0 0, .slice none 0 0, .slice none 0 0], .string ⟨#[]⟩] rfl (by kernel_rfl) (by kernel_rfl) (by kernel_rfl)
      (OpenSpec.preRow_of_cond 8 hx (by kernel_rfl) (fun k hk => by cases hk) (by kernel_rfl) (door_met os _))) ?_
  intro W base args ds gs before hval hW _ _ _ hL hsh _
  obtain ⟨Γ, hΓ, hok⟩ := ins_laid hL
  refine law_callsQ Down.any (Γ := Γ) (shs := [(true, shCt), (true, shCt), (false, .str)]) laid mapsR (tb := 4) (by kernel_rfl) u4 (of_decide_eq_true (by kernel_rfl)) (by kernel_rfl) rfl ?_ hok ?_ hval hW (fun _ _ => trivial)
  · intro ds hds
    match ds, hds with
    | [d1, d2, d3], _ => exact ⟨rfl, rfl, rfl⟩
  · intro xs has
    simp only [IsArgs] at has
    obtain ⟨_, _, rfl, h1, _, _, _, rfl, h2, _, _, _, rfl, h3, _, rfl⟩ := has
    obtain ⟨a1, l1⟩ := dec_ct h1
    obtain ⟨a2, l2⟩ := dec_ct h2
    obtain ⟨a3, rfl⟩ := dec_str h3
    simp only [mkA, l1, l2]
    exact l_NetChecks hΓ a1 a2 a3

theorem netChecks_said : Rows.NetChecksSaid :=
  OpenClaim.holds_of_cond 3 Tryd.f3 rfl rfl rfl rfl rfl rfl rfl ⟨rfl, rfl, rfl, rfl, rfl⟩ rfl rfl rfl rfl rfl (by kernel_rfl) Tryd.func3 (by kernel_rfl)
    (of_decide_eq_true (by kernel_rfl)) (by unfold Func.isWrapper; first | (rw [if_pos (by decide +kernel)]; kernel_rfl) | (rw [if_neg (by decide +kernel)]; exact ⟨rfl, rfl⟩))
    (fun os started H enc _ F => by rw [OpenClaim.pre_eq_preRow]; exact netChecks_lifted os started H enc F)

theorem netChecks_plain (f : FuncId) (fn : Func) (hf : Tryd.pinned.checked.prog.funcNamed "patchbay/patchbaylaw06.NetChecks" = some f) (hfn : Tryd.pinned.checked.prog.funcs[f]? = some fn) :
    true = Tryd.pinned.checked.prog.looks [] ∧ ∀ (j : Nat) t, fn.params[j]? = some t → Tryd.pinned.checked.prog.wantsStandIn t = false := by
  obtain rfl : f = 3 := Option.some.inj ((show Tryd.prog.funcNamed "patchbay/patchbaylaw06.NetChecks" = some 3 by kernel_rfl).symm.trans hf) |>.symm
  obtain rfl : fn = Tryd.f3 := (Option.some.inj (Tryd.func3.symm.trans hfn)).symm
  refine ⟨by kernel_rfl, fun j t ht => ?_⟩
  have h1 : (Tryd.f3.params.toList.all fun t => !Tryd.prog.wantsStandIn t) = true := by kernel_rfl
  have h2 := List.all_eq_true.1 h1 t (by simpa using Array.mem_of_getElem? ht)
  revert h2
  show (!Tryd.prog.wantsStandIn t) = true → Tryd.prog.wantsStandIn t = false
  cases Tryd.prog.wantsStandIn t <;> intro h <;> first | rfl | cases h

theorem netChecks_holds : Rows.NetChecksCardSaid :=
  Claim7.holds_tied_plain_at .later [] _ _ _ _ netChecks_said (fun _ h => by cases h) (by kernel_rfl) (fun _ h => by cases h) netChecks_row_tie rfl ⟨rfl, rfl⟩ (by kernel_rfl) rfl netChecks_plain (by kernel_rfl)
#print axioms netChecks_holds
end Go.Proofs.YtdodijoconoeeaaDoor
