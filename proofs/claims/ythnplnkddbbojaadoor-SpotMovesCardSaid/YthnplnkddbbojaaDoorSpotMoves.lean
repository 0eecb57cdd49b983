/- SpotMoves: for every input the law returns true, and each argument reads as it did; the package's variable starts as the program's text lays it. -/
import Derived.Test.YthnplnkddbbojaaDoorT
namespace Go.Proofs.YthnplnkddbbojaaDoor
open Go.AM Go.Proofs Go.ChangeShapes Go.WideShapes Go.ChangeAt Go.RowKit

theorem spotMoves_laid_met (os : Os) : laidMet Tryd.prog Rows.spotMovesRow.laid ((laidWorld os).forCall (fun _ _ => 0) ⟨#[], #[.string ⟨#[]⟩, .string ⟨#[]⟩, .int .i16 0, .int .i16 0], []⟩).memory :=
  laidMet_of_run' 8 (by kernel_rfl) (by kernel_rfl)
theorem spotMoves_reads (os : Os) {H : Type} (enc : TypeId × Value → H) : ∃ ds places, DataW.whole enc Tryd.prog ((laidWorld os).forCall (fun _ _ => 0) ⟨#[], #[.string ⟨#[]⟩, .string ⟨#[]⟩, .int .i16 0, .int .i16 0], []⟩).memory Tryd.f7.params.toList Rows.spotMovesSpec.vars false (#[.string ⟨#[]⟩, .string ⟨#[]⟩, .int .i16 0, .int .i16 0] : Array Value).toList 8 = some (ds, [], places) :=
  ⟨[.lit (.string []), .lit (.string []), .lit (.int .i16 0), .lit (.int .i16 0)], [], by kernel_rfl⟩

set_option maxRecDepth 100000 in
theorem spotMoves_lifted (os : Os) (started : os.Started) (H : Type) (enc : TypeId × Value → H) (F : Stop.Interp) :
    ReturnsInHanded {} Tryd.checked os 7 .any ((OpenSpec.ofChange Rows.spotMovesSpec).preRow enc Tryd.prog Tryd.f7 Rows.spotMovesRow.domain false Rows.spotMovesRow.laid) (((OpenSpec.ofChange Rows.spotMovesSpec).at F).post enc Tryd.prog Tryd.f7 false true false false) := by
  obtain ⟨ds, places, hx⟩ := spotMoves_reads os enc
  refine returnsInHanded_of_row (C := Tryd.checked) (s := OpenSpec.ofChange Rows.spotMovesSpec) own started (by kernel_rfl) Tryd.func7
    (witness_row_at (enc := enc) (C := Tryd.checked) false (laidWorld os) #[.string ⟨#[]⟩, .string ⟨#[]⟩, .int .i16 0, .int .i16 0] rfl (by kernel_rfl) (by kernel_rfl) (by kernel_rfl)
      (OpenSpec.preRow_of_cond 8 hx (by kernel_rfl) (fun k hk => by cases hk) (by kernel_rfl) (spotMoves_laid_met os))) ?_
  intro W base args ds gs before hval hW _ _ _ hL hsh _
  obtain ⟨m, hm⟩ := Tryd.laysM219.s1_3 W hsh
  refine law_calls (Γ := ΓW m) (shs := [(false, .str), (false, .str), (false, .int .i16), (false, .int .i16)]) laid mapsR (tb := 4) (by kernel_rfl) u4 (of_decide_eq_true (by kernel_rfl)) (by kernel_rfl) rfl ?_ (ΓW_ok hL hm) ?_ hval hW
  · intro ds hds
    match ds, hds with
    | [d0, d1, d2, d3], _ => exact ⟨rfl, rfl, rfl⟩
  · intro xs has
    simp only [IsArgs, IsSh] at has
    obtain ⟨_, _, rfl, ⟨s, rfl, _⟩, _, _, _, rfl, ⟨t, rfl, _⟩, _, _, _, rfl, ⟨n, rfl, h1, h2⟩, _, _, _, rfl, ⟨e, rfl, h3, h4⟩, _, rfl⟩ := has
    simp [IntKind.min, IntKind.max, IntKind.signed, IntKind.bits] at h1 h2 h3 h4
    exact p_SpotMoves (ΓW_S m) s t n e ⟨by omega, by omega⟩ ⟨by omega, by omega⟩

theorem spotMoves_said : Rows.SpotMovesSaid :=
  OpenClaim.holds_of_cond 7 Tryd.f7 rfl rfl rfl rfl rfl rfl rfl ⟨rfl, rfl, rfl, rfl, rfl⟩ rfl rfl rfl rfl rfl (by kernel_rfl) Tryd.func7 (by kernel_rfl)
    (of_decide_eq_true (by kernel_rfl)) (by unfold Func.isWrapper; first | (rw [if_pos (by decide +kernel)]; kernel_rfl) | (rw [if_neg (by decide +kernel)]; exact ⟨rfl, rfl⟩))
    (fun os started H enc _ F => by rw [OpenClaim.pre_eq_preRow]; exact spotMoves_lifted os started H enc F)

theorem spotMoves_plain (f : FuncId) (fn : Func) (hf : Tryd.pinned.checked.prog.funcNamed "patchbay/patchbaylaw01.SpotMoves" = some f) (hfn : Tryd.pinned.checked.prog.funcs[f]? = some fn) :
    false = Tryd.pinned.checked.prog.looks [] ∧ ∀ (j : Nat) t, fn.params[j]? = some t → Tryd.pinned.checked.prog.wantsStandIn t = false := by
  obtain rfl : f = 7 := Option.some.inj ((show Tryd.prog.funcNamed "patchbay/patchbaylaw01.SpotMoves" = some 7 by kernel_rfl).symm.trans hf) |>.symm
  obtain rfl : fn = Tryd.f7 := (Option.some.inj (Tryd.func7.symm.trans hfn)).symm
  refine ⟨by kernel_rfl, fun j t ht => ?_⟩
  have h1 : (Tryd.f7.params.toList.all fun t => !Tryd.prog.wantsStandIn t) = true := by kernel_rfl
  have h2 := List.all_eq_true.1 h1 t (by simpa using Array.mem_of_getElem? ht)
  revert h2
  show (!Tryd.prog.wantsStandIn t) = true → Tryd.prog.wantsStandIn t = false
  cases Tryd.prog.wantsStandIn t <;> intro h <;> first | rfl | cases h

theorem spotMoves_holds : Rows.SpotMovesCardSaid :=
  Claim7.holds_tied_plain_at .later [] _ _ _ _ spotMoves_said (fun _ h => by cases h) (by kernel_rfl) (fun _ h => by cases h) spotMoves_row_tie rfl ⟨rfl, rfl⟩ (by kernel_rfl) rfl spotMoves_plain (by kernel_rfl)
#print axioms spotMoves_holds
end Go.Proofs.YthnplnkddbbojaaDoor
