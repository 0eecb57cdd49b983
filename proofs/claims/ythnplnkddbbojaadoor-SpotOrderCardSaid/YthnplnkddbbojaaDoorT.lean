/- Chapter 01: what the given statements ask beside the contracts; the package's variable. -/
import Derived.Test.YthnplnkddbbojaaDoorF
import Derived.Test.YthnplnkddbbojaaDoorCards
import Derived.Test.YthnplnkddbbojaaDoorTie
import Derived.ProofKit
import Derived.Deep.DeepHandedRow
import Derived.Lib.LaidTab
namespace Go.Proofs.YthnplnkddbbojaaDoor
open Go.AM Go.Proofs Go.ChangeShapes Go.WideShapes Go.ChangeAt Go.RowKit

theorem own : ownKnob Tryd.prog.godebug = none := by kernel_rfl
theorem laid : laidOutB Tryd.prog = true := by kernel_rfl
theorem mapsR : mapsRowed Tryd.prog = true := by kernel_rfl
theorem gStart : Tryd.prog.globalNamed "patchbay/spot.start" = some 0 := by kernel_rfl
theorem gStartType : (Tryd.prog.globals[0]?).map (·.type) = some 47 := by kernel_rfl
theorem u47 : Tryd.prog.underlying 47 = some (.array 2 3) := by kernel_rfl
theorem u3 : Tryd.prog.underlying 3 = some (.int .i64) := by kernel_rfl
theorem u4 : Tryd.prog.underlying 4 = some .bool := by kernel_rfl
theorem cells47 : Tryd.prog.cellsOf 47 = 2 := by kernel_rfl
theorem cells3 : Tryd.prog.cellsOf 3 = 1 := by kernel_rfl

/-- What the row's list gives: the two cells of the package's variable. -/
theorem startIs {W : World} (h : laidMetH Tryd.prog Rows.spotPlacesRow.laid W) : Lib.TabIs Tryd.prog W "patchbay/spot.start" .i64 [1, 1] :=
  Lib.tabIs_of_head (rest := []) gStart gStartType u47 u3 cells3 cells47 h

def ΓW (m : Int) : Nat → Option AV := fun n => if n = 0 then some (.agg [.int .i64 1, .int .i64 1]) else if n = 1 then some (.int .i64 m) else none
theorem ΓW_S (m : Int) : ΓS (ΓW m) := ⟨rfl, m, rfl⟩
theorem ΓW_ok {W : World} {m : Int} (h : laidMetH Tryd.prog Rows.spotPlacesRow.laid W) (hm : W.cell? ⟨1, 0, none⟩ = some (.int .i64 m)) : ∀ n a, ΓW m n = some a → belL 0 a.cells = true ∧ ∃ vs, VL (gw W) [] a.cells vs ∧ ∀ j (hj : j < vs.length), W.cell? ⟨n, j, none⟩ = some vs[j] := by
  intro n a hn
  unfold ΓW at hn
  split at hn
  · rename_i h0
    cases hn
    subst h0
    refine ⟨rfl, [.int .i64 1, .int .i64 1], by simp [AV.cells, VL, V], fun j hj => ?_⟩
    simp at hj
    match j, hj with
    | 0, _ => exact (startIs h).cell gStart 0 (by decide)
    | 1, _ => exact (startIs h).cell gStart 1 (by decide)
  · split at hn
    · rename_i h0
      cases hn
      subst h0
      refine ⟨rfl, [.int .i64 m], by simp [AV.cells, VL, V], fun j hj => ?_⟩
      have : j = 0 := by simp at hj; omega
      subst this
      exact hm
    · cases hn

/-- A world for the witness: the package's variable holds what its initialiser lays. -/
noncomputable def laidWorld (os : Os) : World :=
  { World.holding Tryd.prog os ⟨#[], #[], []⟩ with heap := (World.holding Tryd.prog os ⟨#[], #[], []⟩).heap.modify 0 fun
      | .cells _ t frozen => .cells #[.int .i64 1, .int .i64 1] t frozen
      | o => o }

theorem args_str {xs : List AV} (h : IsArgs [(false, .str)] xs) : ∃ s, xs = [.str s] := by
  simp only [IsArgs, IsSh] at h
  obtain ⟨cs, xs', rfl, ⟨s, rfl, _⟩, _, rfl⟩ := h
  exact ⟨s, rfl⟩
theorem args_str2 {xs : List AV} {k j : IntKind} (h : IsArgs [(false, .str), (false, .int k), (false, .int j)] xs) : ∃ s n m, xs = [.str s, .int k n, .int j m] ∧ (k.min ≤ n ∧ n ≤ k.max) ∧ (j.min ≤ m ∧ m ≤ j.max) := by
  simp only [IsArgs, IsSh] at h
  obtain ⟨_, _, rfl, ⟨s, rfl, _⟩, _, _, _, rfl, ⟨n, rfl, h1⟩, _, _, _, rfl, ⟨m, rfl, h2⟩, _, rfl⟩ := h
  exact ⟨s, n, m, rfl, h1, h2⟩
end Go.Proofs.YthnplnkddbbojaaDoor
