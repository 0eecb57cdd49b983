/- Chapter 10: what the given statements ask beside the contracts. -/
import Derived.Test.YtpjpaojjagffoaaDoorF
import Derived.Test.YtpjpaojjagffoaaDoorAMd
import Derived.Test.YtpjpaojjagffoaaDoorCards
import Derived.Test.YtpjpaojjagffoaaDoorTie
import Derived.ProofKit
import Derived.Deep.DeepHandedRow
import Derived.LaidMore
set_option linter.unusedSimpArgs false
set_option linter.unusedVariables false
namespace Go.Proofs.YtpjpaojjagffoaaDoor
open Go.AM Go.Proofs Go.ChangeShapes Go.WideShapes Go.ChangeAt Go.RowKit

theorem own : ownKnob Tryd.prog.godebug = none := by kernel_rfl
theorem laid : laidOutB Tryd.prog = true := by kernel_rfl
theorem mapsR : mapsRowed Tryd.prog = true := by kernel_rfl
theorem u4 : Tryd.prog.underlying 4 = some .bool := by kernel_rfl

/-- unicode/utf8.first -/
abbrev gFirst : Nat := 2
theorem gFirst_eq : Tryd.prog.globalNamed "unicode/utf8.first" = some gFirst := by kernel_rfl
/-- No package variable is looked at. -/
theorem none_laid {W : World} (h : laidMetH Tryd.prog Rows.coverLessRow.laid W) : ∃ Γ : Nat → Option AV, True ∧ ∀ n a, Γ n = some a → belL 0 a.cells = true ∧ ∃ vs, VL (gw W) [] a.cells vs ∧ ∀ j (hj : j < vs.length), W.cell? ⟨n, j, none⟩ = some vs[j] :=
  ⟨fun _ => none, trivial, fun n a h => by cases h⟩
/-- A world for the witness: what the door's own run leaves, and the table of first bytes. -/
noncomputable def startW (os : Os) : World :=
  { World.doorLaid Tryd.prog 4000 os with heap := ((World.doorLaid Tryd.prog 4000 os).heap.toList.zipIdx.map fun x => if x.2 = gFirst then (match x.1 with
    | .cells _ t q => .cells (Go.Pinned.utf8FirstZ.map fun n : Nat => Value.int .u8 (n : Int)).toArray t q
    | o => o) else x.1).toArray }
theorem door_met (os : Os) (args : Array Value) : laidMetH Tryd.prog Rows.coverLessRow.laid ((startW os).forCall (fun _ _ => 0) ⟨#[], args, []⟩).memory :=
  laidMetH_of_parts3 (fuel := 8) (laidMet_of_run' 8 (by kernel_rfl) (by kernel_rfl)) (by kernel_rfl) (by kernel_rfl)

abbrev shI : Sh := .int .i64
abbrev shSs : Sh := .list 1 false .str
abbrev shBs : Sh := .list 1 false .bool
abbrev shFm : Sh := .parts [.int .i64, .int .i64, .int .i64]
abbrev shFs : Sh := .list 3 true shFm
theorem dec_i {B : Nat} {cs : List AV} (h : IsSh B shI cs) : ∃ n : Int, cs = [.int .i64 n] := by
  simp only [IsSh] at h
  obtain ⟨n, rfl, h1, h2⟩ := h
  exact ⟨n, rfl⟩
theorem dec_str {B : Nat} {cs : List AV} (h : IsSh B .str cs) : ∃ s : List UInt8, cs = [.str s] := by
  simp only [IsSh] at h
  obtain ⟨s, rfl, _⟩ := h
  exact ⟨s, rfl⟩
theorem dec_strs {B : Nat} {cs : List AV} (h : IsSh B shSs cs) : ∃ l : List (List UInt8), cs = [.list false 1 (l.map .str)] := by
  simp only [IsSh] at h
  obtain ⟨xs, rfl, h0, h1⟩ := h
  obtain ⟨l, hl, hn⟩ := map_dec (f := mkA false) (e := AV.str) (fun x hx => by
    obtain ⟨⟨n, rfl, _⟩, _⟩ := h1 x hx
    exact ⟨n, rfl⟩)
  exact ⟨l, by rw [hl]⟩
theorem dec_bools {B : Nat} {cs : List AV} (h : IsSh B shBs cs) : ∃ l : List Bool, cs = [.list false 1 (l.map .bool)] := by
  simp only [IsSh] at h
  obtain ⟨xs, rfl, h0, h1⟩ := h
  obtain ⟨l, hl, hn⟩ := map_dec (f := mkA false) (e := AV.bool) (fun x hx => by
    obtain ⟨⟨n, rfl⟩, _⟩ := h1 x hx
    exact ⟨n, rfl⟩)
  exact ⟨l, by rw [hl]⟩
theorem dec_fm {B : Nat} {cs : List AV} (h : IsSh B shFm cs) : ∃ f : Fm, AV.agg cs = eFm f := by
  simp only [IsSh, IsShL] at h
  obtain ⟨_, _, rfl, ⟨a, rfl, _⟩, _, _, rfl, ⟨b, rfl, _⟩, _, _, rfl, ⟨m, rfl, _⟩, rfl⟩ := h
  exact ⟨⟨a, b, m⟩, rfl⟩
theorem dec_fms {B : Nat} {cs : List AV} (h : IsSh B shFs cs) : ∃ l : List Fm, cs = [.list false 3 (l.map eFm)] := by
  rw [IsSh] at h
  obtain ⟨xs, rfl, _, h1⟩ := h
  obtain ⟨l, hl, _⟩ := map_dec (f := mkA true) (e := fun q => eFm q) (fun x hx => by
    obtain ⟨t, ht⟩ := dec_fm (h1 x hx).1
    exact ⟨t, ht⟩)
  exact ⟨l, by rw [hl]⟩
end Go.Proofs.YtpjpaojjagffoaaDoor
