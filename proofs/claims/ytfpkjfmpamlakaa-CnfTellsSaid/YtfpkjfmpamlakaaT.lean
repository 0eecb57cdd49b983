/- Chapter 19: what the given statements ask beside the contracts. -/
import Derived.Test.YtfpkjfmpamlakaaF
import Derived.Test.YtfpkjfmpamlakaaRows
import Derived.HandedShaped
set_option linter.unusedSimpArgs false
set_option linter.unusedVariables false
namespace Go.Proofs.Ytfpkjfmpamlakaa
open Go.AM Go.Proofs Go.ChangeShapes Go.WideShapes Go.ChangeAt Go.RowKit

def ΓW : Nat → Option AV := fun _ => none
theorem ΓW_ok {W : World} : ∀ n a, ΓW n = some a → belL 0 a.cells = true ∧ ∃ vs, VL (gw W) [] a.cells vs ∧ ∀ j (hj : j < vs.length), W.cell? ⟨n, j, none⟩ = some vs[j] := by
  intro n a h
  cases h
theorem own : ownKnob Try.prog.godebug = none := by kernel_rfl
theorem laid : laidOutB Try.prog = true := by kernel_rfl
theorem mapsR : mapsRowed Try.prog = true := by kernel_rfl

abbrev shI : Sh := .int .i64
abbrev shIs : Sh := .list 1 false (.int .i64)
abbrev shBs : Sh := .list 1 false .bool
abbrev shIss : Sh := .list 1 false shIs
abbrev shBss : Sh := .list 1 false shBs
abbrev shPs : Sh := .list 2 true (.parts [.int .i64, .int .i64])
abbrev shCn : Sh := .parts [shI, shIss, shIss]
abbrev shGr : Sh := .parts [shI, shIs, shIs, shPs, shIs]

theorem dec_int {cs : List AV} (h : IsSh shI cs) : ∃ n : Int, cs = [i64 n] ∧ n < 2 ^ 63 ∧ -(2 ^ 63) ≤ n := by
  simp only [IsSh] at h
  obtain ⟨n, rfl, h1, h2⟩ := h
  have e1 : IntKind.min .i64 = -(2 ^ 63) := by decide
  have e2 : IntKind.max .i64 = 2 ^ 63 - 1 := by decide
  exact ⟨n, rfl, by omega, by omega⟩
theorem dec_ints {cs : List AV} (h : IsSh shIs cs) : ∃ l : List Int, cs = [.list false 1 (l.map i64)] := by
  simp only [IsSh] at h
  obtain ⟨xs, rfl, _, h1⟩ := h
  obtain ⟨l, hl, _⟩ := map_dec (f := mkA false) (e := i64) (fun x hx => by
    obtain ⟨⟨n, rfl, _⟩, _⟩ := h1 x hx
    exact ⟨n, rfl⟩)
  exact ⟨l, by rw [hl]⟩
theorem dec_bools {cs : List AV} (h : IsSh shBs cs) : ∃ l : List Bool, cs = [.list false 1 (l.map .bool)] := by
  simp only [IsSh] at h
  obtain ⟨xs, rfl, _, h1⟩ := h
  obtain ⟨l, hl, _⟩ := map_dec (f := mkA false) (e := AV.bool) (fun x hx => by
    obtain ⟨⟨n, rfl⟩, _⟩ := h1 x hx
    exact ⟨n, rfl⟩)
  exact ⟨l, by rw [hl]⟩
theorem dec_rows {cs : List AV} (h : IsSh shIss cs) : ∃ l : List RowI, cs = [.list false 1 (l.map eRow)] := by
  rw [IsSh] at h
  obtain ⟨xs, rfl, _, h1⟩ := h
  obtain ⟨l, hl, _⟩ := map_dec (f := mkA false) (e := eRow) (fun x hx => by
    obtain ⟨n, rfl⟩ := dec_ints (h1 x hx).1
    exact ⟨⟨false, 1, n, .self⟩, rfl⟩)
  exact ⟨l, by rw [hl]⟩
theorem dec_rowsB {cs : List AV} (h : IsSh shBss cs) : ∃ l : List RowB, cs = [.list false 1 (l.map eRowB)] := by
  rw [IsSh] at h
  obtain ⟨xs, rfl, _, h1⟩ := h
  obtain ⟨l, hl, _⟩ := map_dec (f := mkA false) (e := eRowB) (fun x hx => by
    obtain ⟨n, rfl⟩ := dec_bools (h1 x hx).1
    exact ⟨⟨false, 1, n, .self⟩, rfl⟩)
  exact ⟨l, by rw [hl]⟩
theorem dec_pairs {cs : List AV} (h : IsSh shPs cs) : ∃ l : List (Int × Int), cs = [.list false 2 (l.map ePr)] := by
  rw [IsSh] at h
  obtain ⟨xs, rfl, _, h1⟩ := h
  obtain ⟨l, hl, _⟩ := map_dec (f := mkA true) (e := ePr) (fun x hx => by
    have h2 := (h1 x hx).1
    simp only [IsSh, IsShL] at h2
    obtain ⟨_, _, rfl, ⟨n, rfl, _⟩, _, _, rfl, ⟨m, rfl, _⟩, rfl⟩ := h2
    exact ⟨⟨n, m⟩, rfl⟩)
  exact ⟨l, by rw [hl]⟩
theorem dec_cn {cs : List AV} (h : IsSh shCn cs) : ∃ u : Cn, AV.agg cs = eCn u := by
  rw [IsSh] at h
  simp only [IsShL] at h
  obtain ⟨_, _, rfl, h1, _, _, rfl, h2, _, _, rfl, h3, rfl⟩ := h
  obtain ⟨n, rfl, _⟩ := dec_int h1
  obtain ⟨a, rfl⟩ := dec_rows h2
  obtain ⟨b, rfl⟩ := dec_rows h3
  exact ⟨⟨n, a, b, 1, 1, .self, .self⟩, rfl⟩
theorem dec_gr {cs : List AV} (h : IsSh shGr cs) : ∃ g : Gr, AV.agg cs = eGr g := by
  rw [IsSh] at h
  simp only [IsShL] at h
  obtain ⟨_, _, rfl, h1, _, _, rfl, h2, _, _, rfl, h3, _, _, rfl, h4, _, _, rfl, h5, rfl⟩ := h
  obtain ⟨n, rfl, _⟩ := dec_int h1
  obtain ⟨a, rfl⟩ := dec_ints h2
  obtain ⟨b, rfl⟩ := dec_ints h3
  obtain ⟨c, rfl⟩ := dec_pairs h4
  obtain ⟨d, rfl⟩ := dec_ints h5
  exact ⟨⟨n, a, b, c, d, 1, 1, 2, 1, .self, .self, .self, .self⟩, rfl⟩
end Go.Proofs.Ytfpkjfmpamlakaa
