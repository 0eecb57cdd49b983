/- Chapter 19: what the given statements ask beside the contracts. -/
import Derived.Test.YtfpkjfmpamlakaaF
import Derived.Test.YtfpkjfmpamlakaaRows
import Derived.HandedShaped
import Derived.JoinedCond
set_option linter.unusedSimpArgs false
set_option linter.unusedVariables false
namespace Go.Proofs.Ytfpkjfmpamlakaa
open Go.AM Go.Proofs Go.ChangeShapes Go.WideShapes Go.ChangeAt Go.RowKit

def ΓW : Nat → Option AV := fun _ => none
theorem ΓW_ok {W : World} : ∀ n a, ΓW n = some a → belL 0 a.cells = true ∧ ∃ vs, VL (gw W) [] a.cells vs ∧ ∀ j (hj : j < vs.length), W.cell? ⟨n, j, none⟩ = some vs[j] := by
  intro n a h
  cases h
theorem own : ownKnob Try.prog.godebug = none := by kernel_rfl
theorem laid : laidOutB Try.prog = true := by kernel_rfl
theorem mapsR : mapsRowed Try.prog = true := by kernel_rfl

abbrev shI : Sh := .int .i64
abbrev shIs : Sh := .list 1 false (.int .i64)
abbrev shBs : Sh := .list 1 false .bool
abbrev shIss : Sh := .list 1 false shIs
abbrev shBss : Sh := .list 1 false shBs
abbrev shPs : Sh := .list 2 true (.parts [.int .i64, .int .i64])
abbrev shCn : Sh := .parts [shI, shIss, shIss]
abbrev shGr : Sh := .parts [shI, shIs, shIs, shPs, shIs]

theorem dec_int {B : Nat} {cs : List AV} (h : IsSh B shI cs) : ∃ n : Int, cs = [i64 n] ∧ n < 2 ^ 63 ∧ -(2 ^ 63) ≤ n := by
  simp only [IsSh] at h
  obtain ⟨n, rfl, h1, h2⟩ := h
  have e1 : IntKind.min .i64 = -(2 ^ 63) := by decide
  have e2 : IntKind.max .i64 = 2 ^ 63 - 1 := by decide
  exact ⟨n, rfl, by omega, by omega⟩
theorem dec_ints {B : Nat} {cs : List AV} (h : IsSh B shIs cs) : ∃ l : List Int, cs = [.list false 1 (l.map i64)] ∧ l.length ≤ B := by
  simp only [IsSh] at h
  obtain ⟨xs, rfl, h0, h1⟩ := h
  obtain ⟨l, hl, hn⟩ := map_dec (f := mkA false) (e := i64) (fun x hx => by
    obtain ⟨⟨n, rfl, _⟩, _⟩ := h1 x hx
    exact ⟨n, rfl⟩)
  exact ⟨l, by rw [hl], by omega⟩
theorem dec_bools {B : Nat} {cs : List AV} (h : IsSh B shBs cs) : ∃ l : List Bool, cs = [.list false 1 (l.map .bool)] ∧ l.length ≤ B := by
  simp only [IsSh] at h
  obtain ⟨xs, rfl, h0, h1⟩ := h
  obtain ⟨l, hl, hn⟩ := map_dec (f := mkA false) (e := AV.bool) (fun x hx => by
    obtain ⟨⟨n, rfl⟩, _⟩ := h1 x hx
    exact ⟨n, rfl⟩)
  exact ⟨l, by rw [hl], by omega⟩
theorem dec_rows {B : Nat} {cs : List AV} (h : IsSh B shIss cs) : ∃ l : List RowI, cs = [.list false 1 (l.map eRow)] ∧ l.length ≤ B := by
  rw [IsSh] at h
  obtain ⟨xs, rfl, h0, h1⟩ := h
  obtain ⟨l, hl, hn⟩ := map_dec (f := mkA false) (e := eRow) (fun x hx => by
    obtain ⟨n, rfl, _⟩ := dec_ints (h1 x hx).1
    exact ⟨⟨false, 1, n, .self⟩, rfl⟩)
  exact ⟨l, by rw [hl], by omega⟩
theorem map_rowsB {B : Nat} : ∀ {xs : List (List AV)}, (∀ x ∈ xs, IsSh B shBs x) → ∃ l : List RowB, xs.map (mkA false) = l.map eRowB ∧ l.length = xs.length ∧ ∀ r ∈ l, r.l.length ≤ B
  | [], _ => ⟨[], rfl, rfl, by simp⟩
  | x :: xs, h => by
    obtain ⟨n, hn, hb⟩ := dec_bools (h x (by simp))
    obtain ⟨l, h1, h2, h3⟩ := map_rowsB (xs := xs) (fun y hy => h y (List.mem_cons_of_mem _ hy))
    refine ⟨⟨false, 1, n, .self⟩ :: l, by simp [hn, h1, mkA], by simp [h2], fun r hr => ?_⟩
    rcases List.mem_cons.1 hr with rfl | hr
    · exact hb
    · exact h3 r hr
theorem dec_rowsB {B : Nat} {cs : List AV} (h : IsSh B shBss cs) : ∃ l : List RowB, cs = [.list false 1 (l.map eRowB)] ∧ l.length ≤ B ∧ ∀ r ∈ l, r.l.length ≤ B := by
  rw [IsSh] at h
  obtain ⟨xs, rfl, h0, h1⟩ := h
  obtain ⟨l, hl, hn, hb⟩ := map_rowsB (fun x hx => (h1 x hx).1)
  exact ⟨l, by rw [hl], by omega, hb⟩
theorem dec_pairs {B : Nat} {cs : List AV} (h : IsSh B shPs cs) : ∃ l : List (Int × Int), cs = [.list false 2 (l.map ePr)] ∧ l.length ≤ B := by
  rw [IsSh] at h
  obtain ⟨xs, rfl, h0, h1⟩ := h
  obtain ⟨l, hl, hn⟩ := map_dec (f := mkA true) (e := ePr) (fun x hx => by
    have h2 := (h1 x hx).1
    simp only [IsSh, IsShL] at h2
    obtain ⟨_, _, rfl, ⟨n, rfl, _⟩, _, _, rfl, ⟨m, rfl, _⟩, rfl⟩ := h2
    exact ⟨⟨n, m⟩, rfl⟩)
  exact ⟨l, by rw [hl], by omega⟩
theorem dec_cn {B : Nat} {cs : List AV} (h : IsSh B shCn cs) : ∃ u : Cn, AV.agg cs = eCn u := by
  rw [IsSh] at h
  simp only [IsShL] at h
  obtain ⟨_, _, rfl, h1, _, _, rfl, h2, _, _, rfl, h3, rfl⟩ := h
  obtain ⟨n, rfl, _⟩ := dec_int h1
  obtain ⟨a, rfl, la⟩ := dec_rows h2
  obtain ⟨b, rfl, lb⟩ := dec_rows h3
  exact ⟨⟨n, a, b, 1, 1, .self, .self⟩, rfl⟩
theorem dec_gr {B : Nat} {cs : List AV} (h : IsSh B shGr cs) : ∃ g : Gr, AV.agg cs = eGr g ∧ (B < 2 ^ 40 → g.few) := by
  rw [IsSh] at h
  simp only [IsShL] at h
  obtain ⟨_, _, rfl, h1, _, _, rfl, h2, _, _, rfl, h3, _, _, rfl, h4, _, _, rfl, h5, rfl⟩ := h
  obtain ⟨n, rfl, _⟩ := dec_int h1
  obtain ⟨a, rfl, la⟩ := dec_ints h2
  obtain ⟨b, rfl, lb⟩ := dec_ints h3
  obtain ⟨c, rfl, lc⟩ := dec_pairs h4
  obtain ⟨d, rfl, ld⟩ := dec_ints h5
  exact ⟨⟨n, a, b, c, d, 1, 1, 2, 1, .self, .self, .self, .self⟩, rfl, fun hB => ⟨Nat.lt_of_le_of_lt la hB, Nat.lt_of_le_of_lt lb hB, Nat.lt_of_le_of_lt lc hB, Nat.lt_of_le_of_lt ld hB⟩⟩
end Go.Proofs.Ytfpkjfmpamlakaa
/- Chapter 19: arguments of small bulk. -/
namespace Go.Proofs.Ytfpkjfmpamlakaa
open Go.AM Go.Proofs Go.ChangeShapes Go.WideShapes Go.ChangeAt Go.RowKit

theorem bulk_pos {H : Type} (d : DataW H) : 1 ≤ Rows.uptoBulk d := by
  cases d with
  | lit l => cases l <;> simp [Rows.uptoBulk]
  | _ => simp [Rows.uptoBulk]
theorem bulk_len {H : Type} : ∀ ds : List (DataW H), ds.length ≤ Rows.uptoBulkAll ds
  | [] => by simp
  | d :: ds => by have := bulk_len ds; have := bulk_pos d; simp only [List.length_cons, Rows.uptoBulkAll]; omega
theorem bulk_mem {H : Type} : ∀ {ds : List (DataW H)} {d : DataW H}, d ∈ ds → Rows.uptoBulk d ≤ Rows.uptoBulkAll ds
  | e :: ds, d, h => by
    simp only [Rows.uptoBulkAll]
    rcases List.mem_cons.1 h with rfl | h
    · omega
    · have := bulk_mem h; omega
/-- Of bulk at most so much. -/
def Small {H : Type} (d : DataW H) : Prop := Rows.uptoBulk d ≤ 1048576
theorem downU {H : Type} : Down (H := H) 1048576 Small := by
  refine ⟨fun e r h _ => ?_, fun ps h d hd => ?_⟩
  · simp only [Small, Rows.uptoBulk] at h
    refine ⟨by have := bulk_len e; omega, fun d hd => ?_⟩
    have := bulk_mem hd
    simp only [Small]; omega
  · simp only [Small, Rows.uptoBulk] at h ⊢
    have := bulk_mem hd
    omega
theorem small_of {H : Type} {ds gs : List (DataW H)} (hk : Rows.uptoSmall H (ds ++ gs) = true) : ∀ d ∈ ds, Small d := by
  intro d hd
  have h := of_decide_eq_true hk
  have := bulk_mem (List.mem_append_left gs hd)
  simp only [Small]; omega
end Go.Proofs.Ytfpkjfmpamlakaa
