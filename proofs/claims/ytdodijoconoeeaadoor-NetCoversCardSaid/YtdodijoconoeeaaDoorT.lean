/- Chapter 06: what the given statements ask beside the contracts; the map of how many Ins. -/
import Derived.Test.YtdodijoconoeeaaDoorF
import Derived.Test.YtdodijoconoeeaaDoorAMd
import Derived.Test.YtdodijoconoeeaaDoorCards
import Derived.Test.YtdodijoconoeeaaDoorTie
import Derived.ProofKit
import Derived.Deep.DeepHandedRow
import Derived.LaidMore
set_option linter.unusedSimpArgs false
set_option linter.unusedVariables false
namespace Go.Proofs.YtdodijoconoeeaaDoor
open Go.AM Go.Proofs Go.ChangeShapes Go.WideShapes Go.ChangeAt Go.RowKit

theorem own : ownKnob Tryd.prog.godebug = none := by kernel_rfl
theorem laid : laidOutB Tryd.prog = true := by kernel_rfl
theorem mapsR : mapsRowed Tryd.prog = true := by kernel_rfl

/-- How many Ins, as the card has them. -/
def insD : List (Lit × DataW Unit) := match (Rows.laid_patchbay_net_ins : DataW Unit) with
  | .map D => D
  | _ => []
theorem insD_eq : (Rows.laid_patchbay_net_ins : DataW Unit) = .map insD := by kernel_rfl
def insK : List (AV × AV) := [(.int .i64 0, p2 0 0), (.int .i64 1, p2 0 0), (.int .i64 2, p2 1 1), (.int .i64 3, p2 1 1), (.int .i64 4, p2 2 8), (.int .i64 5, p2 2 8), (.int .i64 6, p2 2 8), (.int .i64 7, p2 2 8), (.int .i64 8, p2 2 8), (.int .i64 9, p2 2 8), (.int .i64 10, p2 0 8)]
theorem insD_av : (insD.map fun d => (keyAV d.1, valAV d.2)) = insK := by kernel_rfl
theorem gIns0 : Tryd.prog.globalNamed "patchbay/net.ins" = some 0 := by kernel_rfl
theorem tIns : (Tryd.prog.globals[0]?).map (·.type) = some 76 := by kernel_rfl
theorem uIns : Tryd.prog.underlying 76 = some (.map 37 74) := by kernel_rfl
theorem u37 : Tryd.prog.underlying 37 = some (.int .i64) := by kernel_rfl
theorem u74 : Tryd.prog.underlying 74 = some (.array 2 3) := by kernel_rfl
theorem u3 : Tryd.prog.underlying 3 = some (.int .i64) := by kernel_rfl
theorem u4 : Tryd.prog.underlying 4 = some .bool := by kernel_rfl

/-- unicode/utf8.first -/
abbrev gFirst : Nat := 2
theorem gFirst_eq : Tryd.prog.globalNamed "unicode/utf8.first" = some gFirst := by kernel_rfl
/-- What the card gives. -/
theorem ins_laid {W : World} (h : laidMetH Tryd.prog Rows.netChecksRow.laid W) : ∃ Γ : Nat → Option AV, InsG Γ ∧ ∀ n a, Γ n = some a → belL 0 a.cells = true ∧ ∃ vs, VL (gw W) [] a.cells vs ∧ ∀ j (hj : j < vs.length), W.cell? ⟨n, j, none⟩ = some vs[j] := by
  obtain ⟨ks, us, h1, h2, z, hz, hm⟩ := map_laid h (by kernel_rfl) (name := "patchbay/net.ins") (D := insD) (by rw [← insD_eq]; exact List.mem_cons_of_mem _ (List.mem_cons_self ..)) gIns0 tIns uIns
    (fun v q hq => by obtain ⟨a, b, _⟩ := key_int u37 (g := gw W) (h := []) hq; exact ⟨a, b⟩) (fun n v x hf ht => val_int2 u74 u3 (by kernel_rfl) (by kernel_rfl) hf ht)
  refine ⟨fun n => if n = 0 then some (.kmp ks us) else none, ⟨ks, us, rfl, fun n => ?_⟩, fun n a hn => ?_⟩
  · rw [hz]
    rw [insD_av] at hm
    obtain ⟨r, e1, e2, e3⟩ := findIn_spec (.sc .int) (.int .i64 n) z (by
      intro y hy
      have hy2 := (hm y).1 hy
      simp only [insK, List.mem_cons, List.not_mem_nil, or_false] at hy2
      have hcase : ∀ m : Int, (eqData (.sc .int) (.int .i64 n) (.int .i64 m) = some true ∧ AV.int .i64 n = .int .i64 m) ∨ (eqData (.sc .int) (.int .i64 n) (.int .i64 m) = some false ∧ AV.int .i64 n ≠ .int .i64 m) := by
        intro m
        by_cases hnm : n = m
        · exact .inl ⟨by simp [eqData, eqOne, hnm], by rw [hnm]⟩
        · exact .inr ⟨by simp [eqData, eqOne, hnm], by simp [hnm]⟩
      rcases hy2 with rfl | rfl | rfl | rfl | rfl | rfl | rfl | rfl | rfl | rfl | rfl <;> exact hcase _)
    rw [e1]
    unfold insO
    cases r with
    | some v =>
      have hv := (hm _).1 (e3 v rfl)
      simp only [insK, List.mem_cons, List.not_mem_nil, or_false, Prod.mk.injEq, AV.int.injEq, true_and] at hv
      rcases hv with ⟨rfl, rfl⟩ | ⟨rfl, rfl⟩ | ⟨rfl, rfl⟩ | ⟨rfl, rfl⟩ | ⟨rfl, rfl⟩ | ⟨rfl, rfl⟩ | ⟨rfl, rfl⟩ | ⟨rfl, rfl⟩ | ⟨rfl, rfl⟩ | ⟨rfl, rfl⟩ | ⟨rfl, rfl⟩ <;> rfl
    | none =>
      have hno : ∀ y ∈ insK, ¬ (AV.int .i64 n = y.1) := fun y hy => e2 rfl y ((hm y).2 hy)
      simp only [insK, List.mem_cons, List.not_mem_nil, or_false, forall_eq_or_imp, forall_eq, AV.int.injEq, true_and] at hno
      rw [if_neg (by omega), if_neg (by omega), if_neg (by omega), if_neg (by omega)]
  · simp only at hn
    split at hn
    · rename_i h0
      cases hn
      subst h0
      exact ⟨h1, h2⟩
    · cases hn

/-- A world for the witness: what the door's own run leaves, and the table of first bytes. -/
noncomputable def startW (os : Os) : World :=
  { World.doorLaid Tryd.prog 4000 os with heap := ((World.doorLaid Tryd.prog 4000 os).heap.toList.zipIdx.map fun x => if x.2 = gFirst then (match x.1 with
    | .cells _ t q => .cells (Go.Pinned.utf8FirstZ.map fun n : Nat => Value.int .u8 (n : Int)).toArray t q
    | o => o) else x.1).toArray }
theorem door_met (os : Os) (args : Array Value) : laidMetH Tryd.prog Rows.netChecksRow.laid ((startW os).forCall (fun _ _ => 0) ⟨#[], args, []⟩).memory :=
  laidMetH_of_parts3 (fuel := 8) (laidMet_of_run' 8 (by kernel_rfl) (by kernel_rfl)) (by kernel_rfl) (by kernel_rfl)

abbrev shI : Sh := .int .i64
abbrev shSs : Sh := .list 1 false .str
abbrev shLt : Sh := .parts [.str, .str, .int .i64]
abbrev shGt : Sh := .parts [.str, .int .i64, shSs, shSs, .bool]
abbrev shCt : Sh := .parts [shSs, shSs, .list 3 true shLt, .list 5 true shGt]
theorem dec_i {B : Nat} {cs : List AV} (h : IsSh B shI cs) : ∃ n : Int, cs = [.int .i64 n] := by
  simp only [IsSh] at h
  obtain ⟨n, rfl, h1, h2⟩ := h
  exact ⟨n, rfl⟩
theorem dec_str {B : Nat} {cs : List AV} (h : IsSh B .str cs) : ∃ s : List UInt8, cs = [.str s] := by
  simp only [IsSh] at h
  obtain ⟨s, rfl, _⟩ := h
  exact ⟨s, rfl⟩
theorem dec_strs {B : Nat} {cs : List AV} (h : IsSh B shSs cs) : ∃ l : List (List UInt8), cs = [.list false 1 (l.map .str)] := by
  simp only [IsSh] at h
  obtain ⟨xs, rfl, h0, h1⟩ := h
  obtain ⟨l, hl, hn⟩ := map_dec (f := mkA false) (e := AV.str) (fun x hx => by
    obtain ⟨⟨n, rfl, _⟩, _⟩ := h1 x hx
    exact ⟨n, rfl⟩)
  exact ⟨l, by rw [hl]⟩
theorem dec_lt {B : Nat} {cs : List AV} (h : IsSh B shLt cs) : ∃ q : Lt, AV.agg cs = eLt q := by
  simp only [IsSh, IsShL] at h
  obtain ⟨_, _, rfl, ⟨a, rfl, _⟩, _, _, rfl, ⟨b, rfl, _⟩, _, _, rfl, ⟨m, rfl, _⟩, rfl⟩ := h
  exact ⟨⟨a, b, m⟩, rfl⟩
theorem dec_gt {B : Nat} {cs : List AV} (h : IsSh B shGt cs) : ∃ g : Gt, AV.agg cs = eGt g := by
  rw [IsSh] at h
  simp only [IsShL] at h
  obtain ⟨_, _, rfl, h1, _, _, rfl, h2, _, _, rfl, h3, _, _, rfl, h4, _, _, rfl, h5, rfl⟩ := h
  obtain ⟨n, rfl⟩ := dec_str h1
  obtain ⟨op, rfl⟩ := dec_i h2
  obtain ⟨i, rfl⟩ := dec_strs h3
  obtain ⟨r, rfl⟩ := dec_strs h4
  simp only [IsSh] at h5
  obtain ⟨b, rfl⟩ := h5
  exact ⟨⟨n, op, i, r, b, 1, 1, .self, .self⟩, rfl⟩
theorem dec_ct {B : Nat} {cs : List AV} (h : IsSh B shCt cs) : ∃ c : Ct, AV.agg cs = eCt c := by
  rw [IsSh] at h
  simp only [IsShL] at h
  obtain ⟨_, _, rfl, h1, _, _, rfl, h2, _, _, rfl, h3, _, _, rfl, h4, rfl⟩ := h
  obtain ⟨i, rfl⟩ := dec_strs h1
  obtain ⟨o, rfl⟩ := dec_strs h2
  rw [IsSh] at h3 h4
  obtain ⟨xs, rfl, _, h3⟩ := h3
  obtain ⟨ys, rfl, _, h4⟩ := h4
  obtain ⟨l, hl, _⟩ := map_dec (f := mkA true) (e := fun q => eLt q) (fun x hx => by
    obtain ⟨t, ht⟩ := dec_lt (h3 x hx).1
    exact ⟨t, ht⟩)
  obtain ⟨g, hg, _⟩ := map_dec (f := mkA true) (e := fun q => eGt q) (fun x hx => by
    obtain ⟨t, ht⟩ := dec_gt (h4 x hx).1
    exact ⟨t, ht⟩)
  exact ⟨⟨i, o, l, g, 1, 1, 3, 5, .self, .self, .self, .self⟩, by rw [hl, hg]; rfl⟩
end Go.Proofs.YtdodijoconoeeaaDoor
