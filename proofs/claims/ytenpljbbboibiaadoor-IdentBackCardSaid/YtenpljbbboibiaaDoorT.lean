/- Chapter 04: what the given statements ask beside the contracts; the words that are kept. -/
import Derived.Test.YtenpljbbboibiaaDoorF
import Derived.Test.YtenpljbbboibiaaDoorAMd
import Derived.Test.YtenpljbbboibiaaDoorCards
import Derived.Test.YtenpljbbboibiaaDoorTie
import Derived.ProofKit
import Derived.Deep.DeepHandedRow
import Derived.LaidMore
set_option linter.unusedSimpArgs false
set_option linter.unusedVariables false
namespace Go.Proofs.YtenpljbbboibiaaDoor
open Go.AM Go.Proofs Go.ChangeShapes Go.WideShapes Go.ChangeAt Go.RowKit

theorem own : ownKnob Tryd.prog.godebug = none := by kernel_rfl
theorem laid : laidOutB Tryd.prog = true := by kernel_rfl
theorem mapsR : mapsRowed Tryd.prog = true := by kernel_rfl

/-- The words that are kept, as the card has them. -/
def keptD : List (Lit × DataW Unit) := match (Rows.laid_patchbay_ident_kept : DataW Unit) with
  | .map D => D
  | _ => []
theorem keptD_eq : (Rows.laid_patchbay_ident_kept : DataW Unit) = .map keptD := by kernel_rfl
def keptK : List (List UInt8) := keptD.map fun d => match d.1 with
  | .string s => s
  | _ => []
theorem keptD_av : (keptD.map fun d => (keyAV d.1, valAV d.2)) = keptK.map fun s => (AV.str s, AV.bool true) := by kernel_rfl
theorem kept_sub : (keptK.all fun s => keptL.contains s) = true := by kernel_rfl
theorem kept_sup : (keptL.all fun s => keptK.contains s) = true := by kernel_rfl
theorem gKept : Tryd.prog.globalNamed "patchbay/ident.kept" = some 0 := by kernel_rfl
theorem tKept : (Tryd.prog.globals[0]?).map (·.type) = some 76 := by kernel_rfl
theorem uKept : Tryd.prog.underlying 76 = some (.map 9 4) := by kernel_rfl
theorem u9 : Tryd.prog.underlying 9 = some .string := by kernel_rfl
theorem u4 : Tryd.prog.underlying 4 = some .bool := by kernel_rfl

/-- What the card gives: the words that are kept lie there. -/
theorem kept_laid {W : World} (h : laidMetH Tryd.prog Rows.identWordsRow.laid W) : ∃ Γ : Nat → Option AV, KeptG Γ ∧ ∀ n a, Γ n = some a → belL 0 a.cells = true ∧ ∃ vs, VL (gw W) [] a.cells vs ∧ ∀ j (hj : j < vs.length), W.cell? ⟨n, j, none⟩ = some vs[j] := by
  obtain ⟨ks, us, h1, h2, z, hz, hm⟩ := map_laid h (by kernel_rfl) (name := "patchbay/ident.kept") (D := keptD) (by rw [← keptD_eq]; exact List.mem_cons_of_mem _ (List.mem_cons_of_mem _ (List.mem_cons_of_mem _ (List.mem_cons_self ..)))) gKept tKept uKept
    (fun v q hq => by obtain ⟨a, b, _⟩ := key_str u9 (g := gw W) (h := []) hq; exact ⟨a, b⟩) (fun n v x hf ht => val_bool u4 hf ht)
  refine ⟨fun n => if n = 0 then some (.kmp ks us) else none, ⟨ks, us, rfl, fun s => ?_⟩, fun n a hn => ?_⟩
  · rw [hz]
    rw [keptD_av] at hm
    obtain ⟨r, e1, e2, e3⟩ := findIn_spec (.sc .str) (.str s) z (by
      intro y hy
      obtain ⟨w, _, rfl⟩ := List.mem_map.1 ((hm y).1 hy)
      simp only [eqData, eqOne]
      by_cases hw : s = w
      · exact .inl ⟨by simp [hw], by rw [hw]⟩
      · exact .inr ⟨by simp [hw], by simp [hw]⟩)
    rw [e1]
    have hc : keptB s = keptK.contains s := by
      unfold keptB
      rw [Bool.eq_iff_iff]
      constructor
      · intro h3
        exact List.all_eq_true.1 kept_sup s (by simpa using h3)
      · intro h3
        exact List.all_eq_true.1 kept_sub s (by simpa using h3)
    cases r with
    | some v =>
      obtain ⟨w, hw, e4⟩ := List.mem_map.1 ((hm _).1 (e3 v rfl))
      simp only [Prod.mk.injEq, AV.str.injEq] at e4
      obtain ⟨rfl, rfl⟩ := e4
      rw [hc, if_pos (by simpa using hw)]
    | none =>
      rw [hc, if_neg]
      intro h3
      exact e2 rfl (.str s, .bool true) ((hm _).2 (List.mem_map.2 ⟨s, by simpa using h3, rfl⟩)) rfl
  · simp only at hn
    split at hn
    · rename_i h0
      cases hn
      subst h0
      exact ⟨h1, h2⟩
    · cases hn

/-- A world for the witness: what the door's own run leaves. -/
theorem door_met (os : Os) (args : Array Value) : laidMetH Tryd.prog Rows.identWordsRow.laid ((World.doorLaid Tryd.prog 4000 os).forCall (fun _ _ => 0) ⟨#[], args, []⟩).memory :=
  laidMetH_of_parts3 (fuel := 8) (laidMet_of_run' 8 (by kernel_rfl) (by kernel_rfl)) (by kernel_rfl) (by kernel_rfl)

abbrev shI : Sh := .int .i64
abbrev shSs : Sh := .list 1 false .str
abbrev shTk : Sh := .parts [.int .i64, .str, .int .i64]
abbrev shTks : Sh := .list 3 true shTk
theorem dec_i {B : Nat} {cs : List AV} (h : IsSh B shI cs) : ∃ n : Int, cs = [.int .i64 n] := by
  simp only [IsSh] at h
  obtain ⟨n, rfl, h1, h2⟩ := h
  exact ⟨n, rfl⟩
theorem dec_str {B : Nat} {cs : List AV} (h : IsSh B .str cs) : ∃ s : List UInt8, cs = [.str s] := by
  simp only [IsSh] at h
  obtain ⟨s, rfl, _⟩ := h
  exact ⟨s, rfl⟩
theorem dec_strs {B : Nat} {cs : List AV} (h : IsSh B shSs cs) : ∃ l : List (List UInt8), cs = [.list false 1 (l.map .str)] := by
  simp only [IsSh] at h
  obtain ⟨xs, rfl, h0, h1⟩ := h
  obtain ⟨l, hl, hn⟩ := map_dec (f := mkA false) (e := AV.str) (fun x hx => by
    obtain ⟨⟨n, rfl, _⟩, _⟩ := h1 x hx
    exact ⟨n, rfl⟩)
  exact ⟨l, by rw [hl]⟩
theorem dec_tk {B : Nat} {cs : List AV} (h : IsSh B shTk cs) : ∃ t : Tk, AV.agg cs = eTk t := by
  simp only [IsSh, IsShL] at h
  obtain ⟨_, _, rfl, ⟨n, rfl, _⟩, _, _, rfl, ⟨s, rfl, _⟩, _, _, rfl, ⟨m, rfl, _⟩, rfl⟩ := h
  exact ⟨⟨n, s, m⟩, rfl⟩
theorem dec_tks {B : Nat} {cs : List AV} (h : IsSh B shTks cs) : ∃ l : List Tk, cs = [.list false 3 (l.map eTk)] := by
  rw [IsSh] at h
  obtain ⟨xs, rfl, h0, h1⟩ := h
  obtain ⟨l, hl, hn⟩ := map_dec (f := mkA true) (e := fun t => eTk t) (fun x hx => by
    obtain ⟨t, ht⟩ := dec_tk (h1 x hx).1
    exact ⟨t, ht⟩)
  exact ⟨l, by rw [hl]⟩
end Go.Proofs.YtenpljbbboibiaaDoor
/- Chapter 04: the words that are kept, and the library's variable. -/
namespace Go.Proofs.YtenpljbbboibiaaDoor
open Go.AM Go.Proofs Go.ChangeShapes Go.WideShapes Go.ChangeAt Go.RowKit

theorem kept_laid2 {W : World} (h : laidMetH Tryd.prog Rows.identWordsRow.laid W) (hsh : W.ShapedOpen Tryd.prog) : ∃ Γ : Nat → Option AV, (KeptG Γ ∧ Tok.ΓM Γ) ∧ ∀ n a, Γ n = some a → belL 0 a.cells = true ∧ ∃ vs, VL (gw W) [] a.cells vs ∧ ∀ j (hj : j < vs.length), W.cell? ⟨n, j, none⟩ = some vs[j] := by
  obtain ⟨Γ, ⟨ks, us, g1, g2⟩, hok⟩ := kept_laid h
  obtain ⟨m, hm⟩ := Tryd.laysM219.s1_3 W hsh
  refine ⟨fun n => if n = 1 then some (.int .i64 m) else Γ n, ⟨⟨ks, us, by simpa using g1, g2⟩, m, rfl⟩, fun n a hn => ?_⟩
  simp only at hn
  split at hn
  · rename_i h1
    cases hn
    subst h1
    refine ⟨rfl, [.int .i64 m], by simp [AV.cells, VL, V], fun j hj => ?_⟩
    have : j = 0 := by simp at hj; omega
    subst this
    exact hm
  · exact hok n a hn
end Go.Proofs.YtenpljbbboibiaaDoor
