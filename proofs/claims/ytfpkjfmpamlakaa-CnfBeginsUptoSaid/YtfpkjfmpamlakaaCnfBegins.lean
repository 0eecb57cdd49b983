/- The law: CnfBegins. -/
import Derived.Test.YtfpkjfmpamlakaaF
import Derived.Test.YtfpkjfmpamlakaaT
set_option linter.unusedSimpArgs false
set_option linter.unusedVariables false
namespace Go.Proofs.Ytfpkjfmpamlakaa
open Go.AM Go.Proofs
variable {Γ : Nat → Option AV}
set_option linter.unusedSimpArgs false
set_option linter.unusedVariables false

theorem Bu.steps_more (g : Gr) : ∀ (n : Nat) (b : Bu), ∃ c l, (Bu.steps g n b).cls = b.cls ++ c ∧ (Bu.steps g n b).lits = b.lits ++ l
  | 0, b => ⟨[], [], by simp [Bu.steps], by simp [Bu.steps]⟩
  | n + 1, b => by
    obtain ⟨c, l, h1, h2⟩ := Bu.steps_more g n (b.step g)
    rw [Bu.steps, h1, h2]
    exact ⟨clsA (b.row1 g) (b.v + g.ins.toNat) g.ands 0 ++ c, [b.row g] ++ l, by simp [Bu.step], by simp [Bu.step]⟩
theorem canC_less {g : Gr} {begin : List Int} {k n : Nat} (h : canC g begin k = 0) (hn : n ≤ k) : canC g begin n = 0 := by
  obtain ⟨h1, h2, h3, h4, h5, h6⟩ := canC_ok h
  have ok := Gr.ok_of h1
  have o1 := ok.ins
  have h7 : anyB iniB begin = false := by
    rw [anyB_no]; intro a ha; have := h3 a ha; simp [iniB]; omega
  have h8 : (n : Int) * (g.ins + g.ands.length) ≤ k * (g.ins + g.ands.length) := Int.mul_le_mul_of_nonneg_right (by omega) (by omega)
  unfold manyC at h6
  have h9 : ¬ (20000 < manyC g begin n) := by unfold manyC; omega
  unfold canC
  rw [if_neg (by simp [h1]), if_neg (by simp [h2, h7]), if_neg (by rw [not_or, not_or]; exact ⟨by omega, by omega, h9⟩)]
/-- What is said of fewer steps. -/
theorem unN_less {g : Gr} {begin : List Int} {k n : Nat} (h : canC g begin k = 0) (hn : n ≤ k) :
    lls (unN g begin n).cls = lls ((unN g begin k).cls.take (unN g begin n).cls.length) ∧ (unN g begin n).cls.length ≤ (unN g begin k).cls.length ∧ (unN g begin n).vars ≤ (unN g begin k).vars ∧
    ∀ t (h1 : t < (unN g begin n).lits.length) (h2 : t < (unN g begin k).lits.length), t < n → (unN g begin n).lits[t].l = (unN g begin k).lits[t].l := by
  have h0 := canC_less h hn
  obtain ⟨a1, a2, a3, a4, a5, a6⟩ := unN_sizes h
  obtain ⟨b1, b2, b3, b4, b5, b6⟩ := unN_sizes h0
  have e : unN g begin n = (Bu.steps g n (bu0 begin)).cn g := by unfold unN; rw [if_pos h0]; rfl
  have e' : unN g begin k = (Bu.steps g (k - n) (Bu.steps g n (bu0 begin))).cn g := by
    unfold unN; rw [if_pos h, ← Bu.steps_add, Int.toNat_natCast, show n + (k - n) = k by omega]
  obtain ⟨c, l, h1, h2⟩ := Bu.steps_more g (k - n) (Bu.steps g n (bu0 begin))
  have hl : (Bu.steps g n (bu0 begin)).lits.length = n := by rw [Bu.steps_lits]; simp [bu0]
  have m1 := Nat.mul_le_mul_right (3 * g.ands.length) hn
  have m2 := Nat.mul_le_mul_right (g.ins.toNat + g.ands.length) hn
  refine ⟨?_, by omega, by rw [a3, b3]; omega, ?_⟩
  · rw [e, e']
    simp [Bu.cn, h1, lls]
  · intro t t1 t2 ht
    have t3 : t < (Bu.steps g n (bu0 begin)).lits.length := by omega
    have g1 : (unN g begin n).lits[t] = mkR (Bu.steps g n (bu0 begin)).lits[t] := by
      have : (unN g begin n).lits = ((Bu.steps g n (bu0 begin)).lits ++ [(Bu.steps g n (bu0 begin)).last g]).map mkR := by rw [e]; rfl
      simp only [this, List.getElem_map]
      rw [List.getElem_append_left t3]
    have g2 : (unN g begin k).lits[t] = mkR (Bu.steps g n (bu0 begin)).lits[t] := by
      have : (unN g begin k).lits = (((Bu.steps g n (bu0 begin)).lits ++ l) ++ [(Bu.steps g (k - n) (Bu.steps g n (bu0 begin))).last g]).map mkR := by rw [e', ← h2]; rfl
      simp only [this, List.getElem_map]
      rw [List.getElem_append_left (by rw [List.length_append]; omega), List.getElem_append_left t3]
    rw [g1, g2]

set_option maxRecDepth 8000 in
theorem r_bg2 (u w : Cn) (n : Nat) (hnw : n ≤ w.lits.length) (hnu : n ≤ u.lits.length) (hlen : ∀ r ∈ w.lits, r.l.length < 2 ^ 40) (hn : n < 2 ^ 40)
    (heq : ∀ t (h1 : t < w.lits.length) (h2 : t < u.lits.length), t < n → w.lits[t].l = u.lits[t].l) (x9 : AV) (b0 r1 r2 : Ob) (t : List Ob) :
    ∀ m i : Nat, i + m = n → AM.Reach Try.prog Γ (w19_CnfBegins_L2 x9 (.ptr 1 0) (.int .i64 n) (.ptr 4 0) (.int .i64 i) (b0 :: cellsC u :: r1 :: r2 :: cellsC w :: t))
      (w19_CnfBegins_E2 x9 (.ptr 1 0) (.ptr 4 0) (b0 :: cellsC u :: r1 :: r2 :: cellsC w :: t)) := by
  intro m
  induction m with
  | zero =>
    intro i hi
    obtain rfl : i = n := by omega
    refine .goS 60 ?_
    simp
    exact .exit rfl rfl
  | succ m ih =>
    intro i hi
    have q1 : i < n := by omega
    have q1w : i < w.lits.length := by omega
    have q1u : i < u.lits.length := by omega
    have q2 := eq_true (u.hl.of q1u)
    have q3 := eq_true (w.hl.of q1w)
    have hh := ih (i + 1) (by omega)
    refine .goS 60 ?_
    simp (disch := omega) [q1, q1w, q1u, q2, q3]
    refine .drS 60 ?_
    simp (disch := omega) [q1w, q1u, q2, q3]
    refine .call (by simp) (p_r01_Ints w.lits[i].l u.lits[i].l w.lits[i].hk u.lits[i].hk (by have := hlen _ (List.getElem_mem q1w); omega)) ?_
    simp (disch := omega) [heq i q1w q1u q1]
    refine .reLoop ?_
    simp at hh ⊢
    exact hh

set_option maxRecDepth 8000 in
theorem l_CnfBegins (g : Gr) (hf : g.few) (begin : List Int) {kb : Nat} (hb : Kd 1 kb begin) (hl : begin.length < 2 ^ 40) (k : Int) (less : Nat) (hle : less < 256) :
    PureCon Try.prog Γ n_w19_CnfBegins [eGr g, .list false kb (begin.map i64), .int .i64 k, .int .u8 less] (.bool true) := by
  refine .run 60 c_w19_CnfBegins (by simp) ?_
  simp
  refine .call 120 (by simp) p_w19_works ?_
  simp
  refine .call 120 (by simp) (p_w19_small g begin (kb := kb) k) ?_
  simp
  refine .call 120 (by simp) (p_cnf_Unroll g hf begin hb hl k) ?_
  by_cases hc : canC g begin k = 0
  · cases hs : smallB g begin.length k with
    | false =>
      simp [hc]
      exact .back (by simp)
    | true =>
      obtain ⟨h1, h2, h3, h4, h5, h6⟩ := canC_ok hc
      obtain ⟨kk, rfl⟩ := Int.eq_ofNat_of_zero_le h4
      have hn : less % (kk + 1) ≤ kk := by have := Nat.mod_lt less (show 0 < kk + 1 by omega); omega
      have hrem : binI .rem .i64 (less : Int) ((kk : Int) + 1) = some ((less % (kk + 1) : Nat) : Int) := by
        have e1 : ¬ ((kk : Int) + 1 = 0) := by omega
        simp only [binI, e1, if_false]
        rw [show ((kk : Int) + 1) = ((kk + 1 : Nat) : Int) by omega, Int.ofNat_tmod]
      have hun := p_cnf_Unroll (Γ := Γ) g hf begin hb hl (less % (kk + 1) : Nat)
      obtain ⟨u1, u2, u3, u4, u5, u6⟩ := unN_sizes hc
      have hsm := smallB_yes hs
      have hsh := fun k => unN_short (g := g) (begin := begin) (k := k)
      generalize less % (kk + 1) = nn at *
      have hcn := canC_less hc hn
      obtain ⟨w1, w2, w3, w4, w5, w6⟩ := unN_sizes hcn
      obtain ⟨d1, d2, d3, d4⟩ := unN_less hc hn
      have hshw := hsh nn
      rw [hcn] at hun
      simp (disch := omega) [hc, hrem]
      refine .call 120 (by simp) hun ?_
      generalize unN g begin kk = u at *
      generalize unN g begin nn = w at *
      have e5 : (w.lits.length : Int) = nn + 1 := by omega
      have e6 : ¬ (u.cls.length < w.cls.length) := by omega
      have hall : g.all ≤ 12001 := by have := (Gr.ok_of h1).sum; have := (Gr.ok_of h1).ins; unfold Gr.all Gr.first; omega
      simp (disch := omega) [e5, e6]
      refine .inLoop ?_
      have k2 := r_bg2 (Γ := Γ) u w nn (by omega) (by omega) (fun r hr => by have := (w2 r hr).1; omega) (by omega) d4 (.bool true) (boxG g) (.row 1 t_api_Clause_2 [] none true false) (.row 1 t_int_3 [] none true false) [.row 1 t_api_Clause_2 [] none true false, .row 1 t_int_3 [] none true false] nn 0 (by omega)
      simp at k2 ⊢
      refine .reach k2 ?_
      have q5 := eq_true (u.hc.of (i := 0) (by omega))
      have q6 := eq_true d2
      have hfw : FewR w.cls := ⟨by rw [w4]; have := Nat.mul_le_mul (show nn ≤ 6 by omega) (show 3 * g.ands.length ≤ 180 by omega); omega, fun r hr => by have := hshw r hr; omega⟩
      refine .go 60 ?_
      simp (disch := omega) [q5, q6, ← List.map_take]
      refine .dr 60 ?_
      simp (disch := omega) [q5, q6, ← List.map_take]
      refine .call (by simp) (p_r19_Clauses w.cls (u.cls.take w.cls.length) (ka := w.kc) (kb := u.kc) w.hc (by rcases u.hc with h | h; exact .inl h; exact .inr (by simp [h])) hfw) ?_
      simp (disch := omega) [d1, d3]
      exact .back (by simp)
  · have e0 : unN g begin k = cn0 := by unfold unN; rw [if_neg hc]
    cases hs : smallB g begin.length k <;> simp [hc, e0, cn0] <;> exact .back (by simp)
end Go.Proofs.Ytfpkjfmpamlakaa
/- CnfBegins, where what it reads is of small bulk: the law returns true, and it reads as it did. -/
namespace Go.Proofs.Ytfpkjfmpamlakaa
open Go.AM Go.Proofs Go.ChangeShapes Go.WideShapes Go.ChangeAt Go.RowKit

set_option maxRecDepth 100000 in
theorem cnfBegins_lifted (os : Os) (started : os.Started) (H : Type) (enc : TypeId × Value → H) (F : Stop.Interp) :
    ReturnsInHanded {} Try.checked os n_w19_CnfBegins .any ((Rows.OpenSpec.upto Rows.cnfBeginsSpec).pre6 enc Try.prog Try.f8 Rows.cnfBeginsUptoRow.domain false) (((Rows.OpenSpec.upto Rows.cnfBeginsSpec).at F).post enc Try.prog Try.f8 false true false false) := by
  refine returnsInHanded_of_cond (C := Try.checked) (s := Rows.OpenSpec.upto Rows.cnfBeginsSpec) (k := Rows.uptoSmall) rfl own started (by kernel_rfl) Try.func8
    (OpenSpec.witness (enc := enc) (C := Try.checked) (s := Rows.OpenSpec.upto Rows.cnfBeginsSpec) (k := Rows.uptoSmall) rfl false ⟨#[], #[.agg #[.int .i64 0, .slice none 0 0, .slice none 0 0, .slice none 0 0, .slice none 0 0], .slice none 0 0, .int .i64 0, .int .u8 0], []⟩ 8 (by kernel_rfl) (by kernel_rfl) (by kernel_rfl)
      (x := ([.agg [.lit (.int .i64 0), .nil, .nil, .nil, .nil], .nil, .lit (.int .i64 0), .lit (.int .u8 0)], [], [])) (by kernel_rfl) rfl (by kernel_rfl)) ?_
  intro W base args ds gs before hval hW _ hk _
  refine law_callsQ downU (Γ := ΓW) (shs := [(true, shGr), (false, shIs), (false, shI), (false, .int .u8)]) laid mapsR (tb := 4) (by kernel_rfl) Try.underlying4 (of_decide_eq_true (by kernel_rfl)) (by kernel_rfl) rfl ?_ ΓW_ok ?_ hval hW (small_of hk)
  · intro ds hds
    match ds, hds with
    | [d1, d2, d3, d4], _ => exact ⟨rfl, rfl, rfl⟩
  · intro xs has
    simp only [IsArgs] at has
    obtain ⟨_, _, rfl, h1, _, _, _, rfl, h2, _, _, _, rfl, h3, _, _, _, rfl, h4, _, rfl⟩ := has
    obtain ⟨g, hg, hf⟩ := dec_gr h1
    obtain ⟨b, rfl, hb⟩ := dec_ints h2
    obtain ⟨k, rfl, _⟩ := dec_int h3
    simp only [IsSh] at h4
    obtain ⟨x, rfl, x1, x2⟩ := h4
    have e1 : IntKind.min .u8 = 0 := by decide
    have e2 : IntKind.max .u8 = 255 := by decide
    obtain ⟨less, rfl⟩ := Int.eq_ofNat_of_zero_le (show 0 ≤ x by omega)
    simp only [mkA, hg]
    exact l_CnfBegins g (hf (by decide)) b .self (by omega) k less (by omega)

theorem cnfBegins_holds : Rows.CnfBeginsUptoSaid :=
  OpenClaim.holds_of_cond 8 Try.f8 rfl rfl rfl rfl rfl rfl rfl ⟨rfl, rfl, rfl, rfl, rfl⟩ rfl rfl rfl rfl rfl (by kernel_rfl) Try.func8 (by kernel_rfl)
    (of_decide_eq_true (by kernel_rfl)) (by unfold Func.isWrapper; first | (rw [if_pos (by decide +kernel)]; kernel_rfl) | (rw [if_neg (by decide +kernel)]; exact ⟨rfl, rfl⟩))
    (fun os started H enc _ F => cnfBegins_lifted os started H enc F)
#print axioms cnfBegins_holds
end Go.Proofs.Ytfpkjfmpamlakaa
