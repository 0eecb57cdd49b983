/- Package variables: their places. -/
import Derived.Test.YtpjpaojjagffoaaDoorCode
import Derived.Test.YtpjpaojjagffoaaDoorF
import Derived.Test.YtpjpaojjagffoaaDoorT
set_option linter.unusedSimpArgs false
set_option linter.unusedVariables false
namespace Go.Proofs.YtpjpaojjagffoaaDoor
/-- patchbay/net.ins -/
abbrev gIns : Nat := 1
end Go.Proofs.YtpjpaojjagffoaaDoor
/- Netlists: rows of signs. -/
namespace Go.Proofs.YtpjpaojjagffoaaDoor
open Go.AM Go.Proofs
variable {Γ : Nat → Option AV}
set_option linter.unusedSimpArgs false
set_option linter.unusedVariables false

theorem p_row (s : Bs) (n : Nat) (hs : s.length < 2 ^ 40) : PureCon Tryd.prog Γ n_net_row [.str s, .int .i64 n] (.bool (rowB n s)) := by
  refine .run 60 c_net_row (by simp) ?_
  unfold rowB
  by_cases h : s.length = n
  · have h' : (s.length : Int) = n := by omega
    have hT := p_Trim (Γ := Γ) s hs
    unfold sgn at hT
    have h2 : decide (Lib.trimS s [48, 49, 45] = []) = s.all sgnC := by
      rw [Bool.eq_iff_iff, decide_eq_true_iff]; exact trim_nil s
    simp [h, h']
    refine .call 60 (by simp) hT ?_
    simp [h2]
    exact .back (by simp [h2, h])
  · have h' : ¬ (s.length : Int) = n := by omega
    simp [h, h']
    exact .back (by simp [h])
end Go.Proofs.YtpjpaojjagffoaaDoor
/- Netlists: gates that may be. -/
namespace Go.Proofs.YtpjpaojjagffoaaDoor
open Go.AM Go.Proofs
variable {Γ : Nat → Option AV}
set_option linter.unusedSimpArgs false
set_option linter.unusedVariables false

abbrev p2 (a b : Int) : AV := .agg [.int .i64 a, .int .i64 b]
/-- How many Ins the gates of an op have, as it is laid. -/
def insO (n : Int) : Option AV := if 4 ≤ n ∧ n ≤ 9 then some (p2 2 8) else if n = 0 ∨ n = 1 then some (p2 0 0) else if n = 2 ∨ n = 3 then some (p2 1 1) else if n = 10 then some (p2 0 8) else none
def InsG (Γ : Nat → Option AV) : Prop := ∃ ks vs, Γ gIns = some (.kmp ks vs) ∧ ∀ n : Int, findIn (.sc .int) (.int .i64 n) (ks.zip vs) = some (insO n)
def opB (op : Int) (n : Nat) : Bool := if 4 ≤ op ∧ op ≤ 9 then decide (2 ≤ n ∧ n ≤ 8) else if op = 0 ∨ op = 1 then decide (n = 0) else if op = 2 ∨ op = 3 then decide (n = 1) else false
def hasB (op : Int) (n : Nat) : Bool := if op = 10 then decide (n ≤ 8) else opB op n
def gateB (g : Gt) : Bool :=
  if g.op = 10 then decide (g.ins.length ≤ 8) && (decide (g.rows.length ≤ 128) && !anyB (fun s => !rowB g.ins.length s) g.rows) else !(decide (0 < g.rows.length) || g.off) && opB g.op g.ins.length

theorem has_some {ks vs : List AV} (hG : Γ gIns = some (.kmp ks vs)) {op a b : Int} (hF : findIn (.sc .int) (.int .i64 op) (ks.zip vs) = some (some (p2 a b))) (n : Int) : PureCon Tryd.prog Γ n_net_has [.int .i64 op, .int .i64 n] (.bool (decide (a ≤ n) && decide (n ≤ b))) := by
  simp only [gIns] at hG
  refine .run 60 c_net_has (by simp) ?_
  by_cases h : a ≤ n
  · simp [hG, hF, h, isKey, allDatum, isDatum]
    exact .back (by simp)
  · simp [hG, hF, h, isKey, allDatum, isDatum]
    exact .back (by simp)
theorem has_none {ks vs : List AV} (hG : Γ gIns = some (.kmp ks vs)) {op : Int} (hF : findIn (.sc .int) (.int .i64 op) (ks.zip vs) = some none) (n : Int) : PureCon Tryd.prog Γ n_net_has [.int .i64 op, .int .i64 n] (.bool false) := by
  simp only [gIns] at hG
  refine .run 60 c_net_has (by simp) ?_
  simp [hG, hF, isKey, allDatum, isDatum]
  exact .back (by simp)
theorem p_has (hΓ : InsG Γ) (op : Int) (n : Nat) : PureCon Tryd.prog Γ n_net_has [.int .i64 op, .int .i64 n] (.bool (hasB op n)) := by
  obtain ⟨ks, vs, hG, hF⟩ := hΓ
  have h1 := hF op
  unfold insO at h1
  by_cases a : 4 ≤ op ∧ op ≤ 9
  · rw [if_pos a] at h1
    have e : hasB op n = (decide ((2 : Int) ≤ n) && decide ((n : Int) ≤ 8)) := by
      unfold hasB opB
      rw [if_neg (by omega), if_pos a, Bool.eq_iff_iff]
      simp only [Bool.and_eq_true, decide_eq_true_eq]; omega
    rw [e]
    exact has_some hG h1 n
  · rw [if_neg a] at h1
    by_cases b : op = 0 ∨ op = 1
    · rw [if_pos b] at h1
      have e : hasB op n = (decide ((0 : Int) ≤ n) && decide ((n : Int) ≤ 0)) := by
        unfold hasB opB
        rw [if_neg (by omega), if_neg a, if_pos b, Bool.eq_iff_iff]
        simp only [Bool.and_eq_true, decide_eq_true_eq]; omega
      rw [e]
      exact has_some hG h1 n
    · rw [if_neg b] at h1
      by_cases c : op = 2 ∨ op = 3
      · rw [if_pos c] at h1
        have e : hasB op n = (decide ((1 : Int) ≤ n) && decide ((n : Int) ≤ 1)) := by
          unfold hasB opB
          rw [if_neg (by omega), if_neg a, if_neg b, if_pos c, Bool.eq_iff_iff]
          simp only [Bool.and_eq_true, decide_eq_true_eq]; omega
        rw [e]
        exact has_some hG h1 n
      · rw [if_neg c] at h1
        by_cases d : op = 10
        · rw [if_pos d] at h1
          have e : hasB op n = (decide ((0 : Int) ≤ n) && decide ((n : Int) ≤ 8)) := by
            unfold hasB
            rw [if_pos d, Bool.eq_iff_iff]
            simp only [Bool.and_eq_true, decide_eq_true_eq]; omega
          rw [e]
          exact has_some hG h1 n
        · rw [if_neg d] at h1
          have e : hasB op n = false := by
            unfold hasB opB
            rw [if_neg d, if_neg a, if_neg b, if_neg c]
          rw [e]
          exact has_none hG h1 n

theorem a_oddRow (g : Gt) (i : Nat) (hg : GtFew g) : Asks Tryd.prog Γ (fun h => h[i]? = some (.cells (AV.cells (eGt g)))) n_net_Gate_1 [.ptr i 0] AV.str (fun s => !rowB g.ins.length s) g.rows := by
  refine ⟨by simp, fun s hs up h hφ => ?_⟩
  refine .enterB 60 c_net_Gate_1 ?_
  simp [hφ]
  refine .callB 60 (by simp) (p_row s g.ins.length (hg.2.2.2.2 s hs)) ?_
  simp

theorem p_Gate (hΓ : InsG Γ) (g : Gt) (hg : GtFew g) : PureCon Tryd.prog Γ n_net_Gate [eGt g] (.bool (gateB g)) := by
  have b1 := hg.2.1
  have b2 := hg.2.2.1
  refine .run 60 c_net_Gate (by simp) ?_
  unfold gateB
  have hH := p_has hΓ g.op g.ins.length
  have hC := p_ContainsFunc_str (Γ := Γ) (fl := false) (a_oddRow g 0 hg) g.hr (by omega) (h := [.cells (AV.cells (eGt g))]) rfl
  by_cases ho : g.op = 10
  · simp [ho]
    rw [ho] at hH
    refine .call 60 (by simp) hH ?_
    have e : ((g.ins.length : Int) ≤ 8) = (g.ins.length ≤ 8) := propext (by omega)
    have e2 : ((g.rows.length : Int) ≤ 128) = (g.rows.length ≤ 128) := propext (by omega)
    by_cases h1 : g.ins.length ≤ 8
    · by_cases h2 : g.rows.length ≤ 128
      · simp [hasB, h1, h2, e2]
        simp [ho] at hC
        refine .rcall 60 hC ?_
        simp
        exact .back (by simp)
      · simp [hasB, h1, h2, e2]
        exact .back (by simp)
    · simp [hasB, h1]
      exact .back (by simp)
  · simp only [if_neg ho]
    by_cases h1 : 0 < g.rows.length
    · have e : ((0 : Int) < g.rows.length) = True := eq_true (by omega)
      simp [ho, h1, e]
      exact .back (by simp)
    · have e : ((0 : Int) < g.rows.length) = False := eq_false (by omega)
      cases h2 : g.off with
      | true =>
        simp [ho, h1, h2, e]
        exact .back (by simp)
      | false =>
        have h0 : g.rows = [] := List.length_eq_zero_iff.1 (by omega)
        simp [ho, h0, h2]
        refine .call 60 (by simp) hH ?_
        cases h3 : opB g.op g.ins.length with
        | false =>
          simp [hasB, ho, h3]
          exact .back (by simp)
        | true =>
          simp [hasB, ho, h3]
          simp only [h0, h2, AV.cells, List.map_nil] at hC
          refine .rcall 60 hC ?_
          simp [anyB_nil]
          exact .back (by simp)

end Go.Proofs.YtpjpaojjagffoaaDoor
/- Steps: what a gate comes to. -/
namespace Go.Proofs.YtpjpaojjagffoaaDoor
open Go.AM Go.Proofs
variable {Γ : Nat → Option AV}
set_option linter.unusedSimpArgs false
set_option linter.unusedVariables false

/-- How many are true. -/
def cntB : List Bool → Nat
  | [] => 0
  | v :: l => (if v = true then 1 else 0) + cntB l
theorem cntB_le : ∀ l : List Bool, cntB l ≤ l.length
  | [] => Nat.le_refl _
  | v :: l => by rw [cntB, List.length_cons]; have := cntB_le l; split <;> omega
theorem p_step_count (l : List Bool) {k : Nat} (hk : Kd 1 k l) (hl : l.length < 2 ^ 40) : PureCon Tryd.prog Γ n_step_count [.list false k (l.map .bool)] (.int .i64 (cntB l)) := by
  have key : ∀ n i : Nat, i + n = l.length → ∀ a : Nat, a + n < 2 ^ 41 → Fins Tryd.prog Γ (step_count_L1 (.int .i64 a) (.list false k (l.map .bool)) (.int .i64 l.length) (.int .i64 i) []) (.ret (.int .i64 (a + cntB (l.drop i) : Nat))) := by
    intro n
    induction n with
    | zero =>
      intro i hi a ha
      have q1 : ¬ i < l.length := by omega
      rw [List.drop_eq_nil_of_le (by omega), cntB]
      refine .go 60 ?_
      simp [q1]
      exact .back (by simp)
    | succ n ih =>
      intro i hi a ha
      have q1 : i < l.length := by omega
      have q2 := eq_true (hk.of q1)
      rw [List.drop_eq_getElem_cons q1, cntB]
      refine .go 60 ?_
      cases h3 : l[i] with
      | true =>
        have hh := ih (i + 1) (by omega) (a + 1) (by omega)
        simp (disch := omega) [q1, q2, h3]
        refine .reLoop ?_
        simp [q2, ← Int.add_assoc] at hh ⊢
        exact hh
      | false =>
        have hh := ih (i + 1) (by omega) a (by omega)
        simp (disch := omega) [q1, q2, h3]
        refine .reLoop ?_
        simp [q2] at hh ⊢
        exact hh
  refine .run 60 c_step_count (by simp) ?_
  simp
  refine .inLoop ?_
  have hh := key l.length 0 (by omega) 0 (by omega)
  simp at hh ⊢
  exact hh

/-- A row fits. -/
def fitsS : Bs → List Bool → Bool
  | c :: s, v :: l => (decide (c = 45) || decide (decide (c = 49) = v)) && fitsS s l
  | _, _ => true
theorem p_fits (s : Bs) (l : List Bool) {k : Nat} (hk : Kd 1 k l) (hl : l.length = s.length) (hs : s.length < 2 ^ 40) : PureCon Tryd.prog Γ n_step_fits [.str s, .list false k (l.map .bool)] (.bool (fitsS s l)) := by
  have key : ∀ n i : Nat, i + n = l.length → Fins Tryd.prog Γ (step_fits_L1 (.str s) (.list false k (l.map .bool)) (.int .i64 l.length) (.int .i64 i) []) (.ret (.bool (fitsS (s.drop i) (l.drop i)))) := by
    intro n
    induction n with
    | zero =>
      intro i hi
      have q1 : ¬ i < l.length := by omega
      rw [List.drop_eq_nil_of_le (by omega), List.drop_eq_nil_of_le (by omega)]
      refine .go 60 ?_
      simp [q1, fitsS]
      exact .back (by simp)
    | succ n ih =>
      intro i hi
      have q1 : i < l.length := by omega
      have q3 : i < s.length := by omega
      have q2 := eq_true (hk.of q1)
      have hh := ih (i + 1) (by omega)
      rw [List.drop_eq_getElem_cons q1, List.drop_eq_getElem_cons q3, fitsS]
      refine .go 60 ?_
      by_cases a : s[i] = 45
      · simp (disch := omega) [q1, q2, q3, a]
        refine .reLoop ?_
        simp [q2] at hh ⊢
        exact hh
      · by_cases b : s[i] = 49
        · cases c : l[i] with
          | true =>
            simp (disch := omega) [q1, q2, q3, b, c]
            refine .reLoop ?_
            simp [q2] at hh ⊢
            exact hh
          | false =>
            simp (disch := omega) [q1, q2, q3, b, c]
            exact .back (by simp)
        · cases c : l[i] with
          | true =>
            simp (disch := omega) [q1, q2, q3, a, b, c]
            exact .back (by simp [a, b])
          | false =>
            simp (disch := omega) [q1, q2, q3, a, b, c]
            refine .reLoop ?_
            simp [q2] at hh ⊢
            exact hh
  refine .run 60 c_step_fits (by simp) ?_
  simp
  refine .inLoop ?_
  have hh := key l.length 0 (by omega)
  simp at hh ⊢
  exact hh

/-- What an op comes to, not turned; is it turned? -/
def opV (op : Int) (l : List Bool) : Bool := if op = 0 ∨ op = 1 then false else if op = 2 ∨ op = 3 ∨ op = 4 ∨ op = 5 then decide (cntB l = l.length) else if op = 6 ∨ op = 7 then decide (0 < cntB l) else decide (cntB l % 2 = 1)
def opT (op : Int) : Bool := decide (op = 1 ∨ op = 3 ∨ op = 5 ∨ op = 7 ∨ op = 9)
def opF (op : Int) : AV := if op = 0 ∨ op = 1 then .fn (.func n_step_of_1) [] [] else if op = 2 ∨ op = 3 ∨ op = 4 ∨ op = 5 then .fn (.func n_step_of_2) [] [] else if op = 6 ∨ op = 7 then .fn (.func n_step_of_3) [] [] else if op = 8 ∨ op = 9 then .fn (.func n_step_of_4) [] [] else .nilf
theorem op_cases {op : Int} (h0 : 0 ≤ op) (h1 : op ≤ 10) : op = 0 ∨ op = 1 ∨ op = 2 ∨ op = 3 ∨ op = 4 ∨ op = 5 ∨ op = 6 ∨ op = 7 ∨ op = 8 ∨ op = 9 ∨ op = 10 := by omega
set_option maxRecDepth 8000 in
theorem p_step_of (op : Int) (h0 : 0 ≤ op) (h1 : op ≤ 10) : PureCon Tryd.prog Γ n_step_of [.int .i64 op] (.agg [opF op, .bool (opT op)]) := by
  refine .run 200 c_step_of (by simp) ?_
  rcases op_cases h0 h1 with rfl | rfl | rfl | rfl | rfl | rfl | rfl | rfl | rfl | rfl | rfl
  all_goals
    simp
    exact .back (by simp [opF, opT])
theorem p_of_1 (l : List Bool) {k : Nat} (hk : Kd 1 k l) : PureCon Tryd.prog Γ n_step_of_1 [.list false k (l.map .bool)] (.bool false) := by
  refine .run 60 c_step_of_1 (by simp) ?_
  simp
  exact .back (by simp)
theorem p_of_2 (l : List Bool) {k : Nat} (hk : Kd 1 k l) (hl : l.length < 2 ^ 40) : PureCon Tryd.prog Γ n_step_of_2 [.list false k (l.map .bool)] (.bool (decide (cntB l = l.length))) := by
  have e : ((cntB l : Int) = l.length) = (cntB l = l.length) := propext (by omega)
  refine .run 60 c_step_of_2 (by simp) ?_
  simp
  refine .call 60 (by simp) (p_step_count l hk hl) ?_
  simp [e]
  exact .back (by simp)
theorem p_of_3 (l : List Bool) {k : Nat} (hk : Kd 1 k l) (hl : l.length < 2 ^ 40) : PureCon Tryd.prog Γ n_step_of_3 [.list false k (l.map .bool)] (.bool (decide (0 < cntB l))) := by
  refine .run 60 c_step_of_3 (by simp) ?_
  simp
  refine .call 60 (by simp) (p_step_count l hk hl) ?_
  simp
  exact .back (by simp)
theorem p_of_4 (l : List Bool) {k : Nat} (hk : Kd 1 k l) (hl : l.length < 2 ^ 40) : PureCon Tryd.prog Γ n_step_of_4 [.list false k (l.map .bool)] (.bool (decide (cntB l % 2 = 1))) := by
  refine .run 60 c_step_of_4 (by simp) ?_
  simp
  refine .call 60 (by simp) (p_step_count l hk hl) ?_
  have e2 : ((cntB l : Int) % 2 = 1) = (cntB l % 2 = 1) := propext (by omega)
  simp [e2]
  exact .back (by simp)
end Go.Proofs.YtpjpaojjagffoaaDoor
/- Steps: what a gate comes to, as a whole. -/
namespace Go.Proofs.YtpjpaojjagffoaaDoor
open Go.AM Go.Proofs
variable {Γ : Nat → Option AV}
set_option linter.unusedSimpArgs false
set_option linter.unusedVariables false

def gateOk (g : Gt) (ins : List Bool) : Bool := gateB g && decide (ins.length = g.ins.length)
def gateR (g : Gt) (ins : List Bool) : Bool := if g.op = 10 then !decide (anyB (fun s => fitsS s ins) g.rows = g.off) else !decide (opV g.op ins = opT g.op)
def gateV (g : Gt) (ins : List Bool) : Bool := gateOk g ins && gateR g ins
def gateE (g : Gt) (ins : List Bool) : Int := if gateOk g ins = true then 0 else 1
theorem a_fits (g : Gt) (ins : List Bool) {k : Nat} (hk : Kd 1 k ins) (i : Nat) (hl : ∀ s ∈ g.rows, ins.length = s.length ∧ s.length < 2 ^ 40) : Asks Tryd.prog Γ (fun h => h[i]? = some (.cells [.list false k (ins.map .bool)])) n_step_Gate_1_1 [.ptr i 0] AV.str (fun s => fitsS s ins) g.rows := by
  refine ⟨by simp, fun s hs up h hφ => ?_⟩
  have hf := p_fits (Γ := Γ) s ins hk (hl s hs).1 (hl s hs).2
  refine .enterB 60 c_step_Gate_1_1 ?_
  simp [hφ]
  refine .callB 60 (by simp) hf ?_
  simp
theorem r_gate1 (g : Gt) (hg : GtFew g) (ins : List Bool) {k : Nat} (hk : Kd 1 k ins) (j : Nat) (hl : ∀ s ∈ g.rows, ins.length = s.length ∧ s.length < 2 ^ 40) {h : List Ob} (hj : h[j]? = some (.cells (AV.cells (eGt g)))) : ∀ up, AM.Reach Tryd.prog Γ (.cl n_step_Gate_1 [.list false k (ins.map .bool), .ptr j 0] up h) (.back up (.bool (anyB (fun s => fitsS s ins) g.rows)) (h ++ [.cells [.list false k (ins.map .bool)]])) := by
  intro up
  have hget := fun os => get_app hj os
  have hC := p_ContainsFunc_str (Γ := Γ) (fl := false) (a_fits g ins hk h.length hl) g.hr (by have := hg.2.2.1; omega) (h := h ++ [.cells [.list false k (ins.map .bool)]]) (by simp)
  refine .enterB 60 c_step_Gate_1 ?_
  simp [hget]
  refine .rcall 60 hC ?_
  simp

set_option maxRecDepth 8000 in
theorem p_step_Gate (hΓ : InsG Γ) (g : Gt) (hg : GtFew g) (ins : List Bool) {k : Nat} (hk : Kd 1 k ins) (hli : ins.length < 2 ^ 40) : PureCon Tryd.prog Γ n_step_Gate [eGt g, .list false k (ins.map .bool)] (.tup [.bool (gateV g ins), .int .i64 (gateE g ins)]) := by
  have kG := p_Gate hΓ g hg
  have e : ((ins.length : Int) = g.ins.length) = (ins.length = g.ins.length) := propext (by omega)
  unfold gateV gateE gateOk
  refine .run 200 c_step_Gate (by simp) ?_
  simp
  refine .call 200 (by simp) kG ?_
  cases hb : gateB g with
  | false =>
    simp
    exact .back (by simp)
  | true =>
    by_cases hn : ins.length = g.ins.length
    · have hop : 0 ≤ g.op ∧ g.op ≤ 10 := by
        unfold gateB opB at hb
        by_cases h10 : g.op = 10
        · omega
        · rw [if_neg h10] at hb
          simp only [Bool.and_eq_true] at hb
          have hb2 := hb.2
          split at hb2
          · omega
          · split at hb2
            · omega
            · split at hb2
              · omega
              · cases hb2
      have kO := p_step_of (Γ := Γ) g.op hop.1 hop.2
      by_cases h10 : g.op = 10
      · have hrow : ∀ s ∈ g.rows, ins.length = s.length ∧ s.length < 2 ^ 40 := fun s hs => by
          unfold gateB at hb
          rw [if_pos h10] at hb
          simp only [Bool.and_eq_true, Bool.not_eq_true'] at hb
          have := anyB_no.1 hb.2.2 s hs
          simp only [Bool.not_eq_false', rowB, Bool.and_eq_true, decide_eq_true_eq] at this
          exact ⟨by omega, hg.2.2.2.2 s hs⟩
        have hR := fun (h : List Ob) hj => r_gate1 (Γ := Γ) g hg ins hk 0 hrow (h := h) hj
        have e10 : opF 10 = .nilf := rfl
        have e11 : opT 10 = false := rfl
        rw [h10, e10, e11] at kO
        simp [hn, e, h10]
        refine .call 200 (by simp) kO ?_
        simp [gateR, h10]
        refine .dr 200 ?_
        simp
        refine .reach (by simp) (hR _ (by simp [h10])) ?_
        simp
        exact .back (by simp)
      · obtain ⟨f, e1, hbf, hpf⟩ : ∃ f, opF g.op = .fn (.func f) [] [] ∧ hasBody Tryd.prog f = true ∧ PureCon Tryd.prog Γ f [.list false k (ins.map .bool)] (.bool (opV g.op ins)) := by
          rcases op_cases hop.1 hop.2 with c | c | c | c | c | c | c | c | c | c | c
          · rw [c]; exact ⟨_, rfl, by simp, p_of_1 ins hk⟩
          · rw [c]; exact ⟨_, rfl, by simp, p_of_1 ins hk⟩
          · rw [c]; exact ⟨_, rfl, by simp, p_of_2 ins hk hli⟩
          · rw [c]; exact ⟨_, rfl, by simp, p_of_2 ins hk hli⟩
          · rw [c]; exact ⟨_, rfl, by simp, p_of_2 ins hk hli⟩
          · rw [c]; exact ⟨_, rfl, by simp, p_of_2 ins hk hli⟩
          · rw [c]; exact ⟨_, rfl, by simp, p_of_3 ins hk hli⟩
          · rw [c]; exact ⟨_, rfl, by simp, p_of_3 ins hk hli⟩
          · rw [c]; exact ⟨_, rfl, by simp, p_of_4 ins hk hli⟩
          · rw [c]; exact ⟨_, rfl, by simp, p_of_4 ins hk hli⟩
          · exact absurd c h10
        rw [e1] at kO
        simp [hn, e, h10, gateR]
        refine .call 200 (by simp) kO ?_
        simp [h10, hbf]
        refine .dr 200 ?_
        simp [hbf]
        refine .call (by simp) hpf ?_
        simp
        exact .back (by simp)
    · simp [hn, e]
      exact .back (by simp)
end Go.Proofs.YtpjpaojjagffoaaDoor
/- Law CoverMeans. -/
namespace Go.Proofs.YtpjpaojjagffoaaDoor
open Go.AM Go.Proofs
variable {Γ : Nat → Option AV}
set_option linter.unusedSimpArgs false
set_option linter.unusedVariables false

theorem fits_same (ins : List Bool) : ∀ (s : Bs) (i : Nat), s.all sgnC = true → s.length = (ins.drop i).length → (litsF s i).all (fun x => litI ins (nodeF x).lit) = fitsS s (ins.drop i)
  | [], i, _, _ => by simp [litsF, fitsS]
  | c :: s, i, hg, hl => by
    have hi : i < ins.length := by
      refine Decidable.byContradiction fun hn => ?_
      rw [List.drop_eq_nil_of_le (by omega)] at hl
      simp at hl
    rw [List.drop_eq_getElem_cons hi] at hl ⊢
    rw [List.all_cons, Bool.and_eq_true] at hg
    have ih := fits_same ins s (i + 1) hg.2 (by simp at hl ⊢; omega)
    rw [fitsS, ← ih, litsF]
    by_cases a : c = 45
    · rw [if_pos a]; simp [a]
    · rw [if_neg a, List.all_cons]
      congr 1
      have hc := hg.1
      simp only [sgnC, Bool.or_eq_true, decide_eq_true_eq] at hc
      rcases hc with b | b | b
      · subst b
        have e1 : ((2 * (i : Int) + 1) / 2).toNat = i := by omega
        have e2 : (2 * (i : Int) + 1) % 2 = 1 := by omega
        simp [nodeF, litI, e1, e2, List.getD_eq_getElem?_getD, List.getElem?_eq_getElem hi]
      · subst b
        have e1 : ((2 * (i : Int)) / 2).toNat = i := by omega
        have e2 : ¬ (2 * (i : Int)) % 2 = 1 := by omega
        simp [nodeF, litI, e1, e2, List.getD_eq_getElem?_getD, List.getElem?_eq_getElem hi]
      · exact absurd b a
def namesM : List Bs := [[97], [98], [99], [100], [101], [102], [103], [104]]
def gM (rows : List Bs) (k : Nat) (hk : Kd 1 k rows) (n : Nat) : Gt := ⟨[122], 10, namesM.take n, rows, false, 1, k, .inl rfl, hk⟩

set_option maxRecDepth 8000 in
theorem l_CoverMeans (hΓ : InsG Γ) (rows : List Bs) (ins : List Bool) {k ki : Nat} (hk : Kd 1 k rows) (hki : Kd 1 ki ins) : PureCon Tryd.prog Γ n_w10_CoverMeans [.list false k (rows.map .str), .list false ki (ins.map .bool)] (.bool true) := by
  have k1 := p_few (Γ := Γ) rows hk
  refine .run 90 c_w10_CoverMeans (by simp) ?_
  simp
  refine .call 90 (by simp) p_works ?_
  simp
  refine .call 90 (by simp) k1 ?_
  cases hf : fewR rows with
  | false =>
    simp [hf]
    exact .back (by simp)
  | true =>
    by_cases h8 : 8 < ins.length
    · have h8' : (8 : Int) < ins.length := by omega
      simp [hf, h8, h8']
      exact .back (by simp)
    obtain ⟨f1, f2⟩ := few_rows hf
    have h8' : ¬ (8 : Int) < ins.length := by omega
    have h8'' : ins.length ≤ 8 := by omega
    have k2 := p_Factor (Γ := Γ) rows ins.length hk
    have hnl : (namesM.take ins.length).length = ins.length := by rw [List.length_take]; simp [namesM]; omega
    have hGf : GtFew (gM rows k hk ins.length) := by
      refine ⟨by simp [gM], by rw [gM]; simp only [hnl]; omega, by simp only [gM]; omega, fun s hs => ?_, fun s hs => by have := f2 s hs; omega⟩
      have h1 : s ∈ namesM := List.mem_of_mem_take hs
      simp only [namesM, List.mem_cons, List.not_mem_nil, or_false] at h1
      rcases h1 with rfl | rfl | rfl | rfl | rfl | rfl | rfl | rfl <;> simp
    have k3 := p_step_Gate hΓ (gM rows k hk ins.length) hGf ins hki (by omega)
    have hgb : gateB (gM rows k hk ins.length) = !wrongF ins.length rows := by
      have e1 : ¬ ((ins.length : Int) < 0) := by omega
      unfold gateB wrongF gM
      simp only [hnl, if_true, Int.toNat_natCast]
      rw [Bool.eq_iff_iff]
      simp only [Bool.and_eq_true, decide_eq_true_eq, Bool.not_eq_true', Bool.or_eq_false_iff, decide_eq_false_iff_not]
      exact ⟨fun ⟨a, b, c⟩ => ⟨e1, h8', by omega, c⟩, fun ⟨a, b, c, d⟩ => ⟨by omega, by omega, d⟩⟩
    simp [hf, h8, h8']
    refine .call 90 (by simp) k2 ?_
    cases hw : wrongF ins.length rows with
    | true =>
      have e : facE rows ins.length = 1 := by unfold facE; rw [hw]; rfl
      have e2 : facF rows ins.length = [] := by unfold facF; rw [hw]; rfl
      have e3 : gateE (gM rows k hk ins.length) ins = 1 := by unfold gateE gateOk; rw [hgb, hw]; rfl
      have k4 := p_cover_Eval (Γ := Γ) [] (.inl rfl : Kd 3 3 _) (by simp) ins hki (by omega)
      rw [e3] at k3
      simp [e, e2, h8'']
      refine .call 90 (by simp [gM, namesM]) k3 ?_
      simp
      simp at k4
      refine .call 90 (by simp) k4 ?_
      simp
      exact .back (by simp)
    | false =>
      have e : facE rows ins.length = 0 := facE_ok.2 hw
      have e3 : gateOk (gM rows k hk ins.length) ins = true := by unfold gateOk; rw [hgb, hw]; simp [gM, hnl]
      have e4 : gateE (gM rows k hk ins.length) ins = 0 := by unfold gateE; rw [e3]; rfl
      have hform := fac_form hw (litI ins)
      obtain ⟨m, hm, _, _, hrow⟩ := wrong_no hw
      have hfit : anyB (fitsF (litI ins)) rows = anyB (fun s => fitsS s ins) rows := by
        have : ∀ s ∈ rows, fitsF (litI ins) s = fitsS s ins := fun s hs => by
          have := fits_same ins s 0 (hrow s hs).1 (by simp; have := (hrow s hs).2; omega)
          simpa [fitsF] using this
        rw [Bool.eq_iff_iff, anyB_yes, anyB_yes]
        exact ⟨fun ⟨s, a, b⟩ => ⟨s, a, by rw [← this s a]; exact b⟩, fun ⟨s, a, b⟩ => ⟨s, a, by rw [this s a]; exact b⟩⟩
      have e5 : gateV (gM rows k hk ins.length) ins = anyB (fun s => fitsS s ins) rows := by
        unfold gateV gateR
        rw [e3]
        simp only [gM, if_true, Bool.true_and]
        by_cases hx : anyB (fun s => fitsS s ins) rows = true
        · simp [hx]
        · simp [Bool.eq_false_iff.2 hx]
      have hfl : (facF rows ins.length).length < 2 ^ 30 := by
        unfold facF
        rw [hw, if_neg (by simp)]
        obtain ⟨m, h0, h1, h2, h3⟩ := wrong_no hw
        have hc := fac_cost h1 h2 fun s hs => (h3 s hs).2
        have hl := factorF_len (costF (uniqF [] rows) + 1) (uniqF [] rows)
        omega
      have k4 := p_cover_Eval (Γ := Γ) (facF rows ins.length) (.inl rfl : Kd 3 3 _) (by omega) ins hki (by omega)
      rw [hform, hfit] at k4
      rw [e4, e5] at k3
      simp [e, h8'']
      refine .call 90 (by simp [gM, namesM]) k3 ?_
      simp
      refine .call 90 (by simp) k4 ?_
      simp
      exact .back (by simp)
end Go.Proofs.YtpjpaojjagffoaaDoor
/- Chapter 10: the map of how many Ins, as the card lays it. -/
namespace Go.Proofs.YtpjpaojjagffoaaDoor
open Go.AM Go.Proofs Go.ChangeShapes Go.WideShapes Go.ChangeAt Go.RowKit

/-- How many Ins, as the card has them. -/
def insD : List (Lit × DataW Unit) := match (Rows.laid_patchbay_net_ins : DataW Unit) with
  | .map D => D
  | _ => []
theorem insD_eq : (Rows.laid_patchbay_net_ins : DataW Unit) = .map insD := by kernel_rfl
def insK : List (AV × AV) := [(.int .i64 0, p2 0 0), (.int .i64 1, p2 0 0), (.int .i64 2, p2 1 1), (.int .i64 3, p2 1 1), (.int .i64 4, p2 2 8), (.int .i64 5, p2 2 8), (.int .i64 6, p2 2 8), (.int .i64 7, p2 2 8), (.int .i64 8, p2 2 8), (.int .i64 9, p2 2 8), (.int .i64 10, p2 0 8)]
theorem insD_av : (insD.map fun d => (keyAV d.1, valAV d.2)) = insK := by kernel_rfl
theorem gIns1 : Tryd.prog.globalNamed "patchbay/net.ins" = some 1 := by kernel_rfl
theorem tIns : (Tryd.prog.globals[1]?).map (·.type) = some 127 := by kernel_rfl
theorem uIns : Tryd.prog.underlying 127 = some (.map 50 85) := by kernel_rfl
theorem u37 : Tryd.prog.underlying 50 = some (.int .i64) := by kernel_rfl
theorem u74 : Tryd.prog.underlying 85 = some (.array 2 3) := by kernel_rfl
theorem u3 : Tryd.prog.underlying 3 = some (.int .i64) := by kernel_rfl

/-- What the card gives. -/
theorem ins_laid {W : World} (h : laidMetH Tryd.prog Rows.coverMeansRow.laid W) : ∃ Γ : Nat → Option AV, InsG Γ ∧ ∀ n a, Γ n = some a → belL 0 a.cells = true ∧ ∃ vs, VL (gw W) [] a.cells vs ∧ ∀ j (hj : j < vs.length), W.cell? ⟨n, j, none⟩ = some vs[j] := by
  obtain ⟨ks, us, h1, h2, z, hz, hm⟩ := map_laid h (by kernel_rfl) (name := "patchbay/net.ins") (D := insD) (by rw [← insD_eq]; exact List.mem_cons_of_mem _ (List.mem_cons_self ..)) gIns1 tIns uIns
    (fun v q hq => by obtain ⟨a, b, _⟩ := key_int u37 (g := gw W) (h := []) hq; exact ⟨a, b⟩) (fun n v x hf ht => val_int2 u74 u3 (by kernel_rfl) (by kernel_rfl) hf ht)
  refine ⟨fun n => if n = 1 then some (.kmp ks us) else none, ⟨ks, us, rfl, fun n => ?_⟩, fun n a hn => ?_⟩
  · rw [hz]
    rw [insD_av] at hm
    obtain ⟨r, e1, e2, e3⟩ := findIn_spec (.sc .int) (.int .i64 n) z (by
      intro y hy
      have hy2 := (hm y).1 hy
      simp only [insK, List.mem_cons, List.not_mem_nil, or_false] at hy2
      have hcase : ∀ m : Int, (eqData (.sc .int) (.int .i64 n) (.int .i64 m) = some true ∧ AV.int .i64 n = .int .i64 m) ∨ (eqData (.sc .int) (.int .i64 n) (.int .i64 m) = some false ∧ AV.int .i64 n ≠ .int .i64 m) := by
        intro m
        by_cases hnm : n = m
        · exact .inl ⟨by simp [eqData, eqOne, hnm], by rw [hnm]⟩
        · exact .inr ⟨by simp [eqData, eqOne, hnm], by simp [hnm]⟩
      rcases hy2 with rfl | rfl | rfl | rfl | rfl | rfl | rfl | rfl | rfl | rfl | rfl <;> exact hcase _)
    rw [e1]
    unfold insO
    cases r with
    | some v =>
      have hv := (hm _).1 (e3 v rfl)
      simp only [insK, List.mem_cons, List.not_mem_nil, or_false, Prod.mk.injEq, AV.int.injEq, true_and] at hv
      rcases hv with ⟨rfl, rfl⟩ | ⟨rfl, rfl⟩ | ⟨rfl, rfl⟩ | ⟨rfl, rfl⟩ | ⟨rfl, rfl⟩ | ⟨rfl, rfl⟩ | ⟨rfl, rfl⟩ | ⟨rfl, rfl⟩ | ⟨rfl, rfl⟩ | ⟨rfl, rfl⟩ | ⟨rfl, rfl⟩ <;> rfl
    | none =>
      have hno : ∀ y ∈ insK, ¬ (AV.int .i64 n = y.1) := fun y hy => e2 rfl y ((hm y).2 hy)
      simp only [insK, List.mem_cons, List.not_mem_nil, or_false, forall_eq_or_imp, forall_eq, AV.int.injEq, true_and] at hno
      rw [if_neg (by omega), if_neg (by omega), if_neg (by omega), if_neg (by omega)]
  · simp only at hn
    split at hn
    · rename_i h0
      cases hn
      subst h0
      exact ⟨h1, h2⟩
    · cases hn

theorem door_met2 (os : Os) (args : Array Value) : laidMetH Tryd.prog Rows.coverMeansRow.laid ((startW os).forCall (fun _ _ => 0) ⟨#[], args, []⟩).memory :=
  laidMetH_of_parts3 (fuel := 8) (laidMet_of_run' 8 (by kernel_rfl) (by kernel_rfl)) (by kernel_rfl) (by kernel_rfl)
end Go.Proofs.YtpjpaojjagffoaaDoor
/- CoverMeans: for every input the law returns true, and each argument reads as it did; the package's variables start as the program's text lays them. -/
namespace Go.Proofs.YtpjpaojjagffoaaDoor
open Go.AM Go.Proofs Go.ChangeShapes Go.WideShapes Go.ChangeAt Go.RowKit

theorem coverMeans_reads (os : Os) {H : Type} (enc : TypeId × Value → H) : ∃ ds places, DataW.whole enc Tryd.prog ((startW os).forCall (fun _ _ => 0) ⟨#[], #[.slice none 0 0, .slice none 0 0], []⟩).memory Tryd.f7.params.toList Rows.coverMeansSpec.vars false (#[.slice none 0 0, .slice none 0 0] : Array Value).toList 8 = some (ds, [], places) :=
  ⟨[.nil, .nil], [], by kernel_rfl⟩

set_option maxRecDepth 100000 in
theorem coverMeans_lifted (os : Os) (started : os.Started) (H : Type) (enc : TypeId × Value → H) (F : Stop.Interp) :
    ReturnsInHanded {} Tryd.checked os 7 .any ((OpenSpec.ofChange Rows.coverMeansSpec).preRow enc Tryd.prog Tryd.f7 Rows.coverMeansRow.domain false Rows.coverMeansRow.laid) (((OpenSpec.ofChange Rows.coverMeansSpec).at F).post enc Tryd.prog Tryd.f7 false true false false) := by
  obtain ⟨ds, places, hx⟩ := coverMeans_reads os enc
  refine returnsInHanded_of_row (C := Tryd.checked) (s := OpenSpec.ofChange Rows.coverMeansSpec) own started (by kernel_rfl) Tryd.func7
    (witness_row_at (enc := enc) (C := Tryd.checked) false (startW os) #[.slice none 0 0, .slice none 0 0] rfl (by kernel_rfl) (by kernel_rfl) (by kernel_rfl)
      (OpenSpec.preRow_of_cond 8 hx (by kernel_rfl) (fun k hk => by cases hk) (by kernel_rfl) (door_met2 os _))) ?_
  intro W base args ds gs before hval hW _ _ _ hL hsh _
  obtain ⟨Γ, hΓ, hok⟩ := ins_laid hL
  refine law_callsQ Down.any (Γ := Γ) (shs := [(false, shSs), (false, shBs)]) laid mapsR (tb := 4) (by kernel_rfl) u4 (of_decide_eq_true (by kernel_rfl)) (by kernel_rfl) rfl ?_ hok ?_ hval hW (fun _ _ => trivial)
  · intro ds hds
    match ds, hds with
    | [d1, d2], _ => exact ⟨rfl, rfl, rfl⟩
  · intro xs has
    simp only [IsArgs] at has
    obtain ⟨_, _, rfl, h1, _, _, _, rfl, h2, _, rfl⟩ := has
    obtain ⟨a1, rfl⟩ := dec_strs h1
    obtain ⟨a2, rfl⟩ := dec_bools h2
    simp only [mkA]
    exact l_CoverMeans hΓ a1 a2 (.inl rfl) (.inl rfl)

theorem coverMeans_said : Rows.CoverMeansSaid :=
  OpenClaim.holds_of_cond 7 Tryd.f7 rfl rfl rfl rfl rfl rfl rfl ⟨rfl, rfl, rfl, rfl, rfl⟩ rfl rfl rfl rfl rfl (by kernel_rfl) Tryd.func7 (by kernel_rfl)
    (of_decide_eq_true (by kernel_rfl)) (by unfold Func.isWrapper; first | (rw [if_pos (by decide +kernel)]; kernel_rfl) | (rw [if_neg (by decide +kernel)]; exact ⟨rfl, rfl⟩))
    (fun os started H enc _ F => by rw [OpenClaim.pre_eq_preRow]; exact coverMeans_lifted os started H enc F)

theorem coverMeans_plain (f : FuncId) (fn : Func) (hf : Tryd.pinned.checked.prog.funcNamed "patchbay/patchbaylaw10.CoverMeans" = some f) (hfn : Tryd.pinned.checked.prog.funcs[f]? = some fn) :
    true = Tryd.pinned.checked.prog.looks [] ∧ ∀ (j : Nat) t, fn.params[j]? = some t → Tryd.pinned.checked.prog.wantsStandIn t = false := by
  obtain rfl : f = 7 := Option.some.inj ((show Tryd.prog.funcNamed "patchbay/patchbaylaw10.CoverMeans" = some 7 by kernel_rfl).symm.trans hf) |>.symm
  obtain rfl : fn = Tryd.f7 := (Option.some.inj (Tryd.func7.symm.trans hfn)).symm
  refine ⟨by kernel_rfl, fun j t ht => ?_⟩
  have h1 : (Tryd.f7.params.toList.all fun t => !Tryd.prog.wantsStandIn t) = true := by kernel_rfl
  have h2 := List.all_eq_true.1 h1 t (by simpa using Array.mem_of_getElem? ht)
  revert h2
  show (!Tryd.prog.wantsStandIn t) = true → Tryd.prog.wantsStandIn t = false
  cases Tryd.prog.wantsStandIn t <;> intro h <;> first | rfl | cases h

theorem coverMeans_holds : Rows.CoverMeansCardSaid :=
  Claim7.holds_tied_plain_at .later [] _ _ _ _ coverMeans_said (fun _ h => by cases h) (by kernel_rfl) (fun _ h => by cases h) coverMeans_row_tie rfl ⟨rfl, rfl⟩ (by kernel_rfl) rfl coverMeans_plain (by kernel_rfl)
#print axioms coverMeans_holds
end Go.Proofs.YtpjpaojjagffoaaDoor
