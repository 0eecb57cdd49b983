/- NetCanon: canon twice is canon. -/
import Derived.Test.YtdodijoconoeeaaDoorF
import Derived.Test.YtdodijoconoeeaaDoorT
set_option linter.unusedSimpArgs false
set_option linter.unusedVariables false
namespace Go.Proofs.YtdodijoconoeeaaDoor
open Go.AM Go.Proofs
variable {Γ : Nat → Option AV}
set_option linter.unusedSimpArgs false
set_option linter.unusedVariables false

theorem canonF_is (g : Gt) : ∀ (f : Nat) (o op : Int), canonF g f o = some op → o ≤ op ∧ op < o + f ∧ hasB op g.ins.length = true ∧ (rowsP op g.ins.length).2 = g.off ∧ (rowsP op g.ins.length).1 = g.rows
  | 0, o, op, h => by cases h
  | f + 1, o, op, h => by
    rw [canonF] at h
    split at h
    · rename_i h1
      obtain rfl := Option.some.inj h
      exact ⟨by omega, by omega, h1⟩
    · have := canonF_is g f (o + 1) op h
      exact ⟨by omega, by omega, this.2.2⟩
theorem oneOp_ne {op : Int} (h : op ≠ 10) : oneOp op ≠ 10 := by
  unfold oneOp
  split
  · decide
  · split
    · decide
    · exact h
theorem oneOp_again (op : Int) : oneOp (oneOp op) = oneOp op := by
  unfold oneOp
  split
  · decide
  · split
    · decide
    · rfl
theorem opB_one {op : Int} (h : opB op 1 = true) : oneOp op = op := by
  unfold opB at h
  unfold oneOp
  split at h
  · simp at h
  · rw [if_neg (by omega), if_neg (by omega)]
theorem has_op {op : Int} {n : Nat} (h : op ≠ 10) : hasB op n = opB op n := by unfold hasB; rw [if_neg h]
theorem canon_name (g : Gt) : (canonG g).name = g.name ∧ (canonG g).ins = g.ins := by
  unfold canonG
  split
  · split <;> exact ⟨rfl, rfl⟩
  · split <;> exact ⟨rfl, rfl⟩
theorem canon_again (g : Gt) : sameG (canonG (canonG g)) (canonG g) = true := by
  unfold sameG
  rw [decide_eq_true_eq]
  by_cases h : g.op = 10
  · cases hc : canonF g 10 0 with
    | none =>
      have e : canonG g = g := by unfold canonG; rw [if_neg (by simpa using h), hc]
      rw [e, e]
    | some op =>
      have e : canonG g = ⟨g.name, op, g.ins, [], false, g.ki, 0, g.hi, .nil⟩ := by unfold canonG; rw [if_neg (by simpa using h), hc]
      obtain ⟨h1, h2, h3, h4⟩ := canonF_is g 10 0 op hc
      have h5 : op ≠ 10 := by omega
      rw [e]
      unfold canonG
      rw [if_pos h5]
      split
      · rename_i h6
        simp only [oneB, Bool.and_eq_true, decide_eq_true_eq] at h6
        rw [has_op h5, h6.1] at h3
        have := opB_one h3
        simp [Gt.key, this]
      · rfl
  · by_cases h1 : oneB g = true
    · have e : canonG g = { g with op := oneOp g.op } := by unfold canonG; rw [if_pos h, if_pos h1]
      rw [e]
      have h2 : oneB { g with op := oneOp g.op } = true := h1
      unfold canonG
      rw [if_pos (oneOp_ne h), if_pos h2]
      simp [Gt.key, oneOp_again]
    · have e : canonG g = g := by unfold canonG; rw [if_pos h, if_neg h1]
      rw [e, e]
theorem canon_gate {g : Gt} (hg : gateB g = true) : gateB (canonG g) = true := by
  by_cases h : g.op = 10
  · cases hc : canonF g 10 0 with
    | none =>
      have e : canonG g = g := by unfold canonG; rw [if_neg (by simpa using h), hc]
      rw [e]; exact hg
    | some op =>
      have e : canonG g = ⟨g.name, op, g.ins, [], false, g.ki, 0, g.hi, .nil⟩ := by unfold canonG; rw [if_neg (by simpa using h), hc]
      obtain ⟨h1, h2, h3, h4⟩ := canonF_is g 10 0 op hc
      have h5 : op ≠ 10 := by omega
      rw [has_op h5] at h3
      rw [e]
      unfold gateB
      simp [h5, h3]
  · by_cases h1 : oneB g = true
    · have e : canonG g = { g with op := oneOp g.op } := by unfold canonG; rw [if_pos h, if_pos h1]
      rw [e]
      have h2 := h1
      simp only [oneB, Bool.and_eq_true, decide_eq_true_eq] at h2
      unfold gateB at hg ⊢
      rw [if_neg h, Bool.and_eq_true] at hg
      have h3 := hg.2
      rw [h2.1] at h3
      have h4 := opB_one h3
      simp only [h4]
      rw [if_neg h, Bool.and_eq_true]
      exact hg
    · have e : canonG g = g := by unfold canonG; rw [if_pos h, if_neg h1]
      rw [e]; exact hg
/-- A gate of one of Ins. -/
def oneG (g : Gt) : Gt := ⟨g.name, g.op, [[97]], [], false, 1, 0, .self, .nil⟩
theorem canon_one (g : Gt) (h1 : 2 ≤ g.op) (h2 : g.op ≤ 9) : gateB (canonG (oneG g)) = true := by
  have hb : oneB (oneG g) = true := rfl
  have hne : (oneG g).op ≠ 10 := by show g.op ≠ 10; omega
  have e : canonG (oneG g) = { oneG g with op := oneOp g.op } := by unfold canonG; rw [if_pos hne, if_pos hb]; rfl
  rw [e]
  have hc : g.op = 2 ∨ g.op = 3 ∨ g.op = 4 ∨ g.op = 5 ∨ g.op = 6 ∨ g.op = 7 ∨ g.op = 8 ∨ g.op = 9 := by omega
  rcases hc with h | h | h | h | h | h | h | h <;> rw [h] <;> rfl
theorem canon_few {g : Gt} (hg : GtFew g) : GtFew (canonG g) := by
  obtain ⟨a, b, c, d, e⟩ := hg
  unfold canonG
  split
  · split <;> exact ⟨a, b, c, d, e⟩
  · split
    · exact ⟨a, b, by simp, d, by simp⟩
    · exact ⟨a, b, c, d, e⟩
theorem one_few {g : Gt} (hg : GtFew g) : GtFew (oneG g) := ⟨hg.1, by simp [oneG], by simp [oneG], by simp [oneG], by simp [oneG]⟩

set_option maxRecDepth 8000 in
theorem l_NetCanon (hΓ : InsG Γ) (g : Gt) : PureCon Tryd.prog Γ n_w06_NetCanon [eGt g] (.bool true) := by
  refine .run 120 c_w06_NetCanon (by simp) ?_
  simp
  refine .call 120 (by simp) (p_works hΓ) ?_
  simp
  refine .call 120 (by simp) (p_FewGate g) ?_
  cases hc : fewG g with
  | false =>
    simp
    exact .back (by simp)
  | true =>
    have fg := few_gate hc
    have fx := canon_few fg
    obtain ⟨n1, n2⟩ := canon_name g
    have k1 := p_Canon hΓ g fg
    have k2 := p_Canon hΓ (canonG g) fx
    have k3 := p_r06_SameGate (Γ := Γ) (canonG (canonG g)) (canonG g) (canon_few fx)
    rw [canon_again] at k3
    have k4 := p_r01_Texts (Γ := Γ) (canonG g).ins g.ins (canonG g).hi g.hi (by have := fx.2.1; omega)
    rw [n2, decide_eq_true rfl] at k4
    have k5 := p_Gate hΓ g fg
    have k6 := p_Gate hΓ (canonG g) fx
    have k7 := p_Canon hΓ (oneG g) (one_few fg)
    have k8 := p_Gate hΓ (canonG (oneG g)) (canon_few (one_few fg))
    have hgi : gateB g = true → gateB (canonG g) = true := canon_gate
    have hone : 2 ≤ g.op → g.op ≤ 9 → gateB (canonG (oneG g)) = true := canon_one g
    generalize canonG (oneG g) = y at k7 k8 hone
    generalize canonG g = x at *
    simp
    refine .call 120 (by simp) k1 ?_
    simp
    refine .dr 120 ?_
    simp
    refine DRC.call (by simp) k2 ?_
    simp
    refine DRC.call (by simp) k3 ?_
    simp
    by_cases o1 : 2 ≤ g.op
    · by_cases o2 : g.op ≤ 9
      · have ho := hone o1 o2
        rw [ho] at k8
        simp [o1, o2]
        refine .call 120 (by simp [n2]) k4 ?_
        simp [n1]
        refine .call 120 (by simp) k5 ?_
        cases hgb : gateB g with
        | true =>
          rw [hgi hgb] at k6
          simp
          refine .call 120 (by simp [n1]) k6 ?_
          simp
          refine .call 120 (by simp [oneG]) k7 ?_
          simp
          refine .call 120 (by simp) k8 ?_
          simp
          exact .back (by simp)
        | false =>
          simp
          refine .call 120 (by simp [oneG]) k7 ?_
          simp
          refine .call 120 (by simp) k8 ?_
          simp
          exact .back (by simp)
      · simp [o1, o2]
        refine .call 120 (by simp [n2]) k4 ?_
        simp [n1]
        refine .call 120 (by simp) k5 ?_
        cases hgb : gateB g with
        | true =>
          rw [hgi hgb] at k6
          simp
          refine .call 120 (by simp [n1]) k6 ?_
          simp
          exact .back (by simp)
        | false =>
          simp
          exact .back (by simp)
    · simp [o1]
      refine .call 120 (by simp [n2]) k4 ?_
      simp [n1]
      refine .call 120 (by simp) k5 ?_
      cases hgb : gateB g with
      | true =>
        rw [hgi hgb] at k6
        simp
        refine .call 120 (by simp [n1]) k6 ?_
        simp
        exact .back (by simp)
      | false =>
        simp
        exact .back (by simp)
end Go.Proofs.YtdodijoconoeeaaDoor
/- NetCovers: the reference's covers. -/
namespace Go.Proofs.YtdodijoconoeeaaDoor
open Go.AM Go.Proofs
variable {Γ : Nat → Option AV}
set_option linter.unusedSimpArgs false
set_option linter.unusedVariables false

theorem p_r06_all (c : UInt8) (n : Nat) (hn : n ≤ 8) : PureCon Tryd.prog Γ n_r06_all [.str [c], .int .i64 n] (.str (List.replicate n c)) := by
  have key : ∀ f i : Nat, i + f = n → Fins Tryd.prog Γ (r06_all_L1 (.str [c]) (.int .i64 n) (.str (List.replicate i c)) (.int .i64 i) []) (.ret (.str (List.replicate n c))) := by
    intro f
    induction f with
    | zero =>
      intro i hi
      have q1 : ¬ i < n := by omega
      obtain rfl : i = n := by omega
      refine .go 60 ?_
      simp
      exact .back (by simp)
    | succ f ih =>
      intro i hi
      have q1 : i < n := by omega
      have hh := ih (i + 1) (by omega)
      have e : List.replicate i c ++ [c] = List.replicate (i + 1) c := by
        rw [List.replicate_succ']
      refine .go 60 ?_
      simp (disch := (first | omega | (simp; omega))) [q1]
      refine .reLoop ?_
      rw [e]
      simp at hh ⊢
      exact hh
  refine .run 60 c_r06_all (by simp) ?_
  simp
  refine .inLoop ?_
  have hh := key n 0 (by omega)
  simp at hh ⊢
  exact hh

/-- How many ones the first bits have. -/
def cntN (k : Nat) : Nat → Nat
  | 0 => 0
  | i + 1 => (if k / 2 ^ i % 2 = 1 then 1 else 0) + cntN k i
theorem cntN_le (k : Nat) : ∀ n, cntN k n ≤ n
  | 0 => Nat.le_refl _
  | n + 1 => by
    have := cntN_le k n
    rw [cntN]
    split <;> omega
def oddF (n w : Nat) : Nat → Nat → List Bs
  | 0, _ => []
  | f + 1, k => if cntN k n % 2 = w then bitsN k n :: oddF n w f (k + 1) else oddF n w f (k + 1)
theorem odd_par : ∀ n : Fin 9, oddF n.val 1 (2 ^ n.val) 0 = parL n.val true ∧ oddF n.val 0 (2 ^ n.val) 0 = parL n.val false := by decide +kernel

set_option maxRecDepth 8000 in
theorem r_odd5 (n w k : Nat) (hn : n ≤ 8) (hk : k < 256) (X : AV) (H : List Ob) (up : List Fr) : ∀ (j : Nat) (s : Bs) (m : Nat), s.length + j ≤ 8 → m + j ≤ 8 → j ≤ n →
    AM.Reach Tryd.prog Γ (r06_odd_L5 (.int .i64 n) (.int .i64 w) X (.int .i64 k) (.str s) (.int .i64 m) (.int .i64 ((j : Int) - 1)) H ⟨[], .norm, 0, up⟩)
      (r06_odd_E5 (.int .i64 n) (.int .i64 w) X (.int .i64 k) (.str (s ++ bitsN k j)) (.int .i64 ((m + cntN k j : Nat) : Int)) H ⟨[], .norm, 0, up⟩) := by
  intro j
  induction j with
  | zero =>
    intro s m h1 h2 h3
    refine .goS 60 ?_
    simp [bitsN, cntN]
    exact .exit rfl rfl
  | succ j ih =>
    intro s m h1 h2 h3
    have hs := shrN k j (by omega)
    have hu := wrapU j (by omega)
    have ej : (((j + 1 : Nat) : Int) - 1) = (j : Int) := by omega
    have e0 : ((0 : Int) ≤ j) = True := eq_true (by omega)
    rw [ej]
    have e3 : (k : Int) / 2 ^ j = ((k / 2 ^ j : Nat) : Int) := by simp
    have hmod : ∀ b : Nat, k / 2 ^ j % 2 = b → ((k : Int) / 2 ^ j).tmod 2 = (b : Int) := by
      intro b hb
      rw [e3, Int.tmod_eq_emod_of_nonneg (by exact_mod_cast Nat.zero_le _)]
      generalize k / 2 ^ j = q at hb
      omega
    rcases Nat.mod_two_eq_zero_or_one (k / 2 ^ j) with hb | hb
    · have hh := ih (s ++ [48]) m (by simp; omega) (by omega) (by omega)
      have e : s ++ bitsN k (j + 1) = s ++ [48] ++ bitsN k j := by simp [bitsN, bitC, hb]
      have e2 : cntN k (j + 1) = cntN k j := by simp [cntN, hb]
      have hm := hmod 0 hb
      rw [e, e2]
      refine .goS 60 ?_
      simp (disch := (first | omega | (simp; omega))) [e0, hu, hs, hm]
      refine .reLoop ?_
      simp at hh ⊢
      exact hh
    · have hh := ih (s ++ [49]) (m + 1) (by simp; omega) (by omega) (by omega)
      have e : s ++ bitsN k (j + 1) = s ++ [49] ++ bitsN k j := by simp [bitsN, bitC, hb]
      have e2 : m + cntN k (j + 1) = m + 1 + cntN k j := by simp [cntN, hb]; omega
      have hm := hmod 1 hb
      rw [e, e2]
      refine .goS 60 ?_
      simp (disch := (first | omega | (simp; omega))) [e0, hu, hs, hm]
      refine .reLoop ?_
      simp at hh ⊢
      exact hh
set_option maxRecDepth 8000 in
theorem p_r06_odd (n w : Nat) (hn : n ≤ 8) (hw : w ≤ 1) : PureCon Tryd.prog Γ n_r06_odd [.int .i64 n, .int .i64 w] (.own 1 t_string ((oddF n w (2 ^ n) 0).map .str)) := by
  have hp : 2 ^ n ≤ 2 ^ 8 := Nat.pow_le_pow_right (by omega) hn
  have hwr := wrapP n hn
  have hu := wrapU n (by omega)
  have key : ∀ M, M = 2 ^ n → ∀ f k : Nat, k + f = M → ∀ L : List Bs, L.length + f < 2 ^ 20 → Fins Tryd.prog Γ (r06_odd_L1 (.int .i64 n) (.int .i64 w) (.sl 1 0 L.length) (.int .i64 k) [.row 1 t_string [] none true false, .row 1 t_string (L.map .str) none true false]) (.ret (.own 1 t_string ((L ++ oddF n w f k).map .str))) := by
    intro M hM
    rw [← hM] at hwr hp
    intro f
    induction f with
    | zero =>
      intro k hk L hL
      have q1 : ¬ k < M := by omega
      rw [oddF]
      refine .go 60 ?_
      simp [hu, hwr, q1]
      exact .back (by simp)
    | succ f ih =>
      intro k hk L hL
      have q1 : k < M := by omega
      have h5 := r_odd5 (Γ := Γ) n w k hn (by omega) (.sl 1 0 L.length) [.row 1 t_string [] none true false, .row 1 t_string (L.map .str) none true false] [] n [] 0 (by simp; omega) (by omega) (by omega)
      have hcl := cntN_le k n
      have hmod : ((cntN k n : Nat) : Int).tmod 2 = ((cntN k n % 2 : Nat) : Int) := by rw [Int.tmod_eq_emod_of_nonneg (by omega)]; omega
      rw [oddF]
      refine .go 60 ?_
      simp (disch := omega) [hu, hwr, q1]
      refine .inLoop ?_
      simp at h5 ⊢
      refine .reach h5 ?_
      by_cases ho : cntN k n % 2 = w
      · have hh := ih (k + 1) (by omega) (L ++ [bitsN k n]) (by simp; omega)
        rw [if_pos ho]
        refine .go 60 ?_
        simp (disch := omega) [hmod, ho]
        refine .reLoop ?_
        simp
        refine .drop 2 rfl (by simp) (by simp) (by simp) ?_
        refine .reset (i := 1) rfl (by simp) (by simp) (by simp) ?_
        simp at hh ⊢
        exact hh
      · have hh := ih (k + 1) (by omega) L (by omega)
        have ho' : ((cntN k n : Int) % 2 = (w : Int)) = False := eq_false (by omega)
        rw [if_neg ho]
        refine .go 60 ?_
        simp (disch := omega) [hmod, ho']
        refine .reLoop ?_
        simp at hh ⊢
        exact hh
  refine .run 60 c_r06_odd (by simp) ?_
  simp
  refine .inLoop ?_
  have hh := key _ rfl (2 ^ n) 0 (by omega) [] (by simp; omega)
  simp at hh ⊢
  exact hh
/-- The reference's cover of an op, where it is a literal. -/
def rowsQ (op : Int) (n : Nat) : List Bs × Bool :=
  if op = 1 then ([[]], false) else if op = 2 then ([[49]], false) else if op = 3 then ([[48]], false) else if op = 4 then ([List.replicate n 49], false)
  else if op = 5 then ([List.replicate n 49], true) else if op = 6 then ([List.replicate n 48], true) else ([List.replicate n 48], false)
theorem rowsQ_eq {op : Int} {n : Nat} (h : hasB op n = true) (h1 : 1 ≤ op) (h2 : op ≤ 7) : rowsQ op n = rowsP op n := by
  rw [has_op (by omega)] at h
  unfold opB at h
  have hc : op = 1 ∨ op = 2 ∨ op = 3 ∨ op = 4 ∨ op = 5 ∨ op = 6 ∨ op = 7 := by omega
  rcases hc with rfl | rfl | rfl | rfl | rfl | rfl | rfl <;> simp at h <;> simp [rowsQ, rowsP, h]
set_option maxRecDepth 8000 in
theorem p_R_lit (op : Int) (n : Nat) (hn : n ≤ 8) (h : 1 ≤ op ∧ op ≤ 7) : PureCon Tryd.prog Γ n_r06_Rows [.int .i64 op, .int .i64 n] (.tup [.list true 1 ((rowsQ op n).1.map .str), .bool (rowsQ op n).2, .bool (hasB op n)]) := by
  have e0 : ((n : Int) = 0) = (n = 0) := propext (by omega)
  have e1 : ((n : Int) = 1) = (n = 1) := propext (by omega)
  have e2 : ((2 : Int) ≤ n) = (2 ≤ n) := propext (by omega)
  have e3 : ((n : Int) ≤ 8) = True := eq_true (by omega)
  have e4 : (n ≤ 8) = True := eq_true hn
  refine .run 120 c_r06_Rows (by simp) ?_
  have hc : op = 1 ∨ op = 2 ∨ op = 3 ∨ op = 4 ∨ op = 5 ∨ op = 6 ∨ op = 7 := by omega
  rcases hc with rfl | rfl | rfl | rfl | rfl | rfl | rfl
  · simp [e0]
    exact .back (by simp [rowsQ, hasB, opB])
  · simp [e1]
    exact .back (by simp [rowsQ, hasB, opB])
  · simp [e1]
    exact .back (by simp [rowsQ, hasB, opB])
  · simp
    refine .call 120 (by simp) (p_r06_all 49 n hn) ?_
    by_cases q : 2 ≤ n <;> simp [e2, e3, q] <;> exact .back (by simp [rowsQ, hasB, opB, q, e4])
  · simp
    refine .call 120 (by simp) (p_r06_all 49 n hn) ?_
    by_cases q : 2 ≤ n <;> simp [e2, e3, q] <;> exact .back (by simp [rowsQ, hasB, opB, q, e4])
  · simp
    refine .call 120 (by simp) (p_r06_all 48 n hn) ?_
    by_cases q : 2 ≤ n <;> simp [e2, e3, q] <;> exact .back (by simp [rowsQ, hasB, opB, q, e4])
  · simp
    refine .call 120 (by simp) (p_r06_all 48 n hn) ?_
    by_cases q : 2 ≤ n <;> simp [e2, e3, q] <;> exact .back (by simp [rowsQ, hasB, opB, q, e4])
/-- Where it is not: nil, or of an odd, or even, number of ones. -/
def rowsQ2 (op : Int) (n : Nat) : List Bs := if op = 0 then [] else if 2 ≤ n then parL n (decide (op = 8)) else []
theorem rowsQ2_eq {op : Int} {n : Nat} (h : hasB op n = true) (h1 : op = 0 ∨ op = 8 ∨ op = 9) : (rowsQ2 op n, false) = rowsP op n := by
  rw [has_op (by omega)] at h
  unfold opB at h
  rcases h1 with rfl | rfl | rfl <;> simp at h <;> simp [rowsQ2, rowsP, h]
set_option maxRecDepth 8000 in
theorem p_R_own (op : Int) (n : Nat) (hn : n ≤ 8) (h : op = 0 ∨ op = 8 ∨ op = 9) : PureCon Tryd.prog Γ n_r06_Rows [.int .i64 op, .int .i64 n] (.tup [.own 1 t_string ((rowsQ2 op n).map .str), .bool false, .bool (hasB op n)]) := by
  have e0 : ((n : Int) = 0) = (n = 0) := propext (by omega)
  have e2 : ((n : Int) < 2) = ¬ (2 ≤ n) := propext (by omega)
  have e3 : ((8 : Int) < n) = False := eq_false (by omega)
  have e4 : (n ≤ 8) = True := eq_true hn
  have hp := odd_par ⟨n, by omega⟩
  simp only at hp
  refine .run 120 c_r06_Rows (by simp) ?_
  rcases h with rfl | rfl | rfl
  · simp [e0]
    exact .back (by simp [rowsQ2, hasB, opB])
  · by_cases q : 2 ≤ n
    · have ho := p_r06_odd (Γ := Γ) n 1 hn (by omega)
      rw [hp.1] at ho
      simp [e2, e3, q]
      refine .call 120 (by simp) ho ?_
      simp
      exact .back (by simp [rowsQ2, hasB, opB, q, e4])
    · simp [e2, q]
      exact .back (by simp [rowsQ2, hasB, opB, q])
  · by_cases q : 2 ≤ n
    · have ho := p_r06_odd (Γ := Γ) n 0 hn (by omega)
      rw [hp.2] at ho
      simp [e2, e3, q]
      refine .call 120 (by simp) ho ?_
      simp
      exact .back (by simp [rowsQ2, hasB, opB, q, e4])
    · simp [e2, q]
      exact .back (by simp [rowsQ2, hasB, opB, q])
end Go.Proofs.YtdodijoconoeeaaDoor
/- NetCovers: each op's cover comes to that op. -/
namespace Go.Proofs.YtdodijoconoeeaaDoor
open Go.AM Go.Proofs
variable {Γ : Nat → Option AV}
set_option linter.unusedSimpArgs false
set_option linter.unusedVariables false

theorem rows_ne : ∀ (n : Fin 9) (a b : Fin 10), hasB (a.val : Int) n.val = true → hasB (b.val : Int) n.val = true → rowsP (a.val : Int) n.val = rowsP (b.val : Int) n.val → a = b := by decide +kernel
theorem canonF_some (g : Gt) {op : Int} (h1 : hasB op g.ins.length = true) (h2 : (rowsP op g.ins.length).2 = g.off) (h3 : (rowsP op g.ins.length).1 = g.rows) : ∀ (f : Nat) (o : Int), o ≤ op → op < o + f → ∃ q, canonF g f o = some q
  | 0, o, a, b => by omega
  | f + 1, o, a, b => by
    rw [canonF]
    split
    · exact ⟨o, rfl⟩
    · rename_i hn
      by_cases e : o = op
      · subst e; exact absurd ⟨h1, h2, h3⟩ hn
      · exact canonF_some g h1 h2 h3 f (o + 1) (by omega) (by omega)
theorem canonF_eq (g : Gt) {op : Int} (h0 : 0 ≤ op) (h9 : op ≤ 9) (h1 : hasB op g.ins.length = true) (h2 : (rowsP op g.ins.length).2 = g.off) (h3 : (rowsP op g.ins.length).1 = g.rows) : canonF g 10 0 = some op := by
  obtain ⟨q, hq⟩ := canonF_some g h1 h2 h3 10 0 h0 (by omega)
  obtain ⟨a, b, c, d, e⟩ := canonF_is g 10 0 q hq
  have hn := has_le h1 (by omega)
  have := rows_ne ⟨g.ins.length, by omega⟩ ⟨op.toNat, by omega⟩ ⟨q.toNat, by omega⟩
  simp only [Int.toNat_of_nonneg h0, Int.toNat_of_nonneg a] at this
  have h4 := this h1 c (Prod.ext (by rw [h3, e]) (by rw [h2, d]))
  have h5 : op.toNat = q.toNat := congrArg Fin.val h4
  have h6 : op = q := by omega
  rw [hq, h6]
/-- A cover. -/
def covG (I R : List Bs) (b : Bool) {k k' : Nat} (h : Kd 1 k I) (h' : Kd 1 k' R) : Gt := ⟨[122], 10, I, R, b, k, k', h, h'⟩
theorem cov_is {I R : List Bs} {b : Bool} {k k' : Nat} {h : Kd 1 k I} {h' : Kd 1 k' R} {op : Int} (h0 : 0 ≤ op) (h9 : op ≤ 9) (h1 : hasB op I.length = true) (h2 : (rowsP op I.length).2 = b) (h3 : (rowsP op I.length).1 = R) : canonG (covG I R b h h') = ⟨[122], op, I, [], false, k, 0, h, .nil⟩ := by
  have e := canonF_eq (covG I R b h h') h0 h9 h1 h2 h3
  unfold canonG
  rw [if_neg (by simp [covG]), e]
  rfl
theorem cov_not {I R : List Bs} {b : Bool} {k k' : Nat} {h : Kd 1 k I} {h' : Kd 1 k' R} {op : Int} (h9 : op ≤ 9) (hn : ¬ ((rowsP op I.length).2 = b ∧ (rowsP op I.length).1 = R)) : (canonG (covG I R b h h')).op ≠ op := by
  unfold canonG
  rw [if_neg (by simp [covG])]
  cases hc : canonF (covG I R b h h') 10 0 with
  | none =>
    show (10 : Int) ≠ op
    omega
  | some q =>
    obtain ⟨_, _, _, d, e⟩ := canonF_is _ 10 0 q hc
    show q ≠ op
    rintro rfl
    exact hn ⟨d, e⟩

theorem rows_short : ∀ (n : Fin 9) (a : Fin 10), ((rowsP (a.val : Int) n.val).1.all fun s => decide (s.length ≤ 8)) = true := by decide +kernel
theorem rows_len {op : Int} {n : Nat} (h0 : 0 ≤ op) (h9 : op ≤ 9) (hn : n ≤ 8) : ∀ s ∈ (rowsP op n).1, s.length ≤ 8 := by
  have h := rows_short ⟨n, by omega⟩ ⟨op.toNat, by omega⟩
  simp only [Int.toNat_of_nonneg h0] at h
  intro s hs
  exact of_decide_eq_true (List.all_eq_true.1 h s hs)
def ltrs : List Bs := [[97], [98], [99], [100], [101], [102], [103], [104]]
set_option maxRecDepth 8000 in
theorem l_NetCovers (hΓ : InsG Γ) (op : Int) (m : Nat) (hm : m < 256) (g : Gt) : PureCon Tryd.prog Γ n_w06_NetCovers [.int .i64 op, .int .u8 m, eGt g] (.bool true) := by
  obtain ⟨k, hk, hmod⟩ : ∃ k : Nat, k ≤ 8 ∧ (m : Int).tmod 9 = (k : Int) := ⟨m % 9, by omega, by rw [Int.tmod_eq_emod_of_nonneg (by omega)]; omega⟩
  refine .run 120 c_w06_NetCovers (by simp) ?_
  simp
  refine .call 120 (by simp) (p_works hΓ) ?_
  simp
  refine .call 120 (by simp) (p_FewGate g) ?_
  cases hc : fewG g with
  | false =>
    simp
    exact .back (by simp)
  | true =>
    have fg := few_gate hc
    by_cases o1 : op < 0
    · simp [o1]
      exact .back (by simp)
    by_cases o2 : 9 < op
    · simp [o1, o2]
      exact .back (by simp)
    have hR : (hasB op k = false ∧ ((∃ R b, PureCon Tryd.prog Γ n_r06_Rows [.int .i64 op, .int .i64 k] (.tup [.list true 1 R, .bool b, .bool false])) ∨ ∃ R b, PureCon Tryd.prog Γ n_r06_Rows [.int .i64 op, .int .i64 k] (.tup [.own 1 t_string R, .bool b, .bool false]))) ∨
        (hasB op k = true ∧ ((PureCon Tryd.prog Γ n_r06_Rows [.int .i64 op, .int .i64 k] (.tup [.list true 1 ((rowsP op k).1.map .str), .bool (rowsP op k).2, .bool true])) ∨ PureCon Tryd.prog Γ n_r06_Rows [.int .i64 op, .int .i64 k] (.tup [.own 1 t_string ((rowsP op k).1.map .str), .bool (rowsP op k).2, .bool true]))) := by
      by_cases c1 : 1 ≤ op ∧ op ≤ 7
      · have h1 := p_R_lit (Γ := Γ) op k hk c1
        cases hh : hasB op k with
        | false => rw [hh] at h1; exact .inl ⟨rfl, .inl ⟨_, _, h1⟩⟩
        | true => rw [hh, rowsQ_eq hh c1.1 c1.2] at h1; exact .inr ⟨rfl, .inl h1⟩
      · have c2 : op = 0 ∨ op = 8 ∨ op = 9 := by omega
        have h1 := p_R_own (Γ := Γ) op k hk c2
        cases hh : hasB op k with
        | false => rw [hh] at h1; exact .inl ⟨rfl, .inr ⟨_, _, h1⟩⟩
        | true =>
          rw [hh] at h1
          have e := rowsQ2_eq hh c2
          have e1 : rowsQ2 op k = (rowsP op k).1 := congrArg Prod.fst e
          have e2 : false = (rowsP op k).2 := congrArg Prod.snd e
          rw [e1] at h1
          rw [← e2]
          exact .inr ⟨rfl, .inr h1⟩
    simp (disch := omega) [o1, o2, hmod]
    rcases hR with ⟨hh, ⟨R, b, hR⟩ | ⟨R, b, hR⟩⟩ | ⟨hh, hR⟩
    · refine .call 120 (by simp) hR ?_
      simp
      exact .back (by simp)
    · refine .call 120 (by simp) hR ?_
      simp
      exact .back (by simp)
    have hI : (ltrs.take k).length = k := by simp [ltrs]; omega
    have hle := rows_le op k hk
    have hlen := rows_len (op := op) (by omega) (by omega) hk
    have hlt : ∀ s ∈ ltrs.take k, s.length ≤ 1 := fun s hs => by
      have := List.mem_of_mem_take hs
      simp only [ltrs, List.mem_cons, List.not_mem_nil, or_false] at this
      rcases this with rfl | rfl | rfl | rfl | rfl | rfl | rfl | rfl <;> simp
    have x1 := p_Canon hΓ (covG (ltrs.take k) (rowsP op k).1 (rowsP op k).2 (k := 1) (k' := 1) .self .self) ⟨by simp [covG], by simp only [covG, hI]; omega, by simp only [covG]; omega, fun s hs => by have := hlt s hs; omega, fun s hs => by have := hlen s hs; omega⟩
    have x2 := p_Canon hΓ (covG (ltrs.take k) g.rows g.off (k := 1) (k' := g.kr) .self g.hr) ⟨by simp [covG], by simp only [covG, hI]; omega, fg.2.2.1, fun s hs => by have := hlt s hs; omega, fg.2.2.2.2⟩
    rw [cov_is (op := op) (by omega) (by omega) (by rw [hI]; exact hh) (by rw [hI]) (by rw [hI])] at x1
    have x3 := p_r01_Texts (Γ := Γ) g.rows (rowsP op k).1 (kb := 1) g.hr .self (by have := fg.2.2.1; omega)
    have hT : List.take k [AV.str [97], AV.str [98], AV.str [99], AV.str [100], AV.str [101], AV.str [102], AV.str [103], AV.str [104]] = (ltrs.take k).map AV.str := by rw [List.map_take]; rfl
    have hy : g.rows = (rowsP op k).1 → g.off = (rowsP op k).2 → (canonG (covG (ltrs.take k) g.rows g.off (k := 1) (k' := g.kr) .self g.hr)).op = op := by
      intro e1 e2
      rw [cov_is (op := op) (by omega) (by omega) (by rw [hI]; exact hh) (by rw [hI, e2]) (by rw [hI, e1])]
    have hn : ¬ (g.rows = (rowsP op k).1 ∧ g.off = (rowsP op k).2) → (canonG (covG (ltrs.take k) g.rows g.off (k := 1) (k' := g.kr) .self g.hr)).op ≠ op := by
      intro e
      exact cov_not (by omega) (by rw [hI]; exact fun e2 => e ⟨e2.2.symm, e2.1.symm⟩)
    generalize canonG (covG (ltrs.take k) g.rows g.off (k := 1) (k' := g.kr) .self g.hr) = y at *
    rcases hR with hR | hR
    all_goals
      refine .call 1 (by simp) hR ?_
      simp
      refine .trees [39] ?_
      simp
      refine .drop 1 rfl (by simp) (by simp) (by simp) ?_
      refine .go 120 ?_
      simp [hk, hT]
      refine .call 120 (by simp [covG]) x1 ?_
      simp
      refine .call 120 (by simp [covG]) x2 ?_
      simp
      refine .call 120 (by simp) x3 ?_
      by_cases e1 : g.rows = (rowsP op k).1
      · by_cases e2 : g.off = (rowsP op k).2
        · have := hy e1 e2
          simp [e1, e2, this]
          exact .back (by simp)
        · have := hn (fun h => e2 h.2)
          simp [e1, e2, this]
          exact .back (by simp)
      · have := hn (fun h => e1 h.1)
        simp [e1, this]
        exact .back (by simp)
end Go.Proofs.YtdodijoconoeeaaDoor
/- Chapter 06: bytes as arguments. -/
namespace Go.Proofs.YtdodijoconoeeaaDoor
open Go.AM Go.Proofs
theorem dec_u8 {B : Nat} {cs : List AV} (h : IsSh B (.int .u8) cs) : ∃ m : Nat, cs = [.int .u8 m] ∧ m < 256 := by
  simp only [IsSh] at h
  obtain ⟨n, rfl, h1, h2⟩ := h
  have e1 : IntKind.min .u8 = 0 := by decide
  have e2 : IntKind.max .u8 = 255 := by decide
  exact ⟨n.toNat, by rw [Int.toNat_of_nonneg (by omega)], by omega⟩
end Go.Proofs.YtdodijoconoeeaaDoor
/- NetCovers: for every input the law returns true, and each argument reads as it did; the package's variables start as the program's text lays them. -/
namespace Go.Proofs.YtdodijoconoeeaaDoor
open Go.AM Go.Proofs Go.ChangeShapes Go.WideShapes Go.ChangeAt Go.RowKit

theorem netCovers_reads (os : Os) {H : Type} (enc : TypeId × Value → H) : ∃ ds places, DataW.whole enc Tryd.prog ((startW os).forCall (fun _ _ => 0) ⟨#[], #[.int .i64 0, .int .u8 0, .agg #[.string ⟨#[]⟩, .int .i64 0, .slice none 0 0, .slice none 0 0, .bool false]], []⟩).memory Tryd.f5.params.toList Rows.netCoversSpec.vars false (#[.int .i64 0, .int .u8 0, .agg #[.string ⟨#[]⟩, .int .i64 0, .slice none 0 0, .slice none 0 0, .bool false]] : Array Value).toList 8 = some (ds, [], places) :=
  ⟨[.lit (.int .i64 0), .lit (.int .u8 0), .agg [.lit (.string []), .lit (.int .i64 0), .nil, .nil, .lit (.bool false)]], [], by kernel_rfl⟩

set_option maxRecDepth 100000 in
theorem netCovers_lifted (os : Os) (started : os.Started) (H : Type) (enc : TypeId × Value → H) (F : Stop.Interp) :
    ReturnsInHanded {} Tryd.checked os 5 .any ((OpenSpec.ofChange Rows.netCoversSpec).preRow enc Tryd.prog Tryd.f5 Rows.netCoversRow.domain false Rows.netCoversRow.laid) (((OpenSpec.ofChange Rows.netCoversSpec).at F).post enc Tryd.prog Tryd.f5 false true false false) := by
  obtain ⟨ds, places, hx⟩ := netCovers_reads os enc
  refine returnsInHanded_of_row (C := Tryd.checked) (s := OpenSpec.ofChange Rows.netCoversSpec) own started (by kernel_rfl) Tryd.func5
    (witness_row_at (enc := enc) (C := Tryd.checked) false (startW os) #[.int .i64 0, .int .u8 0, .agg #[.string ⟨#[]⟩, .int .i64 0, .slice none 0 0, .slice none 0 0, .bool false]] rfl (by kernel_rfl) (by kernel_rfl) (by kernel_rfl)
      (OpenSpec.preRow_of_cond 8 hx (by kernel_rfl) (fun k hk => by cases hk) (by kernel_rfl) (door_met os _))) ?_
  intro W base args ds gs before hval hW _ _ _ hL hsh _
  obtain ⟨Γ, hΓ, hok⟩ := ins_laid hL
  refine law_callsQ Down.any (Γ := Γ) (shs := [(false, shI), (false, (.int .u8)), (true, shGt)]) laid mapsR (tb := 4) (by kernel_rfl) u4 (of_decide_eq_true (by kernel_rfl)) (by kernel_rfl) rfl ?_ hok ?_ hval hW (fun _ _ => trivial)
  · intro ds hds
    match ds, hds with
    | [d1, d2, d3], _ => exact ⟨rfl, rfl, rfl⟩
  · intro xs has
    simp only [IsArgs] at has
    obtain ⟨_, _, rfl, h1, _, _, _, rfl, h2, _, _, _, rfl, h3, _, rfl⟩ := has
    obtain ⟨a1, rfl⟩ := dec_i h1
    obtain ⟨a2, rfl, a2b⟩ := dec_u8 h2
    obtain ⟨a3, l3⟩ := dec_gt h3
    simp only [mkA, l3]
    exact l_NetCovers hΓ a1 a2 a2b a3

theorem netCovers_said : Rows.NetCoversSaid :=
  OpenClaim.holds_of_cond 5 Tryd.f5 rfl rfl rfl rfl rfl rfl rfl ⟨rfl, rfl, rfl, rfl, rfl⟩ rfl rfl rfl rfl rfl (by kernel_rfl) Tryd.func5 (by kernel_rfl)
    (of_decide_eq_true (by kernel_rfl)) (by unfold Func.isWrapper; first | (rw [if_pos (by decide +kernel)]; kernel_rfl) | (rw [if_neg (by decide +kernel)]; exact ⟨rfl, rfl⟩))
    (fun os started H enc _ F => by rw [OpenClaim.pre_eq_preRow]; exact netCovers_lifted os started H enc F)

theorem netCovers_plain (f : FuncId) (fn : Func) (hf : Tryd.pinned.checked.prog.funcNamed "patchbay/patchbaylaw06.NetCovers" = some f) (hfn : Tryd.pinned.checked.prog.funcs[f]? = some fn) :
    true = Tryd.pinned.checked.prog.looks [] ∧ ∀ (j : Nat) t, fn.params[j]? = some t → Tryd.pinned.checked.prog.wantsStandIn t = false := by
  obtain rfl : f = 5 := Option.some.inj ((show Tryd.prog.funcNamed "patchbay/patchbaylaw06.NetCovers" = some 5 by kernel_rfl).symm.trans hf) |>.symm
  obtain rfl : fn = Tryd.f5 := (Option.some.inj (Tryd.func5.symm.trans hfn)).symm
  refine ⟨by kernel_rfl, fun j t ht => ?_⟩
  have h1 : (Tryd.f5.params.toList.all fun t => !Tryd.prog.wantsStandIn t) = true := by kernel_rfl
  have h2 := List.all_eq_true.1 h1 t (by simpa using Array.mem_of_getElem? ht)
  revert h2
  show (!Tryd.prog.wantsStandIn t) = true → Tryd.prog.wantsStandIn t = false
  cases Tryd.prog.wantsStandIn t <;> intro h <;> first | rfl | cases h

theorem netCovers_holds : Rows.NetCoversCardSaid :=
  Claim7.holds_tied_plain_at .later [] _ _ _ _ netCovers_said (fun _ h => by cases h) (by kernel_rfl) (fun _ h => by cases h) netCovers_row_tie rfl ⟨rfl, rfl⟩ (by kernel_rfl) rfl netCovers_plain (by kernel_rfl)
#print axioms netCovers_holds
end Go.Proofs.YtdodijoconoeeaaDoor
