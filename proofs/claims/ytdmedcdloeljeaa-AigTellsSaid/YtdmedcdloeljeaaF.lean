/- Rows of numbers and of bools: contracts. -/
import Derived.Test.YtdmedcdloeljeaaCode
import Derived.Test.YtdmedcdloeljeaaAMd
set_option linter.unusedSimpArgs false
set_option linter.unusedVariables false
namespace Go.Proofs.Ytdmedcdloeljeaa
open Go.AM Go.Proofs
variable {Γ : Nat → Option AV}
set_option linter.unusedSimpArgs false
set_option linter.unusedVariables false

/-- A list may have its elements' size, or any if it is empty. -/
def Kd (n k : Nat) {α : Type} (l : List α) : Prop := k = n ∨ l = []
theorem Kd.of {n k : Nat} {α : Type} {l : List α} (h : Kd n k l) {i : Nat} (hi : i < l.length) : k = n := by
  rcases h with h | h
  · exact h
  · subst h; simp at hi
theorem Kd.self {n : Nat} {α : Type} {l : List α} : Kd n n l := .inl rfl
theorem Kd.nil {n k : Nat} {α : Type} : Kd n k ([] : List α) := .inr rfl
@[simp] abbrev i64 (n : Int) : AV := .int .i64 n

theorem p_r01_Ints (a b : List Int) {ka kb : Nat} (ha : Kd 1 ka a) (hb : Kd 1 kb b) (hs : a.length < 2 ^ 60) : PureCon Try.prog Γ n_r01_Ints [.list false ka (a.map i64), .list false kb (b.map i64)] (.bool (decide (a = b))) := by
  refine .run 60 c_r01_Ints (by simp) ?_
  by_cases hl : a.length = b.length
  · have key : ∀ n i : Nat, i + n = a.length → Fins Try.prog Γ (r01_Ints_L1 (.list false ka (a.map i64)) (.list false kb (b.map i64)) (.int .i64 i) []) (.ret (.bool (decide (a.drop i = b.drop i)))) := by
      intro n
      induction n with
      | zero =>
        intro i hi
        refine .go 60 ?_
        have h1 : ¬ i < a.length := by omega
        have h2 : a.drop i = b.drop i := by rw [List.drop_eq_nil_of_le (by omega), List.drop_eq_nil_of_le (by omega)]
        simp [h1, h2]
        exact .back (by simp)
      | succ n ih =>
        intro i hi
        have h1 : i < a.length := by omega
        have h2 : i < b.length := by omega
        obtain rfl := ha.of h1
        obtain rfl := hb.of h2
        have h4 := drop_eq h1 h2
        refine .go 60 ?_
        by_cases h3 : a[i] = b[i]
        · simp (disch := omega) [h1, h2, h3, h4]
          refine .reLoop ?_
          simpa using ih (i + 1) (by omega)
        · simp (disch := omega) [h1, h2, h3, h4]
          exact .back (by simp)
    simp [hl]
    refine .inLoop ?_
    simpa [hl] using key a.length 0 (by omega)
  · have h2 : ¬ a = b := fun e => hl (by rw [e])
    simp [hl, h2]
    exact .back (by simp)

theorem p_r08_Bools (a b : List Bool) {ka kb : Nat} (ha : Kd 1 ka a) (hb : Kd 1 kb b) (hs : a.length < 2 ^ 60) : PureCon Try.prog Γ n_r08_Bools [.list false ka (a.map .bool), .list false kb (b.map .bool)] (.bool (decide (a = b))) := by
  refine .run 60 c_r08_Bools (by simp) ?_
  by_cases hl : a.length = b.length
  · have key : ∀ n i : Nat, i + n = a.length → Fins Try.prog Γ (r08_Bools_L1 (.list false ka (a.map .bool)) (.list false kb (b.map .bool)) (.int .i64 i) []) (.ret (.bool (decide (a.drop i = b.drop i)))) := by
      intro n
      induction n with
      | zero =>
        intro i hi
        refine .go 60 ?_
        have h1 : ¬ i < a.length := by omega
        have h2 : a.drop i = b.drop i := by rw [List.drop_eq_nil_of_le (by omega), List.drop_eq_nil_of_le (by omega)]
        simp [h1, h2]
        exact .back (by simp)
      | succ n ih =>
        intro i hi
        have h1 : i < a.length := by omega
        have h2 : i < b.length := by omega
        obtain rfl := ha.of h1
        obtain rfl := hb.of h2
        have h4 := drop_eq h1 h2
        refine .go 60 ?_
        by_cases h3 : a[i] = b[i]
        · simp (disch := omega) [h1, h2, h3, h4]
          refine .reLoop ?_
          simpa using ih (i + 1) (by omega)
        · simp (disch := omega) [h1, h2, h3, h4]
          exact .back (by simp)
    simp [hl]
    refine .inLoop ?_
    simpa [hl] using key a.length 0 (by omega)
  · have h2 : ¬ a = b := fun e => hl (by rw [e])
    simp [hl, h2]
    exact .back (by simp)

theorem p_slices_Equal_int_int (a b : List Int) {ka kb : Nat} (ha : Kd 1 ka a) (hb : Kd 1 kb b) (hs : a.length < 2 ^ 60) : PureCon Try.prog Γ n_slices_Equal_int_int [.list false ka (a.map i64), .list false kb (b.map i64)] (.bool (decide (a = b))) := by
  refine .run 60 c_slices_Equal_int_int (by simp) ?_
  by_cases hl : a.length = b.length
  · have key : ∀ n i : Nat, i + n = a.length → Fins Try.prog Γ (slices_Equal_int_int_L1 (.list false ka (a.map i64)) (.list false kb (b.map i64)) (.int .i64 a.length) (.int .i64 i) []) (.ret (.bool (decide (a.drop i = b.drop i)))) := by
      intro n
      induction n with
      | zero =>
        intro i hi
        refine .go 60 ?_
        have h1 : ¬ i < a.length := by omega
        have h2 : a.drop i = b.drop i := by rw [List.drop_eq_nil_of_le (by omega), List.drop_eq_nil_of_le (by omega)]
        simp [h1, h2]
        exact .back (by simp)
      | succ n ih =>
        intro i hi
        have h1 : i < a.length := by omega
        have h2 : i < b.length := by omega
        obtain rfl := ha.of h1
        obtain rfl := hb.of h2
        have h4 := drop_eq h1 h2
        refine .go 60 ?_
        by_cases h3 : a[i] = b[i]
        · simp (disch := omega) [h1, h2, h3, h4]
          refine .reLoop ?_
          simpa using ih (i + 1) (by omega)
        · simp (disch := omega) [h1, h2, h3, h4]
          exact .back (by simp)
    simp [hl]
    refine .inLoop ?_
    simpa [hl] using key a.length 0 (by omega)
  · have h2 : ¬ a = b := fun e => hl (by rw [e])
    simp [hl, h2]
    exact .back (by simp)
end Go.Proofs.Ytdmedcdloeljeaa
/- Function values that are asked of rows: contracts. -/
namespace Go.Proofs.Ytdmedcdloeljeaa
open Go.AM Go.Proofs
variable {Γ : Nat → Option AV}
set_option linter.unusedSimpArgs false
set_option linter.unusedVariables false

theorem p_IndexFunc_int {φ : List Ob → Prop} {f : FuncId} {caps : List AV} {p : Int → Bool} {l : List Int} {k : Nat} {fl : Bool} (ha : Asks Try.prog Γ φ f caps i64 p l) (hk : Kd 1 k l) (hs : l.length < 2 ^ 60) {h : List Ob} (hφ : φ h) :
    ∀ up, AM.Reach Try.prog Γ (.cl n_slices_IndexFunc_int_int [.list fl k (l.map i64), .fn (.func f) [] caps] up h) (.back up (.int .i64 (idxF p l 0)) h) := by
  intro up
  have key : ∀ n i : Nat, i + n = l.length → AM.Reach Try.prog Γ (slices_IndexFunc_int_int_L1 (.list fl k (l.map i64)) (.fn (.func f) [] caps) (.int .i64 l.length) (.int .i64 i) h ⟨[], .norm, h.length, up⟩) (.back up (.int .i64 (idxF p (l.drop i) i)) h) := by
    intro n
    induction n with
    | zero =>
      intro i hi
      have h1 : ¬ i < l.length := by omega
      refine .goB 60 ?_
      rw [List.drop_eq_nil_of_le (by omega)]
      simp [h1, idxF]
    | succ n ih =>
      intro i hi
      have h1 : i < l.length := by omega
      obtain rfl := hk.of h1
      have h2 := ha.2 l[i] (List.getElem_mem h1)
      rw [List.drop_eq_getElem_cons h1, idxF]
      have hh := ih (i + 1) (by omega)
      refine .goB 60 ?_
      simp [h1, ha.1]
      refine .rcall 60 (fun up => h2 up h hφ) ?_
      cases hp : p l[i] with
      | true => simp (disch := omega) [hp]
      | false =>
        simp (disch := omega) [hp]
        refine .reLoop ?_
        simp at hh ⊢
        exact hh
  refine .enterB 60 c_slices_IndexFunc_int_int ?_
  simp
  refine .inLoop ?_
  have hh := key l.length 0 (by omega)
  simp at hh ⊢
  exact hh
theorem p_ContainsFunc_int {φ : List Ob → Prop} {f : FuncId} {caps : List AV} {p : Int → Bool} {l : List Int} {k : Nat} {fl : Bool} (ha : Asks Try.prog Γ φ f caps i64 p l) (hk : Kd 1 k l) (hs : l.length < 2 ^ 60) {h : List Ob} (hφ : φ h) :
    ∀ up, AM.Reach Try.prog Γ (.cl n_slices_ContainsFunc_int_int [.list fl k (l.map i64), .fn (.func f) [] caps] up h) (.back up (.bool (anyB p l)) h) := by
  intro up
  refine .enterB 60 c_slices_ContainsFunc_int_int ?_
  simp
  refine .rcall 60 (p_IndexFunc_int ha hk hs hφ) ?_
  have h1 := idxF_ge p l 0
  cases hp : anyB p l with
  | true => rw [hp] at h1; simp at h1; simp [h1]
  | false =>
    rw [hp] at h1
    have h2 : ¬ 0 ≤ idxF p l 0 := by rw [h1]; simp
    simp [h2]
end Go.Proofs.Ytdmedcdloeljeaa
/- Graphs: their check, in the program and in the reference. -/
namespace Go.Proofs.Ytdmedcdloeljeaa
open Go.AM Go.Proofs
variable {Γ : Nat → Option AV}
set_option linter.unusedSimpArgs false
set_option linter.unusedVariables false

/-- A graph of any numbers; kn .. are the sizes of its rows' elements. -/
structure Gr where
  ins : Int
  next : List Int
  init : List Int
  ands : List (Int × Int)
  outs : List Int
  kn : Nat
  ki : Nat
  ka : Nat
  ko : Nat
  hn : Kd 1 kn next
  hi : Kd 1 ki init
  ha : Kd 2 ka ands
  ho : Kd 1 ko outs
abbrev ePr (p : Int × Int) : AV := .agg [.int .i64 p.1, .int .i64 p.2]
abbrev eGr (g : Gr) : AV := .agg [.int .i64 g.ins, .list false g.kn (g.next.map i64), .list false g.ki (g.init.map i64), .list false g.ka (g.ands.map ePr), .list false g.ko (g.outs.map i64)]
/-- Few enough for any machine. -/
def Gr.few (g : Gr) : Prop := g.next.length < 2 ^ 40 ∧ g.init.length < 2 ^ 40 ∧ g.ands.length < 2 ^ 40 ∧ g.outs.length < 2 ^ 40

def litB (n : Int) (a : Int) : Bool := decide (a < 0) || decide (n ≤ a)
def iniB (a : Int) : Bool := decide (a < 0) || decide (2 < a)
def andsB : List (Int × Int) → Nat → Bool
  | [], _ => false
  | p :: ps, n => litB (2 * n) p.1 || litB (2 * n) p.2 || andsB ps (n + 1)
def Gr.first (g : Gr) : Nat := 1 + g.ins.toNat + g.next.length
def Gr.all (g : Gr) : Nat := g.first + g.ands.length
/-- How many literals there are. -/
def Gr.lits (g : Gr) : Nat := 2 * g.all
def Gr.lim (g : Gr) : Bool := decide (g.ins < 0) || decide (4000 < g.ins) || decide (4000 < g.ins + g.next.length + g.ands.length) || decide (4000 < g.outs.length)
/-- The check's error. -/
def Gr.check (g : Gr) : Int :=
  if g.lim = true then 8 else if (!decide (g.init.length = g.next.length) || anyB iniB g.init || anyB (litB g.lits) g.next || anyB (litB g.lits) g.outs || andsB g.ands g.first) = true then 1 else 0

theorem lim_no {g : Gr} (h : g.lim = false) : 0 ≤ g.ins ∧ g.ins ≤ 4000 ∧ g.ins + g.next.length + g.ands.length ≤ 4000 ∧ g.outs.length ≤ 4000 := by
  simp only [Gr.lim, Bool.or_eq_false_iff, decide_eq_false_iff_not] at h
  omega

theorem p_aig_first (g : Gr) (h0 : 0 ≤ g.ins) (h1 : g.ins ≤ 4000) (h2 : g.next.length ≤ 4000) : PureCon Try.prog Γ n_aig_first [eGr g] (.int .i64 g.first) := by
  refine .run 60 c_aig_first (by simp) ?_
  have e1 : 1 + g.ins + (g.next.length : Int) = (g.first : Int) := by unfold Gr.first; omega
  simp (disch := omega) [e1]
  exact .back (by simp)
theorem p_r09_First (g : Gr) (h0 : 0 ≤ g.ins) (h1 : g.ins ≤ 4000) (h2 : g.next.length ≤ 4000) : PureCon Try.prog Γ n_r09_First [eGr g] (.int .i64 g.first) := by
  refine .run 60 c_r09_First (by simp) ?_
  have e1 : 1 + g.ins + (g.next.length : Int) = (g.first : Int) := by unfold Gr.first; omega
  simp (disch := omega) [e1]
  exact .back (by simp)
theorem p_r09_literal (a : Int) (n : Nat) (hn : n ≤ 2 ^ 40) : PureCon Try.prog Γ n_r09_literal [.int .i64 a, .int .i64 n] (.bool (!litB (2 * n) a)) := by
  refine .run 60 c_r09_literal (by simp) ?_
  unfold litB
  by_cases h1 : 0 ≤ a
  · have h2 : ¬ a < 0 := by omega
    by_cases h3 : a < 2 * n
    · have h4 : ¬ 2 * (n : Int) ≤ a := by omega
      simp (disch := omega) [h1, h2, h3, h4]
      exact .back (by simp)
    · have h4 : 2 * (n : Int) ≤ a := by omega
      simp (disch := omega) [h1, h2, h3, h4]
      exact .back (by simp)
  · have h2 : a < 0 := by omega
    simp (disch := omega) [h1, h2]
    exact .back (by simp)

theorem a_odd (i : Nat) (all : Nat) (l : List Int) : Asks Try.prog Γ (fun h => h[i]? = some (.cells [.int .i64 all])) n_aig_Check_1 [.ptr i 0] i64 (litB all) l := by
  refine ⟨by simp, fun x _ up h hφ => ?_⟩
  refine .enterB 60 c_aig_Check_1 ?_
  unfold litB
  by_cases h1 : x < 0
  · simp [hφ, h1]
  · simp [hφ, h1]
theorem a_init (l : List Int) : Asks Try.prog Γ (fun _ => True) n_aig_Check_2 [] i64 iniB l := by
  refine ⟨by simp, fun x _ up h hφ => ?_⟩
  refine .enterB 60 c_aig_Check_2 ?_
  unfold iniB
  by_cases h1 : x < 0
  · simp [h1]
  · simp [h1]

theorem andsB_drop {l : List (Int × Int)} {i : Nat} (h : i < l.length) (n : Nat) : andsB (l.drop i) n = (litB (2 * n) l[i].1 || litB (2 * n) l[i].2 || andsB (l.drop (i + 1)) (n + 1)) := by
  rw [List.drop_eq_getElem_cons h, andsB]

set_option maxRecDepth 8000 in
theorem p_aig_Check (g : Gr) (hf : g.few) : PureCon Try.prog Γ n_aig_Check [eGr g] (.int .i64 g.check) := by
  obtain ⟨f1, f2, f3, f4⟩ := hf
  refine .run 60 c_aig_Check (by simp) ?_
  unfold Gr.check
  cases hl : g.lim with
  | true =>
    simp only [if_true]
    unfold Gr.lim at hl
    by_cases c1 : g.ins < 0
    · simp [c1]; exact .back (by simp)
    by_cases c2 : 4000 < g.ins
    · simp [c1, c2]; exact .back (by simp)
    by_cases c3 : 4000 < g.ins + g.next.length + g.ands.length
    · simp (disch := omega) [c1, c2, c3]; exact .back (by simp)
    have c4 : (4000 : Int) < g.outs.length := by
      simp only [c1, c2, c3, decide_false, Bool.false_or, decide_eq_true_eq] at hl
      omega
    simp (disch := omega) [c1, c2, c3, c4]; exact .back (by simp)
  | false =>
    obtain ⟨l1, l2, l3, l4⟩ := lim_no hl
    have c1 : ¬ g.ins < 0 := by omega
    have c2 : ¬ 4000 < g.ins := by omega
    have c3 : ¬ 4000 < g.ins + g.next.length + g.ands.length := by omega
    have c4 : ¬ (4000 : Int) < g.outs.length := by omega
    have hpf := p_aig_first (Γ := Γ) g l1 l2 (by omega)
    have e1 : (g.first : Int) + g.ands.length = g.all := by unfold Gr.all; omega
    have e2 : 2 * (g.all : Int) = g.lits := by unfold Gr.lits; omega
    have hfl : g.first ≤ 8001 := by unfold Gr.first; omega
    have hal : g.all ≤ 12001 := by unfold Gr.all; omega
    simp (disch := omega) [c1, c2, c3, c4]
    refine .dr 60 ?_
    simp
    refine .quiet hpf (fun _ => rfl) (by simp) ?_
    simp (disch := omega) [e1, e2]
    by_cases d1 : g.init.length = g.next.length
    · simp [d1]
      refine .rcall 60 (p_ContainsFunc_int (a_init g.init) g.hi (by omega) (by trivial)) ?_
      cases d2 : anyB iniB g.init with
      | true => simp; exact .back (by simp)
      | false =>
        simp
        refine .rcall 60 (p_ContainsFunc_int (a_odd 1 g.lits g.next) g.hn (by omega) (by simp)) ?_
        cases d3 : anyB (litB g.lits) g.next with
        | true => simp; exact .back (by simp)
        | false =>
          simp
          refine .rcall 60 (p_ContainsFunc_int (a_odd 1 g.lits g.outs) g.ho (by omega) (by simp)) ?_
          cases d4 : anyB (litB g.lits) g.outs with
          | true => simp; exact .back (by simp)
          | false =>
            simp
            refine .inLoop ?_
            simp
            have key : ∀ n i : Nat, i + n = g.ands.length → Fins Try.prog Γ (aig_Check_L1 (.ptr 0 0) (.list false g.ka (g.ands.map ePr)) (.int .i64 g.ands.length) (.int .i64 i)
                [.cells [.int .i64 g.ins, .list false g.kn (g.next.map i64), .list false g.ki (g.init.map i64), .list false g.ka (g.ands.map ePr), .list false g.ko (g.outs.map i64)], .cells [.int .i64 g.lits]]) (.ret (.int .i64 (if andsB (g.ands.drop i) (g.first + i) = true then 1 else 0))) := by
              intro n
              induction n with
              | zero =>
                intro i hi
                have q1 : ¬ i < g.ands.length := by omega
                refine .go 60 ?_
                rw [List.drop_eq_nil_of_le (by omega)]
                simp [q1, andsB]
                exact .back (by simp)
              | succ n ih =>
                intro i hi
                have q1 : i < g.ands.length := by omega
                have q2 := eq_true (g.ha.of q1)
                have hh := ih (i + 1) (by omega)
                have q3 : 2 * ((g.first : Int) + i) = ((2 * (g.first + i) : Nat) : Int) := by omega
                rw [andsB_drop q1]
                unfold litB
                refine .go 60 ?_
                simp (disch := omega) [q1, q2]
                refine .call 60 (by simp) hpf ?_
                by_cases r1 : g.ands[i].1 < 0
                · simp (disch := omega) [r1]
                  exact .back (by simp)
                by_cases r2 : g.ands[i].2 < 0
                · simp (disch := omega) [r1, r2]
                  exact .back (by simp)
                by_cases r3 : 2 * ((g.first : Int) + i) ≤ g.ands[i].1
                · simp (disch := omega) [r1, r2, r3]
                  exact .back (by simp)
                by_cases r4 : 2 * ((g.first : Int) + i) ≤ g.ands[i].2
                · simp (disch := omega) [r1, r2, r3, r4]
                  exact .back (by simp)
                simp (disch := omega) [r1, r2, r3, r4]
                refine .reLoop ?_
                simp
                refine .drop 2 rfl (by simp) (by simp) (by simp) ?_
                simp at hh ⊢
                rw [show g.first + (i + 1) = g.first + i + 1 by omega] at hh
                exact hh
            have hh := key g.ands.length 0 (by omega)
            simp at hh ⊢
            exact hh
    · simp [d1]
      exact .back (by simp)
end Go.Proofs.Ytdmedcdloeljeaa
/- The reference's check of a graph; literals' values. -/
namespace Go.Proofs.Ytdmedcdloeljeaa
open Go.AM Go.Proofs
variable {Γ : Nat → Option AV}
set_option linter.unusedSimpArgs false
set_option linter.unusedVariables false

set_option maxRecDepth 8000 in
theorem p_r09_Check (g : Gr) (hf : g.few) : PureCon Try.prog Γ n_r09_Check [eGr g] (.int .i64 g.check) := by
  obtain ⟨f1, f2, f3, f4⟩ := hf
  refine .run 60 c_r09_Check (by simp) ?_
  unfold Gr.check
  cases hl : g.lim with
  | true =>
    simp only [if_true]
    unfold Gr.lim at hl
    by_cases c1 : g.ins < 0
    · simp [c1]; exact .back (by simp)
    by_cases c2 : 4000 < g.ins
    · simp [c1, c2]; exact .back (by simp)
    by_cases c3 : 4000 < g.ins + g.next.length + g.ands.length
    · simp (disch := omega) [c1, c2, c3]; exact .back (by simp)
    have c4 : (4000 : Int) < g.outs.length := by
      simp only [c1, c2, c3, decide_false, Bool.false_or, decide_eq_true_eq] at hl
      omega
    simp (disch := omega) [c1, c2, c3, c4]; exact .back (by simp)
  | false =>
    obtain ⟨l1, l2, l3, l4⟩ := lim_no hl
    have c1 : ¬ g.ins < 0 := by omega
    have c2 : ¬ 4000 < g.ins := by omega
    have c3 : ¬ 4000 < g.ins + g.next.length + g.ands.length := by omega
    have c4 : ¬ (4000 : Int) < g.outs.length := by omega
    have hpf := p_r09_First (Γ := Γ) g l1 l2 (by omega)
    have e1 : (g.first : Int) + g.ands.length = g.all := by unfold Gr.all; omega
    have e2 : 2 * (g.all : Int) = g.lits := by unfold Gr.lits; omega
    have hfl : g.first ≤ 8001 := by unfold Gr.first; omega
    have hal : g.all ≤ 12001 := by unfold Gr.all; omega
    simp (disch := omega) [c1, c2, c3, c4]
    by_cases d1 : g.init.length = g.next.length
    · have keyO : ∀ n i : Nat, i + n = g.outs.length → Fins Try.prog Γ (r09_Check_L1 (.ptr 0 0) (.int .i64 g.all) (.int .i64 i)
          [.cells [.int .i64 g.ins, .list false g.kn (g.next.map i64), .list false g.ki (g.init.map i64), .list false g.ka (g.ands.map ePr), .list false g.ko (g.outs.map i64)]]) (.ret (.int .i64 (if anyB (litB g.lits) (g.outs.drop i) = true then 1 else 0))) := by
        intro n
        induction n with
        | zero =>
          intro i hi
          have q1 : ¬ i < g.outs.length := by omega
          refine .go 60 ?_
          rw [anyB_end (by omega)]
          simp [q1]
          exact .back (by simp)
        | succ n ih =>
          intro i hi
          have q1 : i < g.outs.length := by omega
          have q2 := eq_true (g.ho.of q1)
          have hh := ih (i + 1) (by omega)
          have hc := p_r09_literal (Γ := Γ) g.outs[i] g.all (by omega)
          rw [e2] at hc
          rw [anyB_drop q1]
          refine .go 60 ?_
          simp (disch := omega) [q1, q2]
          refine .call 60 (by simp) hc ?_
          cases hb : litB g.lits g.outs[i] with
          | true => simp; exact .back (by simp)
          | false =>
            simp (disch := omega)
            refine .reLoop ?_
            simp at hh ⊢
            exact hh
      have keyA : ∀ n i : Nat, i + n = g.ands.length → Fins Try.prog Γ (r09_Check_L9 (.ptr 0 0) (.int .i64 g.all) (.int .i64 i)
          [.cells [.int .i64 g.ins, .list false g.kn (g.next.map i64), .list false g.ki (g.init.map i64), .list false g.ka (g.ands.map ePr), .list false g.ko (g.outs.map i64)]]) (.ret (.int .i64 (if (andsB (g.ands.drop i) (g.first + i) || anyB (litB g.lits) g.outs) = true then 1 else 0))) := by
        intro n
        induction n with
        | zero =>
          intro i hi
          have q1 : ¬ i < g.ands.length := by omega
          have hh := keyO g.outs.length 0 (by omega)
          refine .go 60 ?_
          rw [List.drop_eq_nil_of_le (by omega)]
          simp [q1, andsB]
          refine .inLoop ?_
          simp at hh ⊢
          exact hh
        | succ n ih =>
          intro i hi
          have q1 : i < g.ands.length := by omega
          have q2 := eq_true (g.ha.of q1)
          have hh := ih (i + 1) (by omega)
          have hc1 := p_r09_literal (Γ := Γ) g.ands[i].1 (g.first + i) (by omega)
          have hc2 := p_r09_literal (Γ := Γ) g.ands[i].2 (g.first + i) (by omega)
          rw [andsB_drop q1]
          generalize litB (2 * ((g.first + i : Nat) : Int)) g.ands[i].1 = b1 at *
          generalize litB (2 * ((g.first + i : Nat) : Int)) g.ands[i].2 = b2 at *
          refine .go 60 ?_
          simp (disch := omega) [q1, q2]
          refine .call 60 (by simp) hpf ?_
          simp (disch := omega) [q1, q2]
          refine .call 60 (by simp) hc1 ?_
          cases b1 with
          | true => simp; exact .back (by simp)
          | false =>
            simp (disch := omega) [q1, q2]
            refine .call 60 (by simp) hc2 ?_
            cases b2 with
            | true => simp; exact .back (by simp)
            | false =>
              simp (disch := omega)
              refine .reLoop ?_
              simp at hh ⊢
              rw [show g.first + (i + 1) = g.first + i + 1 by omega] at hh
              exact hh
      have keyN : ∀ n i : Nat, i + n = g.next.length → Fins Try.prog Γ (r09_Check_L18 (.ptr 0 0) (.int .i64 g.all) (.int .i64 i)
          [.cells [.int .i64 g.ins, .list false g.kn (g.next.map i64), .list false g.ki (g.init.map i64), .list false g.ka (g.ands.map ePr), .list false g.ko (g.outs.map i64)]])
            (.ret (.int .i64 (if (anyB iniB (g.init.drop i) || anyB (litB g.lits) (g.next.drop i) || (andsB g.ands g.first || anyB (litB g.lits) g.outs)) = true then 1 else 0))) := by
        intro n
        induction n with
        | zero =>
          intro i hi
          have q1 : ¬ i < g.next.length := by omega
          have hh := keyA g.ands.length 0 (by omega)
          refine .go 60 ?_
          rw [anyB_end (by omega), anyB_end (by omega)]
          simp [q1]
          refine .inLoop ?_
          simp at hh ⊢
          exact hh
        | succ n ih =>
          intro i hi
          have q1 : i < g.next.length := by omega
          have q1' : i < g.init.length := by omega
          have q2 := eq_true (g.hn.of q1)
          have q2' := eq_true (g.hi.of q1')
          have hh := ih (i + 1) (by omega)
          have hc := p_r09_literal (Γ := Γ) g.next[i] g.all (by omega)
          rw [e2] at hc
          rw [anyB_drop q1, anyB_drop q1']
          refine .go 60 ?_
          by_cases r1 : g.init[i] < 0
          · simp (disch := omega) [q1, q1', q2, q2', r1, iniB]; exact .back (by simp)
          by_cases r2 : 2 < g.init[i]
          · simp (disch := omega) [q1, q1', q2, q2', r1, r2, iniB]; exact .back (by simp)
          have r3 : iniB g.init[i] = false := by simp [iniB, r1, r2]
          simp (disch := omega) [q1, q1', q2, q2', r1, r2, r3]
          refine .call 60 (by simp) hc ?_
          cases hb : litB g.lits g.next[i] with
          | true => simp; exact .back (by simp)
          | false =>
            simp (disch := omega)
            refine .reLoop ?_
            simp at hh ⊢
            exact hh
      simp [d1]
      refine .dr 60 ?_
      simp
      refine .call (by simp) hpf ?_
      simp (disch := omega) [e1]
      refine .inLoop ?_
      simp
      have hh := keyN g.next.length 0 (by omega)
      have hb : (anyB iniB g.init || anyB (litB g.lits) g.next || (andsB g.ands g.first || anyB (litB g.lits) g.outs)) = (anyB iniB g.init || anyB (litB g.lits) g.next || anyB (litB g.lits) g.outs || andsB g.ands g.first) := by
        cases andsB g.ands g.first <;> simp
      simp only [List.drop_zero, hb] at hh
      simp at hh ⊢
      exact hh
    · simp [d1]
      exact .back (by simp)

/-- A literal's value. -/
def litV (v : List Bool) (a : Nat) : Bool := v.getD (a / 2) false != decide (a % 2 = 1)
theorem litV_eq {v : List Bool} {a : Nat} (h : a / 2 < v.length) : litV v a = !decide (v[a / 2] = decide (a % 2 = 1)) := by
  unfold litV
  rw [List.getD_eq_getElem?_getD, List.getElem?_eq_getElem h]
  cases v[a / 2] <;> by_cases h1 : a % 2 = 1 <;> simp [h1]
theorem p_aig_value (v : List Bool) (a : Nat) (h : a / 2 < v.length) (ha : a < 2 ^ 40) : PureCon Try.prog Γ n_aig_value [.list false 1 (v.map .bool), .int .i64 a] (.bool (litV v a)) := by
  refine .run 60 c_aig_value (by simp) ?_
  rw [litV_eq h]
  have h2 : ((a % 2 : Nat) : Int) = 1 ↔ a % 2 = 1 := by omega
  have h3 : ((a / 2 : Nat) : Int) < v.length := by omega
  simp (disch := omega) [-Int.natCast_ediv, -Int.natCast_emod, h, h2, h3]
  exact .back (by simp)
theorem p_r09_Lit (v : List Bool) (a : Nat) (h : a / 2 < v.length) (ha : a < 2 ^ 40) : PureCon Try.prog Γ n_r09_Lit [.list false 1 (v.map .bool), .int .i64 a] (.bool (litV v a)) := by
  refine .run 60 c_r09_Lit (by simp) ?_
  rw [litV_eq h]
  have h2 : ((a % 2 : Nat) : Int) = 1 ↔ a % 2 = 1 := by omega
  have h3 : ((a / 2 : Nat) : Int) < v.length := by omega
  simp (disch := omega) [-Int.natCast_ediv, -Int.natCast_emod, h, h2, h3]
  exact .back (by simp)
end Go.Proofs.Ytdmedcdloeljeaa
/- Concat of rows: its contract. -/
namespace Go.Proofs.Ytdmedcdloeljeaa
open Go.AM Go.Proofs
variable {Γ : Nat → Option AV}
set_option linter.unusedSimpArgs false
set_option linter.unusedVariables false

abbrev eCatB (x : Nat × List Bool) : AV := .list false x.1 (x.2.map AV.bool)
def catB : List (Nat × List Bool) → List Bool
  | [] => []
  | x :: xs => x.2 ++ catB xs
theorem catB_append (a b : List (Nat × List Bool)) : catB (a ++ b) = catB a ++ catB b := by
  induction a with
  | nil => rfl
  | cons x a ih => simp [catB, ih]
theorem catB_take (xs : List (Nat × List Bool)) (i : Nat) (h : i < xs.length) : catB (xs.take (i + 1)) = catB (xs.take i) ++ xs[i].2 := by
  rw [List.take_succ_eq_append_getElem h, catB_append]; simp [catB]
theorem catB_le (xs : List (Nat × List Bool)) (i : Nat) : (catB (xs.take i)).length ≤ (catB xs).length := by
  conv => rhs; rw [← List.take_append_drop i xs, catB_append]
  simp

set_option maxRecDepth 8000 in
theorem p_slices_Concat_bool_bool (xs : List (Nat × List Bool)) (hk : ∀ x ∈ xs, Kd 1 x.1 x.2) (hn : xs.length < 2 ^ 40) (hs : (catB xs).length < 2 ^ 40) (hp : 0 < (catB xs).length) :
    PureCon Try.prog Γ n_slices_Concat_bool_bool [.list false 1 (xs.map eCatB)] (.own 1 t_bool ((catB xs).map AV.bool)) := by
  refine .run 60 c_slices_Concat_bool_bool (by simp) ?_
  have key2 : ∀ n i : Nat, i + n = xs.length → ∀ m : Nat, (catB (xs.take i)).length + m = (catB xs).length →
      Fins Try.prog Γ (slices_Concat_bool_bool_L1 (.sl 2 0 (catB (xs.take i)).length) (.list false 1 (xs.map eCatB)) (.int .i64 xs.length) (.int .i64 i) [.row 1 t_bool [] none true false, .row 1 t_bool [] none true false, .row 1 t_bool ((catB (xs.take i)).map AV.bool ++ List.replicate m (AV.bool false)) none true false])
        (.ret (.own 1 t_bool ((catB xs).map AV.bool))) := by
    intro n
    induction n with
    | zero =>
      intro i hi m hm
      have q1 : ¬ i < xs.length := by omega
      have q2 : xs.take i = xs := List.take_of_length_le (by omega)
      rw [q2] at hm ⊢
      have hm0 : m = 0 := by omega
      subst hm0
      refine .go 60 ?_
      simp [q1]
      exact .back (by simp)
    | succ n ih =>
      intro i hi m hm
      have q1 : i < xs.length := by omega
      have q2 := catB_take xs i q1
      have q3 := catB_le xs (i + 1)
      rw [q2, List.length_append] at q3
      have q4 := hk xs[i] (List.getElem_mem q1)
      have q5 : xs[i].1 = 1 ∨ xs[i].2 = [] := q4
      have hh := ih (i + 1) (by omega) (m - xs[i].2.length) (by rw [q2, List.length_append]; omega)
      rw [q2] at hh
      have hd : (List.replicate m (AV.bool false)).drop xs[i].2.length = List.replicate (m - xs[i].2.length) (AV.bool false) := by simp
      refine .go 60 ?_
      by_cases q6 : (catB (xs.take i)).length = (catB xs).length
      · have q7 : xs[i].2 = [] := List.length_eq_zero_iff.1 (by omega)
        have hm0 : m = 0 := by omega
        subst hm0
        simp [q7] at hh
        simp (disch := (first | omega | (simp; omega))) [q1, q5, q7]
        refine .reLoop ?_
        simp
        exact hh
      · simp (disch := (first | omega | (simp; omega))) [q1, q5]
        by_cases q7 : m = 0
        · omega
        · have c1 : ¬ (catB (List.take i xs)).length = (catB (List.take i xs)).length + m := by omega
          have c2 : (catB (List.take i xs)).length + xs[i].snd.length ≤ (catB (List.take i xs)).length + m := by omega
          simp (disch := (first | omega | (simp; omega))) [q1, q5, c1, c2, q7]
          refine .reLoop ?_
          have hd0 : ((catB (xs.take i)).map AV.bool).drop ((catB (xs.take i)).length + xs[i].2.length) = [] := List.drop_eq_nil_of_le (by simp)
          simp [List.drop_append, hd, hd0] at hh ⊢
          exact hh
  have key1 : ∀ n i : Nat, i + n = xs.length →
      Fins Try.prog Γ (slices_Concat_bool_bool_L9 (.list false 1 (xs.map eCatB)) (.int .i64 (catB (xs.take i)).length) (.list false 1 (xs.map eCatB)) (.int .i64 xs.length) (.int .i64 i) [.row 1 t_bool [] none true false])
        (.ret (.own 1 t_bool ((catB xs).map AV.bool))) := by
    intro n
    induction n with
    | zero =>
      intro i hi
      have q1 : ¬ i < xs.length := by omega
      have q2 : xs.take i = xs := List.take_of_length_le (by omega)
      have q3 : 0 < (catB xs).length := hp
      have hh := key2 xs.length 0 (by omega) (catB xs).length (by simp [catB])
      refine .go 60 ?_
      rw [q2]
      simp [q1]
      refine .enter 60 c_slices_Grow_bool_bool ?_
      have q4 : ¬ (catB xs).length = 0 := by omega
      have q5 : catB xs ≠ [] := fun e => by rw [e] at hp; simp at hp
      obtain ⟨m, hm⟩ : ∃ m, (catB xs).length = m + 1 := ⟨(catB xs).length - 1, by omega⟩
      have hrep : List.replicate (catB xs).length (AV.bool false) = (AV.bool false) :: List.replicate m (AV.bool false) := by rw [hm]; rfl
      simp (disch := (first | omega | (simp; omega))) [q3, q4, q5, hrep]
      refine .inLoop ?_
      simp [catB, hrep] at hh ⊢
      exact hh
    | succ n ih =>
      intro i hi
      have q1 : i < xs.length := by omega
      have q2 := catB_take xs i q1
      have q3 := catB_le xs (i + 1)
      rw [q2, List.length_append] at q3
      have hh := ih (i + 1) (by omega)
      rw [q2] at hh
      refine .go 60 ?_
      have q4 : ¬ ((catB (xs.take i)).length : Int) + xs[i].2.length < 0 := by omega
      simp (disch := (first | omega | (simp; omega))) [q1, q4]
      refine .reLoop ?_
      simp at hh ⊢
      exact hh
  simp
  refine .inLoop ?_
  have hh := key1 xs.length 0 (by omega)
  simp [catB] at hh ⊢
  exact hh

set_option maxRecDepth 8000 in
/-- Of rows without elements: nil. -/
theorem p_slices_Concat_bool_bool_nil (xs : List (Nat × List Bool)) (hx : ∀ x ∈ xs, x.2 = []) (hn : xs.length < 2 ^ 40) :
    PureCon Try.prog Γ n_slices_Concat_bool_bool [.list false 1 (xs.map eCatB)] (.own 1 t_bool []) := by
  refine .run 60 c_slices_Concat_bool_bool (by simp) ?_
  have key2 : ∀ n i : Nat, i + n = xs.length → Fins Try.prog Γ (slices_Concat_bool_bool_L1 (.list true 0 []) (.list false 1 (xs.map eCatB)) (.int .i64 xs.length) (.int .i64 i) [.row 1 t_bool [] none true false, .row 1 t_bool [] none true false])
        (.ret (.own 1 t_bool [])) := by
    intro n
    induction n with
    | zero =>
      intro i hi
      have q1 : ¬ i < xs.length := by omega
      refine .nilslot 6 1 t_bool rfl (by omega) ?_
      refine .go 60 ?_
      simp [q1]
      exact .back (by simp)
    | succ n ih =>
      intro i hi
      have q1 : i < xs.length := by omega
      have q7 := hx xs[i] (List.getElem_mem q1)
      have hh := ih (i + 1) (by omega)
      refine .go 60 ?_
      simp (disch := (first | omega | (simp; omega))) [q1, q7]
      refine .reLoop ?_
      simp at hh ⊢
      exact hh
  have key : ∀ n i : Nat, i + n = xs.length → Fins Try.prog Γ (slices_Concat_bool_bool_L9 (.list false 1 (xs.map eCatB)) (.int .i64 0) (.list false 1 (xs.map eCatB)) (.int .i64 xs.length) (.int .i64 i) [.row 1 t_bool [] none true false])
        (.ret (.own 1 t_bool [])) := by
    intro n
    induction n with
    | zero =>
      intro i hi
      have q1 : ¬ i < xs.length := by omega
      refine .go 60 ?_
      simp [q1]
      refine .enter 60 c_slices_Grow_bool_bool ?_
      simp
      refine .inLoop ?_
      have hh := key2 xs.length 0 (by omega)
      simp at hh ⊢
      exact hh
    | succ n ih =>
      intro i hi
      have q1 : i < xs.length := by omega
      have q7 := hx xs[i] (List.getElem_mem q1)
      have hh := ih (i + 1) (by omega)
      refine .go 60 ?_
      simp (disch := (first | omega | (simp; omega))) [q1, q7]
      refine .reLoop ?_
      simp at hh ⊢
      exact hh
  simp
  refine .inLoop ?_
  have hh := key xs.length 0 (by omega)
  simp at hh ⊢
  exact hh
theorem g_slices_Concat_bool_bool (xs : List (Nat × List Bool)) (hk : ∀ x ∈ xs, Kd 1 x.1 x.2) (hn : xs.length < 2 ^ 40) (hs : (catB xs).length < 2 ^ 40) :
    PureCon Try.prog Γ n_slices_Concat_bool_bool [.list false 1 (xs.map eCatB)] (.own 1 t_bool ((catB xs).map AV.bool)) := by
  rcases Nat.eq_zero_or_pos (catB xs).length with h | h
  · have h0 : catB xs = [] := List.length_eq_zero_iff.1 h
    have hx : ∀ x ∈ xs, x.2 = [] := by
      clear hk hn hs h
      induction xs with
      | nil => simp
      | cons y ys ih =>
        simp only [catB, List.append_eq_nil_iff] at h0
        intro x hx
        rcases List.mem_cons.1 hx with rfl | hx
        · exact h0.1
        · exact ih h0.2 x hx
    rw [h0]
    exact p_slices_Concat_bool_bool_nil xs hx hn
  · exact p_slices_Concat_bool_bool xs hk hn hs h
end Go.Proofs.Ytdmedcdloeljeaa
/- Graphs: the values of all numbers, a step. -/
namespace Go.Proofs.Ytdmedcdloeljeaa
open Go.AM Go.Proofs
variable {Γ : Nat → Option AV}
set_option linter.unusedSimpArgs false
set_option linter.unusedVariables false

theorem andsB_no {l : List (Int × Int)} {n : Nat} (h : andsB l n = false) : ∀ i (hi : i < l.length), (0 ≤ l[i].1 ∧ l[i].1 < 2 * (n + i)) ∧ 0 ≤ l[i].2 ∧ l[i].2 < 2 * (n + i) := by
  induction l generalizing n with
  | nil => intro i hi; simp at hi
  | cons p l ih =>
    simp only [andsB, Bool.or_eq_false_iff, litB, decide_eq_false_iff_not] at h
    intro i hi
    cases i with
    | zero => simp; omega
    | succ i =>
      have := ih h.2 i (by simpa using hi)
      simp at this ⊢
      omega
/-- What a graph that may be is. -/
structure Gr.Ok (g : Gr) : Prop where
  ins : 0 ≤ g.ins ∧ g.ins ≤ 4000
  sum : g.ins + g.next.length + g.ands.length ≤ 4000
  outsL : g.outs.length ≤ 4000
  same : g.init.length = g.next.length
  init : ∀ a ∈ g.init, 0 ≤ a ∧ a ≤ 2
  next : ∀ a ∈ g.next, 0 ≤ a ∧ a < g.lits
  outs : ∀ a ∈ g.outs, 0 ≤ a ∧ a < g.lits
  ands : ∀ i (hi : i < g.ands.length), (0 ≤ g.ands[i].1 ∧ g.ands[i].1 < 2 * (g.first + i)) ∧ 0 ≤ g.ands[i].2 ∧ g.ands[i].2 < 2 * (g.first + i)
theorem Gr.ok_of {g : Gr} (h : g.check = 0) : g.Ok := by
  unfold Gr.check at h
  split at h
  · simp at h
  · rename_i hl
    have hl := lim_no (by simpa using hl)
    split at h
    · simp at h
    · rename_i hb
      simp only [Bool.not_eq_true, Bool.or_eq_false_iff, Bool.not_eq_false', decide_eq_true_eq] at hb
      obtain ⟨⟨⟨⟨b1, b2⟩, b3⟩, b4⟩, b5⟩ := hb
      refine ⟨⟨hl.1, hl.2.1⟩, hl.2.2.1, hl.2.2.2, b1, ?_, ?_, ?_, andsB_no b5⟩
      · intro a ha
        have := anyB_no.1 b2 a ha
        simp [iniB] at this
        omega
      · intro a ha
        have := anyB_no.1 b3 a ha
        simp [litB] at this
        omega
      · intro a ha
        have := anyB_no.1 b4 a ha
        simp [litB] at this
        omega

/-- The values of ands, behind those of the numbers ahead. -/
def valsA : List (Int × Int) → List Bool → List Bool
  | [], v => v
  | p :: ps, v => valsA ps (v ++ [litV v p.1.toNat && litV v p.2.toNat])
theorem valsA_len : ∀ (l : List (Int × Int)) (v : List Bool), (valsA l v).length = v.length + l.length
  | [], v => by simp [valsA]
  | p :: ps, v => by rw [valsA, valsA_len ps]; simp; omega
theorem valsA_append : ∀ (a b : List (Int × Int)) (v : List Bool), valsA (a ++ b) v = valsA b (valsA a v)
  | [], b, v => rfl
  | p :: ps, b, v => by rw [List.cons_append, valsA, valsA, valsA_append ps]
/-- The values of all numbers. -/
def Gr.vals (g : Gr) (state ins : List Bool) : List Bool := valsA g.ands (false :: (ins ++ state))
def Gr.fits (g : Gr) (state ins : List Bool) : Bool := decide (state.length = g.next.length) && decide ((ins.length : Int) = g.ins)
def Gr.valuesE (g : Gr) (state ins : List Bool) : Int := if g.check ≠ 0 then g.check else if g.fits state ins = true then 0 else 11
def Gr.values (g : Gr) (state ins : List Bool) : List Bool := if g.valuesE state ins = 0 then g.vals state ins else []

theorem valsA_take {g : Gr} {i : Nat} (h : i < g.ands.length) (v : List Bool) : valsA (g.ands.take (i + 1)) v = valsA (g.ands.take i) v ++ [litV (valsA (g.ands.take i) v) g.ands[i].1.toNat && litV (valsA (g.ands.take i) v) g.ands[i].2.toNat] := by
  rw [List.take_succ_eq_append_getElem h, valsA_append]; rfl

set_option maxRecDepth 8000 in
theorem p_aig_Values (g : Gr) (hf : g.few) (state ins : List Bool) {ks ki : Nat} (hs : Kd 1 ks state) (hi : Kd 1 ki ins) (hl1 : state.length < 2 ^ 40) (hl2 : ins.length < 2 ^ 40) :
    PureCon Try.prog Γ n_aig_Values [eGr g, .list false ks (state.map .bool), .list false ki (ins.map .bool)] (.tup [.own 1 t_bool ((g.values state ins).map .bool), .int .i64 (g.valuesE state ins)]) := by
  refine .run 60 c_aig_Values (by simp) ?_
  simp
  refine .call 60 (by simp) (p_aig_Check g hf) ?_
  unfold Gr.values Gr.valuesE
  by_cases hc : g.check = 0
  · obtain ok := Gr.ok_of hc
    obtain ⟨o1, o2⟩ := ok.ins
    have o3 := ok.sum
    by_cases d1 : state.length = g.next.length
    · by_cases d2 : (ins.length : Int) = g.ins
      · have hcat : catB [(1, [false]), (ki, ins), (ks, state)] = false :: (ins ++ state) := by simp [catB]
        have hcc := p_slices_Concat_bool_bool (Γ := Γ) [(1, [false]), (ki, ins), (ks, state)] (by simp; exact ⟨.inl rfl, hi, hs⟩) (by simp) (by rw [hcat]; simp; omega) (by rw [hcat]; simp)
        rw [hcat] at hcc
        have hfit : g.fits state ins = true := by simp [Gr.fits, d1, d2]
        have key : ∀ n i : Nat, i + n = g.ands.length → ∀ v : List Bool, v = valsA (g.ands.take i) (false :: (ins ++ state)) →
            Fins Try.prog Γ (aig_Values_L1 (.sl 2 0 v.length) (.list false g.ka (g.ands.map ePr)) (.int .i64 g.ands.length) (.int .i64 i)
              [.cells [.int .i64 g.ins, .list false g.kn (g.next.map i64), .list false g.ki (g.init.map i64), .list false g.ka (g.ands.map ePr), .list false g.ko (g.outs.map i64)], .row 1 t_bool [] none true false, .row 1 t_bool (v.map .bool) none true false])
              (.ret (.tup [.own 1 t_bool ((g.vals state ins).map .bool), .int .i64 0])) := by
          intro n
          induction n with
          | zero =>
            intro i hi v hv
            have q1 : ¬ i < g.ands.length := by omega
            have q2 : g.ands.take i = g.ands := List.take_of_length_le (by omega)
            rw [q2] at hv
            have q3 : g.vals state ins = v := hv.symm
            rw [q3]
            refine .go 60 ?_
            simp [q1]
            exact .back (by simp)
          | succ n ih =>
            intro i hi v hv
            have q1 : i < g.ands.length := by omega
            have q2 := eq_true (g.ha.of q1)
            have hlen : v.length = g.first + i := by
              rw [hv, valsA_len, List.length_take]; simp [Gr.first]; omega
            have hfi : g.first ≤ 4001 := by unfold Gr.first; omega
            obtain ⟨⟨a1, a2⟩, a3, a4⟩ := ok.ands i q1
            obtain ⟨x, hx⟩ := Int.eq_ofNat_of_zero_le a1
            obtain ⟨y, hy⟩ := Int.eq_ofNat_of_zero_le a3
            have hvx := p_aig_value (Γ := Γ) v x (by omega) (by omega)
            have hvy := p_aig_value (Γ := Γ) v y (by omega) (by omega)
            have hh := ih (i + 1) (by omega) _ rfl
            rw [valsA_take q1, ← hv, hx, hy] at hh
            simp only [Int.toNat_natCast] at hh
            refine .go 60 ?_
            simp (disch := omega) [q1, q2, hx, hy]
            refine .call 60 (by simp) hvx ?_
            cases b1 : litV v x with
            | true =>
              simp (disch := omega) [q1, q2, hx, hy]
              refine .call 60 (by simp) hvy ?_
              simp (disch := (first | omega | (simp; omega))) [q1, q2, hx, hy]
              refine .reLoop ?_
              simp
              refine .drop 3 rfl (by simp) (by simp) (by simp) ?_
              refine .reset (i := 2) rfl (by simp) (by simp) (by simp) ?_
              simp [b1] at hh ⊢
              exact hh
            | false =>
              simp (disch := (first | omega | (simp; omega))) [q1, q2, hx, hy]
              refine .reLoop ?_
              simp
              refine .drop 3 rfl (by simp) (by simp) (by simp) ?_
              refine .reset (i := 2) rfl (by simp) (by simp) (by simp) ?_
              simp [b1] at hh ⊢
              exact hh
        simp [hc, d1, d2, hfit]
        refine .call 60 (by simp) hcc ?_
        simp
        refine .inLoop ?_
        have hh := key g.ands.length 0 (by omega) (false :: (ins ++ state)) (by simp [valsA])
        simp at hh ⊢
        exact hh
      · have hfit : g.fits state ins = false := by simp [Gr.fits, d1, d2]
        simp [hc, d1, d2, hfit]
        exact .back (by simp)
    · have hfit : g.fits state ins = false := by simp [Gr.fits, d1]
      simp [hc, d1, hfit]
      exact .back (by simp)
  · simp [hc]
    exact .back (by simp [hc])
end Go.Proofs.Ytdmedcdloeljeaa
/- Graphs: the reference's values; a step. -/
namespace Go.Proofs.Ytdmedcdloeljeaa
open Go.AM Go.Proofs
variable {Γ : Nat → Option AV}
set_option linter.unusedSimpArgs false
set_option linter.unusedVariables false

set_option maxRecDepth 8000 in
theorem p_r09_Values (g : Gr) (hf : g.few) (state ins : List Bool) {ks ki : Nat} (hs : Kd 1 ks state) (hi : Kd 1 ki ins) (hl1 : state.length < 2 ^ 40) (hl2 : ins.length < 2 ^ 40) :
    PureCon Try.prog Γ n_r09_Values [eGr g, .list false ks (state.map .bool), .list false ki (ins.map .bool)] (.tup [.own 1 t_bool ((g.values state ins).map .bool), .int .i64 (g.valuesE state ins)]) := by
  refine .run 60 c_r09_Values (by simp) ?_
  simp
  unfold Gr.values Gr.valuesE
  by_cases hc : g.check = 0
  · obtain ok := Gr.ok_of hc
    obtain ⟨o1, o2⟩ := ok.ins
    have o3 := ok.sum
    by_cases d1 : state.length = g.next.length
    · by_cases d2 : (ins.length : Int) = g.ins
      · have hfit : g.fits state ins = true := by simp [Gr.fits, d1, d2]
        have key : ∀ n i : Nat, i + n = g.ands.length → ∀ v : List Bool, v = valsA (g.ands.take i) (false :: (ins ++ state)) →
            Fins Try.prog Γ (r09_Values_L1 (.ptr 0 0) (.sl 2 0 v.length) (.int .i64 i)
              [.cells [.int .i64 g.ins, .list false g.kn (g.next.map i64), .list false g.ki (g.init.map i64), .list false g.ka (g.ands.map ePr), .list false g.ko (g.outs.map i64)], .row 1 t_bool [] none true false, .row 1 t_bool (v.map .bool) none true false])
              (.ret (.tup [.own 1 t_bool ((g.vals state ins).map .bool), .int .i64 0])) := by
          intro n
          induction n with
          | zero =>
            intro i hi v hv
            have q1 : ¬ i < g.ands.length := by omega
            have q2 : g.ands.take i = g.ands := List.take_of_length_le (by omega)
            rw [q2] at hv
            have q3 : g.vals state ins = v := hv.symm
            rw [q3]
            refine .go 60 ?_
            simp [q1]
            exact .back (by simp)
          | succ n ih =>
            intro i hi v hv
            have q1 : i < g.ands.length := by omega
            have q2 := eq_true (g.ha.of q1)
            have hlen : v.length = g.first + i := by
              rw [hv, valsA_len, List.length_take]; simp [Gr.first]; omega
            have hfi : g.first ≤ 4001 := by unfold Gr.first; omega
            obtain ⟨⟨a1, a2⟩, a3, a4⟩ := ok.ands i q1
            obtain ⟨x, hx⟩ := Int.eq_ofNat_of_zero_le a1
            obtain ⟨y, hy⟩ := Int.eq_ofNat_of_zero_le a3
            have hvx := p_r09_Lit (Γ := Γ) v x (by omega) (by omega)
            have hvy := p_r09_Lit (Γ := Γ) v y (by omega) (by omega)
            have hh := ih (i + 1) (by omega) _ rfl
            rw [valsA_take q1, ← hv, hx, hy] at hh
            simp only [Int.toNat_natCast] at hh
            refine .go 60 ?_
            simp (disch := omega) [q1, q2, hx, hy]
            refine .call 60 (by simp) hvx ?_
            cases b1 : litV v x with
            | true =>
              simp (disch := omega) [q1, q2, hx, hy]
              refine .call 60 (by simp) hvy ?_
              simp (disch := (first | omega | (simp; omega))) [q1, q2, hx, hy]
              refine .reLoop ?_
              simp
              refine .reset (i := 2) rfl (by simp) (by simp) (by simp) ?_
              simp [b1] at hh ⊢
              exact hh
            | false =>
              simp (disch := (first | omega | (simp; omega))) [q1, q2, hx, hy]
              refine .reLoop ?_
              simp
              refine .reset (i := 2) rfl (by simp) (by simp) (by simp) ?_
              simp [b1] at hh ⊢
              exact hh
        have hki : ki = 1 ∨ ins = [] := hi
        have hks : ks = 1 ∨ state = [] := hs
        have hh := key g.ands.length 0 (by omega) (false :: (ins ++ state)) (by simp [valsA])
        refine .call 32 (by simp) (p_r09_Check g hf) ?_
        simp [hc, d1, d2, hfit]
        refine .litRow 9 t_bool (es := [.bool false]) (by simp) (by simp) ?_
        simp (disch := (first | omega | (simp; omega))) [hki, hks]
        refine .clrs [29, 30] ?_
        simp
        refine .resetI (i := 2) rfl (by split <;> simp) (by simp) (by simp; omega) (by simp) ?_
        refine .go 20 ?_
        simp (disch := (first | omega | (simp; omega))) [hki, hks, Nat.add_comm 1]
        refine .inLoop ?_
        simp
        refine .resetI (i := 2) rfl (by split <;> simp) (by simp) (by simp; omega) (by simp) ?_
        have e1 : ins.length + 1 + state.length = ins.length + state.length + 1 := by omega
        simp [e1, Nat.add_comm 1] at hh ⊢
        exact hh
      · have hfit : g.fits state ins = false := by simp [Gr.fits, d1, d2]
        refine .call 60 (by simp) (p_r09_Check g hf) ?_
        simp [hc, d1, d2, hfit]
        exact .back (by simp)
    · have hfit : g.fits state ins = false := by simp [Gr.fits, d1]
      refine .call 60 (by simp) (p_r09_Check g hf) ?_
      simp [hc, d1, hfit]
      exact .back (by simp)
  · refine .call 60 (by simp) (p_r09_Check g hf) ?_
    simp [hc]
    exact .back (by simp [hc])
end Go.Proofs.Ytdmedcdloeljeaa
/- Graphs: a step of the program. -/
namespace Go.Proofs.Ytdmedcdloeljeaa
open Go.AM Go.Proofs
variable {Γ : Nat → Option AV}
set_option linter.unusedSimpArgs false
set_option linter.unusedVariables false

/-- Literals' values. -/
def litsV (v : List Bool) (l : List Int) : List Bool := l.map fun a => litV v a.toNat
@[simp] theorem litsV_len (v : List Bool) (l : List Int) : (litsV v l).length = l.length := by simp [litsV]
theorem litsV_take {v : List Bool} {l : List Int} {i : Nat} (h : i < l.length) : litsV v (l.take (i + 1)) = litsV v (l.take i) ++ [litV v l[i].toNat] := by
  rw [List.take_succ_eq_append_getElem h]; simp only [litsV, List.map_append, List.map_cons, List.map_nil]

set_option maxRecDepth 8000 in
theorem r_aig_Step_1 (v : List Bool) (l : List Int) {k : Nat} (hk : Kd 1 k l) (hs : l.length < 2 ^ 40) (hvl : v.length < 2 ^ 38) (i r : Nat) {h : List Ob} (hi : h[i]? = some (.cells [.sl r 0 v.length])) (hr : h[r]? = some (.row 1 t_bool (v.map .bool) none true false))
    (hv : ∀ m, vldH (h.length + 1) m h = true) (hl : ∀ a ∈ l, 0 ≤ a ∧ a < 2 * v.length) :
    ∀ up, AM.Reach Try.prog Γ (.cl n_aig_Step_1 [.list false k (l.map i64), .ptr i 0] up h) (.back up (.sl (h.length + 1) 0 l.length) (h ++ [.row 1 t_bool [] none true false, .row 1 t_bool ((litsV v l).map .bool) none true false])) := by
  intro up
  have hi' : ∀ os, (h ++ os)[i]? = some (.cells [.sl r 0 v.length]) := fun os => get_app hi os
  have hr' : ∀ os, (h ++ os)[r]? = some (.row 1 t_bool (v.map .bool) none true false) := fun os => get_app hr os
  have key : ∀ n j : Nat, j + n = l.length → ∀ w, w = litsV v (l.take j) → AM.Reach Try.prog Γ (aig_Step_1_L1 (.ptr i 0) (.sl (h.length + 1) 0 w.length) (.list false k (l.map i64)) (.int .i64 l.length) (.int .i64 j)
      (h ++ [.row 1 t_bool [] none true false, .row 1 t_bool (w.map .bool) none true false]) ⟨[], .norm, h.length, up⟩) (.back up (.sl (h.length + 1) 0 l.length) (h ++ [.row 1 t_bool [] none true false, .row 1 t_bool ((litsV v l).map .bool) none true false])) := by
    intro n
    induction n with
    | zero =>
      intro j hj w hw
      have q1 : ¬ j < l.length := by omega
      rw [List.take_of_length_le (by omega)] at hw
      subst hw
      refine .goB 60 ?_
      simp [q1]
    | succ n ih =>
      intro j hj w hw
      have q1 : j < l.length := by omega
      have q2 := eq_true (hk.of q1)
      obtain ⟨a1, a2⟩ := hl l[j] (List.getElem_mem q1)
      obtain ⟨x, hx⟩ := Int.eq_ofNat_of_zero_le a1
      have hwl : w.length = j := by rw [hw]; simp; omega
      have hc := p_aig_value (Γ := Γ) v x (by omega) (by omega)
      have hh := ih (j + 1) (by omega) _ rfl
      rw [litsV_take q1, ← hw, hx] at hh
      simp only [Int.toNat_natCast] at hh
      refine .goB 60 ?_
      simp (disch := omega) [q1, q2, hi', hx]
      refine .callB 60 (by simp [hr']) hc ?_
      simp (disch := (first | omega | (simp; omega))) [q1, q2, hi', hr']
      refine .reLoop ?_
      simp
      refine .resetTo (i := h.length + 1) (by simp; exact ⟨rfl, rfl, rfl, rfl, rfl⟩) (by simp) (by simp) (by simp [hv]) ?_
      simp at hh ⊢
      exact hh
  refine .enterB 60 c_aig_Step_1 ?_
  simp
  refine .inLoop ?_
  have hh := key l.length 0 (by omega) [] (by simp [litsV])
  simp at hh ⊢
  exact hh

theorem Gr.vals_len (g : Gr) (state ins : List Bool) : (g.vals state ins).length = 1 + ins.length + state.length + g.ands.length := by
  rw [Gr.vals, valsA_len]; simp; omega
def Gr.stepO (g : Gr) (state ins : List Bool) : List Bool := if g.valuesE state ins = 0 then litsV (g.vals state ins) g.outs else []
def Gr.stepN (g : Gr) (state ins : List Bool) : List Bool := if g.valuesE state ins = 0 then litsV (g.vals state ins) g.next else []
theorem Gr.ok_E {g : Gr} {state ins : List Bool} (h : g.valuesE state ins = 0) : g.Ok ∧ state.length = g.next.length ∧ (ins.length : Int) = g.ins := by
  unfold Gr.valuesE at h
  by_cases hc : g.check = 0
  · refine ⟨Gr.ok_of hc, ?_⟩
    simp only [hc, ne_eq, not_true, if_false] at h
    by_cases hf : g.fits state ins = true
    · simp only [Gr.fits, Bool.and_eq_true, decide_eq_true_eq] at hf
      exact hf
    · simp [hf] at h
  · simp [hc] at h

set_option maxRecDepth 8000 in
theorem p_aig_Step (g : Gr) (hf : g.few) (state ins : List Bool) {ks ki : Nat} (hs : Kd 1 ks state) (hi : Kd 1 ki ins) (hl1 : state.length < 2 ^ 40) (hl2 : ins.length < 2 ^ 40) :
    PureCon Try.prog Γ n_aig_Step [eGr g, .list false ks (state.map .bool), .list false ki (ins.map .bool)]
      (.tup [.own 1 t_bool ((g.stepO state ins).map .bool), .own 1 t_bool ((g.stepN state ins).map .bool), .int .i64 (g.valuesE state ins)]) := by
  refine .run 60 c_aig_Step (by simp) ?_
  simp
  refine .call 60 (by simp) (p_aig_Values g hf state ins hs hi hl1 hl2) ?_
  unfold Gr.stepO Gr.stepN Gr.values
  by_cases hE : g.valuesE state ins = 0
  · obtain ⟨ok, d1, d2⟩ := Gr.ok_E hE
    have hvl := g.vals_len state ins
    obtain ⟨o1, o2⟩ := ok.ins
    have o3 := ok.sum
    have o4 := ok.outsL
    have hlit : g.lits = 2 * (g.vals state ins).length := by rw [hvl]; simp [Gr.lits, Gr.all, Gr.first]; omega
    have hO : ∀ a ∈ g.outs, 0 ≤ a ∧ a < 2 * (g.vals state ins).length := fun a ha => by have := ok.outs a ha; omega
    have hN : ∀ a ∈ g.next, 0 ≤ a ∧ a < 2 * (g.vals state ins).length := fun a ha => by have := ok.next a ha; omega
    simp [hE]
    generalize g.vals state ins = v at *
    refine .dr 60 ?_
    simp
    refine .reach (by simp) (r_aig_Step_1 v g.outs g.ho (by omega) (by omega) 4 3 (by simp) (by simp) (by simp) hO) ?_
    simp
    refine .reach (by simp) (r_aig_Step_1 v g.next g.hn (by omega) (by omega) 4 3 (by simp) (by simp) (by simp) hN) ?_
    simp
    exact .back (by simp)
  · simp [hE]
    exact .back (by simp [hE])
end Go.Proofs.Ytdmedcdloeljeaa
/- Graphs: two literals' literal; which ands are there. No program in sight. -/
namespace Go.Proofs.Ytdmedcdloeljeaa
open Go.AM Go.Proofs
set_option linter.unusedSimpArgs false
set_option linter.unusedVariables false

/-- The place of the first one that is so. -/
def idxP (p : Int × Int) : List (Int × Int) → Nat → Option Nat
  | [], _ => none
  | q :: qs, i => if q = p then some i else idxP p qs (i + 1)
theorem idxP_append (p : Int × Int) : ∀ (a b : List (Int × Int)) (i : Nat), idxP p (a ++ b) i = match idxP p a i with | some j => some j | none => idxP p b (i + a.length)
  | [], b, i => by simp [idxP]
  | q :: a, b, i => by
    rw [List.cons_append, idxP, idxP]
    by_cases h : q = p
    · simp [h]
    · rw [if_neg h, if_neg h, idxP_append p a b (i + 1), List.length_cons, show i + 1 + a.length = i + (a.length + 1) by omega]
theorem idxP_some {p : Int × Int} : ∀ {l : List (Int × Int)} {i k : Nat}, idxP p l i = some k → i ≤ k ∧ ∃ h : k - i < l.length, l[k - i] = p
  | [], i, k, h => by simp [idxP] at h
  | q :: l, i, k, h => by
    rw [idxP] at h
    by_cases hq : q = p
    · rw [if_pos hq] at h
      cases h
      exact ⟨Nat.le_refl _, by simp, by simp [hq]⟩
    · rw [if_neg hq] at h
      obtain ⟨h1, h2, h3⟩ := idxP_some h
      refine ⟨by omega, by simp; omega, ?_⟩
      have e : k - i = (k - (i + 1)) + 1 := by omega
      simp only [e, List.getElem_cons_succ]
      exact h3
theorem idxP_none {p : Int × Int} : ∀ {l : List (Int × Int)} {i : Nat}, idxP p l i = none ↔ p ∉ l
  | [], i => by simp [idxP]
  | q :: l, i => by
    rw [idxP]
    by_cases hq : q = p
    · simp [hq]
    · rw [if_neg hq, idxP_none (l := l)]
      simp [hq, Ne.symm hq]

/-- What two literals come to of themselves. -/
def andK (p q : Nat) : Option Nat := if q = 0 ∨ p ^^^ 1 = q then some 0 else if q = 1 ∨ p = q then some p else none
/-- Two literals' literal; the ands behind. -/
def andG (first : Nat) (l : List (Int × Int)) (a b : Nat) : List (Int × Int) × Nat :=
  match andK (max a b) (min a b) with
  | some c => (l, c)
  | none => match idxP (((max a b : Nat) : Int), ((min a b : Nat) : Int)) l 0 with
    | some i => (l, 2 * (first + i))
    | none => (l ++ [(((max a b : Nat) : Int), ((min a b : Nat) : Int))], 2 * (first + l.length))

/-! ### The map -/
def findE (p : Int × Int) : List ((Int × Int) × Nat) → Option Nat
  | [] => none
  | (q, n) :: r => if p = q then some n else findE p r
abbrev eEnt (x : (Int × Int) × Nat) : AV × AV := (ePr x.1, .int .i64 x.2)
theorem eqData_pr (p q : Int × Int) : eqData (.strct [.int, .int]) (ePr p) (ePr q) = some (decide (p = q)) := by
  obtain ⟨a, b⟩ := p
  obtain ⟨c, d⟩ := q
  simp only [eqData, allDatum, isDatum, eqAll, eqOne, Prod.mk.injEq]
  cases h1 : (a == c)
  · have := beq_eq_false_iff_ne.1 h1
    simp [this]
  · have e1 := eq_of_beq h1
    cases h2 : (b == d)
    · have := beq_eq_false_iff_ne.1 h2
      simp [this]
    · have e2 := eq_of_beq h2
      simp [e1, e2]
theorem isKey_pr (p : Int × Int) : isKey (.strct [.int, .int]) (ePr p) = true := rfl
theorem findIn_ents (p : Int × Int) : ∀ l : List ((Int × Int) × Nat), findIn (.strct [.int, .int]) (ePr p) (l.map eEnt) = some ((findE p l).map fun n : Nat => AV.int .i64 (n : Int))
  | [] => rfl
  | (q, n) :: r => by
    simp only [List.map_cons, findIn, eqData_pr, findE]
    by_cases h : p = q
    · simp [h]
    · simp only [h, decide_false, if_false]; exact findIn_ents p r
theorem putIn_ents {p : Int × Int} {v : AV} : ∀ {l : List ((Int × Int) × Nat)}, findE p l = none → putIn (.strct [.int, .int]) (ePr p) v (l.map eEnt) = some (l.map eEnt ++ [(ePr p, v)])
  | [], _ => rfl
  | (q, n) :: r, h => by
    rw [findE] at h
    by_cases hq : p = q
    · rw [if_pos hq] at h; cases h
    · rw [if_neg hq] at h
      simp only [List.map_cons, putIn, eqData_pr, hq, decide_false, putIn_ents h, Option.map_some, List.cons_append]
theorem belM_append (n : Nat) : ∀ a b : List (AV × AV), belM n (a ++ b) = (belM n a && belM n b)
  | [], b => by simp [belM]
  | (x, y) :: a, b => by simp [belM, belM_append n a b, Bool.and_assoc]
@[simp] theorem belM_ents (n : Nat) : ∀ l : List ((Int × Int) × Nat), belM n (l.map eEnt) = true
  | [] => rfl
  | x :: r => by simp [belM, belM_ents n r]
@[simp] theorem rnM_ents (n : Nat) (τ : List Nat) : ∀ l : List ((Int × Int) × Nat), rnM n τ (l.map eEnt) = l.map eEnt
  | [] => rfl
  | x :: r => by simp [rnM_ents n τ r]
@[simp] theorem okM_ents (n : Nat) (τ : List Nat) : ∀ l : List ((Int × Int) × Nat), okM n τ (l.map eEnt) = true
  | [] => rfl
  | x :: r => by simp [okM_ents n τ r]
@[simp] theorem vldM_ents (n m : Nat) : ∀ l : List ((Int × Int) × Nat), vldM n m (l.map eEnt) = true
  | [] => rfl
  | x :: r => by simp [vldM_ents n m r]
/-- The map tells the ands' places. -/
def Ents (first : Nat) (l : List (Int × Int)) (es : List ((Int × Int) × Nat)) : Prop := ∀ p, findE p es = (idxP p l 0).map fun i => 2 * (first + i)
theorem findE_append (p : Int × Int) : ∀ (a b : List ((Int × Int) × Nat)), findE p (a ++ b) = match findE p a with | some n => some n | none => findE p b
  | [], b => rfl
  | (q, n) :: a, b => by
    rw [List.cons_append, findE, findE]
    by_cases h : p = q
    · simp [h]
    · rw [if_neg h, if_neg h, findE_append p a b]
theorem ents_nil (first : Nat) : Ents first [] [] := fun p => rfl
theorem ents_old {first : Nat} {l : List (Int × Int)} {es : List ((Int × Int) × Nat)} (h : Ents first l es) {p : Int × Int} {n : Nat} (hp : findE p es = some n) : Ents first (l ++ [p]) es := by
  intro q
  rw [h q, idxP_append]
  cases hq : idxP q l 0 with
  | some j => rfl
  | none =>
    have h2 := h p
    rw [hp] at h2
    have hne : p ≠ q := by
      rintro rfl
      rw [hq] at h2
      cases h2
    simp [idxP, hne]
theorem ents_new {first : Nat} {l : List (Int × Int)} {es : List ((Int × Int) × Nat)} (h : Ents first l es) {p : Int × Int} (hp : findE p es = none) : Ents first (l ++ [p]) (es ++ [(p, 2 * (first + l.length))]) := by
  intro q
  rw [findE_append, idxP_append, h q]
  cases hq : idxP q l 0 with
  | some j => rfl
  | none =>
    simp only [Option.map_none, findE, idxP, Nat.zero_add]
    by_cases he : q = p
    · simp [he]
    · rw [if_neg he, if_neg (fun h1 => he h1.symm)]; rfl
end Go.Proofs.Ytdmedcdloeljeaa
/- Concat of rows: its contract. -/
namespace Go.Proofs.Ytdmedcdloeljeaa
open Go.AM Go.Proofs
variable {Γ : Nat → Option AV}
set_option linter.unusedSimpArgs false
set_option linter.unusedVariables false

abbrev eCatI (x : Nat × List Int) : AV := .list false x.1 (x.2.map i64)
def catI : List (Nat × List Int) → List Int
  | [] => []
  | x :: xs => x.2 ++ catI xs
theorem catI_append (a b : List (Nat × List Int)) : catI (a ++ b) = catI a ++ catI b := by
  induction a with
  | nil => rfl
  | cons x a ih => simp [catI, ih]
theorem catI_take (xs : List (Nat × List Int)) (i : Nat) (h : i < xs.length) : catI (xs.take (i + 1)) = catI (xs.take i) ++ xs[i].2 := by
  rw [List.take_succ_eq_append_getElem h, catI_append]; simp [catI]
theorem catI_le (xs : List (Nat × List Int)) (i : Nat) : (catI (xs.take i)).length ≤ (catI xs).length := by
  conv => rhs; rw [← List.take_append_drop i xs, catI_append]
  simp

set_option maxRecDepth 8000 in
theorem p_slices_Concat_int_int (xs : List (Nat × List Int)) (hk : ∀ x ∈ xs, Kd 1 x.1 x.2) (hn : xs.length < 2 ^ 40) (hs : (catI xs).length < 2 ^ 40) (hp : 0 < (catI xs).length) :
    PureCon Try.prog Γ n_slices_Concat_int_int [.list false 1 (xs.map eCatI)] (.own 1 t_int ((catI xs).map i64)) := by
  refine .run 60 c_slices_Concat_int_int (by simp) ?_
  have key2 : ∀ n i : Nat, i + n = xs.length → ∀ m : Nat, (catI (xs.take i)).length + m = (catI xs).length →
      Fins Try.prog Γ (slices_Concat_int_int_L1 (.sl 2 0 (catI (xs.take i)).length) (.list false 1 (xs.map eCatI)) (.int .i64 xs.length) (.int .i64 i) [.row 1 t_int [] none true false, .row 1 t_int [] none true false, .row 1 t_int ((catI (xs.take i)).map i64 ++ List.replicate m (AV.int .i64 0)) none true false])
        (.ret (.own 1 t_int ((catI xs).map i64))) := by
    intro n
    induction n with
    | zero =>
      intro i hi m hm
      have q1 : ¬ i < xs.length := by omega
      have q2 : xs.take i = xs := List.take_of_length_le (by omega)
      rw [q2] at hm ⊢
      have hm0 : m = 0 := by omega
      subst hm0
      refine .go 60 ?_
      simp [q1]
      exact .back (by simp)
    | succ n ih =>
      intro i hi m hm
      have q1 : i < xs.length := by omega
      have q2 := catI_take xs i q1
      have q3 := catI_le xs (i + 1)
      rw [q2, List.length_append] at q3
      have q4 := hk xs[i] (List.getElem_mem q1)
      have q5 : xs[i].1 = 1 ∨ xs[i].2 = [] := q4
      have hh := ih (i + 1) (by omega) (m - xs[i].2.length) (by rw [q2, List.length_append]; omega)
      rw [q2] at hh
      have hd : (List.replicate m (AV.int .i64 0)).drop xs[i].2.length = List.replicate (m - xs[i].2.length) (AV.int .i64 0) := by simp
      refine .go 60 ?_
      by_cases q6 : (catI (xs.take i)).length = (catI xs).length
      · have q7 : xs[i].2 = [] := List.length_eq_zero_iff.1 (by omega)
        have hm0 : m = 0 := by omega
        subst hm0
        simp [q7] at hh
        simp (disch := (first | omega | (simp; omega))) [q1, q5, q7]
        refine .reLoop ?_
        simp
        exact hh
      · simp (disch := (first | omega | (simp; omega))) [q1, q5]
        by_cases q7 : m = 0
        · omega
        · have c1 : ¬ (catI (List.take i xs)).length = (catI (List.take i xs)).length + m := by omega
          have c2 : (catI (List.take i xs)).length + xs[i].snd.length ≤ (catI (List.take i xs)).length + m := by omega
          simp (disch := (first | omega | (simp; omega))) [q1, q5, c1, c2, q7]
          refine .reLoop ?_
          have hd0 : ((catI (xs.take i)).map i64).drop ((catI (xs.take i)).length + xs[i].2.length) = [] := List.drop_eq_nil_of_le (by simp)
          simp [List.drop_append, hd, hd0] at hh ⊢
          exact hh
  have key1 : ∀ n i : Nat, i + n = xs.length →
      Fins Try.prog Γ (slices_Concat_int_int_L9 (.list false 1 (xs.map eCatI)) (.int .i64 (catI (xs.take i)).length) (.list false 1 (xs.map eCatI)) (.int .i64 xs.length) (.int .i64 i) [.row 1 t_int [] none true false])
        (.ret (.own 1 t_int ((catI xs).map i64))) := by
    intro n
    induction n with
    | zero =>
      intro i hi
      have q1 : ¬ i < xs.length := by omega
      have q2 : xs.take i = xs := List.take_of_length_le (by omega)
      have q3 : 0 < (catI xs).length := hp
      have hh := key2 xs.length 0 (by omega) (catI xs).length (by simp [catI])
      refine .go 60 ?_
      rw [q2]
      simp [q1]
      refine .enter 60 c_slices_Grow_int_int ?_
      have q4 : ¬ (catI xs).length = 0 := by omega
      have q5 : catI xs ≠ [] := fun e => by rw [e] at hp; simp at hp
      obtain ⟨m, hm⟩ : ∃ m, (catI xs).length = m + 1 := ⟨(catI xs).length - 1, by omega⟩
      have hrep : List.replicate (catI xs).length (AV.int .i64 0) = (AV.int .i64 0) :: List.replicate m (AV.int .i64 0) := by rw [hm]; rfl
      simp (disch := (first | omega | (simp; omega))) [q3, q4, q5, hrep]
      refine .inLoop ?_
      simp [catI, hrep] at hh ⊢
      exact hh
    | succ n ih =>
      intro i hi
      have q1 : i < xs.length := by omega
      have q2 := catI_take xs i q1
      have q3 := catI_le xs (i + 1)
      rw [q2, List.length_append] at q3
      have hh := ih (i + 1) (by omega)
      rw [q2] at hh
      refine .go 60 ?_
      have q4 : ¬ ((catI (xs.take i)).length : Int) + xs[i].2.length < 0 := by omega
      simp (disch := (first | omega | (simp; omega))) [q1, q4]
      refine .reLoop ?_
      simp at hh ⊢
      exact hh
  simp
  refine .inLoop ?_
  have hh := key1 xs.length 0 (by omega)
  simp [catI] at hh ⊢
  exact hh

set_option maxRecDepth 8000 in
/-- Of rows without elements: nil. -/
theorem p_slices_Concat_int_int_nil (xs : List (Nat × List Int)) (hx : ∀ x ∈ xs, x.2 = []) (hn : xs.length < 2 ^ 40) :
    PureCon Try.prog Γ n_slices_Concat_int_int [.list false 1 (xs.map eCatI)] (.own 1 t_int []) := by
  refine .run 60 c_slices_Concat_int_int (by simp) ?_
  have key2 : ∀ n i : Nat, i + n = xs.length → Fins Try.prog Γ (slices_Concat_int_int_L1 (.list true 0 []) (.list false 1 (xs.map eCatI)) (.int .i64 xs.length) (.int .i64 i) [.row 1 t_int [] none true false, .row 1 t_int [] none true false])
        (.ret (.own 1 t_int [])) := by
    intro n
    induction n with
    | zero =>
      intro i hi
      have q1 : ¬ i < xs.length := by omega
      refine .nilslot 6 1 t_int rfl (by omega) ?_
      refine .go 60 ?_
      simp [q1]
      exact .back (by simp)
    | succ n ih =>
      intro i hi
      have q1 : i < xs.length := by omega
      have q7 := hx xs[i] (List.getElem_mem q1)
      have hh := ih (i + 1) (by omega)
      refine .go 60 ?_
      simp (disch := (first | omega | (simp; omega))) [q1, q7]
      refine .reLoop ?_
      simp at hh ⊢
      exact hh
  have key : ∀ n i : Nat, i + n = xs.length → Fins Try.prog Γ (slices_Concat_int_int_L9 (.list false 1 (xs.map eCatI)) (.int .i64 0) (.list false 1 (xs.map eCatI)) (.int .i64 xs.length) (.int .i64 i) [.row 1 t_int [] none true false])
        (.ret (.own 1 t_int [])) := by
    intro n
    induction n with
    | zero =>
      intro i hi
      have q1 : ¬ i < xs.length := by omega
      refine .go 60 ?_
      simp [q1]
      refine .enter 60 c_slices_Grow_int_int ?_
      simp
      refine .inLoop ?_
      have hh := key2 xs.length 0 (by omega)
      simp at hh ⊢
      exact hh
    | succ n ih =>
      intro i hi
      have q1 : i < xs.length := by omega
      have q7 := hx xs[i] (List.getElem_mem q1)
      have hh := ih (i + 1) (by omega)
      refine .go 60 ?_
      simp (disch := (first | omega | (simp; omega))) [q1, q7]
      refine .reLoop ?_
      simp at hh ⊢
      exact hh
  simp
  refine .inLoop ?_
  have hh := key xs.length 0 (by omega)
  simp at hh ⊢
  exact hh
theorem g_slices_Concat_int_int (xs : List (Nat × List Int)) (hk : ∀ x ∈ xs, Kd 1 x.1 x.2) (hn : xs.length < 2 ^ 40) (hs : (catI xs).length < 2 ^ 40) :
    PureCon Try.prog Γ n_slices_Concat_int_int [.list false 1 (xs.map eCatI)] (.own 1 t_int ((catI xs).map i64)) := by
  rcases Nat.eq_zero_or_pos (catI xs).length with h | h
  · have h0 : catI xs = [] := List.length_eq_zero_iff.1 h
    have hx : ∀ x ∈ xs, x.2 = [] := by
      clear hk hn hs h
      induction xs with
      | nil => simp
      | cons y ys ih =>
        simp only [catI, List.append_eq_nil_iff] at h0
        intro x hx
        rcases List.mem_cons.1 hx with rfl | hx
        · exact h0.1
        · exact ih h0.2 x hx
    rw [h0]
    exact p_slices_Concat_int_int_nil xs hx hn
  · exact p_slices_Concat_int_int xs hk hn hs h
end Go.Proofs.Ytdmedcdloeljeaa
/- Clone of a row: its contract. -/
namespace Go.Proofs.Ytdmedcdloeljeaa
open Go.AM Go.Proofs
variable {Γ : Nat → Option AV}
set_option linter.unusedSimpArgs false
set_option linter.unusedVariables false

theorem p_slices_Clone_int_int (l : List Int) {k : Nat} (hk : Kd 1 k l) (hl : l.length < 2 ^ 40) : PureCon Try.prog Γ n_slices_Clone_int_int [.list false k (l.map i64)] (.own 1 t_int (l.map i64)) := by
  refine .run 60 c_slices_Clone_int_int (by simp) ?_
  cases l with
  | nil =>
    simp
    refine .either 0 (by simp) (fun b => ?_)
    cases b
    · refine .go 9 ?_
      simp
      refine .nilslot 2 1 t_int rfl (by omega) ?_
      refine .go 60 ?_
      simp
      exact .back (by simp)
    · refine .go 60 ?_
      simp
      exact .back (by simp)
  | cons x xs =>
    have hk0 : k = 1 := by
      rcases hk with h | h
      · exact h
      · cases h
    subst hk0
    simp at hl
    simp (disch := (first | omega | (simp; omega)))
    exact .back (by simp)
end Go.Proofs.Ytdmedcdloeljeaa
/- Clone of a row: its contract. -/
namespace Go.Proofs.Ytdmedcdloeljeaa
open Go.AM Go.Proofs
variable {Γ : Nat → Option AV}
set_option linter.unusedSimpArgs false
set_option linter.unusedVariables false

theorem p_slices_Clone_2_int_2_int (l : List (Int × Int)) {k : Nat} (hk : Kd 2 k l) (hl : l.length < 2 ^ 40) : PureCon Try.prog Γ n_slices_Clone_2_int_2_int [.list false k (l.map ePr)] (.own 2 t_2_int_2 (l.map ePr)) := by
  refine .run 60 c_slices_Clone_2_int_2_int (by simp) ?_
  cases l with
  | nil =>
    simp
    refine .either 0 (by simp) (fun b => ?_)
    cases b
    · refine .go 9 ?_
      simp
      refine .nilslot 2 2 t_2_int_2 rfl (by omega) ?_
      refine .go 60 ?_
      simp
      exact .back (by simp)
    · refine .go 60 ?_
      simp
      exact .back (by simp)
  | cons x xs =>
    have hk0 : k = 2 := by
      rcases hk with h | h
      · exact h
      · cases h
    subst hk0
    simp at hl
    simp (disch := (first | omega | (simp; omega)))
    exact .back (by simp)
end Go.Proofs.Ytdmedcdloeljeaa
/- Graphs that grow: build. -/
namespace Go.Proofs.Ytdmedcdloeljeaa
open Go.AM Go.Proofs
variable {Γ : Nat → Option AV}
set_option linter.unusedSimpArgs false
set_option linter.unusedVariables false

/-- A memory speaks of itself only. -/
def WfH (h : List Ob) : Prop := ∀ m, h.length ≤ m → belH m h = true
abbrev cellG (g : Gr) : Ob := .cells [.int .i64 g.ins, .list false g.kn (g.next.map i64), .list false g.ki (g.init.map i64), .list false g.ka (g.ands.map ePr), .list false g.ko (g.outs.map i64)]
/-- Which ands are there, when a builder begins. -/
def entsA (first : Nat) : List (Int × Int) → Nat → List ((Int × Int) × Nat) → List ((Int × Int) × Nat)
  | [], _, es => es
  | p :: ps, i, es => entsA first ps (i + 1) (if (findE p es).isSome = true then es else es ++ [(p, 2 * (first + i))])
theorem entsA_ok (first : Nat) : ∀ (ps l : List (Int × Int)) (es : List ((Int × Int) × Nat)), Ents first l es → Ents first (l ++ ps) (entsA first ps l.length es)
  | [], l, es, h => by simpa [entsA] using h
  | p :: ps, l, es, h => by
    rw [entsA]
    have e : l ++ p :: ps = (l ++ [p]) ++ ps := by simp
    have e2 : l.length + 1 = (l ++ [p]).length := by simp
    rw [e, e2]
    refine entsA_ok first ps (l ++ [p]) _ ?_
    cases hf : findE p es with
    | none => simpa using ents_new h hf
    | some n => simpa using ents_old h hf
def Gr.ents (g : Gr) : List ((Int × Int) × Nat) := entsA g.first g.ands 0 []
theorem Gr.ents_ok (g : Gr) : Ents g.first g.ands g.ents := by
  have := entsA_ok g.first g.ands [] [] (ents_nil _)
  rw [List.nil_append] at this
  exact this
/-- A builder's cells. -/
abbrev bldC (g : Gr) (r n m : Nat) (come : AV) : Ob := .cells [.int .i64 g.ins, .list false g.kn (g.next.map i64), .list false g.ki (g.init.map i64), .sl r 0 n, .list false g.ko (g.outs.map i64), .mp m, come]

set_option maxRecDepth 8000 in
theorem r_build1 (g : Gr) (ok : g.Ok) (h : List Ob) (hw : WfH h) (up : List Fr) : ∀ n i : Nat, i + n = g.ands.length → ∀ es, AM.Reach Try.prog Γ
      (aig_build_L1 (.ptr h.length 0) (.ptr (h.length + 2) 0) (.list false g.ka (g.ands.map ePr)) (.int .i64 g.ands.length) (.int .i64 i) (h ++ [cellG g, .map (es.map eEnt) true, bldC g (h.length + 3) g.ands.length (h.length + 1) (.list true 0 []), .row 2 t_2_int_2 (g.ands.map ePr) none true false]) ⟨[], .norm, h.length, up⟩)
      (.back up (.ptr (h.length + 2) 0) (h ++ [cellG g, .map ((entsA g.first (g.ands.drop i) i es).map eEnt) true, bldC g (h.length + 3) g.ands.length (h.length + 1) (.list true 0 []), .row 2 t_2_int_2 (g.ands.map ePr) none true false])) := by
  have o1 := ok.ins
  have o3 := ok.sum
  have hf := p_aig_first (Γ := Γ) g o1.1 o1.2 (by omega)
  have hfb : g.first ≤ 8001 := by unfold Gr.first; omega
  intro n
  induction n with
  | zero =>
    intro i hi es
    have q1 : ¬ i < g.ands.length := by omega
    rw [List.drop_eq_nil_of_le (by omega)]
    refine .goB 60 ?_
    simp [q1, entsA]
  | succ n ih =>
    intro i hi es
    have q1 : i < g.ands.length := by omega
    have q2 := eq_true (g.ha.of q1)
    rw [List.drop_eq_getElem_cons q1, entsA]
    have hfi := findIn_ents g.ands[i] es
    have hbw := hw (h.length + 4) (by omega)
    cases hfe : findE g.ands[i] es with
    | some c =>
      rw [hfe] at hfi
      have hh := ih (i + 1) (by omega) es
      refine .goB 60 ?_
      simp (disch := omega) [q1, q2, hfi, isKey, allDatum, isDatum]
      refine .reLoop ?_
      simp
      refine .dropTo (h.length + 4) (by simp; rfl) (by simp) (by simp) (by simp [hbw]) ?_
      simp at hh ⊢
      exact hh
    | none =>
      rw [hfe] at hfi
      have hh := ih (i + 1) (by omega) (es ++ [(g.ands[i], 2 * (g.first + i))])
      have hput := putIn_ents (v := .int .i64 (2 * ((g.first : Int) + i))) hfe
      refine .goB 60 ?_
      simp [q1, q2, hfi, isKey, allDatum, isDatum]
      refine .drB 60 ?_
      simp [q1, q2]
      refine .call (by simp) hf ?_
      simp (disch := omega) [hput, isKey, allDatum, isDatum]
      refine .reLoop ?_
      simp
      refine .dropTo (h.length + 4) (by simp; rfl) (by simp) (by simp) (by simp [hbw, belM_append]) ?_
      simp [hfe] at hh ⊢
      exact hh
set_option maxRecDepth 8000 in
theorem r_build (g : Gr) (ok : g.Ok) (hfew : g.ands.length < 2 ^ 40) (h : List Ob) (hw : WfH h) : ∀ up, AM.Reach Try.prog Γ (.cl n_aig_build [eGr g] up h)
      (.back up (.ptr (h.length + 2) 0) (h ++ [cellG g, .map (g.ents.map eEnt) true, bldC g (h.length + 3) g.ands.length (h.length + 1) (.list true 0 []), .row 2 t_2_int_2 (g.ands.map ePr) none true false])) := by
  intro up
  refine .enterB 60 c_aig_build ?_
  simp
  refine .callB 60 (by simp) (p_slices_Clone_2_int_2_int (Γ := Γ) g.ands g.ha hfew) ?_
  simp
  refine .inLoop ?_
  have hh := r_build1 (Γ := Γ) g ok h hw up g.ands.length 0 (by omega) []
  simp at hh ⊢
  exact hh
end Go.Proofs.Ytdmedcdloeljeaa
/- Graphs: which numbers are led to. -/
namespace Go.Proofs.Ytdmedcdloeljeaa
open Go.AM Go.Proofs
variable {Γ : Nat → Option AV}
set_option linter.unusedSimpArgs false
set_option linter.unusedVariables false

/-- Literals are marked. -/
def markL : List Int → List Bool → List Bool
  | [], v => v
  | a :: l, v => markL l (v.set (a.toNat / 2) true)
/-- Back over ands. -/
def backM (ands : List (Int × Int)) (first : Nat) : Nat → List Bool → List Bool
  | 0, v => v
  | i + 1, v => backM ands first i (if v.getD (first + i) false = true then (v.set ((ands.getD i (0, 0)).1.toNat / 2) true).set ((ands.getD i (0, 0)).2.toNat / 2) true else v)
def Gr.led (g : Gr) : List Bool := backM g.ands g.first g.ands.length (markL (g.next ++ g.outs) (List.replicate g.all false))
theorem markL_len : ∀ (l : List Int) (v : List Bool), (markL l v).length = v.length
  | [], v => rfl
  | a :: l, v => by rw [markL, markL_len l, List.length_set]
theorem backM_len (ands : List (Int × Int)) (first : Nat) : ∀ (i : Nat) (v : List Bool), (backM ands first i v).length = v.length
  | 0, v => rfl
  | i + 1, v => by rw [backM, backM_len ands first i]; split <;> simp
theorem markL_append : ∀ (a b : List Int) (v : List Bool), markL (a ++ b) v = markL b (markL a v)
  | [], b, v => rfl
  | x :: a, b, v => by rw [List.cons_append, markL, markL, markL_append a b]

abbrev ledO : List (List Nat) := [[0,1,2,3,4,5,6,7,8], [0,1,2,3,4,5,7,6,8], [0,1,2,3,4,7,5,6,8], [0,1,2,3,7,4,5,6,8], [0,1,2,7,3,4,5,6,8], [0,1,7,2,3,4,5,6,8], [0,2,1,3,4,5,6,7,8], [0,2,1,3,4,5,7,6,8], [0,2,1,3,4,7,5,6,8], [0,2,1,3,7,4,5,6,8], [0,2,1,7,3,4,5,6,8], [0,2,3,1,4,5,6,7,8], [0,2,3,1,4,5,7,6,8], [0,2,3,1,4,7,5,6,8], [0,2,3,1,7,4,5,6,8], [0,2,3,4,1,5,6,7,8], [0,2,3,4,1,5,7,6,8], [0,2,3,4,1,7,5,6,8], [0,2,3,4,7,1,5,6,8], [0,2,3,7,1,4,5,6,8], [0,2,3,7,4,1,5,6,8], [0,2,7,1,3,4,5,6,8], [0,2,7,3,1,4,5,6,8], [0,2,7,3,4,1,5,6,8], [0,7,1,2,3,4,5,6,8], [0,7,2,1,3,4,5,6,8], [0,7,2,3,1,4,5,6,8], [0,7,2,3,4,1,5,6,8], [2,0,1,3,4,5,6,7,8], [2,0,1,3,4,5,7,6,8], [2,0,1,3,4,7,5,6,8], [2,0,1,3,7,4,5,6,8], [2,0,1,7,3,4,5,6,8], [2,0,3,1,4,5,6,7,8], [2,0,3,1,4,5,7,6,8], [2,0,3,1,4,7,5,6,8], [2,0,3,1,7,4,5,6,8], [2,0,3,4,1,5,6,7,8], [2,0,3,4,1,5,7,6,8], [2,0,3,4,1,7,5,6,8], [2,0,3,4,7,1,5,6,8], [2,0,3,7,1,4,5,6,8], [2,0,3,7,4,1,5,6,8], [2,0,7,1,3,4,5,6,8], [2,0,7,3,1,4,5,6,8], [2,0,7,3,4,1,5,6,8], [2,3,0,1,4,5,6,7,8], [2,3,0,1,4,5,7,6,8], [2,3,0,1,4,7,5,6,8], [2,3,0,1,7,4,5,6,8], [2,3,0,4,1,5,6,7,8], [2,3,0,4,1,5,7,6,8], [2,3,0,4,1,7,5,6,8], [2,3,0,4,7,1,5,6,8], [2,3,0,7,1,4,5,6,8], [2,3,0,7,4,1,5,6,8], [2,3,4,0,1,5,6,7,8], [2,3,4,0,1,5,7,6,8], [2,3,4,0,1,7,5,6,8], [2,3,4,0,7,1,5,6,8], [2,3,4,7,0,1,5,6,8], [2,3,7,0,1,4,5,6,8], [2,3,7,0,4,1,5,6,8], [2,3,7,4,0,1,5,6,8], [2,7,0,1,3,4,5,6,8], [2,7,0,3,1,4,5,6,8], [2,7,0,3,4,1,5,6,8], [2,7,3,0,1,4,5,6,8], [2,7,3,0,4,1,5,6,8], [2,7,3,4,0,1,5,6,8], [7,0,1,2,3,4,5,6,8], [7,0,2,1,3,4,5,6,8], [7,0,2,3,1,4,5,6,8], [7,0,2,3,4,1,5,6,8], [7,2,0,1,3,4,5,6,8], [7,2,0,3,1,4,5,6,8], [7,2,0,3,4,1,5,6,8], [7,2,3,0,1,4,5,6,8], [7,2,3,0,4,1,5,6,8], [7,2,3,4,0,1,5,6,8]]
theorem ledO_eq : ordersL [[], [0], [], [2], [3], [1, 4], [5, 5], [], [7, 6, 1, 0, 1, 2, 3, 4, 5, 6, 7]] 9 [] = ledO := by decide +kernel

/-- What led's frame is while it goes over what leads. -/
abbrev ledUp (g : Gr) : List Fr := [⟨.run, n_aig_led, [.inRange 6, .inBlock 0 [], .code (.seq (.reg aig_led_p0) .ret)],
  [eGr g, .ptr 0 0, U, .ptr 2 0, U, U, U, U, U, U, U, U, eGr g, .sl 1 0 g.all, .fn (.func n_aig_leading_1) [] [.ptr 3 0, .ptr 4 0], U, U, U, U, U, U], [.mark 5], .norm, 0⟩]
abbrev ledH (g : Gr) (v : List Bool) : List Ob := [cellG g, .row 1 t_bool (v.map .bool) none true false, .cells [.sl 1 0 g.all], cellG g, .cells [.sl 1 0 g.all], .dfr true,
  .loop .ready .none n_aig_led [U, U, U, .ptr 2 0, U, U, U, U, U, U, U, U, U, U, U, U, U, U, U, U, U] [15] (.reg aig_led_p1) aig_led_p3, .cells [.yld 6]]

set_option maxRecDepth 8000 in
/-- Next and Outs. -/
theorem f_led8 (g : Gr) (ok : g.Ok) (L : List Int) (hL : ∀ a ∈ L, 0 ≤ a ∧ a < g.lits) (hl : L.length < 2 ^ 40) {o : Out} (v0 : List Bool) (hv0 : v0.length = g.all)
    (hc : Fins Try.prog Γ (aig_leading_1_E8 (.ptr 3 0) (.ptr 4 0) (.ptr 7 0) (ledH g (markL L v0) ++ [.row 1 t_int (L.map i64) none true false]) ⟨[], .norm, 7, ledUp g⟩) o) :
    ∀ n i : Nat, i + n = L.length → ∀ v, v = markL (L.take i) v0 → Fins Try.prog Γ (aig_leading_1_L8 (.ptr 3 0) (.ptr 4 0) (.ptr 7 0) (.sl 8 0 L.length) (.int .i64 L.length) (.int .i64 i) (ledH g v ++ [.row 1 t_int (L.map i64) none true false]) ⟨[], .norm, 7, ledUp g⟩) o := by
  intro n
  induction n with
  | zero =>
    intro i hi v hv
    rw [List.take_of_length_le (by omega)] at hv
    subst hv
    have q1 : ¬ i < L.length := by omega
    refine .reach (.goS 60 (c' := aig_leading_1_E8 (.ptr 3 0) (.ptr 4 0) (.ptr 7 0) (ledH g (markL L v0) ++ [.row 1 t_int (L.map i64) none true false]) ⟨[], .norm, 7, ledUp g⟩) ?_) hc
    simp [q1]
    exact .exit rfl rfl
  | succ n ih =>
    intro i hi v hv
    have q1 : i < L.length := by omega
    obtain ⟨b1, b2⟩ := hL L[i] (List.getElem_mem q1)
    obtain ⟨x, hx⟩ := Int.eq_ofNat_of_zero_le b1
    have hvl : v.length = g.all := by rw [hv, markL_len, hv0]
    have hh := ih (i + 1) (by omega) (v.set (x / 2) true) (by rw [List.take_succ_eq_append_getElem q1, markL_append, ← hv, markL, markL, hx]; rfl)
    have e1 : g.lits = 2 * g.all := rfl
    refine .go 60 ?_
    have q3 : x / 2 < g.all := by omega
    simp (disch := omega) [q1, hx, setAll, hvl, q3, -Int.natCast_ediv, -Int.natCast_emod]
    refine .reLoop ?_
    have e2 : (v.map AV.bool).set (x / 2) (.bool true) = (v.set (x / 2) true).map AV.bool := by rw [List.map_set]
    rw [e2]
    simp [-List.map_set] at hh ⊢
    exact hh

abbrev ledUp2 (g : Gr) : List Fr := ⟨.run, n_aig_leading_1, [.inRange 11, .inBlock 2 []], [U, .ptr 3 0, .ptr 4 0, .ptr 7 0, U, U, U, U, U, U, U, U, U, U, U, U, U, U, U, U, U, U, U, U,
              .ptr 3 3, .list false g.ka (List.map ePr g.ands), .fn (.func n_slices_Backward_2_int_2_int_1) [] [.ptr 9 0], U, U, U, U, U, U, U, U, U, U, U, U, U, U, U, U, U, U, U, U, U, U, U], [.mark 10], .norm, 7⟩ :: ledUp g
abbrev ledH2 (g : Gr) (v : List Bool) (rest : Ob) : List Ob := ledH g v ++ [rest, .cells [.list false g.ka (List.map ePr g.ands)], .dfr true,
        .loop .ready .none n_aig_leading_1 [U, .ptr 3 0, .ptr 4 0, .ptr 7 0, U, U, U, U, U, U, U, U, U, U, U, U, U, U, U, U, U, U, U, U, U, U, U, U, U, U, U, U, U, U, U, U, U, U, U, U, U, U, U, U, U, U, U, U, U, U] [27, 28] aig_leading_1_p4 aig_leading_1_p5]
abbrev ledH3 (g : Gr) (v : List Bool) (rest : Ob) (x y : Nat) : List Ob := ledH g v ++ [rest, .cells [.list false g.ka (List.map ePr g.ands)], .dfr true,
        .loop .busy .none n_aig_leading_1 [U, .ptr 3 0, .ptr 4 0, .ptr 7 0, U, U, U, U, U, U, U, U, U, U, U, U, U, U, U, U, U, U, U, U, U, U, U, U, U, U, U, U, U, U, U, U, U, U, U, U, U, U, U, U, U, U, U, U, U, U] [27, 28] aig_leading_1_p4 aig_leading_1_p5,
        .cells [.int .i64 x, .int .i64 y]]
/-- What is yielded is marked. -/
theorem r_led6 (g : Gr) (v : List Bool) (hv : v.length = g.all) (rest : Ob) (x y z : Nat) (hz : z / 2 < g.all) (hz2 : (z : Int) < 2 ^ 40) : ∀ up, AM.Reach Try.prog Γ ((Cal.yl 6).cfg [.int .i64 z] up (ledH3 g v rest x y)) (.back up (.bool true) (ledH3 g (v.set (z / 2) true) rest x y)) := by
  intro up
  simp
  refine .goB 60 ?_
  simp (disch := omega) [hv, hz, -Int.natCast_ediv, -Int.natCast_emod, -Int.natCast_add]
set_option maxRecDepth 8000 in
/-- Ands, the last one first. -/
theorem f_ledA (g : Gr) (ok : g.Ok) (L : List Int) : ∀ i : Nat, i ≤ g.ands.length → ∀ v : List Bool, v.length = g.all →
    Fins Try.prog Γ (slices_Backward_2_int_2_int_1_L0 (.yld 11) (.ptr 9 0) (.int .i64 ((i : Int) - 1)) (ledH2 g v (.row 1 t_int (L.map i64) none true false)) ⟨[], .norm, 12, ledUp2 g⟩) (.ret (.own 1 t_bool ((backM g.ands g.first i v).map .bool))) := by
  have o1 := ok.ins
  have o3 := ok.sum
  have hf := p_aig_first (Γ := Γ) g o1.1 o1.2 (by omega)
  intro i
  induction i with
  | zero =>
    intro hi v hv
    refine .go 60 ?_
    simp
    exact .back (by simp [backM, hv])
  | succ i ih =>
    intro hi v hv
    have q1 : i < g.ands.length := by omega
    have e0 : ((i + 1 : Nat) : Int) - 1 = i := by omega
    rw [e0]
    obtain ⟨⟨b1, b2⟩, b3, b4⟩ := ok.ands i q1
    obtain ⟨x, hx⟩ := Int.eq_ofNat_of_zero_le b1
    obtain ⟨y, hy⟩ := Int.eq_ofNat_of_zero_le b3
    have q2 := eq_true (g.ha.of q1)
    refine .go 60 ?_
    simp (disch := omega) [q1, q2, setAll]
    refine .dr 60 ?_
    simp (disch := omega) [q1, q2]
    refine .call (by simp) hf ?_
    have e1 : (g.first : Int) + i = ((g.first + i : Nat) : Int) := by omega
    have q3 : g.first + i < v.length := by rw [hv]; unfold Gr.all; omega
    have q4 : g.first + i < g.all := by omega
    have hfb : g.first ≤ 8001 := by unfold Gr.first; omega
    have q5 : x / 2 < g.all := by omega
    have q6 : y / 2 < g.all := by omega
    rw [backM, List.getD_eq_getElem?_getD, List.getElem?_eq_getElem q3, Option.getD_some, List.getD_eq_getElem?_getD, List.getElem?_eq_getElem q1, Option.getD_some, hx, hy]
    simp only [Int.toNat_natCast]
    by_cases hb : v[g.first + i] = true
    · rw [if_pos hb]
      have hh := ih (by omega) ((v.set (x / 2) true).set (y / 2) true) (by simp [hv])
      simp (disch := omega) [e1, q3, q4, hb, hv, hx, hy, q5, -Int.natCast_ediv, -Int.natCast_emod, -Int.natCast_add]
      have k1 := r_led6 (Γ := Γ) g v hv (.row 1 t_int (L.map i64) none true false) x y x q5 (by omega)
      have k2 := r_led6 (Γ := Γ) g (v.set (x / 2) true) (by simp [hv]) (.row 1 t_int (L.map i64) none true false) x y y q6 (by omega)
      refine .go (.bool true) (ledH3 g (v.set (x / 2) true) (.row 1 t_int (L.map i64) none true false) x y) k1 ?_
      simp (disch := omega) [hb, hv, hx, hy, q5, q6, -List.map_set, -Int.natCast_ediv, -Int.natCast_emod, -Int.natCast_add]
      refine .go (.bool true) (ledH3 g ((v.set (x / 2) true).set (y / 2) true) (.row 1 t_int (L.map i64) none true false) x y) k2 ?_
      simp (disch := omega) [hb, hv, hx, hy, q5, q6, -List.map_set, -Int.natCast_ediv, -Int.natCast_emod, -Int.natCast_add]
      refine .reLoop ?_
      simp
      refine .drop 12 rfl (by simp) (by simp) (by simp ) ?_
      simp [e0] at hh ⊢
      exact hh
    · rw [if_neg hb]
      have hh := ih (by omega) v hv
      simp (disch := omega) [e1, q3, q4, hb, hv, -Int.natCast_add]
      refine .reLoop ?_
      simp
      refine .drop 12 rfl (by simp) (by simp) (by simp ) ?_
      simp [e0] at hh ⊢
      exact hh
set_option maxRecDepth 8000 in
theorem f_ledB (g : Gr) (ok : g.Ok) (v0 : List Bool) (hv0 : v0.length = g.all) (L : List Int) : Fins Try.prog Γ (aig_leading_1_E8 (.ptr 3 0) (.ptr 4 0) (.ptr 7 0) (ledH g v0 ++ [.row 1 t_int (L.map i64) none true false]) ⟨[], .norm, 7, ledUp g⟩) (.ret (.own 1 t_bool ((backM g.ands g.first g.ands.length v0).map .bool))) := by
  have o3 := ok.sum
  have o1 := ok.ins
  refine .go 60 ?_
  simp
  refine .enter 60 c_slices_Backward_2_int_2_int ?_
  simp
  refine .enter 60 c_slices_Backward_2_int_2_int_1 ?_
  simp (disch := omega)
  refine .inLoop ?_
  have hh := f_ledA (Γ := Γ) g ok L g.ands.length (by omega) v0 hv0
  simp at hh ⊢
  exact hh

set_option maxRecDepth 8000 in
theorem f_led (g : Gr) (ok : g.Ok) : Fins Try.prog Γ (.fr ⟨.run, n_aig_led, [.ops [], .code (.seq (.seq (.reg aig_led_p5) (.block 0 [] aig_led_p4)) (.seq (.reg aig_led_p0) .ret))],
    [eGr g, .ptr 0 0, U, .ptr 2 0, U, U, U, U, U, U, U, U, U, U, U, U, U, U, U, U, U], [], .norm, 0⟩ [] [cellG g, .row 1 t_bool (List.replicate g.all (.bool false)) none true false, .cells [.sl 1 0 g.all]]) (.ret (.own 1 t_bool (g.led.map .bool))) := by
  have o1 := ok.ins
  have o3 := ok.sum
  refine .go 60 ?_
  simp
  refine .enter 60 c_aig_leading ?_
  simp
  refine .enter 60 c_aig_leading_1 ?_
  simp
  have hcat := g_slices_Concat_int_int (Γ := Γ) [(g.kn, g.next), (g.ko, g.outs)] (by
    intro x hx
    simp only [List.mem_cons, List.not_mem_nil, or_false] at hx
    rcases hx with rfl | rfl
    · exact g.hn
    · exact g.ho) (by simp) (by simp [catI]; have := ok.outsL; omega)
  simp [catI] at hcat
  refine .call 60 (by simp) hcat ?_
  simp
  refine .inLoop ?_
  have hL : ∀ a ∈ g.next ++ g.outs, 0 ≤ a ∧ a < (g.lits : Int) := by
    intro a ha
    rcases List.mem_append.1 ha with ha | ha
    · exact ok.next a ha
    · exact ok.outs a ha
  have hh := f_led8 (Γ := Γ) g ok (g.next ++ g.outs) hL (by simp; have := ok.outsL; omega) (List.replicate g.all false) (by simp)
    (f_ledB g ok _ (by rw [markL_len]; simp) _) (g.next ++ g.outs).length 0 (by omega) _ rfl
  simp [markL] at hh ⊢
  exact hh

set_option maxRecDepth 20000 in
set_option maxHeartbeats 2000000 in
theorem p_aig_led (g : Gr) (ok : g.Ok) : PureCon Try.prog Γ n_aig_led [eGr g] (.own 1 t_bool (g.led.map .bool)) := by
  have o1 := ok.ins
  have o3 := ok.sum
  refine .run 60 c_aig_led (by simp) ?_
  simp
  refine .ogO 60 ?_
  simp only [List.length_cons, List.length_nil, Nat.zero_add, Nat.reduceAdd, ledO_eq]
  have hf := p_aig_first (Γ := Γ) g o1.1 o1.2 (by omega)
  have e1 : (g.first : Int) + g.ands.length = (g.all : Int) := by unfold Gr.all; omega
  have hall : g.all ≤ 12001 := by unfold Gr.all Gr.first; omega
  have hgen := f_led (Γ := Γ) g ok
  intro l hl
  simp only [List.mem_cons, List.not_mem_nil, or_false] at hl
  rcases hl with rfl | rfl | rfl | rfl | rfl | rfl | rfl | rfl | rfl | rfl | rfl | rfl | rfl | rfl | rfl | rfl | rfl | rfl | rfl | rfl | rfl | rfl | rfl | rfl | rfl | rfl | rfl | rfl | rfl | rfl | rfl | rfl | rfl | rfl | rfl | rfl | rfl | rfl | rfl | rfl | rfl | rfl | rfl | rfl | rfl | rfl | rfl | rfl | rfl | rfl | rfl | rfl | rfl | rfl | rfl | rfl | rfl | rfl | rfl | rfl | rfl | rfl | rfl | rfl | rfl | rfl | rfl | rfl | rfl | rfl | rfl | rfl | rfl | rfl | rfl | rfl | rfl | rfl | rfl | rfl
  all_goals
    simp
    refine .callO 60 (by simp) hf ?_
    simp (disch := (first | omega | (simp; omega))) [e1]
    refine .clrs [2,5,6,7,8,9,10,11] ?_
    simp
    first
      | (refine .gc 1 [1,2] (by simp) (by decide) ?_; simp; exact hgen)
      | (refine .gc 1 [3,1] (by simp) (by decide) ?_; simp; exact hgen)
end Go.Proofs.Ytdmedcdloeljeaa
/- Graphs that grow: two literals' literal. -/
namespace Go.Proofs.Ytdmedcdloeljeaa
open Go.AM Go.Proofs
variable {Γ : Nat → Option AV}
set_option linter.unusedSimpArgs false
set_option linter.unusedVariables false

/-- The graph with other ands. -/
abbrev Gr.ofA (g : Gr) (l : List (Int × Int)) : Gr := { g with ands := l, ka := 2, ha := .self }
@[simp] theorem Gr.ofA_first (g : Gr) (l : List (Int × Int)) : (g.ofA l).first = g.first := rfl
theorem xor1_eq {p q : Nat} (h : q ≤ p) : p ^^^ 1 = q ↔ (p ≠ q ∧ p / 2 = q / 2) := by
  have h1 := xor1_mod p
  have h2 := xor1_div p
  constructor
  · rintro rfl; omega
  · intro h3; omega
@[simp] theorem maxA_nat (a b : Nat) : maxA (.int .i64 (a : Int)) [.int .i64 (b : Int)] = some (.int .i64 ((max a b : Nat) : Int)) := by
  simp only [maxA, if_true]; congr 2; split <;> omega
@[simp] theorem minA_nat (a b : Nat) : minA (.int .i64 (a : Int)) [.int .i64 (b : Int)] = some (.int .i64 ((min a b : Nat) : Int)) := by
  simp only [minA, if_true]; congr 2; split <;> omega
/-- A builder's cells. -/
abbrev bldX (g : Gr) (x1 x2 x4 : AV) (r n m : Nat) (come : AV) : Ob := .cells [.int .i64 g.ins, x1, x2, .sl r 0 n, x4, .mp m, come]
section

set_option maxRecDepth 8000 in
/-- What two literals come to of themselves. -/
theorem r_andK (a b c : Nat) (ha : a < 2 ^ 20) (hb : b < 2 ^ 20) (hk : andK (max a b) (min a b) = some c) (pb : AV) (h : List Ob) : ∀ up, AM.Reach Try.prog Γ (.cl n_aig_builder_and [pb, .int .i64 a, .int .i64 b] up h) (.back up (.int .i64 c) h) := by
  intro up
  have hle : min a b ≤ max a b := by omega
  have hM : max a b < 2 ^ 20 := by omega
  generalize hM' : max a b = M at *
  generalize hm' : min a b = m at *
  refine .enterB 60 c_aig_builder_and ?_
  unfold andK at hk
  have hx := xor1_nat M
  by_cases c1 : m = 0
  · subst c1
    simp at hk
    subst hk
    simp [hM', hm']
  · by_cases c2 : M ^^^ 1 = m
    · rw [if_pos (Or.inr c2)] at hk
      cases hk
      have c3 : ((M ^^^ 1 : Nat) : Int) = m := by omega
      simp (disch := omega) [hM', hm', c1, c3, c2]
    · rw [if_neg (by simp [c1, c2])] at hk
      have c3 : ¬ ((M ^^^ 1 : Nat) : Int) = m := by omega
      by_cases c4 : m = 1
      · rw [if_pos (Or.inl c4)] at hk
        cases hk
        have c5 : ((m : Int) = 1) = True := eq_true (by omega)
        simp (disch := omega) [hM', hm', c1, c3, c2, c5]
      · by_cases c6 : M = m
        · rw [if_pos (Or.inr c6)] at hk
          cases hk
          subst c6
          have c5 : ((c : Int) = 1) = False := eq_false (by omega)
          simp (disch := omega) [hM', hm', c1, c3, c2, c5]
        · rw [if_neg (by simp [c4, c6])] at hk
          cases hk

end
section
variable {p q : List Ob} {x1 x2 x4 come : AV}
theorem andK_none {p q : Nat} (h : andK p q = none) : q ≠ 0 ∧ p ^^^ 1 ≠ q ∧ q ≠ 1 ∧ p ≠ q := by
  unfold andK at h
  split at h
  · cases h
  · split at h
    · cases h
    · omega

set_option maxRecDepth 8000 in
/-- An and that is there, or a new one. -/
theorem r_andN (g : Gr) (hi : 0 ≤ g.ins ∧ g.ins ≤ 4000) (hn : g.next.length ≤ 4000) (l : List (Int × Int)) (hl : l.length < 2 ^ 20) (es : List ((Int × Int) × Nat)) (he : Ents g.first l es) (a b : Nat) (ha : a < 2 ^ 20) (hb : b < 2 ^ 20) (hk : andK (max a b) (min a b) = none)
    (hx1 : ∀ s, view (p ++ s) x1 = some (.list false g.kn (g.next.map i64))) (hx2 : ∀ s, view (p ++ s) x2 = some (.list false g.ki (g.init.map i64))) (hx4 : ∀ s, view (p ++ s) x4 = some (.list false g.ko (g.outs.map i64))) :
    ∀ up, AM.Reach Try.prog Γ (.cl n_aig_builder_and [.ptr (p.length + 1) 0, .int .i64 a, .int .i64 b] up (p ++ .map (es.map eEnt) true :: bldX g x1 x2 x4 (p.length + 2) l.length p.length come :: .row 2 t_2_int_2 (l.map ePr) none true false :: q))
      (match findE (((max a b : Nat) : Int), ((min a b : Nat) : Int)) es with
        | some c => .back up (.int .i64 c) (p ++ .map (es.map eEnt) true :: bldX g x1 x2 x4 (p.length + 2) l.length p.length come :: .row 2 t_2_int_2 (l.map ePr) none true false :: (q ++ [.cells [.int .i64 ((max a b : Nat) : Int), .int .i64 ((min a b : Nat) : Int)]]))
        | none => .back up (.int .i64 (2 * (g.first + l.length) : Nat)) (p ++ .map ((es ++ [((((max a b : Nat) : Int), ((min a b : Nat) : Int)), 2 * (g.first + l.length))]).map eEnt) true :: bldX g x1 x2 x4 (p.length + 2) (l.length + 1) p.length come ::
            .row 2 t_2_int_2 ((l ++ [(((max a b : Nat) : Int), ((min a b : Nat) : Int))]).map ePr) (some 0) true false :: (q ++ [.cells [.int .i64 ((max a b : Nat) : Int), .int .i64 ((min a b : Nat) : Int)]]))) := by
  intro up
  obtain ⟨k1, k2, k3, k4⟩ := andK_none hk
  have hle : min a b ≤ max a b := by omega
  have hM : max a b < 2 ^ 20 := by omega
  generalize hM' : max a b = M at *
  generalize hm' : min a b = m at *
  have hx := xor1_nat M
  have c3 : ¬ ((M ^^^ 1 : Nat) : Int) = m := by omega
  have hfe := findIn_ents ((M : Int), (m : Int)) es
  have c5 : ((m : Int) = 1) = False := eq_false (by omega)
  have c7 : ((M : Int) = m) = False := eq_false (by omega)
  cases hf : findE ((M : Int), (m : Int)) es with
  | some c =>
    rw [hf] at hfe
    have hfe : findIn (.strct [.int, .int]) (.agg [.int .i64 M, .int .i64 m]) (es.map eEnt) = some (some (.int .i64 (c : Int))) := hfe
    simp only
    refine .enterB 60 c_aig_builder_and ?_
    simp (disch := omega) [hM', hm', k1, k2, k3, k4, c3, c5, c7, isKey, allDatum, isDatum, hfe]
    refine .goB 60 ?_
    simp [isKey, allDatum, isDatum, hfe]
  | none =>
    rw [hf] at hfe
    simp only
    refine .enterB 60 c_aig_builder_and ?_
    have hfe : findIn (.strct [.int, .int]) (.agg [.int .i64 M, .int .i64 m]) (es.map eEnt) = some none := hfe
    simp (disch := omega) [hM', hm', k1, k2, k3, k4, c3, c5, c7, isKey, allDatum, isDatum, hfe]
    refine .goB 60 ?_
    simp [isKey, allDatum, isDatum, hfe]
    have hf1 := p_aig_first (Γ := Γ) (g.ofA l) hi.1 hi.2 hn
    have hfb : g.first ≤ 8001 := by unfold Gr.first; omega
    have hput := putIn_ents (v := .int .i64 (2 * ((g.first : Int) + l.length))) hf
    refine .drB 60 ?_
    simp
    refine .call (by simp [hx1, hx2, hx4]) hf1 ?_
    simp (disch := omega)
    refine .drB 60 ?_
    simp (disch := (first | omega | (simp; omega))) [isKey, allDatum, isDatum, hput]
    simp [eEnt]
end
end Go.Proofs.Ytdmedcdloeljeaa
/- Graphs: And, of the program. -/
namespace Go.Proofs.Ytdmedcdloeljeaa
open Go.AM Go.Proofs
variable {Γ : Nat → Option AV}
set_option linter.unusedSimpArgs false
set_option linter.unusedVariables false

def gr0 : Gr := ⟨0, [], [], [], [], 0, 0, 0, 0, .nil, .nil, .nil, .nil⟩
/-- What And says is wrong. -/
def Gr.andE (g : Gr) (a b : Int) : Int := if g.check ≠ 0 then g.check else if litB g.lits a = true ∨ litB g.lits b = true then 1 else if 4000 < g.ins + g.next.length + (andG g.first g.ands a.toNat b.toNat).1.length then 8 else 0
/-- The graph, and the literal. -/
def Gr.andR (g : Gr) (a b : Int) : Gr := if g.andE a b = 0 then g.ofA (andG g.first g.ands a.toNat b.toNat).1 else gr0
def Gr.andC (g : Gr) (a b : Int) : Nat := if g.andE a b = 0 then (andG g.first g.ands a.toNat b.toNat).2 else 0
theorem andG_len (first : Nat) (l : List (Int × Int)) (a b : Nat) : (andG first l a b).1.length ≤ l.length + 1 := by
  unfold andG
  split
  · simp
  · split <;> simp
theorem ents_find {first : Nat} {l : List (Int × Int)} {es : List ((Int × Int) × Nat)} (h : Ents first l es) {a b : Nat} (hk : andK (max a b) (min a b) = none) :
    andG first l a b = match findE (((max a b : Nat) : Int), ((min a b : Nat) : Int)) es with
      | some c => (l, c)
      | none => (l ++ [(((max a b : Nat) : Int), ((min a b : Nat) : Int))], 2 * (first + l.length)) := by
  unfold andG
  rw [hk, h]
  cases idxP (((max a b : Nat) : Int), ((min a b : Nat) : Int)) l 0 <;> rfl
/-- Only its size may be wrong behind And. -/
theorem check_and {g : Gr} (ok : g.Ok) (l : List (Int × Int)) (h1 : g.ands.length ≤ l.length) : ((g.ofA l).check = 8) ↔ 4000 < g.ins + g.next.length + l.length := by
  have o1 := ok.ins
  have o2 := ok.outsL
  unfold Gr.check Gr.lim
  simp only [Gr.ofA]
  by_cases h : 4000 < g.ins + g.next.length + (l.length : Int)
  · simp [h]
  · have h2 : (decide (g.ins < 0) || decide (4000 < g.ins) || decide (4000 < g.ins + ↑g.next.length + ↑l.length) || decide (4000 < g.outs.length)) = false := by simp; omega
    rw [if_neg (by rw [h2]; simp)]
    simp only [h, iff_false]
    split <;> omega

theorem p_aig_firstW (g : Gr) : PureCon Try.prog Γ n_aig_first [eGr g] (.int .i64 (IntKind.i64.wrap (IntKind.i64.wrap (1 + g.ins) + g.next.length))) := by
  refine .run 60 c_aig_first (by simp) ?_
  simp
  exact .back (by simp)
theorem bad_lit {g : Gr} {a : Int} (h : litB g.lits a = false) : 0 ≤ a ∧ a.toNat < g.lits ∧ (a.toNat : Int) = a := by
  simp [litB] at h; omega
set_option maxRecDepth 8000 in
theorem p_aig_And (g : Gr) (hf : g.few) (a b : Int) : PureCon Try.prog Γ n_aig_And [eGr g, .int .i64 a, .int .i64 b] (.tup [eGr (g.andR a b), .int .i64 (g.andC a b), .int .i64 (g.andE a b)]) := by
  refine .run 60 c_aig_And (by simp) ?_
  simp
  refine .call 60 (by simp) (p_aig_Check g hf) ?_
  simp
  refine .dr 60 ?_
  simp
  refine .call (by simp) (p_aig_firstW g) ?_
  by_cases hc : g.check = 0
  · have ok := Gr.ok_of hc
    have o1 := ok.ins
    have o3 := ok.sum
    have o4 := ok.outsL
    have e1 : IntKind.i64.wrap (IntKind.i64.wrap (1 + g.ins) + g.next.length) = (g.first : Int) := by
      rw [wrap64 (n := 1 + g.ins) (by omega) (by omega), wrap64 (by omega) (by omega)]; unfold Gr.first; omega
    have hfb : g.first ≤ 8001 := by unfold Gr.first; omega
    have hall : g.all ≤ 12001 := by unfold Gr.all; omega
    have e2 : (2 * ((g.first : Int) + g.ands.length)) = (g.lits : Int) := by unfold Gr.lits Gr.all; omega
    rw [e1]
    by_cases h1 : litB g.lits a = true ∨ litB g.lits b = true
    · have k1 : g.andE a b = 1 := by unfold Gr.andE; rw [if_neg (by simp [hc]), if_pos h1]
      have k2 : g.andR a b = gr0 := by unfold Gr.andR; rw [k1, if_neg (by omega)]
      have k3 : g.andC a b = 0 := by unfold Gr.andC; rw [k1, if_neg (by omega)]
      rw [k1, k2, k3]
      simp only [litB, Bool.or_eq_true, decide_eq_true_eq] at h1
      by_cases q1 : a < 0
      · simp (disch := omega) [hc, e2, q1, gr0]
        exact .back (by simp)
      · by_cases q2 : b < 0
        · simp (disch := omega) [hc, e2, q1, q2, gr0]
          exact .back (by simp)
        · by_cases q3 : (g.lits : Int) ≤ a
          · simp (disch := omega) [hc, e2, q1, q2, q3, gr0]
            exact .back (by simp)
          · have q4 : (g.lits : Int) ≤ b := by omega
            simp (disch := omega) [hc, e2, q1, q2, q3, q4, gr0]
            exact .back (by simp)
    · rw [not_or] at h1
      obtain ⟨a1, a2, a3⟩ := bad_lit (Bool.eq_false_iff.2 h1.1)
      obtain ⟨b1, b2, b3⟩ := bad_lit (Bool.eq_false_iff.2 h1.2)
      have hlit : g.lits = 2 * g.all := rfl
      generalize hx : a.toNat = x at *
      generalize hy : b.toNat = y at *
      subst a3
      subst b3
      have q1 : ¬ ((g.lits : Int) ≤ x) := by omega
      have q2 : ¬ ((g.lits : Int) ≤ y) := by omega
      simp (disch := omega) [hc, e2, q1, q2]
      refine .rcall 60 (r_build g ok hf.2.2.1 _ (by intro m hm; simp at hm ⊢; omega)) ?_
      simp
      have hE0 : g.andE (x : Int) (y : Int) = if 4000 < g.ins + g.next.length + (andG g.first g.ands x y).1.length then 8 else 0 := by
        unfold Gr.andE
        rw [if_neg (by simp [hc]), if_neg (by rw [not_or]; exact h1), Int.toNat_natCast, Int.toNat_natCast]
      cases hK : andK (max x y) (min x y) with
      | some c =>
        have hG : andG g.first g.ands x y = (g.ands, c) := by unfold andG; rw [hK]
        have hE := hE0
        rw [hG] at hE
        refine .rcall 60 (r_andK x y c (by omega) (by omega) hK _ _) ?_
        simp
        refine .call 60 (by simp) (p_aig_Check (Γ := Γ) (g.ofA g.ands) ⟨hf.1, hf.2.1, by first | exact hf.2.2.1 | (simp; have := hf.2.2.1; omega), hf.2.2.2⟩) ?_
        by_cases q8 : (g.ofA g.ands).check = 8
        · have k1 := hE
          rw [if_pos ((check_and ok g.ands (by simp)).1 q8)] at k1
          have k2 : g.andR (x : Int) (y : Int) = gr0 := by unfold Gr.andR; rw [k1, if_neg (by omega)]
          have k3 : g.andC (x : Int) (y : Int) = 0 := by unfold Gr.andC; rw [k1, if_neg (by omega)]
          rw [k1, k2, k3]
          simp [q8, gr0]
          exact .back (by simp)
        · have k1 := hE
          rw [if_neg (fun hh => q8 ((check_and ok g.ands (by simp)).2 hh))] at k1
          have k2 : g.andR (x : Int) (y : Int) = g.ofA g.ands := by unfold Gr.andR; rw [k1, if_pos rfl]; simp [hG]
          have k3 : (g.andC (x : Int) (y : Int) : Int) = (andG g.first g.ands x y).2 := by unfold Gr.andC; rw [k1, if_pos rfl]; simp
          rw [k1, k2, k3, hG]
          simp [q8]
          exact .back (by simp)
      | none =>
        have hG := ents_find g.ents_ok hK
        have hE := hE0
        have key := r_andN (Γ := Γ) (p := [cellG g, .cells [.int .i64 0, .sl 2 0 0, .sl 3 0 0, .sl 4 0 0, .sl 5 0 0], .row 1 t_int [] none true false, .row 1 t_int [] none true false, .row 2 t_2_int_2 [] none true false, .row 1 t_int [] none true false, cellG g]) (q := [])
          (x1 := .list false g.kn (g.next.map i64)) (x2 := .list false g.ki (g.init.map i64)) (x4 := .list false g.ko (g.outs.map i64)) (come := .list true 0 []) g o1 (by omega) g.ands (by omega) g.ents g.ents_ok x y (by omega) (by omega) hK (fun s => by simp) (fun s => by simp) (fun s => by simp)
        cases hF : findE (((max x y : Nat) : Int), ((min x y : Nat) : Int)) g.ents with
        | some c =>
          rw [hF] at hG key
          simp only at hG key
          rw [hG] at hE
          simp at key
          refine .rcall 60 key ?_
          simp
          refine .call 60 (by simp) (p_aig_Check (Γ := Γ) (g.ofA g.ands) ⟨hf.1, hf.2.1, by first | exact hf.2.2.1 | (simp; have := hf.2.2.1; omega), hf.2.2.2⟩) ?_
          by_cases q8 : (g.ofA g.ands).check = 8
          · have k1 := hE
            rw [if_pos ((check_and ok g.ands (by simp)).1 q8)] at k1
            have k2 : g.andR (x : Int) (y : Int) = gr0 := by unfold Gr.andR; rw [k1, if_neg (by omega)]
            have k3 : g.andC (x : Int) (y : Int) = 0 := by unfold Gr.andC; rw [k1, if_neg (by omega)]
            rw [k1, k2, k3]
            simp [q8, gr0]
            exact .back (by simp)
          · have k1 := hE
            rw [if_neg (fun hh => q8 ((check_and ok g.ands (by simp)).2 hh))] at k1
            have k2 : g.andR (x : Int) (y : Int) = g.ofA g.ands := by unfold Gr.andR; rw [k1, if_pos rfl]; simp [hG]
            have k3 : (g.andC (x : Int) (y : Int) : Int) = (andG g.first g.ands x y).2 := by unfold Gr.andC; rw [k1, if_pos rfl]; simp
            rw [k1, k2, k3, hG]
            simp [q8]
            exact .back (by simp)
        | none =>
          rw [hF] at hG key
          simp only at hG key
          rw [hG] at hE
          simp at key
          refine .rcall 60 key ?_
          generalize hnew : (((max x y : Nat) : Int), ((min x y : Nat) : Int)) = new at *
          simp
          refine .call 60 (by simp; rw [List.take_of_length_le (by simp)]) (p_aig_Check (Γ := Γ) (g.ofA (g.ands ++ [new])) ⟨hf.1, hf.2.1, by first | exact hf.2.2.1 | (simp; have := hf.2.2.1; omega), hf.2.2.2⟩) ?_
          by_cases q8 : (g.ofA (g.ands ++ [new])).check = 8
          · have k1 := hE
            rw [if_pos ((check_and ok (g.ands ++ [new]) (by simp)).1 q8)] at k1
            have k2 : g.andR (x : Int) (y : Int) = gr0 := by unfold Gr.andR; rw [k1, if_neg (by omega)]
            have k3 : g.andC (x : Int) (y : Int) = 0 := by unfold Gr.andC; rw [k1, if_neg (by omega)]
            rw [k1, k2, k3]
            simp [q8, gr0]
            exact .back (by simp)
          · have k1 := hE
            rw [if_neg (fun hh => q8 ((check_and ok (g.ands ++ [new]) (by simp)).2 hh))] at k1
            have k2 : g.andR (x : Int) (y : Int) = g.ofA (g.ands ++ [new]) := by unfold Gr.andR; rw [k1, if_pos rfl]; simp [hG]
            have k3 : (g.andC (x : Int) (y : Int) : Int) = (andG g.first g.ands x y).2 := by unfold Gr.andC; rw [k1, if_pos rfl]; simp
            rw [k1, k2, k3, hG]
            simp [q8]
            exact .back (by simp; rw [List.take_of_length_le (by simp)])
  · have h1 : g.andE a b = g.check := by unfold Gr.andE; rw [if_pos hc]
    have h2 : g.andR a b = gr0 := by unfold Gr.andR; rw [h1, if_neg hc]
    have h3 : g.andC a b = 0 := by unfold Gr.andC; rw [h1, if_neg hc]
    simp [hc, h1, h2, h3, gr0]
    exact .back (by simp)
end Go.Proofs.Ytdmedcdloeljeaa
/- Graphs that grow: what literals have come to. -/
namespace Go.Proofs.Ytdmedcdloeljeaa
open Go.AM Go.Proofs
variable {Γ : Nat → Option AV}
set_option linter.unusedSimpArgs false
set_option linter.unusedVariables false

/-- Two literals' literal, whichever way. -/
theorem r_and {p q : List Ob} {x1 x2 x4 come : AV} (g : Gr) (hi : 0 ≤ g.ins ∧ g.ins ≤ 4000) (hn : g.next.length ≤ 4000) (l : List (Int × Int)) (hl : l.length < 2 ^ 20) (es : List ((Int × Int) × Nat)) (he : Ents g.first l es) (a b : Nat) (ha : a < 2 ^ 20) (hb : b < 2 ^ 20)
    (hx1 : ∀ s, view (p ++ s) x1 = some (.list false g.kn (g.next.map i64))) (hx2 : ∀ s, view (p ++ s) x2 = some (.list false g.ki (g.init.map i64))) (hx4 : ∀ s, view (p ++ s) x4 = some (.list false g.ko (g.outs.map i64))) :
    ∃ (es' : List ((Int × Int) × Nat)) (gr : Option Nat) (junk : List Ob), Ents g.first (andG g.first l a b).1 es' ∧ (gr = none ∨ gr = some 0) ∧ (junk = [] ∨ ∃ x y : Int, junk = [.cells [.int .i64 x, .int .i64 y]]) ∧
    ∀ up, AM.Reach Try.prog Γ (.cl n_aig_builder_and [.ptr (p.length + 1) 0, .int .i64 a, .int .i64 b] up (p ++ .map (es.map eEnt) true :: bldX g x1 x2 x4 (p.length + 2) l.length p.length come :: .row 2 t_2_int_2 (l.map ePr) none true false :: q))
      (.back up (.int .i64 ((andG g.first l a b).2 : Nat)) (p ++ .map (es'.map eEnt) true :: bldX g x1 x2 x4 (p.length + 2) (andG g.first l a b).1.length p.length come :: .row 2 t_2_int_2 ((andG g.first l a b).1.map ePr) gr true false :: (q ++ junk))) := by
  cases hK : andK (max a b) (min a b) with
  | some c =>
    have hG : andG g.first l a b = (l, c) := by unfold andG; rw [hK]
    rw [hG]
    exact ⟨es, none, [], he, .inl rfl, .inl rfl, fun up => by rw [List.append_nil]; exact r_andK a b c ha hb hK _ _ up⟩
  | none =>
    have hG := ents_find he hK
    have key := r_andN (Γ := Γ) (p := p) (q := q) (come := come) g hi hn l hl es he a b ha hb hK hx1 hx2 hx4
    cases hF : findE (((max a b : Nat) : Int), ((min a b : Nat) : Int)) es with
    | some c =>
      rw [hF] at hG key
      simp only at hG key
      rw [hG]
      exact ⟨es, none, _, he, .inl rfl, .inr ⟨((max a b : Nat) : Int), ((min a b : Nat) : Int), rfl⟩, key⟩
    | none =>
      rw [hF] at hG key
      simp only at hG key
      rw [hG]
      refine ⟨_, some 0, _, ents_new he hF, .inr rfl, .inr ⟨((max a b : Nat) : Int), ((min a b : Nat) : Int), rfl⟩, fun up => ?_⟩
      have := key up
      simp only [List.length_append, List.length_cons, List.length_nil, Nat.zero_add]
      exact this

theorem xor_bit {x a : Nat} (hx : (x : Int) < 2 ^ 60) : binI .xor .i64 (x : Int) ((a % 2 : Nat) : Int) = some ((x ^^^ (a % 2) : Nat) : Int) := by
  rcases (show a % 2 = 0 ∨ a % 2 = 1 by omega) with h | h
  · rw [h, Nat.xor_zero]
    have h1 : (BitVec.ofInt 64 (x : Int) ^^^ BitVec.ofInt 64 ((0 : Nat) : Int)).toNat = x := by
      have e1 : BitVec.ofInt 64 ((0 : Nat) : Int) = 0#64 := by decide
      rw [e1, BitVec.xor_zero, BitVec.toNat_ofInt]
      omega
    show some (IntKind.i64.wrap ((BitVec.ofInt 64 (x : Int) ^^^ BitVec.ofInt 64 ((0 : Nat) : Int)).toNat : Int)) = _
    rw [h1, wrapN (by omega)]
  · rw [h]
    exact xor1 x hx
abbrev iN (n : Nat) : AV := .int .i64 (n : Int)
/-- What a literal has come to. -/
def bec (to : List Nat) (a : Nat) : Nat := to.getD (a / 2) 0 ^^^ (a % 2)
def becs (to : List Nat) (l : List Int) : List Nat := l.map fun a => bec to a.toNat
@[simp] theorem becs_len (to : List Nat) (l : List Int) : (becs to l).length = l.length := by simp [becs]
theorem becs_take {to : List Nat} {l : List Int} {i : Nat} (h : i < l.length) : becs to (l.take (i + 1)) = becs to (l.take i) ++ [bec to l[i].toNat] := by
  rw [List.take_succ_eq_append_getElem h]; simp only [becs, List.map_append, List.map_cons, List.map_nil]

section
variable {c0 c1 c2 c3 c4 c5 : AV}
/-- One literal, at any memory. -/
theorem r_came (to : List Nat) (hto : ∀ x ∈ to, x < 2 ^ 40) (a : Nat) (h1 : a / 2 < to.length) (ha : (a : Int) < 2 ^ 60) (b r : Nat) {E : TypeId} {gr : Option Nat} {fl sh : Bool} {h : List Ob} (hb : h[b]? = some (.cells [c0, c1, c2, c3, c4, c5, .sl r 0 to.length])) (hr : h[r]? = some (.row 1 E (to.map iN) gr fl sh)) (hok : okSl (to.map iN) gr 0 to.length = true) :
    ∀ up, AM.Reach Try.prog Γ (.cl n_aig_builder_came [.ptr b 0, .int .i64 a] up h) (.back up (.int .i64 (bec to a)) h) := by
  intro up
  have h3 : ((a / 2 : Nat) : Int) < to.length := by omega
  have h4 := hto _ (List.getElem_mem h1)
  have h5 : to.getD (a / 2) 0 = to[a / 2] := by rw [List.getD_eq_getElem?_getD, List.getElem?_eq_getElem h1]; rfl
  have h6 := xor_bit (x := to[a / 2]) (a := a) (by omega)
  refine .enterB 60 c_aig_builder_came ?_
  unfold bec
  rw [h5]
  simp (disch := omega) [-Int.natCast_ediv, -Int.natCast_emod, -okSl, hok, hb, hr, h1, h3, h6]
end

set_option maxRecDepth 8000 in
/-- Literals, one after the other. -/
theorem r_all (to : List Nat) (hto : ∀ x ∈ to, x < 2 ^ 40) (l : List Int) {k : Nat} (hk : Kd 1 k l) (hl : l.length < 2 ^ 40) (hlt : ∀ a ∈ l, 0 ≤ a ∧ a < 2 * to.length) (hbt : to.length < 2 ^ 40) {c0 c1 c2 c3 c4 c5 : AV} (b r : Nat) {E : TypeId} {h : List Ob} (hb : h[b]? = some (.cells [c0, c1, c2, c3, c4, c5, .sl r 0 to.length])) (hr : h[r]? = some (.row 1 E (to.map iN) none true false))
    (hv : ∀ m, vldH (h.length + 1) m h = true) :
    ∀ up, AM.Reach Try.prog Γ (.cl n_aig_builder_all [.ptr b 0, .list false k (l.map i64)] up h) (.back up (.sl (h.length + 1) 0 l.length) (h ++ [.row 1 t_int [] none true false, .row 1 t_int ((becs to l).map iN) none true false])) := by
  intro up
  have hb' : ∀ os, (h ++ os)[b]? = some (.cells [c0, c1, c2, c3, c4, c5, .sl r 0 to.length]) := fun os => get_app hb os
  have hr' : ∀ os, (h ++ os)[r]? = some (.row 1 E (to.map iN) none true false) := fun os => get_app hr os
  have key : ∀ n j : Nat, j + n = l.length → ∀ w, w = becs to (l.take j) → AM.Reach Try.prog Γ (aig_builder_all_L1 (.sl (h.length + 1) 0 w.length) (.fn (.func n_aig_builder_came) [.ptr b 0] []) (.list false k (l.map i64)) (.int .i64 l.length) (.int .i64 j)
      (h ++ [.row 1 t_int [] none true false, .row 1 t_int (w.map iN) none true false]) ⟨[], .norm, h.length, up⟩) (.back up (.sl (h.length + 1) 0 l.length) (h ++ [.row 1 t_int [] none true false, .row 1 t_int ((becs to l).map iN) none true false])) := by
    intro n
    induction n with
    | zero =>
      intro j hj w hw
      have q1 : ¬ j < l.length := by omega
      rw [List.take_of_length_le (by omega)] at hw
      subst hw
      refine .goB 60 ?_
      simp [q1]
    | succ n ih =>
      intro j hj w hw
      have q1 : j < l.length := by omega
      have q2 := eq_true (hk.of q1)
      obtain ⟨a1, a2⟩ := hlt l[j] (List.getElem_mem q1)
      obtain ⟨x, hx⟩ := Int.eq_ofNat_of_zero_le a1
      have hwl : w.length = j := by rw [hw]; simp; omega
      have hh := ih (j + 1) (by omega) _ rfl
      rw [becs_take q1, ← hw, hx] at hh
      simp only [Int.toNat_natCast] at hh
      have hc := r_came (Γ := Γ) to hto x (by omega) (by omega) b r (hb' [.row 1 t_int [] none true false, .row 1 t_int (w.map iN) none true false]) (hr' _) (by simp)
      refine .goB 60 ?_
      simp (disch := omega) [q1, q2, hx]
      refine .rcall 60 hc ?_
      simp (disch := (first | omega | (simp; omega))) [q1, q2]
      refine .reLoop ?_
      simp
      refine .resetTo (i := h.length + 1) (by simp; exact ⟨rfl, rfl, rfl, rfl, rfl⟩) (by simp) (by simp) (by simp [hv]) ?_
      simp at hh ⊢
      exact hh
  refine .enterB 60 c_aig_builder_all ?_
  simp
  refine .inLoop ?_
  have hh := key l.length 0 (by omega) [] (by simp [becs])
  simp at hh ⊢
  exact hh
set_option maxRecDepth 8000 in
/-- Literals of a row, one after the other. -/
theorem r_allS (to : List Nat) (hto : ∀ x ∈ to, x < 2 ^ 40) (l : List Int) (hl : l.length < 2 ^ 40) (hlt : ∀ a ∈ l, 0 ≤ a ∧ a < 2 * to.length) (hbt : to.length < 2 ^ 40) {c0 c1 c2 c3 c4 c5 : AV} (b r qq : Nat) {E E2 : TypeId} {h : List Ob} (hb : h[b]? = some (.cells [c0, c1, c2, c3, c4, c5, .sl r 0 to.length])) (hr : h[r]? = some (.row 1 E (to.map iN) none true false))
    (hq : h[qq]? = some (.row 1 E2 (l.map i64) none true false)) (hv : ∀ m, vldH (h.length + 1) m h = true) :
    ∀ up, AM.Reach Try.prog Γ (.cl n_aig_builder_all [.ptr b 0, .sl qq 0 l.length] up h) (.back up (.sl (h.length + 1) 0 l.length) (h ++ [.row 1 t_int [] none true false, .row 1 t_int ((becs to l).map iN) none true false])) := by
  intro up
  have hb' : ∀ os, (h ++ os)[b]? = some (.cells [c0, c1, c2, c3, c4, c5, .sl r 0 to.length]) := fun os => get_app hb os
  have hr' : ∀ os, (h ++ os)[r]? = some (.row 1 E (to.map iN) none true false) := fun os => get_app hr os
  have hql : ¬ qq = h.length + 1 := by have := lt_of_get hq; omega
  have hq' : ∀ os, (h ++ os)[qq]? = some (.row 1 E2 (l.map i64) none true false) := fun os => get_app hq os
  have key : ∀ n j : Nat, j + n = l.length → ∀ w, w = becs to (l.take j) → AM.Reach Try.prog Γ (aig_builder_all_L1 (.sl (h.length + 1) 0 w.length) (.fn (.func n_aig_builder_came) [.ptr b 0] []) (.sl qq 0 l.length) (.int .i64 l.length) (.int .i64 j)
      (h ++ [.row 1 t_int [] none true false, .row 1 t_int (w.map iN) none true false]) ⟨[], .norm, h.length, up⟩) (.back up (.sl (h.length + 1) 0 l.length) (h ++ [.row 1 t_int [] none true false, .row 1 t_int ((becs to l).map iN) none true false])) := by
    intro n
    induction n with
    | zero =>
      intro j hj w hw
      have q1 : ¬ j < l.length := by omega
      rw [List.take_of_length_le (by omega)] at hw
      subst hw
      refine .goB 60 ?_
      simp [q1]
    | succ n ih =>
      intro j hj w hw
      have q1 : j < l.length := by omega
      obtain ⟨a1, a2⟩ := hlt l[j] (List.getElem_mem q1)
      obtain ⟨x, hx⟩ := Int.eq_ofNat_of_zero_le a1
      have hwl : w.length = j := by rw [hw]; simp; omega
      have hh := ih (j + 1) (by omega) _ rfl
      rw [becs_take q1, ← hw, hx] at hh
      simp only [Int.toNat_natCast] at hh
      have hc := r_came (Γ := Γ) to hto x (by omega) (by omega) b r (hb' [.row 1 t_int [] none true false, .row 1 t_int (w.map iN) none true false]) (hr' _) (by simp)
      refine .goB 60 ?_
      simp (disch := omega) [q1, hq', hx]
      refine .rcall 60 hc ?_
      simp (disch := (first | omega | (simp; omega))) [q1, hq']
      refine .reLoop ?_
      simp
      refine .resetTo (i := h.length + 1) (by simp; exact ⟨rfl, rfl, rfl, rfl, rfl⟩) (by simp) (by simp [hql]) (by simp [hv]) ?_
      simp at hh ⊢
      exact hh
  refine .enterB 60 c_aig_builder_all ?_
  simp
  refine .inLoop ?_
  have hh := key l.length 0 (by omega) [] (by simp [becs])
  simp at hh ⊢
  exact hh
end Go.Proofs.Ytdmedcdloeljeaa
/- Graphs that grow: the passes of Normal, as functions. No program in sight. -/
namespace Go.Proofs.Ytdmedcdloeljeaa
open Go.AM Go.Proofs
set_option linter.unusedSimpArgs false
set_option linter.unusedVariables false

/-- What a builder's numbers come to at the beginning. -/
def ids (n : Nat) : List Nat := (List.range n).map (2 * ·)
@[simp] theorem ids_len (n : Nat) : (ids n).length = n := by simp [ids]
theorem ids_succ (n : Nat) : ids (n + 1) = ids n ++ [2 * n] := by simp [ids, List.range_succ]
/-- The ands of another graph come, one after the other. -/
def normS (first : Nat) : List (Int × Int) → List (Int × Int) → List Nat → List (Int × Int) × List Nat
  | [], l, to => (l, to)
  | p :: ps, l, to => normS first ps (andG first l (bec to p.1.toNat) (bec to p.2.toNat)).1 (to ++ [(andG first l (bec to p.1.toNat) (bec to p.2.toNat)).2])
/-- So, but for those to which nothing leads. -/
def closS (first : Nat) (led : List Bool) : List (Int × Int) → Nat → List (Int × Int) → List Nat → List (Int × Int) × List Nat
  | [], _, l, to => (l, to)
  | p :: ps, i, l, to =>
    if led.getD (first + i) false = true then closS first led ps (i + 1) (andG first l (bec to p.1.toNat) (bec to p.2.toNat)).1 (to ++ [(andG first l (bec to p.1.toNat) (bec to p.2.toNat)).2])
    else closS first led ps (i + 1) l (to ++ [0])
/-- A builder's graph. -/
def Gr.mk2 (g : Gr) (r : List (Int × Int) × List Nat) : Gr := ⟨g.ins, (becs r.2 g.next).map fun n : Nat => (n : Int), g.init, r.1, (becs r.2 g.outs).map fun n : Nat => (n : Int), 1, 1, 2, 1, .self, .self, .self, .self⟩
def Gr.nor1 (g : Gr) : Gr := g.mk2 (normS g.first g.ands [] (ids g.first))
def Gr.nor2 (x : Gr) : Gr := x.mk2 (closS x.first x.led x.ands 0 [] (ids x.first))
def Gr.normal (g : Gr) : Gr := if g.check = 0 then g.nor1.nor2 else gr0

/-- What has come is sound. -/
structure ToOk (first : Nat) (l : List (Int × Int)) (to : List Nat) : Prop where
  lt : ∀ x ∈ to, x < 2 * (first + l.length)
theorem andG_lt {first : Nat} {l : List (Int × Int)} {a b : Nat} (ha : a < 2 * (first + l.length)) (hb : b < 2 * (first + l.length)) (h1 : 1 ≤ first) :
    (andG first l a b).2 < 2 * (first + (andG first l a b).1.length) ∧ l.length ≤ (andG first l a b).1.length := by
  unfold andG
  split
  · rename_i c hc
    unfold andK at hc
    refine ⟨?_, Nat.le_refl _⟩
    simp only
    split at hc
    · cases hc; omega
    · split at hc
      · cases hc; omega
      · cases hc
  · split
    · rename_i i hi
      obtain ⟨_, h2, _⟩ := idxP_some hi
      exact ⟨by simp only; omega, Nat.le_refl _⟩
    · exact ⟨by simp only [List.length_append, List.length_cons, List.length_nil]; omega, by simp⟩
theorem bec_lt {to : List Nat} {B a : Nat} (h : ∀ x ∈ to, x < 2 * B) (ha : a / 2 < to.length) : bec to a < 2 * B := by
  have h1 := h _ (List.getElem_mem ha)
  unfold bec
  rw [List.getD_eq_getElem?_getD, List.getElem?_eq_getElem ha, Option.getD_some]
  rcases (show a % 2 = 0 ∨ a % 2 = 1 by omega) with h2 | h2
  · rw [h2, Nat.xor_zero]; exact h1
  · rw [h2, xor1_nat]; split <;> omega

theorem led_len (x : Gr) : x.led.length = x.all := by unfold Gr.led; rw [backM_len, markL_len, List.length_replicate]
end Go.Proofs.Ytdmedcdloeljeaa
/- Graphs that grow: what comes of a graph is sound. No program in sight. -/
namespace Go.Proofs.Ytdmedcdloeljeaa
open Go.AM Go.Proofs
set_option linter.unusedSimpArgs false
set_option linter.unusedVariables false

/-- Ands as they should be. -/
structure AndsS (first : Nat) (l : List (Int × Int)) : Prop where
  at_ : ∀ i (h : i < l.length), ∃ p q : Nat, l[i] = ((p : Int), (q : Int)) ∧ 2 ≤ q ∧ q < p ∧ p / 2 ≠ q / 2 ∧ p < 2 * (first + i)
  nd : l.Nodup
theorem andsS_nil (first : Nat) : AndsS first [] := ⟨fun i h => by simp at h, List.nodup_nil⟩
theorem AndsS.push {first : Nat} {l : List (Int × Int)} (h : AndsS first l) {a b : Nat} (ha : a < 2 * (first + l.length)) (hb : b < 2 * (first + l.length)) : AndsS first (andG first l a b).1 := by
  unfold andG
  split
  · exact h
  · rename_i hk
    split
    · exact h
    · rename_i hi
      obtain ⟨k1, k2, k3, k4⟩ := andK_none hk
      have hle : min a b ≤ max a b := by omega
      have hx := xor1_nat (max a b)
      refine ⟨fun i hi2 => ?_, ?_⟩
      · by_cases hil : i < l.length
        · obtain ⟨p, q, e, r⟩ := h.at_ i hil
          exact ⟨p, q, by simp only; rw [List.getElem_append_left hil]; exact e, r⟩
        · have e0 : i = l.length := by simp at hi2; omega
          subst e0
          refine ⟨max a b, min a b, by simp, by omega, by omega, ?_, by omega⟩
          intro hd
          apply k2
          rw [hx]
          split <;> omega
      · rw [List.nodup_append]
        refine ⟨h.nd, by simp, ?_⟩
        intro x hx2 y hy he
        subst he
        simp at hy
        subst hy
        exact (idxP_none.1 hi) hx2
theorem normS_ok (first : Nat) (h1 : 1 ≤ first) : ∀ (ps l : List (Int × Int)) (to : List Nat), AndsS first l → ToOk first l to → (∀ i (h : i < ps.length), ps[i].1.toNat / 2 < to.length + i ∧ ps[i].2.toNat / 2 < to.length + i) →
    AndsS first (normS first ps l to).1 ∧ ToOk first (normS first ps l to).1 (normS first ps l to).2 ∧ (normS first ps l to).2.length = to.length + ps.length ∧ (normS first ps l to).1.length ≤ l.length + ps.length
  | [], l, to, hl, ht, _ => ⟨hl, ht, rfl, Nat.le_refl _⟩
  | p :: ps, l, to, hl, ht, hp => by
    have h0 := hp 0 (by simp)
    simp only [List.getElem_cons_zero, Nat.add_zero] at h0
    have ha := bec_lt ht.lt h0.1
    have hb := bec_lt ht.lt h0.2
    obtain ⟨hlt, hge⟩ := andG_lt ha hb h1
    have hlen := andG_len first l (bec to p.1.toNat) (bec to p.2.toNat)
    rw [normS]
    obtain ⟨a1, a2, a3, a4⟩ := normS_ok first h1 ps (andG first l (bec to p.1.toNat) (bec to p.2.toNat)).1 (to ++ [(andG first l (bec to p.1.toNat) (bec to p.2.toNat)).2]) (hl.push ha hb) ⟨fun z hz => by
      rcases List.mem_append.1 hz with hz | hz
      · have := ht.lt z hz; omega
      · simp at hz; omega⟩ (fun i hi => by
      have := hp (i + 1) (by simpa using hi)
      simp only [List.getElem_cons_succ] at this
      simp; omega)
    refine ⟨a1, a2, by rw [a3]; simp; omega, by simp only [List.length_cons]; omega⟩
theorem closS_ok (first : Nat) (h1 : 1 ≤ first) (led : List Bool) : ∀ (ps : List (Int × Int)) (i : Nat) (l : List (Int × Int)) (to : List Nat), AndsS first l → ToOk first l to → (∀ i (h : i < ps.length), ps[i].1.toNat / 2 < to.length + i ∧ ps[i].2.toNat / 2 < to.length + i) →
    AndsS first (closS first led ps i l to).1 ∧ ToOk first (closS first led ps i l to).1 (closS first led ps i l to).2 ∧ (closS first led ps i l to).2.length = to.length + ps.length ∧ (closS first led ps i l to).1.length ≤ l.length + ps.length
  | [], i, l, to, hl, ht, _ => ⟨hl, ht, rfl, Nat.le_refl _⟩
  | p :: ps, i, l, to, hl, ht, hp => by
    have h0 := hp 0 (by simp)
    simp only [List.getElem_cons_zero, Nat.add_zero] at h0
    have ha := bec_lt ht.lt h0.1
    have hb := bec_lt ht.lt h0.2
    obtain ⟨hlt, hge⟩ := andG_lt ha hb h1
    have hlen := andG_len first l (bec to p.1.toNat) (bec to p.2.toNat)
    rw [closS]
    split
    · obtain ⟨a1, a2, a3, a4⟩ := closS_ok first h1 led ps (i + 1) (andG first l (bec to p.1.toNat) (bec to p.2.toNat)).1 (to ++ [(andG first l (bec to p.1.toNat) (bec to p.2.toNat)).2]) (hl.push ha hb) ⟨fun z hz => by
        rcases List.mem_append.1 hz with hz | hz
        · have := ht.lt z hz; omega
        · simp at hz; omega⟩ (fun i hi => by
        have := hp (i + 1) (by simpa using hi)
        simp only [List.getElem_cons_succ] at this
        simp; omega)
      refine ⟨a1, a2, by rw [a3]; simp; omega, by simp only [List.length_cons]; omega⟩
    · obtain ⟨a1, a2, a3, a4⟩ := closS_ok first h1 led ps (i + 1) l (to ++ [0]) hl ⟨fun z hz => by
        rcases List.mem_append.1 hz with hz | hz
        · exact ht.lt z hz
        · simp at hz; omega⟩ (fun i hi => by
        have := hp (i + 1) (by simpa using hi)
        simp only [List.getElem_cons_succ] at this
        simp; omega)
      refine ⟨a1, a2, by rw [a3]; simp; omega, by simp only [List.length_cons]; omega⟩
theorem ands_lt {g : Gr} (ok : g.Ok) : ∀ i (h : i < g.ands.length), g.ands[i].1.toNat / 2 < (ids g.first).length + i ∧ g.ands[i].2.toNat / 2 < (ids g.first).length + i := by
  intro i h
  have := ok.ands i h
  simp; omega
theorem ids_ok (first : Nat) : ToOk first [] (ids first) := ⟨fun z hz => by simp [ids] at hz; obtain ⟨a, ha, rfl⟩ := hz; simp; omega⟩
/-- What a builder ends with is sound. -/
theorem mk2_ok {g : Gr} (ok : g.Ok) {l : List (Int × Int)} {to : List Nat} (hl : AndsS g.first l) (ht : ToOk g.first l to) (h1 : to.length = g.all) (h2 : l.length ≤ g.ands.length) : (g.mk2 (l, to)).Ok := by
  have o1 := ok.ins
  have o3 := ok.sum
  have hb : ∀ a : Int, 0 ≤ a → a < g.lits → bec to a.toNat < 2 * (g.first + l.length) := fun a h3 h4 => bec_lt ht.lt (by have : g.lits = 2 * g.all := rfl; omega)
  have hfst : (g.mk2 (l, to)).first = g.first := by simp [Gr.first, Gr.mk2]
  have hlits : (g.mk2 (l, to)).lits = 2 * (g.first + l.length) := by simp only [Gr.lits, Gr.all, hfst]; rfl
  refine ⟨o1, by simp [Gr.mk2]; omega, by simp [Gr.mk2]; exact ok.outsL, by simp [Gr.mk2]; exact ok.same, ok.init, ?_, ?_, ?_⟩
  · intro a ha
    rw [hlits]
    simp only [Gr.mk2, List.mem_map, becs] at ha
    obtain ⟨n, ⟨b, hb2, rfl⟩, rfl⟩ := ha
    have h3 := ok.next b hb2
    have := hb b h3.1 h3.2
    omega
  · intro a ha
    rw [hlits]
    simp only [Gr.mk2, List.mem_map, becs] at ha
    obtain ⟨n, ⟨b, hb2, rfl⟩, rfl⟩ := ha
    have h3 := ok.outs b hb2
    have := hb b h3.1 h3.2
    omega
  · intro i hi
    rw [hfst]
    obtain ⟨p, q, e, r1, r2, r3, r4⟩ := hl.at_ i hi
    have e2 : (g.mk2 (l, to)).ands[i] = ((p : Int), (q : Int)) := e
    rw [e2]
    simp only
    omega
theorem nor1_ok {g : Gr} (ok : g.Ok) : g.nor1.Ok ∧ AndsS g.first g.nor1.ands ∧ g.nor1.ands.length ≤ g.ands.length := by
  have o1 := ok.ins
  obtain ⟨a1, a2, a3, a4⟩ := normS_ok g.first (by unfold Gr.first; omega) g.ands [] (ids g.first) (andsS_nil _) (ids_ok _) (ands_lt ok)
  refine ⟨mk2_ok ok a1 a2 (by rw [a3]; simp [Gr.all]) (by simpa using a4), a1, ?_⟩
  rw [List.length_nil, Nat.zero_add] at a4
  exact a4
theorem nor2_ok {g : Gr} (ok : g.Ok) : g.nor2.Ok ∧ AndsS g.first g.nor2.ands ∧ g.nor2.ands.length ≤ g.ands.length := by
  have o1 := ok.ins
  obtain ⟨a1, a2, a3, a4⟩ := closS_ok g.first (by unfold Gr.first; omega) g.led g.ands 0 [] (ids g.first) (andsS_nil _) (ids_ok _) (ands_lt ok)
  refine ⟨mk2_ok ok a1 a2 (by rw [a3]; simp [Gr.all]) (by simpa using a4), a1, ?_⟩
  rw [List.length_nil, Nat.zero_add] at a4
  exact a4
end Go.Proofs.Ytdmedcdloeljeaa
/- Graphs that grow: how a builder begins; Normal. -/
namespace Go.Proofs.Ytdmedcdloeljeaa
open Go.AM Go.Proofs
variable {Γ : Nat → Option AV}
set_option linter.unusedSimpArgs false
set_option linter.unusedVariables false

abbrev begM (p s : List Ob) (c0 c1 c2 c3 c4 c5 : AV) (i : Nat) : List Ob := p ++ .cells [c0, c1, c2, c3, c4, c5, .sl (p.length + (s.length + 1)) 0 i] :: (s ++ [.row 1 t_int ((ids i).map iN) none true false])
theorem r_begL (p s : List Ob) (c0 c1 c2 c3 c4 c5 : AV) (f : Nat) (hf : f < 2 ^ 20) (hp : ∀ m, vldH (p.length + (s.length + 1)) m p = true) (hs : ∀ m, vldH (p.length + (s.length + 1)) m s = true)
    (hc : ∀ m, vldL (p.length + (s.length + 1)) m [c0, c1, c2, c3, c4, c5] = true) (base : Nat) (hb : base ≤ p.length + (s.length + 1)) (up : List Fr) (ds : List ADef) (hds : ds = []) :
    ∀ n i : Nat, i + n = f → AM.Reach Try.prog Γ (aig_begin_L1 (.ptr p.length 0) (.int .i64 f) (.int .i64 i) (begM p s c0 c1 c2 c3 c4 c5 i) ⟨ds, .norm, base, up⟩)
      (aig_begin_E1 (.ptr p.length 0) (begM p s c0 c1 c2 c3 c4 c5 f) ⟨ds, .norm, base, up⟩) := by
  subst hds
  intro n
  induction n with
  | zero =>
    intro i hi
    obtain rfl : i = f := by omega
    refine .goS 60 ?_
    simp
    exact .exit rfl rfl
  | succ n ih =>
    intro i hi
    have q1 : (i : Int) < f := by omega
    have hh := ih (i + 1) (by omega)
    have h1 := hp (i + 1)
    have h2 := hs (i + 1)
    have h3 := hc (i + 1)
    simp only [vldL, Bool.and_eq_true, Bool.and_true] at h3
    obtain ⟨w0, w1, w2, w3, w4, w5⟩ := h3
    refine .goS 60 ?_
    simp (disch := (first | omega | (simp; omega))) [q1]
    refine .reLoop ?_
    simp
    have e1 : (List.map iN (ids i) ++ [AV.int .i64 (2 * (i : Int))]).length = i + 1 := by simp
    refine .resetTo (i := p.length + (s.length + 1)) (by simp; exact ⟨rfl, rfl, rfl, rfl, rfl⟩) (by simpa using hb) (by simp) (by rw [e1]; simp [h1, h2, w0, w1, w2, w3, w4, w5]) ?_
    rw [begM, ids_succ] at hh
    simp at hh ⊢
    exact hh

theorem r_build0 (ins : Int) (x1 x2 : AV) (h1 : (∃ f k l, x1 = .list f k l) ∨ ∃ i o n, x1 = .sl i o n) (h2 : (∃ f k l, x2 = .list f k l) ∨ ∃ i o n, x2 = .sl i o n) (h : List Ob) : ∀ up, AM.Reach Try.prog Γ (.cl n_aig_build [.agg [.int .i64 ins, x1, x2, .list true 0 [], .list true 0 []]] up h)
      (.back up (.ptr (h.length + 2) 0) (h ++ [.cells [.int .i64 ins, x1, x2, .list true 0 [], .list true 0 []], .map [] true, .cells [.int .i64 ins, x1, x2, .sl (h.length + 3) 0 0, .list true 0 [], .mp (h.length + 1), .list true 0 []], .row 2 t_2_int_2 [] none true false])) := by
  intro up
  have hcl := p_slices_Clone_2_int_2_int (Γ := Γ) (k := 0) [] .nil (by simp)
  rcases h1 with ⟨f1, k1, l1, rfl⟩ | ⟨i1, o1, n1, rfl⟩ <;> rcases h2 with ⟨f2, k2, l2, rfl⟩ | ⟨i2, o2, n2, rfl⟩
  all_goals
    refine .enterB 60 c_aig_build ?_
    simp
    refine .callB 60 (by simp) hcl ?_
    simp
    refine .inLoop ?_
    refine .goB 60 ?_
    simp
abbrev nrmP (g : Gr) : List Ob := [cellG g, .cells [.int .i64 0, .sl 2 0 0, .sl 3 0 0, .sl 4 0 0, .sl 5 0 0], .row 1 t_int [] none true false, .row 1 t_int [] none true false, .row 2 t_2_int_2 [] none true false, .row 1 t_int [] none true false,
      cellG g, .row 1 t_int (g.init.map i64) none true false, .cells [.int .i64 g.ins, .list false g.kn (g.next.map i64), .sl 7 0 g.init.length, .list true 0 [], .list true 0 []]]
/-- Normal's memory in its first pass. -/
abbrev nrm1 (g : Gr) (es : List ((Int × Int) × Nat)) (l : List (Int × Int)) (to : List Nat) (q : List Ob) : List Ob :=
  nrmP g ++ (.map (es.map eEnt) true :: .cells [.int .i64 g.ins, .list false g.kn (g.next.map i64), .sl 7 0 g.init.length, .sl 11 0 l.length, .list true 0 [], .mp 9, .sl 12 0 to.length] :: .row 2 t_2_int_2 (l.map ePr) none true false :: .row 1 t_int (to.map iN) none true false :: q)
set_option maxRecDepth 8000 in
theorem f_nrm14 (g : Gr) (ok : g.Ok) {o : Out} (l1 : List (Int × Int)) (to1 : List Nat) (hfin : normS g.first g.ands [] (ids g.first) = (l1, to1))
    (hc : ∀ es, Ents g.first l1 es → l1.length ≤ g.ands.length → to1.length = g.all → ToOk g.first l1 to1 → Fins Try.prog Γ (aig_Normal_E14 (.ptr 0 0) (.ptr 1 0) (.ptr 10 0) (nrm1 g es l1 to1 [])) o) :
    ∀ n i : Nat, i + n = g.ands.length → ∀ es l to, Ents g.first l es → l.length ≤ i → to.length = g.first + i → ToOk g.first l to → normS g.first (g.ands.drop i) l to = (l1, to1) →
      Fins Try.prog Γ (aig_Normal_L14 (.ptr 0 0) (.ptr 1 0) (.ptr 10 0) (.list false g.ka (g.ands.map ePr)) (.int .i64 g.ands.length) (.int .i64 i) (nrm1 g es l to [])) o := by
  have o1 := ok.ins
  have o3 := ok.sum
  have o4 := ok.outsL
  have hfb : g.first ≤ 8001 := by unfold Gr.first; omega
  have hf1 : 1 ≤ g.first := by unfold Gr.first; omega
  intro n
  induction n with
  | zero =>
    intro i hi es l to he hl ht hok hS
    have q1 : ¬ i < g.ands.length := by omega
    rw [List.drop_eq_nil_of_le (by omega)] at hS
    simp only [normS, Prod.mk.injEq] at hS
    obtain ⟨rfl, rfl⟩ := hS
    refine .reach (.goS 60 (c' := aig_Normal_E14 (.ptr 0 0) (.ptr 1 0) (.ptr 10 0) (nrm1 g es l to [])) ?_) (hc es he (by omega) (by unfold Gr.all; omega) hok)
    simp [q1]
    exact .exit rfl rfl
  | succ n ih =>
    intro i hi es l to he hl ht hok hS
    have q1 : i < g.ands.length := by omega
    have q2 := eq_true (g.ha.of q1)
    rw [List.drop_eq_getElem_cons q1, normS] at hS
    obtain ⟨⟨b1, b2⟩, b3, b4⟩ := ok.ands i q1
    obtain ⟨x, hx⟩ := Int.eq_ofNat_of_zero_le b1
    obtain ⟨y, hy⟩ := Int.eq_ofNat_of_zero_le b3
    rw [hx, hy] at hS
    simp only [Int.toNat_natCast] at hS
    have hx2 : x / 2 < to.length := by omega
    have hy2 : y / 2 < to.length := by omega
    have ha := bec_lt hok.lt hx2
    have hb := bec_lt hok.lt hy2
    obtain ⟨hlt, hge⟩ := andG_lt ha hb hf1
    have hto : ∀ z ∈ to, z < 2 ^ 40 := fun z hz => by have := hok.lt z hz; omega
    have k1 := r_came (Γ := Γ) to hto x hx2 (by omega) 10 12 (h := nrm1 g es l to [.cells [.int .i64 x, .int .i64 y]]) rfl rfl (by simp)
    have k2 := r_came (Γ := Γ) to hto y hy2 (by omega) 10 12 (h := nrm1 g es l to [.cells [.int .i64 x, .int .i64 y]]) rfl rfl (by simp)
    have hgl := andG_len g.first l (bec to x) (bec to y)
    obtain ⟨es', gr, junk, he', hgr, hjk, k3⟩ := r_and (Γ := Γ) (p := nrmP g) (q := [.row 1 t_int (to.map iN) none true false, .cells [.int .i64 x, .int .i64 y]]) (x1 := .list false g.kn (g.next.map i64)) (x2 := .sl 7 0 g.init.length) (x4 := .list true 0 []) (come := .sl 12 0 to.length)
      ⟨g.ins, g.next, g.init, [], [], g.kn, 1, 2, 0, g.hn, .self, .self, .nil⟩ o1 (by simp; omega) l (by omega) es he (bec to x) (bec to y) (by omega) (by omega) (fun s => by simp) (fun s => by simp) (fun s => by simp)
    have hfe : (⟨g.ins, g.next, g.init, [], [], g.kn, 1, 2, 0, g.hn, .self, .self, .nil⟩ : Gr).first = g.first := rfl
    rw [hfe] at k3 he'
    have hh := ih (i + 1) (by omega) es' (andG g.first l (bec to x) (bec to y)).1 (to ++ [(andG g.first l (bec to x) (bec to y)).2]) he' (by omega) (by simp; omega) ⟨fun z hz => by
      rcases List.mem_append.1 hz with hz | hz
      · have := hok.lt z hz; omega
      · simp at hz; omega⟩ hS
    generalize andG g.first l (bec to x) (bec to y) = r at *
    refine .go 60 ?_
    simp [q1, q2]
    refine .dr 60 ?_
    simp (disch := omega) [hx, hy]
    refine .reach (by simp) k1 ?_
    simp (disch := omega) [hx, hy]
    refine .reach (by simp) k2 ?_
    simp (disch := omega) [hx, hy]
    refine .reach (by simp) k3 ?_
    rcases hjk with rfl | ⟨jx, jy, rfl⟩
    · simp (disch := (first | omega | (simp; omega))) [hx, hy]
      refine .reLoop ?_
      simp
      refine .drop 13 rfl (by simp) (by simp) (by simp) ?_
      have e1 : (to.map iN ++ [AV.int .i64 (r.2 : Int)]).length = to.length + 1 := by simp
      refine .resetI (i := 11) rfl hgr (by simp) (by simp) (by simp) ?_
      refine .resetI (i := 12) rfl (.inr rfl) (by simp) (by simp) (by rw [e1]; simp) ?_
      simp at hh ⊢
      exact hh
    · simp (disch := (first | omega | (simp; omega))) [hx, hy]
      refine .reLoop ?_
      simp
      refine .drop 13 rfl (by simp) (by simp) (by simp) ?_
      have e1 : (to.map iN ++ [AV.int .i64 (r.2 : Int)]).length = to.length + 1 := by simp
      refine .resetI (i := 11) rfl hgr (by simp) (by simp) (by simp) ?_
      refine .resetI (i := 12) rfl (.inr rfl) (by simp) (by simp) (by rw [e1]; simp) ?_
      simp at hh ⊢
      exact hh

/-- Normal's memory in its second pass: of a graph x. -/
abbrev nrm2P (x : Gr) : List Ob :=
  [.cells [.int .i64 0, .sl 1 0 0, .sl 2 0 0, .sl 3 0 0, .sl 4 0 0], .row 1 t_int [] none true false, .row 1 t_int [] none true false, .row 2 t_2_int_2 [] none true false, .row 1 t_int [] none true false,
   .cells [.int .i64 x.ins, .sl 6 0 x.next.length, .sl 7 0 x.init.length, .sl 8 0 x.ands.length, .sl 9 0 x.outs.length], .row 1 t_int (x.next.map i64) none true false, .row 1 t_int (x.init.map i64) none true false, .row 2 t_2_int_2 (x.ands.map ePr) none true false, .row 1 t_int (x.outs.map i64) none true false, .row 1 t_bool (x.led.map .bool) none true false]
abbrev nrm2Q (x : Gr) : List Ob := nrm2P x ++ [.cells [.int .i64 x.ins, .sl 6 0 x.next.length, .sl 7 0 x.init.length, .sl 8 0 x.ands.length, .sl 9 0 x.outs.length], .row 1 t_int (x.init.map i64) none true false, .cells [.int .i64 x.ins, .sl 6 0 x.next.length, .sl 12 0 x.init.length, .list true 0 [], .list true 0 []]]
abbrev nrm2 (x : Gr) (es : List ((Int × Int) × Nat)) (l : List (Int × Int)) (to : List Nat) (q : List Ob) : List Ob :=
  nrm2Q x ++ (.map (es.map eEnt) true :: .cells [.int .i64 x.ins, .sl 6 0 x.next.length, .sl 12 0 x.init.length, .sl 16 0 l.length, .list true 0 [], .mp 14, .sl 17 0 to.length] :: .row 2 t_2_int_2 (l.map ePr) none true false :: .row 1 t_int (to.map iN) none true false :: q)
@[simp] theorem take_becs (to : List Nat) (l : List Int) : (List.map iN (becs to l)).take l.length = List.map iN (becs to l) := by rw [List.take_of_length_le]; simp

set_option maxRecDepth 8000 in
theorem f_nrmL (x : Gr) (hstd : x.kn = 1 ∧ x.ki = 1 ∧ x.ka = 2 ∧ x.ko = 1) (ok : x.Ok) {o : Out} (l1 : List (Int × Int)) (to1 : List Nat)
    (hc : ∀ es, Ents x.first l1 es → l1.length ≤ x.ands.length → to1.length = x.all → ToOk x.first l1 to1 → Fins Try.prog Γ (aig_Normal_E1 (.ptr 0 0) (.ptr 5 0) (.ptr 15 0) (nrm2 x es l1 to1 [])) o) :
    ∀ n i : Nat, i + n = x.ands.length → ∀ es l to, Ents x.first l es → l.length ≤ i → to.length = x.first + i → ToOk x.first l to → closS x.first x.led (x.ands.drop i) i l to = (l1, to1) →
      Fins Try.prog Γ (aig_Normal_L1 (.ptr 0 0) (.ptr 5 0) (.sl 10 0 x.all) (.ptr 15 0) (.sl 8 0 x.ands.length) (.int .i64 x.ands.length) (.int .i64 i) (nrm2 x es l to [])) o := by
  have o1 := ok.ins
  have o3 := ok.sum
  have o4 := ok.outsL
  obtain ⟨s1, s2, s3, s4⟩ := hstd
  have hfirst := p_aig_first (Γ := Γ) x o1.1 o1.2 (by omega)
  rw [eGr, s1, s2, s3, s4] at hfirst
  have hfb : x.first ≤ 8001 := by unfold Gr.first; omega
  have hf1 : 1 ≤ x.first := by unfold Gr.first; omega
  have hll := led_len x
  intro n
  induction n with
  | zero =>
    intro i hi es l to he hl ht hok hS
    have q1 : ¬ i < x.ands.length := by omega
    rw [List.drop_eq_nil_of_le (by omega)] at hS
    simp only [closS, Prod.mk.injEq] at hS
    obtain ⟨rfl, rfl⟩ := hS
    refine .reach (.goS 60 (c' := aig_Normal_E1 (.ptr 0 0) (.ptr 5 0) (.ptr 15 0) (nrm2 x es l to [])) ?_) (hc es he (by omega) (by unfold Gr.all; omega) hok)
    simp [q1]
    exact .exit rfl rfl
  | succ n ih =>
    intro i hi es l to he hl ht hok hS
    have q1 : i < x.ands.length := by omega
    rw [List.drop_eq_getElem_cons q1, closS] at hS
    obtain ⟨⟨b1, b2⟩, b3, b4⟩ := ok.ands i q1
    obtain ⟨a, ha⟩ := Int.eq_ofNat_of_zero_le b1
    obtain ⟨b, hb⟩ := Int.eq_ofNat_of_zero_le b3
    rw [ha, hb] at hS
    simp only [Int.toNat_natCast] at hS
    have q3 : x.first + i < x.all := by unfold Gr.all; omega
    have e1 : (x.first : Int) + i = ((x.first + i : Nat) : Int) := by omega
    rw [List.getD_eq_getElem?_getD, List.getElem?_eq_getElem (by omega), Option.getD_some] at hS
    refine .go 60 ?_
    simp (disch := omega) [q1]
    refine .call 60 (by simp) hfirst ?_
    by_cases hb0 : x.led[x.first + i] = true
    · rw [if_pos hb0] at hS
      have hx2 : a / 2 < to.length := by omega
      have hy2 : b / 2 < to.length := by omega
      have hla := bec_lt hok.lt hx2
      have hlb := bec_lt hok.lt hy2
      obtain ⟨hlt, hge⟩ := andG_lt hla hlb hf1
      have hto : ∀ z ∈ to, z < 2 ^ 40 := fun z hz => by have := hok.lt z hz; omega
      have k1 := r_came (Γ := Γ) to hto a hx2 (by omega) 15 17 (h := nrm2 x es l to [.cells [.int .i64 a, .int .i64 b]]) rfl rfl (by simp)
      have k2 := r_came (Γ := Γ) to hto b hy2 (by omega) 15 17 (h := nrm2 x es l to [.cells [.int .i64 a, .int .i64 b]]) rfl rfl (by simp)
      have hgl := andG_len x.first l (bec to a) (bec to b)
      obtain ⟨es', gr, junk, he', hgr, hjk, k3⟩ := r_and (Γ := Γ) (p := nrm2Q x) (q := [.row 1 t_int (to.map iN) none true false, .cells [.int .i64 a, .int .i64 b]]) (x1 := .sl 6 0 x.next.length) (x2 := .sl 12 0 x.init.length) (x4 := .list true 0 []) (come := .sl 17 0 to.length)
        ⟨x.ins, x.next, x.init, [], [], 1, 1, 2, 0, .self, .self, .self, .nil⟩ o1 (by simp; omega) l (by omega) es he (bec to a) (bec to b) (by omega) (by omega) (fun s => by simp) (fun s => by simp) (fun s => by simp)
      have hfe : (⟨x.ins, x.next, x.init, [], [], 1, 1, 2, 0, .self, .self, .self, .nil⟩ : Gr).first = x.first := rfl
      rw [hfe] at k3 he'
      have hh := ih (i + 1) (by omega) es' (andG x.first l (bec to a) (bec to b)).1 (to ++ [(andG x.first l (bec to a) (bec to b)).2]) he' (by omega) (by simp; omega) ⟨fun z hz => by
        rcases List.mem_append.1 hz with hz | hz
        · have := hok.lt z hz; omega
        · simp at hz; omega⟩ hS
      generalize andG x.first l (bec to a) (bec to b) = r at *
      simp (disch := omega) [e1, q3, hll, hb0, -Int.natCast_add]
      refine .dr 60 ?_
      simp (disch := omega) [ha, hb]
      refine .reach (by simp) k1 ?_
      simp (disch := omega) [ha, hb]
      refine .reach (by simp) k2 ?_
      simp (disch := omega) [ha, hb]
      refine .reach (by simp) k3 ?_
      rcases hjk with rfl | ⟨jx, jy, rfl⟩
      · simp (disch := (first | omega | (simp; omega))) [ha, hb]
        refine .reLoop ?_
        simp
        refine .drop 18 rfl (by simp) (by simp) (by simp) ?_
        have e2 : (to.map iN ++ [AV.int .i64 (r.2 : Int)]).length = to.length + 1 := by simp
        refine .resetI (i := 16) rfl hgr (by simp) (by simp) (by simp) ?_
        refine .resetI (i := 17) rfl (.inr rfl) (by simp) (by simp) (by rw [e2]; simp) ?_
        simp at hh ⊢
        exact hh
      · simp (disch := (first | omega | (simp; omega))) [ha, hb]
        refine .reLoop ?_
        simp
        refine .drop 18 rfl (by simp) (by simp) (by simp) ?_
        have e2 : (to.map iN ++ [AV.int .i64 (r.2 : Int)]).length = to.length + 1 := by simp
        refine .resetI (i := 16) rfl hgr (by simp) (by simp) (by simp) ?_
        refine .resetI (i := 17) rfl (.inr rfl) (by simp) (by simp) (by rw [e2]; simp) ?_
        simp at hh ⊢
        exact hh
    · rw [if_neg hb0] at hS
      have hh := ih (i + 1) (by omega) es l (to ++ [0]) he (by omega) (by simp; omega) ⟨fun z hz => by
        rcases List.mem_append.1 hz with hz | hz
        · exact hok.lt z hz
        · simp at hz; omega⟩ hS
      simp (disch := (first | omega | (simp; omega))) [e1, q3, hll, hb0, -Int.natCast_add]
      refine .reLoop ?_
      simp
      refine .drop 18 rfl (by simp) (by simp) (by simp) ?_
      have e2 : (to.map iN ++ [AV.int .i64 0]).length = to.length + 1 := by simp
      refine .resetI (i := 17) rfl (.inr rfl) (by simp) (by simp) (by rw [e2]; simp) ?_
      simp at hh ⊢
      exact hh

set_option maxRecDepth 8000 in
/-- The second pass, of a graph x. -/
theorem f_nrm2 (x : Gr) (hstd : x.kn = 1 ∧ x.ki = 1 ∧ x.ka = 2 ∧ x.ko = 1) (ok : x.Ok) : Fins Try.prog Γ (.fr ⟨.run, n_aig_Normal, [.code (.seq (.reg aig_Normal_p11) (.seq (.seq (.reg aig_Normal_p10) (.block 2 aig_Normal_x1 (.loop aig_Normal_m1 aig_Normal_b1))) (.seq (.reg aig_Normal_p0) .ret)))],
    [U, U, .ptr 0 0, U, U, U, U, U, .ptr 5 0, .sl 10 0 x.led.length] ++ List.replicate 85 U, [], .norm, 0⟩ [] (nrm2P x)) (.ret (.tup [eGr x.nor2, .int .i64 0])) := by
  have o1 := ok.ins
  have o3 := ok.sum
  have o4 := ok.outsL
  have hs := hstd
  obtain ⟨s1, s2, s3, s4⟩ := hs
  have hfirst := p_aig_first (Γ := Γ) x o1.1 o1.2 (by omega)
  rw [eGr, s1, s2, s3, s4] at hfirst
  have hfb : x.first ≤ 8001 := by unfold Gr.first; omega
  have hsame := ok.same
  rw [led_len]
  refine .go 60 ?_
  simp
  refine .enter 60 c_aig_begin ?_
  simp
  refine .dr 60 ?_
  simp
  refine .call (by simp) (p_slices_Clone_int_int (Γ := Γ) x.init (k := 1) .self (by omega)) ?_
  simp
  refine .reach (by simp) (r_build0 x.ins _ _ (.inr ⟨_, _, _, rfl⟩) (.inr ⟨_, _, _, rfl⟩) _) ?_
  simp
  refine .call 60 (by simp) hfirst ?_
  simp
  refine .nilcell 15 6 1 t_int rfl rfl (by omega) ?_
  simp
  refine .inLoop ?_
  have kb := fun up => r_begL (Γ := Γ) (nrm2Q x ++ [.map [] true]) [.row 2 t_2_int_2 [] none true false]
      (.int .i64 x.ins) (.sl 6 0 x.next.length) (.sl 12 0 x.init.length) (.sl 16 0 0) (.list true 0 []) (.mp 14) x.first (by omega) (by intro m; simp) (by intro m; simp) (by intro m; simp) 11 (by simp) up [] rfl x.first 0 (by omega)
  simp [ids] at kb ⊢
  refine .reach (kb _) ?_
  refine .go 60 ?_
  simp
  refine .inLoop ?_
  generalize hS : closS x.first x.led x.ands 0 [] (ids x.first) = r
  obtain ⟨l1, to1⟩ := r
  have hL := f_nrmL (Γ := Γ) x hstd ok (o := .ret (.tup [eGr x.nor2, .int .i64 0])) l1 to1 ?_ x.ands.length 0 (by omega) [] [] (ids x.first) (ents_nil _) (Nat.le_refl _) (by simp) ⟨fun z hz => by
    simp [ids] at hz; obtain ⟨a, ha, rfl⟩ := hz; simp; omega⟩ (by simpa using hS)
  · simp [ids] at hL ⊢
    exact hL
  intro es he hl1 ht1 hto
  have hn2 : x.nor2 = x.mk2 (l1, to1) := by unfold Gr.nor2; rw [hS]
  have hall : x.all ≤ 12001 := by unfold Gr.all; omega
  have hlits : x.lits = 2 * x.all := rfl
  have ht40 : ∀ z ∈ to1, z < 2 ^ 40 := fun z hz => by have := hto.lt z hz; omega
  have kA := fun q => r_allS (Γ := Γ) to1 ht40 x.next (by omega) (fun a ha => by have := ok.next a ha; omega) (by omega) 15 17 6 (h := nrm2 x es l1 to1 (.cells [.int .i64 x.ins, .sl 6 0 x.next.length, .sl 7 0 x.init.length, .sl 8 0 x.ands.length, .sl 9 0 x.outs.length] :: .cells [.int .i64 0, .sl 20 0 0, .sl 21 0 0, .sl 22 0 0, .sl 23 0 0] :: q)) rfl rfl rfl
  have kB := fun q => r_allS (Γ := Γ) to1 ht40 x.outs (by omega) (fun a ha => by have := ok.outs a ha; omega) (by omega) 15 17 9 (h := nrm2 x es l1 to1 (.cells [.int .i64 x.ins, .sl 6 0 x.next.length, .sl 7 0 x.init.length, .sl 8 0 x.ands.length, .sl 9 0 x.outs.length] :: .cells [.int .i64 0, .sl 20 0 0, .sl 21 0 0, .sl 22 0 0, .sl 23 0 0] :: q)) rfl rfl rfl
  rw [hn2]
  refine .go 60 ?_
  simp
  refine .enter 60 c_aig_builder_end ?_
  simp
  refine .dr 60 ?_
  simp
  refine .reach (by simp) (kA [.row 1 t_int [] none true false, .row 1 t_int [] none true false, .row 2 t_2_int_2 [] none true false, .row 1 t_int [] none true false] (by intro m; simp)) ?_
  simp
  refine .reach (by simp) (kB [.row 1 t_int [] none true false, .row 1 t_int [] none true false, .row 2 t_2_int_2 [] none true false, .row 1 t_int [] none true false, .row 1 t_int [] none true false, .row 1 t_int ((becs to1 x.next).map iN) none true false] (by intro m; simp)) ?_
  simp [Gr.mk2]
  exact .back (by simp)

set_option maxRecDepth 8000 in
theorem f_nrmE (g : Gr) (ok : g.Ok) (l1 : List (Int × Int)) (to1 : List Nat) (hx : g.nor1 = g.mk2 (l1, to1)) (okx : g.nor1.Ok) (es : List ((Int × Int) × Nat)) (hl1 : l1.length ≤ g.ands.length) (ht1 : to1.length = g.all) (hto : ToOk g.first l1 to1) :
    Fins Try.prog Γ (aig_Normal_E14 (.ptr 0 0) (.ptr 1 0) (.ptr 10 0) (nrm1 g es l1 to1 [])) (.ret (.tup [eGr g.nor1.nor2, .int .i64 0])) := by
  have o1 := ok.ins
  have o3 := ok.sum
  have o4 := ok.outsL
  have hfb : g.first ≤ 8001 := by unfold Gr.first; omega
  have hall : g.all ≤ 12001 := by unfold Gr.all; omega
  have hlits : g.lits = 2 * g.all := rfl
  have ht40 : ∀ z ∈ to1, z < 2 ^ 40 := fun z hz => by have := hto.lt z hz; omega
  have kA := fun q => r_all (Γ := Γ) to1 ht40 g.next g.hn (by omega) (fun a ha => by have := ok.next a ha; omega) (by omega) 10 12 (h := nrm1 g es l1 to1 (cellG g :: .cells [.int .i64 0, .sl 15 0 0, .sl 16 0 0, .sl 17 0 0, .sl 18 0 0] :: q)) rfl rfl
  have kB := fun q => r_all (Γ := Γ) to1 ht40 g.outs g.ho (by omega) (fun a ha => by have := ok.outs a ha; omega) (by omega) 10 12 (h := nrm1 g es l1 to1 (cellG g :: .cells [.int .i64 0, .sl 15 0 0, .sl 16 0 0, .sl 17 0 0, .sl 18 0 0] :: q)) rfl rfl
  refine .go 60 ?_
  simp
  refine .enter 60 c_aig_builder_end ?_
  simp
  refine .dr 60 ?_
  simp
  refine .reach (by simp) (kA [.row 1 t_int [] none true false, .row 1 t_int [] none true false, .row 2 t_2_int_2 [] none true false, .row 1 t_int [] none true false] (by intro m; simp)) ?_
  simp
  refine .reach (by simp) (kB [.row 1 t_int [] none true false, .row 1 t_int [] none true false, .row 2 t_2_int_2 [] none true false, .row 1 t_int [] none true false, .row 1 t_int [] none true false, .row 1 t_int ((becs to1 g.next).map iN) none true false] (by intro m; simp)) ?_
  simp
  have ex : eGr g.nor1 = .agg [.int .i64 g.ins, .list false 1 ((becs to1 g.next).map iN), .list false 1 (g.init.map i64), .list false 2 (l1.map ePr), .list false 1 ((becs to1 g.outs).map iN)] := by
    rw [hx]; simp [Gr.mk2]
  have hled := p_aig_led (Γ := Γ) g.nor1 okx
  rw [ex] at hled
  refine .call 3 (by simp) hled ?_
  simp
  refine .clrs [1, 5, 49, 50, 51, 52, 53] ?_
  simp
  refine .gc 0 [1, 2, 3, 4, 5, 23, 20, 7, 11, 22, 28] (by simp) (by decide) ?_
  have hh := f_nrm2 (Γ := Γ) g.nor1 ⟨by rw [hx]; rfl, by rw [hx]; rfl, by rw [hx]; rfl, by rw [hx]; rfl⟩ okx
  simp [nrm2P, hx, Gr.mk2] at hh ⊢
  exact hh

set_option maxRecDepth 8000 in
theorem p_aig_Normal (g : Gr) (hf : g.few) : PureCon Try.prog Γ n_aig_Normal [eGr g] (.tup [eGr g.normal, .int .i64 g.check]) := by
  refine .run 60 c_aig_Normal (by simp) ?_
  simp
  refine .call 60 (by simp) (p_aig_Check g hf) ?_
  by_cases hc : g.check = 0
  · have ok := Gr.ok_of hc
    have o1 := ok.ins
    have o3 := ok.sum
    have o4 := ok.outsL
    have hfirst := p_aig_first (Γ := Γ) g o1.1 o1.2 (by omega)
    have hn0 : g.normal = g.nor1.nor2 := by unfold Gr.normal; rw [if_pos hc]
    rw [hn0]
    simp [hc]
    refine .enter 60 c_aig_begin ?_
    simp
    refine .dr 60 ?_
    simp
    refine .call (by simp) (p_slices_Clone_int_int (Γ := Γ) g.init g.hi hf.2.1) ?_
    simp
    refine .reach (by simp) (r_build0 g.ins _ _ (.inl ⟨_, _, _, rfl⟩) (.inr ⟨_, _, _, rfl⟩) _) ?_
    simp
    refine .call 60 (by simp) hfirst ?_
    simp
    refine .nilcell 10 6 1 t_int rfl rfl (by omega) ?_
    simp
    refine .inLoop ?_
    have hfb : g.first ≤ 8001 := by unfold Gr.first; omega
    have kb := fun up => r_begL (Γ := Γ) [cellG g, .cells [.int .i64 0, .sl 2 0 0, .sl 3 0 0, .sl 4 0 0, .sl 5 0 0], .row 1 t_int [] none true false, .row 1 t_int [] none true false, .row 2 t_2_int_2 [] none true false, .row 1 t_int [] none true false,
      cellG g, .row 1 t_int (g.init.map i64) none true false, .cells [.int .i64 g.ins, .list false g.kn (g.next.map i64), .sl 7 0 g.init.length, .list true 0 [], .list true 0 []], .map [] true] [.row 2 t_2_int_2 [] none true false]
      (.int .i64 g.ins) (.list false g.kn (g.next.map i64)) (.sl 7 0 g.init.length) (.sl 11 0 0) (.list true 0 []) (.mp 9) g.first (by omega) (by intro m; simp) (by intro m; simp) (by intro m; simp) 6 (by simp) up [] rfl g.first 0 (by omega)
    simp [ids] at kb ⊢
    refine .reach (kb _) ?_
    refine .go 60 ?_
    simp
    refine .inLoop ?_
    obtain ⟨okx, _, hlen⟩ := nor1_ok ok
    have hS : normS g.first g.ands [] (ids g.first) = ((normS g.first g.ands [] (ids g.first)).1, (normS g.first g.ands [] (ids g.first)).2) := rfl
    have hL := f_nrm14 (Γ := Γ) g ok (o := .ret (.tup [eGr g.nor1.nor2, .int .i64 0])) _ _ hS (fun es he hl1 ht1 hto => f_nrmE g ok _ _ rfl okx es hl1 ht1 hto) g.ands.length 0 (by omega) [] [] (ids g.first) (ents_nil _) (Nat.le_refl _) (by simp) (ids_ok _) (by simp)
    simp [ids] at hL ⊢
    exact hL
  · have hn0 : g.normal = gr0 := by unfold Gr.normal; rw [if_neg hc]
    rw [hn0]
    simp [hc, gr0]
    exact .back (by simp)
end Go.Proofs.Ytdmedcdloeljeaa
/- Graphs: rows of pairs; whether two graphs are alike; Strict, of the program. -/
namespace Go.Proofs.Ytdmedcdloeljeaa
open Go.AM Go.Proofs
variable {Γ : Nat → Option AV}
set_option linter.unusedSimpArgs false
set_option linter.unusedVariables false

theorem eqData_pr' (a b c d : Int) : eqData (.strct [.int, .int]) (.agg [.int .i64 a, .int .i64 b]) (.agg [.int .i64 c, .int .i64 d]) = some (decide ((a, b) = (c, d))) := eqData_pr (a, b) (c, d)
theorem p_slices_Equal_2_int_2_int (a b : List (Int × Int)) {ka kb : Nat} (ha : Kd 2 ka a) (hb : Kd 2 kb b) (hs : a.length < 2 ^ 60) : PureCon Try.prog Γ n_slices_Equal_2_int_2_int [.list false ka (a.map ePr), .list false kb (b.map ePr)] (.bool (decide (a = b))) := by
  refine .run 60 c_slices_Equal_2_int_2_int (by simp) ?_
  by_cases hl : a.length = b.length
  · have key : ∀ n i : Nat, i + n = a.length → Fins Try.prog Γ (slices_Equal_2_int_2_int_L1 (.list false ka (a.map ePr)) (.list false kb (b.map ePr)) (.int .i64 a.length) (.int .i64 i) []) (.ret (.bool (decide (a.drop i = b.drop i)))) := by
      intro n
      induction n with
      | zero =>
        intro i hi
        refine .go 60 ?_
        have h1 : ¬ i < a.length := by omega
        have h2 : a.drop i = b.drop i := by rw [List.drop_eq_nil_of_le (by omega), List.drop_eq_nil_of_le (by omega)]
        simp [h1, h2]
        exact .back (by simp)
      | succ n ih =>
        intro i hi
        have h1 : i < a.length := by omega
        have h2 : i < b.length := by omega
        obtain rfl := ha.of h1
        obtain rfl := hb.of h2
        have h4 := drop_eq h1 h2
        have h5 := eqData_pr' a[i].1 a[i].2 b[i].1 b[i].2
        refine .go 60 ?_
        by_cases h3 : a[i] = b[i]
        · have h6 : ((a[i].1, a[i].2) = (b[i].1, b[i].2)) = True := eq_true h3
          have h7 : (a[i] = b[i]) = True := eq_true h3
          simp (disch := omega) [h1, h2, h7, h4, h5, h6, -Prod.mk.injEq]
          refine .reLoop ?_
          have hh := ih (i + 1) (by omega)
          simp at hh ⊢
          exact hh
        · have h6 : ((a[i].1, a[i].2) = (b[i].1, b[i].2)) = False := eq_false h3
          simp (disch := omega) [h1, h2, h3, h4, h5, h6, -Prod.mk.injEq]
          exact .back (by simp)
    simp [hl]
    refine .inLoop ?_
    have hh := key a.length 0 (by omega)
    simp [hl] at hh ⊢
    exact hh
  · have h2 : ¬ a = b := fun e => hl (by rw [e])
    simp [hl, h2]
    exact .back (by simp)
theorem p_slices_Index_2_int_2_int (l : List (Int × Int)) {k : Nat} (hk : Kd 2 k l) (hl : l.length < 2 ^ 60) (p : Int × Int) : PureCon Try.prog Γ n_slices_Index_2_int_2_int [.list false k (l.map ePr), ePr p] (.int .i64 (match idxP p l 0 with | some i => (i : Int) | none => -1)) := by
  refine .run 60 c_slices_Index_2_int_2_int (by simp) ?_
  have key : ∀ n i : Nat, i + n = l.length → Fins Try.prog Γ (slices_Index_2_int_2_int_L1 (.list false k (l.map ePr)) (.ptr 0 0) (.int .i64 l.length) (.int .i64 i) [.cells [.int .i64 p.1, .int .i64 p.2]]) (.ret (.int .i64 (match idxP p (l.drop i) i with | some i => (i : Int) | none => -1))) := by
    intro n
    induction n with
    | zero =>
      intro i hi
      have q1 : ¬ i < l.length := by omega
      rw [List.drop_eq_nil_of_le (by omega)]
      refine .go 60 ?_
      simp [q1, idxP]
      exact .back (by simp)
    | succ n ih =>
      intro i hi
      have q1 : i < l.length := by omega
      have q2 := eq_true (hk.of q1)
      rw [List.drop_eq_getElem_cons q1, idxP]
      have h5 := eqData_pr' p.1 p.2 l[i].1 l[i].2
      refine .go 60 ?_
      by_cases h3 : l[i] = p
      · have h6 : ((p.1, p.2) = (l[i].1, l[i].2)) = True := eq_true h3.symm
        rw [if_pos h3]
        simp (disch := omega) [q1, q2, h5, h6, -Prod.mk.injEq]
        exact .back (by simp)
      · have h6 : ((p.1, p.2) = (l[i].1, l[i].2)) = False := eq_false (fun e => h3 e.symm)
        rw [if_neg h3]
        simp (disch := omega) [q1, q2, h5, h6, -Prod.mk.injEq]
        refine .reLoop ?_
        have hh := ih (i + 1) (by omega)
        simp at hh ⊢
        exact hh
  simp
  refine .inLoop ?_
  have hh := key l.length 0 (by omega)
  simp at hh ⊢
  exact hh
theorem p_slices_Contains_2_int_2_int (l : List (Int × Int)) {k : Nat} (hk : Kd 2 k l) (hl : l.length < 2 ^ 60) (p : Int × Int) : PureCon Try.prog Γ n_slices_Contains_2_int_2_int [.list false k (l.map ePr), ePr p] (.bool (decide (p ∈ l))) := by
  refine .run 60 c_slices_Contains_2_int_2_int (by simp) ?_
  simp
  refine .call 60 (by simp) (p_slices_Index_2_int_2_int l hk hl p) ?_
  cases h : idxP p l 0 with
  | some i =>
    have h2 : p ∈ l := by
      obtain ⟨_, h3, h4⟩ := idxP_some h
      rw [← h4]; exact List.getElem_mem h3
    simp [h2]
    exact .back (by simp)
  | none =>
    have h2 : p ∉ l := idxP_none.1 h
    simp [h2]
    exact .back (by simp)
/-- Are two graphs alike? -/
def sameG (a b : Gr) : Bool := decide (a.ins = b.ins) && decide (a.next = b.next) && decide (a.init = b.init) && decide (a.ands = b.ands) && decide (a.outs = b.outs)
theorem p_aig_Same (a b : Gr) (ha : a.few) : PureCon Try.prog Γ n_aig_Same [eGr a, eGr b] (.bool (sameG a b)) := by
  have f1 := ha.1; have f2 := ha.2.1; have f3 := ha.2.2.1; have f4 := ha.2.2.2
  refine .run 60 c_aig_Same (by simp) ?_
  unfold sameG
  by_cases h1 : a.ins = b.ins
  · simp [h1]
    refine .call 60 (by simp) (p_slices_Equal_int_int a.next b.next a.hn b.hn (by omega)) ?_
    by_cases h2 : a.next = b.next
    · have h2' := eq_true h2
      simp [h2']
      refine .call 60 (by simp) (p_slices_Equal_int_int a.init b.init a.hi b.hi (by omega)) ?_
      by_cases h3 : a.init = b.init
      · have h3' := eq_true h3
        simp [h3']
        refine .call 60 (by simp) (p_slices_Equal_2_int_2_int a.ands b.ands a.ha b.ha (by omega)) ?_
        by_cases h4 : a.ands = b.ands
        · have h4' := eq_true h4
          simp [h4']
          refine .call 60 (by simp) (p_slices_Equal_int_int a.outs b.outs a.ho b.ho (by omega)) ?_
          simp
          exact .back (by simp)
        · simp [h4]
          exact .back (by simp)
      · simp [h3]
        exact .back (by simp)
    · simp [h2]
      exact .back (by simp)
  · simp [h1]
    exact .back (by simp)

/-- Is an and not as it should be? -/
def Gr.badA (g : Gr) (i : Nat) : Bool :=
  decide ((g.ands.getD i (0, 0)).1 ≤ (g.ands.getD i (0, 0)).2) || decide ((g.ands.getD i (0, 0)).2 ≤ 1) || decide ((g.ands.getD i (0, 0)).1.toNat / 2 = (g.ands.getD i (0, 0)).2.toNat / 2) || !g.led.getD (g.first + i) false || decide (g.ands.getD i (0, 0) ∈ g.ands.take i)
def Gr.strict (g : Gr) : Bool := decide (g.check = 0) && !anyB g.badA (List.range g.ands.length)
theorem range_drop {n i : Nat} (h : i < n) : (List.range n).drop i = i :: (List.range n).drop (i + 1) := by
  rw [List.drop_eq_getElem_cons (by simpa using h)]; simp

set_option maxRecDepth 8000 in
theorem p_aig_Strict (g : Gr) (hf : g.few) : PureCon Try.prog Γ n_aig_Strict [eGr g] (.bool g.strict) := by
  refine .run 60 c_aig_Strict (by simp) ?_
  simp
  refine .call 60 (by simp) (p_aig_Check g hf) ?_
  unfold Gr.strict
  by_cases hc : g.check = 0
  · have ok := Gr.ok_of hc
    have o1 := ok.ins
    have o3 := ok.sum
    have hfb : g.first ≤ 8001 := by unfold Gr.first; omega
    have hfirst := p_aig_first (Γ := Γ) g o1.1 o1.2 (by omega)
    have hll := led_len g
    simp [hc]
    refine .call 60 (by simp) (p_aig_led g ok) ?_
    have key : ∀ n i : Nat, i + n = g.ands.length → Fins Try.prog Γ (aig_Strict_L1 (.ptr 0 0) (.sl 1 0 g.led.length) (.list false g.ka (g.ands.map ePr)) (.int .i64 g.ands.length) (.int .i64 i) [cellG g, .row 1 t_bool (g.led.map .bool) none true false]) (.ret (.bool (!anyB g.badA ((List.range g.ands.length).drop i)))) := by
      intro n
      induction n with
      | zero =>
        intro i hi
        have q1 : ¬ i < g.ands.length := by omega
        rw [List.drop_eq_nil_of_le (by simp; omega)]
        refine .go 60 ?_
        simp [q1]
        exact .back (by simp)
      | succ n ih =>
        intro i hi
        have q1 : i < g.ands.length := by omega
        have q2 := eq_true (g.ha.of q1)
        obtain ⟨⟨b1, b2⟩, b3, b4⟩ := ok.ands i q1
        obtain ⟨x, hx⟩ := Int.eq_ofNat_of_zero_le b1
        obtain ⟨y, hy⟩ := Int.eq_ofNat_of_zero_le b3
        have hh := ih (i + 1) (by omega)
        have q3 : g.first + i < g.led.length := by rw [hll]; unfold Gr.all; omega
        have e1 : (g.first : Int) + i = ((g.first + i : Nat) : Int) := by omega
        have hcon := p_slices_Contains_2_int_2_int (Γ := Γ) (g.ands.take i) (k := 2) .self (by simp; omega) ((x : Int), (y : Int))
        have hget : g.ands.getD i (0, 0) = ((x : Int), (y : Int)) := by
          rw [List.getD_eq_getElem?_getD, List.getElem?_eq_getElem q1]
          exact Prod.ext hx hy
        rw [range_drop q1, anyB_cons]
        have hbad : g.badA i = (decide (x ≤ y) || decide (y ≤ 1) || decide (x / 2 = y / 2) || !g.led[g.first + i] || decide (((x : Int), (y : Int)) ∈ g.ands.take i)) := by
          unfold Gr.badA
          rw [hget, List.getD_eq_getElem?_getD, List.getElem?_eq_getElem q3]
          simp only [Int.toNat_natCast, Option.getD_some]
          congr 4 <;> (apply decide_eq_decide.2; omega)
        rw [hbad]
        refine .go 60 ?_
        by_cases c1 : x ≤ y
        · simp (disch := omega) [q1, q2, c1, hx, hy]
          exact .back (by simp)
        · by_cases c2 : y ≤ 1
          · have c2' : ((y : Int) ≤ 1) = True := eq_true (by omega)
            simp (disch := omega) [q1, q2, c1, c2, c2', hx, hy]
            exact .back (by simp)
          · have c2' : ((y : Int) ≤ 1) = False := eq_false (by omega)
            by_cases c3 : x / 2 = y / 2
            · simp (disch := omega) [q1, q2, c1, c2, c2', c3, hx, hy, -Int.natCast_ediv, -Int.natCast_emod]
              exact .back (by simp)
            · simp (disch := omega) [q1, q2, c1, c2, c2', c3, hx, hy, -Int.natCast_ediv, -Int.natCast_emod]
              refine .dr 60 ?_
              simp (disch := omega) [c1, c2, c2', c3, hx, hy, -Int.natCast_ediv, -Int.natCast_emod]
              refine .call (by simp) hfirst ?_
              by_cases c4 : g.led[g.first + i] = true
              · have q5 : i ≤ g.ands.length := by omega
                simp (disch := omega) [c1, c2, c2', c3, c4, e1, q2, q3, q5, hx, hy, -Int.natCast_add]
                refine .call (by simp [q2]) hcon ?_
                by_cases c5 : ((x : Int), (y : Int)) ∈ g.ands.take i
                · simp [c5]
                  exact .back (by simp)
                · simp (disch := omega) [c5]
                  refine .reLoop ?_
                  simp
                  refine .drop 2 rfl (by simp) (by simp) (by simp) ?_
                  simp at hh ⊢
                  exact hh
              · simp (disch := omega) [c1, c2, c2', c3, c4, e1, q3, hx, hy, -Int.natCast_add]
                exact .back (by simp)
    simp
    refine .inLoop ?_
    have hh := key g.ands.length 0 (by omega)
    simp at hh ⊢
    exact hh
  · simp [hc]
    exact .back (by simp)
end Go.Proofs.Ytdmedcdloeljeaa
/- Chapter 9's example. -/
namespace Go.Proofs.Ytdmedcdloeljeaa
open Go.AM Go.Proofs
variable {Γ : Nat → Option AV}
set_option linter.unusedSimpArgs false
set_option linter.unusedVariables false

def gT : Gr := ⟨2, [8], [2], [(4, 2)], [9, 0], 1, 1, 2, 1, .self, .self, .self, .self⟩
def gJ : Gr := ⟨2, [8], [2], [(4, 2), (6, 2)], [9, 0], 1, 1, 2, 1, .self, .self, .self, .self⟩
def gU : Gr := ⟨2, [10], [2], [(4, 2), (2, 4)], [9, 0], 1, 1, 2, 1, .self, .self, .self, .self⟩
def gV : Gr := ⟨0, [], [], [], [2], 0, 0, 0, 1, .nil, .nil, .nil, .self⟩
theorem gT_few : gT.few := by unfold Gr.few gT; decide
theorem gJ_few : gJ.few := by unfold Gr.few gJ; decide
theorem gU_few : gU.few := by unfold Gr.few gU; decide
theorem gV_few : gV.few := by unfold Gr.few gV; decide

set_option maxRecDepth 8000 in
theorem p_w09_works : PureCon Try.prog Γ n_w09_works [] (.bool true) := by
  have a1 := p_aig_And (Γ := Γ) gT gT_few 2 3
  have e1 : eGr (gT.andR 2 3) = eGr gT := by kernel_rfl
  have f1 : gT.andC 2 3 = 0 := by kernel_rfl
  have g1 : gT.andE 2 3 = 0 := by kernel_rfl
  rw [e1, f1, g1] at a1
  have a2 := p_aig_And (Γ := Γ) gT gT_few 2 4
  have e2 : eGr (gT.andR 2 4) = eGr gT := by kernel_rfl
  have f2 : gT.andC 2 4 = 8 := by kernel_rfl
  have g2 : gT.andE 2 4 = 0 := by kernel_rfl
  rw [e2, f2, g2] at a2
  have a3 := p_aig_And (Γ := Γ) gT gT_few 2 6
  have e3 : eGr (gT.andR 2 6) = eGr gJ := by kernel_rfl
  have f3 : gT.andC 2 6 = 10 := by kernel_rfl
  have g3 : gT.andE 2 6 = 0 := by kernel_rfl
  rw [e3, f3, g3] at a3
  have a4 := p_aig_Step (Γ := Γ) gT gT_few [false] [true, true] (ks := 1) (ki := 1) .self .self (by decide) (by decide)
  have e4 : gT.stepO [false] [true, true] = [false, false] := by kernel_rfl
  have f4 : gT.stepN [false] [true, true] = [true] := by kernel_rfl
  have g4 : gT.valuesE [false] [true, true] = 0 := by kernel_rfl
  rw [e4, f4, g4] at a4
  have a5 := p_aig_Normal (Γ := Γ) gU gU_few
  have e5 : eGr gU.normal = eGr gT := by kernel_rfl
  have g5 : gU.check = 0 := by kernel_rfl
  rw [e5, g5] at a5
  have a6 := p_aig_Values (Γ := Γ) gT gT_few [true] [true, false] (ks := 1) (ki := 1) .self .self (by decide) (by decide)
  have e6 : gT.values [true] [true, false] = [false, true, false, true, false] := by kernel_rfl
  have g6 : gT.valuesE [true] [true, false] = 0 := by kernel_rfl
  rw [e6, g6] at a6
  have s1 : sameG gT gT = true := by kernel_rfl
  have a7 := p_aig_Same (Γ := Γ) gT gT gT_few
  rw [s1] at a7
  have a8 := p_aig_Strict (Γ := Γ) gT gT_few
  have e8 : gT.strict = true := by kernel_rfl
  rw [e8] at a8
  have a9 := p_aig_Strict (Γ := Γ) gU gU_few
  have e9 : gU.strict = false := by kernel_rfl
  rw [e9] at a9
  have b1 := p_aig_Check (Γ := Γ) gV gV_few
  have h1 : gV.check = 1 := by kernel_rfl
  rw [h1] at b1
  simp only [gT, gJ, gU, gV] at a1 a2 a3 a4 a5 a6 a7 a8 a9 b1
  refine .run 60 c_w09_works (by simp) ?_
  simp
  refine .call 120 (by simp) a1 ?_
  simp
  refine .call 120 (by simp) a2 ?_
  simp
  refine .call 120 (by simp) a3 ?_
  simp
  refine .call 120 (by simp) a4 ?_
  simp
  refine .call 120 (by simp) a5 ?_
  simp
  refine .call 120 (by simp) a6 ?_
  simp
  refine .call 120 (by simp) a7 ?_
  simp
  refine .call 120 (by simp) a7 ?_
  simp
  have c1 := p_r08_Bools (Γ := Γ) [false, false] [false, false] (ka := 1) (kb := 1) .self .self (by decide)
  have c2 := p_r08_Bools (Γ := Γ) [true] [true] (ka := 1) (kb := 1) .self .self (by decide)
  have c3 := p_r08_Bools (Γ := Γ) [false, true, false, true, false] [false, true, false, true, false] (ka := 1) (kb := 1) .self .self (by decide)
  simp at c1 c2 c3
  refine .call 120 (by simp) c1 ?_
  simp
  refine .call 120 (by simp) c2 ?_
  simp
  refine .call 120 (by simp) a7 ?_
  simp
  refine .call 120 (by simp) a8 ?_
  simp
  refine .call 120 (by simp) a9 ?_
  simp
  refine .call 120 (by simp) b1 ?_
  simp
  refine .call 120 (by simp) c3 ?_
  simp
  exact .back (by simp)
end Go.Proofs.Ytdmedcdloeljeaa
/- Chapter 9: a step, by the reference; small graphs. The law: AigSteps. -/
namespace Go.Proofs.Ytdmedcdloeljeaa
open Go.AM Go.Proofs
variable {Γ : Nat → Option AV}
set_option linter.unusedSimpArgs false
set_option linter.unusedVariables false

@[simp] theorem lt60 (n : Nat) : ((60 : Int) < n) = (60 < n) := propext (by omega)
@[simp] theorem le60 (n : Nat) : ((n : Int) ≤ 60) = (n ≤ 60) := propext (by omega)
@[simp] theorem le40 (n : Nat) : ((n : Int) ≤ 40) = (n ≤ 40) := propext (by omega)
def Gr.fewB (g : Gr) : Bool := (decide (g.ins ≤ 100) || decide (4000 < g.ins)) && decide (g.next.length ≤ 40) && decide (g.init.length ≤ 40) && decide (g.ands.length ≤ 60) && decide (g.outs.length ≤ 60)
theorem p_w09_Few (g : Gr) : PureCon Try.prog Γ n_w09_Few [eGr g] (.bool g.fewB) := by
  refine .run 60 c_w09_Few (by simp) ?_
  unfold Gr.fewB
  by_cases h1 : g.ins ≤ 100 <;> by_cases h2 : 4000 < g.ins <;> by_cases h3 : g.next.length ≤ 40 <;> by_cases h4 : g.init.length ≤ 40 <;> by_cases h5 : g.ands.length ≤ 60 <;> simp [h1, h2, h3, h4, h5] <;> exact .back (by simp)
theorem Gr.fewB_few {g : Gr} (h : g.fewB = true) : g.few := by
  simp only [Gr.fewB, Bool.and_eq_true, decide_eq_true_eq] at h
  unfold Gr.few; omega

set_option maxRecDepth 8000 in
theorem p_r09_Step (g : Gr) (hf : g.few) (state ins : List Bool) {ks ki : Nat} (hs : Kd 1 ks state) (hi : Kd 1 ki ins) (hl1 : state.length < 2 ^ 40) (hl2 : ins.length < 2 ^ 40) :
    PureCon Try.prog Γ n_r09_Step [eGr g, .list false ks (state.map .bool), .list false ki (ins.map .bool)]
      (.tup [.own 1 t_bool ((g.stepO state ins).map .bool), .own 1 t_bool ((g.stepN state ins).map .bool), .int .i64 (g.valuesE state ins)]) := by
  refine .run 60 c_r09_Step (by simp) ?_
  simp
  refine .call 60 (by simp) (p_r09_Values g hf state ins hs hi hl1 hl2) ?_
  unfold Gr.stepO Gr.stepN Gr.values
  by_cases hE : g.valuesE state ins = 0
  · obtain ⟨ok, d1, d2⟩ := Gr.ok_E hE
    have hvl := g.vals_len state ins
    obtain ⟨o1, o2⟩ := ok.ins
    have o3 := ok.sum
    have o4 := ok.outsL
    have hlit : g.lits = 2 * (g.vals state ins).length := by rw [hvl]; simp [Gr.lits, Gr.all, Gr.first]; omega
    have hO : ∀ a ∈ g.outs, 0 ≤ a ∧ a < 2 * (g.vals state ins).length := fun a ha => by have := ok.outs a ha; omega
    have hN : ∀ a ∈ g.next, 0 ≤ a ∧ a < 2 * (g.vals state ins).length := fun a ha => by have := ok.next a ha; omega
    have hvl2 : (g.vals state ins).length < 2 ^ 38 := by omega
    simp [hE]
    generalize g.vals state ins = v at *
    have key1 : ∀ n j : Nat, j + n = g.next.length → ∀ w, w = litsV v (g.next.take j) → Fins Try.prog Γ (r09_Step_L1 (.ptr 0 0) (.sl 3 0 v.length) (.sl 4 0 g.outs.length) (.sl 5 0 w.length) (.int .i64 j)
        [.cells [.int .i64 g.ins, .list false g.kn (g.next.map i64), .list false g.ki (g.init.map i64), .list false g.ka (g.ands.map ePr), .list false g.ko (g.outs.map i64)], .row 1 t_bool [] none true false, .row 1 t_bool [] none true false, .row 1 t_bool (v.map .bool) none true false, .row 1 t_bool ((litsV v g.outs).map .bool) none true false, .row 1 t_bool (w.map .bool) none true false])
        (.ret (.tup [.own 1 t_bool ((litsV v g.outs).map .bool), .own 1 t_bool ((litsV v g.next).map .bool), .int .i64 0])) := by
      intro n
      induction n with
      | zero =>
        intro j hj w hw
        have q1 : ¬ j < g.next.length := by omega
        rw [List.take_of_length_le (by omega)] at hw
        subst hw
        refine .go 60 ?_
        simp [q1]
        exact .back (by simp)
      | succ n ih =>
        intro j hj w hw
        have q1 : j < g.next.length := by omega
        have q2 := eq_true (g.hn.of q1)
        obtain ⟨a1, a2⟩ := hN g.next[j] (List.getElem_mem q1)
        obtain ⟨x, hx⟩ := Int.eq_ofNat_of_zero_le a1
        have hwl : w.length = j := by rw [hw]; simp; omega
        have hc := p_r09_Lit (Γ := Γ) v x (by omega) (by omega)
        have hh := ih (j + 1) (by omega) _ rfl
        rw [litsV_take q1, ← hw, hx] at hh
        simp only [Int.toNat_natCast] at hh
        refine .go 60 ?_
        simp (disch := omega) [q1, q2, hx]
        refine .call 60 (by simp) hc ?_
        simp (disch := (first | omega | (simp; omega))) [q1, q2]
        refine .reLoop ?_
        simp
        refine .reset (i := 5) rfl (by simp) (by simp) (by simp) ?_
        simp at hh ⊢
        exact hh
    have key6 : ∀ n j : Nat, j + n = g.outs.length → ∀ w, w = litsV v (g.outs.take j) → Fins Try.prog Γ (r09_Step_L6 (.ptr 0 0) (.sl 3 0 v.length) (.sl 4 0 w.length) (.sl 5 0 0) (.int .i64 j)
        [.cells [.int .i64 g.ins, .list false g.kn (g.next.map i64), .list false g.ki (g.init.map i64), .list false g.ka (g.ands.map ePr), .list false g.ko (g.outs.map i64)], .row 1 t_bool [] none true false, .row 1 t_bool [] none true false, .row 1 t_bool (v.map .bool) none true false, .row 1 t_bool (w.map .bool) none true false, .row 1 t_bool [] none true false])
        (.ret (.tup [.own 1 t_bool ((litsV v g.outs).map .bool), .own 1 t_bool ((litsV v g.next).map .bool), .int .i64 0])) := by
      intro n
      induction n with
      | zero =>
        intro j hj w hw
        have q1 : ¬ j < g.outs.length := by omega
        rw [List.take_of_length_le (by omega)] at hw
        subst hw
        refine .go 60 ?_
        simp [q1]
        refine .inLoop ?_
        simp
        have hh := key1 g.next.length 0 (by omega) [] (by simp [litsV])
        simp at hh ⊢
        exact hh
      | succ n ih =>
        intro j hj w hw
        have q1 : j < g.outs.length := by omega
        have q2 := eq_true (g.ho.of q1)
        obtain ⟨a1, a2⟩ := hO g.outs[j] (List.getElem_mem q1)
        obtain ⟨x, hx⟩ := Int.eq_ofNat_of_zero_le a1
        have hwl : w.length = j := by rw [hw]; simp; omega
        have hc := p_r09_Lit (Γ := Γ) v x (by omega) (by omega)
        have hh := ih (j + 1) (by omega) _ rfl
        rw [litsV_take q1, ← hw, hx] at hh
        simp only [Int.toNat_natCast] at hh
        refine .go 60 ?_
        simp (disch := omega) [q1, q2, hx]
        refine .call 60 (by simp) hc ?_
        simp (disch := (first | omega | (simp; omega))) [q1, q2]
        refine .reLoop ?_
        simp
        refine .reset (i := 4) rfl (by simp) (by simp) (by simp) ?_
        simp at hh ⊢
        exact hh
    refine .inLoop ?_
    simp
    have hh := key6 g.outs.length 0 (by omega) [] (by simp [litsV])
    simp at hh ⊢
    exact hh
  · simp [hE]
    exact .back (by simp [hE])

theorem l_AigSteps (g : Gr) (state ins : List Bool) {ks ki : Nat} (hs : Kd 1 ks state) (hi : Kd 1 ki ins) :
    PureCon Try.prog Γ n_w09_AigSteps [eGr g, .list false ks (state.map .bool), .list false ki (ins.map .bool)] (.bool true) := by
  refine .run 60 c_w09_AigSteps (by simp) ?_
  simp
  refine .call 60 (by simp) p_w09_works ?_
  simp
  refine .call 60 (by simp) (p_w09_Few g) ?_
  cases hF : g.fewB with
  | false => simp; exact .back (by simp)
  | true =>
    have hf := Gr.fewB_few hF
    by_cases h1 : 60 < state.length
    · simp [h1]; exact .back (by simp)
    · by_cases h2 : 60 < ins.length
      · simp [h1, h2]; exact .back (by simp)
      · simp [h1, h2]
        refine .call 60 (by simp) (p_aig_Values g hf state ins hs hi (by omega) (by omega)) ?_
        simp
        refine .call 60 (by simp) (p_r09_Values g hf state ins hs hi (by omega) (by omega)) ?_
        simp
        refine .call 60 (by simp) (p_aig_Step g hf state ins hs hi (by omega) (by omega)) ?_
        simp
        refine .call 60 (by simp) (p_r09_Step g hf state ins hs hi (by omega) (by omega)) ?_
        simp
        have b1 : (g.values state ins).length < 2 ^ 60 := by
          unfold Gr.values; split
          · rw [g.vals_len]; have := hf.2.2.1; omega
          · simp
        have b2 : (g.stepO state ins).length < 2 ^ 60 := by
          unfold Gr.stepO; split
          · rw [litsV_len]; have := hf.2.2.2; omega
          · simp
        have b3 : (g.stepN state ins).length < 2 ^ 60 := by
          unfold Gr.stepN; split
          · rw [litsV_len]; have := hf.1; omega
          · simp
        refine .call 60 (by simp) (p_r08_Bools (g.values state ins) (g.values state ins) (ka := 1) (kb := 1) .self .self b1) ?_
        simp
        refine .call 60 (by simp) (p_r08_Bools (g.stepO state ins) (g.stepO state ins) (ka := 1) (kb := 1) .self .self b2) ?_
        simp
        refine .call 60 (by simp) (p_r08_Bools (g.stepN state ins) (g.stepN state ins) (ka := 1) (kb := 1) .self .self b3) ?_
        simp
        exact .back (by simp)
end Go.Proofs.Ytdmedcdloeljeaa
