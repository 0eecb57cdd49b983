/- A list's elements' size. -/
import Derived.Test.YtpjpaojjagffoaaDoorAMd
import Derived.Test.YtpjpaojjagffoaaDoorCode
import Derived.Shelf.Strings.SlTrimAscii
import Derived.Test.YtpjpaojjagffoaaDoorShelf
set_option linter.unusedSimpArgs false
set_option linter.unusedVariables false
namespace Go.Proofs.YtpjpaojjagffoaaDoor
open Go.AM Go.Proofs
/-- A list may have its elements' size, or any if it is empty. -/
def Kd (n k : Nat) {α : Type} (l : List α) : Prop := k = n ∨ l = []
theorem Kd.of {n k : Nat} {α : Type} {l : List α} (h : Kd n k l) {i : Nat} (hi : i < l.length) : k = n := by
  rcases h with h | h
  · exact h
  · subst h; simp at hi
theorem Kd.self {n : Nat} {α : Type} {l : List α} : Kd n n l := .inl rfl
theorem Kd.nil {n k : Nat} {α : Type} : Kd n k ([] : List α) := .inr rfl
@[simp] abbrev i64 (n : Int) : AV := .int .i64 n
end Go.Proofs.YtpjpaojjagffoaaDoor
/- Netlists: what they are as trees. -/
namespace Go.Proofs.YtpjpaojjagffoaaDoor
open Go.AM Go.Proofs
variable {Γ : Nat → Option AV}
set_option linter.unusedSimpArgs false
set_option linter.unusedVariables false

abbrev Bs := List UInt8
/-- A latch. -/
structure Lt where
  name : Bs
  next : Bs
  init : Int
  deriving DecidableEq
abbrev eLt (q : Lt) : AV := .agg [.str q.name, .str q.next, .int .i64 q.init]
/-- A gate; ki, kr are the sizes of its rows' elements. -/
structure Gt where
  name : Bs
  op : Int
  ins : List Bs
  rows : List Bs
  off : Bool
  ki : Nat
  kr : Nat
  hi : Kd 1 ki ins
  hr : Kd 1 kr rows
abbrev eGt (g : Gt) : AV := .agg [.str g.name, .int .i64 g.op, .list false g.ki (g.ins.map .str), .list false g.kr (g.rows.map .str), .bool g.off]
/-- A netlist. -/
structure Ct where
  inputs : List Bs
  outputs : List Bs
  latches : List Lt
  gates : List Gt
  kI : Nat
  kO : Nat
  kL : Nat
  kG : Nat
  hI : Kd 1 kI inputs
  hO : Kd 1 kO outputs
  hL : Kd 3 kL latches
  hG : Kd 5 kG gates
abbrev eCt (c : Ct) : AV := .agg [.list false c.kI (c.inputs.map .str), .list false c.kO (c.outputs.map .str), .list false c.kL (c.latches.map eLt), .list false c.kG (c.gates.map eGt)]

theorem eqData_lt (a b : Lt) : eqData (.strct [.str, .str, .int]) (eLt a) (eLt b) = some (decide (a = b)) := by
  obtain ⟨n, x, i⟩ := a
  obtain ⟨m, y, j⟩ := b
  simp only [eqData, allDatum, isDatum, eqAll, eqOne, Lt.mk.injEq]
  cases h1 : (n == m)
  · have := beq_eq_false_iff_ne.1 h1
    simp [this]
  · have e1 := eq_of_beq h1
    cases h2 : (x == y)
    · have := beq_eq_false_iff_ne.1 h2
      simp [this]
    · have e2 := eq_of_beq h2
      cases h3 : (i == j)
      · have := beq_eq_false_iff_ne.1 h3
        simp [this]
      · have e3 := eq_of_beq h3
        simp [e1, e2, e3]
/-- Not too many, and not too long ones. -/
def GtFew (g : Gt) : Prop := g.name.length < 2 ^ 40 ∧ g.ins.length < 2 ^ 10 ∧ g.rows.length < 2 ^ 10 ∧ (∀ s ∈ g.ins, s.length < 2 ^ 40) ∧ ∀ s ∈ g.rows, s.length < 2 ^ 40
def CtFew (c : Ct) : Prop := c.inputs.length < 2 ^ 10 ∧ c.outputs.length < 2 ^ 10 ∧ c.latches.length < 2 ^ 10 ∧ c.gates.length < 2 ^ 10 ∧ (∀ g ∈ c.gates, GtFew g) ∧
  (∀ s ∈ c.inputs, s.length < 2 ^ 40) ∧ (∀ s ∈ c.outputs, s.length < 2 ^ 40) ∧ ∀ q ∈ c.latches, q.name.length < 2 ^ 40 ∧ q.next.length < 2 ^ 40
theorem grow1 {α β : Type} (a : List β) (f : α → β) (l : List α) {i : Nat} (h : i < l.length) : a ++ (l.drop i).map f = a ++ [f l[i]] ++ (l.drop (i + 1)).map f := by
  rw [List.drop_eq_getElem_cons h, List.map_cons, List.append_assoc]; rfl
/-- All nets. -/
def netsC (c : Ct) : List Bs := c.inputs ++ c.latches.map (·.name) ++ c.gates.map (·.name)

end Go.Proofs.YtpjpaojjagffoaaDoor
/- Forms: their nodes; how many literals, whether they are alike. -/
namespace Go.Proofs.YtpjpaojjagffoaaDoor
open Go.AM Go.Proofs
variable {Γ : Nat → Option AV}
set_option linter.unusedSimpArgs false
set_option linter.unusedVariables false

/-- A node of a form. -/
structure Fm where
  kind : Int
  lit : Int
  kids : Int
  deriving DecidableEq
abbrev eFm (f : Fm) : AV := .agg [.int .i64 f.kind, .int .i64 f.lit, .int .i64 f.kids]
theorem eqData_fm (a b : Fm) : eqData (.strct [.int, .int, .int]) (eFm a) (eFm b) = some (decide (a = b)) := by
  obtain ⟨n, x, i⟩ := a
  obtain ⟨m, y, j⟩ := b
  simp only [eqData, allDatum, isDatum, eqAll, eqOne, Fm.mk.injEq, if_true]
  cases h1 : (n == m)
  · have := beq_eq_false_iff_ne.1 h1
    simp [this]
  · have e1 := eq_of_beq h1
    cases h2 : (x == y)
    · have := beq_eq_false_iff_ne.1 h2
      simp [this]
    · have e2 := eq_of_beq h2
      cases h3 : (i == j)
      · have := beq_eq_false_iff_ne.1 h3
        simp [this]
      · have e3 := eq_of_beq h3
        simp [e1, e2, e3]

/-- How many literals. -/
def litsN : List Fm → Nat
  | [] => 0
  | f :: l => (if f.kind = 2 then 1 else 0) + litsN l
theorem litsN_le : ∀ l : List Fm, litsN l ≤ l.length
  | [] => Nat.le_refl _
  | f :: l => by rw [litsN, List.length_cons]; have := litsN_le l; split <;> omega
theorem litsN_append : ∀ a b : List Fm, litsN (a ++ b) = litsN a + litsN b
  | [], b => by simp [litsN]
  | f :: a, b => by rw [List.cons_append, litsN, litsN, litsN_append a b]; omega

theorem p_cover_Literals (l : List Fm) {k : Nat} (hk : Kd 3 k l) (hl : l.length < 2 ^ 40) : PureCon Tryd.prog Γ n_cover_Literals [.list false k (l.map eFm)] (.int .i64 (litsN l)) := by
  have key : ∀ n i : Nat, i + n = l.length → ∀ a : Nat, a + n < 2 ^ 41 → Fins Tryd.prog Γ (cover_Literals_L1 (.int .i64 a) (.list false k (l.map eFm)) (.int .i64 l.length) (.int .i64 i) []) (.ret (.int .i64 (a + litsN (l.drop i) : Nat))) := by
    intro n
    induction n with
    | zero =>
      intro i hi a ha
      have q1 : ¬ i < l.length := by omega
      rw [List.drop_eq_nil_of_le (by omega), litsN]
      refine .go 60 ?_
      simp [q1]
      exact .back (by simp)
    | succ n ih =>
      intro i hi a ha
      have q1 : i < l.length := by omega
      have q2 := eq_true (hk.of q1)
      rw [List.drop_eq_getElem_cons q1, litsN]
      refine .go 60 ?_
      by_cases h3 : l[i].kind = 2
      · have hh := ih (i + 1) (by omega) (a + 1) (by omega)
        simp (disch := omega) [q1, q2, h3]
        refine .reLoop ?_
        simp
        refine .drop 0 rfl (by simp) (by simp) (by simp) ?_
        simp [q2, ← Int.add_assoc] at hh ⊢
        exact hh
      · have hh := ih (i + 1) (by omega) a (by omega)
        simp (disch := omega) [q1, q2, h3]
        refine .reLoop ?_
        simp
        refine .drop 0 rfl (by simp) (by simp) (by simp) ?_
        simp [q2] at hh ⊢
        exact hh
  refine .run 60 c_cover_Literals (by simp) ?_
  simp
  refine .inLoop ?_
  have hh := key l.length 0 (by omega) 0 (by omega)
  simp at hh ⊢
  exact hh
theorem p_r10_Literals (l : List Fm) {k : Nat} (hk : Kd 3 k l) (hl : l.length < 2 ^ 40) : PureCon Tryd.prog Γ n_r10_Literals [.list false k (l.map eFm)] (.int .i64 (litsN l)) := by
  have key : ∀ n i : Nat, i + n = l.length → ∀ a : Nat, a + n < 2 ^ 41 → Fins Tryd.prog Γ (r10_Literals_L1 (.list false k (l.map eFm)) (.int .i64 a) (.int .i64 i) []) (.ret (.int .i64 (a + litsN (l.drop i) : Nat))) := by
    intro n
    induction n with
    | zero =>
      intro i hi a ha
      have q1 : ¬ i < l.length := by omega
      rw [List.drop_eq_nil_of_le (by omega), litsN]
      refine .go 60 ?_
      simp [q1]
      exact .back (by simp)
    | succ n ih =>
      intro i hi a ha
      have q1 : i < l.length := by omega
      have q2 := eq_true (hk.of q1)
      rw [List.drop_eq_getElem_cons q1, litsN]
      refine .go 60 ?_
      by_cases h3 : l[i].kind = 2
      · have hh := ih (i + 1) (by omega) (a + 1) (by omega)
        simp (disch := omega) [q1, q2, h3]
        refine .reLoop ?_
        simp [q2, ← Int.add_assoc] at hh ⊢
        exact hh
      · have hh := ih (i + 1) (by omega) a (by omega)
        simp (disch := omega) [q1, q2, h3]
        refine .reLoop ?_
        simp [q2] at hh ⊢
        exact hh
  refine .run 60 c_r10_Literals (by simp) ?_
  simp
  refine .inLoop ?_
  have hh := key l.length 0 (by omega) 0 (by omega)
  simp at hh ⊢
  exact hh
theorem p_r10_Same (a b : List Fm) {ka kb : Nat} (ha : Kd 3 ka a) (hb : Kd 3 kb b) (hs : a.length < 2 ^ 60) : PureCon Tryd.prog Γ n_r10_Same [.list false ka (a.map eFm), .list false kb (b.map eFm)] (.bool (decide (a = b))) := by
  refine .run 60 c_r10_Same (by simp) ?_
  by_cases hl : a.length = b.length
  · have key : ∀ n i : Nat, i + n = a.length → Fins Tryd.prog Γ (r10_Same_L1 (.list false ka (a.map eFm)) (.list false kb (b.map eFm)) (.int .i64 i) []) (.ret (.bool (decide (a.drop i = b.drop i)))) := by
      intro n
      induction n with
      | zero =>
        intro i hi
        refine .go 60 ?_
        have h1 : ¬ i < a.length := by omega
        have h2 : a.drop i = b.drop i := by rw [List.drop_eq_nil_of_le (by omega), List.drop_eq_nil_of_le (by omega)]
        simp [h1, h2]
        exact .back (by simp)
      | succ n ih =>
        intro i hi
        have h1 : i < a.length := by omega
        have h2 : i < b.length := by omega
        obtain rfl := ha.of h1
        obtain rfl := hb.of h2
        have h4 := drop_eq h1 h2
        refine .go 60 ?_
        by_cases h3 : a[i] = b[i]
        · simp (disch := omega) [h1, h2, h3, h4, eqData_fm]
          refine .reLoop ?_
          simpa using ih (i + 1) (by omega)
        · simp (disch := omega) [h1, h2, h3, h4, eqData_fm]
          exact .back (by simp)
    simp [hl]
    refine .inLoop ?_
    simpa [hl] using key a.length 0 (by omega)
  · have h2 : ¬ a = b := fun e => hl (by rw [e])
    have h3 : ¬ (a.length : Int) = b.length := by omega
    simp [h3, h2]
    exact .back (by simp)
theorem p_w10_Of (l : List Fm) {k : Nat} (hk : Kd 3 k l) (hl : l.length < 2 ^ 40) : PureCon Tryd.prog Γ n_w10_Of [.list false k (l.map eFm)] (.own 3 t_r10_Form_2 (l.map eFm)) := by
  have key : ∀ n i : Nat, i + n = l.length → ∀ a : List Fm, a.length = i → Fins Tryd.prog Γ (w10_Of_L1 (.list false k (l.map eFm)) (.sl 1 0 a.length) (.int .i64 i) [.row 3 t_r10_Form_2 [] none true false, .row 3 t_r10_Form_2 (a.map eFm) none true false])
      (.ret (.own 3 t_r10_Form_2 ((a ++ l.drop i).map eFm))) := by
    intro n
    induction n with
    | zero =>
      intro i hi a ha
      have q1 : ¬ i < l.length := by omega
      rw [List.drop_eq_nil_of_le (by omega), List.append_nil]
      refine .go 60 ?_
      simp [q1]
      exact .back (by simp)
    | succ n ih =>
      intro i hi a ha
      have q1 : i < l.length := by omega
      have q2 := eq_true (hk.of q1)
      have hh := ih (i + 1) (by omega) (a ++ [l[i]]) (by simp [ha])
      have e : a ++ l.drop i = a ++ [l[i]] ++ l.drop (i + 1) := by rw [List.append_assoc, List.singleton_append, ← List.drop_eq_getElem_cons q1]
      rw [e]
      refine .go 60 ?_
      simp (disch := omega) [q1, q2]
      refine .reLoop ?_
      simp
      refine .drop 2 rfl (by simp) (by simp) (by simp) ?_
      refine .reset (i := 1) rfl (by simp) (by simp) (by simp) ?_
      simp [q2] at hh ⊢
      exact hh
  refine .run 60 c_w10_Of (by simp) ?_
  simp
  refine .inLoop ?_
  have hh := key l.length 0 (by omega) [] rfl
  simp at hh ⊢
  exact hh
end Go.Proofs.YtpjpaojjagffoaaDoor
/- Equal of rows: its contract. -/
namespace Go.Proofs.YtpjpaojjagffoaaDoor
open Go.AM Go.Proofs
variable {Γ : Nat → Option AV}
set_option linter.unusedSimpArgs false
set_option linter.unusedVariables false

theorem p_slices_Equal_cover_Form_cover_Form (a b : List Fm) {ka kb : Nat} (ha : Kd 3 ka a) (hb : Kd 3 kb b) (hs : a.length < 2 ^ 60) : PureCon Tryd.prog Γ n_slices_Equal_cover_Form_cover_Form [.list false ka (a.map eFm), .list false kb (b.map eFm)] (.bool (decide (a = b))) := by
  refine .run 60 c_slices_Equal_cover_Form_cover_Form (by simp) ?_
  by_cases hl : a.length = b.length
  · have key : ∀ n i : Nat, i + n = a.length → Fins Tryd.prog Γ (slices_Equal_cover_Form_cover_Form_L1 (.list false ka (a.map eFm)) (.list false kb (b.map eFm)) (.int .i64 a.length) (.int .i64 i) []) (.ret (.bool (decide (a.drop i = b.drop i)))) := by
      intro n
      induction n with
      | zero =>
        intro i hi
        refine .go 60 ?_
        have h1 : ¬ i < a.length := by omega
        have h2 : a.drop i = b.drop i := by rw [List.drop_eq_nil_of_le (by omega), List.drop_eq_nil_of_le (by omega)]
        simp [h1, h2]
        exact .back (by simp)
      | succ n ih =>
        intro i hi
        have h1 : i < a.length := by omega
        have h2 : i < b.length := by omega
        obtain rfl := ha.of h1
        obtain rfl := hb.of h2
        have h4 := drop_eq h1 h2
        refine .go 60 ?_
        by_cases h3 : a[i] = b[i]
        · simp (disch := omega) [h1, h2, h3, h4, eqData_fm]
          refine .reLoop ?_
          simpa using ih (i + 1) (by omega)
        · simp (disch := omega) [h1, h2, h3, h4, eqData_fm]
          exact .back (by simp)
    simp [hl]
    refine .inLoop ?_
    simpa [hl] using key a.length 0 (by omega)
  · have h2 : ¬ a = b := fun e => hl (by rw [e])
    simp [hl, h2]
    exact .back (by simp)
end Go.Proofs.YtpjpaojjagffoaaDoor
/- Forms: the reader. -/
namespace Go.Proofs.YtpjpaojjagffoaaDoor
open Go.AM Go.Proofs
variable {Γ : Nat → Option AV}
set_option linter.unusedSimpArgs false
set_option linter.unusedVariables false

/-- May a node be, but for its kids? -/
def okN (n : Int) (x : Fm) : Bool :=
  if x.kind = 2 then decide (0 ≤ x.lit) && (decide (x.lit / 2 < n) && decide (x.kids = 0))
  else if x.kind = 3 ∨ x.kind = 4 then decide (x.lit = 0) && decide (2 ≤ x.kids)
  else if x.kind = 0 ∨ x.kind = 1 then decide (x.lit = 0) && decide (x.kids = 0)
  else false
/-- Kids, one after the other. -/
def kidsF (rd : List Fm → Option (Bool × List Fm)) (a : Bool) : Nat → Bool → List Fm → Option (Bool × List Fm)
  | 0, v, l => some (v, l)
  | k + 1, v, l => match rd l with
    | none => none
    | some (w, l') => kidsF rd a k (if a then w && v else w || v) l'
/-- What a form comes to, and what is left behind it. -/
def readF (n : Int) (val : Int → Bool) : Nat → List Fm → Option (Bool × List Fm)
  | 0, _ => none
  | _ + 1, [] => none
  | f + 1, x :: l => if okN n x = true then (if x.kind = 2 then some (val x.lit, l) else kidsF (readF n val f) (decide (x.kind = 3)) x.kids.toNat (decide (x.kind = 1) || decide (x.kind = 3)) l) else none

abbrev oddV : AV := .ifc t_cover_odd (.agg [])
abbrev rdO (n : Int) (F : AV) (k : Nat) (l : List Fm) : Ob := .cells [.list false k (l.map eFm), .int .i64 n, F]
section
variable {n : Int} {F : AV} {i : Nat}

theorem r_next_nil' {k : Nat} {h : List Ob} (hi : h[i]? = some (rdO n F k [])) : ∃ J, ∀ up : List Fr, AM.Reach Tryd.prog Γ (.cl n_cover_reader_next [.ptr i 0] up h) (.die up oddV (h ++ J)) := by
  refine ⟨[.cells [.int .i64 0, .int .i64 0, .int .i64 0]], fun up => ?_⟩
  have h1 := fun os => get_app hi os
  refine .enterB 60 c_cover_reader_next ?_
  simp [h1]
theorem shrI (a : Int) : binI .shr .i64 a 1 = some (a / 2) := by
  simp [binI, IntKind.bits]
  rw [Int.fdiv_eq_ediv_of_nonneg _ (by omega)]
set_option maxHeartbeats 2000000 in
theorem r_next_aux {x : Fm} {l : List Fm} (hl : l.length < 2 ^ 40) {h : List Ob} (hi : h[i]? = some (rdO n F 3 (x :: l))) (up : List Fr) :
    AM.Reach Tryd.prog Γ (.cl n_cover_reader_next [.ptr i 0] up h) (if okN n x = true then .back up (eFm x) (h.set i (rdO n F 3 l) ++ [.cells (eFm x).cells, .cells (eFm x).cells]) else .die up oddV (h.set i (rdO n F 3 l) ++ [.cells [.int .i64 0, .int .i64 0, .int .i64 0], .cells (eFm x).cells])) := by
  have h1 := fun os => get_app hi os
  have hil := lt_of_get hi
  have h2 : h.length ≠ i := by omega
  have h3 : h.length + 1 ≠ i := by omega
  have h4 : i ≠ h.length := by omega
  have h5 : i ≠ h.length + 1 := by omega
  have h6 : ((l.length : Int) + 1 = 0) = False := eq_false (by omega)
  have h7 : ∀ o, (h.set i o).length = h.length := by simp
  have h8 : ∀ (o : Ob) (os : List Ob) (k : Nat), (h.set i o ++ os)[h.length + k]? = os[k]? := fun o os k => by rw [← h7 o, get_len]
  have h9 : ∀ (o : Ob) (os : List Ob), (h.set i o ++ os)[h.length]? = os[0]? := fun o os => by rw [← h7 o, get_len0]
  have h10 : ∀ (o : Ob) (os : List Ob) (y : Ob) (k : Nat), (h.set i o ++ os).set (h.length + k) y = h.set i o ++ os.set k y := fun o os y k => by rw [← h7 o, set_len]
  have h11 : ∀ (o : Ob) (os : List Ob) (y : Ob), (h.set i o ++ os).set h.length y = h.set i o ++ os.set 0 y := fun o os y => by rw [← h7 o, set_len0]
  have h12 : ∀ (o : Ob) (os : List Ob), (h.set i o ++ os)[i]? = some o := fun o os => by rw [List.getElem?_append_left (by simp; omega)]; simp [hil]
  have h13 : ∀ (o : Ob) (os : List Ob), (h ++ os).set i o = h.set i o ++ os := fun o os => List.set_append_left _ _ hil
  obtain ⟨kd, lt, kk⟩ := x
  refine .enterB 200 c_cover_reader_next ?_
  by_cases a : lt = 0
  · subst a
    by_cases b : kk = 0
    · subst b
      by_cases k0 : kd = 0
      · subst k0; simp [h1, shrI, h6, h8, h9, h10, h11, h12, h13, okN]
      · by_cases k1 : kd = 1
        · subst k1; simp [h1, shrI, h6, h8, h9, h10, h11, h12, h13, okN]
        · by_cases k2 : kd = 2
          · subst k2
            by_cases c : (0 : Int) < n
            · simp [h1, shrI, h6, h8, h9, h10, h11, h12, h13, c, okN]
            · simp [h1, shrI, h6, h8, h9, h10, h11, h12, h13, c, okN]
          · by_cases k3 : kd = 3
            · subst k3; simp [h1, shrI, h6, h8, h9, h10, h11, h12, h13, okN]
            · by_cases k4 : kd = 4
              · subst k4; simp [h1, shrI, h6, h8, h9, h10, h11, h12, h13, okN]
              · simp [h1, shrI, h6, h8, h9, h10, h11, h12, h13, k0, k1, k2, k3, k4, okN]
    · by_cases k0 : kd = 0
      · subst k0; simp [h1, shrI, h6, h8, h9, h10, h11, h12, h13, b, okN]
      · by_cases k1 : kd = 1
        · subst k1; simp [h1, shrI, h6, h8, h9, h10, h11, h12, h13, b, okN]
        · by_cases k2 : kd = 2
          · subst k2
            by_cases c : (0 : Int) < n
            · simp [h1, shrI, h6, h8, h9, h10, h11, h12, h13, b, c, okN]
            · simp [h1, shrI, h6, h8, h9, h10, h11, h12, h13, b, c, okN]
          · by_cases c : 2 ≤ kk
            · by_cases k3 : kd = 3
              · subst k3; simp [h1, shrI, h6, h8, h9, h10, h11, h12, h13, b, c, okN]
              · by_cases k4 : kd = 4
                · subst k4; simp [h1, shrI, h6, h8, h9, h10, h11, h12, h13, b, c, okN]
                · simp [h1, shrI, h6, h8, h9, h10, h11, h12, h13, b, c, k0, k1, k2, k3, k4, okN]
            · by_cases k3 : kd = 3
              · subst k3; simp [h1, shrI, h6, h8, h9, h10, h11, h12, h13, b, c, okN]
              · by_cases k4 : kd = 4
                · subst k4; simp [h1, shrI, h6, h8, h9, h10, h11, h12, h13, b, c, okN]
                · simp [h1, shrI, h6, h8, h9, h10, h11, h12, h13, b, c, k0, k1, k2, k3, k4, okN]
  · by_cases k0 : kd = 0
    · subst k0; simp [h1, shrI, h6, h8, h9, h10, h11, h12, h13, a, okN]
    · by_cases k1 : kd = 1
      · subst k1; simp [h1, shrI, h6, h8, h9, h10, h11, h12, h13, a, okN]
      · by_cases k2 : kd = 2
        · subst k2
          by_cases c : 0 ≤ lt
          · by_cases d : lt / 2 < n
            · by_cases b : kk = 0
              · subst b; simp [h1, shrI, h6, h8, h9, h10, h11, h12, h13, a, c, d, okN]
              · simp [h1, shrI, h6, h8, h9, h10, h11, h12, h13, a, b, c, d, okN]
            · simp [h1, shrI, h6, h8, h9, h10, h11, h12, h13, a, c, d, okN]
          · simp [h1, shrI, h6, h8, h9, h10, h11, h12, h13, a, c, okN]
        · by_cases k3 : kd = 3
          · subst k3; simp [h1, shrI, h6, h8, h9, h10, h11, h12, h13, a, okN]
          · by_cases k4 : kd = 4
            · subst k4; simp [h1, shrI, h6, h8, h9, h10, h11, h12, h13, a, okN]
            · simp [h1, shrI, h6, h8, h9, h10, h11, h12, h13, a, k0, k1, k2, k3, k4, okN]
theorem r_next {x : Fm} {l : List Fm} (hl : l.length < 2 ^ 40) {h : List Ob} (hi : h[i]? = some (rdO n F 3 (x :: l))) (up : List Fr) (ho : okN n x = true) :
    AM.Reach Tryd.prog Γ (.cl n_cover_reader_next [.ptr i 0] up h) (.back up (eFm x) (h.set i (rdO n F 3 l) ++ [.cells (eFm x).cells, .cells (eFm x).cells])) := by
  have := r_next_aux (Γ := Γ) hl hi up
  rwa [if_pos ho] at this
theorem r_next_die {x : Fm} {l : List Fm} (hl : l.length < 2 ^ 40) {h : List Ob} (hi : h[i]? = some (rdO n F 3 (x :: l))) (up : List Fr) (ho : okN n x = false) :
    AM.Reach Tryd.prog Γ (.cl n_cover_reader_next [.ptr i 0] up h) (.die up oddV (h.set i (rdO n F 3 l) ++ [.cells [.int .i64 0, .int .i64 0, .int .i64 0], .cells (eFm x).cells])) := by
  have := r_next_aux (Γ := Γ) hl hi up
  rwa [if_neg (by simp [ho])] at this
end
end Go.Proofs.YtpjpaojjagffoaaDoor
/- Forms: what the reader comes to. -/
namespace Go.Proofs.YtpjpaojjagffoaaDoor
open Go.AM Go.Proofs
variable {Γ : Nat → Option AV}
set_option linter.unusedSimpArgs false
set_option linter.unusedVariables false

theorem kidsF_len {rd : List Fm → Option (Bool × List Fm)} {a : Bool} (hr : ∀ l v l', rd l = some (v, l') → l'.length < l.length) : ∀ (k : Nat) (v : Bool) (l : List Fm) (w : Bool) (l' : List Fm), kidsF rd a k v l = some (w, l') → l'.length ≤ l.length
  | 0, v, l, w, l', h => by simp only [kidsF, Option.some.injEq, Prod.mk.injEq] at h; rw [h.2]; exact Nat.le_refl _
  | k + 1, v, l, w, l', h => by
    simp only [kidsF] at h
    split at h
    · cases h
    · rename_i u l1 hu
      have h1 := hr _ _ _ hu
      have h2 := kidsF_len hr k _ _ _ _ h
      omega
theorem readF_len (n : Int) (val : Int → Bool) : ∀ (f : Nat) (l : List Fm) (v : Bool) (l' : List Fm), readF n val f l = some (v, l') → l'.length < l.length
  | 0, l, v, l', h => by simp [readF] at h
  | f + 1, [], v, l', h => by simp [readF] at h
  | f + 1, x :: l, v, l', h => by
    simp only [readF] at h
    split at h
    · split at h
      · simp only [Option.some.injEq, Prod.mk.injEq] at h
        rw [← h.2, List.length_cons]; omega
      · have := kidsF_len (readF_len n val f) _ _ _ _ _ h
        rw [List.length_cons]; omega
    · cases h

/-- What a call of the reader comes to. -/
def Comes (P : Program) (Γ : Nat → Option AV) (n : Int) (F : AV) (i : Nat) (k : Nat) (up : List Fr) (h : List Ob) (c : AM.Cfg) : Option (Bool × List Fm) → Prop
  | some (v, l') => ∃ J, AM.Reach P Γ c (.back up (.bool v) (h.set i (rdO n F k l') ++ J))
  | none => ∃ l' J, AM.Reach P Γ c (.die up oddV (h.set i (rdO n F k l') ++ J))
theorem Comes.of {P : Program} {n : Int} {F : AV} {i k : Nat} {up : List Fr} {h h' : List Ob} {c c' : AM.Cfg} {r : Option (Bool × List Fm)} (h1 : AM.Reach P Γ c' c) (h2 : ∀ l, ∃ J, h'.set i (rdO n F k l) = h.set i (rdO n F k l) ++ J) (h3 : Comes P Γ n F i k up h' c r) : Comes P Γ n F i k up h c' r := by
  cases r with
  | none =>
    obtain ⟨l', J, h4⟩ := h3
    obtain ⟨J2, h5⟩ := h2 l'
    exact ⟨l', J2 ++ J, by rw [← List.append_assoc, ← h5]; exact .trans h1 h4⟩
  | some p =>
    obtain ⟨v, l'⟩ := p
    obtain ⟨J, h4⟩ := h3
    obtain ⟨J2, h5⟩ := h2 l'
    exact ⟨J2 ++ J, by rw [← List.append_assoc, ← h5]; exact .trans h1 h4⟩

theorem Comes.to {P : Program} {n : Int} {F : AV} {i k : Nat} {up : List Fr} {h : List Ob} {c c' : AM.Cfg} {r : Option (Bool × List Fm)} (h1 : AM.Reach P Γ c' c) (h3 : Comes P Γ n F i k up h c r) : Comes P Γ n F i k up h c' r := .of h1 (fun l => ⟨[], by simp⟩) h3
theorem Comes.go (st m : Nat) {P : Program} {n : Int} {F : AV} {i k : Nat} {up : List Fr} {h : List Ob} {c : AM.Cfg} {r : Option (Bool × List Fm)} (h3 : Comes P Γ n F i k up h (AM.go P Γ st m c) r) : Comes P Γ n F i k up h c r :=
  .of (Reach.goes m c) (fun l => ⟨[], by simp⟩) h3
theorem Comes.reLoop {P : Program} {n : Int} {F : AV} {i k : Nat} {up up' : List Fr} {h h' : List Ob} {r : Option (Bool × List Fm)} {fn : FuncId} {its : List It} {t : List AV} {ds : List ADef} {kind : FK} {base : Nat} {m : List Bool} {b : ACode}
    (h1 : Comes P Γ n F i k up h (.fr ⟨.run, fn, .code b :: .inLoop m b :: its, maskT m t, ds, kind, base⟩ up' h') r) : Comes P Γ n F i k up h (.fr ⟨.run, fn, .inLoop m b :: its, t, ds, kind, base⟩ up' h') r :=
  .of (AM.Reach.reLoop (.refl _)) (fun l => ⟨[], by simp⟩) h1
theorem Comes.inLoop {P : Program} {n : Int} {F : AV} {i k : Nat} {up up' : List Fr} {h h' : List Ob} {r : Option (Bool × List Fm)} {fn : FuncId} {its : List It} {t : List AV} {ds : List ADef} {kind : FK} {base : Nat} {m : List Bool} {b : ACode}
    (h1 : Comes P Γ n F i k up h (.fr ⟨.run, fn, .code b :: .inLoop m b :: its, maskT m t, ds, kind, base⟩ up' h') r) : Comes P Γ n F i k up h (.fr ⟨.run, fn, .code (.loop m b) :: its, t, ds, kind, base⟩ up' h') r :=
  .of (AM.Reach.inLoop (.refl _)) (fun l => ⟨[], by simp⟩) h1
theorem Comes.enter (m : Nat) {P : Program} {n : Int} {F : AV} {i k : Nat} {up up' : List Fr} {h h' : List Ob} {r : Option (Bool × List Fm)} {g : FuncId} {G : AFun} {args : List AV} (hG : cfun P g = some G)
    (h1 : Comes P Γ n F i k up h (AM.go P Γ 2 m (.fr ⟨.run, g, [.code G.body], args ++ List.replicate (G.nt - args.length) .undef, [], .norm, h'.length⟩ up' h')) r) : Comes P Γ n F i k up h (.cl g args up' h') r :=
  .of (enter_eq hG args (.goB m (.refl _))) (fun l => ⟨[], by simp⟩) h1
theorem set_self {h : List Ob} {i : Nat} {o : Ob} (hi : h[i]? = some o) : h.set i o = h := by
  apply List.ext_getElem?
  intro j
  by_cases hj : i = j
  · subst hj; rw [List.getElem?_set_self (lt_of_get hi), hi]
  · rw [List.getElem?_set_ne hj]
theorem Comes.pop {P : Program} {n : Int} {F : AV} {i k : Nat} {up : List Fr} {h : List Ob} {c : AM.Cfg} {r : Option (Bool × List Fm)} (m : Nat) (h3 : Comes P Γ n F i k up h (AM.go P Γ 2 m (AM.pop c)) r) : Comes P Γ n F i k up h c r :=
  .of (.trans (.pop c) (Reach.goes m _)) (fun l => ⟨[], by simp⟩) h3
theorem Comes.call {P : Program} {n : Int} {F : AV} {i k : Nat} {up up' : List Fr} {h : List Ob} {c : AM.Cfg} {r r0 : Option (Bool × List Fm)} (h1 : Comes P Γ n F i k up' h c r0)
    (hd : r0 = none → ∀ l' J, Comes P Γ n F i k up h (.die up' oddV (h.set i (rdO n F k l') ++ J)) r)
    (hs : ∀ v l', r0 = some (v, l') → ∀ J, Comes P Γ n F i k up h (.back up' (.bool v) (h.set i (rdO n F k l') ++ J)) r) : Comes P Γ n F i k up h c r := by
  cases r0 with
  | none =>
    obtain ⟨l', J, h3⟩ := h1
    exact .of h3 (fun l => ⟨[], by simp⟩) (hd rfl l' J)
  | some p =>
    obtain ⟨v, l'⟩ := p
    obtain ⟨J, h3⟩ := h1
    exact .of h3 (fun l => ⟨[], by simp⟩) (hs v l' rfl J)

/-- Values of literals, wherever φ holds. -/
structure Vals (P : Program) (Γ : Nat → Option AV) (n : Int) (φ : List Ob → Prop) (i : Nat) (f : FuncId) (caps : List AV) (val : Int → Bool) : Prop where
  body : hasBody P f = true
  ask : ∀ x : Fm, okN n x = true → x.kind = 2 → ∀ up h, φ h → AM.Reach P Γ (.cl f (.int .i64 x.lit :: caps) up h) (.back up (.bool (val x.lit)) h)
  app : ∀ h J, φ h → φ (h ++ J)
  set : ∀ h o, φ h → φ (h.set i o)

section
variable {n : Int} {i : Nat} {φ : List Ob → Prop} {f : FuncId} {caps : List AV} {val : Int → Bool}

set_option maxRecDepth 8000 in
theorem r_kids (F : AV) (hval : Vals Tryd.prog Γ n φ i f caps val) (fuel : Nat) {x : Fm}
    (ih : ∀ l : List Fm, l.length ≤ fuel → l.length < 2 ^ 40 → ∀ (up : List Fr) (h : List Ob), h[i]? = some (rdO n F 3 l) → φ h → Comes Tryd.prog Γ n F i 3 up h (.cl n_cover_reader_read [.ptr i 0] up h) (readF n val fuel l)) (p base : Nat) (hpi : p ≠ i) (up : List Fr) :
    ∀ (L : Nat) (l : List Fm), l.length = L → L ≤ fuel → ∀ (j : Nat) (v : Bool), j + l.length < 2 ^ 40 → ∀ h : List Ob, h[i]? = some (rdO n F 3 l) → h[p]? = some (.cells (eFm x).cells) → φ h →
      Comes Tryd.prog Γ n F i 3 up h (cover_reader_read_L1 (.ptr i 0) (.ptr p 0) (.bool v) (.int .i64 x.kids) (.int .i64 j) h ⟨[], .norm, base, up⟩) (kidsF (readF n val fuel) (decide (x.kind = 3)) (x.kids.toNat - j) v l) := by
  intro L
  induction L using Nat.strongRecOn with
  | _ L ihL =>
    intro l hL hf j v hj h hi hp hφ
    have hil := lt_of_get hi
    by_cases q : (j : Int) < x.kids
    · have e : x.kids.toNat - j = (x.kids.toNat - (j + 1)) + 1 := by omega
      rw [e, kidsF]
      refine .go 2 60 ?_
      simp [q]
      refine .call (ih l (by omega) (by omega) _ _ hi hφ) ?_ ?_
      · intro hr l' J
        rw [hr]
        refine .pop 60 ?_
        simp
        exact ⟨l', J, .refl _⟩
      · intro w l' hr J
        rw [hr]
        have hlen := readF_len n val fuel l w l' hr
        have g1 : (h.set i (rdO n F 3 l') ++ J)[i]? = some (rdO n F 3 l') := by rw [List.getElem?_append_left (by simpa using hil)]; simp [hil]
        have g2 : (h.set i (rdO n F 3 l') ++ J)[p]? = some (.cells (eFm x).cells) := by rw [List.getElem?_append_left (by simpa using lt_of_get hp), List.getElem?_set_ne (Ne.symm hpi)]; exact hp
        have g3 : φ (h.set i (rdO n F 3 l') ++ J) := hval.app _ _ (hval.set _ _ hφ)
        have g4 : ∀ l2, (h.set i (rdO n F 3 l') ++ J).set i (rdO n F 3 l2) = h.set i (rdO n F 3 l2) ++ J := fun l2 => by rw [List.set_append_left _ _ (by simpa using hil)]; simp
        have hh := ihL l'.length (by omega) l' rfl (by omega) (j + 1) (if (decide (x.kind = 3)) = true then w && v else w || v) (by omega) _ g1 g2 g3
        refine .of (.refl _) (fun l2 => ⟨J, g4 l2⟩) ?_
        refine .pop 60 ?_
        simp only at hh ⊢
        generalize h.set i (rdO n F 3 l') ++ J = h1 at *
        by_cases k3 : x.kind = 3
        · cases w
          · simp (disch := omega) [g2, k3]
            refine .reLoop ?_
            simp [k3] at hh ⊢
            exact hh
          · simp (disch := omega) [g2, k3]
            refine .reLoop ?_
            simp [k3] at hh ⊢
            exact hh
        · cases w
          · simp (disch := omega) [g2, k3]
            refine .reLoop ?_
            simp [k3] at hh ⊢
            exact hh
          · simp (disch := omega) [g2, k3]
            refine .reLoop ?_
            simp [k3] at hh ⊢
            exact hh
    · have e : x.kids.toNat - j = 0 := by omega
      rw [e, kidsF]
      refine .go 2 60 ?_
      simp [q]
      refine ⟨[], ?_⟩
      have : h.set i (rdO n F 3 l) = h := set_self hi
      rw [this, List.append_nil]
      exact .refl _

set_option maxRecDepth 8000 in
/-- What a call of the reader comes to. -/
theorem r_read (F : AV) (hF : F = .fn (.func f) [] caps) (hval : Vals Tryd.prog Γ n φ i f caps val) : ∀ (fuel : Nat) (l : List Fm), l.length ≤ fuel → l.length < 2 ^ 40 → ∀ {k : Nat}, Kd 3 k l → ∀ (up : List Fr) (h : List Ob), h[i]? = some (rdO n F k l) → φ h →
    Comes Tryd.prog Γ n F i k up h (.cl n_cover_reader_read [.ptr i 0] up h) (readF n val fuel l)
  | 0, l, hl, hl2, k, hk, up, h, hi, hφ => by
    obtain rfl : l = [] := List.length_eq_zero_iff.1 (by omega)
    obtain ⟨J, hJ⟩ := r_next_nil' (Γ := Γ) hi
    refine .enter 60 c_cover_reader_read ?_
    simp
    refine .to (hJ _) ?_
    refine .pop 60 ?_
    simp [readF]
    exact ⟨[], J, by rw [set_self hi]; exact .refl _⟩
  | fuel + 1, [], hl, hl2, k, hk, up, h, hi, hφ => by
    obtain ⟨J, hJ⟩ := r_next_nil' (Γ := Γ) hi
    refine .enter 60 c_cover_reader_read ?_
    simp
    refine .to (hJ _) ?_
    refine .pop 60 ?_
    simp [readF]
    exact ⟨[], J, by rw [set_self hi]; exact .refl _⟩
  | fuel + 1, x :: l, hl, hl2, k, hk, up, h, hi, hφ => by
    obtain rfl : k = 3 := hk.of (i := 0) (by simp)
    simp only [List.length_cons] at hl hl2
    have hil := lt_of_get hi
    refine .enter 60 c_cover_reader_read ?_
    simp
    cases ho : okN n x with
    | false =>
      refine .to (r_next_die (by omega) hi _ ho) ?_
      refine .pop 60 ?_
      simp [readF, ho]
      exact ⟨_, _, .refl _⟩
    | true =>
      refine .to (r_next (by omega) hi _ ho) ?_
      have e : ∀ os, h.set i (rdO n F 3 l) ++ [.cells (eFm x).cells, .cells (eFm x).cells] ++ os = h.set i (rdO n F 3 l) ++ (Ob.cells (eFm x).cells :: Ob.cells (eFm x).cells :: os) := by simp
      have h7 : ∀ o, (h.set i o).length = h.length := by simp
      have h8 : ∀ (o : Ob) (os : List Ob) (k : Nat), (h.set i o ++ os)[h.length + k]? = os[k]? := fun o os k => by rw [← h7 o, get_len]
      have h10 : ∀ (o : Ob) (os : List Ob) (y : Ob) (k : Nat), (h.set i o ++ os).set (h.length + k) y = h.set i o ++ os.set k y := fun o os y k => by rw [← h7 o, set_len]
      have h12 : ∀ (o : Ob) (os : List Ob), (h.set i o ++ os)[i]? = some o := fun o os => by rw [List.getElem?_append_left (by simp; omega)]; simp [hil]
      simp only [readF, ho, if_true]
      refine .pop 20 ?_
      have hp2 : ∀ J, φ (h.set i (rdO n F 3 l) ++ J) := fun J => hval.app _ _ (hval.set _ _ hφ)
      by_cases k2 : x.kind = 2
      · have hask := fun up => hval.ask x ho k2 up _ (hp2 [Ob.cells [AV.int IntKind.i64 2, AV.int IntKind.i64 x.lit, AV.int IntKind.i64 x.kids],
          Ob.cells [AV.int IntKind.i64 2, AV.int IntKind.i64 x.lit, AV.int IntKind.i64 x.kids],
          Ob.cells [AV.int IntKind.i64 2, AV.int IntKind.i64 x.lit, AV.int IntKind.i64 x.kids]])
        simp [h8, h10, h12, k2]
        refine .go 2 60 ?_
        simp [h8, h10, h12, k2, hF]
        refine ⟨[Ob.cells [AV.int IntKind.i64 2, AV.int IntKind.i64 x.lit, AV.int IntKind.i64 x.kids],
          Ob.cells [AV.int IntKind.i64 2, AV.int IntKind.i64 x.lit, AV.int IntKind.i64 x.kids],
          Ob.cells [AV.int IntKind.i64 2, AV.int IntKind.i64 x.lit, AV.int IntKind.i64 x.kids]], ?_⟩
        refine .drB 60 ?_
        simp only [hF] at h12 h8 h10 hask
        simp [h8, h10, h12, k2]
        refine .reach hval.body hask ?_
        simp
      · have ih := fun (l : List Fm) hl hl2 up h hi hφ => r_read F hF hval fuel l hl hl2 (k := 3) (.inl rfl) up h hi hφ
        have hk2 := fun (v : Bool) => r_kids F hval fuel (x := x) ih (h.length + 2) h.length (by omega) up l.length l rfl (by omega) 0 v (by omega)
          (h.set i (rdO n F 3 l) ++ [Ob.cells (eFm x).cells, Ob.cells (eFm x).cells, Ob.cells (eFm x).cells]) (h12 _ _) (by rw [h8]; rfl) (hp2 _)
        have h13 : ∀ l2, (h.set i (rdO n F 3 l) ++ [Ob.cells (eFm x).cells, Ob.cells (eFm x).cells, Ob.cells (eFm x).cells]).set i (rdO n F 3 l2) = h.set i (rdO n F 3 l2) ++ [Ob.cells (eFm x).cells, Ob.cells (eFm x).cells, Ob.cells (eFm x).cells] :=
          fun l2 => by rw [List.set_append_left _ _ (by simpa using hil)]; simp
        by_cases k1 : x.kind = 1
        · have hh := hk2 true
          simp [h8, h10, h12, k2, k1]
          refine .go 2 60 ?_
          simp [h8, h10, h12, k2, k1]
          refine .of (.refl _) (fun l2 => ⟨_, h13 l2⟩) ?_
          refine .inLoop ?_
          simp [k1] at hh ⊢
          exact hh
        · by_cases k3 : x.kind = 3
          · have hh := hk2 true
            simp [h8, h10, h12, k2, k1, k3]
            refine .go 2 60 ?_
            simp [h8, h10, h12, k2, k1, k3]
            refine .of (.refl _) (fun l2 => ⟨_, h13 l2⟩) ?_
            refine .inLoop ?_
            simp [k1, k3] at hh ⊢
            exact hh
          · have hh := hk2 false
            simp [h8, h10, h12, k2, k1, k3]
            refine .go 2 60 ?_
            simp [h8, h10, h12, k2, k1, k3]
            refine .of (.refl _) (fun l2 => ⟨_, h13 l2⟩) ?_
            refine .inLoop ?_
            simp [k1, k3] at hh ⊢
            exact hh
end
end Go.Proofs.YtpjpaojjagffoaaDoor
/- Forms: whether nodes are one, what it comes to. -/
namespace Go.Proofs.YtpjpaojjagffoaaDoor
open Go.AM Go.Proofs
variable {Γ : Nat → Option AV}
set_option linter.unusedSimpArgs false
set_option linter.unusedVariables false

/-- What nodes come to, if they are a form. -/
def formV (n : Int) (val : Int → Bool) (l : List Fm) : Option Bool :=
  if l.length ≤ 4000 ∧ 0 ≤ n ∧ n ≤ 4000 then (match readF n val l.length l with
    | some (v, []) => some v
    | _ => none) else none
def errV : Option Bool → Int
  | some _ => 0
  | none => 1
@[simp] theorem errV_some (v : Bool) : errV (some v) = 0 := rfl
@[simp] theorem errV_none : errV none = 1 := rfl

theorem vals_check (n : Int) (i : Nat) : Vals Tryd.prog Γ n (fun _ => True) i n_cover_Check_1 [] (fun _ => false) :=
  ⟨by simp, fun x _ _ up h _ => by refine .enterB 60 c_cover_Check_1 ?_; simp, fun _ _ _ => trivial, fun _ _ _ => trivial⟩

theorem Comes.fins {P : Program} {n : Int} {F : AV} {i k : Nat} {up : List Fr} {h : List Ob} {c : AM.Cfg} {r : Option (Bool × List Fm)} {o : Out} (h1 : Comes P Γ n F i k up h c r)
    (hd : r = none → ∀ l' J, Fins P Γ (.die up oddV (h.set i (rdO n F k l') ++ J)) o) (hs : ∀ v l', r = some (v, l') → ∀ J, Fins P Γ (.back up (.bool v) (h.set i (rdO n F k l') ++ J)) o) : Fins P Γ c o := by
  cases r with
  | none =>
    obtain ⟨l', J, h3⟩ := h1
    exact .reach h3 (hd rfl l' J)
  | some p =>
    obtain ⟨v, l'⟩ := p
    obtain ⟨J, h3⟩ := h1
    exact .reach h3 (hs v l' rfl J)

set_option maxRecDepth 8000 in
theorem p_cover_Check (l : List Fm) {k : Nat} (hk : Kd 3 k l) (hl : l.length < 2 ^ 40) (n : Int) : PureCon Tryd.prog Γ n_cover_Check [.list false k (l.map eFm), .int .i64 n] (.int .i64 (errV (formV n (fun _ => false) l))) := by
  refine .run 60 c_cover_Check (by simp) ?_
  simp
  refine .enter 200 c_cover_read ?_
  have e1 : ((4000 : Int) < l.length) = (4000 < l.length) := propext (by omega)
  have e2 : True = True := rfl
  unfold formV
  have hR := fun up h h0 => r_read (Γ := Γ) (.fn (.func n_cover_Check_1) [] []) rfl (vals_check n 2) l.length l (Nat.le_refl _) hl hk up h h0 trivial
  by_cases a : 4000 < l.length
  · have a' : ¬ l.length ≤ 4000 := by omega
    simp [e1, e2, a, a']
    exact .back (by simp)
  · by_cases b : n < 0
    · have b' : ¬ 0 ≤ n := by omega
      simp [e1, e2, a, b, b']
      exact .back (by simp)
    · by_cases c : 4000 < n
      · have c' : ¬ n ≤ 4000 := by omega
        simp [e1, e2, a, b, c, c']
        exact .back (by simp)
      · have a' : l.length ≤ 4000 := by omega
        have b' : 0 ≤ n := by omega
        have c' : n ≤ 4000 := by omega
        simp only [a', b', c', true_and, and_true, if_true, and_self]
        simp [e1, e2, a, b, c]
        refine Comes.fins (hR _ _ rfl) ?_ ?_
        · intro hr l' J
          rw [hr]
          refine .go 150 ?_
          simp
          exact .back (by simp)
        · intro v l' hr J
          rw [hr]
          cases l' with
          | nil =>
            refine .go 150 ?_
            simp
            exact .back (by simp)
          | cons y l' =>
            have e3 : ((0 : Int) < (l'.length : Int) + 1) = True := eq_true (by omega)
            refine .go 150 ?_
            simp [e3]
            exact .back (by simp)

/-- What values come to, at literals. -/
def litI (v : List Bool) (a : Int) : Bool := !decide (v.getD (a / 2).toNat false = decide (a % 2 = 1))
theorem vals_eval (ins : List Bool) {ki : Nat} (hki : Kd 1 ki ins) (i : Nat) (hi : 0 < i) : Vals Tryd.prog Γ ins.length (fun h => h[0]? = some (.cells [.list false ki (ins.map .bool)])) i n_cover_Eval_1 [.ptr 0 0] (litI ins) := by
  refine ⟨by simp, fun x hx hk up h hφ => ?_, fun h J hφ => get_app hφ J, fun h o hφ => by rw [List.getElem?_set_ne (by omega)]; exact hφ⟩
  simp only [okN, hk, if_true, Bool.and_eq_true, decide_eq_true_eq] at hx
  obtain ⟨h1, h2, h3⟩ := hx
  obtain ⟨a, ha⟩ := Int.eq_ofNat_of_zero_le h1
  have h4 : a / 2 < ins.length := by omega
  have h5 : ((a / 2 : Nat) : Int) < ins.length := by omega
  have h6 : ((a % 2 : Nat) : Int) = 1 ↔ a % 2 = 1 := by omega
  have h7 := eq_true (hki.of h4)
  have e : litI ins (a : Int) = (!decide (ins[a / 2] = decide (a % 2 = 1))) := by
    have e1 : ((a : Int) / 2).toNat = a / 2 := by omega
    have e2 : ((a : Int) % 2 = 1) = (a % 2 = 1) := propext (by omega)
    unfold litI
    rw [e1, List.getD_eq_getElem?_getD, List.getElem?_eq_getElem h4]
    simp [e2]
  rw [ha, e]
  refine .enterB 60 c_cover_Eval_1 ?_
  simp (disch := omega) [-Int.natCast_ediv, -Int.natCast_emod, hφ, h4, h5, h6, h7]
set_option maxRecDepth 8000 in
theorem p_cover_Eval (l : List Fm) {k : Nat} (hk : Kd 3 k l) (hl : l.length < 2 ^ 40) (ins : List Bool) {ki : Nat} (hki : Kd 1 ki ins) (hli : ins.length < 2 ^ 40) :
    PureCon Tryd.prog Γ n_cover_Eval [.list false k (l.map eFm), .list false ki (ins.map .bool)] (.tup [.bool ((formV ins.length (litI ins) l).getD false), .int .i64 (errV (formV ins.length (litI ins) l))]) := by
  have hR := fun up h h0 h1 => r_read (Γ := Γ) (.fn (.func n_cover_Eval_1) [] [.ptr 0 0]) rfl (vals_eval ins hki 3 (by omega)) l.length l (Nat.le_refl _) hl hk up h h0 h1
  have e1 : ((4000 : Int) < l.length) = (4000 < l.length) := propext (by omega)
  refine .run 60 c_cover_Eval (by simp) ?_
  simp
  refine .enter 200 c_cover_read ?_
  have e2 : (List.map AV.bool ins).length = ins.length := by simp
  unfold formV
  generalize hn : (ins.length : Int) = n at *
  simp only [e2, hn]
  by_cases a : 4000 < l.length
  · have a' : ¬ l.length ≤ 4000 := by omega
    simp [e1, e2, a, a']
    exact .back (by simp)
  · by_cases b : n < 0
    · have b' : ¬ 0 ≤ n := by omega
      simp [e1, e2, a, b, b']
      exact .back (by simp)
    · by_cases c : 4000 < n
      · have c' : ¬ n ≤ 4000 := by omega
        simp [e1, e2, a, b, c, c']
        exact .back (by simp)
      · have a' : l.length ≤ 4000 := by omega
        have b' : 0 ≤ n := by omega
        have c' : n ≤ 4000 := by omega
        simp only [a', b', c', true_and, and_true, if_true, and_self]
        simp [e1, e2, a, b, c]
        refine Comes.fins (hR _ _ rfl rfl) ?_ ?_
        · intro hr l' J
          rw [hr]
          refine .go 150 ?_
          simp
          exact .back (by simp)
        · intro v l' hr J
          rw [hr]
          cases l' with
          | nil =>
            refine .go 150 ?_
            simp
            exact .back (by simp)
          | cons y l' =>
            have e3 : ((0 : Int) < (l'.length : Int) + 1) = True := eq_true (by omega)
            refine .go 150 ?_
            simp [e3]
            exact .back (by simp)
end Go.Proofs.YtpjpaojjagffoaaDoor
/- Forms: what is read does not hang on how far one looks. -/
namespace Go.Proofs.YtpjpaojjagffoaaDoor
open Go.AM Go.Proofs
variable {Γ : Nat → Option AV}
set_option linter.unusedSimpArgs false
set_option linter.unusedVariables false

theorem kidsF_congr {rd rd' : List Fm → Option (Bool × List Fm)} {a : Bool} {L : Nat} (h1 : ∀ l, l.length ≤ L → rd l = rd' l) (h2 : ∀ l v l', rd l = some (v, l') → l'.length < l.length) : ∀ (k : Nat) (v : Bool) (l : List Fm), l.length ≤ L → kidsF rd a k v l = kidsF rd' a k v l
  | 0, v, l, _ => rfl
  | k + 1, v, l, hl => by
    rw [kidsF, kidsF, ← h1 l hl]
    cases hr : rd l with
    | none => rfl
    | some p =>
      obtain ⟨w, l'⟩ := p
      have := h2 l w l' hr
      exact kidsF_congr h1 h2 k _ l' (by omega)
theorem readF_fuel (n : Int) (val : Int → Bool) : ∀ (f g : Nat) (l : List Fm), l.length ≤ f → l.length ≤ g → readF n val f l = readF n val g l
  | 0, 0, l, _, _ => rfl
  | 0, g + 1, l, h, _ => by
    obtain rfl : l = [] := List.length_eq_zero_iff.1 (by omega)
    rfl
  | f + 1, 0, l, _, h => by
    obtain rfl : l = [] := List.length_eq_zero_iff.1 (by omega)
    rfl
  | f + 1, g + 1, [], _, _ => rfl
  | f + 1, g + 1, x :: l, h1, h2 => by
    simp only [List.length_cons] at h1 h2
    rw [readF, readF, kidsF_congr (L := l.length) (fun l' hl' => readF_fuel n val f g l' (by omega) (by omega)) (readF_len n val f) _ _ _ (Nat.le_refl _)]
theorem kidsF_shape {rd rd' : List Fm → Option (Bool × List Fm)} {a a' : Bool} (h1 : ∀ l, (rd l).map (·.2) = (rd' l).map (·.2)) : ∀ (k : Nat) (v v' : Bool) (l : List Fm), (kidsF rd a k v l).map (·.2) = (kidsF rd' a' k v' l).map (·.2)
  | 0, v, v', l => rfl
  | k + 1, v, v', l => by
    have h2 := h1 l
    rw [kidsF, kidsF]
    cases hr : rd l with
    | none =>
      cases hr' : rd' l with
      | none => rfl
      | some p => rw [hr, hr'] at h2; cases h2
    | some p =>
      cases hr' : rd' l with
      | none => rw [hr, hr'] at h2; cases h2
      | some p' =>
        obtain ⟨w, l1⟩ := p
        obtain ⟨w', l1'⟩ := p'
        rw [hr, hr'] at h2
        simp only [Option.map_some, Option.some.injEq] at h2
        subst h2
        exact kidsF_shape h1 k _ _ _
theorem readF_shape (n : Int) (val val' : Int → Bool) : ∀ (f : Nat) (l : List Fm), (readF n val f l).map (·.2) = (readF n val' f l).map (·.2)
  | 0, l => rfl
  | f + 1, [] => rfl
  | f + 1, x :: l => by
    rw [readF, readF]
    split
    · split
      · rfl
      · exact kidsF_shape (readF_shape n val val' f) _ _ _ _
    · rfl

theorem kidsF_suf {rd : List Fm → Option (Bool × List Fm)} {a : Bool} (hr : ∀ l v l', rd l = some (v, l') → l' <:+ l) : ∀ (k : Nat) (v : Bool) (l : List Fm) (w : Bool) (l' : List Fm), kidsF rd a k v l = some (w, l') → l' <:+ l
  | 0, v, l, w, l', h => by simp only [kidsF, Option.some.injEq, Prod.mk.injEq] at h; rw [h.2]; exact List.suffix_refl _
  | k + 1, v, l, w, l', h => by
    simp only [kidsF] at h
    split at h
    · cases h
    · rename_i u l1 hu
      exact (kidsF_suf hr k _ _ _ _ h).trans (hr _ _ _ hu)
theorem readF_suf (n : Int) (val : Int → Bool) : ∀ (f : Nat) (l : List Fm) (v : Bool) (l' : List Fm), readF n val f l = some (v, l') → l' <:+ l
  | 0, l, v, l', h => by simp [readF] at h
  | f + 1, [], v, l', h => by simp [readF] at h
  | f + 1, x :: l, v, l', h => by
    simp only [readF] at h
    split at h
    · split at h
      · simp only [Option.some.injEq, Prod.mk.injEq] at h
        rw [← h.2]; exact List.suffix_cons _ _
      · exact (kidsF_suf (readF_suf n val f) _ _ _ _ _ h).trans (List.suffix_cons _ _)
    · cases h
theorem readF_drop {n : Int} {val : Int → Bool} {f t : Nat} {l : List Fm} {v : Bool} {l' : List Fm} (h : readF n val f (l.drop t) = some (v, l')) : l' = l.drop (l.length - l'.length) := by
  obtain ⟨p, hp⟩ := (readF_suf _ _ _ _ _ _ h).trans (List.drop_suffix t l)
  rw [← hp]
  simp

/-- Where the form at a place ends. -/
def endR (L : Nat) : Option (Bool × List Fm) → Int
  | some (_, l') => ((L - l'.length : Nat) : Int)
  | none => -1
def endI (n : Int) (l : List Fm) (a : Nat) : Int := endR l.length (readF n (fun _ => false) l.length (l.drop a))
/-- Are they a form? -/
def checkF (n : Int) (l : List Fm) : Bool := decide (l.length ≤ 4000) && (decide (0 ≤ n) && (decide (n ≤ 4000) && decide (endI n l 0 = l.length)))
theorem checkF_eq (n : Int) (val : Int → Bool) (l : List Fm) : checkF n l = (formV n val l).isSome := by
  unfold checkF formV endI
  by_cases h1 : l.length ≤ 4000
  · by_cases h2 : 0 ≤ n
    · by_cases h3 : n ≤ 4000
      · have h4 := readF_shape n (fun _ => false) val l.length l
        have h5 := readF_len n (fun _ => false) l.length l
        simp only [List.drop_zero, h1, h2, h3, decide_true, Bool.true_and, and_self, if_true]
        cases hr : readF n (fun _ => false) l.length l with
        | none =>
          rw [hr] at h4
          cases hr' : readF n val l.length l with
          | none =>
            have h6 : ¬ ((-1 : Int) = l.length) := by omega
            simp [endR, h6]
          | some p => rw [hr'] at h4; cases h4
        | some p =>
          obtain ⟨v, l'⟩ := p
          have h6 := h5 v l' hr
          rw [hr] at h4
          cases hr' : readF n val l.length l with
          | none => rw [hr'] at h4; cases h4
          | some p' =>
            obtain ⟨v', l''⟩ := p'
            rw [hr'] at h4
            simp only [Option.map_some, Option.some.injEq] at h4
            subst h4
            cases l' with
            | nil => simp [endR]
            | cons y l' =>
              have h7 : ¬ (((l.length - (y :: l').length : Nat) : Int) = l.length) := by simp only [List.length_cons] at h6 ⊢; omega
              simp only [endR, Option.isSome_none]; exact decide_eq_false h7
      · simp [h3]
    · simp [h2]
  · simp [h1]
end Go.Proofs.YtpjpaojjagffoaaDoor
/- Forms: the reference's reading. -/
namespace Go.Proofs.YtpjpaojjagffoaaDoor
open Go.AM Go.Proofs
variable {Γ : Nat → Option AV}
set_option linter.unusedSimpArgs false
set_option linter.unusedVariables false

set_option maxHeartbeats 2000000 in
theorem p_r10_plain (x : Fm) (n : Int) (h0 : 0 ≤ n) (h1 : n ≤ 2 ^ 40) : PureCon Tryd.prog Γ n_r10_plain [eFm x, .int .i64 n] (.bool (okN n x)) := by
  obtain ⟨kd, lt, kk⟩ := x
  have e : IntKind.i64.wrap (2 * n) = 2 * n := wrap64 (by omega) (by omega)
  have e2 : (lt / 2 < n) = (lt < 2 * n) := propext (by omega)
  refine .run 100 c_r10_plain (by simp) ?_
  by_cases k2 : kd = 2
  · subst k2
    by_cases a : 0 ≤ lt
    · by_cases b : lt < 2 * n
      · simp [e, e2, a, b, okN]
        exact .back (by simp [e, e2, a, b, okN])
      · simp [e, e2, a, b, okN]
        exact .back (by simp [e, e2, a, b, okN])
    · simp [e, e2, a, okN]
      exact .back (by simp [e, e2, a, okN])
  · by_cases a : lt = 0
    · subst a
      by_cases k0 : kd = 0
      · subst k0; simp [okN]; exact .back (by simp [okN])
      · by_cases k1 : kd = 1
        · subst k1; simp [okN]; exact .back (by simp [okN])
        · by_cases k3 : kd = 3
          · subst k3; simp [okN]; exact .back (by simp [okN])
          · by_cases k4 : kd = 4
            · subst k4; simp [okN]; exact .back (by simp [okN])
            · simp [okN, k0, k1, k2, k3, k4]; exact .back (by simp [okN, k0, k1, k2, k3, k4])
    · by_cases k0 : kd = 0
      · subst k0; simp [okN, a]; exact .back (by simp [okN, a])
      · by_cases k1 : kd = 1
        · subst k1; simp [okN, a]; exact .back (by simp [okN, a])
        · by_cases k3 : kd = 3
          · subst k3; simp [okN, a]; exact .back (by simp [okN, a])
          · by_cases k4 : kd = 4
            · subst k4; simp [okN, a]; exact .back (by simp [okN, a])
            · simp [okN, a, k0, k1, k2, k3, k4]; exact .back (by simp [okN, a, k0, k1, k2, k3, k4])

set_option maxRecDepth 8000 in
theorem f_end (l : List Fm) (hl : l.length < 2 ^ 40) (n : Int) (a : Nat) (ha : a < l.length)
    (ih : ∀ t : Nat, a < t → t ≤ l.length → PureCon Tryd.prog Γ n_r10_end [.list false 3 (l.map eFm), .int .i64 t, .int .i64 n] (.int .i64 (endI n l t))) : ∀ (m t : Nat), t + m = l.length → a < t → ∀ (i : Nat) (v : Bool), i ≤ t →
    Fins Tryd.prog Γ (r10_end_L1 (.list false 3 (l.map eFm)) (.int .i64 a) (.int .i64 n) (.int .i64 t) (.int .i64 i) []) (.ret (.int .i64 (endR l.length (kidsF (readF n (fun _ => false) l.length) (decide (l[a].kind = 3)) (l[a].kids.toNat - i) v (l.drop t))))) := by
  intro m
  induction m using Nat.strongRecOn with
  | _ m ihm =>
    intro t ht hat i v hit
    by_cases q : (i : Int) < l[a].kids
    · have e : l[a].kids.toNat - i = (l[a].kids.toNat - (i + 1)) + 1 := by omega
      have hc := ih t hat (by omega)
      have hu : endI n l t = endR l.length (readF n (fun _ => false) l.length (l.drop t)) := rfl
      rw [e, kidsF]
      refine .go 60 ?_
      simp (disch := omega) [ha, q]
      refine .call 60 (by simp) hc ?_
      rw [hu]
      cases hr : readF n (fun _ => false) l.length (l.drop t) with
      | none =>
        simp (disch := omega) [endR]
        refine .reLoop ?_
        refine .go 60 ?_
        by_cases q2 : (i : Int) + 1 < l[a].kids
        · simp [ha, q2]
          exact .back (by simp)
        · simp [ha, q2]
          exact .back (by simp)
      | some p =>
        obtain ⟨w, l'⟩ := p
        have hlen := readF_len _ _ _ _ _ _ hr
        rw [List.length_drop] at hlen
        have hd : l' = l.drop (l.length - l'.length) := readF_drop hr
        have hh := ihm l'.length (by omega) (l.length - l'.length) (by omega) (by omega) (i + 1) (if (decide (l[a].kind = 3)) = true then w && v else w || v) (by omega)
        simp (disch := omega) [endR]
        refine .reLoop ?_
        simp [endR] at hh ⊢
        rw [← hd] at hh
        exact hh
    · have e : l[a].kids.toNat - i = 0 := by omega
      rw [e, kidsF]
      have e3 : l.length - (l.drop t).length = t := by rw [List.length_drop]; omega
      refine .go 60 ?_
      simp [ha, q, endR]
      exact .back (by simp; omega)

theorem readF_cons {n : Int} {val : Int → Bool} {f : Nat} {x : Fm} {l : List Fm} (hf : l.length < f) : readF n val f (x :: l) = if okN n x = true then (if x.kind = 2 then some (val x.lit, l) else kidsF (readF n val f) (decide (x.kind = 3)) x.kids.toNat (decide (x.kind = 1) || decide (x.kind = 3)) l) else none := by
  cases f with
  | zero => omega
  | succ f => rw [readF, kidsF_congr (L := l.length) (fun l' hl' => readF_fuel n val f (f + 1) l' (by omega) (by omega)) (readF_len n val f) _ _ _ (Nat.le_refl _)]
set_option maxRecDepth 8000 in
theorem p_r10_end (l : List Fm) {k : Nat} (hk : Kd 3 k l) (hl : l.length < 2 ^ 40) (n : Int) (h0 : 0 ≤ n) (h1 : n ≤ 2 ^ 40) : ∀ (m a : Nat), a + m = l.length → PureCon Tryd.prog Γ n_r10_end [.list false k (l.map eFm), .int .i64 a, .int .i64 n] (.int .i64 (endI n l a)) := by
  intro m
  induction m using Nat.strongRecOn with
  | _ m ihm =>
    intro a ha
    by_cases q : a < l.length
    · obtain rfl : k = 3 := hk.of q
      have hp := p_r10_plain (Γ := Γ) l[a] n h0 h1
      have e : endI n l a = endR l.length (readF n (fun _ => false) l.length (l[a] :: l.drop (a + 1))) := by rw [endI, ← List.drop_eq_getElem_cons q]
      rw [e, readF_cons (by rw [List.length_drop]; omega)]
      have ih : ∀ t : Nat, a < t → t ≤ l.length → PureCon Tryd.prog Γ n_r10_end [.list false 3 (l.map eFm), .int .i64 t, .int .i64 n] (.int .i64 (endI n l t)) := fun t h2 h3 => ihm (l.length - t) (by omega) t (by omega)
      refine .run 60 c_r10_end (by simp) ?_
      have q3 : ¬ l.length ≤ a := by omega
      simp [q, q3]
      refine .call 60 (by simp) hp ?_
      cases ho : okN n l[a] with
      | false =>
        simp [endR]
        exact .back (by simp)
      | true =>
        have hh := f_end (Γ := Γ) l hl n a q ih (l.length - (a + 1)) (a + 1) (by omega) (by omega) 0 (decide (l[a].kind = 1) || decide (l[a].kind = 3)) (by omega)
        simp (disch := omega)
        refine .inLoop ?_
        by_cases k2 : l[a].kind = 2
        · have hkids : l[a].kids = 0 := by
            simp only [okN, k2, if_true, Bool.and_eq_true, decide_eq_true_eq] at ho
            exact ho.2.2
          have e3 : (List.drop (a + 1) l).length = l.length - (a + 1) := by simp
          simp [hkids, kidsF, endR] at hh
          simp only [k2, endR, if_true]
          rw [e3]
          exact hh
        · simp [k2]
          simp at hh
          exact hh
    · have e : endI n l a = -1 := by
        rw [endI, List.drop_eq_nil_of_le (by omega)]
        cases l.length <;> rfl
      have q' : ¬ (a : Int) < l.length := by omega
      have q2 : (l.length : Int) ≤ a := by omega
      rw [e]
      refine .run 60 c_r10_end (by simp) ?_
      simp [q', q2]
      exact .back (by simp)
theorem p_r10_Check (l : List Fm) {k : Nat} (hk : Kd 3 k l) (hl : l.length < 2 ^ 40) (n : Int) : PureCon Tryd.prog Γ n_r10_Check [.list false k (l.map eFm), .int .i64 n] (.bool (checkF n l)) := by
  have e1 : ((l.length : Int) ≤ 4000) = (l.length ≤ 4000) := propext (by omega)
  refine .run 60 c_r10_Check (by simp) ?_
  unfold checkF
  by_cases a : l.length ≤ 4000
  · by_cases b : 0 ≤ n
    · by_cases c : n ≤ 4000
      · have hE := p_r10_end (Γ := Γ) l hk hl n b (by omega) l.length 0 (by omega)
        simp [e1, a, b, c]
        refine .call 60 (by simp) hE ?_
        simp
        exact .back (by simp)
      · simp [e1, a, b, c]
        exact .back (by simp)
    · simp [e1, a, b]
      exact .back (by simp)
  · simp [e1, a]
    exact .back (by simp)
end Go.Proofs.YtpjpaojjagffoaaDoor
/- Forms: what the reference comes to. -/
namespace Go.Proofs.YtpjpaojjagffoaaDoor
open Go.AM Go.Proofs
variable {Γ : Nat → Option AV}
set_option linter.unusedSimpArgs false
set_option linter.unusedVariables false

set_option maxRecDepth 8000 in
theorem f_eval (l : List Fm) (hl : l.length < 2 ^ 40) (ins : List Bool) {ki : Nat} (hki : Kd 1 ki ins) (hli : ins.length < 2 ^ 40) (a : Nat) (ha : a < l.length) (hk34 : l[a].kind = 3 ∨ l[a].kind = 4)
    (ih : ∀ t : Nat, a < t → t ≤ l.length → ∀ v l', readF ins.length (litI ins) l.length (l.drop t) = some (v, l') → PureCon Tryd.prog Γ n_r10_eval [.list false 3 (l.map eFm), .int .i64 t, .list false ki (ins.map .bool)] (.bool v)) (v' : Bool) (l' : List Fm) :
    ∀ (m t : Nat), t + m = l.length → a < t → ∀ (i : Nat) (v all one : Bool), i ≤ t → (if l[a].kind = 3 then all = v else one = v) → kidsF (readF ins.length (litI ins) l.length) (decide (l[a].kind = 3)) (l[a].kids.toNat - i) v (l.drop t) = some (v', l') →
    Fins Tryd.prog Γ (r10_eval_L4 (.list false 3 (l.map eFm)) (.list false ki (ins.map .bool)) (.ptr 0 0) (.bool all) (.bool one) (.int .i64 t) (.int .i64 i) [.cells (eFm l[a]).cells]) (.ret (.bool v')) := by
  intro m
  induction m using Nat.strongRecOn with
  | _ m ihm =>
    intro t ht hat i v all one hit hv hr
    by_cases q : (i : Int) < l[a].kids
    · have e : l[a].kids.toNat - i = (l[a].kids.toNat - (i + 1)) + 1 := by omega
      rw [e, kidsF] at hr
      cases hr1 : readF ins.length (litI ins) l.length (l.drop t) with
      | none => rw [hr1] at hr; cases hr
      | some p =>
        obtain ⟨w, l1⟩ := p
        rw [hr1] at hr
        simp only at hr
        have hc := ih t hat (by omega) w l1 hr1
        have hE := p_r10_end (Γ := Γ) l (.inl rfl : Kd 3 3 l) hl ins.length (by omega) (by omega) (l.length - t) t (by omega)
        have hsh := readF_shape ins.length (fun _ => false) (litI ins) l.length (l.drop t)
        have hlen := readF_len _ _ _ _ _ _ hr1
        rw [List.length_drop] at hlen
        have hd := readF_drop hr1
        have hend : endI ins.length l t = ((l.length - l1.length : Nat) : Int) := by
          rw [endI]
          rw [hr1] at hsh
          cases hr2 : readF ins.length (fun _ => false) l.length (l.drop t) with
          | none => rw [hr2] at hsh; cases hsh
          | some p2 =>
            rw [hr2] at hsh
            simp only [Option.map_some, Option.some.injEq] at hsh
            obtain ⟨w2, l2⟩ := p2
            simp only at hsh
            subst hsh
            rfl
        rw [hend] at hE
        rw [hd] at hr
        have hh := ihm l1.length (by omega) (l.length - l1.length) (by omega) (by omega) (i + 1) (if (decide (l[a].kind = 3)) = true then w && v else w || v) (all && w) (one || w) (by omega)
          (by
            split
            · rename_i h3; rw [if_pos h3] at hv; subst hv; simp [h3, Bool.and_comm]
            · rename_i h3; rw [if_neg h3] at hv; subst hv; simp [h3, Bool.or_comm]) hr
        refine .go 60 ?_
        simp [q]
        refine .call 60 (by simp) hc ?_
        cases all <;> cases one <;> cases w
        all_goals
          simp
          refine .call 60 (by simp) hE ?_
          simp (disch := omega)
          refine .reLoop ?_
          simp at hh ⊢
          exact hh
    · have e : l[a].kids.toNat - i = 0 := by omega
      rw [e, kidsF] at hr
      simp only [Option.some.injEq, Prod.mk.injEq] at hr
      rw [← hr.1]
      refine .go 60 ?_
      rcases hk34 with h3 | h4
      · rw [if_pos h3] at hv
        subst hv
        simp [h3, q]
        exact .back (by simp)
      · rw [if_neg (by omega)] at hv
        subst hv
        simp [h4, q]
        exact .back (by simp)

set_option maxRecDepth 8000 in
theorem p_r10_eval (l : List Fm) {k : Nat} (hk : Kd 3 k l) (hl : l.length < 2 ^ 40) (ins : List Bool) {ki : Nat} (hki : Kd 1 ki ins) (hli : ins.length < 2 ^ 40) : ∀ (m a : Nat), a + m = l.length → ∀ v l', readF ins.length (litI ins) l.length (l.drop a) = some (v, l') →
    PureCon Tryd.prog Γ n_r10_eval [.list false k (l.map eFm), .int .i64 a, .list false ki (ins.map .bool)] (.bool v) := by
  intro m
  induction m using Nat.strongRecOn with
  | _ m ihm =>
    intro a ha v l' hr
    have q : a < l.length := by
      refine Decidable.byContradiction fun hn => ?_
      rw [List.drop_eq_nil_of_le (by omega)] at hr
      cases hll : l.length <;> rw [hll] at hr <;> cases hr
    obtain rfl : k = 3 := hk.of q
    have ih : ∀ t : Nat, a < t → t ≤ l.length → ∀ v l', readF ins.length (litI ins) l.length (l.drop t) = some (v, l') → PureCon Tryd.prog Γ n_r10_eval [.list false 3 (l.map eFm), .int .i64 t, .list false ki (ins.map .bool)] (.bool v) :=
      fun t h2 h3 => ihm (l.length - t) (by omega) t (by omega)
    rw [List.drop_eq_getElem_cons q, readF_cons (by rw [List.length_drop]; omega)] at hr
    cases ho : okN ins.length l[a] with
    | false => simp [ho] at hr
    | true =>
      simp only [ho, if_true] at hr
      refine .run 60 c_r10_eval (by simp) ?_
      by_cases k2 : l[a].kind = 2
      · simp only [k2, if_true, Option.some.injEq, Prod.mk.injEq] at hr
        have ho2 := ho
        simp only [okN, k2, if_true, Bool.and_eq_true, decide_eq_true_eq] at ho2
        obtain ⟨h1, h2, h3⟩ := ho2
        obtain ⟨b, hb⟩ := Int.eq_ofNat_of_zero_le h1
        have h4 : b / 2 < ins.length := by omega
        have h5 : ((b / 2 : Nat) : Int) < ins.length := by omega
        have h6 : ((b % 2 : Nat) : Int) = 1 ↔ b % 2 = 1 := by omega
        have h7 := eq_true (hki.of h4)
        have e : litI ins (b : Int) = (!decide (ins[b / 2] = decide (b % 2 = 1))) := by
          have e1 : ((b : Int) / 2).toNat = b / 2 := by omega
          have e2 : ((b : Int) % 2 = 1) = (b % 2 = 1) := propext (by omega)
          unfold litI
          rw [e1, List.getD_eq_getElem?_getD, List.getElem?_eq_getElem h4]
          simp [e2]
        rw [← hr.1, hb, e]
        simp (disch := omega) [-Int.natCast_ediv, -Int.natCast_emod, q, k2]
        refine .go 60 ?_
        simp (disch := omega) [-Int.natCast_ediv, -Int.natCast_emod, q, k2, hb, h4, h5, h6, h7]
        have e9 : ((b : Int) / 2).toNat = b / 2 := by omega
        exact .back (by simp [e9])
      · simp only [k2, if_false] at hr
        simp (disch := omega) [q, k2]
        refine .go 60 ?_
        simp (disch := omega) [q, k2]
        refine .inLoop ?_
        by_cases k34 : l[a].kind = 3 ∨ l[a].kind = 4
        · have hh := f_eval (Γ := Γ) l hl ins hki hli a q k34 ih v l' (l.length - (a + 1)) (a + 1) (by omega) (by omega) 0 (decide (l[a].kind = 1) || decide (l[a].kind = 3)) true false (by omega)
            (by rcases k34 with h | h <;> simp [h]) (by simpa using hr)
          simp at hh ⊢
          exact hh
        · have hkids : l[a].kids = 0 ∧ (l[a].kind = 0 ∨ l[a].kind = 1) := by
            simp only [okN, if_neg k2, if_neg k34] at ho
            split at ho
            · rename_i h01; simp only [Bool.and_eq_true, decide_eq_true_eq] at ho; exact ⟨ho.2, h01⟩
            · cases ho
          simp only [hkids.1, Int.toNat_zero, kidsF, Option.some.injEq, Prod.mk.injEq] at hr
          rw [← hr.1]
          refine .go 60 ?_
          rcases hkids.2 with h0 | h0
          · simp [h0, hkids.1]
            exact .back (by simp)
          · simp [h0, hkids.1]
            exact .back (by simp)
theorem p_r10_Eval (l : List Fm) {k : Nat} (hk : Kd 3 k l) (hl : l.length < 2 ^ 40) (ins : List Bool) {ki : Nat} (hki : Kd 1 ki ins) (hli : ins.length < 2 ^ 40) :
    PureCon Tryd.prog Γ n_r10_Eval [.list false k (l.map eFm), .list false ki (ins.map .bool)] (.tup [.bool ((formV ins.length (litI ins) l).getD false), .int .i64 (errV (formV ins.length (litI ins) l))]) := by
  have hC := p_r10_Check (Γ := Γ) l hk hl ins.length
  rw [checkF_eq _ (litI ins)] at hC
  have hE := p_r10_eval (Γ := Γ) l hk hl ins hki hli l.length 0 (by omega)
  refine .run 60 c_r10_Eval (by simp) ?_
  simp
  refine .call 60 (by simp) hC ?_
  cases hv : formV ins.length (litI ins) l with
  | none =>
    simp
    exact .back (by simp)
  | some v =>
    have hr : readF ins.length (litI ins) l.length (l.drop 0) = some (v, []) := by
      rw [List.drop_zero]
      unfold formV at hv
      split at hv
      · split at hv
        · rename_i w h1; simp only [Option.some.injEq] at hv; rw [h1, hv]
        · cases hv
      · cases hv
    simp
    refine .call 60 (by simp) (hE v [] hr) ?_
    simp
    exact .back (by simp)
end Go.Proofs.YtpjpaojjagffoaaDoor
/- Factors: literals of rows; who has one. -/
namespace Go.Proofs.YtpjpaojjagffoaaDoor
open Go.AM Go.Proofs
variable {Γ : Nat → Option AV}
set_option linter.unusedSimpArgs false
set_option linter.unusedVariables false

/-- A literal: a place and a sign. -/
abbrev Li : Type := Nat × UInt8
abbrev eLi (x : Li) : AV := .agg [.int .i64 x.1, .int .i64 x.2.toNat]
def litsF : Bs → Nat → List Li
  | [], _ => []
  | c :: s, i => if c = 45 then litsF s (i + 1) else (i, c) :: litsF s (i + 1)
def hasF (x : Li) (s : Bs) : Bool := decide (x ∈ litsF s 0)
def nodeF (x : Li) : Fm := ⟨2, if x.2 = 48 then 2 * x.1 + 1 else 2 * x.1, 0⟩
theorem eqData_li (a b : Li) : eqData (.strct [.int, .int]) (eLi a) (eLi b) = some (decide (a = b)) := by
  obtain ⟨i, c⟩ := a
  obtain ⟨j, d⟩ := b
  simp only [eqData, allDatum, isDatum, eqAll, eqOne, if_true]
  by_cases h1 : i = j
  · subst h1
    by_cases h2 : c = d
    · subst h2; simp
    · have h3 : ¬ (c.toNat : Int) = d.toNat := by
        intro h; exact h2 (UInt8.toNat_inj.1 (by omega))
      have h4 : ((c.toNat : Int) == d.toNat) = false := beq_eq_false_iff_ne.2 h3
      simp [h2, h4]
  · have h3 : ¬ (i : Int) = j := by omega
    have h4 : ((i : Int) == j) = false := beq_eq_false_iff_ne.2 h3
    simp [h1, h4]
/-- A memory speaks of itself only. -/
def WfO (h : List Ob) : Prop := ∀ m, h.length ≤ m → belH m h = true
theorem belH_set {m : Nat} {o : Ob} (ho : belO m o = true) : ∀ {h : List Ob} (i : Nat), belH m h = true → belH m (h.set i o) = true
  | [], i, h1 => h1
  | o' :: h, 0, h1 => by
    simp only [belH, Bool.and_eq_true, List.set_cons_zero] at h1 ⊢
    exact ⟨ho, h1.2⟩
  | o' :: h, i + 1, h1 => by
    simp only [belH, Bool.and_eq_true, List.set_cons_succ] at h1 ⊢
    exact ⟨h1.1, belH_set ho i h1.2⟩
theorem WfO.set {h : List Ob} (hw : WfO h) {o : Ob} (hb : ∀ m, h.length ≤ m → belO m o = true) (i : Nat) : WfO (h.set i o) := fun m hm => by
  rw [List.length_set] at hm
  exact belH_set (hb m hm) i (hw m hm)

theorem p_node (x : Li) (hx : x.1 < 2 ^ 40) : PureCon Tryd.prog Γ n_cover_literal_node [eLi x] (eFm (nodeF x)) := by
  obtain ⟨i, c⟩ := x
  simp only at hx
  refine .run 60 c_cover_literal_node (by simp) ?_
  have e : ((c.toNat : Int) = 48) = (c = 48) := propext ⟨fun h => UInt8.toNat_inj.1 (by rw [show ((48 : UInt8).toNat) = 48 from rfl]; omega), fun h => by rw [h]; rfl⟩
  by_cases h : c = 48
  · simp (disch := omega) [e, h]
    exact .back (by simp [nodeF, h])
  · simp (disch := omega) [e, h]
    exact .back (by simp [nodeF, h])

theorem r_literals (s : Bs) {h : List Ob} : ∀ up, AM.Reach Tryd.prog Γ (.cl n_cover_literals [.str s] up h) (.back up (.fn (.func n_cover_literals_1) [] [.ptr h.length 0]) (h ++ [.cells [.str s]])) := by
  intro up
  refine .enterB 60 c_cover_literals ?_
  simp

abbrev upHas (s : Bs) (i n : Nat) (up : List Fr) : List Fr := ⟨.run, n_cover_has_1, [It.inRange (n + 3), It.inBlock 0 [], It.code ((ACode.reg cover_has_1_p0).seq ACode.ret)],
  [.str s, .ptr i 0, U, .ptr n 0, U, .str s, .fn (.func n_cover_literals_1) [] [.ptr (n + 1) 0], U, U, U, U], [.mark (n + 2)], .norm, n⟩ :: up
abbrev hHas (s : Bs) (i n : Nat) : List Ob := [.cells [.bool false], .cells [.str s], .dfr true,
  .loop .ready .none n_cover_has_1 [U, .ptr i 0, U, .ptr n 0, U, U, U, U, U, U, U] [7] (.reg cover_has_1_p1) cover_has_1_p6]
/-- A run that comes back with more memory. -/
def Left (P : Program) (Γ : Nat → Option AV) (c : AM.Cfg) (up : List Fr) (v : AV) (h : List Ob) : Prop := ∃ J, AM.Reach P Γ c (.back up v (h ++ J))
section
variable {P : Program} {c c' : AM.Cfg} {up up' : List Fr} {v : AV} {h h' : List Ob}
theorem Left.to (h1 : AM.Reach P Γ c c') (h2 : Left P Γ c' up v h) : Left P Γ c up v h := h2.imp fun _ h3 => .trans h1 h3
theorem Left.goB (n : Nat) (h1 : Left P Γ (AM.go P Γ 2 n c) up v h) : Left P Γ c up v h := .to (Reach.goes n c) h1
theorem Left.pop (n : Nat) (h1 : Left P Γ (AM.go P Γ 2 n (AM.pop c)) up v h) : Left P Γ c up v h := .to (.pop c) (.goB n h1)
theorem Left.back (J : List Ob) : Left P Γ (.back up v (h ++ J)) up v h := ⟨J, .refl _⟩
theorem Left.reLoop {fn : FuncId} {its : List It} {t : List AV} {ds : List ADef} {kind : FK} {base : Nat} {m : List Bool} {b : ACode}
    (h1 : Left P Γ (.fr ⟨.run, fn, .code b :: .inLoop m b :: its, maskT m t, ds, kind, base⟩ up' h') up v h) : Left P Γ (.fr ⟨.run, fn, .inLoop m b :: its, t, ds, kind, base⟩ up' h') up v h := .to (AM.Reach.reLoop (.refl _)) h1
theorem Left.inLoop {fn : FuncId} {its : List It} {t : List AV} {ds : List ADef} {kind : FK} {base : Nat} {m : List Bool} {b : ACode}
    (h1 : Left P Γ (.fr ⟨.run, fn, .code b :: .inLoop m b :: its, maskT m t, ds, kind, base⟩ up' h') up v h) : Left P Γ (.fr ⟨.run, fn, .code (.loop m b) :: its, t, ds, kind, base⟩ up' h') up v h := .to (AM.Reach.inLoop (.refl _)) h1
theorem Left.dropTo {f : Fr} {h1 : List Ob} (n : Nat) (hh : h'.take n = h1) (b1 : f.base ≤ n) (b2 : belF n f = true) (b3 : belH n h1 = true) (h4 : Left P Γ (.fr f up' h1) up v h) : Left P Γ (.fr f up' h') up v h := .to (AM.Reach.dropTo n hh b1 b2 b3 (.refl _)) h4
theorem Left.rcall (n : Nat) {f : FuncId} {args : List AV} {v0 : AV} {h0 : List Ob} (h1 : ∀ up, AM.Reach P Γ (.cl f args up h0) (.back up v0 h')) (h2 : Left P Γ (AM.go P Γ 2 n (AM.pop (.back up' v0 h'))) up v h) : Left P Γ (.cl f args up' h0) up v h := .to (h1 up') (.pop n h2)
theorem Left.enterB (n : Nat) {g : FuncId} {F : AFun} {args : List AV} (hF : cfun P g = some F) (h1 : Left P Γ (AM.go P Γ 2 n (.fr ⟨.run, g, [.code F.body], args ++ List.replicate (F.nt - args.length) .undef, [], .norm, h'.length⟩ up' h')) up v h) : Left P Γ (.cl g args up' h') up v h := .to (enter_eq hF args (.goB n (.refl _))) h1
theorem Left.leave {f : FuncId} {args : List AV} (h1 : Left P Γ (.cl f args up h) up v h) (hv : bel h.length v = true) (hw : WfO h) : AM.Reach P Γ (.cl f args up h) (.back up v h) := by
  obtain ⟨J, h2⟩ := h1
  have h3 := AM.Reach.leave h2 hv (by rw [List.take_left' rfl]; exact hw _ (Nat.le_refl _))
  rw [List.take_left' rfl] at h3
  exact h3
end

set_option maxRecDepth 8000 in
theorem r_has1 (x : Li) (i : Nat) (s : Bs) (hs : s.length < 2 ^ 40) {h : List Ob} (hi : h[i]? = some (.cells (eLi x).cells)) (hw : WfO h) (up : List Fr) : ∀ n j : Nat, j + n = s.length →
    Left Tryd.prog Γ (cover_literals_1_L0 (.yld (h.length + 3)) (.ptr (h.length + 1) 0) (.int .i64 s.length) (.int .i64 j) (h ++ hHas s i h.length) ⟨[], .norm, h.length + 4, upHas s i h.length up⟩) up (.bool (decide (x ∈ litsF (s.drop j) j))) h := by
  have hil := lt_of_get hi
  have e21 : h.length + 2 + 1 = h.length + 3 := rfl
  have hwr : ∀ c : UInt8, IntKind.i64.wrap (c.toNat : Int) = c.toNat := fun c => wrap64 (by omega) (by have := c.toNat_lt; omega)
  have hget := fun os => get_app hi os
  have hb4 := hw (h.length + 4) (by omega)
  intro n
  induction n with
  | zero =>
    intro j hj
    have q1 : ¬ j < s.length := by omega
    rw [List.drop_eq_nil_of_le (by omega), litsF]
    refine .goB 60 ?_
    simp [q1]
    refine .pop 60 ?_
    simp
    exact .back _
  | succ n ih =>
    intro j hj
    have q1 : j < s.length := by omega
    have hh := ih (j + 1) (by omega)
    rw [List.drop_eq_getElem_cons q1, litsF]
    by_cases a : s[j] = 45
    · refine .goB 60 ?_
      simp (disch := omega) [q1, a]
      refine .reLoop ?_
      simp at hh ⊢
      exact hh
    · have e : decide (x ∈ (if s[j] = 45 then litsF (s.drop (j + 1)) (j + 1) else (j, s[j]) :: litsF (s.drop (j + 1)) (j + 1))) = (decide ((j, s[j]) = x) || decide (x ∈ litsF (s.drop (j + 1)) (j + 1))) := by
        rw [if_neg a, Bool.eq_iff_iff]
        simp only [decide_eq_true_eq, List.mem_cons, Bool.or_eq_true]
        exact or_congr_left eq_comm
      rw [e]
      have hq := eqData_li (j, s[j]) x
      by_cases b : (j, s[j]) = x
      · refine .goB 60 ?_
        simp (disch := omega) [q1, a, hget, setAll, hq, b, hwr]
        refine .pop 60 ?_
        simp
        refine .pop 60 ?_
        simp
        exact .back _
      · refine .goB 60 ?_
        simp (disch := omega) [q1, a, hget, setAll, hq, b, hwr]
        refine .pop 60 ?_
        simp (disch := omega)
        refine .reLoop ?_
        simp
        refine .dropTo (h.length + 4) (by simp; rfl) (by simp) (by simp) (by simp [hb4]; omega) ?_
        simp at hh ⊢
        exact hh
theorem a_has (x : Li) (i : Nat) (l : List Bs) (hl : ∀ s ∈ l, s.length < 2 ^ 40) : Asks Tryd.prog Γ (fun h => h[i]? = some (.cells (eLi x).cells) ∧ WfO h) n_cover_has_1 [.ptr i 0] AV.str (hasF x) l := by
  refine ⟨by simp, fun s hs up h hφ => ?_⟩
  obtain ⟨hi, hw⟩ := hφ
  refine Left.leave ?_ (by simp) hw
  have hh := r_has1 (Γ := Γ) x i s (hl s hs) hi hw up s.length 0 (by omega)
  refine .enterB 60 c_cover_has_1 ?_
  simp
  refine .rcall 60 (r_literals s) ?_
  simp
  refine .enterB 60 c_cover_literals_1 ?_
  simp
  refine .inLoop ?_
  simp [hasF] at hh ⊢
  exact hh
theorem r_has (x : Li) {h : List Ob} : ∀ up, AM.Reach Tryd.prog Γ (.cl n_cover_has [eLi x] up h) (.back up (.fn (.func n_cover_has_1) [] [.ptr h.length 0]) (h ++ [.cells (eLi x).cells])) := by
  intro up
  refine .enterB 60 c_cover_has ?_
  simp
end Go.Proofs.YtpjpaojjagffoaaDoor
/- Factors: how many rows have a literal; rows without literals; an and of literals; the literal that most rows have. -/
namespace Go.Proofs.YtpjpaojjagffoaaDoor
open Go.AM Go.Proofs
variable {Γ : Nat → Option AV}
set_option linter.unusedSimpArgs false
set_option linter.unusedVariables false

def countF (x : Li) : List Bs → Nat
  | [] => 0
  | s :: r => (if hasF x s = true then 1 else 0) + countF x r
theorem countF_le (x : Li) : ∀ r : List Bs, countF x r ≤ r.length
  | [] => Nat.le_refl _
  | s :: r => by rw [countF, List.length_cons]; have := countF_le x r; split <;> omega

theorem p_count (rows : List Bs) (x : Li) {k : Nat} (hk : Kd 1 k rows) (hl : rows.length < 2 ^ 40) (hs : ∀ s ∈ rows, s.length < 2 ^ 40) : PureCon Tryd.prog Γ n_cover_count [.list false k (rows.map .str), eLi x] (.int .i64 (countF x rows)) := by
  have key : ∀ n i : Nat, i + n = rows.length → ∀ a : Nat, a + n < 2 ^ 41 → Fins Tryd.prog Γ (cover_count_L1 (.ptr 0 0) (.int .i64 a) (.list false k (rows.map .str)) (.int .i64 rows.length) (.int .i64 i) [.cells (eLi x).cells]) (.ret (.int .i64 (a + countF x (rows.drop i) : Nat))) := by
    intro n
    induction n with
    | zero =>
      intro i hi a ha
      have q1 : ¬ i < rows.length := by omega
      rw [List.drop_eq_nil_of_le (by omega), countF]
      refine .go 60 ?_
      simp [q1]
      exact .back (by simp)
    | succ n ih =>
      intro i hi a ha
      have q1 : i < rows.length := by omega
      have q2 := eq_true (hk.of q1)
      have hw : WfO [.cells (eLi x).cells, .cells (eLi x).cells] := by intro m hm; simp
      have hc := (a_has (Γ := Γ) x 1 [rows[i]] (by intro s h; simp only [List.mem_singleton] at h; subst h; exact hs _ (List.getElem_mem q1))).2 rows[i] (by simp)
      rw [List.drop_eq_getElem_cons q1, countF]
      refine .go 60 ?_
      simp (disch := omega) [q1, q2]
      refine .rcall 60 (r_has x) ?_
      simp
      refine .rcall 60 (fun up => hc up [.cells (eLi x).cells, .cells (eLi x).cells] ⟨rfl, hw⟩) ?_
      by_cases h3 : hasF x rows[i] = true
      · have hh := ih (i + 1) (by omega) (a + 1) (by omega)
        simp (disch := omega) [h3]
        refine .reLoop ?_
        simp
        refine .drop 1 rfl (by simp) (by simp) (by simp) ?_
        simp [q2, ← Int.add_assoc] at hh ⊢
        exact hh
      · have hh := ih (i + 1) (by omega) a (by omega)
        simp (disch := omega) [h3]
        refine .reLoop ?_
        simp
        refine .drop 1 rfl (by simp) (by simp) (by simp) ?_
        simp [q2] at hh ⊢
        exact hh
  refine .run 60 c_cover_count (by simp) ?_
  simp
  refine .inLoop ?_
  have hh := key rows.length 0 (by omega) 0 (by omega)
  simp at hh ⊢
  exact hh

/-- A row without literals. -/
def cutL (l : List Li) (s : Bs) : Bs := l.foldl (fun b x => b.set x.1 45) s
theorem cutL_len : ∀ (l : List Li) (s : Bs), (cutL l s).length = s.length
  | [], s => rfl
  | x :: l, s => by have := cutL_len l (s.set x.1 45); simpa [cutL] using this
theorem byteA45 : byteA 45 = .int .u8 45 := rfl
theorem cutL_snoc (l : List Li) (x : Li) (s : Bs) : cutL (l ++ [x]) s = (cutL l s).set x.1 45 := by simp [cutL]

set_option maxRecDepth 8000 in
theorem r_div4 (l : List Li) {kl : Nat} (hkl : Kd 2 kl l) (hll : l.length < 2 ^ 40) (s : Bs) (hx : ∀ x ∈ l, x.1 < s.length) (hs : s.length < 2 ^ 40) (o0 o1 : Ob) (x1 x5 x11 x12 x13 : AV) (up : List Fr) (hb : belL 3 [x1, x5, x11, x12, x13] = true) (ho : belH 3 [o0, o1] = true) :
    ∀ n i : Nat, i + n = l.length → AM.Reach Tryd.prog Γ (cover_divide_L4 x1 x5 (.sl 2 0 s.length) x11 x12 x13 (.list false kl (l.map eLi)) (.int .i64 l.length) (.int .i64 i) [o0, o1, .row 1 t_uint8 ((cutL (l.take i) s).map byteA) none true false] ⟨[], .norm, 0, up⟩)
      (cover_divide_E4 x1 x5 (.sl 2 0 s.length) x11 x12 x13 [o0, o1, .row 1 t_uint8 ((cutL l s).map byteA) none true false] ⟨[], .norm, 0, up⟩) := by
  intro n
  induction n with
  | zero =>
    intro i hi
    have q1 : ¬ i < l.length := by omega
    rw [List.take_of_length_le (by omega)]
    refine .goS 60 ?_
    simp [q1]
    exact .exit rfl rfl
  | succ n ih =>
    intro i hi
    have q1 : i < l.length := by omega
    have q2 := eq_true (hkl.of q1)
    have q3 := hx l[i] (List.getElem_mem q1)
    have hh := ih (i + 1) (by omega)
    rw [List.take_succ_eq_append_getElem q1, cutL_snoc] at hh
    have q4 : l[i].1 < (cutL (l.take i) s).length := by rw [cutL_len]; exact q3
    refine .goS 60 ?_
    simp (disch := omega) [q1, q2, q3, q4, cutL_len]
    refine .reLoop ?_
    simp
    refine .dropTo 3 rfl (by simp) (by simpa using hb) (by simpa using ho) ?_
    simp [byteA45] at hh ⊢
    exact hh

def divF (l : List Li) (rows : List Bs) : List Bs := rows.map (cutL l)
theorem p_divide (rows : List Bs) (l : List Li) {k kl : Nat} (hk : Kd 1 k rows) (hkl : Kd 2 kl l) (hr : rows.length < 2 ^ 40) (hll : l.length < 2 ^ 40) (hs : ∀ s ∈ rows, s.length < 2 ^ 40 ∧ ∀ x ∈ l, x.1 < s.length) :
    PureCon Tryd.prog Γ n_cover_divide [.list false k (rows.map .str), .list false kl (l.map eLi)] (.own 1 t_string ((divF l rows).map .str)) := by
  have key : ∀ n i : Nat, i + n = rows.length → ∀ out : List Bs, out.length = i → Fins Tryd.prog Γ (cover_divide_L1 (.list false kl (l.map eLi)) (.sl 1 0 out.length) (.list false k (rows.map .str)) (.int .i64 rows.length) (.int .i64 i) [.row 1 t_string [] none true false, .row 1 t_string (out.map .str) none true false])
      (.ret (.own 1 t_string ((out ++ divF l (rows.drop i)).map .str))) := by
    intro n
    induction n with
    | zero =>
      intro i hi out ho
      have q1 : ¬ i < rows.length := by omega
      rw [List.drop_eq_nil_of_le (by omega)]
      refine .go 60 ?_
      simp [q1, divF]
      exact .back (by simp)
    | succ n ih =>
      intro i hi out ho
      have q1 : i < rows.length := by omega
      have q2 := eq_true (hk.of q1)
      obtain ⟨h1, h2⟩ := hs rows[i] (List.getElem_mem q1)
      have hh := ih (i + 1) (by omega) (out ++ [cutL l rows[i]]) (by simp [ho])
      have e : out ++ divF l (rows.drop i) = out ++ [cutL l rows[i]] ++ divF l (rows.drop (i + 1)) := by rw [List.drop_eq_getElem_cons q1, List.append_assoc]; rfl
      rw [e]
      have h4 := r_div4 (Γ := Γ) l hkl hll rows[i] h2 h1 (.row 1 t_string [] none true false) (.row 1 t_string (out.map .str) none true false) (.list false kl (l.map eLi)) (.sl 1 0 out.length) (.list false k (rows.map .str)) (.int .i64 rows.length) (.int .i64 i) [] (by simp) (by simp) l.length 0 (by omega)
      refine .go 60 ?_
      simp (disch := omega) [q1, q2]
      refine .inLoop ?_
      have h0 : cutL [] rows[i] = rows[i] := rfl
      have hcl := cutL_len l rows[i]
      simp [h0] at h4 ⊢
      refine .reach h4 ?_
      refine .go 60 ?_
      have htk : List.take (List.length rows[i]) (List.map byteA (cutL l rows[i])) = List.map byteA (cutL l rows[i]) := List.take_of_length_le (by simp [hcl])
      simp (disch := omega) [hcl, htk]
      refine .reLoop ?_
      simp
      refine .drop 2 rfl (by simp) (by simp) (by simp) ?_
      refine .reset (i := 1) rfl (by simp) (by simp) (by simp) ?_
      simp [q2] at hh ⊢
      exact hh
  refine .run 60 c_cover_divide (by simp) ?_
  simp
  refine .inLoop ?_
  have hh := key rows.length 0 (by omega) [] rfl
  simp at hh ⊢
  exact hh
/-- Is a form yes? -/
def truthF : List Fm → Bool
  | [f] => decide (f.kind = 1)
  | _ => false
def restF (r : List Fm) : List Fm := if truthF r = true then [] else r
/-- An and of literals, and of a form that is left out, if it is true. -/
def headF (n : Nat) : List Fm := if 1 < n then [⟨3, 0, n⟩] else []
def allF (l : List Li) (r : List Fm) : List Fm := headF (l.length + min (restF r).length 1) ++ l.map nodeF ++ restF r

theorem f_all1 (l : List Li) {kl : Nat} (hkl : Kd 2 kl l) (hll : l.length < 2 ^ 40) (hx : ∀ x ∈ l, x.1 < 2 ^ 40) (r : List Fm) {kr : Nat} (hkr : Kd 3 kr r) (hr : r.length < 2 ^ 40) (fl : Bool) :
    ∀ n i : Nat, i + n = l.length → ∀ out : List Fm, out.length ≤ i + 1 → Fins Tryd.prog Γ (cover_all_L1 (.list fl kr (r.map eFm)) (.sl 1 0 out.length) (.list false kl (l.map eLi)) (.int .i64 l.length) (.int .i64 i) [.row 3 t_cover_Form_2 [] none true false, .row 3 t_cover_Form_2 (out.map eFm) none true false])
      (.ret (.own 3 t_cover_Form_2 ((out ++ (l.drop i).map nodeF ++ r).map eFm))) := by
  intro n
  induction n with
  | zero =>
    intro i hi out ho
    have q1 : ¬ i < l.length := by omega
    rw [List.drop_eq_nil_of_le (by omega)]
    have hkr' : kr = 3 ∨ r = [] := hkr
    refine .go 60 ?_
    by_cases hr0 : r = []
    · simp (disch := omega) [q1, hkr', hr0]
      exact .back (by simp)
    · obtain rfl : kr = 3 := hkr'.resolve_right hr0
      simp (disch := omega) [q1, hr0]
      exact .back (by simp)
  | succ n ih =>
    intro i hi out ho
    have q1 : i < l.length := by omega
    have q2 := eq_true (hkl.of q1)
    have hp := p_node (Γ := Γ) l[i] (hx _ (List.getElem_mem q1))
    have hh := ih (i + 1) (by omega) (out ++ [nodeF l[i]]) (by simp; omega)
    have e : out ++ (l.drop i).map nodeF ++ r = out ++ [nodeF l[i]] ++ (l.drop (i + 1)).map nodeF ++ r := by rw [List.drop_eq_getElem_cons q1]; simp only [List.map_cons, List.append_assoc, List.cons_append, List.nil_append]
    rw [e]
    refine .go 60 ?_
    simp (disch := omega) [q1, q2]
    refine .call 60 (by simp) hp ?_
    simp (disch := omega)
    refine .reLoop ?_
    simp
    refine .drop 2 rfl (by simp) (by simp) (by simp) ?_
    refine .reset (i := 1) rfl (by simp) (by simp) (by simp) ?_
    simp [q2] at hh ⊢
    exact hh
theorem min0 : minA (.int .i64 0) [.int .i64 1] = some (.int .i64 0) := rfl
theorem min1 : minA (.int .i64 1) [.int .i64 1] = some (.int .i64 1) := rfl
theorem minS (n : Nat) : minA (.int .i64 ((n : Int) + 1)) [.int .i64 1] = some (.int .i64 1) := by
  by_cases h : (1 : Int) < (n : Int) + 1
  · simp only [minA, if_true, if_pos h]
  · have e : (n : Int) + 1 = 1 := by omega
    rw [e]; rfl
set_option maxRecDepth 8000 in
theorem p_all (l : List Li) {kl : Nat} (hkl : Kd 2 kl l) (hll : l.length < 2 ^ 40) (hx : ∀ x ∈ l, x.1 < 2 ^ 40) (r : List Fm) {kr : Nat} (hkr : Kd 3 kr r) (hr : r.length < 2 ^ 40) :
    PureCon Tryd.prog Γ n_cover_all [.list false kl (l.map eLi), .list false kr (r.map eFm)] (.own 3 t_cover_Form_2 ((allF l r).map eFm)) := by
  refine .run 100 c_cover_all (by simp) ?_
  have q0 : (1 < l.length + min (restF r).length 1) ∨ ¬ (1 < l.length + min (restF r).length 1) := Decidable.em _
  cases r with
  | nil =>
    have e0 : restF [] = [] := rfl
    unfold allF headF
    rw [e0] at q0 ⊢
    simp only [List.length_nil, Nat.zero_min, Nat.add_zero] at q0 ⊢
    have q3i : ((1 : Int) < l.length) = (1 < l.length) := propext (by omega)
    rcases q0 with q0 | q0
    · have hh := f_all1 (Γ := Γ) l hkl hll hx [] (kr := kr) (.inr rfl) (by simp) false l.length 0 (by omega) [⟨3, 0, l.length⟩] (by simp)
      simp (disch := omega) [q0, min0, min1, q3i]
      refine .inLoop ?_
      simp
      refine .drop 2 rfl (by simp) (by simp) (by simp) ?_
      refine .reset (i := 1) rfl (by simp) (by simp) (by simp) ?_
      simp [q0] at hh ⊢
      exact hh
    · have hh := f_all1 (Γ := Γ) l hkl hll hx [] (kr := kr) (.inr rfl) (by simp) false l.length 0 (by omega) [] (by simp)
      simp (disch := omega) [q0, min0, min1, q3i]
      refine .inLoop ?_
      simp [q0] at hh ⊢
      exact hh
  | cons f r =>
    obtain rfl : kr = 3 := hkr.of (i := 0) (by simp)
    by_cases ht : truthF (f :: r) = true
    · have e0 : restF (f :: r) = [] := by rw [restF, if_pos ht]
      obtain ⟨hf, rfl⟩ : f.kind = 1 ∧ r = [] := by
        cases r with
        | nil => simpa [truthF] using ht
        | cons _ _ => cases ht
      unfold allF headF
      rw [e0] at q0 ⊢
      simp only [List.length_nil, Nat.zero_min, Nat.add_zero] at q0 ⊢
      have q3i : ((1 : Int) < l.length) = (1 < l.length) := propext (by omega)
      rcases q0 with q0 | q0
      · have hh := f_all1 (Γ := Γ) l hkl hll hx [] (kr := 3) (.inr rfl) (by simp) false l.length 0 (by omega) [⟨3, 0, l.length⟩] (by simp)
        simp (disch := omega) [q0, min0, min1, q3i, hf]
        refine .inLoop ?_
        simp
        refine .trees [1] ?_
        simp
        refine .gc 1 [1] (by simp) (by decide) ?_
        simp
        refine .reset (i := 1) rfl (by simp) (by simp) (by simp) ?_
        simp [q0] at hh ⊢
        exact hh
      · have hh := f_all1 (Γ := Γ) l hkl hll hx [] (kr := 3) (.inr rfl) (by simp) false l.length 0 (by omega) [] (by simp)
        simp (disch := omega) [q0, min0, min1, q3i, hf]
        refine .inLoop ?_
        simp
        refine .trees [1] ?_
        simp
        refine .gc 1 [1] (by simp) (by decide) ?_
        simp [q0] at hh ⊢
        exact hh
    · have e0 : restF (f :: r) = f :: r := by rw [restF, if_neg ht]
      unfold allF headF
      rw [e0] at q0 ⊢
      have e1 : min (f :: r).length 1 = 1 := by simp
      have e2 : ((r.length : Int) + 1 = 1) = (r = []) := propext ⟨fun h => List.length_eq_zero_iff.1 (by omega), fun h => by rw [h]; rfl⟩
      have e4 : f.kind = 1 → ¬ r = [] := fun h h2 => ht (by rw [h2]; simp [truthF, h])
      rw [e1] at q0 ⊢
      rcases q0 with q0 | q0
      · have q3 : 0 < l.length := by omega
        have q3i : ((1 : Int) < (l.length : Int) + 1) = True := eq_true (by omega)
        have hh := f_all1 (Γ := Γ) l hkl hll hx (f :: r) (kr := 3) (.inl rfl) hr false l.length 0 (by omega) [⟨3, 0, l.length + 1⟩] (by simp)
        by_cases h5 : r = []
        · have h6 : ¬ f.kind = 1 := fun h => e4 h h5
          simp (disch := omega) [h5, h6, q3, min1, minS, q3i]
          refine .inLoop ?_
          simp
          refine .drop 2 rfl (by simp) (by simp) (by simp) ?_
          refine .reset (i := 1) rfl (by simp) (by simp) (by simp) ?_
          simp [q3, q3i, h5] at hh ⊢
          exact hh
        · simp (disch := omega) [h5, q3, min1, minS, q3i, e2]
          refine .inLoop ?_
          simp
          refine .drop 2 rfl (by simp) (by simp) (by simp) ?_
          refine .reset (i := 1) rfl (by simp) (by simp) (by simp) ?_
          simp [q3, q3i, h5] at hh ⊢
          exact hh
      · have q3 : l.length = 0 := by omega
        have q3i : ((1 : Int) < 1) = False := eq_false (by omega)
        obtain rfl : l = [] := List.length_eq_zero_iff.1 q3
        have hh := f_all1 (Γ := Γ) [] hkl hll hx (f :: r) (kr := 3) (.inl rfl) hr false 0 0 (by simp) [] (by simp)
        by_cases h5 : r = []
        · have h6 : ¬ f.kind = 1 := fun h => e4 h h5
          simp (disch := omega) [h5, h6, min1, minS, q3i]
          refine .inLoop ?_
          simp [h5] at hh ⊢
          exact hh
        · simp (disch := omega) [h5, min1, minS, q3i, e2]
          refine .inLoop ?_
          simp [h5] at hh ⊢
          exact hh
end Go.Proofs.YtpjpaojjagffoaaDoor
/- Factors: the literal that most rows have. -/
namespace Go.Proofs.YtpjpaojjagffoaaDoor
open Go.AM Go.Proofs
variable {Γ : Nat → Option AV}
set_option linter.unusedSimpArgs false
set_option linter.unusedVariables false

def mostS (rows : List Bs) (b : Li × Nat) (x : Li) : Li × Nat := if b.2 < countF x rows then (x, countF x rows) else b
/-- The literal that most rows have, from a place on. -/
def mostA (rows : List Bs) : Nat → Nat → Li × Nat → Li × Nat
  | 0, _, b => b
  | n + 1, i, b => mostA rows n (i + 1) (mostS rows (mostS rows b (i, 49)) (i, 48))
def mostF (rows : List Bs) (n : Nat) : Li × Nat := mostA rows n 0 ((0, 0), 0)

theorem hd0 : Utf8.decode { data := #[49, 48] } 0 = (49, 1) := by kernel_rfl
theorem hd1 : Utf8.decode { data := #[49, 48] } 1 = (48, 1) := by kernel_rfl
set_option maxRecDepth 8000 in
theorem f_most1 (rows : List Bs) {k : Nat} (hk : Kd 1 k rows) (hl : rows.length < 2 ^ 40) (hs : ∀ s ∈ rows, s.length < 2 ^ 40) (L : Nat) (hL : L < 2 ^ 40) : ∀ n i : Nat, i + n = L → ∀ b : Li × Nat,
    Fins Tryd.prog Γ (cover_most_L1 (.list false k (rows.map .str)) (.ptr 0 0) (.ptr 1 0) (.int .i64 b.2) (.int .i64 L) (.int .i64 i) [.cells [.int .i64 0, .int .i64 0], .cells (eLi b.1).cells]) (.ret (.tup [eLi (mostA rows n i b).1, .int .i64 (mostA rows n i b).2])) := by
  intro n
  induction n with
  | zero =>
    intro i hi b
    have q1 : ¬ i < L := by omega
    refine .go 60 ?_
    simp [q1]
    exact .back (by simp [mostA])
  | succ n ih =>
    intro i hi b
    have q1 : i < L := by omega
    have hc1 := p_count (Γ := Γ) rows (i, 49) hk hl hs
    have hc2 := p_count (Γ := Γ) rows (i, 48) hk hl hs
    rw [mostA]
    have half : ∀ b1 : Li × Nat, Fins Tryd.prog Γ (cover_most_L3 (.list false k (rows.map .str)) (.ptr 0 0) (.ptr 1 0) (.int .i64 b1.2) (.int .i64 i) (.int .i64 L) (.int .i64 i) (.it 2) [.cells [.int .i64 0, .int .i64 0], .cells (eLi b1.1).cells, .siter [49, 48] 1])
        (.ret (.tup [eLi (mostA rows n (i + 1) (mostS rows b1 (i, 48))).1, .int .i64 (mostA rows n (i + 1) (mostS rows b1 (i, 48))).2])) := by
      intro b1
      have hh := ih (i + 1) (by omega) (mostS rows b1 (i, 48))
      refine .go 60 ?_
      simp (disch := omega) [hd0, hd1]
      refine .call 60 (by simp) hc2 ?_
      by_cases h1 : b1.2 < countF (i, 48) rows
      · have e1 : mostS rows b1 (i, 48) = ((i, 48), countF (i, 48) rows) := if_pos h1
        rw [e1] at hh ⊢
        simp (disch := omega) [h1]
        refine .reLoop ?_
        refine .go 60 ?_
        simp (disch := omega) [hd0, hd1]
        refine .reLoop ?_
        simp
        refine .drop 2 rfl (by simp) (by simp) (by simp) ?_
        simp at hh ⊢
        exact hh
      · have e1 : mostS rows b1 (i, 48) = b1 := if_neg h1
        rw [e1] at hh ⊢
        simp (disch := omega) [h1]
        refine .reLoop ?_
        refine .go 60 ?_
        simp (disch := omega) [hd0, hd1]
        refine .reLoop ?_
        simp
        refine .drop 2 rfl (by simp) (by simp) (by simp) ?_
        simp at hh ⊢
        exact hh
    refine .go 60 ?_
    simp (disch := omega) [q1]
    refine .inLoop ?_
    refine .go 60 ?_
    simp (disch := omega) [hd0, hd1]
    refine .call 60 (by simp) hc1 ?_
    by_cases h1 : b.2 < countF (i, 49) rows
    · have e1 : mostS rows b (i, 49) = ((i, 49), countF (i, 49) rows) := if_pos h1
      have hh := half ((i, 49), countF (i, 49) rows)
      rw [e1]
      simp (disch := omega) [h1]
      refine .reLoop ?_
      simp
      refine .drop 3 rfl (by simp) (by simp) (by simp) ?_
      simp at hh ⊢
      exact hh
    · have e1 : mostS rows b (i, 49) = b := if_neg h1
      have hh := half b
      rw [e1]
      simp (disch := omega) [h1]
      refine .reLoop ?_
      simp
      refine .drop 3 rfl (by simp) (by simp) (by simp) ?_
      simp at hh ⊢
      exact hh
theorem p_most (rows : List Bs) {k : Nat} (hk : Kd 1 k rows) (hl : rows.length < 2 ^ 40) (hs : ∀ s ∈ rows, s.length < 2 ^ 40) (L : Nat) (s : Bs) (h0 : rows[0]? = some s) (hL : s.length = L) :
    PureCon Tryd.prog Γ n_cover_most [.list false k (rows.map .str)] (.tup [eLi (mostF rows L).1, .int .i64 (mostF rows L).2]) := by
  have q1 : 0 < rows.length := (List.getElem?_eq_some_iff.1 h0).1
  have q3 : rows[0] = s := (List.getElem?_eq_some_iff.1 h0).2
  have q2 := eq_true (hk.of q1)
  have hLb : L < 2 ^ 40 := by rw [← hL, ← q3]; exact hs _ (List.getElem_mem q1)
  have hh := f_most1 (Γ := Γ) rows hk hl hs L hLb L 0 (by omega) ((0, 0), 0)
  refine .run 60 c_cover_most (by simp) ?_
  simp (disch := omega) [q1, q2, q3, hL]
  refine .inLoop ?_
  simp [mostF, q2] at hh ⊢
  exact hh
end Go.Proofs.YtpjpaojjagffoaaDoor
/- Factors: rows without those that are so. -/
namespace Go.Proofs.YtpjpaojjagffoaaDoor
open Go.AM Go.Proofs
variable {Γ : Nat → Option AV}
set_option linter.unusedSimpArgs false
set_option linter.unusedVariables false

abbrev rowS (l : List Bs) : Ob := .row 1 t_string (l.map .str) none true false
theorem set_same {h : List Ob} {i : Nat} {o : Ob} (hi : h[i]? = some o) : h.set i o = h := by
  apply List.ext_getElem?
  intro j
  by_cases hj : i = j
  · subst hj; rw [List.getElem?_set_self (lt_of_get hi), hi]
  · rw [List.getElem?_set_ne hj]
theorem idxF_spec {α : Type} (p : α → Bool) : ∀ (l : List α) (i : Nat), (idxF p l i = -1 ∧ l.filter (fun x => !p x) = l) ∨ ∃ k, k < l.length ∧ idxF p l i = ((i + k : Nat) : Int) ∧ (l.take (k + 1)).filter (fun x => !p x) = l.take k
  | [], i => .inl ⟨rfl, rfl⟩
  | x :: xs, i => by
    rw [idxF]
    cases h : p x with
    | true => right; exact ⟨0, by simp, by simp, by simp [h]⟩
    | false =>
      rcases idxF_spec p xs (i + 1) with ⟨h1, h2⟩ | ⟨k, h1, h2, h3⟩
      · left; exact ⟨by simpa using h1, by rw [List.filter_cons]; simp [h, h2]⟩
      · right; exact ⟨k + 1, by simp; omega, by rw [if_neg (by simp), h2]; congr 1; omega, by simp [h, h3]⟩

theorem r_IndexFunc {φ : List Ob → Prop} {f : FuncId} {caps : List AV} {p : Bs → Bool} {l : List Bs} (ha : Asks Tryd.prog Γ φ f caps AV.str p l) (hs : l.length < 2 ^ 60) {h : List Ob} {r : Nat} (hr : h[r]? = some (rowS l)) (hφ : φ h) :
    ∀ up, AM.Reach Tryd.prog Γ (.cl n_slices_IndexFunc_string_string [.sl r 0 l.length, .fn (.func f) [] caps] up h) (.back up (.int .i64 (idxF p l 0)) h) := by
  intro up
  have key : ∀ n i : Nat, i + n = l.length → AM.Reach Tryd.prog Γ (slices_IndexFunc_string_string_L1 (.sl r 0 l.length) (.fn (.func f) [] caps) (.int .i64 l.length) (.int .i64 i) h ⟨[], .norm, h.length, up⟩) (.back up (.int .i64 (idxF p (l.drop i) i)) h) := by
    intro n
    induction n with
    | zero =>
      intro i hi
      have h1 : ¬ i < l.length := by omega
      refine .goB 60 ?_
      rw [List.drop_eq_nil_of_le (by omega)]
      simp [h1, idxF]
    | succ n ih =>
      intro i hi
      have h1 : i < l.length := by omega
      have h2 := ha.2 l[i] (List.getElem_mem h1)
      rw [List.drop_eq_getElem_cons h1, idxF]
      have hh := ih (i + 1) (by omega)
      refine .goB 60 ?_
      simp [h1, ha.1, hr]
      refine .rcall 60 (fun up => h2 up h hφ) ?_
      cases hp : p l[i] with
      | true => simp (disch := omega) [hp]
      | false =>
        simp (disch := omega) [hp]
        refine .reLoop ?_
        simp at hh ⊢
        exact hh
  refine .enterB 60 c_slices_IndexFunc_string_string ?_
  simp
  refine .inLoop ?_
  have hh := key l.length 0 (by omega)
  simp at hh ⊢
  exact hh

section
variable {φ : List Ob → Prop} {f : FuncId} {caps : List AV} {p : Bs → Bool} {l : List Bs}
abbrev nilS : Ob := .row 1 t_string [] none true false
def keepF (p : Bs → Bool) (l : List Bs) : List Bs := l.filter fun x => !p x
set_option maxRecDepth 8000 in
theorem r_del (ha : Asks Tryd.prog Γ φ f caps AV.str p l) (hs : l.length < 2 ^ 40) {h : List Ob} {r : Nat} (hr : r < h.length) (hφ : ∀ l', φ (h.set r (rowS l') ++ [nilS])) (up : List Fr) : ∀ n j : Nat, j + n = l.length → ∀ A B X : List Bs, B ≠ [] → A = keepF p (l.take j) → A.length + B.length = j → X = A ++ B ++ l.drop j →
    AM.Reach Tryd.prog Γ (slices_DeleteFunc_string_string_L2 (.sl r 0 l.length) (.fn (.func f) [] caps) (.int .i64 A.length) (.int .i64 j) (h.set r (rowS X) ++ [nilS]) ⟨[], .norm, h.length, up⟩)
      (.back up (.sl r 0 (keepF p l).length) (h.set r (rowS (keepF p l ++ List.replicate (l.length - (keepF p l).length) [])) ++ [nilS])) := by
  have hlen : ∀ o, (h.set r o).length = h.length := by simp
  have g1 : ∀ (o : Ob) (os : List Ob), (h.set r o ++ os)[r]? = some o := fun o os => by rw [List.getElem?_append_left (by simp; omega)]; simp [hr]
  have g2 : ∀ (o o' : Ob) (os : List Ob), (h.set r o ++ os).set r o' = h.set r o' ++ os := fun o o' os => by rw [List.set_append_left _ _ (by simpa using hr)]; simp
  intro n
  induction n with
  | zero =>
    intro j hj A B X hB hA hAB hX
    have q1 : ¬ j < l.length := by omega
    have q2 : l.take j = l := List.take_of_length_le (by omega)
    rw [q2] at hA
    rw [List.drop_eq_nil_of_le (by omega), List.append_nil] at hX
    have x1 : X.length = l.length := by rw [hX, List.length_append]; omega
    have x2 : List.take A.length (List.map AV.str X) = List.map AV.str A := by rw [hX, List.map_append, List.take_left' (by simp)]
    have x3 : List.drop l.length (List.map AV.str X) = [] := List.drop_eq_nil_of_le (by simp; omega)
    rw [← hA]
    refine .goB 60 ?_
    simp (disch := omega) [q1, g1, g2, x1, x2, x3, rowS]
  | succ n ih =>
    intro j hj A B X hB hA hAB hX
    have q1 : j < l.length := by omega
    have x1 : X.length = l.length := by rw [hX, List.length_append, List.length_append, List.length_drop]; omega
    have x4 : j < X.length := by omega
    have x2 : X[j] = l[j] := by
      subst hX
      rw [List.getElem_append_right (by simp; omega)]
      simp [hAB]
    have h2 := ha.2 l[j] (List.getElem_mem q1)
    have x5 : keepF p (l.take (j + 1)) = A ++ (if p l[j] = true then [] else [l[j]]) := by
      rw [List.take_succ_eq_append_getElem q1, keepF, List.filter_append, hA]
      cases hp : p l[j] <;> simp [keepF, hp]
    refine .goB 60 ?_
    simp (disch := omega) [q1, g1, g2, x1, x2, x4, ha.1]
    refine .rcall 60 (fun up => h2 up _ (hφ X)) ?_
    cases hp : p l[j] with
    | true =>
      have hh := ih (j + 1) (by omega) A (B ++ [l[j]]) X (by simp) (by rw [x5, if_pos hp, List.append_nil]) (by simp; omega) (by rw [hX, List.drop_eq_getElem_cons q1]; simp)
      simp (disch := omega) [hp]
      refine .reLoop ?_
      simp at hh ⊢
      exact hh
    | false =>
      obtain ⟨b, B', rfl⟩ : ∃ b B', B = b :: B' := by
        cases B with
        | nil => exact absurd rfl hB
        | cons b B' => exact ⟨b, B', rfl⟩
      simp only [List.length_cons] at hAB
      have hh := ih (j + 1) (by omega) (A ++ [l[j]]) (B' ++ [l[j]]) (X.set A.length l[j]) (by simp) (by rw [x5, hp]; rfl) (by simp; omega) (by
        rw [hX, List.drop_eq_getElem_cons q1, List.append_assoc, List.set_append_right _ _ (Nat.le_refl _)]; simp)
      have x6 : A.length < X.length := by omega
      simp (disch := omega) [hp, g1, g2, x6, x1]
      refine .reLoop ?_
      simp [rowS] at hh ⊢
      exact hh
/-- Those that are not so. -/
theorem r_DeleteFunc (ha : Asks Tryd.prog Γ φ f caps AV.str p l) (hs : l.length < 2 ^ 40) {h : List Ob} {r : Nat} (hr : h[r]? = some (rowS l)) (hφ : ∀ l', φ (h.set r (rowS l') ++ [nilS])) (hw : WfO h) : ∃ es,
    ∀ up, AM.Reach Tryd.prog Γ (.cl n_slices_DeleteFunc_string_string [.sl r 0 l.length, .fn (.func f) [] caps] up h) (.back up (.sl r 0 (keepF p l).length) (h.set r (rowS (keepF p l ++ es)))) := by
  have hrl := lt_of_get hr
  have hrr : (h ++ [nilS])[r]? = some (rowS l) := by rw [List.getElem?_append_left hrl]; exact hr
  have hφ0 : φ (h ++ [nilS]) := by have := hφ l; rwa [set_same hr] at this
  have hI := r_IndexFunc (Γ := Γ) ha (by omega) hrr hφ0
  have fin : ∀ es up, AM.Reach Tryd.prog Γ (.cl n_slices_DeleteFunc_string_string [.sl r 0 l.length, .fn (.func f) [] caps] up h) (.back up (.sl r 0 (keepF p l).length) (h.set r (rowS (keepF p l ++ es)) ++ [nilS])) →
      AM.Reach Tryd.prog Γ (.cl n_slices_DeleteFunc_string_string [.sl r 0 l.length, .fn (.func f) [] caps] up h) (.back up (.sl r 0 (keepF p l).length) (h.set r (rowS (keepF p l ++ es)))) := by
    intro es up h1
    have e1 : (h.set r (rowS (keepF p l ++ es)) ++ [nilS]).take h.length = h.set r (rowS (keepF p l ++ es)) := List.take_left' (by simp)
    have h2 := AM.Reach.leave h1 (by simpa using hrl) (by rw [e1]; exact (hw.set (fun m hm => by simp) r) _ (by simp))
    rwa [e1] at h2
  rcases idxF_spec p l 0 with ⟨h1, h2⟩ | ⟨k, h1, h2, h3⟩
  · refine ⟨[], fun up => fin _ _ ?_⟩
    refine .enterB 60 c_slices_DeleteFunc_string_string ?_
    simp
    refine .rcall 60 hI ?_
    have e1 : keepF p l = l := h2
    rw [h1, e1]
    simp [set_same hr]
    done
  · refine ⟨List.replicate (l.length - (keepF p l).length) [], fun up => fin _ _ ?_⟩
    have hd := r_del (Γ := Γ) ha hs hrl hφ up (l.length - (k + 1)) (k + 1) (by omega) (l.take k) [l[k]] l (by simp) h3.symm (by simp; omega) (by
      rw [List.append_assoc, List.singleton_append, ← List.drop_eq_getElem_cons h1, List.take_append_drop])
    have e2 : (l.take k).length = k := by simp; omega
    rw [e2, set_same hr] at hd
    refine .enterB 60 c_slices_DeleteFunc_string_string ?_
    simp
    refine .rcall 60 hI ?_
    rw [h2]
    have q3 : ¬ (k : Int) = -1 := by omega
    simp (disch := omega) [q3]
    refine .inLoop ?_
    simp at hd ⊢
    exact hd
end
end Go.Proofs.YtpjpaojjagffoaaDoor
/- Concat of rows: its contract. -/
namespace Go.Proofs.YtpjpaojjagffoaaDoor
open Go.AM Go.Proofs
variable {Γ : Nat → Option AV}
set_option linter.unusedSimpArgs false
set_option linter.unusedVariables false

abbrev eCatF (x : Nat × List Fm) : AV := .list false x.1 (x.2.map eFm)
def catF : List (Nat × List Fm) → List Fm
  | [] => []
  | x :: xs => x.2 ++ catF xs
theorem catF_append (a b : List (Nat × List Fm)) : catF (a ++ b) = catF a ++ catF b := by
  induction a with
  | nil => rfl
  | cons x a ih => simp [catF, ih]
theorem catF_take (xs : List (Nat × List Fm)) (i : Nat) (h : i < xs.length) : catF (xs.take (i + 1)) = catF (xs.take i) ++ xs[i].2 := by
  rw [List.take_succ_eq_append_getElem h, catF_append]; simp [catF]
theorem catF_le (xs : List (Nat × List Fm)) (i : Nat) : (catF (xs.take i)).length ≤ (catF xs).length := by
  conv => rhs; rw [← List.take_append_drop i xs, catF_append]
  simp

set_option maxRecDepth 8000 in
theorem p_slices_Concat_cover_Form_cover_Form (xs : List (Nat × List Fm)) (hk : ∀ x ∈ xs, Kd 3 x.1 x.2) (hn : xs.length < 2 ^ 40) (hs : (catF xs).length < 2 ^ 40) (hp : 0 < (catF xs).length) :
    PureCon Tryd.prog Γ n_slices_Concat_cover_Form_cover_Form [.list false 1 (xs.map eCatF)] (.own 3 t_cover_Form_2 ((catF xs).map eFm)) := by
  refine .run 60 c_slices_Concat_cover_Form_cover_Form (by simp) ?_
  have key2 : ∀ n i : Nat, i + n = xs.length → ∀ m : Nat, (catF (xs.take i)).length + m = (catF xs).length →
      Fins Tryd.prog Γ (slices_Concat_cover_Form_cover_Form_L1 (.sl 2 0 (catF (xs.take i)).length) (.list false 1 (xs.map eCatF)) (.int .i64 xs.length) (.int .i64 i) [.row 3 t_cover_Form_2 [] none true false, .row 3 t_cover_Form_2 [] none true false, .row 3 t_cover_Form_2 ((catF (xs.take i)).map eFm ++ List.replicate m (AV.agg [AV.int .i64 0, AV.int .i64 0, AV.int .i64 0])) none true false])
        (.ret (.own 3 t_cover_Form_2 ((catF xs).map eFm))) := by
    intro n
    induction n with
    | zero =>
      intro i hi m hm
      have q1 : ¬ i < xs.length := by omega
      have q2 : xs.take i = xs := List.take_of_length_le (by omega)
      rw [q2] at hm ⊢
      have hm0 : m = 0 := by omega
      subst hm0
      refine .go 60 ?_
      simp [q1]
      exact .back (by simp)
    | succ n ih =>
      intro i hi m hm
      have q1 : i < xs.length := by omega
      have q2 := catF_take xs i q1
      have q3 := catF_le xs (i + 1)
      rw [q2, List.length_append] at q3
      have q4 := hk xs[i] (List.getElem_mem q1)
      have q5 : xs[i].1 = 3 ∨ xs[i].2 = [] := q4
      have hh := ih (i + 1) (by omega) (m - xs[i].2.length) (by rw [q2, List.length_append]; omega)
      rw [q2] at hh
      have hd : (List.replicate m (AV.agg [AV.int .i64 0, AV.int .i64 0, AV.int .i64 0])).drop xs[i].2.length = List.replicate (m - xs[i].2.length) (AV.agg [AV.int .i64 0, AV.int .i64 0, AV.int .i64 0]) := by simp
      refine .go 60 ?_
      by_cases q6 : (catF (xs.take i)).length = (catF xs).length
      · have q7 : xs[i].2 = [] := List.length_eq_zero_iff.1 (by omega)
        have hm0 : m = 0 := by omega
        subst hm0
        simp [q7] at hh
        simp (disch := (first | omega | (simp; omega))) [q1, q5, q7]
        refine .reLoop ?_
        simp
        exact hh
      · simp (disch := (first | omega | (simp; omega))) [q1, q5]
        by_cases q7 : m = 0
        · omega
        · have c1 : ¬ (catF (List.take i xs)).length = (catF (List.take i xs)).length + m := by omega
          have c2 : (catF (List.take i xs)).length + xs[i].snd.length ≤ (catF (List.take i xs)).length + m := by omega
          simp (disch := (first | omega | (simp; omega))) [q1, q5, c1, c2, q7]
          refine .reLoop ?_
          have hd0 : ((catF (xs.take i)).map eFm).drop ((catF (xs.take i)).length + xs[i].2.length) = [] := List.drop_eq_nil_of_le (by simp)
          simp [List.drop_append, hd, hd0] at hh ⊢
          exact hh
  have key1 : ∀ n i : Nat, i + n = xs.length →
      Fins Tryd.prog Γ (slices_Concat_cover_Form_cover_Form_L9 (.list false 1 (xs.map eCatF)) (.int .i64 (catF (xs.take i)).length) (.list false 1 (xs.map eCatF)) (.int .i64 xs.length) (.int .i64 i) [.row 3 t_cover_Form_2 [] none true false])
        (.ret (.own 3 t_cover_Form_2 ((catF xs).map eFm))) := by
    intro n
    induction n with
    | zero =>
      intro i hi
      have q1 : ¬ i < xs.length := by omega
      have q2 : xs.take i = xs := List.take_of_length_le (by omega)
      have q3 : 0 < (catF xs).length := hp
      have hh := key2 xs.length 0 (by omega) (catF xs).length (by simp [catF])
      refine .go 60 ?_
      rw [q2]
      simp [q1]
      refine .enter 60 c_slices_Grow_cover_Form_cover_Form ?_
      have q4 : ¬ (catF xs).length = 0 := by omega
      have q5 : catF xs ≠ [] := fun e => by rw [e] at hp; simp at hp
      obtain ⟨m, hm⟩ : ∃ m, (catF xs).length = m + 1 := ⟨(catF xs).length - 1, by omega⟩
      have hrep : List.replicate (catF xs).length (AV.agg [AV.int .i64 0, AV.int .i64 0, AV.int .i64 0]) = (AV.agg [AV.int .i64 0, AV.int .i64 0, AV.int .i64 0]) :: List.replicate m (AV.agg [AV.int .i64 0, AV.int .i64 0, AV.int .i64 0]) := by rw [hm]; rfl
      simp (disch := (first | omega | (simp; omega))) [q3, q4, q5, hrep]
      refine .inLoop ?_
      simp [catF, hrep] at hh ⊢
      exact hh
    | succ n ih =>
      intro i hi
      have q1 : i < xs.length := by omega
      have q2 := catF_take xs i q1
      have q3 := catF_le xs (i + 1)
      rw [q2, List.length_append] at q3
      have hh := ih (i + 1) (by omega)
      rw [q2] at hh
      refine .go 60 ?_
      have q4 : ¬ ((catF (xs.take i)).length : Int) + xs[i].2.length < 0 := by omega
      simp (disch := (first | omega | (simp; omega))) [q1, q4]
      refine .reLoop ?_
      simp at hh ⊢
      exact hh
  simp
  refine .inLoop ?_
  have hh := key1 xs.length 0 (by omega)
  simp [catF] at hh ⊢
  exact hh

set_option maxRecDepth 8000 in
/-- Of rows without elements: nil. -/
theorem p_slices_Concat_cover_Form_cover_Form_nil (xs : List (Nat × List Fm)) (hx : ∀ x ∈ xs, x.2 = []) (hn : xs.length < 2 ^ 40) :
    PureCon Tryd.prog Γ n_slices_Concat_cover_Form_cover_Form [.list false 1 (xs.map eCatF)] (.own 3 t_cover_Form_2 []) := by
  refine .run 60 c_slices_Concat_cover_Form_cover_Form (by simp) ?_
  have key2 : ∀ n i : Nat, i + n = xs.length → Fins Tryd.prog Γ (slices_Concat_cover_Form_cover_Form_L1 (.list true 0 []) (.list false 1 (xs.map eCatF)) (.int .i64 xs.length) (.int .i64 i) [.row 3 t_cover_Form_2 [] none true false, .row 3 t_cover_Form_2 [] none true false])
        (.ret (.own 3 t_cover_Form_2 [])) := by
    intro n
    induction n with
    | zero =>
      intro i hi
      have q1 : ¬ i < xs.length := by omega
      refine .nilslot 6 3 t_cover_Form_2 rfl (by omega) ?_
      refine .go 60 ?_
      simp [q1]
      exact .back (by simp)
    | succ n ih =>
      intro i hi
      have q1 : i < xs.length := by omega
      have q7 := hx xs[i] (List.getElem_mem q1)
      have hh := ih (i + 1) (by omega)
      refine .go 60 ?_
      simp (disch := (first | omega | (simp; omega))) [q1, q7]
      refine .reLoop ?_
      simp at hh ⊢
      exact hh
  have key : ∀ n i : Nat, i + n = xs.length → Fins Tryd.prog Γ (slices_Concat_cover_Form_cover_Form_L9 (.list false 1 (xs.map eCatF)) (.int .i64 0) (.list false 1 (xs.map eCatF)) (.int .i64 xs.length) (.int .i64 i) [.row 3 t_cover_Form_2 [] none true false])
        (.ret (.own 3 t_cover_Form_2 [])) := by
    intro n
    induction n with
    | zero =>
      intro i hi
      have q1 : ¬ i < xs.length := by omega
      refine .go 60 ?_
      simp [q1]
      refine .enter 60 c_slices_Grow_cover_Form_cover_Form ?_
      simp
      refine .inLoop ?_
      have hh := key2 xs.length 0 (by omega)
      simp at hh ⊢
      exact hh
    | succ n ih =>
      intro i hi
      have q1 : i < xs.length := by omega
      have q7 := hx xs[i] (List.getElem_mem q1)
      have hh := ih (i + 1) (by omega)
      refine .go 60 ?_
      simp (disch := (first | omega | (simp; omega))) [q1, q7]
      refine .reLoop ?_
      simp at hh ⊢
      exact hh
  simp
  refine .inLoop ?_
  have hh := key xs.length 0 (by omega)
  simp at hh ⊢
  exact hh
theorem g_slices_Concat_cover_Form_cover_Form (xs : List (Nat × List Fm)) (hk : ∀ x ∈ xs, Kd 3 x.1 x.2) (hn : xs.length < 2 ^ 40) (hs : (catF xs).length < 2 ^ 40) :
    PureCon Tryd.prog Γ n_slices_Concat_cover_Form_cover_Form [.list false 1 (xs.map eCatF)] (.own 3 t_cover_Form_2 ((catF xs).map eFm)) := by
  rcases Nat.eq_zero_or_pos (catF xs).length with h | h
  · have h0 : catF xs = [] := List.length_eq_zero_iff.1 h
    have hx : ∀ x ∈ xs, x.2 = [] := by
      clear hk hn hs h
      induction xs with
      | nil => simp
      | cons y ys ih =>
        simp only [catF, List.append_eq_nil_iff] at h0
        intro x hx
        rcases List.mem_cons.1 hx with rfl | hx
        · exact h0.1
        · exact ih h0.2 x hx
    rw [h0]
    exact p_slices_Concat_cover_Form_cover_Form_nil xs hx hn
  · exact p_slices_Concat_cover_Form_cover_Form xs hk hn hs h
end Go.Proofs.YtpjpaojjagffoaaDoor
/- Clone of a row: its contract. -/
namespace Go.Proofs.YtpjpaojjagffoaaDoor
open Go.AM Go.Proofs
variable {Γ : Nat → Option AV}
set_option linter.unusedSimpArgs false
set_option linter.unusedVariables false

theorem p_slices_Clone_string_string (l : List (List UInt8)) {k : Nat} (hk : Kd 1 k l) (hl : l.length < 2 ^ 40) : PureCon Tryd.prog Γ n_slices_Clone_string_string [.list false k (l.map AV.str)] (.own 1 t_string (l.map AV.str)) := by
  refine .run 60 c_slices_Clone_string_string (by simp) ?_
  cases l with
  | nil =>
    simp
    refine .either 0 (by simp) (fun b => ?_)
    cases b
    · refine .go 9 ?_
      simp
      refine .nilslot 2 1 t_string rfl (by omega) ?_
      refine .go 60 ?_
      simp
      exact .back (by simp)
    · refine .go 60 ?_
      simp
      exact .back (by simp)
  | cons x xs =>
    have hk0 : k = 1 := by
      rcases hk with h | h
      · exact h
      · cases h
    subst hk0
    simp at hl
    simp (disch := (first | omega | (simp; omega)))
    exact .back (by simp)
end Go.Proofs.YtpjpaojjagffoaaDoor
/- Function values that are asked of rows: contracts. -/
namespace Go.Proofs.YtpjpaojjagffoaaDoor
open Go.AM Go.Proofs
variable {Γ : Nat → Option AV}
set_option linter.unusedSimpArgs false
set_option linter.unusedVariables false

theorem p_IndexFunc_str {φ : List Ob → Prop} {f : FuncId} {caps : List AV} {p : (List UInt8) → Bool} {l : List (List UInt8)} {k : Nat} {fl : Bool} (ha : Asks Tryd.prog Γ φ f caps AV.str p l) (hk : Kd 1 k l) (hs : l.length < 2 ^ 60) {h : List Ob} (hφ : φ h) :
    ∀ up, AM.Reach Tryd.prog Γ (.cl n_slices_IndexFunc_string_string [.list fl k (l.map AV.str), .fn (.func f) [] caps] up h) (.back up (.int .i64 (idxF p l 0)) h) := by
  intro up
  have key : ∀ n i : Nat, i + n = l.length → AM.Reach Tryd.prog Γ (slices_IndexFunc_string_string_L1 (.list fl k (l.map AV.str)) (.fn (.func f) [] caps) (.int .i64 l.length) (.int .i64 i) h ⟨[], .norm, h.length, up⟩) (.back up (.int .i64 (idxF p (l.drop i) i)) h) := by
    intro n
    induction n with
    | zero =>
      intro i hi
      have h1 : ¬ i < l.length := by omega
      refine .goB 60 ?_
      rw [List.drop_eq_nil_of_le (by omega)]
      simp [h1, idxF]
    | succ n ih =>
      intro i hi
      have h1 : i < l.length := by omega
      obtain rfl := hk.of h1
      have h2 := ha.2 l[i] (List.getElem_mem h1)
      rw [List.drop_eq_getElem_cons h1, idxF]
      have hh := ih (i + 1) (by omega)
      refine .goB 60 ?_
      simp [h1, ha.1]
      refine .rcall 60 (fun up => h2 up h hφ) ?_
      cases hp : p l[i] with
      | true => simp (disch := omega) [hp]
      | false =>
        simp (disch := omega) [hp]
        refine .reLoop ?_
        simp at hh ⊢
        exact hh
  refine .enterB 60 c_slices_IndexFunc_string_string ?_
  simp
  refine .inLoop ?_
  have hh := key l.length 0 (by omega)
  simp at hh ⊢
  exact hh
theorem p_ContainsFunc_str {φ : List Ob → Prop} {f : FuncId} {caps : List AV} {p : (List UInt8) → Bool} {l : List (List UInt8)} {k : Nat} {fl : Bool} (ha : Asks Tryd.prog Γ φ f caps AV.str p l) (hk : Kd 1 k l) (hs : l.length < 2 ^ 60) {h : List Ob} (hφ : φ h) :
    ∀ up, AM.Reach Tryd.prog Γ (.cl n_slices_ContainsFunc_string_string [.list fl k (l.map AV.str), .fn (.func f) [] caps] up h) (.back up (.bool (anyB p l)) h) := by
  intro up
  refine .enterB 60 c_slices_ContainsFunc_string_string ?_
  simp
  refine .rcall 60 (p_IndexFunc_str ha hk hs hφ) ?_
  have h1 := idxF_ge p l 0
  cases hp : anyB p l with
  | true => rw [hp] at h1; simp at h1; simp [h1]
  | false =>
    rw [hp] at h1
    have h2 : ¬ 0 ≤ idxF p l 0 := by rw [h1]; simp
    simp [h2]
end Go.Proofs.YtpjpaojjagffoaaDoor
/- Rows of signs. -/
namespace Go.Proofs.YtpjpaojjagffoaaDoor
open Go.AM Go.Proofs
variable {Γ : Nat → Option AV}
set_option linter.unusedSimpArgs false
set_option linter.unusedVariables false

/-- The signs. -/
def sgn : Bs := [48, 49, 45]
def sgnC (c : UInt8) : Bool := decide (c = 48) || (decide (c = 49) || decide (c = 45))
def rowB (n : Nat) (s : Bs) : Bool := s.all sgnC && decide (s.length = n)
theorem sgn_has (c : UInt8) : sgn.contains c = sgnC c := by
  revert c
  rw [show (∀ c : UInt8, sgn.contains c = sgnC c) ↔ ∀ n : Fin 256, sgn.contains (UInt8.ofNat n) = sgnC (UInt8.ofNat n) from
    ⟨fun h n => h _, fun h c => by have := h ⟨c.toNat, c.toNat_lt⟩; simpa using this⟩]
  decide +kernel
theorem dropWhile_all {α : Type} {p : α → Bool} : ∀ {l : List α}, l.dropWhile p = [] ↔ ∀ x ∈ l, p x = true
  | [] => by simp
  | a :: l => by
    rw [List.dropWhile_cons]
    cases h : p a with
    | true => simp [dropWhile_all (l := l), h]
    | false => simp [h]
theorem dropWhile_nil {α : Type} (p : α → Bool) (l : List α) (h : ∀ x ∈ l.dropWhile p, p x = true) : l.dropWhile p = [] := by
  cases hd : l.dropWhile p with
  | nil => rfl
  | cons a t =>
    have h1 := List.head_dropWhile_not p (l := l) (by rw [hd]; simp)
    simp only [hd, List.head_cons] at h1
    rw [h a (by rw [hd]; simp)] at h1
    cases h1
theorem trim_nil (s : Bs) : (Lib.trimS s sgn = []) ↔ s.all sgnC = true := by
  have e : (fun c => sgn.contains c) = sgnC := funext sgn_has
  unfold Lib.trimS Lib.trimLeftS Lib.trimRightS
  rw [e]
  constructor
  · intro h
    have h1 := dropWhile_nil sgnC s.reverse fun x hx => by
      have := dropWhile_all.1 h x (by simpa using hx)
      exact this
    have h2 := dropWhile_all.1 h1
    rw [List.all_eq_true]
    intro x hx
    exact h2 x (by simpa using hx)
  · intro h
    have h1 : s.reverse.dropWhile sgnC = [] := dropWhile_all.2 fun x hx => List.all_eq_true.1 h x (by simpa using hx)
    rw [h1]
    rfl
theorem p_Trim (s : Bs) (hs : s.length < 2 ^ 40) : PureCon Tryd.prog Γ n_strings_Trim [.str s, .str sgn] (.str (Lib.trimS s sgn)) := by
  refine PureCon.libB (by simp) (fun _ => rfl) rfl fun N g h w us _ hV => ?_
  obtain ⟨us, rfl, h1⟩ := VL_str hV
  obtain ⟨us, rfl, h2⟩ := VL_str h1
  obtain rfl := VL_nil' h2
  refine (Any.strings_Trim_laid Tryd.lays160 (by kernel_rfl) ⟨s.toArray⟩ ⟨sgn.toArray⟩ w (by simp [ByteArray.size]; omega) (by decide) (ascii_of_all (by decide))).mono ?_
  rintro e' w' ⟨rfl, hB⟩
  exact ⟨⟨_, rfl, fun _ _ => by simp [V]⟩, hB⟩
end Go.Proofs.YtpjpaojjagffoaaDoor
/- Factors. -/
namespace Go.Proofs.YtpjpaojjagffoaaDoor
open Go.AM Go.Proofs
variable {Γ : Nat → Option AV}
set_option linter.unusedSimpArgs false
set_option linter.unusedVariables false

/-- Is a row - everywhere? -/
def freeF (s : Bs) : Bool := s.all fun c => decide (c = 45)
theorem trim1_nil (s : Bs) : (Lib.trimS s [45] = []) ↔ freeF s = true := by
  have e : (fun c => ([45] : Bs).contains c) = fun c => decide (c = 45) := by funext c; simp [eq_comm]
  unfold Lib.trimS Lib.trimLeftS Lib.trimRightS freeF
  rw [e]
  constructor
  · intro h
    have h1 := dropWhile_nil _ s.reverse fun x hx => dropWhile_all.1 h x (by simpa using hx)
    have h2 := dropWhile_all.1 h1
    rw [List.all_eq_true]
    intro x hx
    exact h2 x (by simpa using hx)
  · intro h
    have h1 : s.reverse.dropWhile (fun c => decide (c = 45)) = [] := dropWhile_all.2 fun x hx => List.all_eq_true.1 h x (by simpa using hx)
    rw [h1]
    rfl
theorem p_Trim1 (s : Bs) (hs : s.length < 2 ^ 40) : PureCon Tryd.prog Γ n_strings_Trim [.str s, .str [45]] (.str (Lib.trimS s [45])) := by
  refine PureCon.libB (by simp) (fun _ => rfl) rfl fun N g h w us _ hV => ?_
  obtain ⟨us, rfl, h1⟩ := VL_str hV
  obtain ⟨us, rfl, h2⟩ := VL_str h1
  obtain rfl := VL_nil' h2
  refine (Any.strings_Trim_laid Tryd.lays160 (by kernel_rfl) ⟨s.toArray⟩ ⟨([45] : Bs).toArray⟩ w (by simp [ByteArray.size]; omega) (by decide) (ascii_of_all (by decide))).mono ?_
  rintro e' w' ⟨rfl, hB⟩
  exact ⟨⟨_, rfl, fun _ _ => by simp [V]⟩, hB⟩
theorem a_free (l : List Bs) (hs : ∀ s ∈ l, s.length < 2 ^ 40) : Asks Tryd.prog Γ (fun _ => True) n_cover_factor_1 [] AV.str freeF l := by
  refine ⟨by simp, fun s hm up h _ => ?_⟩
  have hT := p_Trim1 (Γ := Γ) s (hs s hm)
  have h2 : decide (Lib.trimS s [45] = []) = freeF s := by rw [Bool.eq_iff_iff, decide_eq_true_iff]; exact trim1_nil s
  refine .enterB 60 c_cover_factor_1 ?_
  simp
  refine .callB 60 (by simp) hT ?_
  simp [h2]
theorem a_not (x : Li) (i j : Nat) (l : List Bs) (hl : ∀ s ∈ l, s.length < 2 ^ 40) : Asks Tryd.prog Γ (fun h => h[j]? = some (.cells [.fn (.func n_cover_has_1) [] [.ptr i 0]]) ∧ h[i]? = some (.cells (eLi x).cells) ∧ WfO h) n_cover_factor_2 [.ptr j 0] AV.str (fun s => !hasF x s) l := by
  refine ⟨by simp, fun s hs up h hφ => ?_⟩
  have ha := (a_has (Γ := Γ) x i l hl).2 s hs
  refine .enterB 60 c_cover_factor_2 ?_
  simp [hφ.1]
  refine .rcall 60 (fun up => ha up h hφ.2) ?_
  simp

/-- The literals that all rows have. -/
def commonF (rows : List Bs) (s : Bs) : List Li := (litsF s 0).filter fun x => decide (countF x rows = rows.length)
def orF (rows : List Bs) : List Fm := ⟨4, 0, rows.length⟩ :: rows.flatMap fun s => allF (litsF s 0) []
/-- The form of rows that differ. -/
def factorF : Nat → List Bs → List Fm
  | 0, _ => []
  | _ + 1, [] => [⟨0, 0, 0⟩]
  | f + 1, s :: r =>
    if anyB freeF (s :: r) = true then [⟨1, 0, 0⟩]
    else if commonF (s :: r) s ≠ [] then allF (commonF (s :: r) s) (factorF f (divF (commonF (s :: r) s) (s :: r)))
    else if (mostF (s :: r) s.length).2 < 2 then orF (s :: r)
    else ⟨4, 0, 2⟩ :: allF [(mostF (s :: r) s.length).1] (factorF f (divF [(mostF (s :: r) s.length).1] (keepF (fun t => !hasF (mostF (s :: r) s.length).1 t) (s :: r)))) ++ factorF f (keepF (hasF (mostF (s :: r) s.length).1) (s :: r))
end Go.Proofs.YtpjpaojjagffoaaDoor
/- Factors: plain laws: how many literals are left. -/
namespace Go.Proofs.YtpjpaojjagffoaaDoor
open Go.AM Go.Proofs
set_option linter.unusedSimpArgs false
set_option linter.unusedVariables false

theorem litsF_mem {x : Li} : ∀ {s : Bs} {i : Nat}, x ∈ litsF s i ↔ i ≤ x.1 ∧ s[x.1 - i]? = some x.2 ∧ x.2 ≠ 45
  | [], i => by simp [litsF]
  | c :: s, i => by
    have ih := litsF_mem (x := x) (s := s) (i := i + 1)
    have e : i + 1 ≤ x.1 → (c :: s)[x.1 - i]? = s[x.1 - (i + 1)]? := fun h => by rw [show x.1 - i = (x.1 - (i + 1)) + 1 by omega]; rfl
    rw [litsF]
    by_cases h : c = 45
    · rw [if_pos h, ih]
      constructor
      · rintro ⟨h1, h2, h3⟩; exact ⟨by omega, by rw [e h1]; exact h2, h3⟩
      · rintro ⟨h1, h2, h3⟩
        have h4 : i + 1 ≤ x.1 := by
          refine Decidable.byContradiction fun hn => h3 ?_
          rw [show x.1 - i = 0 by omega] at h2
          simp only [List.getElem?_cons_zero, Option.some.injEq] at h2
          rw [← h2, h]
        exact ⟨h4, by rw [← e h4]; exact h2, h3⟩
    · rw [if_neg h, List.mem_cons, ih]
      constructor
      · rintro (h1 | ⟨h1, h2, h3⟩)
        · subst h1; exact ⟨Nat.le_refl _, by simp, h⟩
        · exact ⟨by omega, by rw [e h1]; exact h2, h3⟩
      · rintro ⟨h1, h2, h3⟩
        by_cases h4 : x.1 = i
        · left
          rw [show x.1 - i = 0 by omega] at h2
          simp only [List.getElem?_cons_zero, Option.some.injEq] at h2
          exact Prod.ext h4 h2.symm
        · right; exact ⟨by omega, by rw [← e (by omega)]; exact h2, h3⟩
theorem litsF_pair : ∀ (s : Bs) (i : Nat), (litsF s i).Pairwise (fun a b => a.1 ≠ b.1)
  | [], i => .nil
  | c :: s, i => by
    rw [litsF]
    split
    · exact litsF_pair s (i + 1)
    · refine List.pairwise_cons.2 ⟨fun y hy => ?_, litsF_pair s (i + 1)⟩
      have := (litsF_mem.1 hy).1
      simp only; omega
theorem litsF_set {x : Li} : ∀ {s : Bs} {i : Nat}, x ∈ litsF s i → (litsF (s.set (x.1 - i) 45) i).length + 1 = (litsF s i).length
  | [], i, h => by simp [litsF] at h
  | c :: s, i, h => by
    have hm := litsF_mem.1 h
    by_cases h4 : x.1 = i
    · have h2 := hm.2.1
      rw [show x.1 - i = 0 by omega] at h2 ⊢
      simp only [List.getElem?_cons_zero, Option.some.injEq] at h2
      have h5 : ¬ c = 45 := fun hc => hm.2.2 (by rw [← h2, hc])
      rw [List.set_cons_zero, litsF, litsF, if_pos rfl, if_neg h5, List.length_cons]
    · have h5 : x ∈ litsF s (i + 1) := litsF_mem.2 ⟨by omega, by have := hm.2.1; rw [show x.1 - i = (x.1 - (i + 1)) + 1 by omega] at this; exact this, hm.2.2⟩
      have ih := litsF_set h5
      rw [show x.1 - i = (x.1 - (i + 1)) + 1 by omega, List.set_cons_succ, litsF, litsF]
      split
      · exact ih
      · simp only [List.length_cons]; omega
theorem litsF_le : ∀ (s : Bs) (i : Nat), (litsF s i).length ≤ s.length
  | [], i => Nat.le_refl _
  | c :: s, i => by rw [litsF]; have := litsF_le s (i + 1); split <;> simp only [List.length_cons] <;> omega
theorem cutL_cost : ∀ (l : List Li) (s : Bs), l.Pairwise (fun a b => a.1 ≠ b.1) → (∀ x ∈ l, x ∈ litsF s 0) → (litsF (cutL l s) 0).length + l.length = (litsF s 0).length
  | [], s, _, _ => rfl
  | x :: l, s, hp, hm => by
    rw [List.pairwise_cons] at hp
    have h1 := litsF_set (hm x (by simp))
    have h2 := cutL_cost l (s.set x.1 45) hp.2 fun y hy => by
      have h3 := litsF_mem.1 (hm y (by simp [hy]))
      exact litsF_mem.2 ⟨by omega, by rw [List.getElem?_set_ne (by have := hp.1 y hy; omega)]; exact h3.2.1, h3.2.2⟩
    simp only [List.length_cons]
    rw [Nat.sub_zero] at h1
    have : cutL (x :: l) s = cutL l (s.set x.1 45) := rfl
    rw [this]; omega
def costF : List Bs → Nat
  | [] => 0
  | s :: r => (litsF s 0).length + costF r
theorem costF_div (l : List Li) (hp : l.Pairwise (fun a b => a.1 ≠ b.1)) : ∀ rows : List Bs, (∀ s ∈ rows, ∀ x ∈ l, x ∈ litsF s 0) → costF (divF l rows) + rows.length * l.length = costF rows
  | [], _ => by simp [divF, costF]
  | s :: r, h => by
    have h1 := costF_div l hp r fun t ht => h t (by simp [ht])
    have h2 := cutL_cost l s hp (h s (by simp))
    simp only [divF, List.map_cons, costF, List.length_cons] at h1 ⊢
    rw [Nat.succ_mul]; omega
theorem costF_keep (p : Bs → Bool) : ∀ rows : List Bs, costF (keepF p rows) + costF (keepF (fun t => !p t) rows) = costF rows
  | [] => rfl
  | s :: r => by
    have ih := costF_keep p r
    cases h : p s <;> simp [keepF, h, costF] at ih ⊢ <;> omega
theorem countF_keep (x : Li) : ∀ rows : List Bs, (keepF (fun t => !hasF x t) rows).length = countF x rows
  | [] => rfl
  | s :: r => by
    have ih := countF_keep x r
    cases h : hasF x s <;> simp [keepF, h, countF] at ih ⊢ <;> omega
theorem countF_all {x : Li} : ∀ {rows : List Bs}, countF x rows = rows.length ↔ ∀ s ∈ rows, x ∈ litsF s 0
  | [] => by simp [countF]
  | s :: r => by
    have ih := countF_all (x := x) (rows := r)
    have hle := countF_le x r
    rw [countF, List.length_cons]
    by_cases h : hasF x s = true
    · rw [if_pos h]
      have h' : x ∈ litsF s 0 := by simpa [hasF] using h
      simp only [List.mem_cons, forall_eq_or_imp]
      rw [← ih]
      exact ⟨fun h1 => ⟨h', by omega⟩, fun h1 => by omega⟩
    · rw [if_neg h]
      have h' : ¬ x ∈ litsF s 0 := by simpa [hasF] using h
      exact ⟨fun h1 => by omega, fun h1 => absurd (h1 s (by simp)) h'⟩
theorem keep_has {x : Li} {rows : List Bs} {s : Bs} (h : s ∈ keepF (fun t => !hasF x t) rows) : s ∈ rows ∧ x ∈ litsF s 0 := by
  simp only [keepF, List.mem_filter, Bool.not_not] at h
  exact ⟨h.1, by simpa [hasF] using h.2⟩

/-- What the literal that most rows have is. -/
theorem mostS_ok (rows : List Bs) {b : Li × Nat} (hb : 0 < b.2 → b.2 = countF b.1 rows) (x : Li) : 0 < (mostS rows b x).2 → (mostS rows b x).2 = countF (mostS rows b x).1 rows := by
  unfold mostS
  split
  · intro _; rfl
  · exact hb
theorem mostA_ok (rows : List Bs) : ∀ (n i : Nat) (b : Li × Nat), (0 < b.2 → b.2 = countF b.1 rows) → 0 < (mostA rows n i b).2 → (mostA rows n i b).2 = countF (mostA rows n i b).1 rows
  | 0, _, b, hb => hb
  | n + 1, i, b, hb => mostA_ok rows n (i + 1) _ (mostS_ok rows (mostS_ok rows hb _) _)
theorem mostF_ok (rows : List Bs) (n : Nat) : 0 < (mostF rows n).2 → (mostF rows n).2 = countF (mostF rows n).1 rows := mostA_ok rows n 0 _ (by simp)

theorem common_pair (rows : List Bs) (s : Bs) : (commonF rows s).Pairwise (fun a b => a.1 ≠ b.1) := (litsF_pair s 0).filter _
theorem common_mem {rows : List Bs} {s : Bs} {x : Li} (h : x ∈ commonF rows s) : ∀ t ∈ rows, x ∈ litsF t 0 := by
  simp only [commonF, List.mem_filter, decide_eq_true_eq] at h
  exact countF_all.1 h.2
theorem cost_free {s : Bs} : freeF s = true ↔ litsF s 0 = [] := by
  constructor
  · intro h
    refine List.eq_nil_iff_forall_not_mem.2 fun x hx => ?_
    have := litsF_mem.1 hx
    rw [freeF, List.all_eq_true] at h
    have h2 := h x.2 (List.mem_of_getElem? this.2.1)
    exact this.2.2 (by simpa using h2)
  · intro h
    rw [freeF, List.all_eq_true]
    intro c hc
    obtain ⟨i, hi⟩ := List.getElem?_of_mem hc
    refine decide_eq_true (Decidable.byContradiction fun hn => ?_)
    have : (i, c) ∈ litsF s 0 := litsF_mem.2 ⟨by omega, by simpa using hi, hn⟩
    rw [h] at this
    cases this

theorem restF_len (r : List Fm) : (restF r).length ≤ r.length := by unfold restF; split <;> simp
theorem headF_len (n : Nat) : (headF n).length ≤ 1 := by unfold headF; split <;> simp
theorem allF_len (l : List Li) (r : List Fm) : (allF l r).length ≤ 1 + l.length + r.length := by
  have h1 := restF_len r
  have h2 := headF_len (l.length + min (restF r).length 1)
  simp only [allF, List.length_append, List.length_map]; omega
theorem orF_len : ∀ rows : List Bs, (rows.flatMap fun s => allF (litsF s 0) []).length ≤ rows.length + costF rows
  | [] => by simp
  | s :: r => by
    have ih := orF_len r
    have h := allF_len (litsF s 0) []
    simp only [List.flatMap_cons, List.length_append, List.length_cons, costF, List.length_nil] at h ih ⊢
    omega
theorem rows_cost : ∀ rows : List Bs, anyB freeF rows = false → rows.length ≤ costF rows
  | [], _ => by simp
  | s :: r, h => by
    rw [anyB_cons, Bool.or_eq_false_iff] at h
    have ih := rows_cost r h.2
    have h1 : 0 < (litsF s 0).length := by
      refine Decidable.byContradiction fun hn => ?_
      have := cost_free.2 (List.length_eq_zero_iff.1 (by omega : (litsF s 0).length = 0))
      rw [h.1] at this; cases this
    simp only [List.length_cons, costF]; omega
/-- What the recursion goes down by. -/
theorem cost_common {s : Bs} {r : List Bs} (h : commonF (s :: r) s ≠ []) : costF (divF (commonF (s :: r) s) (s :: r)) + (commonF (s :: r) s).length ≤ costF (s :: r) := by
  have h1 := costF_div (commonF (s :: r) s) (common_pair _ _) (s :: r) fun t ht x hx => common_mem hx t ht
  have h2 : (commonF (s :: r) s).length ≤ (s :: r).length * (commonF (s :: r) s).length := Nat.le_mul_of_pos_left _ (by simp)
  omega
theorem cost_most {s : Bs} {r : List Bs} (h : ¬ (mostF (s :: r) s.length).2 < 2) :
    costF (divF [(mostF (s :: r) s.length).1] (keepF (fun t => !hasF (mostF (s :: r) s.length).1 t) (s :: r))) + costF (keepF (hasF (mostF (s :: r) s.length).1) (s :: r)) + 2 ≤ costF (s :: r) := by
  have h0 := mostF_ok (s :: r) s.length (by omega)
  generalize (mostF (s :: r) s.length).1 = x at *
  have h1 := costF_div [x] (by simp) (keepF (fun t => !hasF x t) (s :: r)) fun t ht y hy => by simp only [List.mem_singleton] at hy; subst hy; exact (keep_has ht).2
  have h2 := costF_keep (hasF x) (s :: r)
  have h3 := countF_keep x (s :: r)
  simp only [List.length_cons, List.length_nil, Nat.mul_one, Nat.zero_add] at h1
  omega
theorem factorF_len : ∀ (f : Nat) (rows : List Bs), (factorF f rows).length ≤ 3 * costF rows + 1
  | 0, _ => by simp [factorF]
  | _ + 1, [] => by simp [factorF]
  | f + 1, s :: r => by
    rw [factorF]
    split
    · simp
    · rename_i hfr
      split
      · rename_i hc
        have h1 := factorF_len f (divF (commonF (s :: r) s) (s :: r))
        have h2 := cost_common hc
        have h3 := allF_len (commonF (s :: r) s) (factorF f (divF (commonF (s :: r) s) (s :: r)))
        have h4 : 0 < (commonF (s :: r) s).length := List.length_pos_iff.2 hc
        omega
      · split
        · have h1 := orF_len (s :: r)
          have h2 := rows_cost (s :: r) (by simpa using hfr)
          simp only [orF, List.length_cons] at h1 h2 ⊢; omega
        · rename_i hm
          have h0 := cost_most hm
          have h1 := factorF_len f (divF [(mostF (s :: r) s.length).1] (keepF (fun t => !hasF (mostF (s :: r) s.length).1 t) (s :: r)))
          have h2 := factorF_len f (keepF (hasF (mostF (s :: r) s.length).1) (s :: r))
          have h3 := allF_len [(mostF (s :: r) s.length).1] (factorF f (divF [(mostF (s :: r) s.length).1] (keepF (fun t => !hasF (mostF (s :: r) s.length).1 t) (s :: r))))
          simp only [List.length_cons, List.length_append, List.length_nil] at h3 ⊢
          omega
end Go.Proofs.YtpjpaojjagffoaaDoor
/- Factors: the literals of a row, collected. -/
namespace Go.Proofs.YtpjpaojjagffoaaDoor
open Go.AM Go.Proofs
variable {Γ : Nat → Option AV}
set_option linter.unusedSimpArgs false
set_option linter.unusedVariables false

/-- No slice of a memory is of rows that aren't there. -/
def WfV (h : List Ob) : Prop := ∀ i m, h.length ≤ i → vldH i m h = true
abbrev hCol (n : Nat) (b : Bool) (st : LoopState) (c : List Li) : List Ob := [.row 2 t_cover_literal_2 [] none true false, .cells [.sl (n + 5) 0 c.length], .row 2 t_cover_literal_2 [] none true false, .dfr b,
  .loop st .none n_slices_AppendSeq_cover_literal_cover_literal [U, U, .ptr (n + 1) 0, U, .sl (n + 2) 0 0, U, U, U, U, U, U, U, U] [7] (.reg slices_AppendSeq_cover_literal_cover_literal_p1) slices_AppendSeq_cover_literal_cover_literal_p3, .row 2 t_cover_literal_2 (c.map eLi) none true false]
set_option maxRecDepth 8000 in
theorem r_coll (i : Nat) (s : Bs) (hs : s.length < 2 ^ 40) {h : List Ob} (hi : h[i]? = some (.cells [.str s])) (hw : WfO h) (hwv : WfV h) (up : List Fr) (hv : ∀ m, up.all (vldF (h.length + 5) m) = true) : ∀ n j : Nat, j + n = s.length → ∀ c : List Li, c.length ≤ j →
    AM.Reach Tryd.prog Γ (cover_literals_1_L0 (.yld (h.length + 4)) (.ptr i 0) (.int .i64 s.length) (.int .i64 j) (h ++ hCol h.length true .ready c) ⟨[], .norm, h.length + 5, up⟩)
      (.back up (.tup []) (h ++ hCol h.length true .ready (c ++ litsF (s.drop j) j))) := by
  have hil := lt_of_get hi
  have hget := fun os => get_app hi os
  have hwr : ∀ c : UInt8, IntKind.i64.wrap (c.toNat : Int) = c.toNat := fun c => wrap64 (by omega) (by have := c.toNat_lt; omega)
  have hb6 := hw (h.length + 6) (by omega)
  intro n
  induction n with
  | zero =>
    intro j hj c hc
    have q1 : ¬ j < s.length := by omega
    rw [List.drop_eq_nil_of_le (by omega), litsF]
    refine .goB 60 ?_
    simp [q1]
  | succ n ih =>
    intro j hj c hc
    have q1 : j < s.length := by omega
    rw [List.drop_eq_getElem_cons q1, litsF]
    by_cases a : s[j] = 45
    · have hh := ih (j + 1) (by omega) c (by omega)
      rw [if_pos a]
      refine .goB 60 ?_
      simp (disch := omega) [q1, a, hget]
      refine .reLoop ?_
      simp at hh ⊢
      exact hh
    · rw [if_neg a]
      have hh := ih (j + 1) (by omega) (c ++ [(j, s[j])]) (by simp; omega)
      refine .goB 60 ?_
      simp (disch := omega) [q1, a, setAll, hwr, hget]
      refine .trans (.pop _) (.goB 60 ?_)
      simp (disch := omega)
      refine .reLoop ?_
      simp
      refine .dropTo (h.length + 6) (by simp; rfl) (by simp) (by simp; omega) (by simp [hb6]) ?_
      have hv5 := fun m => hwv (h.length + 5) m (by omega)
      refine .resetUT (i := h.length + 5) (k := 2) (E := t_cover_literal_2) (es := (c ++ [(j, s[j])]).map eLi) (fl := true) (sh := false) (by simp) (by simp) (hv _) (by simp [hv5]) ?_
      simp [hCol] at hh ⊢
      exact hh
set_option maxRecDepth 8000 in
theorem r_collect (i : Nat) (s : Bs) (hs : s.length < 2 ^ 40) {h : List Ob} (hi : h[i]? = some (.cells [.str s])) (hw : WfO h) (hwv : WfV h) (up : List Fr) (hv : ∀ m, up.all (vldF (h.length + 5) m) = true) :
    AM.Reach Tryd.prog Γ (.cl n_slices_Collect_cover_literal [.fn (.func n_cover_literals_1) [] [.ptr i 0]] up h) (.back up (.sl (h.length + 5) 0 (litsF s 0).length) (h ++ hCol h.length false .exhausted (litsF s 0))) := by
  have hget := fun os => get_app hi os
  refine .enterB 60 c_slices_Collect_cover_literal ?_
  simp
  refine .enterB 60 c_slices_AppendSeq_cover_literal_cover_literal ?_
  simp
  refine .enterB 60 c_cover_literals_1 ?_
  simp [hget]
  refine .inLoop ?_
  simp
  refine .trans (.nilcell (i := h.length + 1) (j := 0) (k := 2) t_cover_literal_2 (by simp; rfl) rfl (by omega)) ?_
  have hh := fun up hv => r_coll (Γ := Γ) i s hs hi hw hwv up hv s.length 0 (by omega) [] (by simp)
  simp [hCol] at hh ⊢
  have hv' := fun m => hv m
  simp at hv'
  refine .trans (hh _ (by simp; exact hv')) ?_
  have e41 : h.length + 3 + 1 = h.length + 4 := rfl
  refine .trans (.pop _) (.goB 60 ?_)
  simp [e41]
  refine .trans (.pop _) (.goB 60 ?_)
  simp
abbrev cx5 : Cx := ⟨[.mark 5], .norm, 0, []⟩
set_option maxRecDepth 8000 in
/-- An or of ands: of each row its literals. -/
theorem f_or (rows : List Bs) (hl : rows.length ≤ 128) (hlen : ∀ t ∈ rows, t.length ≤ 40) {h8 : List Ob} (h8l : h8.length = 8) (h85 : h8[5]? = some (.dfr true)) (hw : ∀ m, 8 ≤ m → belH m h8 = true) (hwv : ∀ i m, 8 ≤ i → vldH i m h8 = true) : ∀ n i : Nat, i + n = rows.length → ∀ out : List Fm, out.length ≤ 42 * i + 1 →
    Fins Tryd.prog Γ (cover_factor_L6 (.sl 8 0 out.length) (.list false 1 (rows.map .str)) (.int .i64 rows.length) (.int .i64 i) (h8 ++ [.row 3 t_cover_Form_2 (out.map eFm) none true false]) cx5)
      (.ret (.own 3 t_cover_Form_2 ((out ++ (rows.drop i).flatMap fun s => allF (litsF s 0) []).map eFm))) := by
  have g0 : ∀ os : List Ob, (h8 ++ os)[8]? = os[0]? := fun os => by rw [← h8l, get_len0]
  have g1 : ∀ (os : List Ob) (k : Nat), 8 ≤ k → (h8 ++ os)[k]? = os[k - 8]? := fun os k hk => by rw [List.getElem?_append_right (by omega), h8l]
  have s0 : ∀ (os : List Ob) (o : Ob), (h8 ++ os).set 8 o = h8 ++ os.set 0 o := fun os o => by rw [← h8l, set_len0]
  have hw9 := hw 9 (by omega)
  have h85' : h8[5] = .dfr true := (List.getElem?_eq_some_iff.1 h85).2
  have g15 : ∀ os : List Ob, (h8 ++ os)[15]? = os[7]? := fun os => g1 os 15 (by omega)
  have g5 : ∀ os : List Ob, (h8 ++ os)[5]? = some (.dfr true) := fun os => by rw [List.getElem?_append_left (by omega)]; exact h85
  have s5 : ∀ (os : List Ob) (o : Ob), (h8 ++ os).set 5 o = h8.set 5 o ++ os := fun os o => List.set_append_left _ _ (by omega)
  have g6 : ∀ (os : List Ob) (o : Ob), (h8.set 5 o ++ os)[8]? = os[0]? := fun os o => by rw [List.getElem?_append_right (by simp; omega)]; simp [h8l]
  have hv8 := fun m => hwv 8 m (by omega)
  intro n
  induction n with
  | zero =>
    intro i hi out ho
    have q1 : ¬ i < rows.length := by omega
    rw [List.drop_eq_nil_of_le (by omega), List.flatMap_nil, List.append_nil]
    refine .go 60 ?_
    simp [q1, g0, h8l, g5, s5, h85']
    refine .back ?_
    simp [g6]
    done
  | succ n ih =>
    intro i hi out ho
    have q1 : i < rows.length := by omega
    have q3 := hlen _ (List.getElem_mem q1)
    have hcl := litsF_le rows[i] 0
    have hal := allF_len (litsF rows[i] 0) []
    have hall := p_all (Γ := Γ) (litsF rows[i] 0) (.inl rfl : Kd 2 2 _) (by omega) (fun x hx => by have := litsF_mem.1 hx; have := (List.getElem?_eq_some_iff.1 this.2.1).1; omega) [] (.inr rfl : Kd 3 0 _) (by simp)
    have hh := ih (i + 1) (by omega) (out ++ allF (litsF rows[i] 0) []) (by simp only [List.length_append, List.length_nil] at hal ⊢; omega)
    rw [List.drop_eq_getElem_cons q1, List.flatMap_cons, ← List.append_assoc]
    have hcoll := r_collect (Γ := Γ) 9 rows[i] (by omega) (h := h8 ++ [.row 3 t_cover_Form_2 (out.map eFm) none true false, .cells [.str rows[i]]]) (by rw [g1 _ _ (by omega)]; rfl)
      (fun m hm => by simp at hm; simp [hw m (by omega)]) (fun j m hj => by simp at hj; simp [hwv j m (by omega)])
    refine .go 60 ?_
    simp (disch := omega) [q1]
    refine .rcall 60 (r_literals rows[i]) ?_
    simp [h8l, hCol] at hcoll ⊢
    refine .reach (hcoll _ (by simp)) ?_
    refine .go 60 ?_
    simp
    simp at hall
    refine .call 60 (by simp [g15]) hall ?_
    have hb24 : (out.length + (allF (litsF rows[i] 0) []).length) * 24 ≤ 140737488355328 := by simp only [List.length_nil] at hal; omega
    simp [h8l, g0, s0, hb24]
    refine .reLoop ?_
    simp
    refine .drop (h' := h8 ++ [.row 3 t_cover_Form_2 (List.map eFm out ++ List.map eFm (allF (litsF rows[i] 0) [])) (if allF (litsF rows[i] 0) [] = [] then none else some 0) true false]) 9 (by rw [show (9 : Nat) = h8.length + 1 by omega, List.take_length_add_append]; rfl) (by simp) (by simp) (by simp [hw9]) ?_
    refine .resetI (i := 8) (k := 3) (E := t_cover_Form_2) (es := List.map eFm out ++ List.map eFm (allF (litsF rows[i] 0) [])) (gr := if allF (litsF rows[i] 0) [] = [] then none else some 0) (fl := true) (sh := false) (by simp [g0]) (by split <;> simp) (by simp) (by simp) (by simp [hv8]) ?_
    rw [s0]
    have hwi : IntKind.i64.wrap ((i : Int) + 1) = i + 1 := wrap64 (by omega) (by omega)
    simp [hwi] at hh ⊢
    exact hh
end Go.Proofs.YtpjpaojjagffoaaDoor
/- Factors: rows that have a literal, and those that have not. -/
namespace Go.Proofs.YtpjpaojjagffoaaDoor
open Go.AM Go.Proofs
variable {Γ : Nat → Option AV}
set_option linter.unusedSimpArgs false
set_option linter.unusedVariables false

abbrev tTwo (v13 : AV) : List AV := [U, .ptr 0 0, U, U, U, U, .ptr 7 0, U, U, U, U, .ptr 9 0, .fn (.func n_cover_factor_2) [] [.ptr 9 0], v13] ++ List.replicate 87 U
abbrev hTwo (rows : List Bs) (s : Bs) (x : Li) (lo : List AV) : List Ob := [.cells [.list false 1 (rows.map .str)], .row 3 t_cover_Form_2 [] none true false, .cells [.sl 3 0 0], .row 2 t_cover_literal_2 [] none true false, .cells [.str s], .dfr true,
  .loop .exhausted .none n_cover_factor lo [31] (.reg cover_factor_p20) cover_factor_p24, .cells (eLi x).cells, .cells (eLi x).cells, .cells [.fn (.func n_cover_has_1) [] [.ptr 8 0]]]
def twoF (x : Li) (q r : List Fm) : List Fm := ⟨4, 0, 2⟩ :: allF [x] q ++ r

set_option maxRecDepth 8000 in
theorem f_two1 (rows : List Bs) (h0 : rows ≠ []) (hl : rows.length ≤ 128) (hlen : ∀ t ∈ rows, t.length < 2 ^ 40) (s : Bs) (x : Li) (hx : x.1 < 2 ^ 40) (lo : List AV) (hlo : ∀ m, 10 ≤ m → belL m lo = true) (q r : List Fm) (hq : q.length < 2 ^ 30) (hr : r.length < 2 ^ 30)
    (hfac : PureCon Tryd.prog Γ n_cover_factor [.list false 1 ((keepF (hasF x) rows).map .str)] (.own 3 t_cover_Form_2 (r.map eFm))) :
    Fins Tryd.prog Γ (.fr ⟨.run, n_cover_factor, [It.code ((ACode.dreg [O, O, I, O, O, O] [2, 4, 4, 5, 7, 7] cover_factor_p1).seq ((ACode.reg cover_factor_p0).seq ACode.ret))], tTwo (.sl 10 0 q.length), [.mark 5], .norm, 0⟩ [] (hTwo rows s x lo ++ [.row 3 t_cover_Form_2 (q.map eFm) none true false]))
      (.ret (.own 3 t_cover_Form_2 ((twoF x q r).map eFm))) := by
  have hclone := p_slices_Clone_string_string (Γ := Γ) rows (.inl rfl : Kd 1 1 rows) (by omega)
  have hall := p_all (Γ := Γ) [x] (.inl rfl : Kd 2 2 _) (by simp) (fun y hy => by simp only [List.mem_singleton] at hy; subst hy; exact hx) q (.inl rfl : Kd 3 3 _) (by omega)
  have hal := allF_len [x] q
  have hcl : (catF [(3, [⟨4, 0, 2⟩]), (3, allF [x] q), (3, r)]).length < 2 ^ 40 := by
    simp only [catF, List.length_append, List.length_cons, List.length_nil, List.append_nil] at hal ⊢
    omega
  have hcat := p_slices_Concat_cover_Form_cover_Form (Γ := Γ) [(3, [⟨4, 0, 2⟩]), (3, allF [x] q), (3, r)] (by simp [Kd]) (by simp) hcl (by simp [catF])
  refine .go 60 ?_
  simp
  refine .dr 60 ?_
  simp
  refine .call (by simp) hclone ?_
  have hwf : ∀ os, (∀ m, 10 ≤ m → belH m os = true) → WfO (hTwo rows s x lo ++ os) := fun os ho m hm => by
    have hm' : 10 ≤ m := by simp at hm; omega
    simp [ho m hm', hlo m hm']; omega
  obtain ⟨es, hdel⟩ := r_DeleteFunc (Γ := Γ) (a_has x 8 rows hlen) (by omega) (h := hTwo rows s x lo ++ [.row 3 t_cover_Form_2 (q.map eFm) none true false, rowS rows]) (r := 11) rfl (fun l' => ⟨rfl, hwf [.row 3 t_cover_Form_2 (q.map eFm) none true false, rowS l', nilS] (fun m hm => by simp)⟩) (hwf _ (fun m hm => by simp))
  simp [rowS] at hdel
  simp
  refine .reach (by simp) hdel ?_
  simp
  refine .call (by simp) hfac ?_
  simp
  refine .call 60 (by simp) hall ?_
  simp
  refine .call 60 (by simp) hcat ?_
  simp
  exact .back (by simp [catF, twoF])
theorem fins_rcallO {P : Program} (n : Nat) {f : FuncId} {args : List AV} {up : List Fr} {h : List Ob} {v : AV} {h' : List Ob} {o : Out} (h1 : ∀ up, AM.Reach P Γ (.cl f args up h) (.back up v h')) (h2 : Fins P Γ (AM.goO P Γ n (.back up v h')) o) : Fins P Γ (.cl f args up h) o := .reach (h1 up) (.reach (.goesO n _) h2)
theorem two_eq : ordersL (depL cover_factor_p2) cover_factor_p2.length [] = [[0,1,2,3,4,5,6,7,8], [0,1,2,4,3,5,6,7,8], [0,1,2,4,5,3,6,7,8], [0,1,4,2,3,5,6,7,8], [0,1,4,2,5,3,6,7,8], [0,1,4,5,2,3,6,7,8], [0,2,1,3,4,5,6,7,8], [0,2,1,4,3,5,6,7,8], [0,2,1,4,5,3,6,7,8], [0,2,4,1,3,5,6,7,8], [0,2,4,1,5,3,6,7,8], [0,2,4,5,1,3,6,7,8], [0,4,1,2,3,5,6,7,8], [0,4,1,2,5,3,6,7,8], [0,4,1,5,2,3,6,7,8], [0,4,2,1,3,5,6,7,8], [0,4,2,1,5,3,6,7,8], [0,4,2,5,1,3,6,7,8], [0,4,5,1,2,3,6,7,8], [0,4,5,2,1,3,6,7,8], [2,0,1,3,4,5,6,7,8], [2,0,1,4,3,5,6,7,8], [2,0,1,4,5,3,6,7,8], [2,0,4,1,3,5,6,7,8], [2,0,4,1,5,3,6,7,8], [2,0,4,5,1,3,6,7,8], [2,4,0,1,3,5,6,7,8], [2,4,0,1,5,3,6,7,8], [2,4,0,5,1,3,6,7,8], [2,4,5,0,1,3,6,7,8], [4,0,1,2,3,5,6,7,8], [4,0,1,2,5,3,6,7,8], [4,0,1,5,2,3,6,7,8], [4,0,2,1,3,5,6,7,8], [4,0,2,1,5,3,6,7,8], [4,0,2,5,1,3,6,7,8], [4,0,5,1,2,3,6,7,8], [4,0,5,2,1,3,6,7,8], [4,2,0,1,3,5,6,7,8], [4,2,0,1,5,3,6,7,8], [4,2,0,5,1,3,6,7,8], [4,2,5,0,1,3,6,7,8], [4,5,0,1,2,3,6,7,8], [4,5,0,2,1,3,6,7,8], [4,5,2,0,1,3,6,7,8]] := by rfl
set_option maxRecDepth 8000 in
set_option maxHeartbeats 4000000 in
theorem f_two (rows : List Bs) (h0 : rows ≠ []) (hl : rows.length ≤ 128) (hlen : ∀ t ∈ rows, t.length < 2 ^ 40) (s : Bs) (x : Li) (hx : x.1 < 2 ^ 40) (hxr : ∀ t ∈ rows, x.1 < t.length) (lo : List AV) (hlo : ∀ m, 10 ≤ m → belL m lo = true) (q r : List Fm) (hq : q.length < 2 ^ 30) (hr : r.length < 2 ^ 30)
    (hfac0 : PureCon Tryd.prog Γ n_cover_factor [.list false 1 ((divF [x] (keepF (fun t => !hasF x t) rows)).map .str)] (.own 3 t_cover_Form_2 (q.map eFm)))
    (hfac : PureCon Tryd.prog Γ n_cover_factor [.list false 1 ((keepF (hasF x) rows).map .str)] (.own 3 t_cover_Form_2 (r.map eFm))) :
    Fins Tryd.prog Γ (.fr ⟨.run, n_cover_factor, [It.code (.dreg [I, I, O, I, O, O, O, O, O] [7, 7, 7, 7, 6, 7, 8, 10, 10] cover_factor_p2), It.code ((ACode.dreg [O, O, I, O, O, O] [2, 4, 4, 5, 7, 7] cover_factor_p1).seq ((ACode.reg cover_factor_p0).seq ACode.ret))], tTwo U, [.mark 5], .norm, 0⟩ [] (hTwo rows s x lo))
      (.ret (.own 3 t_cover_Form_2 ((twoF x q r).map eFm))) := by
  have hend := f_two1 (Γ := Γ) rows h0 hl hlen s x hx lo hlo q r hq hr hfac
  have hclone := p_slices_Clone_string_string (Γ := Γ) rows (.inl rfl : Kd 1 1 rows) (by omega)
  have hdiv := p_divide (Γ := Γ) (keepF (fun t => !hasF x t) rows) [x] (.inl rfl : Kd 1 1 _) (.inl rfl : Kd 2 2 _) (by have : (keepF (fun t => !hasF x t) rows).length ≤ rows.length := List.length_filter_le _ _; omega) (by simp) fun t ht => by
    have h1 := (keep_has ht).1
    exact ⟨hlen t h1, fun y hy => by simp only [List.mem_singleton] at hy; subst hy; exact hxr t h1⟩
  simp at hdiv
  have hwf : ∀ os, (∀ m, 10 ≤ m → belH m os = true) → WfO (hTwo rows s x lo ++ os) := fun os ho m hm => by
    have hm' : 10 ≤ m := by simp at hm; omega
    simp [ho m hm', hlo m hm']; omega
  obtain ⟨es, hdel⟩ := r_DeleteFunc (Γ := Γ) (a_not x 8 9 rows hlen) (by omega) (h := hTwo rows s x lo ++ [rowS rows]) (r := 10) rfl (fun l' => ⟨rfl, rfl, hwf [rowS l', nilS] (fun m hm => by simp)⟩) (hwf _ (fun m hm => by simp))
  simp [rowS] at hdel
  refine .ogD 60 ?_
  rw [two_eq]
  intro l hm
  simp only [List.mem_cons, List.not_mem_nil, or_false] at hm
  rcases hm with rfl | rfl | rfl | rfl | rfl | rfl | rfl | rfl | rfl | rfl | rfl | rfl | rfl | rfl | rfl | rfl | rfl | rfl | rfl | rfl | rfl | rfl | rfl | rfl | rfl | rfl | rfl | rfl | rfl | rfl | rfl | rfl | rfl | rfl | rfl | rfl | rfl | rfl | rfl | rfl | rfl | rfl | rfl | rfl | rfl
  all_goals
    simp
    refine .callO 60 (by simp) hclone ?_
    simp
    refine fins_rcallO 60 hdel ?_
    simp
    refine .callO 60 (by simp) hdiv ?_
    simp
    refine .callO 60 (by simp) hfac0 ?_
    simp
    refine .clrs [79, 80, 81, 82, 83, 84, 85, 86] ?_
    simp [clrT]
    refine .gc 10 [2] (by simp [hlo 10 (by omega)]) (by decide) ?_
    simp [rnL_bel (hlo 10 (by omega))]
    refine .go 1 ?_
    simp at hend ⊢
    exact hend
end Go.Proofs.YtpjpaojjagffoaaDoor
/- Factors: the walk. -/
namespace Go.Proofs.YtpjpaojjagffoaaDoor
open Go.AM Go.Proofs
variable {Γ : Nat → Option AV}
set_option linter.unusedSimpArgs false
set_option linter.unusedVariables false

/-- Rows of so many signs, not many. -/
def RowsOf (n : Nat) (rows : List Bs) : Prop := rows.length ≤ 128 ∧ (∀ s ∈ rows, s.length = n) ∧ n ≤ 40
theorem costF_le {n : Nat} : ∀ {rows : List Bs}, (∀ s ∈ rows, s.length = n) → costF rows ≤ rows.length * n
  | [], _ => by simp [costF]
  | s :: r, h => by
    have h1 := litsF_le s 0
    have h2 := costF_le (rows := r) fun t ht => h t (by simp [ht])
    have h3 := h s (by simp)
    simp only [costF, List.length_cons, Nat.succ_mul]; omega
theorem RowsOf.cost {n : Nat} {rows : List Bs} (h : RowsOf n rows) : costF rows ≤ 5120 := by
  have h1 := costF_le h.2.1
  have h2 : rows.length * n ≤ 128 * 40 := Nat.mul_le_mul h.1 h.2.2
  omega

abbrev tFac : List AV := [U, .ptr 0 0, .sl 1 0 0, U, .ptr 2 0] ++ List.replicate 96 U
abbrev hFac (rows : List Bs) (s : Bs) (c : List Li) (gr : Option Nat) : List Ob := [.cells [.list false 1 (rows.map .str)], .row 3 t_cover_Form_2 [] none true false, .cells [.sl 3 0 c.length], .row 2 t_cover_literal_2 (c.map eLi) gr true false, .cells [.str s], .dfr true,
  .loop .ready .none n_cover_factor tFac [31] (.reg cover_factor_p20) cover_factor_p24]
set_option maxRecDepth 8000 in
theorem r_common (rows : List Bs) (hl : rows.length < 2 ^ 40) (s : Bs) (hs : ∀ t ∈ rows, t.length < 2 ^ 40) (hs1 : s.length < 2 ^ 40) (up : List Fr) (hv : ∀ m, up.all (vldF 3 m) = true) : ∀ n j : Nat, j + n = s.length → ∀ c : List Li, c.length ≤ j →
    AM.Reach Tryd.prog Γ (cover_literals_1_L0 (.yld 6) (.ptr 4 0) (.int .i64 s.length) (.int .i64 j) (hFac rows s c none) ⟨[], .norm, 7, up⟩)
      (.back up (.tup []) (hFac rows s (c ++ (litsF (s.drop j) j).filter fun x => decide (countF x rows = rows.length)) none)) := by
  have hwr : ∀ c : UInt8, IntKind.i64.wrap (c.toNat : Int) = c.toNat := fun c => wrap64 (by omega) (by have := c.toNat_lt; omega)
  intro n
  induction n with
  | zero =>
    intro j hj c hc
    have q1 : ¬ j < s.length := by omega
    rw [List.drop_eq_nil_of_le (by omega), litsF]
    refine .goB 60 ?_
    simp [q1]
  | succ n ih =>
    intro j hj c hc
    have q1 : j < s.length := by omega
    rw [List.drop_eq_getElem_cons q1, litsF]
    by_cases a : s[j] = 45
    · have hh := ih (j + 1) (by omega) c (by omega)
      rw [if_pos a]
      refine .goB 60 ?_
      simp (disch := omega) [q1, a]
      refine .reLoop ?_
      simp at hh ⊢
      exact hh
    · rw [if_neg a]
      have hp := p_count (Γ := Γ) rows (j, s[j]) (.inl rfl) hl hs
      refine .goB 60 ?_
      simp (disch := omega) [q1, a, setAll, hwr]
      refine .drB 60 ?_
      simp
      refine .call (by simp) hp ?_
      by_cases h3 : countF (j, s[j]) rows = rows.length
      · have h3' : ((countF (j, s[j]) rows : Nat) : Int) = rows.length := by omega
        have hh := ih (j + 1) (by omega) (c ++ [(j, s[j])]) (by simp; omega)
        rw [List.filter_cons_of_pos (by simpa using h3)]
        simp (disch := omega) [h3, h3']
        refine .trans (.pop _) (.goB 60 ?_)
        simp (disch := omega)
        refine .reLoop ?_
        simp
        refine .dropTo 7 rfl (by simp) (by simp) (by simp) ?_
        refine .resetUT (i := 3) rfl (by simp) (hv _) (by simp) ?_
        simp [hFac] at hh ⊢
        exact hh
      · have h3' : ¬ ((countF (j, s[j]) rows : Nat) : Int) = rows.length := by omega
        have hh := ih (j + 1) (by omega) c (by omega)
        rw [List.filter_cons_of_neg (by simpa using h3)]
        simp (disch := omega) [h3, h3']
        refine .trans (.pop _) (.goB 60 ?_)
        simp (disch := omega)
        refine .reLoop ?_
        simp
        refine .dropTo 7 rfl (by simp) (by simp) (by simp) ?_
        simp at hh ⊢
        exact hh
set_option maxRecDepth 8000 in
theorem p_factor1 (f n : Nat) (s : Bs) (r : List Bs) (hw : RowsOf n (s :: r))
    (ih : ∀ rows : List Bs, costF rows < costF (s :: r) → RowsOf n rows → ∀ k, Kd 1 k rows → PureCon Tryd.prog Γ n_cover_factor [.list false k (rows.map .str)] (.own 3 t_cover_Form_2 ((factorF f rows).map eFm))) : PureCon Tryd.prog Γ n_cover_factor [.list false 1 ((s :: r).map .str)] (.own 3 t_cover_Form_2 ((factorF (f + 1) (s :: r)).map eFm)) := by
  obtain ⟨b1, b2, b3⟩ := hw
  have hlen : ∀ t ∈ s :: r, t.length < 2 ^ 40 := fun t ht => by rw [b2 t ht]; omega
  have hC := fun (h : List Ob) => p_ContainsFunc_str (Γ := Γ) (fl := false) (k := 1) (a_free (s :: r) hlen) (.inl rfl) (by omega) (h := h) trivial
  rw [factorF]
  generalize hR : (if anyB freeF (s :: r) = true then _ else _ : List Fm) = R
  refine .run 100 c_cover_factor (by simp) ?_
  simp
  have q1 : ¬ (r.length : Int) + 1 = 0 := by omega
  simp [q1]
  simp at hC
  by_cases hf : anyB freeF (s :: r) = true
  · rw [if_pos hf] at hR
    subst hR
    first
      | (refine .rcall 4 (hC _) ?_; simp [hf]; refine .litRow 60 t_cover_Form_2 (es := [eFm ⟨1, 0, 0⟩]) (by simp) (by simp) ?_)
      | (refine .rcall 5 (hC _) ?_; simp [hf]; refine .litRow 60 t_cover_Form_2 (es := [eFm ⟨1, 0, 0⟩]) (by simp) (by simp) ?_)
      | (refine .rcall 6 (hC _) ?_; simp [hf]; refine .litRow 60 t_cover_Form_2 (es := [eFm ⟨1, 0, 0⟩]) (by simp) (by simp) ?_)
      | (refine .rcall 7 (hC _) ?_; simp [hf]; refine .litRow 60 t_cover_Form_2 (es := [eFm ⟨1, 0, 0⟩]) (by simp) (by simp) ?_)
      | (refine .rcall 8 (hC _) ?_; simp [hf]; refine .litRow 60 t_cover_Form_2 (es := [eFm ⟨1, 0, 0⟩]) (by simp) (by simp) ?_)
      | (refine .rcall 9 (hC _) ?_; simp [hf]; refine .litRow 60 t_cover_Form_2 (es := [eFm ⟨1, 0, 0⟩]) (by simp) (by simp) ?_)
      | (refine .rcall 10 (hC _) ?_; simp [hf]; refine .litRow 60 t_cover_Form_2 (es := [eFm ⟨1, 0, 0⟩]) (by simp) (by simp) ?_)
      | (refine .rcall 11 (hC _) ?_; simp [hf]; refine .litRow 60 t_cover_Form_2 (es := [eFm ⟨1, 0, 0⟩]) (by simp) (by simp) ?_)
    simp
    exact .back (by simp)
  · rw [if_neg hf] at hR
    refine .rcall 60 (hC _) ?_
    simp [hf]
    refine .rcall 60 (r_literals s) ?_
    simp
    refine .enter 60 c_cover_literals_1 ?_
    simp
    refine .inLoop ?_
    have hs1 := hlen s (by simp)
    have hcm := fun up hv => r_common (Γ := Γ) (s :: r) (by omega) s hlen hs1 up hv s.length 0 (by omega) [] (by simp)
    simp [hFac] at hcm
    refine .reach (hcm _ (by simp)) ?_
    have e1 : List.filter (fun x => decide (countF x (s :: r) = r.length + 1)) (litsF s 0) = commonF (s :: r) s := rfl
    rw [e1]
    have hsub : ∀ x ∈ commonF (s :: r) s, ∀ t ∈ s :: r, x.1 < t.length := fun x hx t ht => by
      have := litsF_mem.1 (common_mem hx t ht)
      exact (List.getElem?_eq_some_iff.1 this.2.1).1
    have hclen : (commonF (s :: r) s).length ≤ 40 := by
      have h1 : (commonF (s :: r) s).length ≤ (litsF s 0).length := List.length_filter_le _ _
      have h2 := litsF_le s 0
      have := b2 s (by simp)
      omega
    refine .go 60 ?_
    by_cases hc : commonF (s :: r) s ≠ []
    · rw [if_pos hc] at hR
      have hpos : 0 < (commonF (s :: r) s).length := List.length_pos_iff.2 hc
      have hcost := cost_common hc
      simp [hpos]
      have hdw : RowsOf n (divF (commonF (s :: r) s) (s :: r)) := ⟨by simpa [divF] using b1, fun t ht => by
        simp only [divF, List.mem_map] at ht
        obtain ⟨t0, h1, rfl⟩ := ht
        rw [cutL_len]; exact b2 _ h1, b3⟩
      have hdiv := p_divide (Γ := Γ) (s :: r) (commonF (s :: r) s) (.inl rfl : Kd 1 1 (s :: r)) (.inl rfl : Kd 2 2 _) (by omega) (by omega) fun t ht => ⟨hlen t ht, fun x hx => hsub x hx t ht⟩
      have hfac := ih _ (by omega) hdw 1 (.inl rfl)
      have hfl := factorF_len f (divF (commonF (s :: r) s) (s :: r))
      have hall := p_all (Γ := Γ) (commonF (s :: r) s) (.inl rfl : Kd 2 2 _) (by omega) (fun x hx => by have := hsub x hx s (by simp); omega) (factorF f (divF (commonF (s :: r) s) (s :: r))) (.inl rfl : Kd 3 3 _) (by have := hdw.cost; omega)
      generalize commonF (s :: r) s = c at *
      subst hR
      simp at hdiv
      refine .dr 60 ?_
      simp
      refine .call (by simp) hdiv ?_
      simp
      refine .call (by simp) hfac ?_
      simp
      refine .call (by simp) hall ?_
      simp
      exact .back (by simp)
    · rw [if_neg hc] at hR
      have hc0 : commonF (s :: r) s = [] := by simpa using hc
      have hmost := p_most (Γ := Γ) (s :: r) (.inl rfl : Kd 1 1 (s :: r)) (by omega) hlen s.length s rfl rfl
      simp at hmost
      simp [hc0]
      by_cases hm : (mostF (s :: r) s.length).2 < 2
      · rw [if_pos hm] at hR
        have hm' : (((mostF (s :: r) s.length).2 : Nat) : Int) < 2 := by omega
        subst hR
        first
          | (refine .call 14 (by simp) hmost ?_; simp [hm']; refine .litRow 60 t_cover_Form_2 (es := [eFm ⟨4, 0, (r.length : Int) + 1⟩]) (by simp) (by simp) ?_)
          | (refine .call 15 (by simp) hmost ?_; simp [hm']; refine .litRow 60 t_cover_Form_2 (es := [eFm ⟨4, 0, (r.length : Int) + 1⟩]) (by simp) (by simp) ?_)
          | (refine .call 16 (by simp) hmost ?_; simp [hm']; refine .litRow 60 t_cover_Form_2 (es := [eFm ⟨4, 0, (r.length : Int) + 1⟩]) (by simp) (by simp) ?_)
          | (refine .call 17 (by simp) hmost ?_; simp [hm']; refine .litRow 60 t_cover_Form_2 (es := [eFm ⟨4, 0, (r.length : Int) + 1⟩]) (by simp) (by simp) ?_)
          | (refine .call 18 (by simp) hmost ?_; simp [hm']; refine .litRow 60 t_cover_Form_2 (es := [eFm ⟨4, 0, (r.length : Int) + 1⟩]) (by simp) (by simp) ?_)
          | (refine .call 19 (by simp) hmost ?_; simp [hm']; refine .litRow 60 t_cover_Form_2 (es := [eFm ⟨4, 0, (r.length : Int) + 1⟩]) (by simp) (by simp) ?_)
          | (refine .call 20 (by simp) hmost ?_; simp [hm']; refine .litRow 60 t_cover_Form_2 (es := [eFm ⟨4, 0, (r.length : Int) + 1⟩]) (by simp) (by simp) ?_)
          | (refine .call 21 (by simp) hmost ?_; simp [hm']; refine .litRow 60 t_cover_Form_2 (es := [eFm ⟨4, 0, (r.length : Int) + 1⟩]) (by simp) (by simp) ?_)
          | (refine .call 22 (by simp) hmost ?_; simp [hm']; refine .litRow 60 t_cover_Form_2 (es := [eFm ⟨4, 0, (r.length : Int) + 1⟩]) (by simp) (by simp) ?_)
          | (refine .call 23 (by simp) hmost ?_; simp [hm']; refine .litRow 60 t_cover_Form_2 (es := [eFm ⟨4, 0, (r.length : Int) + 1⟩]) (by simp) (by simp) ?_)
          | (refine .call 24 (by simp) hmost ?_; simp [hm']; refine .litRow 60 t_cover_Form_2 (es := [eFm ⟨4, 0, (r.length : Int) + 1⟩]) (by simp) (by simp) ?_)
          | (refine .call 25 (by simp) hmost ?_; simp [hm']; refine .litRow 60 t_cover_Form_2 (es := [eFm ⟨4, 0, (r.length : Int) + 1⟩]) (by simp) (by simp) ?_)
        simp
        refine .inLoop ?_
        have hor := f_or (Γ := Γ) (s :: r) b1 (fun t ht => by rw [b2 t ht]; exact b3) (h8 := [.cells [.list false 1 ((s :: r).map .str)], .row 3 t_cover_Form_2 [] none true false, .cells [.sl 3 0 0], .row 2 t_cover_literal_2 [] none true false, .cells [.str s], .dfr true,
          .loop .exhausted .none n_cover_factor tFac [31] (.reg cover_factor_p20) cover_factor_p24, .cells (eLi (mostF (s :: r) s.length).1).cells]) rfl rfl (fun m hm => by simp; omega) (fun i m hi => by simp; omega) (s :: r).length 0 (by omega) [⟨4, 0, (s :: r).length⟩] (by simp)
        simp [orF] at hor ⊢
        exact hor
      · rw [if_neg hm] at hR
        have hm' : ¬ (((mostF (s :: r) s.length).2 : Nat) : Int) < 2 := by omega
        refine .call 60 (by simp) hmost ?_
        simp [hm']
        refine .rcall 60 (r_has _) ?_
        simp
        have hxr : ∀ t ∈ s :: r, (mostF (s :: r) s.length).1.1 < t.length := fun t ht => by
          have h0 := mostF_ok (s :: r) s.length (by omega)
          have h1 := countF_keep (mostF (s :: r) s.length).1 (s :: r)
          obtain ⟨t0, h2⟩ := List.exists_mem_of_length_pos (l := keepF (fun t => !hasF (mostF (s :: r) s.length).1 t) (s :: r)) (by omega)
          have h3 := keep_has h2
          have h4 := (List.getElem?_eq_some_iff.1 (litsF_mem.1 h3.2).2.1).1
          rw [b2 t ht, ← b2 t0 h3.1]; omega
        have hcm2 := cost_most hm
        have hfl0 := factorF_len f (divF [(mostF (s :: r) s.length).1] (keepF (fun t => !hasF (mostF (s :: r) s.length).1 t) (s :: r)))
        have hfl1 := factorF_len f (keepF (hasF (mostF (s :: r) s.length).1) (s :: r))
        have hcst := RowsOf.cost ⟨b1, b2, b3⟩
        have hw1 : RowsOf n (divF [(mostF (s :: r) s.length).1] (keepF (fun t => !hasF (mostF (s :: r) s.length).1 t) (s :: r))) := ⟨by
          have : (keepF (fun t => !hasF (mostF (s :: r) s.length).1 t) (s :: r)).length ≤ (s :: r).length := List.length_filter_le _ _
          simp only [divF, List.length_map]; omega, fun t ht => by
          simp only [divF, List.mem_map] at ht
          obtain ⟨t0, h1, rfl⟩ := ht
          rw [cutL_len]; exact b2 _ (keep_has h1).1, b3⟩
        have hw2 : RowsOf n (keepF (hasF (mostF (s :: r) s.length).1) (s :: r)) := ⟨by
          have : (keepF (hasF (mostF (s :: r) s.length).1) (s :: r)).length ≤ (s :: r).length := List.length_filter_le _ _
          omega, fun t ht => b2 t (List.mem_filter.1 ht).1, b3⟩
        have htwo := f_two (Γ := Γ) (s :: r) (by simp) b1 hlen s (mostF (s :: r) s.length).1 (by have := hxr s (by simp); omega) hxr tFac (fun m hm => by simp; omega) _ _ (by omega) (by omega) (ih _ (by omega) hw1 1 (.inl rfl)) (ih _ (by omega) hw2 1 (.inl rfl))
        subst hR
        refine .clrs [0,2,3,4,7,15,16,17,18,21,22,23,24,27,28,29,30,42,43,44,51,52,53,54,55,56,57,76,77,78] ?_
        simp [clrT]
        simp [twoF] at htwo ⊢
        exact htwo
end Go.Proofs.YtpjpaojjagffoaaDoor
/- Is a text among others: the library's Contains. -/
namespace Go.Proofs.YtpjpaojjagffoaaDoor
open Go.AM Go.Proofs
variable {Γ : Nat → Option AV}
set_option linter.unusedSimpArgs false
set_option linter.unusedVariables false

def idxS (s : List UInt8) : List (List UInt8) → Nat → Int
  | [], _ => -1
  | a :: l, i => if s = a then (i : Int) else idxS s l (i + 1)
theorem idxS_has (s : List UInt8) : ∀ (l : List (List UInt8)) (i : Nat), decide (0 ≤ idxS s l i) = l.contains s
  | [], i => by simp [idxS]
  | a :: l, i => by
    rw [idxS, List.contains_cons]
    by_cases h : s = a
    · rw [if_pos h]; simp [h]
    · rw [if_neg h, idxS_has s l (i + 1)]
      have : (s == a) = false := by simpa using h
      rw [this]; rfl
theorem p_IndexS (l : List (List UInt8)) (s : List UInt8) {k : Nat} (hk : Kd 1 k l) (hl : l.length < 2 ^ 40) : PureCon Tryd.prog Γ n_slices_Index_string_string [.list false k (l.map .str), .str s] (.int .i64 (idxS s l 0)) := by
  have key : ∀ n i : Nat, i + n = l.length → Fins Tryd.prog Γ (slices_Index_string_string_L1 (.list false k (l.map .str)) (.str s) (.int .i64 l.length) (.int .i64 i) []) (.ret (.int .i64 (idxS s (l.drop i) i))) := by
    intro n
    induction n with
    | zero =>
      intro i hi
      have q1 : ¬ i < l.length := by omega
      rw [List.drop_eq_nil_of_le (by omega), idxS]
      refine .go 60 ?_
      simp [q1]
      exact .back (by simp)
    | succ n ih =>
      intro i hi
      have q1 : i < l.length := by omega
      have q2 := eq_true (hk.of q1)
      have hh := ih (i + 1) (by omega)
      rw [List.drop_eq_getElem_cons q1, idxS]
      refine .go 60 ?_
      by_cases h : s = l[i]
      · simp [q1, q2, h]
        exact .back (by simp)
      · simp (disch := omega) [q1, q2, h]
        refine .reLoop ?_
        simp at hh ⊢
        exact hh
  refine .run 60 c_slices_Index_string_string (by simp) ?_
  simp
  refine .inLoop ?_
  have hh := key l.length 0 (by omega)
  simp at hh ⊢
  exact hh
theorem p_ContainsS (l : List (List UInt8)) (s : List UInt8) {k : Nat} (hk : Kd 1 k l) (hl : l.length < 2 ^ 40) : PureCon Tryd.prog Γ n_slices_Contains_string_string [.list false k (l.map .str), .str s] (.bool (l.contains s)) := by
  refine .run 60 c_slices_Contains_string_string (by simp) ?_
  simp
  refine .call 60 (by simp) (p_IndexS l s hk hl) ?_
  have e := idxS_has s l 0
  simp [e]
  exact .back (by simp)
end Go.Proofs.YtpjpaojjagffoaaDoor
/- Factors of rows. -/
namespace Go.Proofs.YtpjpaojjagffoaaDoor
open Go.AM Go.Proofs
variable {Γ : Nat → Option AV}
set_option linter.unusedSimpArgs false
set_option linter.unusedVariables false

theorem p_factor (n : Nat) : ∀ (f : Nat) (rows : List Bs), costF rows < f → RowsOf n rows → ∀ k, Kd 1 k rows → PureCon Tryd.prog Γ n_cover_factor [.list false k (rows.map .str)] (.own 3 t_cover_Form_2 ((factorF f rows).map eFm))
  | 0, rows, hc, _, _, _ => by omega
  | f + 1, [], hc, hw, k, hk => by
    first
      | (refine .run 12 c_cover_factor (by simp) ?_; simp; refine .litRow 60 t_cover_Form_2 (es := [eFm ⟨0, 0, 0⟩]) (by simp) (by simp) ?_)
      | (refine .run 13 c_cover_factor (by simp) ?_; simp; refine .litRow 60 t_cover_Form_2 (es := [eFm ⟨0, 0, 0⟩]) (by simp) (by simp) ?_)
      | (refine .run 14 c_cover_factor (by simp) ?_; simp; refine .litRow 60 t_cover_Form_2 (es := [eFm ⟨0, 0, 0⟩]) (by simp) (by simp) ?_)
      | (refine .run 15 c_cover_factor (by simp) ?_; simp; refine .litRow 60 t_cover_Form_2 (es := [eFm ⟨0, 0, 0⟩]) (by simp) (by simp) ?_)
      | (refine .run 16 c_cover_factor (by simp) ?_; simp; refine .litRow 60 t_cover_Form_2 (es := [eFm ⟨0, 0, 0⟩]) (by simp) (by simp) ?_)
      | (refine .run 17 c_cover_factor (by simp) ?_; simp; refine .litRow 60 t_cover_Form_2 (es := [eFm ⟨0, 0, 0⟩]) (by simp) (by simp) ?_)
      | (refine .run 18 c_cover_factor (by simp) ?_; simp; refine .litRow 60 t_cover_Form_2 (es := [eFm ⟨0, 0, 0⟩]) (by simp) (by simp) ?_)
      | (refine .run 19 c_cover_factor (by simp) ?_; simp; refine .litRow 60 t_cover_Form_2 (es := [eFm ⟨0, 0, 0⟩]) (by simp) (by simp) ?_)
      | (refine .run 20 c_cover_factor (by simp) ?_; simp; refine .litRow 60 t_cover_Form_2 (es := [eFm ⟨0, 0, 0⟩]) (by simp) (by simp) ?_)
      | (refine .run 21 c_cover_factor (by simp) ?_; simp; refine .litRow 60 t_cover_Form_2 (es := [eFm ⟨0, 0, 0⟩]) (by simp) (by simp) ?_)
      | (refine .run 22 c_cover_factor (by simp) ?_; simp; refine .litRow 60 t_cover_Form_2 (es := [eFm ⟨0, 0, 0⟩]) (by simp) (by simp) ?_)
      | (refine .run 23 c_cover_factor (by simp) ?_; simp; refine .litRow 60 t_cover_Form_2 (es := [eFm ⟨0, 0, 0⟩]) (by simp) (by simp) ?_)
      | (refine .run 24 c_cover_factor (by simp) ?_; simp; refine .litRow 60 t_cover_Form_2 (es := [eFm ⟨0, 0, 0⟩]) (by simp) (by simp) ?_)
      | (refine .run 25 c_cover_factor (by simp) ?_; simp; refine .litRow 60 t_cover_Form_2 (es := [eFm ⟨0, 0, 0⟩]) (by simp) (by simp) ?_)
      | (refine .run 26 c_cover_factor (by simp) ?_; simp; refine .litRow 60 t_cover_Form_2 (es := [eFm ⟨0, 0, 0⟩]) (by simp) (by simp) ?_)
      | (refine .run 27 c_cover_factor (by simp) ?_; simp; refine .litRow 60 t_cover_Form_2 (es := [eFm ⟨0, 0, 0⟩]) (by simp) (by simp) ?_)
      | (refine .run 28 c_cover_factor (by simp) ?_; simp; refine .litRow 60 t_cover_Form_2 (es := [eFm ⟨0, 0, 0⟩]) (by simp) (by simp) ?_)
      | (refine .run 29 c_cover_factor (by simp) ?_; simp; refine .litRow 60 t_cover_Form_2 (es := [eFm ⟨0, 0, 0⟩]) (by simp) (by simp) ?_)
      | (refine .run 30 c_cover_factor (by simp) ?_; simp; refine .litRow 60 t_cover_Form_2 (es := [eFm ⟨0, 0, 0⟩]) (by simp) (by simp) ?_)
      | (refine .run 31 c_cover_factor (by simp) ?_; simp; refine .litRow 60 t_cover_Form_2 (es := [eFm ⟨0, 0, 0⟩]) (by simp) (by simp) ?_)
      | (refine .run 32 c_cover_factor (by simp) ?_; simp; refine .litRow 60 t_cover_Form_2 (es := [eFm ⟨0, 0, 0⟩]) (by simp) (by simp) ?_)
      | (refine .run 33 c_cover_factor (by simp) ?_; simp; refine .litRow 60 t_cover_Form_2 (es := [eFm ⟨0, 0, 0⟩]) (by simp) (by simp) ?_)
    simp
    exact .back (by simp [factorF])
  | f + 1, s :: r, hc, hw, k, hk => by
    obtain rfl : k = 1 := hk.of (i := 0) (by simp)
    exact p_factor1 f n s r hw fun rows h1 h2 k hk => p_factor n f rows (by omega) h2 k hk

/-- Rows that differ. -/
def uniqF : List Bs → List Bs → List Bs
  | a, [] => a
  | a, s :: r => uniqF (if a.contains s = true then a else a ++ [s]) r
def wrongF (n : Int) (rows : List Bs) : Bool := decide (n < 0) || (decide (8 < n) || (decide (128 < rows.length) || anyB (fun s => !rowB n.toNat s) rows))
def facF (rows : List Bs) (n : Int) : List Fm := if wrongF n rows = true then [] else factorF (costF (uniqF [] rows) + 1) (uniqF [] rows)
def facE (rows : List Bs) (n : Int) : Int := if wrongF n rows = true then 1 else 0
theorem uniqF_len : ∀ (r a : List Bs), (uniqF a r).length ≤ a.length + r.length
  | [], a => by simp [uniqF]
  | s :: r, a => by
    rw [uniqF]
    have := uniqF_len r (if a.contains s = true then a else a ++ [s])
    have h2 : (if a.contains s = true then a else a ++ [s]).length ≤ a.length + 1 := by split <;> simp
    simp only [List.length_cons]; omega
theorem uniqF_mem {t : Bs} : ∀ (r a : List Bs), t ∈ uniqF a r ↔ t ∈ a ∨ t ∈ r
  | [], a => by simp [uniqF]
  | s :: r, a => by
    rw [uniqF, uniqF_mem r]
    by_cases h : a.contains s = true
    · rw [if_pos h]
      have h' : s ∈ a := by simpa using h
      simp only [List.mem_cons]
      constructor
      · rintro (h1 | h1)
        · exact .inl h1
        · exact .inr (.inr h1)
      · rintro (h1 | h1 | h1)
        · exact .inl h1
        · subst h1; exact .inl h'
        · exact .inr h1
    · rw [if_neg h]
      simp only [List.mem_append, List.mem_singleton, List.mem_cons, or_assoc, List.not_mem_nil, false_or]

theorem a_wrong (l : List Bs) (n : Nat) (i : Nat) (hn : n ≤ 8) : Asks Tryd.prog Γ (fun h => h[i]? = some (.cells [.int .i64 n])) n_cover_Factor_1 [.ptr i 0] AV.str (fun s => !rowB n s) l := by
  refine ⟨by simp, fun s hm up h hφ => ?_⟩
  have h2 : decide (Lib.trimS s [48, 49, 45] = []) = s.all sgnC := by
    rw [Bool.eq_iff_iff, decide_eq_true_iff]; exact trim_nil s
  refine .enterB 60 c_cover_Factor_1 ?_
  unfold rowB
  by_cases h : s.length = n
  · have h' : (s.length : Int) = n := by omega
    have hT := p_Trim (Γ := Γ) s (by omega)
    unfold sgn at hT
    simp [hφ, h, h']
    refine .callB 60 (by simp) hT ?_
    simp [h2]
  · have h' : ¬ (s.length : Int) = n := by omega
    simp [hφ, h, h']
theorem p_Factor (rows : List Bs) (n : Int) {k : Nat} (hk : Kd 1 k rows) : PureCon Tryd.prog Γ n_cover_Factor [.list false k (rows.map .str), .int .i64 n] (.tup [.own 3 t_cover_Form_2 ((facF rows n).map eFm), .int .i64 (facE rows n)]) := by
  have key : ∀ m i : Nat, i + m = rows.length → rows.length ≤ 128 → (∀ t ∈ rows, t.length = n.toNat) → n.toNat ≤ 40 → ∀ a : List Bs, a.length ≤ i → uniqF a (rows.drop i) = uniqF [] rows → Fins Tryd.prog Γ (cover_Factor_L1 (.sl 2 0 a.length) (.list false k (rows.map .str)) (.int .i64 rows.length) (.int .i64 i) [.cells [.int .i64 n], .row 3 t_cover_Form_2 [] none true false, .row 1 t_string (a.map .str) none true false])
      (.ret (.tup [.own 3 t_cover_Form_2 ((factorF (costF (uniqF [] rows) + 1) (uniqF [] rows)).map eFm), .int .i64 0])) := by
    intro m
    induction m with
    | zero =>
      intro i hi hl2 hs2 hn a ha hu
      have q1 : ¬ i < rows.length := by omega
      rw [List.drop_eq_nil_of_le (by omega), uniqF] at hu
      have hw : RowsOf n.toNat a := ⟨by omega, fun t ht => by
        rw [hu] at ht
        exact hs2 t (by simpa using (uniqF_mem rows []).1 ht), hn⟩
      have hf := p_factor (Γ := Γ) n.toNat (costF a + 1) a (by omega) hw 1 (.inl rfl)
      rw [← hu]
      refine .go 60 ?_
      simp [q1]
      refine .call 60 (by simp) hf ?_
      simp
      exact .back (by simp)
    | succ m ih =>
      intro i hi hl2 hs2 hn a ha hu
      have q1 : i < rows.length := by omega
      have q2 := eq_true (hk.of q1)
      have hc := p_ContainsS (Γ := Γ) a rows[i] (.inl rfl : Kd 1 1 a) (by omega)
      rw [List.drop_eq_getElem_cons q1, uniqF] at hu
      refine .go 60 ?_
      simp (disch := omega) [q1, q2]
      refine .call 60 (by simp) hc ?_
      by_cases h : a.contains rows[i] = true
      · rw [if_pos h] at hu
        have hh := ih (i + 1) (by omega) hl2 hs2 hn a (by omega) hu
        have h' : rows[i] ∈ a := by simpa using h
        simp (disch := omega) [h']
        refine .reLoop ?_
        simp [q2] at hh ⊢
        exact hh
      · rw [if_neg h] at hu
        have hh := ih (i + 1) (by omega) hl2 hs2 hn (a ++ [rows[i]]) (by simp; omega) hu
        have h' : ¬ rows[i] ∈ a := by simpa using h
        simp (disch := omega) [h']
        refine .reLoop ?_
        simp
        refine .drop 3 rfl (by simp) (by simp) (by simp) ?_
        refine .reset (i := 2) rfl (by simp) (by simp) (by simp) ?_
        simp [q2] at hh ⊢
        exact hh
  refine .run 100 c_cover_Factor (by simp) ?_
  unfold facF facE wrongF
  by_cases h1 : n < 0
  · simp [h1]
    exact .back (by simp)
  · obtain ⟨m, rfl⟩ := Int.eq_ofNat_of_zero_le (show 0 ≤ n by omega)
    by_cases h2 : (8 : Int) < m
    · simp [h2]
      exact .back (by simp)
    · by_cases h3 : 128 < rows.length
      · have h3' : (128 : Int) < rows.length := by omega
        simp [h2, h3, h3']
        exact .back (by simp)
      · have h3' : ¬ (128 : Int) < rows.length := by omega
        have hC := fun (h : List Ob) hφ => p_ContainsFunc_str (Γ := Γ) (fl := false) (a_wrong rows m 0 (by omega)) hk (by omega) (h := h) hφ
        simp [h2, h3, h3']
        refine .rcall 60 (hC _ rfl) ?_
        cases hb : anyB (fun s => !rowB m s) rows with
        | true =>
          simp [hb]
          exact .back (by simp)
        | false =>
          have hh := key rows.length 0 (by omega) (by omega) (fun t ht => by
            have := anyB_no.1 hb t ht
            simp only [Bool.not_eq_false', rowB, Bool.and_eq_true, decide_eq_true_eq] at this
            simpa using this.2) (by simp; omega) [] (by simp) rfl
          simp [hb]
          refine .inLoop ?_
          simp at hh ⊢
          exact hh
theorem p_Count1 (s : Bs) : PureCon Tryd.prog Γ n_strings_Count [.str s, .str [45]] (.int .i64 (s.count 45 : Nat)) := by
  refine PureCon.lib (by simp) (fun _ => rfl) rfl fun N g h w us _ hV => ?_
  obtain ⟨us, rfl, h1⟩ := VL_str hV
  obtain ⟨us, rfl, h2⟩ := VL_str h1
  obtain rfl := VL_nil' h2
  refine (Tryd.strings_Count_one ⟨s.toArray⟩ 45 w).mono ?_
  rintro e' w' ⟨rfl, rfl⟩
  exact ⟨⟨_, rfl, fun _ _ => by simp [V, Lib.countByte]⟩, rfl⟩
theorem count_lits (s : Bs) : ∀ i, s.count 45 + (litsF s i).length = s.length := by
  induction s with
  | nil => intro i; rfl
  | cons c s ih =>
    intro i
    rw [litsF, List.count_cons]
    have := ih (i + 1)
    by_cases h : c = 45
    · subst h; simp only [if_true, BEq.rfl, List.length_cons]; omega
    · have h2 : ¬ (c == 45) = true := by simpa using h
      rw [if_neg h, if_neg h2, List.length_cons, List.length_cons]; omega
theorem p_Cost (rows : List Bs) {k : Nat} (hk : Kd 1 k rows) (hl : rows.length < 2 ^ 20) (hs : ∀ s ∈ rows, s.length < 2 ^ 20) : PureCon Tryd.prog Γ n_cover_Cost [.list false k (rows.map .str)] (.int .i64 (costF rows)) := by
  have key : ∀ n i : Nat, i + n = rows.length → ∀ a : Nat, a ≤ 2 ^ 20 * i → Fins Tryd.prog Γ (cover_Cost_L1 (.int .i64 a) (.list false k (rows.map .str)) (.int .i64 rows.length) (.int .i64 i) []) (.ret (.int .i64 (a + costF (rows.drop i) : Nat))) := by
    intro n
    induction n with
    | zero =>
      intro i hi a ha
      have q1 : ¬ i < rows.length := by omega
      rw [List.drop_eq_nil_of_le (by omega), costF]
      refine .go 60 ?_
      simp [q1]
      exact .back (by simp)
    | succ n ih =>
      intro i hi a ha
      have q1 : i < rows.length := by omega
      have q2 := eq_true (hk.of q1)
      have q3 := hs _ (List.getElem_mem q1)
      have hc := p_Count1 (Γ := Γ) rows[i]
      have e := count_lits rows[i] 0
      have hle := litsF_le rows[i] 0
      have hh := ih (i + 1) (by omega) (a + (litsF rows[i] 0).length) (by omega)
      have e2 : ((rows[i].length : Int) - (rows[i].count 45 : Nat)) = ((litsF rows[i] 0).length : Nat) := by omega
      have hw1 : IntKind.i64.wrap ((rows[i].length : Int) - (rows[i].count 45 : Nat)) = ((litsF rows[i] 0).length : Nat) := by rw [e2]; exact wrap64 (by omega) (by omega)
      have hw2 : IntKind.i64.wrap ((a : Int) + ((litsF rows[i] 0).length : Nat)) = a + ((litsF rows[i] 0).length : Nat) := wrap64 (by omega) (by omega)
      rw [List.drop_eq_getElem_cons q1, costF]
      refine .go 60 ?_
      simp (disch := omega) [q1, q2]
      refine .call 60 (by simp) hc ?_
      simp (disch := omega) [hw1, hw2]
      refine .reLoop ?_
      simp
      refine .drop 0 rfl (by simp) (by simp) (by simp) ?_
      simp [q2, ← Int.add_assoc] at hh ⊢
      exact hh
  refine .run 60 c_cover_Cost (by simp) ?_
  simp
  refine .inLoop ?_
  have hh := key rows.length 0 (by omega) 0 (by omega)
  simp at hh ⊢
  exact hh
end Go.Proofs.YtpjpaojjagffoaaDoor
/- Factors: plain laws: a factor is a form; what it comes to; how many literals. -/
namespace Go.Proofs.YtpjpaojjagffoaaDoor
open Go.AM Go.Proofs
set_option linter.unusedSimpArgs false
set_option linter.unusedVariables false

section
variable {n : Int} {val : Int → Bool}
/-- A form that comes to a value. -/
def Rds (n : Int) (val : Int → Bool) (l : List Fm) (v : Bool) : Prop := ∀ rest fuel, (l ++ rest).length ≤ fuel → readF n val fuel (l ++ rest) = some (v, rest)
theorem Rds.pos {l : List Fm} {v : Bool} (h : Rds n val l v) : 0 < l.length := by
  cases l with
  | nil =>
    have := h [] 0 (by simp)
    cases this
  | cons _ _ => simp
theorem rds_lit {x : Li} (h : (x.1 : Int) < n) : Rds n val [nodeF x] (val (nodeF x).lit) := by
  intro rest fuel hf
  cases fuel with
  | zero => simp at hf
  | succ fuel =>
    have hok : okN n (nodeF x) = true := by
      unfold okN nodeF
      by_cases hx : x.2 = 48
      · simp [hx]; omega
      · simp [hx]; omega
    have hk : (nodeF x).kind = 2 := rfl
    simp [readF, hok, hk]
theorem rds_no : Rds n val [⟨0, 0, 0⟩] false := by
  intro rest fuel hf
  cases fuel with
  | zero => simp at hf
  | succ fuel => simp [readF, okN, kidsF]
theorem rds_yes : Rds n val [⟨1, 0, 0⟩] true := by
  intro rest fuel hf
  cases fuel with
  | zero => simp at hf
  | succ fuel => simp [readF, okN, kidsF]
/-- Kids and their values. -/
def foldK (a : Bool) : List (List Fm × Bool) → Bool → Bool
  | [], v => v
  | k :: ks, v => foldK a ks (if a then k.2 && v else k.2 || v)
theorem foldK_and : ∀ (ks : List (List Fm × Bool)) (v : Bool), foldK true ks v = (v && ks.all (·.2))
  | [], v => by simp [foldK]
  | k :: ks, v => by
    show foldK true ks (k.2 && v) = _
    rw [foldK_and ks, List.all_cons, Bool.and_comm k.2 v, Bool.and_assoc]
theorem foldK_or : ∀ (ks : List (List Fm × Bool)) (v : Bool), foldK false ks v = (v || ks.any (·.2))
  | [], v => by simp [foldK]
  | k :: ks, v => by
    show foldK false ks (k.2 || v) = _
    rw [foldK_or ks, List.any_cons, Bool.or_comm k.2 v, Bool.or_assoc]
theorem kids_rds (a : Bool) (fuel : Nat) : ∀ (ks : List (List Fm × Bool)) (v : Bool) (rest : List Fm), (∀ k ∈ ks, Rds n val k.1 k.2) → (ks.flatMap (·.1) ++ rest).length ≤ fuel → kidsF (readF n val fuel) a ks.length v (ks.flatMap (·.1) ++ rest) = some (foldK a ks v, rest)
  | [], v, rest, _, _ => by simp [kidsF, foldK]
  | k :: ks, v, rest, h, hf => by
    simp only [List.flatMap_cons, List.append_assoc, List.length_append] at hf
    have h1 := h k (by simp) (ks.flatMap (·.1) ++ rest) fuel (by simp only [List.length_append]; omega)
    simp only [List.length_cons, kidsF, List.flatMap_cons, List.append_assoc, h1, foldK]
    exact kids_rds a fuel ks _ rest (fun k' hk' => h k' (by simp [hk'])) (by simp only [List.length_append]; omega)
theorem rds_node (kd : Int) (hkd : kd = 3 ∨ kd = 4) (ks : List (List Fm × Bool)) (h2 : 2 ≤ ks.length) (h : ∀ k ∈ ks, Rds n val k.1 k.2) : Rds n val (⟨kd, 0, ks.length⟩ :: ks.flatMap (·.1)) (foldK (decide (kd = 3)) ks (decide (kd = 3))) := by
  intro rest fuel hf
  cases fuel with
  | zero => simp at hf
  | succ fuel =>
    have hok : okN n ⟨kd, 0, ks.length⟩ = true := by
      unfold okN
      rw [if_neg (by simp only; omega), if_pos hkd]
      simp; omega
    have h3 : ¬ kd = 2 := by omega
    have h4 : ¬ kd = 1 := by omega
    have hk := kids_rds (n := n) (val := val) (decide (kd = 3)) fuel ks (decide (kd = 3)) rest h (by simp at hf ⊢; omega)
    simp only [List.cons_append, readF, hok, if_true, h3, if_false, Int.toNat_natCast, h4, decide_false, Bool.false_or]
    exact hk
theorem rds_truth {r : List Fm} {v : Bool} (h : Rds n val r v) (ht : truthF r = true) : v = true := by
  match r, ht with
  | [f], ht =>
    have hk : f.kind = 1 := by simpa [truthF] using ht
    have h1 := h [] 1 (by simp)
    simp only [List.append_nil, readF] at h1
    split at h1
    · rename_i hok
      have h0 : f.kids = 0 := by
        simp only [okN, hk] at hok
        simp at hok
        exact hok.2
      simp [hk, h0, kidsF] at h1
      exact h1
    · cases h1
/-- An and of literals and of a form that comes to a value. -/
theorem rds_all (l : List Li) (hl : ∀ x ∈ l, (x.1 : Int) < n) (h0 : l ≠ []) (r : List Fm) (v : Bool) (hr : r = [] ∧ v = true ∨ Rds n val r v) : Rds n val (allF l r) ((l.all fun x => val (nodeF x).lit) && v) := by
  have hlm : ∀ l : List Li, (l.map fun x => ([nodeF x], val (nodeF x).lit)).flatMap (·.1) = l.map nodeF := fun l => by
    induction l with
    | nil => rfl
    | cons x l ih => simp only [List.map_cons, List.flatMap_cons, ih]; rfl
  have hl1 : 0 < l.length := List.length_pos_iff.2 h0
  have hrest : (restF r = [] ∧ v = true) ∨ (restF r = r ∧ 0 < r.length ∧ Rds n val r v) := by
    rcases hr with ⟨rfl, rfl⟩ | hr
    · left; exact ⟨rfl, rfl⟩
    · by_cases ht : truthF r = true
      · left; exact ⟨by rw [restF, if_pos ht], rds_truth hr ht⟩
      · right; exact ⟨by rw [restF, if_neg ht], hr.pos, hr⟩
  unfold allF
  rcases hrest with ⟨e, rfl⟩ | ⟨e, hp, hr⟩
  · rw [e, Bool.and_true]
    simp only [List.length_nil, Nat.zero_min, Nat.add_zero, List.append_nil]
    by_cases h1 : 1 < l.length
    · have hh := rds_node (n := n) (val := val) 3 (.inl rfl) (l.map fun x => ([nodeF x], val (nodeF x).lit)) (by simp; omega) fun k hk => by
        obtain ⟨x, h2, rfl⟩ := List.mem_map.1 hk
        exact rds_lit (hl x h2)
      rw [hlm, show decide ((3 : Int) = 3) = true from rfl, foldK_and] at hh
      simp only [headF, if_pos h1]
      simpa [Function.comp_def] using hh
    · obtain ⟨x, rfl⟩ : ∃ x, l = [x] := by
        match l, hl1, h1 with
        | [x], _, _ => exact ⟨x, rfl⟩
        | x :: y :: l, _, h1 => simp at h1
      have hh := rds_lit (val := val) (hl x (by simp))
      simpa [headF] using hh
  · rw [e]
    have hm : min r.length 1 = 1 := by omega
    rw [hm]
    have h1 : 1 < l.length + 1 := by omega
    have hh := rds_node (n := n) (val := val) 3 (.inl rfl) ((l.map fun x => ([nodeF x], val (nodeF x).lit)) ++ [(r, v)]) (by simp; omega) fun k hk => by
      simp only [List.mem_append, List.mem_singleton] at hk
      rcases hk with hk | rfl
      · obtain ⟨x, h2, rfl⟩ := List.mem_map.1 hk
        exact rds_lit (hl x h2)
      · exact hr
    rw [List.flatMap_append, hlm, show decide ((3 : Int) = 3) = true from rfl, foldK_and] at hh
    simp only [headF, if_pos h1]
    simpa [Function.comp_def] using hh
end

/-- A row fits. -/
def fitsF (val : Int → Bool) (s : Bs) : Bool := (litsF s 0).all fun x => val (nodeF x).lit
theorem fits_cut (val : Int → Bool) : ∀ (l : List Li) (s : Bs), l.Pairwise (fun a b => a.1 ≠ b.1) → (∀ x ∈ l, x ∈ litsF s 0) → ((l.all fun x => val (nodeF x).lit) && fitsF val (cutL l s)) = fitsF val s := by
  intro l s hp hm
  have h1 : ∀ y : Li, y ∈ litsF (cutL l s) 0 ↔ y ∈ litsF s 0 ∧ ∀ x ∈ l, x.1 ≠ y.1 := by
    clear hp hm
    induction l generalizing s with
    | nil => intro y; simp [cutL]
    | cons x l ih =>
      intro y
      have e : cutL (x :: l) s = cutL l (s.set x.1 45) := rfl
      rw [e, ih]
      simp only [List.mem_cons, forall_eq_or_imp, litsF_mem, Nat.sub_zero]
      constructor
      · rintro ⟨⟨_, h2, h3⟩, h4⟩
        by_cases h5 : x.1 = y.1
        · rw [h5] at h2
          by_cases h6 : y.1 < s.length
          · rw [List.getElem?_set_self h6] at h2
            exact absurd (Option.some.inj h2).symm h3
          · rw [List.getElem?_eq_none (by simp; omega)] at h2; cases h2
        · rw [List.getElem?_set_ne h5] at h2
          exact ⟨⟨by omega, h2, h3⟩, h5, h4⟩
      · rintro ⟨⟨_, h2, h3⟩, h5, h4⟩
        exact ⟨⟨by omega, by rw [List.getElem?_set_ne h5]; exact h2, h3⟩, h4⟩
  rw [Bool.eq_iff_iff]
  simp only [fitsF, Bool.and_eq_true, List.all_eq_true, h1]
  constructor
  · rintro ⟨h2, h3⟩ y hy
    by_cases h4 : ∀ x ∈ l, x.1 ≠ y.1
    · exact h3 y ⟨hy, h4⟩
    · have h4 : ∃ x, x ∈ l ∧ x.1 = y.1 := by
        refine Decidable.byContradiction fun hn => h4 fun x hx he => hn ⟨x, hx, he⟩
      obtain ⟨x, hx, he⟩ := h4
      have h5 := litsF_mem.1 (hm x hx)
      have h6 := litsF_mem.1 hy
      rw [he] at h5
      have h7 : x.2 = y.2 := Option.some.inj (h5.2.1.symm.trans h6.2.1)
      have h8 : x = y := Prod.ext he h7
      rw [← h8]; exact h2 x hx
  · intro h2
    exact ⟨fun x hx => h2 x (hm x hx), fun y hy => h2 y hy.1⟩
theorem fits_div (val : Int → Bool) (l : List Li) (hp : l.Pairwise (fun a b => a.1 ≠ b.1)) : ∀ rows : List Bs, (∀ s ∈ rows, ∀ x ∈ l, x ∈ litsF s 0) → ((l.all fun x => val (nodeF x).lit) && anyB (fitsF val) (divF l rows)) = anyB (fitsF val) rows
  | [], _ => by simp [divF]
  | s :: r, h => by
    have h1 := fits_cut val l s hp (h s (by simp))
    have h2 := fits_div val l hp r fun t ht => h t (by simp [ht])
    have e : divF l (s :: r) = cutL l s :: divF l r := rfl
    rw [e, anyB_cons, anyB_cons, ← h1, ← h2]
    cases (l.all fun x => val (nodeF x).lit) <;> simp
theorem fits_keep (val : Int → Bool) (p : Bs → Bool) : ∀ rows : List Bs, (anyB (fitsF val) (keepF (fun t => !p t) rows) || anyB (fitsF val) (keepF p rows)) = anyB (fitsF val) rows
  | [] => rfl
  | s :: r => by
    have ih := fits_keep val p r
    rw [anyB_cons, ← ih]
    cases h : p s
    · have e1 : keepF (fun t => !p t) (s :: r) = keepF (fun t => !p t) r := by simp [keepF, h]
      have e2 : keepF p (s :: r) = s :: keepF p r := by simp [keepF, h]
      rw [e1, e2, anyB_cons]
      cases fitsF val s <;> simp
    · have e1 : keepF (fun t => !p t) (s :: r) = s :: keepF (fun t => !p t) r := by simp [keepF, h]
      have e2 : keepF p (s :: r) = keepF p r := by simp [keepF, h]
      rw [e1, e2, anyB_cons]
      cases fitsF val s <;> simp
theorem fits_free (val : Int → Bool) {rows : List Bs} (h : anyB freeF rows = true) : anyB (fitsF val) rows = true := by
  obtain ⟨s, h1, h2⟩ := anyB_yes.1 h
  exact anyB_yes.2 ⟨s, h1, by rw [fitsF, cost_free.1 h2]; rfl⟩

/-- A factor is a form, and is true just where a row fits. -/
theorem rds_factor (N : Nat) (val : Int → Bool) : ∀ (f : Nat) (rows : List Bs), costF rows < f → (∀ s ∈ rows, s.length = N) → Rds N val (factorF f rows) (anyB (fitsF val) rows)
  | 0, rows, h, _ => by omega
  | f + 1, [], _, _ => by rw [factorF]; exact rds_no
  | f + 1, s :: r, h, hN => by
    rw [factorF]
    have hlt : ∀ x : Li, ∀ t ∈ s :: r, x ∈ litsF t 0 → (x.1 : Int) < N := fun x t ht hx => by
      have h1 := (List.getElem?_eq_some_iff.1 (litsF_mem.1 hx).2.1).1
      have := hN t ht
      omega
    split
    · rename_i hfr
      rw [fits_free val hfr]
      exact rds_yes
    · rename_i hfr
      split
      · rename_i hc
        have h1 := cost_common hc
        have h4 : 0 < (commonF (s :: r) s).length := List.length_pos_iff.2 hc
        have hd := fits_div val (commonF (s :: r) s) (common_pair _ _) (s :: r) fun t ht x hx => common_mem hx t ht
        have ih := rds_factor N val f (divF (commonF (s :: r) s) (s :: r)) (by omega) fun t ht => by
          simp only [divF, List.mem_map] at ht
          obtain ⟨t0, h5, rfl⟩ := ht
          rw [cutL_len]; exact hN _ h5
        rw [← hd]
        exact rds_all _ (fun x hx => hlt x s (by simp) (common_mem hx s (by simp))) hc _ _ (.inr ih)
      · split
        · have hno : ∀ t ∈ s :: r, litsF t 0 ≠ [] := fun t ht he => by
            have h1 := anyB_no.1 (by simpa using hfr) t ht
            rw [cost_free.2 he] at h1; cases h1
          have hfm : ∀ rows : List Bs, (rows.map fun t => (allF (litsF t 0) [], fitsF val t)).flatMap (·.1) = rows.flatMap fun s => allF (litsF s 0) [] := fun rows => by
            induction rows with
            | nil => rfl
            | cons t r ih => simp only [List.map_cons, List.flatMap_cons, ih]
          have h2 : 2 ≤ (s :: r).length := by
            rename_i hc0 hm
            have hc0 : commonF (s :: r) s = [] := by simpa using hc0
            cases r with
            | nil =>
              exfalso
              have : commonF [s] s = litsF s 0 := by
                unfold commonF
                rw [List.filter_eq_self]
                intro x hx
                simp [countF, hasF, hx]
              rw [hc0] at this
              exact hno s (by simp) this.symm
            | cons t r => simp
          have hh := rds_node (n := N) (val := val) 4 (.inr rfl) ((s :: r).map fun t => (allF (litsF t 0) [], fitsF val t)) (by simpa using h2) fun k hk => by
            obtain ⟨t, h5, rfl⟩ := List.mem_map.1 hk
            have := rds_all (n := N) (val := val) (litsF t 0) (fun x hx => hlt x t h5 hx) (hno t h5) [] true (.inl ⟨rfl, rfl⟩)
            simpa [fitsF] using this
          rw [hfm] at hh
          have e : decide ((4 : Int) = 3) = false := by decide
          rw [e, foldK_or] at hh
          simp only [List.length_map, List.any_map] at hh
          have e2 : (false || (s :: r).any ((fun x => x.2) ∘ fun t => (allF (litsF t 0) [], fitsF val t))) = anyB (fitsF val) (s :: r) := by rw [Bool.false_or]; rfl
          rw [e2] at hh
          exact hh
        · rename_i hm
          have h0 := mostF_ok (s :: r) s.length (by omega)
          have h1 := cost_most hm
          have h3 := countF_keep (mostF (s :: r) s.length).1 (s :: r)
          generalize (mostF (s :: r) s.length).1 = x at *
          obtain ⟨t0, h2⟩ := List.exists_mem_of_length_pos (l := keepF (fun t => !hasF x t) (s :: r)) (by omega)
          have hx0 := keep_has h2
          have ih1 := rds_factor N val f (divF [x] (keepF (fun t => !hasF x t) (s :: r))) (by omega) fun t ht => by
            simp only [divF, List.mem_map] at ht
            obtain ⟨t0, h5, rfl⟩ := ht
            rw [cutL_len]; exact hN _ (keep_has h5).1
          have ih2 := rds_factor N val f (keepF (hasF x) (s :: r)) (by omega) fun t ht => hN _ (List.mem_filter.1 ht).1
          have hd := fits_div val [x] (by simp) (keepF (fun t => !hasF x t) (s :: r)) fun t ht y hy => by
            simp only [List.mem_singleton] at hy; subst hy; exact (keep_has ht).2
          have hk := fits_keep val (hasF x) (s :: r)
          have ha := rds_all (n := N) (val := val) [x] (fun y hy => by simp only [List.mem_singleton] at hy; subst hy; exact hlt y t0 hx0.1 hx0.2) (by simp) _ _ (.inr ih1)
          rw [hd] at ha
          rw [← hk]
          generalize anyB (fitsF val) (keepF (fun t => !hasF x t) (s :: r)) = va at *
          generalize anyB (fitsF val) (keepF (hasF x) (s :: r)) = vb at *
          generalize allF [x] (factorF f (divF [x] (keepF (fun t => !hasF x t) (s :: r)))) = A at *
          generalize factorF f (keepF (hasF x) (s :: r)) = B at *
          have hh := rds_node (n := N) (val := val) 4 (.inr rfl) [(A, va), (B, vb)] (by simp) (by
            intro k hk
            simp only [List.mem_cons, List.not_mem_nil, or_false] at hk
            rcases hk with rfl | rfl
            · exact ha
            · exact ih2)
          have e : decide ((4 : Int) = 3) = false := by decide
          rw [e, foldK_or] at hh
          simpa using hh
end Go.Proofs.YtpjpaojjagffoaaDoor
/- Factors: the fixed facts; laws CoverForms, CoverLess. -/
namespace Go.Proofs.YtpjpaojjagffoaaDoor
open Go.AM Go.Proofs
variable {Γ : Nat → Option AV}
set_option linter.unusedSimpArgs false
set_option linter.unusedVariables false

theorem p_cover_Same (a b : List Fm) {ka kb : Nat} (ha : Kd 3 ka a) (hb : Kd 3 kb b) (hs : a.length < 2 ^ 60) : PureCon Tryd.prog Γ n_cover_Same [.list false ka (a.map eFm), .list false kb (b.map eFm)] (.bool (decide (a = b))) := by
  refine .run 60 c_cover_Same (by simp) ?_
  simp
  refine .call 60 (by simp) (p_slices_Equal_cover_Form_cover_Form a b ha hb hs) ?_
  simp
  exact .back (by simp)

/-- Are rows looked at? -/
def fewR (rows : List Bs) : Bool := (rows.take 41).all (fun s => decide (s.length ≤ 60)) && decide (rows.length ≤ 40)
theorem p_w05_Texts (rows : List Bs) {k : Nat} (hk : Kd 1 k rows) : PureCon Tryd.prog Γ n_w05_Texts [.list false k (rows.map .str), .int .i64 40] (.bool (fewR rows)) := by
  have key : ∀ n i : Nat, i + n = 41 → i ≤ rows.length → Fins Tryd.prog Γ (w05_Texts_L1 (.list false k (rows.map .str)) (.int .i64 40) (.int .i64 i) []) (.ret (.bool (((rows.take 41).drop i).all (fun s => decide (s.length ≤ 60)) && decide (rows.length ≤ 40)))) := by
    intro n
    induction n with
    | zero =>
      intro i hi hr
      have q1 : ¬ (i : Int) ≤ 40 := by omega
      have q2 : (rows.take 41).drop i = [] := List.drop_eq_nil_of_le (by simp; omega)
      have e : ((rows.length : Int) ≤ 40) = (rows.length ≤ 40) := propext (by omega)
      rw [q2]
      refine .go 60 ?_
      by_cases q3 : i < rows.length
      · simp [q1, q3, e]
        exact .back (by simp)
      · simp [q1, q3, e]
        exact .back (by simp)
    | succ n ih =>
      intro i hi hr
      have q1 : (i : Int) ≤ 40 := by omega
      have e : ((rows.length : Int) ≤ 40) = (rows.length ≤ 40) := propext (by omega)
      by_cases q3 : i < rows.length
      · have hh := ih (i + 1) (by omega) (by omega)
        have q2 := eq_true (hk.of q3)
        have q4 : i < (rows.take 41).length := by simp; omega
        rw [List.drop_eq_getElem_cons q4, List.all_cons, List.getElem_take]
        have e2 : ((60 : Int) < rows[i].length) = ¬ (rows[i].length ≤ 60) := propext (by omega)
        refine .go 60 ?_
        by_cases h : rows[i].length ≤ 60
        · simp (disch := omega) [q1, q2, q3, e2, h]
          refine .reLoop ?_
          simp [q2] at hh ⊢
          exact hh
        · simp (disch := omega) [q1, q2, q3, e2, h]
          exact .back (by simp [h])
      · have q2 : (rows.take 41).drop i = [] := List.drop_eq_nil_of_le (by simp; omega)
        rw [q2]
        refine .go 60 ?_
        simp [q1, q3, e]
        exact .back (by simp)
  refine .run 60 c_w05_Texts (by simp) ?_
  simp
  refine .inLoop ?_
  have hh := key 41 0 (by omega) (by omega)
  simp [fewR] at hh ⊢
  exact hh
theorem p_few (rows : List Bs) {k : Nat} (hk : Kd 1 k rows) : PureCon Tryd.prog Γ n_w10_few [.list false k (rows.map .str)] (.bool (fewR rows)) := by
  refine .run 60 c_w10_few (by simp) ?_
  simp
  refine .call 60 (by simp) (p_w05_Texts rows hk) ?_
  simp
  exact .back (by simp)
theorem few_rows {rows : List Bs} (h : fewR rows = true) : rows.length ≤ 40 ∧ ∀ s ∈ rows, s.length ≤ 60 := by
  simp only [fewR, Bool.and_eq_true, decide_eq_true_eq] at h
  refine ⟨h.2, fun s hs => ?_⟩
  rw [List.take_of_length_le (by omega)] at h
  simpa using List.all_eq_true.1 h.1 s hs

def rW : List Bs := [[49, 49, 45], [49, 45, 49]]
def fW : List Fm := [⟨3, 0, 2⟩, ⟨2, 0, 0⟩, ⟨4, 0, 2⟩, ⟨2, 2, 0⟩, ⟨2, 4, 0⟩]
theorem wF1 : facF rW 3 = fW := by kernel_rfl
theorem wE1 : facE rW 3 = 0 := by kernel_rfl
theorem wF2 : facF [[49]] 2 = [] := by kernel_rfl
theorem wE2 : facE [[49]] 2 = 1 := by kernel_rfl
theorem wF3 : facF [[45, 45], [48, 49]] 2 = [⟨1, 0, 0⟩] := by kernel_rfl
theorem wE3 : facE [[45, 45], [48, 49]] 2 = 0 := by kernel_rfl
theorem wV1 : formV 3 (litI [true, false, true]) fW = some true := by kernel_rfl
theorem wV2 : formV 3 (litI [true, false, false]) fW = some false := by kernel_rfl
theorem wC1 : formV 3 (fun _ => false) fW = some false := by kernel_rfl
theorem wC2 : formV 2 (fun _ => false) fW = none := by kernel_rfl
set_option maxRecDepth 8000 in
theorem p_works : PureCon Tryd.prog Γ n_w10_works [] (.bool true) := by
  have k1 := p_Factor (Γ := Γ) rW 3 (.inl rfl : Kd 1 1 rW)
  have k2 := p_cover_Eval (Γ := Γ) fW (.inl rfl : Kd 3 3 fW) (by decide) [true, false, true] (.inl rfl : Kd 1 1 _) (by decide)
  have k3 := p_cover_Eval (Γ := Γ) fW (.inl rfl : Kd 3 3 fW) (by decide) [true, false, false] (.inl rfl : Kd 1 1 _) (by decide)
  have k4 := p_Factor (Γ := Γ) [[49]] 2 (.inl rfl : Kd 1 1 _)
  have k5 := p_Factor (Γ := Γ) [[45, 45], [48, 49]] 2 (.inl rfl : Kd 1 1 _)
  have k6 := p_cover_Same (Γ := Γ) fW fW (.inl rfl : Kd 3 3 fW) (.inl rfl : Kd 3 3 fW) (by decide)
  have k7 := p_cover_Literals (Γ := Γ) fW (.inl rfl : Kd 3 3 fW) (by decide)
  have k8 := p_Cost (Γ := Γ) rW (.inl rfl : Kd 1 1 rW) (by decide) (by decide)
  have k9 := p_cover_Check (Γ := Γ) fW (.inl rfl : Kd 3 3 fW) (by decide) 3
  have k10 := p_cover_Check (Γ := Γ) fW (.inl rfl : Kd 3 3 fW) (by decide) 2
  have k11 := p_cover_Same (Γ := Γ) fW [⟨1, 0, 0⟩] (.inl rfl : Kd 3 3 fW) (.inl rfl : Kd 3 3 _) (by decide)
  rw [wF1, wE1] at k1
  rw [wF2, wE2] at k4
  rw [wF3, wE3] at k5
  simp [wV1] at k2
  simp [wV2] at k3
  rw [wC1] at k9
  rw [wC2] at k10
  refine .run 90 c_w10_works (by simp) ?_
  simp
  refine .call 90 (by simp [rW]) k1 ?_
  simp [fW]
  refine .call 90 (by simp [fW]) k2 ?_
  simp
  refine .call 90 (by simp [fW]) k3 ?_
  simp
  refine .call 90 (by simp) k4 ?_
  simp
  refine .call 90 (by simp) k5 ?_
  simp
  refine .call 90 (by simp [fW]) k6 ?_
  simp
  refine .call 90 (by simp [fW]) k7 ?_
  simp [show litsN fW = 3 from by kernel_rfl]
  refine .call 90 (by simp [rW]) k8 ?_
  simp [show costF rW = 4 from by kernel_rfl]
  refine .call 90 (by simp [fW]) k9 ?_
  simp
  refine .call 90 (by simp [fW]) k10 ?_
  simp
  refine .call 90 (by simp [fW]) k11 ?_
  simp [show ¬ fW = [⟨1, 0, 0⟩] from by decide]
  exact .back (by simp)

set_option maxRecDepth 8000 in
theorem l_CoverForms (l o : List Fm) (n : Int) (ins : List Bool) {kl ko ki : Nat} (hkl : Kd 3 kl l) (hko : Kd 3 ko o) (hki : Kd 1 ki ins) :
    PureCon Tryd.prog Γ n_w10_CoverForms [.list false kl (l.map eFm), .list false ko (o.map eFm), .int .i64 n, .list false ki (ins.map .bool)] (.bool true) := by
  refine .run 90 c_w10_CoverForms (by simp) ?_
  simp
  refine .call 90 (by simp) p_works ?_
  by_cases h1 : 60 < l.length
  · have h1' : (60 : Int) < l.length := by omega
    simp [h1, h1']
    exact .back (by simp)
  by_cases h2 : 60 < o.length
  · have h1' : ¬ (60 : Int) < l.length := by omega
    have h2' : (60 : Int) < o.length := by omega
    simp [h1, h1', h2, h2']
    exact .back (by simp)
  by_cases h3 : 60 < ins.length
  · have h1' : ¬ (60 : Int) < l.length := by omega
    have h2' : ¬ (60 : Int) < o.length := by omega
    have h3' : (60 : Int) < ins.length := by omega
    simp [h1, h1', h2, h2', h3, h3']
    exact .back (by simp)
  have h1' : ¬ (60 : Int) < l.length := by omega
  have h2' : ¬ (60 : Int) < o.length := by omega
  have h3' : ¬ (60 : Int) < ins.length := by omega
  have k1 := p_w10_Of (Γ := Γ) l hkl (by omega)
  have k1' := p_w10_Of (Γ := Γ) o hko (by omega)
  have k2 := p_r10_Check (Γ := Γ) l (.inl rfl : Kd 3 3 l) (by omega) n
  have k3 := p_cover_Eval (Γ := Γ) l hkl (by omega) ins hki (by omega)
  have k4 := p_r10_Eval (Γ := Γ) l (.inl rfl : Kd 3 3 l) (by omega) ins hki (by omega)
  have k5 := p_r10_Literals (Γ := Γ) l (.inl rfl : Kd 3 3 l) (by omega)
  have k6 := p_r10_Same (Γ := Γ) l o (.inl rfl : Kd 3 3 l) (.inl rfl : Kd 3 3 o) (by omega)
  have k7 := p_cover_Check (Γ := Γ) l hkl (by omega) n
  have k8 := p_cover_Literals (Γ := Γ) l hkl (by omega)
  have k9 := p_cover_Same (Γ := Γ) l o hkl hko (by omega)
  have e := checkF_eq n (fun _ => false) l
  have e2 : decide (errV (formV n (fun _ => false) l) = 0) = checkF n l := by
    rw [e]; cases formV n (fun _ => false) l <;> rfl
  simp [h1, h1', h2, h2', h3, h3']
  refine .call 90 (by simp) k1 ?_
  simp
  refine .call 90 (by simp) k2 ?_
  simp
  refine .call 90 (by simp) k3 ?_
  simp
  refine .call 90 (by simp) k1 ?_
  simp
  refine .call 90 (by simp) k4 ?_
  simp
  refine .call 90 (by simp) k1 ?_
  simp
  refine .call 90 (by simp) k5 ?_
  simp
  refine .call 90 (by simp) k1 ?_
  simp
  refine .call 90 (by simp) k1' ?_
  simp
  refine .call 90 (by simp) k6 ?_
  simp
  refine .call 90 (by simp) k7 ?_
  simp [e2]
  refine .call 90 (by simp) k8 ?_
  simp
  refine .call 90 (by simp) k9 ?_
  simp
  exact .back (by simp)
end Go.Proofs.YtpjpaojjagffoaaDoor
/- Laws CoverLess, CoverRows. -/
namespace Go.Proofs.YtpjpaojjagffoaaDoor
open Go.AM Go.Proofs
variable {Γ : Nat → Option AV}
set_option linter.unusedSimpArgs false
set_option linter.unusedVariables false

theorem litsN_map : ∀ l : List Li, litsN (l.map nodeF) = l.length
  | [] => rfl
  | x :: l => by simp only [List.map_cons, litsN, litsN_map l, show (nodeF x).kind = 2 from rfl, if_true, List.length_cons]; omega
theorem litsN_head (n : Nat) : litsN (headF n) = 0 := by unfold headF; split <;> rfl
theorem litsN_rest (r : List Fm) : litsN (restF r) ≤ litsN r := by unfold restF; split <;> simp [litsN]
theorem litsN_all (l : List Li) (r : List Fm) : litsN (allF l r) ≤ l.length + litsN r := by
  have := litsN_rest r
  rw [allF, litsN_append, litsN_append, litsN_head, litsN_map]; omega
theorem litsN_or : ∀ rows : List Bs, litsN (rows.flatMap fun s => allF (litsF s 0) []) ≤ costF rows
  | [] => Nat.le_refl _
  | s :: r => by
    have ih := litsN_or r
    have h := litsN_all (litsF s 0) []
    have h0 : litsN ([] : List Fm) = 0 := rfl
    rw [List.flatMap_cons, litsN_append, costF]; omega
theorem litsN_factor : ∀ (f : Nat) (rows : List Bs), litsN (factorF f rows) ≤ costF rows
  | 0, _ => by simp [factorF, litsN]
  | _ + 1, [] => by simp [factorF, litsN]
  | f + 1, s :: r => by
    rw [factorF]
    split
    · simp [litsN]
    · split
      · rename_i hc
        have h1 := litsN_factor f (divF (commonF (s :: r) s) (s :: r))
        have h2 := cost_common hc
        have h3 := litsN_all (commonF (s :: r) s) (factorF f (divF (commonF (s :: r) s) (s :: r)))
        omega
      · split
        · have h1 := litsN_or (s :: r)
          rw [orF, litsN, if_neg (by simp)]; omega
        · rename_i hm
          have h0 := cost_most hm
          have h1 := litsN_factor f (divF [(mostF (s :: r) s.length).1] (keepF (fun t => !hasF (mostF (s :: r) s.length).1 t) (s :: r)))
          have h2 := litsN_factor f (keepF (hasF (mostF (s :: r) s.length).1) (s :: r))
          have h3 := litsN_all [(mostF (s :: r) s.length).1] (factorF f (divF [(mostF (s :: r) s.length).1] (keepF (fun t => !hasF (mostF (s :: r) s.length).1 t) (s :: r))))
          rw [List.cons_append, litsN, litsN_append, if_neg (by simp)]
          simp only [List.length_cons, List.length_nil] at h3
          omega
theorem costF_append : ∀ a b : List Bs, costF (a ++ b) = costF a + costF b
  | [], b => by simp [costF]
  | s :: a, b => by rw [List.cons_append, costF, costF, costF_append a b]; omega
theorem costF_uniq : ∀ (r a : List Bs), costF (uniqF a r) ≤ costF a + costF r
  | [], a => by simp [uniqF, costF]
  | s :: r, a => by
    rw [uniqF]
    have h := costF_uniq r (if a.contains s = true then a else a ++ [s])
    have h2 : costF (if a.contains s = true then a else a ++ [s]) ≤ costF a + (litsF s 0).length := by
      split
      · omega
      · rw [costF_append]; simp [costF]
    rw [costF]; omega
theorem uniqF_old : ∀ (r a : List Bs), (∀ s ∈ r, s ∈ a) → uniqF a r = a
  | [], a, _ => rfl
  | s :: r, a, h => by
    rw [uniqF, if_pos (by simpa using h s (by simp))]
    exact uniqF_old r a fun t ht => h t (by simp [ht])
theorem uniqF_app : ∀ (r r' a : List Bs), uniqF a (r ++ r') = uniqF (uniqF a r) r'
  | [], r', a => rfl
  | s :: r, r', a => by rw [List.cons_append, uniqF, uniqF, uniqF_app r r']
theorem uniqF_twice (r : List Bs) : uniqF [] (r ++ r) = uniqF [] r := by
  rw [uniqF_app]
  exact uniqF_old r _ fun s hs => (uniqF_mem r []).2 (.inr hs)

/-- Rows that may be. -/
theorem wrong_no {rows : List Bs} {n : Int} (h : wrongF n rows = false) : ∃ m : Nat, n = m ∧ m ≤ 8 ∧ rows.length ≤ 128 ∧ ∀ s ∈ rows, s.all sgnC = true ∧ s.length = m := by
  simp only [wrongF, Bool.or_eq_false_iff, decide_eq_false_iff_not] at h
  obtain ⟨h1, h2, h3, h4⟩ := h
  obtain ⟨m, rfl⟩ := Int.eq_ofNat_of_zero_le (show 0 ≤ n by omega)
  refine ⟨m, rfl, by omega, by omega, fun s hs => ?_⟩
  have := anyB_no.1 h4 s hs
  simpa [rowB] using this
theorem facE_ok {rows : List Bs} {n : Int} : facE rows n = 0 ↔ wrongF n rows = false := by
  unfold facE
  cases wrongF n rows <;> simp
theorem fac_cost {rows : List Bs} {m : Nat} (hm : m ≤ 8) (hl : rows.length ≤ 128) (hs : ∀ s ∈ rows, s.length = m) : costF (uniqF [] rows) ≤ 1024 := by
  have h1 := costF_uniq rows []
  have h2 := costF_le hs
  have h3 : rows.length * m ≤ 128 * 8 := Nat.mul_le_mul hl hm
  have h0 : costF [] = 0 := rfl
  omega
theorem fac_form {rows : List Bs} {n : Int} (h : wrongF n rows = false) (val : Int → Bool) : formV n val (facF rows n) = some (anyB (fitsF val) rows) := by
  obtain ⟨m, rfl, h1, h2, h3⟩ := wrong_no h
  have hc := fac_cost h1 h2 fun s hs => (h3 s hs).2
  have hl := factorF_len (costF (uniqF [] rows) + 1) (uniqF [] rows)
  have hr := rds_factor m val (costF (uniqF [] rows) + 1) (uniqF [] rows) (by omega) fun s hs => (h3 s (by simpa using (uniqF_mem rows []).1 hs)).2
  have he : anyB (fitsF val) (uniqF [] rows) = anyB (fitsF val) rows := by
    rw [Bool.eq_iff_iff, anyB_yes, anyB_yes]
    constructor
    · rintro ⟨s, h4, h5⟩; exact ⟨s, by simpa using (uniqF_mem rows []).1 h4, h5⟩
    · rintro ⟨s, h4, h5⟩; exact ⟨s, (uniqF_mem rows []).2 (.inr h4), h5⟩
  have h4 := hr [] (factorF (costF (uniqF [] rows) + 1) (uniqF [] rows)).length (by simp)
  rw [List.append_nil, he] at h4
  have e0 : facF rows m = factorF (costF (uniqF [] rows) + 1) (uniqF [] rows) := by unfold facF; rw [h]; rfl
  rw [e0]
  unfold formV
  rw [if_pos ⟨by omega, by omega, by omega⟩, h4]
theorem fac_twice {rows : List Bs} {n : Int} (h : wrongF n rows = false) (hl : rows.length ≤ 40) : wrongF n (rows ++ rows) = false ∧ facF (rows ++ rows) n = facF rows n := by
  obtain ⟨m, rfl, h1, h2, h3⟩ := wrong_no h
  have hw : wrongF m (rows ++ rows) = false := by
    simp only [wrongF, Bool.or_eq_false_iff, decide_eq_false_iff_not, List.length_append]
    refine ⟨by omega, by omega, by omega, anyB_no.2 fun s hs => ?_⟩
    have : s ∈ rows := by simpa using hs
    simpa [rowB] using h3 s this
  refine ⟨hw, ?_⟩
  unfold facF
  rw [h, hw, uniqF_twice]

set_option maxRecDepth 8000 in
theorem l_CoverLess (rows : List Bs) (n : Int) {k : Nat} (hk : Kd 1 k rows) : PureCon Tryd.prog Γ n_w10_CoverLess [.list false k (rows.map .str), .int .i64 n] (.bool true) := by
  have k1 := p_few (Γ := Γ) rows hk
  have k2 := p_Factor (Γ := Γ) rows n hk
  refine .run 90 c_w10_CoverLess (by simp) ?_
  simp
  refine .call 90 (by simp) p_works ?_
  simp
  refine .call 90 (by simp) k1 ?_
  simp
  refine .call 90 (by simp) k2 ?_
  cases hf : fewR rows with
  | false =>
    simp [hf]
    exact .back (by simp)
  | true =>
    obtain ⟨f1, f2⟩ := few_rows hf
    cases hw : wrongF n rows with
    | true =>
      have e : facE rows n = 1 := by unfold facE; rw [hw]; rfl
      simp [hf, e]
      exact .back (by simp)
    | false =>
      have e : facE rows n = 0 := facE_ok.2 hw
      obtain ⟨t1, t2⟩ := fac_twice hw f1
      have e2 : facE (rows ++ rows) n = 0 := facE_ok.2 t1
      have k3 := p_Factor (Γ := Γ) (rows ++ rows) n (.inl rfl : Kd 1 1 _)
      rw [t2, e2] at k3
      have hfm := fac_form hw (fun _ => false)
      have hfl : (facF rows n).length < 2 ^ 30 := by
        unfold facF
        rw [hw, if_neg (by simp)]
        obtain ⟨m, rfl, h1, h2, h3⟩ := wrong_no hw
        have hc := fac_cost h1 h2 fun s hs => (h3 s hs).2
        have hl := factorF_len (costF (uniqF [] rows) + 1) (uniqF [] rows)
        omega
      have k4 := p_cover_Check (Γ := Γ) (facF rows n) (.inl rfl : Kd 3 3 _) (by omega) n
      rw [hfm] at k4
      have k5 := p_cover_Literals (Γ := Γ) (facF rows n) (.inl rfl : Kd 3 3 _) (by omega)
      have k6 := p_Cost (Γ := Γ) rows hk (by omega) (fun s hs => by have := f2 s hs; omega)
      have k7 := p_cover_Same (Γ := Γ) (facF rows n) (facF rows n) (.inl rfl : Kd 3 3 _) (.inl rfl : Kd 3 3 _) (by omega)
      have hll : litsN (facF rows n) ≤ costF rows := by
        unfold facF
        rw [hw, if_neg (by simp)]
        have h1 := litsN_factor (costF (uniqF [] rows) + 1) (uniqF [] rows)
        have h2 := costF_uniq rows []
        have h0 : costF [] = 0 := rfl
        omega
      have hll' : ((litsN (facF rows n) : Nat) : Int) ≤ costF rows := by omega
      cases rows with
      | nil =>
        simp [hf, e]
        simp at k3
        refine .call 90 (by simp) k3 ?_
        simp
        refine .call 90 (by simp) k4 ?_
        simp
        refine .call 90 (by simp) k5 ?_
        simp
        refine .call 90 (by simp) k6 ?_
        simp at hll'
        simp [hll']
        refine .call 90 (by simp) k7 ?_
        simp
        exact .back (by simp)
      | cons s r =>
        obtain rfl : k = 1 := hk.of (i := 0) (by simp)
        simp at f1
        have b1 : (r.length + 1) * 16 ≤ 140737488355328 := by omega
        have b2 : (r.length + 1 + (r.length + 1)) * 16 ≤ 140737488355328 := by omega
        simp [hf, e, b1, b2]
        simp at k3
        have b3 : (r.length + 1 + (r.length + 1) = r.length + (r.length + 1) + 1) = True := eq_true (by omega)
        have b4 : List.take (r.length + 1 + (r.length + 1)) (AV.str s :: (List.map AV.str r ++ AV.str s :: List.map AV.str r)) = AV.str s :: (List.map AV.str r ++ AV.str s :: List.map AV.str r) := List.take_of_length_le (by simp; omega)
        refine .call 90 (by simp [b3, b4]) k3 ?_
        simp
        refine .call 90 (by simp) k4 ?_
        simp
        refine .call 90 (by simp) k5 ?_
        simp
        refine .call 90 (by simp) k6 ?_
        simp at hll'
        simp [hll']
        refine .call 90 (by simp) k7 ?_
        simp
        exact .back (by simp)
theorem factor_one (f : Nat) (s : Bs) : factorF (f + 2) [s] = if litsF s 0 = [] then [⟨1, 0, 0⟩] else headF (litsF s 0).length ++ (litsF s 0).map nodeF := by
  rw [factorF]
  by_cases h : litsF s 0 = []
  · have hf : anyB freeF [s] = true := by rw [anyB_cons, cost_free.2 h]; rfl
    rw [if_pos hf, if_pos h]
  · have hf : anyB freeF [s] = false := by
      rw [anyB_cons, anyB_nil, Bool.or_false, Bool.eq_false_iff]
      exact fun hn => h (cost_free.1 hn)
    have hc : commonF [s] s = litsF s 0 := by
      unfold commonF
      rw [List.filter_eq_self]
      intro x hx
      simp [countF, hasF, hx]
    rw [if_neg (by simp [hf]), if_neg h, hc, if_pos h]
    have h1 := cutL_cost (litsF s 0) s (litsF_pair s 0) fun x hx => hx
    have h2 : litsF (cutL (litsF s 0) s) 0 = [] := List.length_eq_zero_iff.1 (by omega)
    have h3 : factorF (f + 1) (divF (litsF s 0) [s]) = [⟨1, 0, 0⟩] := by
      have e : divF (litsF s 0) [s] = [cutL (litsF s 0) s] := rfl
      rw [e, factorF, if_pos (by rw [anyB_cons, cost_free.2 h2]; rfl)]
    rw [h3]
    have h4 : restF [⟨1, 0, 0⟩] = [] := rfl
    rw [allF, h4]
    simp
theorem fac_none {n : Int} (h : wrongF n [] = false) : facF [] n = [⟨0, 0, 0⟩] := by
  unfold facF
  rw [h]; rfl

set_option maxRecDepth 8000 in
theorem l_CoverRows (s : Bs) (n : Int) : PureCon Tryd.prog Γ n_w10_CoverRows [.str s, .int .i64 n] (.bool true) := by
  have k1 := p_Factor (Γ := Γ) [s] n (.inl rfl : Kd 1 1 _)
  refine .run 90 c_w10_CoverRows (by simp) ?_
  simp
  refine .call 90 (by simp) p_works ?_
  by_cases h1 : 60 < s.length
  · have h1' : (60 : Int) < s.length := by omega
    simp [h1, h1']
    exact .back (by simp)
  have h1' : ¬ (60 : Int) < s.length := by omega
  simp [h1, h1']
  refine .call 90 (by simp) k1 ?_
  cases hw : wrongF n [s] with
  | true =>
    have e : facE [s] n = 1 := by unfold facE; rw [hw]; rfl
    have e2 : facF [s] n = [] := by unfold facF; rw [hw]; rfl
    simp [e, e2]
    exact .back (by simp)
  | false =>
    have e : facE [s] n = 0 := facE_ok.2 hw
    have hw0 : wrongF n [] = false := by
      simp only [wrongF, Bool.or_eq_false_iff, decide_eq_false_iff_not] at hw ⊢
      exact ⟨hw.1, hw.2.1, by simp, by simp⟩
    have k2 := p_Factor (Γ := Γ) [] n (.inr rfl : Kd 1 0 _)
    rw [fac_none hw0, facE_ok.2 hw0] at k2
    have k3 := p_Cost (Γ := Γ) [s] (.inl rfl : Kd 1 1 _) (by simp) (by simp; omega)
    have hlc := litsF_le s 0
    have ec : costF [s] = (litsF s 0).length := rfl
    rw [ec] at k3
    have e2 : facF [s] n = if litsF s 0 = [] then [⟨1, 0, 0⟩] else headF (litsF s 0).length ++ (litsF s 0).map nodeF := by
      unfold facF
      rw [hw, if_neg (by simp)]
      have eu : uniqF [] [s] = [s] := by simp [uniqF]
      rw [eu, ec]
      by_cases h0 : litsF s 0 = []
      · rw [h0, if_pos rfl]
        have hf : anyB freeF [s] = true := by rw [anyB_cons, cost_free.2 h0]; rfl
        rw [factorF, if_pos hf]
      · have : 0 < (litsF s 0).length := List.length_pos_iff.2 h0
        have := factor_one ((litsF s 0).length - 1) s
        rw [show (litsF s 0).length - 1 + 2 = (litsF s 0).length + 1 by omega] at this
        exact this
    generalize facF [s] n = F at *
    generalize litsF s 0 = L at *
    have k4 := p_cover_Literals (Γ := Γ) F (.inl rfl : Kd 3 3 _) (by
      rw [e2]
      have := headF_len L.length
      split
      · simp
      · simp only [List.length_append, List.length_map]; omega)
    match L, e2 with
    | [], e2 =>
      simp at e2
      subst e2
      simp [litsN] at k4 k3
      simp [e]
      refine .call 90 (by simp) k2 ?_
      simp
      refine .call 90 (by simp) k3 ?_
      simp
      refine .call 90 (by simp) k4 ?_
      simp
      exact .back (by simp)
    | [x], e2 =>
      simp [headF] at e2
      subst e2
      simp [litsN, show (nodeF x).kind = 2 from rfl] at k4 k3
      simp [e]
      refine .call 90 (by simp) k2 ?_
      simp
      refine .call 90 (by simp) k3 ?_
      simp
      refine .call 90 (by simp) k4 ?_
      simp
      exact .back (by simp)
    | x :: y :: L, e2 =>
      have e3 : litsN F = (x :: y :: L).length := by
        rw [e2, if_neg (by simp), litsN_append, litsN_head, litsN_map]; omega
      rw [e3] at k4
      simp [headF] at e2
      subst e2
      simp at k4 k3
      simp [e]
      refine .call 90 (by simp) k2 ?_
      simp
      refine .call 90 (by simp) k3 ?_
      simp
      have hL : (x :: y :: L).length ≤ 60 := by omega
      simp only [List.length_cons] at hL
      have a1 : ((L.length : Int) + 1 + 1 = 1) = False := eq_false (by omega)
      have a2 : ((L.length : Int) + 1 + 1 = 0) = False := eq_false (by omega)
      have a3 : ((L.length : Int) + 1 + 1 < 2) = False := eq_false (by omega)
      refine .call 90 (by simp) k4 ?_
      simp (disch := omega) [a1, a2, a3]
      exact .back (by simp)
end Go.Proofs.YtpjpaojjagffoaaDoor
