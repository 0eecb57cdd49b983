/- Factors: the reference's small functions. -/
import Derived.Test.YtpjpaojjagffoaaDoorF
import Derived.Test.YtpjpaojjagffoaaDoorCode
import Derived.Test.YtpjpaojjagffoaaDoorAMd
import Derived.Test.YtpjpaojjagffoaaDoorT
set_option linter.unusedSimpArgs false
set_option linter.unusedVariables false
namespace Go.Proofs.YtpjpaojjagffoaaDoor
open Go.AM Go.Proofs
variable {Γ : Nat → Option AV}
set_option linter.unusedSimpArgs false
set_option linter.unusedVariables false

theorem p_r10_free (s : Bs) (hs : s.length < 2 ^ 40) : PureCon Tryd.prog Γ n_r10_free [.str s] (.bool (freeF s)) := by
  have key : ∀ m i : Nat, i + m = s.length → Fins Tryd.prog Γ (r10_free_L1 (.str s) (.int .i64 i) []) (.ret (.bool (freeF (s.drop i)))) := by
    intro m
    induction m with
    | zero =>
      intro i hi
      have q1 : ¬ i < s.length := by omega
      rw [List.drop_eq_nil_of_le (by omega)]
      refine .go 60 ?_
      simp [q1]
      exact .back (by simp [freeF])
    | succ m ih =>
      intro i hi
      have q1 : i < s.length := by omega
      have hh := ih (i + 1) (by omega)
      rw [List.drop_eq_getElem_cons q1, freeF, List.all_cons]
      refine .go 60 ?_
      by_cases a : s[i] = 45
      · simp (disch := omega) [q1, a]
        refine .reLoop ?_
        simp [freeF] at hh ⊢
        exact hh
      · simp (disch := omega) [q1, a]
        exact .back (by simp [a])
  refine .run 60 c_r10_free (by simp) ?_
  simp
  refine .inLoop ?_
  have hh := key s.length 0 (by omega)
  simp at hh ⊢
  exact hh
theorem p_r10_row (s : Bs) (n : Nat) (hs : s.length < 2 ^ 40) : PureCon Tryd.prog Γ n_r10_row [.str s, .int .i64 n] (.bool (rowB n s)) := by
  have key : ∀ m i : Nat, i + m = s.length → Fins Tryd.prog Γ (r10_row_L1 (.str s) (.int .i64 n) (.int .i64 i) []) (.ret (.bool ((s.drop i).all sgnC && decide (s.length = n)))) := by
    intro m
    induction m with
    | zero =>
      intro i hi
      have q1 : ¬ i < s.length := by omega
      have e : ((s.length : Int) = n) = (s.length = n) := propext (by omega)
      rw [List.drop_eq_nil_of_le (by omega)]
      refine .go 60 ?_
      simp [q1, e]
      exact .back (by simp)
    | succ m ih =>
      intro i hi
      have q1 : i < s.length := by omega
      have hh := ih (i + 1) (by omega)
      rw [List.drop_eq_getElem_cons q1, List.all_cons]
      refine .go 60 ?_
      by_cases a : s[i] = 48
      · have h1 : sgnC s[i] = true := by simp [sgnC, a]
        simp (disch := omega) [q1, a, h1]
        refine .reLoop ?_
        simp [sgnC] at hh ⊢
        exact hh
      · by_cases b : s[i] = 49
        · simp (disch := omega) [q1, b]
          refine .reLoop ?_
          simp [sgnC] at hh ⊢
          exact hh
        · by_cases c : s[i] = 45
          · simp (disch := omega) [q1, c]
            refine .reLoop ?_
            simp [sgnC] at hh ⊢
            exact hh
          · have h1 : sgnC s[i] = false := by simp [sgnC, a, b, c]
            simp (disch := omega) [q1, a, b, c, h1]
            exact .back (by simp [h1])
  refine .run 60 c_r10_row (by simp) ?_
  simp
  refine .inLoop ?_
  have hh := key s.length 0 (by omega)
  simp [rowB] at hh ⊢
  exact hh
theorem sgn_cases {c : UInt8} (h : sgnC c = true) : c = 49 ∨ c = 48 ∨ c = 45 := by
  simp only [sgnC, Bool.or_eq_true, decide_eq_true_eq] at h
  rcases h with h | h | h <;> simp [h]
theorem p_r10_lits (s : Bs) (hs : s.length < 2 ^ 30) (hg : s.all sgnC = true) : PureCon Tryd.prog Γ n_r10_lits [.str s] (.own 3 t_r10_Form_2 (((litsF s 0).map nodeF).map eFm)) := by
  have key : ∀ m i : Nat, i + m = s.length → ∀ a : List Fm, a.length ≤ i → Fins Tryd.prog Γ (r10_lits_L1 (.str s) (.sl 1 0 a.length) (.int .i64 i) [.row 3 t_r10_Form_2 [] none true false, .row 3 t_r10_Form_2 (a.map eFm) none true false]) (.ret (.own 3 t_r10_Form_2 ((a ++ (litsF (s.drop i) i).map nodeF).map eFm))) := by
    intro m
    induction m with
    | zero =>
      intro i hi a ha
      have q1 : ¬ i < s.length := by omega
      rw [List.drop_eq_nil_of_le (by omega), litsF]
      refine .go 60 ?_
      simp [q1]
      exact .back (by simp)
    | succ m ih =>
      intro i hi a ha
      have q1 : i < s.length := by omega
      rw [List.drop_eq_getElem_cons q1, litsF]
      rcases sgn_cases (List.all_eq_true.1 hg s[i] (List.getElem_mem q1)) with c | c | c
      · have hh := ih (i + 1) (by omega) (a ++ [nodeF (i, 49)]) (by simp; omega)
        have e : a ++ (nodeF (i, 49) :: (litsF (s.drop (i + 1)) (i + 1)).map nodeF) = a ++ [nodeF (i, 49)] ++ (litsF (s.drop (i + 1)) (i + 1)).map nodeF := by simp
        rw [if_neg (by rw [c]; decide), c, List.map_cons, e]
        refine .go 60 ?_
        simp (disch := omega) [q1, c]
        refine .reLoop ?_
        simp
        refine .drop 2 rfl (by simp) (by simp) (by simp) ?_
        refine .reset (i := 1) rfl (by simp) (by simp) (by simp) ?_
        simp [nodeF] at hh ⊢
        exact hh
      · have hh := ih (i + 1) (by omega) (a ++ [nodeF (i, 48)]) (by simp; omega)
        have e : a ++ (nodeF (i, 48) :: (litsF (s.drop (i + 1)) (i + 1)).map nodeF) = a ++ [nodeF (i, 48)] ++ (litsF (s.drop (i + 1)) (i + 1)).map nodeF := by simp
        rw [if_neg (by rw [c]; decide), c, List.map_cons, e]
        refine .go 60 ?_
        simp (disch := omega) [q1, c]
        refine .reLoop ?_
        simp
        refine .drop 2 rfl (by simp) (by simp) (by simp) ?_
        refine .reset (i := 1) rfl (by simp) (by simp) (by simp) ?_
        simp [nodeF] at hh ⊢
        exact hh
      · have hh := ih (i + 1) (by omega) a (by omega)
        rw [if_pos c]
        refine .go 60 ?_
        simp (disch := omega) [q1, c]
        refine .reLoop ?_
        simp at hh ⊢
        exact hh
  refine .run 60 c_r10_lits (by simp) ?_
  simp
  refine .inLoop ?_
  have hh := key s.length 0 (by omega) [] (by simp)
  simp at hh ⊢
  exact hh

/-- Signs that two have. -/
def comS (s t : Bs) : Bs := List.zipWith (fun a b => if a = b then a else 45) s t
def comF : List Bs → Bs
  | [] => []
  | s :: r => r.foldl comS s
def witF (s by' : Bs) : Bs := List.zipWith (fun a b => if b = 45 then a else 45) s by'
def hasR (s by' : Bs) : Bool := (List.zipWith (fun a b => decide (b = 45) || decide (a = b)) s by').all id
theorem comS_len {s t : Bs} (h : s.length = t.length) : (comS s t).length = s.length := by simp [comS, h]
theorem comS_snoc {s t : Bs} {k : Nat} (h1 : k < s.length) (h2 : k < t.length) : (comS s t).take (k + 1) = (comS s t).take k ++ [if s[k] = t[k] then s[k] else 45] := by
  have h3 : k < (comS s t).length := by simp [comS]; omega
  rw [List.take_succ_eq_append_getElem h3]
  simp [comS]

set_option maxRecDepth 8000 in
theorem r_com4 (rows : List Bs) {k : Nat} (hk : Kd 1 k rows) (j : Nat) (hj : j < rows.length) (s : Bs) (hl : s.length = rows[j].length) (hs : s.length < 2 ^ 40) (up : List Fr) (h : List Ob) (base : Nat) : ∀ n i : Nat, i + n = s.length →
    AM.Reach Tryd.prog Γ (r10_common_L4 (.list false k (rows.map .str)) (.str s) (.int .i64 j) (.str ((comS s rows[j]).take i)) (.int .i64 i) h ⟨[], .norm, base, up⟩)
      (r10_common_E4 (.list false k (rows.map .str)) (.int .i64 j) (.str (comS s rows[j])) h ⟨[], .norm, base, up⟩) := by
  have q2 := eq_true (hk.of hj)
  intro n
  induction n with
  | zero =>
    intro i hi
    have q1 : ¬ i < s.length := by omega
    rw [List.take_of_length_le (by rw [comS_len hl]; omega)]
    refine .goS 60 ?_
    simp [q1]
    exact .exit rfl rfl
  | succ n ih =>
    intro i hi
    have q1 : i < s.length := by omega
    have q3 : i < rows[j].length := by omega
    have hh := ih (i + 1) (by omega)
    rw [comS_snoc q1 q3] at hh
    refine .goS 60 ?_
    have e1 : List.drop i (List.take (i + 1) s) = [s[i]] := by
      rw [List.take_succ_eq_append_getElem q1, List.drop_left' (by simp; omega)]
    by_cases e : s[i] = rows[j][i]
    · rw [if_pos e] at hh
      simp (disch := omega) [q1, q2, q3, hj, e, e1]
      refine .reLoop ?_
      simp [e] at hh ⊢
      exact hh
    · rw [if_neg e] at hh
      simp (disch := omega) [q1, q2, q3, hj, e]
      refine .reLoop ?_
      simp at hh ⊢
      exact hh
theorem comF_len {N : Nat} : ∀ {r : List Bs} {s : Bs}, s.length = N → (∀ t ∈ r, t.length = N) → (r.foldl comS s).length = N
  | [], s, h, _ => h
  | t :: r, s, h, hr => by
    rw [List.foldl_cons]
    exact comF_len (by rw [comS_len (by rw [h, hr t (by simp)]), h]) fun u hu => hr u (by simp [hu])
theorem p_r10_common (s : Bs) (r : List Bs) (N : Nat) (hN : ∀ t ∈ s :: r, t.length = N) (hNb : N < 2 ^ 40) (hl : r.length < 2 ^ 30) : PureCon Tryd.prog Γ n_r10_common [.list false 1 ((s :: r).map .str)] (.str (comF (s :: r))) := by
  have key : ∀ m i : Nat, i + m = r.length → Fins Tryd.prog Γ (r10_common_L1 (.list false 1 ((s :: r).map .str)) (.str ((r.take i).foldl comS s)) (.int .i64 (i + 1 : Nat)) []) (.ret (.str (comF (s :: r)))) := by
    intro m
    induction m with
    | zero =>
      intro i hi
      have q1 : ¬ i < r.length := by omega
      rw [List.take_of_length_le (by omega)]
      refine .go 60 ?_
      simp [q1]
      exact .back (by simp [comF])
    | succ m ih =>
      intro i hi
      have q1 : i < r.length := by omega
      have hh := ih (i + 1) (by omega)
      have hc : ((r.take i).foldl comS s).length = N := comF_len (hN s (by simp)) fun t ht => hN t (by simp [List.mem_of_mem_take ht])
      have hn : r[i].length = N := hN _ (by simp)
      rw [List.take_succ_eq_append_getElem q1, List.foldl_append] at hh
      have h4 := fun up h base => r_com4 (Γ := Γ) (s :: r) (.inl rfl : Kd 1 1 _) (i + 1) (by simp; omega) ((r.take i).foldl comS s) (by rw [hc]; simp [hn]) (by rw [hc]; exact hNb) up h base _ 0 (Nat.zero_add _)
      generalize List.foldl comS s (r.take i) = c at *
      refine .go 60 ?_
      simp [q1]
      refine .inLoop ?_
      simp at h4 ⊢
      refine .reach (h4 _ _ _) ?_
      refine .go 60 ?_
      simp (disch := omega)
      refine .reLoop ?_
      simp at hh ⊢
      exact hh
  refine .run 60 c_r10_common (by simp) ?_
  simp
  refine .inLoop ?_
  have hh := key r.length 0 (by omega)
  simp at hh ⊢
  exact hh
theorem witF_snoc {s t : Bs} {k : Nat} (h1 : k < s.length) (h2 : k < t.length) : (witF s t).take (k + 1) = (witF s t).take k ++ [if t[k] = 45 then s[k] else 45] := by
  have h3 : k < (witF s t).length := by simp [witF]; omega
  rw [List.take_succ_eq_append_getElem h3]
  simp [witF]
theorem p_r10_without (s t : Bs) (hl : s.length = t.length) (hs : s.length < 2 ^ 40) : PureCon Tryd.prog Γ n_r10_without [.str s, .str t] (.str (witF s t)) := by
  have key : ∀ n i : Nat, i + n = s.length → Fins Tryd.prog Γ (r10_without_L1 (.str s) (.str t) (.str ((witF s t).take i)) (.int .i64 i) []) (.ret (.str (witF s t))) := by
    intro n
    induction n with
    | zero =>
      intro i hi
      have q1 : ¬ i < s.length := by omega
      rw [List.take_of_length_le (by simp [witF]; omega)]
      refine .go 60 ?_
      simp [q1]
      exact .back (by simp)
    | succ n ih =>
      intro i hi
      have q1 : i < s.length := by omega
      have q3 : i < t.length := by omega
      have hh := ih (i + 1) (by omega)
      rw [witF_snoc q1 q3] at hh
      have e1 : List.drop i (List.take (i + 1) s) = [s[i]] := by
        rw [List.take_succ_eq_append_getElem q1, List.drop_left' (by simp; omega)]
      refine .go 60 ?_
      by_cases e : t[i] = 45
      · rw [if_pos e] at hh
        simp (disch := omega) [q1, q3, e, e1]
        refine .reLoop ?_
        simp at hh ⊢
        exact hh
      · rw [if_neg e] at hh
        simp (disch := omega) [q1, q3, e]
        refine .reLoop ?_
        simp at hh ⊢
        exact hh
  refine .run 60 c_r10_without (by simp) ?_
  simp
  refine .inLoop ?_
  have hh := key s.length 0 (by omega)
  simp at hh ⊢
  exact hh
theorem p_r10_divided (rows : List Bs) (t : Bs) {k : Nat} (hk : Kd 1 k rows) (hr : rows.length < 2 ^ 30) (hN : ∀ s ∈ rows, s.length = t.length) (ht : t.length < 2 ^ 30) : PureCon Tryd.prog Γ n_r10_divided [.list false k (rows.map .str), .str t] (.own 1 t_string ((rows.map fun s => witF s t).map .str)) := by
  have key : ∀ n i : Nat, i + n = rows.length → ∀ out : List Bs, out.length = i → Fins Tryd.prog Γ (r10_divided_L1 (.list false k (rows.map .str)) (.str t) (.sl 1 0 out.length) (.int .i64 i) [.row 1 t_string [] none true false, .row 1 t_string (out.map .str) none true false])
      (.ret (.own 1 t_string ((out ++ (rows.drop i).map fun s => witF s t).map .str))) := by
    intro n
    induction n with
    | zero =>
      intro i hi out ho
      have q1 : ¬ i < rows.length := by omega
      rw [List.drop_eq_nil_of_le (by omega)]
      refine .go 60 ?_
      simp [q1]
      exact .back (by simp)
    | succ n ih =>
      intro i hi out ho
      have q1 : i < rows.length := by omega
      have q2 := eq_true (hk.of q1)
      have hl := hN _ (List.getElem_mem q1)
      have hw := p_r10_without (Γ := Γ) rows[i] t hl (by omega)
      have hh := ih (i + 1) (by omega) (out ++ [witF rows[i] t]) (by simp [ho])
      have e : out ++ (rows.drop i).map (fun s => witF s t) = out ++ [witF rows[i] t] ++ (rows.drop (i + 1)).map (fun s => witF s t) := by rw [List.drop_eq_getElem_cons q1, List.append_assoc]; rfl
      rw [e]
      refine .go 60 ?_
      simp (disch := omega) [q1, q2]
      refine .call 60 (by simp) hw ?_
      simp (disch := omega)
      refine .reLoop ?_
      simp
      refine .drop 2 rfl (by simp) (by simp) (by simp) ?_
      refine .reset (i := 1) rfl (by simp) (by simp) (by simp) ?_
      simp [q2] at hh ⊢
      exact hh
  refine .run 60 c_r10_divided (by simp) ?_
  simp
  refine .inLoop ?_
  have hh := key rows.length 0 (by omega) [] rfl
  simp at hh ⊢
  exact hh
theorem p_r10_has (s t : Bs) (hl : s.length = t.length) (hs : s.length < 2 ^ 40) : PureCon Tryd.prog Γ n_r10_has [.str s, .str t] (.bool (hasR s t)) := by
  have key : ∀ n i : Nat, i + n = s.length → Fins Tryd.prog Γ (r10_has_L1 (.str s) (.str t) (.int .i64 i) []) (.ret (.bool (hasR (s.drop i) (t.drop i)))) := by
    intro n
    induction n with
    | zero =>
      intro i hi
      have q1 : ¬ i < s.length := by omega
      rw [List.drop_eq_nil_of_le (by omega)]
      refine .go 60 ?_
      simp [q1]
      exact .back (by simp [hasR])
    | succ n ih =>
      intro i hi
      have q1 : i < s.length := by omega
      have q3 : i < t.length := by omega
      have hh := ih (i + 1) (by omega)
      rw [List.drop_eq_getElem_cons q1, List.drop_eq_getElem_cons q3]
      have e0 : hasR (s[i] :: s.drop (i + 1)) (t[i] :: t.drop (i + 1)) = ((decide (t[i] = 45) || decide (s[i] = t[i])) && hasR (s.drop (i + 1)) (t.drop (i + 1))) := rfl
      rw [e0]
      refine .go 60 ?_
      by_cases a : t[i] = 45
      · simp (disch := omega) [q1, q3, a]
        refine .reLoop ?_
        simp at hh ⊢
        exact hh
      · by_cases b : s[i] = t[i]
        · simp (disch := omega) [q1, q3, a, b]
          refine .reLoop ?_
          simp at hh ⊢
          exact hh
        · simp (disch := omega) [q1, q3, a, b]
          exact .back (by simp [a, b])
  refine .run 60 c_r10_has (by simp) ?_
  simp
  refine .inLoop ?_
  have hh := key s.length 0 (by omega)
  simp at hh ⊢
  exact hh
def manyR (t : Bs) : List Bs → Nat
  | [] => 0
  | s :: r => (if hasR s t = true then 1 else 0) + manyR t r
theorem p_r10_many (rows : List Bs) (t : Bs) {k : Nat} (hk : Kd 1 k rows) (hr : rows.length < 2 ^ 30) (hN : ∀ s ∈ rows, s.length = t.length) (ht : t.length < 2 ^ 30) : PureCon Tryd.prog Γ n_r10_many [.list false k (rows.map .str), .str t] (.int .i64 (manyR t rows)) := by
  have key : ∀ n i : Nat, i + n = rows.length → ∀ a : Nat, a + n < 2 ^ 41 → Fins Tryd.prog Γ (r10_many_L1 (.list false k (rows.map .str)) (.str t) (.int .i64 a) (.int .i64 i) []) (.ret (.int .i64 (a + manyR t (rows.drop i) : Nat))) := by
    intro n
    induction n with
    | zero =>
      intro i hi a ha
      have q1 : ¬ i < rows.length := by omega
      rw [List.drop_eq_nil_of_le (by omega), manyR]
      refine .go 60 ?_
      simp [q1]
      exact .back (by simp)
    | succ n ih =>
      intro i hi a ha
      have q1 : i < rows.length := by omega
      have q2 := eq_true (hk.of q1)
      have hl := hN _ (List.getElem_mem q1)
      have hc := p_r10_has (Γ := Γ) rows[i] t hl (by omega)
      rw [List.drop_eq_getElem_cons q1, manyR]
      refine .go 60 ?_
      simp (disch := omega) [q1, q2]
      refine .call 60 (by simp) hc ?_
      by_cases h3 : hasR rows[i] t = true
      · have hh := ih (i + 1) (by omega) (a + 1) (by omega)
        simp (disch := omega) [h3]
        refine .reLoop ?_
        simp [q2, ← Int.add_assoc] at hh ⊢
        exact hh
      · have hh := ih (i + 1) (by omega) a (by omega)
        simp (disch := omega) [h3]
        refine .reLoop ?_
        simp [q2] at hh ⊢
        exact hh
  refine .run 60 c_r10_many (by simp) ?_
  simp
  refine .inLoop ?_
  have hh := key rows.length 0 (by omega) 0 (by omega)
  simp at hh ⊢
  exact hh
end Go.Proofs.YtpjpaojjagffoaaDoor
/- Factors: the reference's literal that most rows have; its and. -/
namespace Go.Proofs.YtpjpaojjagffoaaDoor
open Go.AM Go.Proofs
variable {Γ : Nat → Option AV}
set_option linter.unusedSimpArgs false
set_option linter.unusedVariables false

/-- A row of one sign at a place. -/
def sinF (n a : Nat) (c : UInt8) : Bs := (List.range n).map fun i => if i = a then c else 45
theorem sinF_len (n a : Nat) (c : UInt8) : (sinF n a c).length = n := by simp [sinF]
theorem p_r10_single (n a : Nat) (c : UInt8) (hn : n < 2 ^ 30) : PureCon Tryd.prog Γ n_r10_single [.int .i64 n, .int .i64 a, .str [c]] (.str (sinF n a c)) := by
  have key : ∀ m i : Nat, i + m = n → Fins Tryd.prog Γ (r10_single_L1 (.int .i64 n) (.int .i64 a) (.str [c]) (.str ((List.range i).map fun i => if i = a then c else 45)) (.int .i64 i) []) (.ret (.str (sinF n a c))) := by
    intro m
    induction m with
    | zero =>
      intro i hi
      have q1 : ¬ i < n := by omega
      obtain rfl : i = n := by omega
      refine .go 60 ?_
      simp [q1]
      exact .back (by simp [sinF])
    | succ m ih =>
      intro i hi
      have q1 : i < n := by omega
      have hh := ih (i + 1) (by omega)
      rw [List.range_succ, List.map_append, List.map_cons, List.map_nil] at hh
      have e0 : ((i : Int) = a) = (i = a) := propext (by omega)
      refine .go 60 ?_
      by_cases e : i = a
      · subst e
        rw [if_pos rfl] at hh
        simp (disch := omega) [q1]
        refine .reLoop ?_
        simp at hh ⊢
        exact hh
      · rw [if_neg e] at hh
        simp (disch := omega) [q1, e0, e]
        refine .reLoop ?_
        simp at hh ⊢
        exact hh
  refine .run 60 c_r10_single (by simp) ?_
  simp
  refine .inLoop ?_
  have hh := key n 0 (by omega)
  simp at hh ⊢
  exact hh
def stepR (rows : List Bs) (t x : Bs) : Bs := if manyR t rows < manyR x rows then x else t
def refA (rows : List Bs) (N : Nat) : Nat → Nat → Bs → Bs
  | 0, _, t => t
  | n + 1, i, t => refA rows N n (i + 1) (stepR rows (stepR rows t (sinF N i 49)) (sinF N i 48))
set_option maxRecDepth 8000 in
theorem p_r10_most (rows : List Bs) {k : Nat} (hk : Kd 1 k rows) (hr : rows.length < 2 ^ 30) (N : Nat) (h0 : 0 < rows.length) (hN : ∀ s ∈ rows, s.length = N) (hNb : N < 2 ^ 30) : PureCon Tryd.prog Γ n_r10_most [.list false k (rows.map .str)] (.str (refA rows N N 0 (sinF N 0 49))) := by
  have hmany := fun (t : Bs) (ht : t.length = N) => p_r10_many (Γ := Γ) rows t hk hr (fun s hs => by rw [hN s hs, ht]) (by omega)
  have key : ∀ n i : Nat, i + n = N → ∀ t : Bs, t.length = N → Fins Tryd.prog Γ (r10_most_L1 (.list false k (rows.map .str)) (.int .i64 N) (.str t) (.int .i64 i) []) (.ret (.str (refA rows N n i t))) := by
    intro n
    induction n with
    | zero =>
      intro i hi t ht
      have q1 : ¬ i < N := by omega
      refine .go 60 ?_
      simp [q1, refA]
      exact .back (by simp)
    | succ n ih =>
      intro i hi t ht
      have q1 : i < N := by omega
      have k1 := p_r10_single (Γ := Γ) N i 49 hNb
      have k2 := p_r10_single (Γ := Γ) N i 48 hNb
      have l1 := sinF_len N i 49
      have l2 := sinF_len N i 48
      rw [refA]
      generalize sinF N i 49 = x1 at *
      generalize sinF N i 48 = x2 at *
      refine .go 60 ?_
      simp (disch := omega) [q1]
      refine .call 60 (by simp) k1 ?_
      simp
      refine .call 60 (by simp) k2 ?_
      simp
      refine .call 60 (by simp) (hmany x1 l1) ?_
      simp
      refine .call 60 (by simp) (hmany t ht) ?_
      by_cases a : manyR t rows < manyR x1 rows
      · have e1 : stepR rows t x1 = x1 := if_pos a
        rw [e1]
        simp (disch := omega) [a]
        refine .call 60 (by simp) (hmany x2 l2) ?_
        simp
        refine .call 60 (by simp) (hmany x1 l1) ?_
        by_cases b : manyR x1 rows < manyR x2 rows
        · have e2 : stepR rows x1 x2 = x2 := if_pos b
          have hh := ih (i + 1) (by omega) x2 l2
          rw [e2]
          simp (disch := omega) [b]
          refine .reLoop ?_
          simp at hh ⊢
          exact hh
        · have e2 : stepR rows x1 x2 = x1 := if_neg b
          have hh := ih (i + 1) (by omega) x1 l1
          rw [e2]
          simp (disch := omega) [b]
          refine .reLoop ?_
          simp at hh ⊢
          exact hh
      · have e1 : stepR rows t x1 = t := if_neg a
        rw [e1]
        simp (disch := omega) [a]
        refine .call 60 (by simp) (hmany x2 l2) ?_
        simp
        refine .call 60 (by simp) (hmany t ht) ?_
        by_cases b : manyR t rows < manyR x2 rows
        · have e2 : stepR rows t x2 = x2 := if_pos b
          have hh := ih (i + 1) (by omega) x2 l2
          rw [e2]
          simp (disch := omega) [b]
          refine .reLoop ?_
          simp at hh ⊢
          exact hh
        · have e2 : stepR rows t x2 = t := if_neg b
          have hh := ih (i + 1) (by omega) t ht
          rw [e2]
          simp (disch := omega) [b]
          refine .reLoop ?_
          simp at hh ⊢
          exact hh
  have q2 := eq_true (hk.of h0)
  have q3 := hN _ (List.getElem_mem h0)
  have k0 := p_r10_single (Γ := Γ) N 0 49 hNb
  refine .run 60 c_r10_most (by simp) ?_
  simp (disch := omega) [h0, q2, q3]
  refine .call 60 (by simp) k0 ?_
  simp
  refine .inLoop ?_
  have hh := key N 0 (by omega) (sinF N 0 49) (sinF_len N 0 49)
  simp [q2] at hh ⊢
  exact hh

theorem p_r10_truth (r : List Fm) {k : Nat} (hk : Kd 3 k r) : PureCon Tryd.prog Γ n_r10_truth [.list false k (r.map eFm)] (.bool (truthF r)) := by
  refine .run 60 c_r10_truth (by simp) ?_
  match r, hk with
  | [], hk =>
    simp
    exact .back (by simp [truthF])
  | [f], hk =>
    obtain rfl : k = 3 := hk.of (i := 0) (by simp)
    by_cases h : f.kind = 1
    · simp [h]
      exact .back (by simp [truthF, h])
    · simp [h]
      exact .back (by simp [truthF, h])
  | f :: g :: r, hk =>
    have e : ¬ (r.length : Int) + 1 + 1 = 1 := by omega
    simp [e]
    exact .back (by simp [truthF])
def andR (l r : List Fm) : List Fm := headF (l.length + (if truthF r = true then 0 else 1)) ++ l ++ restF r
set_option maxRecDepth 8000 in
theorem p_r10_and (l : List Fm) {kl : Nat} (hkl : Kd 3 kl l) (hll : l.length < 2 ^ 30) (r : List Fm) {kr : Nat} (hkr : Kd 3 kr r) (hr : r.length < 2 ^ 30) :
    PureCon Tryd.prog Γ n_r10_and [.list false kl (l.map eFm), .list false kr (r.map eFm)] (.own 3 t_r10_Form_2 ((andR l r).map eFm)) := by
  have ht := p_r10_truth (Γ := Γ) r hkr
  have hkl' : kl = 3 ∨ l = [] := hkl
  have hkr' : kr = 3 ∨ r = [] := hkr
  refine .run 60 c_r10_and (by simp) ?_
  simp
  refine .call 60 (by simp) ht ?_
  unfold andR headF restF
  have b1 : l.length * 24 ≤ 140737488355328 := by omega
  have b2 : (1 + l.length) * 24 ≤ 140737488355328 := by omega
  have b3 : (1 + l.length + r.length) * 24 ≤ 140737488355328 := by omega
  have b4 : r.length * 24 ≤ 140737488355328 := by omega
  have b5 : (l.length + r.length) * 24 ≤ 140737488355328 := by omega
  have c1 : (1 + l.length = l.length + 1) = True := eq_true (by omega)
  cases h : truthF r with
  | true =>
    by_cases h1 : 1 < l.length
    · have h1' : (1 : Int) < l.length := by omega
      simp (disch := omega) [h1, h1', hkl', b1, b2]
      refine .call 60 (by simp) ht ?_
      simp [h]
      exact .back (by simp [c1])
    · have h1' : ¬ (1 : Int) < l.length := by omega
      simp (disch := omega) [h1, h1', hkl', b1, b2]
      refine .call 60 (by simp) ht ?_
      by_cases hl0 : l = []
      · subst hl0
        simp [h]
        exact .back (by simp)
      · simp [h, hl0]
        exact .back (by simp)
  | false =>
    by_cases hl0 : l = []
    · subst hl0
      simp (disch := omega) [hkl']
      refine .call 60 (by simp) ht ?_
      by_cases hr0 : r = []
      · subst hr0
        simp [h]
        exact .back (by simp)
      · obtain rfl : kr = 3 := hkr'.resolve_right hr0
        simp [h, hr0, b4]
        exact .back (by simp)
    · have h0 : 0 < l.length := List.length_pos_iff.2 hl0
      have h1' : (1 : Int) < (l.length : Int) + 1 := by omega
      obtain rfl : kl = 3 := hkl'.resolve_right hl0
      simp (disch := omega) [h0, h1', b1, b2]
      refine .call 60 (by simp) ht ?_
      by_cases hr0 : r = []
      · subst hr0
        simp [h, c1, b2]
        exact .back (by simp [c1])
      · obtain rfl : kr = 3 := hkr'.resolve_right hr0
        have c2 : (1 + l.length + r.length = l.length + r.length + 1) = True := eq_true (by omega)
        simp [h, hr0, b3, c1]
        exact .back (by simp [c2])
end Go.Proofs.YtpjpaojjagffoaaDoor
/- Factors: plain laws: the reference's rows are the program's literals. -/
namespace Go.Proofs.YtpjpaojjagffoaaDoor
open Go.AM Go.Proofs
set_option linter.unusedSimpArgs false
set_option linter.unusedVariables false

/-- What is at a place of a row without literals. -/
theorem cutL_get : ∀ (l : List Li) (s : Bs) (k : Nat), k < s.length → (cutL l s)[k]? = if (∃ x ∈ l, x.1 = k) then some 45 else s[k]?
  | [], s, k, hk => by simp [cutL]
  | x :: l, s, k, hk => by
    have e : cutL (x :: l) s = cutL l (s.set x.1 45) := rfl
    rw [e, cutL_get l _ k (by simpa using hk)]
    by_cases h : ∃ y ∈ l, y.1 = k
    · rw [if_pos h, if_pos (by obtain ⟨y, h1, h2⟩ := h; exact ⟨y, by simp [h1], h2⟩)]
    · rw [if_neg h]
      by_cases h2 : x.1 = k
      · rw [if_pos ⟨x, by simp, h2⟩, h2, List.getElem?_set_self hk]
      · rw [if_neg (by rintro ⟨y, h3, h4⟩; rcases List.mem_cons.1 h3 with rfl | h3
                       · exact h2 h4
                       · exact h ⟨y, h3, h4⟩), List.getElem?_set_ne h2]
theorem witF_cut {s t : Bs} (h : s.length = t.length) : witF s t = cutL (litsF t 0) s := by
  apply List.ext_getElem?
  intro k
  by_cases hk : k < s.length
  · have hk2 : k < t.length := by omega
    rw [cutL_get _ _ _ hk, witF, List.getElem?_zipWith, List.getElem?_eq_getElem hk, List.getElem?_eq_getElem hk2]
    by_cases hc : t[k] = 45
    · have : ¬ ∃ x ∈ litsF t 0, x.1 = k := by
        rintro ⟨x, h1, rfl⟩
        have h2 := litsF_mem.1 h1
        rw [Nat.sub_zero, List.getElem?_eq_getElem hk2, Option.some.injEq] at h2
        exact h2.2.2 (by rw [← h2.2.1]; exact hc)
      rw [if_neg this]; simp [hc]
    · have : ∃ x ∈ litsF t 0, x.1 = k := ⟨(k, t[k]), litsF_mem.2 ⟨by omega, by simp, hc⟩, rfl⟩
      rw [if_pos this]; simp [hc]
  · rw [List.getElem?_eq_none (by simp [witF]; omega), List.getElem?_eq_none (by rw [cutL_len]; omega)]
theorem litsF_cons (c : UInt8) (s : Bs) (i : Nat) : litsF (c :: s) i = if c = 45 then litsF s (i + 1) else (i, c) :: litsF s (i + 1) := rfl
theorem litsF_com : ∀ (s t : Bs) (i : Nat), s.length = t.length → litsF (comS s t) i = (litsF s i).filter fun x => decide (x ∈ litsF t i)
  | [], [], i, _ => rfl
  | a :: s, b :: t, i, h => by
    have h' : s.length = t.length := by simpa using h
    have ih := litsF_com s t (i + 1) h'
    have e : comS (a :: s) (b :: t) = (if a = b then a else 45) :: comS s t := rfl
    have hlt : ∀ x ∈ litsF s (i + 1), (x ∈ litsF (b :: t) i ↔ x ∈ litsF t (i + 1)) := fun x hx => by
      have := (litsF_mem.1 hx).1
      rw [litsF]
      split
      · exact Iff.rfl
      · rw [List.mem_cons]
        exact ⟨fun hh => hh.resolve_left fun he => by rw [he] at this; simp only at this; omega, .inr⟩
    have hf : (litsF s (i + 1)).filter (fun x => decide (x ∈ litsF (b :: t) i)) = litsF (comS s t) (i + 1) := by
      rw [ih]
      refine List.filter_congr fun x hx => ?_
      simp [hlt x hx]
    rw [e]
    by_cases ha : a = 45
    · have e1 : (if a = b then a else 45) = 45 := by split <;> simp [ha]
      rw [e1, litsF_cons 45, if_pos rfl, litsF_cons a, if_pos ha, hf]
    · by_cases hb : a = b
      · rw [if_pos hb, litsF_cons a, if_neg ha, litsF_cons a, if_neg ha, List.filter_cons, if_pos, hf]
        simp only [decide_eq_true_eq]
        rw [litsF, if_neg (by rw [← hb]; exact ha), ← hb]
        exact List.mem_cons_self ..
      · rw [if_neg hb, litsF_cons 45, if_pos rfl, litsF_cons a, if_neg ha, List.filter_cons, if_neg, hf]
        simp only [decide_eq_true_eq]
        intro hm
        have := litsF_mem.1 hm
        simp only [Nat.sub_self, List.getElem?_cons_zero, Option.some.injEq] at this
        exact hb this.2.1.symm
theorem litsF_comF {N : Nat} : ∀ (r : List Bs) (s : Bs), s.length = N → (∀ t ∈ r, t.length = N) → litsF (r.foldl comS s) 0 = (litsF s 0).filter fun x => decide (∀ t ∈ r, x ∈ litsF t 0)
  | [], s, _, _ => by rw [List.foldl_nil, List.filter_eq_self.2 (by simp)]
  | t :: r, s, hs, hr => by
    have ht := hr t (by simp)
    rw [List.foldl_cons, litsF_comF r (comS s t) (by rw [comS_len (by omega)]; exact hs) fun u hu => hr u (by simp [hu]), litsF_com s t 0 (by omega), List.filter_filter]
    refine List.filter_congr fun x _ => ?_
    rw [Bool.eq_iff_iff]
    simp only [Bool.and_eq_true, decide_eq_true_eq, List.mem_cons, forall_eq_or_imp]
    exact And.comm
theorem com_common {N : Nat} (s : Bs) (r : List Bs) (hN : ∀ t ∈ s :: r, t.length = N) : litsF (comF (s :: r)) 0 = commonF (s :: r) s := by
  rw [comF, litsF_comF r s (hN s (by simp)) fun t ht => hN t (by simp [ht]), commonF]
  refine List.filter_congr fun x hx => ?_
  rw [Bool.eq_iff_iff, decide_eq_true_iff, decide_eq_true_iff, countF_all]
  simp only [List.mem_cons, forall_eq_or_imp]
  exact ⟨fun h => ⟨hx, h⟩, fun h => h.2⟩
theorem all_zip (f : UInt8 → UInt8 → Bool) {s t : Bs} (h : s.length = t.length) : (List.zipWith f s t).all id = true ↔ ∀ k (h1 : k < s.length) (h2 : k < t.length), f s[k] t[k] = true := by
  rw [List.all_eq_true]
  constructor
  · intro h1 k h2 h3
    have := h1 (f s[k] t[k]) (by
      have h4 : k < (List.zipWith f s t).length := by simp; omega
      have := List.getElem_mem h4
      rwa [List.getElem_zipWith] at this)
    simpa using this
  · intro h1 x hx
    obtain ⟨k, hk, rfl⟩ := List.getElem_of_mem hx
    rw [List.getElem_zipWith]
    simpa using h1 k (by simp at hk; omega) (by simp at hk; omega)
theorem sinF_get {n a : Nat} {c : UInt8} {k : Nat} (h : k < (sinF n a c).length) : (sinF n a c)[k] = if k = a then c else 45 := by simp [sinF]
theorem hasR_sin {N a : Nat} {c : UInt8} (ha : a < N) (hc : c ≠ 45) {s : Bs} (hs : s.length = N) : hasR s (sinF N a c) = hasF (a, c) s := by
  rw [Bool.eq_iff_iff, hasR, all_zip _ (by rw [hs, sinF_len]), hasF, decide_eq_true_iff, litsF_mem]
  simp only [sinF_get, Nat.sub_zero]
  constructor
  · intro h
    have := h a (by omega) (by rw [sinF_len]; omega)
    simp only [if_true, Bool.or_eq_true, decide_eq_true_eq] at this
    exact ⟨by omega, by rw [List.getElem?_eq_getElem (by omega)]; rw [this.resolve_left hc], hc⟩
  · rintro ⟨_, h2, _⟩ k h3 h4
    by_cases hk : k = a
    · subst hk
      rw [List.getElem?_eq_getElem h3, Option.some.injEq] at h2
      simp [h2]
    · simp [hk]
theorem litsF_sin {N a : Nat} {c : UInt8} (ha : a < N) (hc : c ≠ 45) : litsF (sinF N a c) 0 = [(a, c)] := by
  have h1 : ∀ x, x ∈ litsF (sinF N a c) 0 ↔ x = (a, c) := fun x => by
    rw [litsF_mem]
    constructor
    · rintro ⟨_, h2, h3⟩
      rw [Nat.sub_zero] at h2
      obtain ⟨h4, h5⟩ := List.getElem?_eq_some_iff.1 h2
      rw [sinF_get] at h5
      by_cases hk : x.1 = a
      · rw [if_pos hk] at h5; exact Prod.ext hk h5.symm
      · rw [if_neg hk] at h5; exact absurd h5.symm h3
    · rintro rfl
      refine ⟨Nat.zero_le _, ?_, hc⟩
      have h4 : a < (sinF N a c).length := by rw [sinF_len]; exact ha
      rw [Nat.sub_zero, List.getElem?_eq_getElem h4, sinF_get, if_pos rfl]
  have hp := litsF_pair (sinF N a c) 0
  generalize litsF (sinF N a c) 0 = l at *
  match l, h1, hp with
  | [], h1, _ => exact absurd ((h1 (a, c)).2 rfl) (by simp)
  | [x], h1, _ => rw [(h1 x).1 (by simp)]
  | x :: y :: l, h1, hp =>
    have e1 := (h1 x).1 (by simp)
    have e2 := (h1 y).1 (by simp)
    rw [List.pairwise_cons] at hp
    exact absurd (by rw [e1, e2]) (hp.1 y (by simp))
theorem manyR_sin {N a : Nat} {c : UInt8} (ha : a < N) (hc : c ≠ 45) : ∀ {rows : List Bs}, (∀ s ∈ rows, s.length = N) → manyR (sinF N a c) rows = countF (a, c) rows
  | [], _ => rfl
  | s :: r, h => by rw [manyR, countF, hasR_sin ha hc (h s (by simp)), manyR_sin ha hc fun t ht => h t (by simp [ht])]
/-- Both tell the same literal, if there is one. -/
theorem step_same {rows : List Bs} {N : Nat} (hN : ∀ s ∈ rows, s.length = N) {b : Li × Nat} {t : Bs} (h1 : b.2 = manyR t rows) (h2 : 0 < b.2 → t = sinF N b.1.1 b.1.2 ∧ b.1.1 < N ∧ b.1.2 ≠ 45) {a : Nat} {c : UInt8} (ha : a < N) (hc : c ≠ 45) :
    (mostS rows b (a, c)).2 = manyR (stepR rows t (sinF N a c)) rows ∧ (0 < (mostS rows b (a, c)).2 → stepR rows t (sinF N a c) = sinF N (mostS rows b (a, c)).1.1 (mostS rows b (a, c)).1.2 ∧ (mostS rows b (a, c)).1.1 < N ∧ (mostS rows b (a, c)).1.2 ≠ 45) := by
  have e := manyR_sin ha hc hN
  unfold mostS stepR
  rw [h1, e]
  by_cases h : manyR t rows < countF (a, c) rows
  · rw [if_pos h, if_pos h]
    exact ⟨e.symm, fun _ => ⟨rfl, ha, hc⟩⟩
  · rw [if_neg h, if_neg h]
    exact ⟨h1, fun h3 => h2 h3⟩
theorem most_same {rows : List Bs} {N : Nat} (hN : ∀ s ∈ rows, s.length = N) : ∀ (n i : Nat) (b : Li × Nat) (t : Bs), i + n = N → b.2 = manyR t rows → (0 < b.2 → t = sinF N b.1.1 b.1.2 ∧ b.1.1 < N ∧ b.1.2 ≠ 45) →
    (mostA rows n i b).2 = manyR (refA rows N n i t) rows ∧ (0 < (mostA rows n i b).2 → refA rows N n i t = sinF N (mostA rows n i b).1.1 (mostA rows n i b).1.2 ∧ (mostA rows n i b).1.1 < N ∧ (mostA rows n i b).1.2 ≠ 45)
  | 0, i, b, t, _, h1, h2 => ⟨h1, h2⟩
  | n + 1, i, b, t, hi, h1, h2 => by
    have s1 := step_same hN h1 h2 (a := i) (c := 49) (by omega) (by decide)
    have s2 := step_same hN s1.1 s1.2 (a := i) (c := 48) (by omega) (by decide)
    exact most_same hN n (i + 1) _ _ (by omega) s2.1 s2.2
theorem ref_most {rows : List Bs} {N : Nat} (hN : ∀ s ∈ rows, s.length = N) (h0 : 0 < N) : (mostF rows N).2 = manyR (refA rows N N 0 (sinF N 0 49)) rows ∧ (0 < (mostF rows N).2 → refA rows N N 0 (sinF N 0 49) = sinF N (mostF rows N).1.1 (mostF rows N).1.2 ∧ (mostF rows N).1.1 < N ∧ (mostF rows N).1.2 ≠ 45) := by
  obtain ⟨n, rfl⟩ : ∃ n, N = n + 1 := ⟨N - 1, by omega⟩
  have e := manyR_sin (N := n + 1) (a := 0) (c := 49) (by omega) (by decide) hN
  have e1 : stepR rows (sinF (n + 1) 0 49) (sinF (n + 1) 0 49) = sinF (n + 1) 0 49 := by unfold stepR; split <;> rfl
  have s1 : (mostS rows ((0, 0), 0) (0, 49)).2 = manyR (sinF (n + 1) 0 49) rows ∧ (0 < (mostS rows ((0, 0), 0) (0, 49)).2 → sinF (n + 1) 0 49 = sinF (n + 1) (mostS rows ((0, 0), 0) (0, 49)).1.1 (mostS rows ((0, 0), 0) (0, 49)).1.2 ∧ (mostS rows ((0, 0), 0) (0, 49)).1.1 < n + 1 ∧ (mostS rows ((0, 0), 0) (0, 49)).1.2 ≠ 45) := by
    rw [e]
    unfold mostS
    by_cases h : 0 < countF (0, 49) rows
    · rw [if_pos h]; exact ⟨rfl, fun _ => ⟨rfl, by omega, by simp⟩⟩
    · rw [if_neg h]; exact ⟨by simp only; omega, fun h2 => absurd h2 (by simp)⟩
  have s2 := step_same hN s1.1 s1.2 (a := 0) (c := 48) (by omega) (by decide)
  have := most_same hN n 1 _ _ (by omega) s2.1 s2.2
  have e3 : refA rows (n + 1) (n + 1) 0 (sinF (n + 1) 0 49) = refA rows (n + 1) n 1 (stepR rows (sinF (n + 1) 0 49) (sinF (n + 1) 0 48)) := by rw [refA, e1]
  rw [e3]
  exact this
theorem andR_all (l : List Li) (r : List Fm) (h : 0 < r.length) : andR (l.map nodeF) r = allF l r := by
  unfold andR allF
  have e : min (restF r).length 1 = if truthF r = true then 0 else 1 := by
    unfold restF
    split
    · rfl
    · omega
  rw [e, List.length_map]
theorem andR_yes (l : List Li) : andR (l.map nodeF) [⟨1, 0, 0⟩] = allF l [] := by
  unfold andR allF
  simp [truthF, restF]
theorem factorF_pos (f : Nat) (rows : List Bs) : 0 < (factorF (f + 1) rows).length := by
  cases rows with
  | nil => simp [factorF]
  | cons s r =>
    rw [factorF]
    split
    · simp
    · split
      · rename_i h
        have : 0 < (commonF (s :: r) s).length := List.length_pos_iff.2 h
        simp only [allF, List.length_append, List.length_map]; omega
      · split <;> simp [orF]
end Go.Proofs.YtpjpaojjagffoaaDoor
/- Factors: the reference's factor. -/
namespace Go.Proofs.YtpjpaojjagffoaaDoor
open Go.AM Go.Proofs
variable {Γ : Nat → Option AV}
set_option linter.unusedSimpArgs false
set_option linter.unusedVariables false

/-- Rows of signs. -/
def SgnR (rows : List Bs) : Prop := ∀ s ∈ rows, s.all sgnC = true
theorem cutL_sgn : ∀ (l : List Li) (s : Bs), s.all sgnC = true → (cutL l s).all sgnC = true
  | [], s, h => h
  | x :: l, s, h => by
    have e : cutL (x :: l) s = cutL l (s.set x.1 45) := rfl
    rw [e]
    refine cutL_sgn l _ (List.all_eq_true.2 fun c hc => ?_)
    rcases List.mem_or_eq_of_mem_set hc with h1 | h1
    · exact List.all_eq_true.1 h c h1
    · rw [h1]; rfl
theorem div_sgn {l : List Li} {rows : List Bs} (h : SgnR rows) : SgnR (divF l rows) := fun s hs => by
  simp only [divF, List.mem_map] at hs
  obtain ⟨t, h1, rfl⟩ := hs
  exact cutL_sgn l t (h t h1)
theorem keep_sgn {p : Bs → Bool} {rows : List Bs} (h : SgnR rows) : SgnR (keepF p rows) := fun s hs => h s (List.mem_filter.1 hs).1

/-- An or of ands. -/
theorem f_ror (rows : List Bs) (hl : rows.length ≤ 128) (hlen : ∀ t ∈ rows, t.length ≤ 40) (hg : SgnR rows) : ∀ n i : Nat, i + n = rows.length → ∀ out : List Fm, out.length ≤ 42 * i + 1 →
    Fins Tryd.prog Γ (r10_factor_L13 (.list false 1 (rows.map .str)) (.sl 1 0 out.length) (.int .i64 i) [.row 3 t_r10_Form_2 [] none true false, .row 3 t_r10_Form_2 (out.map eFm) none true false])
      (.ret (.own 3 t_r10_Form_2 ((out ++ (rows.drop i).flatMap fun s => allF (litsF s 0) []).map eFm))) := by
  intro n
  induction n with
  | zero =>
    intro i hi out ho
    have q1 : ¬ i < rows.length := by omega
    rw [List.drop_eq_nil_of_le (by omega), List.flatMap_nil, List.append_nil]
    refine .go 60 ?_
    simp [q1]
    exact .back (by simp)
  | succ n ih =>
    intro i hi out ho
    have q1 : i < rows.length := by omega
    have q3 := hlen _ (List.getElem_mem q1)
    have hcl := litsF_le rows[i] 0
    have hal := allF_len (litsF rows[i] 0) []
    have k1 := p_r10_lits (Γ := Γ) rows[i] (by omega) (hg _ (List.getElem_mem q1))
    have k2 := p_r10_and (Γ := Γ) ((litsF rows[i] 0).map nodeF) (.inl rfl : Kd 3 3 _) (by simp; omega) [⟨1, 0, 0⟩] (.inl rfl : Kd 3 3 _) (by simp)
    rw [andR_yes] at k2
    have hh := ih (i + 1) (by omega) (out ++ allF (litsF rows[i] 0) []) (by simp only [List.length_append, List.length_nil] at hal ⊢; omega)
    rw [List.drop_eq_getElem_cons q1, List.flatMap_cons, ← List.append_assoc]
    generalize (litsF rows[i] 0).map nodeF = L at *
    have hb : (allF (litsF rows[i] 0) []).length ≤ 41 := by simp only [List.length_nil] at hal; omega
    generalize allF (litsF rows[i] 0) [] = M at *
    have hb24 : (out.length + M.length) * 24 ≤ 140737488355328 := by omega
    refine .go 60 ?_
    simp (disch := omega) [q1]
    refine .call 60 (by simp) k1 ?_
    simp
    refine .call 60 (by simp) k2 ?_
    by_cases hM : M = []
    · subst hM
      simp at hb24
      simp (disch := omega) [hb24]
      refine .reLoop ?_
      simp
      refine .drop 2 rfl (by simp) (by simp) (by simp) ?_
      simp at hh ⊢
      exact hh
    · simp (disch := omega) [hb24, hM]
      refine .reLoop ?_
      simp
      refine .drop 2 rfl (by simp) (by simp) (by simp) ?_
      refine .reset (i := 1) rfl (by simp) (by simp) (by simp) ?_
      simp at hh ⊢
      exact hh

theorem keepF_cons (p : Bs → Bool) (y : Bs) (l : List Bs) : keepF p (y :: l) = if p y = true then keepF p l else y :: keepF p l := by
  cases h : p y <;> simp [keepF, h]
/-- Rows that have a literal, and those that have not. -/
theorem f_split (rows : List Bs) (hl : rows.length ≤ 128) (N : Nat) (hNb : N ≤ 40) (hN : ∀ t ∈ rows, t.length = N) (t : Bs) (ht : t.length = N) (x : Li) (hx : ∀ s ∈ rows, hasR s t = hasF x s) (R : AM.Out)
    (hend : Fins Tryd.prog Γ (r10_factor_E2 (.str t) (.sl 1 0 1) (.sl 2 0 (keepF (fun s => !hasF x s) rows).length) (.sl 3 0 (keepF (hasF x) rows).length) [.row 3 t_r10_Form_2 [] none true false, .row 3 t_r10_Form_2 [eFm ⟨4, 0, 2⟩] none true false, .row 1 t_string ((keepF (fun s => !hasF x s) rows).map .str) none true false, .row 1 t_string ((keepF (hasF x) rows).map .str) none true false]) R) :
    ∀ n i : Nat, i + n = rows.length → ∀ a b : List Bs, a.length ≤ i → b.length ≤ i → a ++ keepF (fun s => !hasF x s) (rows.drop i) = keepF (fun s => !hasF x s) rows → b ++ keepF (hasF x) (rows.drop i) = keepF (hasF x) rows →
    Fins Tryd.prog Γ (r10_factor_L2 (.list false 1 (rows.map .str)) (.str t) (.sl 1 0 1) (.sl 2 0 a.length) (.sl 3 0 b.length) (.int .i64 i) [.row 3 t_r10_Form_2 [] none true false, .row 3 t_r10_Form_2 [eFm ⟨4, 0, 2⟩] none true false, .row 1 t_string (a.map .str) none true false, .row 1 t_string (b.map .str) none true false]) R := by
  intro n
  induction n with
  | zero =>
    intro i hi a b ha hb ea eb
    have q1 : ¬ i < rows.length := by omega
    rw [List.drop_eq_nil_of_le (by omega)] at ea eb
    have e1 : keepF (fun s => !hasF x s) [] = [] := rfl
    have e2 : keepF (hasF x) [] = [] := rfl
    rw [e1, List.append_nil] at ea
    rw [e2, List.append_nil] at eb
    rw [← ea, ← eb] at hend
    refine .goS 60 ?_
    simp [q1]
    refine .reach (.exit rfl rfl) ?_
    simp at hend ⊢
    exact hend
  | succ n ih =>
    intro i hi a b ha hb ea eb
    have q1 : i < rows.length := by omega
    have hl1 := hN _ (List.getElem_mem q1)
    have hc := p_r10_has (Γ := Γ) rows[i] t (by omega) (by omega)
    have hxi := hx _ (List.getElem_mem q1)
    rw [hxi] at hc
    rw [List.drop_eq_getElem_cons q1, keepF_cons] at ea eb
    refine .go 60 ?_
    simp (disch := omega) [q1]
    refine .call 60 (by simp) hc ?_
    cases h : hasF x rows[i] with
    | true =>
      have hh := ih (i + 1) (by omega) (a ++ [rows[i]]) b (by simp; omega) (by omega) (by rw [h, if_neg (by simp)] at ea; rw [← ea, List.append_assoc]; rfl) (by rw [h, if_pos rfl] at eb; exact eb)
      simp (disch := omega)
      refine .reLoop ?_
      simp
      refine .drop 4 rfl (by simp) (by simp) (by simp) ?_
      refine .reset (i := 2) rfl (by simp) (by simp) (by simp) ?_
      simp at hh ⊢
      exact hh
    | false =>
      have hh := ih (i + 1) (by omega) a (b ++ [rows[i]]) (by omega) (by simp; omega) (by rw [h, if_pos (by simp)] at ea; exact ea) (by rw [h, if_neg (by simp)] at eb; rw [← eb, List.append_assoc]; rfl)
      simp (disch := omega)
      refine .reLoop ?_
      simp
      refine .drop 4 rfl (by simp) (by simp) (by simp) ?_
      refine .reset (i := 3) rfl (by simp) (by simp) (by simp) ?_
      simp at hh ⊢
      exact hh

theorem comS_sgn {s t : Bs} (h : s.all sgnC = true) : (comS s t).all sgnC = true := by
  rw [List.all_eq_true]
  intro c hc
  obtain ⟨k, hk, rfl⟩ := List.getElem_of_mem hc
  have hk1 : k < s.length := by simp [comS] at hk; omega
  have hk2 : k < t.length := by simp [comS] at hk; omega
  have e : (comS s t)[k] = if s[k] = t[k] then s[k] else 45 := by simp [comS]
  rw [e]
  split
  · exact List.all_eq_true.1 h _ (List.getElem_mem hk1)
  · rfl
theorem comF_sgn : ∀ (r : List Bs) (s : Bs), s.all sgnC = true → (r.foldl comS s).all sgnC = true
  | [], s, h => h
  | t :: r, s, h => comF_sgn r _ (comS_sgn h)
theorem refA_len (rows : List Bs) (N : Nat) : ∀ (n i : Nat) (t : Bs), t.length = N → (refA rows N n i t).length = N
  | 0, _, t, h => h
  | n + 1, i, t, h => by
    rw [refA]
    refine refA_len rows N n _ _ ?_
    have h1 : ∀ (u v : Bs), u.length = N → v.length = N → (stepR rows u v).length = N := fun u v hu hv => by unfold stepR; split <;> assumption
    exact h1 _ _ (h1 _ _ h (sinF_len ..)) (sinF_len ..)
set_option maxRecDepth 8000 in
theorem p_r10_factor1 (f n : Nat) (s : Bs) (r : List Bs) (hw : RowsOf n (s :: r)) (hg : SgnR (s :: r))
    (ih : ∀ rows : List Bs, costF rows < costF (s :: r) → RowsOf n rows → SgnR rows → ∀ k, Kd 1 k rows → PureCon Tryd.prog Γ n_r10_factor [.list false k (rows.map .str)] (.own 3 t_r10_Form_2 ((factorF (f + 1) rows).map eFm))) :
    PureCon Tryd.prog Γ n_r10_factor [.list false 1 ((s :: r).map .str)] (.own 3 t_r10_Form_2 ((factorF (f + 2) (s :: r)).map eFm)) := by
  obtain ⟨b1, b2, b3⟩ := hw
  have hlen : ∀ t ∈ s :: r, t.length < 2 ^ 30 := fun t ht => by rw [b2 t ht]; omega
  have hs1 := hlen s (by simp)
  have hcst := RowsOf.cost ⟨b1, b2, b3⟩
  rw [factorF]
  generalize hR : (if anyB freeF (s :: r) = true then _ else _ : List Fm) = R
  have key : ∀ m i : Nat, i + m = (s :: r).length → anyB freeF ((s :: r).drop i) = anyB freeF (s :: r) → Fins Tryd.prog Γ (r10_factor_L27 (.list false 1 ((s :: r).map .str)) (.int .i64 i) [.row 3 t_r10_Form_2 [] none true false]) (.ret (.own 3 t_r10_Form_2 (R.map eFm))) := by
    intro m
    induction m with
    | zero =>
      intro i hi hb
      have q1 : ¬ i < (s :: r).length := by omega
      rw [List.drop_eq_nil_of_le (by omega), anyB_nil] at hb
      rw [← hb, if_neg (by simp)] at hR
      have k1 := p_r10_common (Γ := Γ) s r n b2 (by omega) (by simp at b1; omega)
      have hcl : (comF (s :: r)).length = n := comF_len (b2 s (by simp)) fun t ht => b2 t (by simp [ht])
      have hcc := com_common s r b2
      have k2 := p_r10_free (Γ := Γ) (comF (s :: r)) (by omega)
      have hcs : (comF (s :: r)).all sgnC = true := comF_sgn r s (hg s (by simp))
      have k3 := p_r10_lits (Γ := Γ) (comF (s :: r)) (by omega) hcs
      have k4 := p_r10_divided (Γ := Γ) (s :: r) (comF (s :: r)) (.inl rfl : Kd 1 1 _) (by omega) (fun t ht => by rw [b2 t ht, hcl]) (by omega)
      have e4 : ((s :: r).map fun t => witF t (comF (s :: r))) = divF (commonF (s :: r) s) (s :: r) := by
        rw [divF]
        refine List.map_congr_left fun t ht => ?_
        rw [witF_cut (by rw [b2 t ht, hcl]), hcc]
      rw [e4] at k4
      rw [hcc] at k3
      have hfc : freeF (comF (s :: r)) = decide (commonF (s :: r) s = []) := by
        rw [Bool.eq_iff_iff, cost_free, hcc, decide_eq_true_iff]
      rw [hfc] at k2
      generalize comF (s :: r) = com at *
      simp at q1 k1
      have q1' : ¬ ((i : Int) < (r.length : Int) + 1) := by omega
      refine .go 60 ?_
      simp [q1']
      refine .call 60 (by simp) k1 ?_
      simp
      refine .call 60 (by simp) k2 ?_
      by_cases hc : commonF (s :: r) s ≠ []
      · rw [if_pos hc] at hR
        have hcost := cost_common hc
        have hpos : 0 < (commonF (s :: r) s).length := List.length_pos_iff.2 hc
        have hdw : RowsOf n (divF (commonF (s :: r) s) (s :: r)) := ⟨by simpa [divF] using b1, fun t ht => by
          simp only [divF, List.mem_map] at ht
          obtain ⟨t0, h1, rfl⟩ := ht
          rw [cutL_len]; exact b2 _ h1, b3⟩
        have k5 := ih _ (by omega) hdw (div_sgn hg) 1 (.inl rfl)
        have hfl := factorF_len (f + 1) (divF (commonF (s :: r) s) (s :: r))
        have hclen : (commonF (s :: r) s).length ≤ 40 := by
          have h1 : (commonF (s :: r) s).length ≤ (litsF s 0).length := List.length_filter_le _ _
          have h2 := litsF_le s 0
          have := b2 s (by simp)
          omega
        have k6 := p_r10_and (Γ := Γ) ((commonF (s :: r) s).map nodeF) (.inl rfl : Kd 3 3 _) (by simp; omega) (factorF (f + 1) (divF (commonF (s :: r) s) (s :: r))) (.inl rfl : Kd 3 3 _) (by omega)
        rw [andR_all _ _ (factorF_pos f _)] at k6
        have hcd : decide (commonF (s :: r) s = []) = false := decide_eq_false hc
        simp [hcd]
        generalize commonF (s :: r) s = c at *
        subst hR
        refine .call 60 (by simp) k3 ?_
        simp at k4
        simp
        refine .call 60 (by simp) k4 ?_
        simp
        refine .call 60 (by simp) k5 ?_
        simp
        refine .call 60 (by simp) k6 ?_
        simp
        exact .back (by simp)
      · rw [if_neg hc] at hR
        have hc0 : commonF (s :: r) s = [] := by simpa using hc
        have h0 : 0 < n := by
          have h1 := anyB_no.1 hb.symm s (by simp)
          refine Decidable.byContradiction fun hn => ?_
          have h2 : s = [] := List.length_eq_zero_iff.1 (by rw [b2 s (by simp)]; omega)
          rw [h2] at h1
          cases h1
        obtain ⟨m1, m2⟩ := ref_most b2 h0
        have k5 := p_r10_most (Γ := Γ) (s :: r) (.inl rfl : Kd 1 1 _) (by omega) n (by simp) b2 (by omega)
        have hsn : s.length = n := b2 s (by simp)
        rw [hsn] at hR
        have hbl := refA_len (s :: r) n n 0 (sinF n 0 49) (sinF_len ..)
        generalize refA (s :: r) n n 0 (sinF n 0 49) = by' at *
        have k6 := p_r10_many (Γ := Γ) (s :: r) by' (.inl rfl : Kd 1 1 _) (by omega) (fun t ht => by rw [b2 t ht, hbl]) (by omega)
        rw [← m1] at k6
        simp at k5 k6
        simp [hc0]
        first
          | (refine .call 3 (by simp) k5 ?_; simp; refine .litRow 60 t_r10_Form_2 (es := [eFm ⟨4, 0, 2⟩]) (by simp) (by simp) ?_)
          | (refine .call 4 (by simp) k5 ?_; simp; refine .litRow 60 t_r10_Form_2 (es := [eFm ⟨4, 0, 2⟩]) (by simp) (by simp) ?_)
          | (refine .call 5 (by simp) k5 ?_; simp; refine .litRow 60 t_r10_Form_2 (es := [eFm ⟨4, 0, 2⟩]) (by simp) (by simp) ?_)
          | (refine .call 6 (by simp) k5 ?_; simp; refine .litRow 60 t_r10_Form_2 (es := [eFm ⟨4, 0, 2⟩]) (by simp) (by simp) ?_)
          | (refine .call 7 (by simp) k5 ?_; simp; refine .litRow 60 t_r10_Form_2 (es := [eFm ⟨4, 0, 2⟩]) (by simp) (by simp) ?_)
          | (refine .call 8 (by simp) k5 ?_; simp; refine .litRow 60 t_r10_Form_2 (es := [eFm ⟨4, 0, 2⟩]) (by simp) (by simp) ?_)
          | (refine .call 9 (by simp) k5 ?_; simp; refine .litRow 60 t_r10_Form_2 (es := [eFm ⟨4, 0, 2⟩]) (by simp) (by simp) ?_)
          | (refine .call 10 (by simp) k5 ?_; simp; refine .litRow 60 t_r10_Form_2 (es := [eFm ⟨4, 0, 2⟩]) (by simp) (by simp) ?_)
          | (refine .call 11 (by simp) k5 ?_; simp; refine .litRow 60 t_r10_Form_2 (es := [eFm ⟨4, 0, 2⟩]) (by simp) (by simp) ?_)
          | (refine .call 12 (by simp) k5 ?_; simp; refine .litRow 60 t_r10_Form_2 (es := [eFm ⟨4, 0, 2⟩]) (by simp) (by simp) ?_)
          | (refine .call 13 (by simp) k5 ?_; simp; refine .litRow 60 t_r10_Form_2 (es := [eFm ⟨4, 0, 2⟩]) (by simp) (by simp) ?_)
          | (refine .call 14 (by simp) k5 ?_; simp; refine .litRow 60 t_r10_Form_2 (es := [eFm ⟨4, 0, 2⟩]) (by simp) (by simp) ?_)
          | (refine .call 15 (by simp) k5 ?_; simp; refine .litRow 60 t_r10_Form_2 (es := [eFm ⟨4, 0, 2⟩]) (by simp) (by simp) ?_)
        simp
        refine .call 60 (by simp) k6 ?_
        by_cases hm : (mostF (s :: r) n).2 < 2
        · rw [if_pos hm] at hR
          have hm' : (((mostF (s :: r) n).2 : Nat) : Int) < 2 := by omega
          have hor := f_ror (Γ := Γ) (s :: r) b1 (fun t ht => by rw [b2 t ht]; exact b3) hg (s :: r).length 0 (by omega) [⟨4, 0, (s :: r).length⟩] (by simp)
          subst hR
          simp [hm']
          refine .inLoop ?_
          simp [orF] at hor ⊢
          exact hor
        · rw [if_neg hm] at hR
          have hm' : ¬ (((mostF (s :: r) n).2 : Nat) : Int) < 2 := by omega
          obtain ⟨rfl, m3, m4⟩ := m2 (by omega)
          have hsp := f_split (Γ := Γ) (s :: r) b1 n b3 b2 (sinF n (mostF (s :: r) n).1.1 (mostF (s :: r) n).1.2) (sinF_len ..) (mostF (s :: r) n).1 (fun t ht => hasR_sin m3 m4 (b2 t ht)) (.ret (.own 3 t_r10_Form_2 (R.map eFm))) (by
            have h0m := mostF_ok (s :: r) n (by omega)
            have h1m := countF_keep (mostF (s :: r) n).1 (s :: r)
            obtain ⟨t0, h2m⟩ := List.exists_mem_of_length_pos (l := keepF (fun t => !hasF (mostF (s :: r) n).1 t) (s :: r)) (by omega)
            have h3m := keep_has h2m
            have hsx : sgnC (mostF (s :: r) n).1.2 = true := List.all_eq_true.1 (hg t0 h3m.1) _ (List.mem_of_getElem? (litsF_mem.1 h3m.2).2.1)
            have hcm2 := cost_most (s := s) (r := r) (by rw [hsn]; exact hm)
            rw [hsn] at hcm2
            have hln := sinF_len n (mostF (s :: r) n).1.1 (mostF (s :: r) n).1.2
            have hls := litsF_sin m3 m4
            have hss : (sinF n (mostF (s :: r) n).1.1 (mostF (s :: r) n).1.2).all sgnC = true := by
              rw [List.all_eq_true]
              intro c hc
              obtain ⟨k, hk, rfl⟩ := List.getElem_of_mem hc
              rw [sinF_get]
              split
              · exact hsx
              · rfl
            have hw1 : RowsOf n (divF [(mostF (s :: r) n).1] (keepF (fun t => !hasF (mostF (s :: r) n).1 t) (s :: r))) := ⟨by
              have : (keepF (fun t => !hasF (mostF (s :: r) n).1 t) (s :: r)).length ≤ (s :: r).length := List.length_filter_le _ _
              simp only [divF, List.length_map]; omega, fun t ht => by
              simp only [divF, List.mem_map] at ht
              obtain ⟨t0, h1, rfl⟩ := ht
              rw [cutL_len]; exact b2 _ (keep_has h1).1, b3⟩
            have hw2 : RowsOf n (keepF (hasF (mostF (s :: r) n).1) (s :: r)) := ⟨by
              have : (keepF (hasF (mostF (s :: r) n).1) (s :: r)).length ≤ (s :: r).length := List.length_filter_le _ _
              omega, fun t ht => b2 t (List.mem_filter.1 ht).1, b3⟩
            have k7 := p_r10_lits (Γ := Γ) _ (by rw [hln]; omega) hss
            have k8 := p_r10_divided (Γ := Γ) (keepF (fun t => !hasF (mostF (s :: r) n).1 t) (s :: r)) (sinF n (mostF (s :: r) n).1.1 (mostF (s :: r) n).1.2) (.inl rfl : Kd 1 1 _) (by have := hw1.1; simp only [divF, List.length_map] at this; omega) (fun t ht => by rw [b2 t (keep_has ht).1, hln]) (by omega)
            have e8 : ((keepF (fun t => !hasF (mostF (s :: r) n).1 t) (s :: r)).map fun t => witF t (sinF n (mostF (s :: r) n).1.1 (mostF (s :: r) n).1.2)) = divF [(mostF (s :: r) n).1] (keepF (fun t => !hasF (mostF (s :: r) n).1 t) (s :: r)) := by
              rw [divF]
              refine List.map_congr_left fun t ht => ?_
              rw [witF_cut (by rw [b2 t (keep_has ht).1, hln]), hls]
            rw [e8] at k8
            rw [hls] at k7
            have k9 := ih _ (by omega) hw1 (div_sgn (keep_sgn hg)) 1 (.inl rfl)
            have k11 := ih _ (by omega) hw2 (keep_sgn hg) 1 (.inl rfl)
            have hf1 := factorF_len (f + 1) (divF [(mostF (s :: r) n).1] (keepF (fun t => !hasF (mostF (s :: r) n).1 t) (s :: r)))
            have hf2 := factorF_len (f + 1) (keepF (hasF (mostF (s :: r) n).1) (s :: r))
            have k10 := p_r10_and (Γ := Γ) ([(mostF (s :: r) n).1].map nodeF) (.inl rfl : Kd 3 3 _) (by simp) (factorF (f + 1) (divF [(mostF (s :: r) n).1] (keepF (fun t => !hasF (mostF (s :: r) n).1 t) (s :: r)))) (.inl rfl : Kd 3 3 _) (by omega)
            rw [andR_all _ _ (factorF_pos f _)] at k10
            have hal := allF_len [(mostF (s :: r) n).1] (factorF (f + 1) (divF [(mostF (s :: r) n).1] (keepF (fun t => !hasF (mostF (s :: r) n).1 t) (s :: r))))
            have hal2 : (allF [(mostF (s :: r) n).1] (factorF (f + 1) (divF [(mostF (s :: r) n).1] (keepF (fun t => !hasF (mostF (s :: r) n).1 t) (s :: r))))).length ≤ 2 ^ 20 := by simp only [List.length_cons, List.length_nil] at hal; omega
            have hp1 : 0 < (allF [(mostF (s :: r) n).1] (factorF (f + 1) (divF [(mostF (s :: r) n).1] (keepF (fun t => !hasF (mostF (s :: r) n).1 t) (s :: r))))).length := by simp only [allF, List.length_append, List.length_map, List.length_cons]; omega
            have hp2 := factorF_pos f (keepF (hasF (mostF (s :: r) n).1) (s :: r))
            have hf3 : (factorF (f + 1) (keepF (hasF (mostF (s :: r) n).1) (s :: r))).length ≤ 2 ^ 20 := by omega
            subst hR
            clear ih hf1 hf2 hal hcm2 k6 k5 k4 k3 k2 k1 m1 m2 h0m h1m h2m h3m hw1 hw2 e8 hls hln hss hsx
            generalize factorF (f + 1) (keepF (hasF (mostF (s :: r) n).1) (s :: r)) = B at *
            generalize allF [(mostF (s :: r) n).1] _ = A at *
            generalize factorF (f + 1) (divF [(mostF (s :: r) n).1] (keepF (fun t => !hasF (mostF (s :: r) n).1 t) (s :: r))) = Q at *
            generalize divF [(mostF (s :: r) n).1] (keepF (fun t => !hasF (mostF (s :: r) n).1 t) (s :: r)) = dv at *
            generalize keepF (fun t => !hasF (mostF (s :: r) n).1 t) (s :: r) = hv at *
            generalize keepF (hasF (mostF (s :: r) n).1) (s :: r) = nv at *
            generalize sinF n (mostF (s :: r) n).1.1 (mostF (s :: r) n).1.2 = by' at *
            generalize (mostF (s :: r) n).1 = x at *
            have c1 : (1 + A.length) * 24 ≤ 140737488355328 := by omega
            have c2 : (1 + A.length + B.length) * 24 ≤ 140737488355328 := by omega
            have nA : ¬ A = [] := List.length_pos_iff.1 hp1
            have nB : ¬ B = [] := List.length_pos_iff.1 hp2
            simp at k7 k10
            refine .go 60 ?_
            simp
            refine .call 60 (by simp) k7 ?_
            simp
            refine .call 60 (by simp) k8 ?_
            simp
            refine .call 60 (by simp) k9 ?_
            simp
            refine .call 60 (by simp) k10 ?_
            simp [c1, nA]
            refine .call 60 (by simp) k11 ?_
            have c3 : (1 + A.length = A.length + 1) = True := eq_true (by omega)
            have c4 : (1 + A.length + B.length = A.length + B.length + 1) = True := eq_true (by omega)
            simp [c2, nB, c3]
            exact .back (by simp [c4])) (s :: r).length 0 (by omega) [] [] (by simp) (by simp) rfl rfl
          simp [hm']
          refine .inLoop ?_
          simp at hsp ⊢
          exact hsp
    | succ m ihm =>
      intro i hi hb
      have q1 : i < (s :: r).length := by omega
      have hmem := List.getElem_mem q1
      have k1 := p_r10_free (Γ := Γ) (s :: r)[i] (by have := hlen _ hmem; omega)
      rw [anyB_drop q1] at hb
      have q1' : (i : Int) < (r.length : Int) + 1 := by simp at q1; omega
      have q1'' : i < r.length + 1 := by simpa using q1
      have e : (AV.str s :: List.map AV.str r)[i]? = some (.str (s :: r)[i]) := by rw [← List.map_cons, List.getElem?_map, List.getElem?_eq_getElem q1]; rfl
      generalize (s :: r)[i] = y at *
      refine .go 60 ?_
      simp (disch := omega) [q1', q1'', e]
      cases hfi : freeF y with
      | true =>
        rw [hfi] at k1 hb
        rw [← hb, Bool.true_or, if_pos rfl] at hR
        subst hR
        first
          | (refine .call 3 (by simp) k1 ?_; simp [hfi]; refine .litRow 60 t_r10_Form_2 (es := [eFm ⟨1, 0, 0⟩]) (by simp) (by simp) ?_)
          | (refine .call 4 (by simp) k1 ?_; simp [hfi]; refine .litRow 60 t_r10_Form_2 (es := [eFm ⟨1, 0, 0⟩]) (by simp) (by simp) ?_)
          | (refine .call 5 (by simp) k1 ?_; simp [hfi]; refine .litRow 60 t_r10_Form_2 (es := [eFm ⟨1, 0, 0⟩]) (by simp) (by simp) ?_)
          | (refine .call 6 (by simp) k1 ?_; simp [hfi]; refine .litRow 60 t_r10_Form_2 (es := [eFm ⟨1, 0, 0⟩]) (by simp) (by simp) ?_)
          | (refine .call 7 (by simp) k1 ?_; simp [hfi]; refine .litRow 60 t_r10_Form_2 (es := [eFm ⟨1, 0, 0⟩]) (by simp) (by simp) ?_)
          | (refine .call 8 (by simp) k1 ?_; simp [hfi]; refine .litRow 60 t_r10_Form_2 (es := [eFm ⟨1, 0, 0⟩]) (by simp) (by simp) ?_)
          | (refine .call 9 (by simp) k1 ?_; simp [hfi]; refine .litRow 60 t_r10_Form_2 (es := [eFm ⟨1, 0, 0⟩]) (by simp) (by simp) ?_)
          | (refine .call 10 (by simp) k1 ?_; simp [hfi]; refine .litRow 60 t_r10_Form_2 (es := [eFm ⟨1, 0, 0⟩]) (by simp) (by simp) ?_)
          | (refine .call 11 (by simp) k1 ?_; simp [hfi]; refine .litRow 60 t_r10_Form_2 (es := [eFm ⟨1, 0, 0⟩]) (by simp) (by simp) ?_)
          | (refine .call 12 (by simp) k1 ?_; simp [hfi]; refine .litRow 60 t_r10_Form_2 (es := [eFm ⟨1, 0, 0⟩]) (by simp) (by simp) ?_)
          | (refine .call 13 (by simp) k1 ?_; simp [hfi]; refine .litRow 60 t_r10_Form_2 (es := [eFm ⟨1, 0, 0⟩]) (by simp) (by simp) ?_)
        simp
        exact .back (by simp)
      | false =>
        rw [hfi, Bool.false_or] at hb
        have hh := ihm (i + 1) (by omega) hb
        refine .call 60 (by simp) k1 ?_
        simp (disch := omega) [hfi]
        refine .reLoop ?_
        simp at hh ⊢
        exact hh
  refine .run 60 c_r10_factor (by simp) ?_
  have q0 : ¬ (r.length : Int) + 1 = 0 := by omega
  simp [q0]
  refine .inLoop ?_
  have hh := key (s :: r).length 0 (by omega) rfl
  simp at hh ⊢
  exact hh
end Go.Proofs.YtpjpaojjagffoaaDoor
/- Whether a text is in a row. -/
namespace Go.Proofs.YtpjpaojjagffoaaDoor
open Go.AM Go.Proofs
variable {Γ : Nat → Option AV}
set_option linter.unusedSimpArgs false
set_option linter.unusedVariables false

theorem p_r01_Has (l : List (List UInt8)) (s : List UInt8) {k : Nat} (hk : Kd 1 k l) (hl : l.length < 2 ^ 40) : PureCon Tryd.prog Γ n_r01_Has [.list false k (l.map .str), .str s] (.bool (l.contains s)) := by
  have key : ∀ n i : Nat, i + n = l.length → Fins Tryd.prog Γ (r01_Has_L1 (.list false k (l.map .str)) (.str s) (.int .i64 i) []) (.ret (.bool ((l.drop i).contains s))) := by
    intro n
    induction n with
    | zero =>
      intro i hi
      have q1 : ¬ i < l.length := by omega
      rw [List.drop_eq_nil_of_le (by omega)]
      refine .go 60 ?_
      simp [q1]
      exact .back (by simp)
    | succ n ih =>
      intro i hi
      have q1 : i < l.length := by omega
      have q2 := eq_true (hk.of q1)
      have hh := ih (i + 1) (by omega)
      rw [List.drop_eq_getElem_cons q1, List.contains_cons]
      refine .go 60 ?_
      by_cases h : l[i] = s
      · have h' : (s == l[i]) = true := by simp [h]
        simp [q1, q2, h, h']
        exact .back (by simp)
      · have h' : (s == l[i]) = false := by simpa using fun e => h e.symm
        simp (disch := omega) [q1, q2, h, h']
        refine .reLoop ?_
        simp at hh ⊢
        exact hh
  refine .run 60 c_r01_Has (by simp) ?_
  simp
  refine .inLoop ?_
  have hh := key l.length 0 (by omega)
  simp at hh ⊢
  exact hh

end Go.Proofs.YtpjpaojjagffoaaDoor
/- Law CoverFactors. -/
namespace Go.Proofs.YtpjpaojjagffoaaDoor
open Go.AM Go.Proofs
variable {Γ : Nat → Option AV}
set_option linter.unusedSimpArgs false
set_option linter.unusedVariables false

theorem factorF_fuel : ∀ (f g : Nat) (rows : List Bs), costF rows < f → costF rows < g → factorF f rows = factorF g rows
  | 0, _, _, h, _ => by omega
  | _, 0, _, _, h => by omega
  | f + 1, g + 1, [], _, _ => rfl
  | f + 1, g + 1, s :: r, h1, h2 => by
    rw [factorF, factorF]
    split
    · rfl
    · split
      · rename_i hc
        have h3 := cost_common hc
        have h4 : 0 < (commonF (s :: r) s).length := List.length_pos_iff.2 hc
        rw [factorF_fuel f g _ (by omega) (by omega)]
      · split
        · rfl
        · rename_i hm
          have h3 := cost_most hm
          rw [factorF_fuel f g (divF _ _) (by omega) (by omega), factorF_fuel f g (keepF _ _) (by omega) (by omega)]
theorem p_r10_factor (n : Nat) : ∀ (f : Nat) (rows : List Bs), costF rows < f → RowsOf n rows → SgnR rows → ∀ k, Kd 1 k rows → PureCon Tryd.prog Γ n_r10_factor [.list false k (rows.map .str)] (.own 3 t_r10_Form_2 ((factorF (f + 1) rows).map eFm))
  | 0, rows, hc, _, _, _, _ => by omega
  | f + 1, [], hc, hw, _, k, hk => by
    first
      | (refine .run 6 c_r10_factor (by simp) ?_; simp; refine .litRow 60 t_r10_Form_2 (es := [eFm ⟨0, 0, 0⟩]) (by simp) (by simp) ?_)
      | (refine .run 7 c_r10_factor (by simp) ?_; simp; refine .litRow 60 t_r10_Form_2 (es := [eFm ⟨0, 0, 0⟩]) (by simp) (by simp) ?_)
      | (refine .run 8 c_r10_factor (by simp) ?_; simp; refine .litRow 60 t_r10_Form_2 (es := [eFm ⟨0, 0, 0⟩]) (by simp) (by simp) ?_)
      | (refine .run 9 c_r10_factor (by simp) ?_; simp; refine .litRow 60 t_r10_Form_2 (es := [eFm ⟨0, 0, 0⟩]) (by simp) (by simp) ?_)
      | (refine .run 10 c_r10_factor (by simp) ?_; simp; refine .litRow 60 t_r10_Form_2 (es := [eFm ⟨0, 0, 0⟩]) (by simp) (by simp) ?_)
      | (refine .run 11 c_r10_factor (by simp) ?_; simp; refine .litRow 60 t_r10_Form_2 (es := [eFm ⟨0, 0, 0⟩]) (by simp) (by simp) ?_)
      | (refine .run 12 c_r10_factor (by simp) ?_; simp; refine .litRow 60 t_r10_Form_2 (es := [eFm ⟨0, 0, 0⟩]) (by simp) (by simp) ?_)
      | (refine .run 13 c_r10_factor (by simp) ?_; simp; refine .litRow 60 t_r10_Form_2 (es := [eFm ⟨0, 0, 0⟩]) (by simp) (by simp) ?_)
      | (refine .run 14 c_r10_factor (by simp) ?_; simp; refine .litRow 60 t_r10_Form_2 (es := [eFm ⟨0, 0, 0⟩]) (by simp) (by simp) ?_)
      | (refine .run 15 c_r10_factor (by simp) ?_; simp; refine .litRow 60 t_r10_Form_2 (es := [eFm ⟨0, 0, 0⟩]) (by simp) (by simp) ?_)
      | (refine .run 16 c_r10_factor (by simp) ?_; simp; refine .litRow 60 t_r10_Form_2 (es := [eFm ⟨0, 0, 0⟩]) (by simp) (by simp) ?_)
      | (refine .run 17 c_r10_factor (by simp) ?_; simp; refine .litRow 60 t_r10_Form_2 (es := [eFm ⟨0, 0, 0⟩]) (by simp) (by simp) ?_)
      | (refine .run 18 c_r10_factor (by simp) ?_; simp; refine .litRow 60 t_r10_Form_2 (es := [eFm ⟨0, 0, 0⟩]) (by simp) (by simp) ?_)
      | (refine .run 19 c_r10_factor (by simp) ?_; simp; refine .litRow 60 t_r10_Form_2 (es := [eFm ⟨0, 0, 0⟩]) (by simp) (by simp) ?_)
      | (refine .run 20 c_r10_factor (by simp) ?_; simp; refine .litRow 60 t_r10_Form_2 (es := [eFm ⟨0, 0, 0⟩]) (by simp) (by simp) ?_)
      | (refine .run 21 c_r10_factor (by simp) ?_; simp; refine .litRow 60 t_r10_Form_2 (es := [eFm ⟨0, 0, 0⟩]) (by simp) (by simp) ?_)
      | (refine .run 22 c_r10_factor (by simp) ?_; simp; refine .litRow 60 t_r10_Form_2 (es := [eFm ⟨0, 0, 0⟩]) (by simp) (by simp) ?_)
      | (refine .run 23 c_r10_factor (by simp) ?_; simp; refine .litRow 60 t_r10_Form_2 (es := [eFm ⟨0, 0, 0⟩]) (by simp) (by simp) ?_)
      | (refine .run 24 c_r10_factor (by simp) ?_; simp; refine .litRow 60 t_r10_Form_2 (es := [eFm ⟨0, 0, 0⟩]) (by simp) (by simp) ?_)
      | (refine .run 25 c_r10_factor (by simp) ?_; simp; refine .litRow 60 t_r10_Form_2 (es := [eFm ⟨0, 0, 0⟩]) (by simp) (by simp) ?_)
    simp
    exact .back (by simp [factorF])
  | f + 1, s :: r, hc, hw, hg, k, hk => by
    obtain rfl : k = 1 := hk.of (i := 0) (by simp)
    exact p_r10_factor1 f n s r hw hg fun rows h1 h2 h3 k hk => p_r10_factor n f rows (by omega) h2 h3 k hk

theorem p_r10_Factor (rows : List Bs) (n : Int) {k : Nat} (hk : Kd 1 k rows) (hl : rows.length ≤ 40) (hs : ∀ s ∈ rows, s.length ≤ 60) : PureCon Tryd.prog Γ n_r10_Factor [.list false k (rows.map .str), .int .i64 n] (.tup [.own 3 t_r10_Form_2 ((facF rows n).map eFm), .int .i64 (facE rows n)]) := by
  have key : ∀ (N : Nat), N ≤ 8 → ∀ m i : Nat, i + m = rows.length → ∀ a : List Bs, a.length ≤ i → uniqF a (rows.drop i) = uniqF [] rows → (∀ t ∈ a, rowB N t = true) → anyB (fun s => !rowB N s) (rows.drop i) = anyB (fun s => !rowB N s) rows → Fins Tryd.prog Γ (r10_Factor_L1 (.list false k (rows.map .str)) (.int .i64 N) (.sl 1 0 a.length) (.int .i64 i) [.row 3 t_r10_Form_2 [] none true false, .row 1 t_string (a.map .str) none true false])
      (.ret (.tup [.own 3 t_r10_Form_2 ((if anyB (fun s => !rowB N s) rows = true then [] else factorF (costF (uniqF [] rows) + 1) (uniqF [] rows)).map eFm), .int .i64 (if anyB (fun s => !rowB N s) rows = true then 1 else 0)])) := by
    intro N hN m
    induction m with
    | zero =>
      intro i hi a ha hu hra hb
      have q1 : ¬ i < rows.length := by omega
      rw [List.drop_eq_nil_of_le (by omega), uniqF] at hu
      rw [List.drop_eq_nil_of_le (by omega), anyB_nil] at hb
      have hrow : ∀ t ∈ a, t.all sgnC = true ∧ t.length = N := fun t ht => by simpa [rowB] using hra t ht
      have hw : RowsOf N a := ⟨by omega, fun t ht => (hrow t ht).2, by omega⟩
      have hf := p_r10_factor (Γ := Γ) N (costF a + 1) a (by omega) hw (fun t ht => (hrow t ht).1) 1 (.inl rfl)
      rw [factorF_fuel (costF a + 1 + 1) (costF a + 1) a (by omega) (by omega)] at hf
      rw [← hb, ← hu]
      refine .go 60 ?_
      simp [q1]
      refine .call 60 (by simp) hf ?_
      simp
      exact .back (by simp)
    | succ m ih =>
      intro i hi a ha hu hra hb
      have q1 : i < rows.length := by omega
      have q2 := eq_true (hk.of q1)
      have hri := p_r10_row (Γ := Γ) rows[i] N (by have := hs _ (List.getElem_mem q1); omega)
      have hc := p_r01_Has (Γ := Γ) a rows[i] (.inl rfl : Kd 1 1 a) (by omega)
      rw [List.drop_eq_getElem_cons q1, uniqF] at hu
      rw [anyB_drop q1] at hb
      refine .go 60 ?_
      simp (disch := omega) [q1, q2]
      refine .call 60 (by simp) hri ?_
      cases hrb : rowB N rows[i] with
      | false =>
        rw [hrb, Bool.not_false, Bool.true_or] at hb
        have hb' : anyB (fun s => !rowB N s) rows = true := hb.symm
        simp [hb']
        exact .back (by simp)
      | true =>
        rw [hrb, Bool.not_true, Bool.false_or] at hb
        simp [q1, q2]
        refine .call 60 (by simp) hc ?_
        by_cases h : a.contains rows[i] = true
        · rw [if_pos h] at hu
          have hh := ih (i + 1) (by omega) a (by omega) hu hra hb
          have h' : rows[i] ∈ a := by simpa using h
          simp (disch := omega) [h']
          refine .reLoop ?_
          simp [q2] at hh ⊢
          exact hh
        · rw [if_neg h] at hu
          have hh := ih (i + 1) (by omega) (a ++ [rows[i]]) (by simp; omega) hu (fun t ht => by
            rcases List.mem_append.1 ht with h1 | h1
            · exact hra t h1
            · simp only [List.mem_singleton] at h1; subst h1; exact hrb) hb
          have h' : ¬ rows[i] ∈ a := by simpa using h
          simp (disch := omega) [h', q1, q2]
          refine .reLoop ?_
          simp
          refine .drop 2 rfl (by simp) (by simp) (by simp) ?_
          refine .reset (i := 1) rfl (by simp) (by simp) (by simp) ?_
          simp [q2] at hh ⊢
          exact hh
  refine .run 100 c_r10_Factor (by simp) ?_
  unfold facF facE wrongF
  have h3' : ¬ (128 : Int) < rows.length := by omega
  have h3 : ¬ 128 < rows.length := by omega
  by_cases h1 : n < 0
  · simp [h1]
    exact .back (by simp)
  · obtain ⟨m, rfl⟩ := Int.eq_ofNat_of_zero_le (show 0 ≤ n by omega)
    by_cases h2 : (8 : Int) < m
    · simp [h2]
      exact .back (by simp)
    · have hh := key m (by omega) rows.length 0 (by omega) [] (by simp) rfl (by simp) rfl
      simp [h2, h3, h3']
      refine .inLoop ?_
      simp at hh ⊢
      exact hh

set_option maxRecDepth 8000 in
theorem p_r10_Cost (rows : List Bs) {k : Nat} (hk : Kd 1 k rows) (hl : rows.length ≤ 40) (hs : ∀ s ∈ rows, s.length ≤ 60) : PureCon Tryd.prog Γ n_r10_Cost [.list false k (rows.map .str)] (.int .i64 (costF rows)) := by
  have inner : ∀ (j : Nat) (hj : j < rows.length) (up : List Fr) (h : List Ob) (base : Nat), ∀ n i : Nat, i + n = rows[j].length → ∀ a : Nat, a + n ≤ 2 ^ 30 → AM.Reach Tryd.prog Γ (r10_Cost_L3 (.list false k (rows.map .str)) (.int .i64 a) (.int .i64 j) (.int .i64 i) h ⟨[], .norm, base, up⟩)
      (r10_Cost_E3 (.list false k (rows.map .str)) (.int .i64 (a + (litsF (rows[j].drop i) i).length : Nat)) (.int .i64 j) h ⟨[], .norm, base, up⟩) := by
    intro j hj up h base n
    have q2 := eq_true (hk.of hj)
    have hsl := hs _ (List.getElem_mem hj)
    induction n with
    | zero =>
      intro i hi a ha
      have q1 : ¬ i < rows[j].length := by omega
      rw [List.drop_eq_nil_of_le (by omega)]
      refine .goS 60 ?_
      simp [q1, q2, hj, litsF]
      exact .exit rfl rfl
    | succ n ih =>
      intro i hi a ha
      have q1 : i < rows[j].length := by omega
      rw [List.drop_eq_getElem_cons q1, litsF]
      refine .goS 60 ?_
      by_cases c : rows[j][i] = 45
      · have hh := ih (i + 1) (by omega) a (by omega)
        rw [if_pos c]
        simp (disch := omega) [q1, q2, hj, c]
        refine .reLoop ?_
        simp [q2] at hh ⊢
        exact hh
      · have hh := ih (i + 1) (by omega) (a + 1) (by omega)
        rw [if_neg c]
        simp (disch := omega) [q1, q2, hj, c]
        refine .reLoop ?_
        have e : a + 1 + (litsF (rows[j].drop (i + 1)) (i + 1)).length = a + ((litsF (rows[j].drop (i + 1)) (i + 1)).length + 1) := by omega
        rw [e] at hh
        simp [q2] at hh ⊢
        exact hh
  have key : ∀ n i : Nat, i + n = rows.length → ∀ a : Nat, a ≤ 60 * i → Fins Tryd.prog Γ (r10_Cost_L1 (.list false k (rows.map .str)) (.int .i64 a) (.int .i64 i) []) (.ret (.int .i64 (a + costF (rows.drop i) : Nat))) := by
    intro n
    induction n with
    | zero =>
      intro i hi a ha
      have q1 : ¬ i < rows.length := by omega
      rw [List.drop_eq_nil_of_le (by omega), costF]
      refine .go 60 ?_
      simp [q1]
      exact .back (by simp)
    | succ n ih =>
      intro i hi a ha
      have q1 : i < rows.length := by omega
      have hle := litsF_le rows[i] 0
      have hsl := hs _ (List.getElem_mem q1)
      have hi4 := fun up h base => inner i q1 up h base rows[i].length 0 (by omega) a (by omega)
      have hh := ih (i + 1) (by omega) (a + (litsF rows[i] 0).length) (by omega)
      rw [List.drop_eq_getElem_cons q1, costF, ← Nat.add_assoc]
      refine .go 60 ?_
      simp (disch := omega) [q1]
      refine .inLoop ?_
      simp at hi4 ⊢
      refine .reach (hi4 _ _ _) ?_
      refine .go 60 ?_
      simp (disch := omega)
      refine .reLoop ?_
      simp at hh ⊢
      exact hh
  refine .run 60 c_r10_Cost (by simp) ?_
  simp
  refine .inLoop ?_
  have hh := key rows.length 0 (by omega) 0 (by omega)
  simp at hh ⊢
  exact hh

set_option maxRecDepth 8000 in
theorem l_CoverFactors (rows : List Bs) (n : Int) {k : Nat} (hk : Kd 1 k rows) : PureCon Tryd.prog Γ n_w10_CoverFactors [.list false k (rows.map .str), .int .i64 n] (.bool true) := by
  have k1 := p_few (Γ := Γ) rows hk
  have k2 := p_Factor (Γ := Γ) rows n hk
  refine .run 90 c_w10_CoverFactors (by simp) ?_
  simp
  refine .call 90 (by simp) p_works ?_
  simp
  refine .call 90 (by simp) k1 ?_
  cases hf : fewR rows with
  | false =>
    simp [hf]
    exact .back (by simp)
  | true =>
    obtain ⟨f1, f2⟩ := few_rows hf
    have k3 := p_r10_Factor (Γ := Γ) rows n hk f1 f2
    have hfl : (facF rows n).length < 2 ^ 30 := by
      unfold facF
      cases hw : wrongF n rows with
      | true => simp
      | false =>
        rw [if_neg (by simp)]
        obtain ⟨m, rfl, h1, h2, h3⟩ := wrong_no hw
        have hc := fac_cost h1 h2 fun s hs => (h3 s hs).2
        have hl := factorF_len (costF (uniqF [] rows) + 1) (uniqF [] rows)
        omega
    have k4 := p_w10_Of (Γ := Γ) (facF rows n) (.inl rfl : Kd 3 3 _) (by omega)
    have k5 := p_r10_Same (Γ := Γ) (facF rows n) (facF rows n) (.inl rfl : Kd 3 3 _) (.inl rfl : Kd 3 3 _) (by omega)
    have k6 := p_r10_Cost (Γ := Γ) rows hk f1 f2
    have k7 := p_Cost (Γ := Γ) rows hk (by omega) (fun s hs => by have := f2 s hs; omega)
    simp [hf]
    refine .call 90 (by simp) k2 ?_
    simp
    refine .call 90 (by simp) k3 ?_
    simp
    refine .call 90 (by simp) k4 ?_
    simp
    refine .call 90 (by simp) k5 ?_
    simp
    refine .call 90 (by simp) k6 ?_
    simp
    refine .call 90 (by simp) k7 ?_
    simp
    exact .back (by simp)
end Go.Proofs.YtpjpaojjagffoaaDoor
/- CoverFactors: for every input the law returns true, and each argument reads as it did; the package's variables start as the program's text lays them. -/
namespace Go.Proofs.YtpjpaojjagffoaaDoor
open Go.AM Go.Proofs Go.ChangeShapes Go.WideShapes Go.ChangeAt Go.RowKit

theorem coverFactors_reads (os : Os) {H : Type} (enc : TypeId × Value → H) : ∃ ds places, DataW.whole enc Tryd.prog ((startW os).forCall (fun _ _ => 0) ⟨#[], #[.slice none 0 0, .int .i64 0], []⟩).memory Tryd.f3.params.toList Rows.coverFactorsSpec.vars false (#[.slice none 0 0, .int .i64 0] : Array Value).toList 8 = some (ds, [], places) :=
  ⟨[.nil, .lit (.int .i64 0)], [], by kernel_rfl⟩

set_option maxRecDepth 100000 in
theorem coverFactors_lifted (os : Os) (started : os.Started) (H : Type) (enc : TypeId × Value → H) (F : Stop.Interp) :
    ReturnsInHanded {} Tryd.checked os 3 .any ((OpenSpec.ofChange Rows.coverFactorsSpec).preRow enc Tryd.prog Tryd.f3 Rows.coverFactorsRow.domain false Rows.coverFactorsRow.laid) (((OpenSpec.ofChange Rows.coverFactorsSpec).at F).post enc Tryd.prog Tryd.f3 false true false false) := by
  obtain ⟨ds, places, hx⟩ := coverFactors_reads os enc
  refine returnsInHanded_of_row (C := Tryd.checked) (s := OpenSpec.ofChange Rows.coverFactorsSpec) own started (by kernel_rfl) Tryd.func3
    (witness_row_at (enc := enc) (C := Tryd.checked) false (startW os) #[.slice none 0 0, .int .i64 0] rfl (by kernel_rfl) (by kernel_rfl) (by kernel_rfl)
      (OpenSpec.preRow_of_cond 8 hx (by kernel_rfl) (fun k hk => by cases hk) (by kernel_rfl) (door_met os _))) ?_
  intro W base args ds gs before hval hW _ _ _ hL hsh _
  obtain ⟨Γ, hΓ, hok⟩ := none_laid hL
  refine law_callsQ Down.any (Γ := Γ) (shs := [(false, shSs), (false, shI)]) laid mapsR (tb := 4) (by kernel_rfl) u4 (of_decide_eq_true (by kernel_rfl)) (by kernel_rfl) rfl ?_ hok ?_ hval hW (fun _ _ => trivial)
  · intro ds hds
    match ds, hds with
    | [d1, d2], _ => exact ⟨rfl, rfl, rfl⟩
  · intro xs has
    simp only [IsArgs] at has
    obtain ⟨_, _, rfl, h1, _, _, _, rfl, h2, _, rfl⟩ := has
    obtain ⟨a1, rfl⟩ := dec_strs h1
    obtain ⟨a2, rfl⟩ := dec_i h2
    simp only [mkA]
    exact l_CoverFactors a1 a2 (.inl rfl)

theorem coverFactors_said : Rows.CoverFactorsSaid :=
  OpenClaim.holds_of_cond 3 Tryd.f3 rfl rfl rfl rfl rfl rfl rfl ⟨rfl, rfl, rfl, rfl, rfl⟩ rfl rfl rfl rfl rfl (by kernel_rfl) Tryd.func3 (by kernel_rfl)
    (of_decide_eq_true (by kernel_rfl)) (by unfold Func.isWrapper; first | (rw [if_pos (by decide +kernel)]; kernel_rfl) | (rw [if_neg (by decide +kernel)]; exact ⟨rfl, rfl⟩))
    (fun os started H enc _ F => by rw [OpenClaim.pre_eq_preRow]; exact coverFactors_lifted os started H enc F)

theorem coverFactors_plain (f : FuncId) (fn : Func) (hf : Tryd.pinned.checked.prog.funcNamed "patchbay/patchbaylaw10.CoverFactors" = some f) (hfn : Tryd.pinned.checked.prog.funcs[f]? = some fn) :
    true = Tryd.pinned.checked.prog.looks [] ∧ ∀ (j : Nat) t, fn.params[j]? = some t → Tryd.pinned.checked.prog.wantsStandIn t = false := by
  obtain rfl : f = 3 := Option.some.inj ((show Tryd.prog.funcNamed "patchbay/patchbaylaw10.CoverFactors" = some 3 by kernel_rfl).symm.trans hf) |>.symm
  obtain rfl : fn = Tryd.f3 := (Option.some.inj (Tryd.func3.symm.trans hfn)).symm
  refine ⟨by kernel_rfl, fun j t ht => ?_⟩
  have h1 : (Tryd.f3.params.toList.all fun t => !Tryd.prog.wantsStandIn t) = true := by kernel_rfl
  have h2 := List.all_eq_true.1 h1 t (by simpa using Array.mem_of_getElem? ht)
  revert h2
  show (!Tryd.prog.wantsStandIn t) = true → Tryd.prog.wantsStandIn t = false
  cases Tryd.prog.wantsStandIn t <;> intro h <;> first | rfl | cases h

theorem coverFactors_holds : Rows.CoverFactorsCardSaid :=
  Claim7.holds_tied_plain_at .later [] _ _ _ _ coverFactors_said (fun _ h => by cases h) (by kernel_rfl) (fun _ h => by cases h) coverFactors_row_tie rfl ⟨rfl, rfl⟩ (by kernel_rfl) rfl coverFactors_plain (by kernel_rfl)
#print axioms coverFactors_holds
end Go.Proofs.YtpjpaojjagffoaaDoor
