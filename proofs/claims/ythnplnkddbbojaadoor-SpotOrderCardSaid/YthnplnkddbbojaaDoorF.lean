/- Chapter 01: contracts. -/
import Derived.Test.YthnplnkddbbojaaDoorCode
import Derived.Test.YthnplnkddbbojaaDoorShelf
import Derived.Test.YthnplnkddbbojaaDoorAMc
namespace Go.Proofs.YthnplnkddbbojaaDoor
open Go.AM Go.Proofs
variable {Γ : Nat → Option AV}
set_option linter.unusedSimpArgs false
set_option linter.unusedVariables false

/-- Over a text. -/
def walk : List UInt8 → Int × Int → Int × Int
  | [], p => p
  | c :: s, p => walk s (if c = 10 then (p.1 + 1, 1) else (p.1, p.2 + 1))
@[simp] theorem walk_nil (p : Int × Int) : walk [] p = p := rfl
theorem walk_cons (c : UInt8) (s : List UInt8) (p : Int × Int) : walk (c :: s) p = walk s (if c = 10 then (p.1 + 1, 1) else (p.1, p.2 + 1)) := rfl
theorem walk_append (s t : List UInt8) (p : Int × Int) : walk (s ++ t) p = walk t (walk s p) := by
  induction s generalizing p with
  | nil => rfl
  | cons c s ih => rw [List.cons_append, walk_cons, ih, walk_cons]
def ePl (p : Int × Int) : AV := .agg [.int .i64 p.1, .int .i64 p.2]
theorem ePl_def (p : Int × Int) : ePl p = .agg [.int .i64 p.1, .int .i64 p.2] := rfl

theorem walk_bound (s : List UInt8) (p : Int × Int) (h1 : 1 ≤ p.1) (h2 : 1 ≤ p.2) : 1 ≤ (walk s p).1 ∧ 1 ≤ (walk s p).2 ∧ (walk s p).1 ≤ p.1 + s.length ∧ (walk s p).2 ≤ p.2 + s.length := by
  induction s generalizing p with
  | nil => simp [h1, h2]
  | cons c s ih =>
    rw [walk_cons]
    by_cases hc : c = 10
    · simp only [hc, if_true, List.length_cons]
      have := ih (p.1 + 1, 1) (by simp; omega) (by simp)
      simp at this; omega
    · simp only [hc, if_false, List.length_cons]
      have := ih (p.1, p.2 + 1) (by simp; omega) (by simp; omega)
      simp at this; omega

theorem p_Count (s : List UInt8) : PureCon Tryd.prog Γ n_strings_Count [.str s, .str [10]] (.int .i64 (Lib.countByte s 10)) := by
  refine PureCon.lib (by simp) (fun _ => rfl) rfl fun N g h w us _ hV => ?_
  obtain ⟨us, rfl, h1⟩ := VL_str hV
  obtain ⟨us, rfl, h2⟩ := VL_str h1
  obtain rfl := VL_nil' h2
  refine (Tryd.strings_Count_one _ _ w).mono ?_
  rintro e w' ⟨rfl, rfl⟩
  exact ⟨⟨_, rfl, fun _ _ => by simp [V]⟩, rfl⟩

def lastNl (s : List UInt8) : Int := Lib.lastIndexByte (⟨s.toArray⟩ : ByteArray) 10
theorem p_Last (s : List UInt8) (hs : s.length < 2 ^ 60) : PureCon Tryd.prog Γ n_strings_LastIndex [.str s, .str [10]] (.int .i64 (lastNl s)) := by
  refine PureCon.lib (by simp) (fun _ => rfl) rfl fun N g h w us _ hV => ?_
  obtain ⟨us, rfl, h1⟩ := VL_str hV
  obtain ⟨us, rfl, h2⟩ := VL_str h1
  obtain rfl := VL_nil' h2
  refine (Tryd.strings_LastIndex_one ⟨s.toArray⟩ ⟨#[10]⟩ rfl (by simp [ByteArray.size]; omega) w).mono ?_
  rintro e w' ⟨rfl, rfl⟩
  exact ⟨⟨_, rfl, fun _ _ => by simp [V]; rfl⟩, rfl⟩

/-- What the reference says of a place. -/
theorem p_r01_Place (s : List UInt8) (n : Int) (hs : s.length < 2 ^ 60) : PureCon Tryd.prog Γ n_r01_Place [.str s, .int .i64 n] (ePl (walk (s.take n.toNat) (1, 1))) := by
  have key : ∀ m i : Nat, i + m = s.length → (i : Int) ≤ n ∨ i = 0 →
      Fins Tryd.prog Γ (r01_Place_L1 (.str s) (.int .i64 n) (.ptr 0 0) (.ptr 1 0) (.int .i64 i) [.cells [.int .i64 0, .int .i64 0], .cells [.int .i64 (walk (s.take i) (1, 1)).1, .int .i64 (walk (s.take i) (1, 1)).2]]) (.ret (ePl (walk (s.take n.toNat) (1, 1)))) := by
    intro m
    induction m with
    | zero =>
      intro i hi hn
      have h1 : ¬ i < s.length := by omega
      have h2 : s.take n.toNat = s.take i := by rw [List.take_of_length_le (by omega), List.take_of_length_le (by omega)]
      refine .go 60 ?_
      rw [h2]
      simp [h1, ePl_def]
      exact .back (by simp)
    | succ m ih =>
      intro i hi hn
      have h1 : i < s.length := by omega
      refine .go 60 ?_
      by_cases h3 : (i : Int) < n
      · have h4 : s.take (i + 1) = s.take i ++ [s[i]] := by simp
        have hb := walk_bound (s.take i) (1, 1) (by simp) (by simp)
        simp only [List.length_take] at hb
        have hh := ih (i + 1) (by omega) (by omega)
        rw [h4, walk_append] at hh
        by_cases h5 : s[i] = 10
        · simp [h5, walk_cons] at hh
          simp (disch := (first | omega | (simp; omega))) [h1, h3, h5]
          refine .reLoop ?_
          simp
          exact hh
        · simp [h5, walk_cons] at hh
          simp (disch := (first | omega | (simp; omega))) [h1, h3, h5]
          refine .reLoop ?_
          simp
          exact hh
      · have h2 : n.toNat = i := by omega
        rw [h2]
        simp [h1, h3, ePl_def]
        exact .back (by simp)
  refine .run 60 c_r01_Place (by simp) ?_
  simp
  refine .inLoop ?_
  have hh := key s.length 0 (by omega) (.inr rfl)
  simp at hh
  exact hh
end Go.Proofs.YthnplnkddbbojaaDoor
/- Chapter 01: contracts, the second part. -/
namespace Go.Proofs.YthnplnkddbbojaaDoor
open Go.AM Go.Proofs
variable {Γ : Nat → Option AV}
set_option linter.unusedSimpArgs false
set_option linter.unusedVariables false

theorem walk_fst (s : List UInt8) (p : Int × Int) : (walk s p).1 = p.1 + (s.count 10 : Nat) := by
  induction s generalizing p with
  | nil => simp
  | cons c s ih =>
    rw [walk_cons, ih]
    by_cases hc : c = 10
    · subst hc; simp; omega
    · have : ¬ (c == 10) = true := by simpa using hc
      simp [hc, List.count_cons]
theorem walk_flat (s : List UInt8) (p : Int × Int) (h : s.count 10 = 0) : walk s p = (p.1, p.2 + s.length) := by
  induction s generalizing p with
  | nil => simp
  | cons c s ih =>
    rw [List.count_cons] at h
    have h1 : ¬ c = 10 := fun e => by subst e; simp at h
    rw [walk_cons, ih _ (by omega)]
    simp [h1]; omega
theorem walk_last (s : List UInt8) (p : Int × Int) (h : ¬ s.count 10 = 0) : (walk s p).2 = s.length - lastNl s := by
  rcases Lib.lastIndexByte_spec ⟨s.toArray⟩ 10 with ⟨_, h2⟩ | ⟨i, h1, h2, h3, h4⟩
  · exfalso
    apply h
    rw [List.count_eq_zero]
    intro hm
    obtain ⟨j, hj, e⟩ := List.getElem_of_mem hm
    refine h2 j (by simpa [ByteArray.size] using hj) ?_
    simp [hj, e]
  · have h1' : i < s.length := by simpa [ByteArray.size] using h1
    have e10 : s[i] = 10 := by
      simp [h1'] at h3
      exact h3
    have hs : s = s.take i ++ s[i] :: s.drop (i + 1) := by simp
    have hz : (s.drop (i + 1)).count 10 = 0 := by
      rw [List.count_eq_zero]
      intro hm
      obtain ⟨j, hj, e⟩ := List.getElem_of_mem hm
      rw [List.getElem_drop] at e
      simp at hj
      refine h4 (i + 1 + j) (by omega) (by simp [ByteArray.size]; omega) ?_
      have : i + 1 + j < s.length := by omega
      simp [this, e]
    have hl : lastNl s = i := h2
    rw [hl]
    conv => lhs; rw [hs, walk_append, walk_cons, walk_flat _ _ hz]
    simp [e10]; omega

theorem lastNl_bound (s : List UInt8) : -1 ≤ lastNl s ∧ lastNl s ≤ s.length := by
  rcases Lib.lastIndexByte_spec ⟨s.toArray⟩ 10 with ⟨h1, _⟩ | ⟨i, h1, h2, _⟩
  · have : lastNl s = -1 := h1
    omega
  · have h : lastNl s = i := h2
    have h1' : i < s.length := by simpa [ByteArray.size] using h1
    omega

theorem p_over (s : List UInt8) (p : Int × Int) (hs : s.length < 2 ^ 60) (h1 : -2 ^ 60 ≤ p.1) (h2 : -2 ^ 60 ≤ p.2) (h3 : p.1 < 2 ^ 60) (h4 : p.2 < 2 ^ 60) : PureCon Tryd.prog Γ n_spot_spot_over [ePl p, .str s] (ePl (walk s p)) := by
  refine .run 60 c_spot_spot_over (by simp) ?_
  simp [ePl_def]
  refine .call 60 (by simp) (p_Count s) ?_
  have hc : Lib.countByte s 10 = s.count 10 := rfl
  have hle : s.count 10 ≤ s.length := List.count_le_length
  by_cases h : s.count 10 = 0
  · simp (disch := omega) [hc, h, walk_flat]
    exact .back (by simp)
  · simp (disch := omega) [hc, h]
    refine .dreg (orc := [(.int .i64 (lastNl s), [.cells [.int .i64 p.1, .int .i64 p.2], .cells [.int .i64 0, .int .i64 0]])]) (by simp; exact ⟨rfl, rfl, rfl, rfl⟩) ?_ (by simp) ?_
    · intro o ho up
      simp at ho
      subst ho
      refine .call 0 (by simp) (p_Last s hs) ?_
      simp
    · have hb := lastNl_bound s
      refine .go 60 ?_
      simp (disch := (first | omega | (simp; omega)))
      refine .back ?_
      have e1 := walk_fst s p
      have e2 := walk_last s p h
      simp [e1, e2]

theorem p_Move (s : List UInt8) (p : Int × Int) (hs : s.length < 2 ^ 60) (h1 : -2 ^ 60 ≤ p.1) (h2 : -2 ^ 60 ≤ p.2) (h3 : p.1 < 2 ^ 60) (h4 : p.2 < 2 ^ 60) : PureCon Tryd.prog Γ n_spot_Move [.int .i64 p.1, .int .i64 p.2, .str s] (.tup [.int .i64 (walk s p).1, .int .i64 (walk s p).2]) := by
  refine .run 60 c_spot_Move (by simp) ?_
  simp
  refine .call 60 (by simp [ePl_def]) (p_over s p hs h1 h2 h3 h4) ?_
  simp [ePl_def]
  exact .back (by simp)

/-- The package's variables. -/
structure ΓS (Γ : Nat → Option AV) : Prop where
  start : Γ 0 = some (.agg [.int .i64 1, .int .i64 1])
  len : ∃ m, Γ 1 = some (.int .i64 m)

def place (s : List UInt8) (n : Int) : Int × Int := walk (s.take n.toNat) (1, 1)
def cutN (n : Int) (l : Nat) : Nat := min n.toNat l
theorem cutN_le (n : Int) (l : Nat) : cutN n l ≤ l := Nat.min_le_right _ _
@[simp] theorem max_zero (n : Int) : maxA (.int .i64 n) [.int .i64 0] = some (.int .i64 (max n 0)) := by
  have : (if n < 0 then 0 else n) = max n 0 := by split <;> omega
  simp [maxA, this]
@[simp] theorem min_len (n : Int) (b : Nat) : minA (.int .i64 (max n 0)) [.int .i64 b] = some (.int .i64 (cutN n b : Nat)) := by
  have : (if (b : Int) < max n 0 then (b : Int) else max n 0) = ((cutN n b : Nat) : Int) := by unfold cutN; split <;> omega
  rw [← this]
  simp [minA]
theorem take_min (s : List UInt8) (n : Int) : s.take (cutN n s.length) = s.take n.toNat := by
  unfold cutN
  by_cases h : n.toNat ≤ s.length
  · rw [Nat.min_eq_left h]
  · rw [Nat.min_eq_right (by omega), List.take_length, List.take_of_length_le (by omega)]
abbrev plA (s : List UInt8) (n : Int) : List AV := [.agg [.int .i64 1, .int .i64 1], .str (s.take n.toNat)]
abbrev plR (s : List UInt8) (n : Int) : AV := .agg [.int .i64 (place s n).1, .int .i64 (place s n).2]
theorem p_Place (hΓ : ΓS Γ) (s : List UInt8) (n : Int) (hs : s.length < 2 ^ 60) : PureCon Tryd.prog Γ n_spot_Place [.str s, .int .i64 n] (.tup [.int .i64 (place s n).1, .int .i64 (place s n).2]) := by
  refine .run 60 c_spot_Place (by simp) ?_
  have h0 := hΓ.start
  simp [h0]
  have hp : walk (s.take n.toNat) (1, 1) = place s n := rfl
  have hA : ∀ up h, AM.Reach Tryd.prog Γ (.cl n_spot_spot_over (plA s n) up h) (.back up (plR s n) h) := by
    intro up h
    refine .call 0 (by simp; rfl) (p_over (s.take n.toNat) (1, 1) (by simp; omega) (by simp) (by simp) (by simp) (by simp)) ?_
    simp [ePl_def, hp]
  refine .dregq (orc := [(plR s n, [])]) [⟨n_spot_spot_over, plA s n, [], plR s n, []⟩, ⟨n_spot_spot_over, plA s n, [.cells [.int .i64 0, .int .i64 0]], plR s n, [.cells [.int .i64 0, .int .i64 0]]⟩, ⟨n_spot_spot_over, plA s n, [.cells [.int .i64 (place s n).1, .int .i64 (place s n).2]], plR s n, [.cells [.int .i64 (place s n).1, .int .i64 (place s n).2]]⟩] (by simp (disch := omega) [h0, take_min, cutN_le]; exact ⟨rfl, rfl, rfl, rfl⟩) (by simp) (by simp; exact ⟨fun up => hA up _, fun up => hA up _, fun up => hA up _⟩) (by simp (disch := omega) [h0, take_min, cutN_le]) ?_
  refine .go 60 ?_
  simp
  exact .back (by simp)
end Go.Proofs.YthnplnkddbbojaaDoor
/- Chapter 01: contracts, the third part. -/
namespace Go.Proofs.YthnplnkddbbojaaDoor
open Go.AM Go.Proofs
variable {Γ : Nat → Option AV}
set_option linter.unusedSimpArgs false
set_option linter.unusedVariables false

@[simp] theorem eq_pl (a b c d : Int) : eqData (.strct [.int, .int]) (.agg [.int .i64 a, .int .i64 b]) (.agg [.int .i64 c, .int .i64 d]) = some (decide ((a, b) = (c, d))) := by
  have e1 : (a == c) = decide (a = c) := rfl
  have e2 : (b == d) = decide (b = d) := rfl
  by_cases h1 : a = c <;> by_cases h2 : b = d <;> simp [eqData, allDatum, eqAll, eqOne, isDatum, e1, e2, h1, h2]
@[simp] theorem pl_eta (a q : Int × Int) : ((a.1, a.2) = (q.1, q.2)) ↔ a = q := by simp [Prod.ext_iff]

def atF (s : List UInt8) (w : Int × Int) : Nat → Nat → Int × Bool
  | _, 0 => (0, false)
  | i, n + 1 => if walk (s.take i) (1, 1) = w then (i, true) else atF s w (i + 1) n
theorem p_r01_At (s : List UInt8) (q : Int × Int) (hs : s.length < 2 ^ 60) : PureCon Tryd.prog Γ n_r01_At [.str s, ePl q] (.tup [.int .i64 (atF s q 0 (s.length + 1)).1, .bool (atF s q 0 (s.length + 1)).2]) := by
  refine .run 60 c_r01_At (by simp) ?_
  have key : ∀ n i : Nat, i + n = s.length + 1 → Fins Tryd.prog Γ (r01_At_L1 (.str s) (.ptr 0 0) (.int .i64 i) [.cells [.int .i64 q.1, .int .i64 q.2]]) (.ret (.tup [.int .i64 (atF s q i n).1, .bool (atF s q i n).2])) := by
    intro n
    induction n with
    | zero =>
      intro i hi
      refine .go 60 ?_
      have h1 : ¬ i ≤ s.length := by omega
      simp [h1, atF]
      exact .back (by simp)
    | succ n ih =>
      intro i hi
      have h1 : i ≤ s.length := by omega
      have hc := p_r01_Place (Γ := Γ) s i hs
      have hb := walk_bound (s.take i) (1, 1) (by simp) (by simp)
      refine .go 60 ?_
      simp [h1]
      refine .dregq (orc := [(ePl (walk (s.take i) (1, 1)), [.cells [.int .i64 q.1, .int .i64 q.2]])]) [⟨n_r01_Place, [.str s, .int .i64 i], [.cells [.int .i64 q.1, .int .i64 q.2]], ePl (walk (s.take i) (1, 1)), [.cells [.int .i64 q.1, .int .i64 q.2]]⟩] (by simp [ePl_def]; exact ⟨rfl, rfl, rfl, rfl⟩) (by simp [ePl_def]) ?_ (by simp [ePl_def]) ?_
      · intro o ho up
        simp at ho
        subst ho
        refine .call 0 (by simp) hc ?_
        simp [ePl_def]
      · by_cases h2 : walk (s.take i) (1, 1) = q
        · refine .go 60 ?_
          simp [atF, h2]
          exact .back (by simp)
        · refine .go 60 ?_
          have h3 : ¬ ((walk (s.take i) (1, 1)).1 = q.1 ∧ (walk (s.take i) (1, 1)).2 = q.2) := fun e => h2 (Prod.ext e.1 e.2)
          simp (disch := omega) [atF, h2, h3]
          refine .reLoop ?_
          simp
          have hh := ih (i + 1) (by omega)
          simp at hh
          exact hh
  simp [ePl_def]
  refine .inLoop ?_
  have hh := key (s.length + 1) 0 (by omega)
  simp at hh
  exact hh
end Go.Proofs.YthnplnkddbbojaaDoor
/- Chapter 01: contracts, the fourth part. -/
namespace Go.Proofs.YthnplnkddbbojaaDoor
open Go.AM Go.Proofs
variable {Γ : Nat → Option AV}
set_option linter.unusedSimpArgs false
set_option linter.unusedVariables false

def failF (s : List UInt8) (n e : Int) : AV := if e = 0 then .agg [.int .i64 0, .int .i64 0, .int .i64 0] else .agg [.int .i64 e, .int .i64 (place s n).1, .int .i64 (place s n).2]
theorem p_r01_Fail (s : List UInt8) (n e : Int) (hs : s.length < 2 ^ 60) : PureCon Tryd.prog Γ n_r01_Fail [.str s, .int .i64 n, .int .i64 e] (failF s n e) := by
  refine .run 60 c_r01_Fail (by simp) ?_
  by_cases h : e = 0
  · simp [h, failF]
    exact .back (by simp)
  · have hp : walk (s.take n.toNat) (1, 1) = place s n := rfl
    simp [h, failF]
    refine .call 60 (by simp) (p_r01_Place s n hs) ?_
    simp [ePl_def, hp]
    exact .back (by simp)
theorem p_Fail (hΓ : ΓS Γ) (s : List UInt8) (n e : Int) (hs : s.length < 2 ^ 60) : PureCon Tryd.prog Γ n_spot_Fail [.str s, .int .i64 n, .int .i64 e] (failF s n e) := by
  refine .run 60 c_spot_Fail (by simp) ?_
  by_cases h : e = 0
  · simp [h, failF]
    exact .back (by simp)
  · simp [h, failF]
    refine .call 60 (by simp) (p_Place hΓ s n hs) ?_
    simp
    exact .back (by simp)

def linesA : List UInt8 → List UInt8 → List (List UInt8)
  | [], cur => [cur]
  | c :: s, cur => if c = 10 then cur :: linesA s [] else linesA s (cur ++ [c])
theorem linesA_cons (c : UInt8) (s cur : List UInt8) : linesA (c :: s) cur = if c = 10 then cur :: linesA s [] else linesA s (cur ++ [c]) := rfl
theorem sub_one {s : List UInt8} {i : Nat} (h : i < s.length) : (s.take (i + 1)).drop i = [s[i]] := by
  rw [List.take_succ_eq_append_getElem h, List.drop_append_of_le_length (by simp; omega), List.drop_eq_nil_of_le (by simp; omega), List.nil_append]
theorem linesA_len (s cur : List UInt8) : (linesA s cur).length ≤ s.length + 1 := by
  induction s generalizing cur with
  | nil => simp [linesA]
  | cons c s ih =>
    unfold linesA
    split
    · have := ih []; simp; omega
    · have := ih (cur ++ [c]); simp; omega

theorem p_r01_Lines (s : List UInt8) (hs : s.length < 2 ^ 40) : PureCon Tryd.prog Γ n_r01_Lines [.str s] (.own 1 t_string ((linesA s []).map .str)) := by
  refine .run 60 c_r01_Lines (by simp) ?_
  have key : ∀ n i (acc : List (List UInt8)) (cur : List UInt8), i + n = s.length → acc.length ≤ i → cur.length ≤ i → acc ++ linesA (s.drop i) cur = linesA s [] → Fins Tryd.prog Γ (r01_Lines_L1 (.str s) (.sl 1 0 acc.length) (.str cur) (.int .i64 i) [.row 1 t_string [] none true false, .row 1 t_string (acc.map .str) none true false]) (.ret (.own 1 t_string ((linesA s []).map .str))) := by
    intro n
    induction n with
    | zero =>
      intro i acc cur hi hacc hcur hd
      obtain rfl : i = s.length := by omega
      rw [List.drop_length] at hd
      simp only [linesA] at hd
      rw [← hd]
      refine .go 60 ?_
      simp (disch := omega)
      exact .back (by simp)
    | succ n ih =>
      intro i acc cur hi hacc hcur hd
      have h1 : i < s.length := by omega
      rw [List.drop_eq_getElem_cons h1] at hd
      rw [linesA_cons] at hd
      refine .go 60 ?_
      by_cases h2 : s[i] = 10
      · rw [if_pos h2, List.append_cons] at hd
        simp (disch := omega) [h1, h2]
        refine .reLoop ?_
        simp
        refine .reset (i := 1) rfl (by simp) (by simp) (by simp) ?_
        have hh := ih (i + 1) (acc ++ [cur]) [] (by omega) (by simp; omega) (by simp) hd
        simp at hh
        exact hh
      · rw [if_neg h2] at hd
        simp (disch := omega) [h1, h2, sub_one h1]
        refine .reLoop ?_
        simp
        have hh := ih (i + 1) acc (cur ++ [s[i]]) (by omega) (by omega) (by simp; omega) hd
        simp at hh
        exact hh
  simp
  refine .inLoop ?_
  have hh := key s.length 0 [] [] (by omega) (by simp) (by simp) (by simp)
  simp at hh
  exact hh
end Go.Proofs.YthnplnkddbbojaaDoor
/- Chapter 01: contracts, the fifth part: the range over a function. -/
namespace Go.Proofs.YthnplnkddbbojaaDoor
open Go.AM Go.Proofs
variable {Γ : Nat → Option AV}
set_option linter.unusedSimpArgs false
set_option linter.unusedVariables false

theorem p_Cut (hΓ : ΓS Γ) (s : List UInt8) (hs : s.length < 2 ^ 31) : PureCon Tryd.prog Γ n_strings_Cut [.str s, .str [10]] (.tup [.str (Lib.cut s [10]).1, .str (Lib.cut s [10]).2.1, .bool (Lib.cut s [10]).2.2]) := by
  obtain ⟨m, hm⟩ := hΓ.len
  refine ⟨by simp, fun _ N g h w us H hV => ?_⟩
  obtain ⟨us, rfl, h1⟩ := VL_str hV
  obtain ⟨us, rfl, h2⟩ := VL_str h1
  obtain rfl := VL_nil' h2
  refine (Tryd.strings_Cut _ _ m w (by simp [ByteArray.size]; omega) (H.glob_int hm)).mono ?_
  rintro e w' ⟨rfl, n, rfl⟩
  refine ⟨_, g, rfl, rfl, ?_, ?_, fun _ _ => rfl, fun _ _ _ x => x, fun _ _ => rfl⟩
  · have hw : AM.Inv Tryd.prog Γ N g h (w.drewN n) := H.world rfl rfl rfl rfl
    simpa using hw
  · simp [V, VL]

theorem index_cons (b : UInt8) (l : List UInt8) : Lib.index (b :: l) [10] = if b = 10 then 0 else if Lib.index l [10] = -1 then -1 else Lib.index l [10] + 1 := by
  simp only [Lib.index]
  by_cases h : b = 10
  · subst h; simp
  · have h2 : ¬ (10 : UInt8) = b := fun e => h e.symm
    simp [h, h2]
theorem index_ge' (l : List UInt8) : -1 ≤ Lib.index l [10] := by
  induction l with
  | nil => simp [Lib.index]
  | cons b l ih => rw [index_cons]; split <;> (try split) <;> omega

theorem linesA_cut (x cur : List UInt8) : (linesA x cur = if (Lib.cut x [10]).2.2 then (cur ++ (Lib.cut x [10]).1) :: linesA (Lib.cut x [10]).2.1 [] else [cur ++ (Lib.cut x [10]).1]) ∧ (Lib.cut x [10]).2.1.length ≤ x.length ∧ ((Lib.cut x [10]).2.2 = true → (Lib.cut x [10]).2.1.length < x.length) := by
  induction x generalizing cur with
  | nil => simp [linesA, Lib.cut, Lib.index]
  | cons b l ih =>
    obtain ⟨h1, h2, h3⟩ := ih (cur ++ [b])
    have hg := index_ge' l
    rw [linesA_cons, h1]
    unfold Lib.cut
    rw [index_cons]
    unfold Lib.cut at h2 h3
    by_cases h : b = 10
    · subst h; simp
    · by_cases h5 : 0 ≤ Lib.index l [10]
      · have h6 : ¬ Lib.index l [10] = -1 := by omega
        have h7 : 0 ≤ Lib.index l [10] + 1 := by omega
        have h8 : (Lib.index l [10] + 1).toNat = (Lib.index l [10]).toNat + 1 := by omega
        simp [h, h5, h6, h7, h8] at h2 h3 ⊢
        try omega
      · have h6 : Lib.index l [10] = -1 := by omega
        simp [h, h5, h6]

abbrev linesC (s x : List UInt8) (acc : List (List UInt8)) : Cfg :=
  .fr ⟨.run, n_spot_lines_1, [.code spot_lines_1_b0, .inLoop spot_lines_1_m0 spot_lines_1_b0, .inBlock 0 spot_lines_1_x0], [.yld 5, .ptr 3 0, U, U, U, U, U, U, U, U, U, U, U, U, U, U, U, U, U, U, U], [], .norm, 6⟩
    [⟨.run, n_spot_Lines, [.inRange 5, .inBlock 0 [], .code ((ACode.reg spot_Lines_p0).seq .ret)], [.str s, U, .sl 0 0 0, .ptr 1 0, U, .str s, .fn (.func n_spot_lines_1) [] [.ptr 3 0], U, U, U, U, U, U], [.mark 4], .norm, 0⟩]
    [.row 1 t_string [] none true false, .cells [.sl 2 0 acc.length], .row 1 t_string (acc.map .str) none true false, .cells [.str x], .dfr true,
      .loop .ready .none n_spot_Lines [U, U, .sl 0 0 0, .ptr 1 0, U, U, U, U, U, U, U, U, U] [7] (.reg spot_Lines_p1) spot_Lines_p3]

theorem p_Lines (hΓ : ΓS Γ) (s : List UInt8) (hs : s.length < 2 ^ 31) : PureCon Tryd.prog Γ n_spot_Lines [.str s] (.own 1 t_string ((linesA s []).map .str)) := by
  refine .run 60 c_spot_Lines (by simp) ?_
  have key : ∀ n (x : List UInt8) (acc : List (List UInt8)), x.length ≤ n → acc.length + x.length ≤ s.length → acc ++ linesA x [] = linesA s [] → Fins Tryd.prog Γ (linesC s x acc) (.ret (.own 1 t_string ((linesA s []).map .str))) := by
    intro n
    induction n with
    | zero =>
      intro x acc hx hl hd
      obtain rfl : x = [] := List.length_eq_zero_iff.1 (by omega)
      have hc := p_Cut hΓ [] (by simp)
      have hcut : Lib.cut [] [10] = ([], [], false) := by simp [Lib.cut, Lib.index]
      simp [linesA] at hd
      refine .go 60 ?_
      simp
      refine .call 60 (by simp) hc ?_
      simp (disch := (first | omega | (simp; omega))) [setAll, hcut, ← hd]
      exact .back (by simp)
    | succ n ih =>
      intro x acc hx hl hd
      have hc := p_Cut hΓ x (by omega)
      obtain ⟨hA, hB, hC⟩ := linesA_cut x []
      refine .go 60 ?_
      simp
      refine .call 60 (by simp) hc ?_
      by_cases hm : (Lib.cut x [10]).2.2 = true
      · have hC := hC hm
        rw [hA, if_pos hm, List.append_cons] at hd
        simp (disch := (first | omega | (simp; omega))) [setAll, hm]
        refine .reLoop ?_
        simp
        refine .resetU (i := 2) rfl (by simp) (by simp) ?_
        have hh := ih (Lib.cut x [10]).2.1 (acc ++ [(Lib.cut x [10]).1]) (by omega) (by simp; omega) (by simpa using hd)
        simp [linesC] at hh
        exact hh
      · have hm : (Lib.cut x [10]).2.2 = false := by simpa using hm
        rw [hA, hm] at hd
        simp at hd
        simp (disch := (first | omega | (simp; omega))) [setAll, hm, ← hd]
        exact .back (by simp)
  simp
  refine .enter 60 c_spot_lines ?_
  simp
  refine .enter 60 c_spot_lines_1 ?_
  simp
  refine .inLoop ?_
  have hh := key s.length s [] (by omega) (by simp) (by simp)
  simp [linesC] at hh
  exact hh
end Go.Proofs.YthnplnkddbbojaaDoor
/- Chapter 01: contracts, the sixth part: At. -/
namespace Go.Proofs.YthnplnkddbbojaaDoor
open Go.AM Go.Proofs
variable {Γ : Nat → Option AV}
set_option linter.unusedSimpArgs false
set_option linter.unusedVariables false

@[simp] theorem jump_ret : (Jump.ret == Jump.none) = false := rfl
@[simp] theorem jump_none : (Jump.none == Jump.none) = true := rfl

def atL (l c : Int) : List (List UInt8) → Int → Int → Int × Bool
  | [], _, _ => (0, false)
  | L :: Ls, n, a => if c ≤ L.length + 1 ∧ n = l ∧ 0 < c then (a + c - 1, true) else atL l c Ls (n + 1) (a + L.length + 1)

abbrev atC (s : List UInt8) (l c : Int) (x : List UInt8) (n a : Int) : Cfg :=
  .fr ⟨.run, n_spot_lines_1, [.code spot_lines_1_b0, .inLoop spot_lines_1_m0 spot_lines_1_b0, .inBlock 0 spot_lines_1_x0], [.yld 9, .ptr 7 0, U, U, U, U, U, U, U, U, U, U, U, U, U, U, U, U, U, U, U], [], .norm, 10⟩
    [⟨.run, n_spot_At, [.inRange 9, .inBlock 0 [], .code ((ACode.reg spot_At_p0).seq .ret)], [.str s, .int .i64 l, .int .i64 c, U, U, .ptr 0 0, .ptr 1 0, .ptr 2 0, .ptr 3 0, .ptr 4 0, .ptr 5 0, .ptr 6 0, U, .int .i64 l, .int .i64 c, .agg [.int .i64 l, .int .i64 c], .fn (.func n_spot_At_1) [] [.ptr 3 0], .agg [.int .i64 1, .int .i64 1], .str s, .fn (.func n_spot_lines_1) [] [.ptr 7 0], U, U, U, U, U, U, U, U, U, U, U, U, U, U, U, U, U, U, U, U, U, U, U, U, U, U, U, U, U, U, U], [.mark 8], .norm, 0⟩]
    [.cells [.int .i64 c], .cells [.int .i64 0], .cells [.bool false], .cells [.int .i64 l, .int .i64 c], .cells [.int .i64 a], .cells [.fn (.func n_spot_At_1) [] [.ptr 3 0]], .cells [.int .i64 n, .int .i64 1], .cells [.str x], .dfr true,
      .loop .ready .none n_spot_At [U, U, U, U, U, .ptr 0 0, .ptr 1 0, .ptr 2 0, U, .ptr 4 0, .ptr 5 0, .ptr 6 0, U, U, U, U, U, U, U, U, U, U, U, U, U, U, U, U, U, U, U, U, U, U, U, U, U, U, U, U, U, U, U, U, U, U, U, U, U, U, U] [20] (.reg spot_At_p1) spot_At_p8]

theorem cut_len (x : List UInt8) : (Lib.cut x [10]).1.length ≤ x.length ∧ ((Lib.cut x [10]).2.2 = true → (Lib.cut x [10]).2.1.length + (Lib.cut x [10]).1.length + 1 = x.length) := by
  unfold Lib.cut
  by_cases h : 0 ≤ Lib.index x [10]
  · have hr := Lib.index_room x [10] (by omega)
    simp [h] at hr ⊢
    omega
  · simp [h]

set_option maxRecDepth 4000 in
theorem p_At (hΓ : ΓS Γ) (s : List UInt8) (l c : Int) (hs : s.length < 2 ^ 31) : PureCon Tryd.prog Γ n_spot_At [.str s, .int .i64 l, .int .i64 c] (.tup [.int .i64 (atL l c (linesA s []) 1 0).1, .bool (atL l c (linesA s []) 1 0).2]) := by
  have key : ∀ m (x : List UInt8) (n a : Nat), x.length < m → n + x.length ≤ s.length + 1 → a + x.length ≤ s.length → atL l c (linesA x []) n a = atL l c (linesA s []) 1 0 → Fins Tryd.prog Γ (atC s l c x n a) (.ret (.tup [.int .i64 (atL l c (linesA s []) 1 0).1, .bool (atL l c (linesA s []) 1 0).2])) := by
    intro m
    induction m with
    | zero => intro x n a hx; omega
    | succ m ih =>
      intro x n a hx hn ha hd
      have hc := p_Cut hΓ x (by omega)
      obtain ⟨hA, hB, hC⟩ := linesA_cut x []
      obtain ⟨hlen, hex⟩ := cut_len x
      rw [hA] at hd
      refine .go 60 ?_
      simp
      refine .call 120 (by simp) hc ?_
      by_cases c1 : c ≤ (Lib.cut x [10]).1.length + 1
      · simp (disch := (first | omega | (simp; omega))) [setAll, c1]
        refine .enter 120 c_spot_At_1 ?_
        by_cases c2 : (n : Int) = l
        · subst c2
          by_cases c3 : 0 < c
          · have hr : atL (n : Int) c (linesA s []) 1 0 = (a + c - 1, true) := by
              rw [← hd]
              by_cases hm : (Lib.cut x [10]).2.2 = true <;> simp [hm, atL, c1, c3]
            simp (disch := (first | omega | (simp; omega))) [setAll, c3, hr]
            exact .back (by simp)
          · by_cases hm : (Lib.cut x [10]).2.2 = true
            · have hex := hex hm
              simp [hm, atL, c1, c3] at hd
              simp (disch := (first | omega | (simp; omega))) [setAll, c3, hm]
              refine .reLoop ?_
              simp
              refine .drop 10 rfl (by simp) (by simp) (by simp) ?_
              have hh := ih (Lib.cut x [10]).2.1 (n + 1) (a + ((Lib.cut x [10]).1.length + 1)) (by omega) (by omega) (by omega) (by rw [← hd]; congr 1)
              simp [atC] at hh
              exact hh
            · have hm : (Lib.cut x [10]).2.2 = false := by simpa using hm
              simp [hm, atL, c1, c3] at hd
              simp (disch := (first | omega | (simp; omega))) [setAll, c3, hm, ← hd]
              exact .back (by simp)
        · by_cases hm : (Lib.cut x [10]).2.2 = true
          · have hex := hex hm
            simp [hm, atL, c1, c2] at hd
            simp (disch := (first | omega | (simp; omega))) [setAll, c2, hm]
            refine .reLoop ?_
            simp
            refine .drop 10 rfl (by simp) (by simp) (by simp) ?_
            have hh := ih (Lib.cut x [10]).2.1 (n + 1) (a + ((Lib.cut x [10]).1.length + 1)) (by omega) (by omega) (by omega) (by rw [← hd]; congr 1)
            simp [atC] at hh
            exact hh
          · have hm : (Lib.cut x [10]).2.2 = false := by simpa using hm
            simp [hm, atL, c1, c2] at hd
            simp (disch := (first | omega | (simp; omega))) [setAll, c2, hm, ← hd]
            exact .back (by simp)
      · by_cases hm : (Lib.cut x [10]).2.2 = true
        · have hex := hex hm
          simp [hm, atL, c1] at hd
          simp (disch := (first | omega | (simp; omega))) [setAll, c1, hm]
          refine .reLoop ?_
          simp
          have hh := ih (Lib.cut x [10]).2.1 (n + 1) (a + ((Lib.cut x [10]).1.length + 1)) (by omega) (by omega) (by omega) (by rw [← hd]; congr 1)
          simp [atC] at hh
          exact hh
        · have hm : (Lib.cut x [10]).2.2 = false := by simpa using hm
          simp [hm, atL, c1] at hd
          simp (disch := (first | omega | (simp; omega))) [setAll, c1, hm, ← hd]
          exact .back (by simp)
  refine .run 60 c_spot_At (by simp) ?_
  have h0 := hΓ.start
  simp [h0]
  refine .enter 60 c_spot_lines ?_
  simp
  refine .enter 60 c_spot_lines_1 ?_
  simp
  refine .inLoop ?_
  have hh := key (s.length + 1) s 1 0 (by omega) (by omega) (by omega) (by simp)
  simp [atC] at hh
  exact hh
end Go.Proofs.YthnplnkddbbojaaDoor
/- Contracts of the reference's functions of chapter 01 on rows: Texts, Ints, Has. -/
namespace Go.Proofs.YthnplnkddbbojaaDoor
open Go.AM Go.Proofs
variable {Γ : Nat → Option AV}
set_option linter.unusedSimpArgs false
set_option linter.unusedVariables false

/-- A list may have its elements' size, or any if it is empty. -/
def Kd (n k : Nat) {α : Type} (l : List α) : Prop := k = n ∨ l = []
theorem Kd.of {n k : Nat} {α : Type} {l : List α} (h : Kd n k l) {i : Nat} (hi : i < l.length) : k = n := by
  rcases h with h | h
  · exact h
  · subst h; simp at hi

theorem p_r01_Texts (a b : List (List UInt8)) {ka kb : Nat} (ha : Kd 1 ka a) (hb : Kd 1 kb b) (hs : a.length < 2 ^ 60) : PureCon Tryd.prog Γ n_r01_Texts [.list false ka (a.map .str), .list false kb (b.map .str)] (.bool (decide (a = b))) := by
  refine .run 60 c_r01_Texts (by simp) ?_
  by_cases hl : a.length = b.length
  · have key : ∀ n i : Nat, i + n = a.length → Fins Tryd.prog Γ (r01_Texts_L1 (.list false ka (a.map .str)) (.list false kb (b.map .str)) (.int .i64 i) []) (.ret (.bool (decide (a.drop i = b.drop i)))) := by
      intro n
      induction n with
      | zero =>
        intro i hi
        refine .go 60 ?_
        have h1 : ¬ i < a.length := by omega
        have h2 : a.drop i = b.drop i := by rw [List.drop_eq_nil_of_le (by omega), List.drop_eq_nil_of_le (by omega)]
        simp [h1, h2]
        exact .back (by simp)
      | succ n ih =>
        intro i hi
        have h1 : i < a.length := by omega
        have h2 : i < b.length := by omega
        obtain rfl := ha.of h1
        obtain rfl := hb.of h2
        have h4 := drop_eq h1 h2
        refine .go 60 ?_
        by_cases h3 : a[i] = b[i]
        · simp (disch := omega) [h1, h2, h3, h4]
          refine .reLoop ?_
          simpa using ih (i + 1) (by omega)
        · simp (disch := omega) [h1, h2, h3, h4]
          exact .back (by simp)
    simp [hl]
    refine .inLoop ?_
    simpa [hl] using key a.length 0 (by omega)
  · have h2 : ¬ a = b := fun e => hl (by rw [e])
    simp [hl, h2]
    exact .back (by simp)
end Go.Proofs.YthnplnkddbbojaaDoor
/- Chapter 01: the laws' first part: the document's example. -/
namespace Go.Proofs.YthnplnkddbbojaaDoor
open Go.AM Go.Proofs
variable {Γ : Nat → Option AV}
set_option linter.unusedSimpArgs false
set_option linter.unusedVariables false

@[simp] theorem eq_fail (a b c x y z : Int) : eqData (.strct [.int, .int, .int]) (.agg [.int .i64 a, .int .i64 b, .int .i64 c]) (.agg [.int .i64 x, .int .i64 y, .int .i64 z]) = some (decide ((a, b, c) = (x, y, z))) := by
  have e1 : (a == x) = decide (a = x) := rfl
  have e2 : (b == y) = decide (b = y) := rfl
  have e3 : (c == z) = decide (c = z) := rfl
  by_cases h1 : a = x <;> by_cases h2 : b = y <;> by_cases h3 : c = z <;> simp [eqData, allDatum, eqAll, eqOne, isDatum, e1, e2, e3, h1, h2, h3]

abbrev exT : List UInt8 := [97, 98, 10, 99]
set_option maxRecDepth 4000 in
theorem p_works (hΓ : ΓS Γ) : PureCon Tryd.prog Γ n_w01_works [] (.bool true) := by
  have e1 : place exT 3 = (2, 1) := by decide
  have e2 : atL 2 1 (linesA exT []) 1 0 = (3, true) := by decide
  have e3 : atL 1 9 (linesA exT []) 1 0 = (0, false) := by decide
  have e4 : linesA exT [] = [[97, 98], [99]] := by decide
  have e5 : place exT 4 = (2, 2) := by decide
  have e6 : walk [120, 10, 121, 122] (3, 5) = (4, 3) := by decide
  refine .run 60 c_w01_works (by simp) ?_
  simp
  refine .call 60 (by simp) (p_Place hΓ exT 3 (by simp)) ?_
  simp [e1]
  refine .call 60 (by simp) (p_At hΓ exT 2 1 (by simp)) ?_
  simp [e2]
  refine .call 60 (by simp) (p_At hΓ exT 1 9 (by simp)) ?_
  simp [e3]
  refine .call 60 (by simp) (p_Lines hΓ exT (by simp)) ?_
  simp [e4]
  refine .call 60 (by simp) (p_Fail hΓ exT 4 4 (by simp)) ?_
  simp [failF, e5]
  refine .call 60 (by simp) (p_Fail hΓ exT 4 0 (by simp)) ?_
  simp [failF]
  refine .call 120 (by simp) (p_Move [120, 10, 121, 122] (3, 5) (by simp) (by simp) (by simp) (by simp) (by simp)) ?_
  simp [e6]
  exact .back (by simp)
end Go.Proofs.YthnplnkddbbojaaDoor
/- Chapter 01: the laws. -/
namespace Go.Proofs.YthnplnkddbbojaaDoor
open Go.AM Go.Proofs
variable {Γ : Nat → Option AV}
set_option linter.unusedSimpArgs false
set_option linter.unusedVariables false

theorem place_neg (s : List UInt8) {n : Int} (h : n ≤ 0) : place s n = (1, 1) := by
  have : n.toNat = 0 := by omega
  simp [place, this]
theorem place_big (s : List UInt8) {n : Int} (h : (s.length : Int) ≤ n) : place s n = place s s.length := by
  unfold place
  rw [List.take_of_length_le (by omega), List.take_of_length_le (by simp)]

set_option maxRecDepth 4000 in
theorem p_SpotEnds (hΓ : ΓS Γ) (s : List UInt8) (n e : Int) : PureCon Tryd.prog Γ n_w01_SpotEnds [.str s, .int .i64 n, .int .i64 e] (.bool true) := by
  refine .run 60 c_w01_SpotEnds (by simp) ?_
  simp
  refine .call 60 (by simp) (p_works hΓ) ?_
  by_cases h1 : (200 : Int) < s.length
  · simp [h1]
    exact .back (by simp)
  · simp [h1]
    refine .call 60 (by simp) (p_Place hΓ s n (by omega)) ?_
    simp
    refine .call 60 (by simp) (p_Place hΓ s s.length (by omega)) ?_
    simp
    refine .call 120 (by simp) (p_Fail hΓ s n e (by omega)) ?_
    by_cases h2 : e = 0
    · simp [h2, failF]
      exact .back (by simp)
    · by_cases h3 : 0 < n
      · by_cases h4 : n < s.length
        · simp [h2, h3, h4, failF]
          exact .back (by simp)
        · have h5 := place_big s (n := n) (by omega)
          simp [h2, h3, h4, failF, h5]
          exact .back (by simp)
      · have h5 := place_neg s (n := n) (by omega)
        by_cases h4 : n < s.length
        · simp [h2, h3, h4, failF, h5]
          exact .back (by simp)
        · have h6 := place_big s (n := n) (by omega)
          rw [h5] at h6
          simp [h2, h3, h4, failF, h5, ← h6]
          exact .back (by simp)
end Go.Proofs.YthnplnkddbbojaaDoor
/- Chapter 01: the laws, SpotMoves. -/
namespace Go.Proofs.YthnplnkddbbojaaDoor
open Go.AM Go.Proofs
variable {Γ : Nat → Option AV}
set_option linter.unusedSimpArgs false
set_option linter.unusedVariables false

theorem walk_lo (s : List UInt8) (p : Int × Int) (a : Int) (h1 : a ≤ p.2) (h2 : a ≤ 1) : a ≤ (walk s p).2 := by
  induction s generalizing p with
  | nil => exact h1
  | cons c s ih =>
    rw [walk_cons]
    split
    · exact ih _ h2
    · exact ih _ (by simp; omega)
theorem walk_hi (s : List UInt8) (p : Int × Int) (b : Int) (h1 : p.2 ≤ b) (h2 : 1 ≤ b) : (walk s p).2 ≤ b + s.length := by
  induction s generalizing p b with
  | nil => simpa using h1
  | cons c s ih =>
    rw [walk_cons]
    simp only [List.length_cons]
    split
    · have := ih (p.1 + 1, 1) (b + 1) (by simp; omega) (by omega); omega
    · have := ih (p.1, p.2 + 1) (b + 1) (by simp; omega) (by omega); omega

set_option maxRecDepth 4000 in
theorem p_SpotMoves (hΓ : ΓS Γ) (s t : List UInt8) (n e : Int) (hn : -32768 ≤ n ∧ n < 32768) (he : -32768 ≤ e ∧ e < 32768) : PureCon Tryd.prog Γ n_w01_SpotMoves [.str s, .str t, .int .i16 n, .int .i16 e] (.bool true) := by
  refine .run 60 c_w01_SpotMoves (by simp) ?_
  simp
  refine .call 60 (by simp) (p_works hΓ) ?_
  by_cases h1 : (200 : Int) < s.length
  · simp [h1]
    exact .back (by simp)
  · by_cases h2 : (200 : Int) < t.length
    · simp [h1, h2]
      exact .back (by simp)
    · have w0 : place s s.length = walk s (1, 1) := by unfold place; rw [List.take_of_length_le (by simp)]
      have w1 : place (s ++ t) (s.length + t.length) = walk t (walk s (1, 1)) := by unfold place; rw [List.take_of_length_le (by simp), walk_append]
      have w2 := walk_append s t (n, e)
      have b1 := walk_bound s (1, 1) (by simp) (by simp)
      have b2 := walk_fst s (n, e)
      have b3 := walk_lo s (n, e) (-32768) (by simp; omega) (by omega)
      have b4 := walk_hi s (n, e) 32768 (by simp; omega) (by omega)
      have b5 : s.count 10 ≤ s.length := List.count_le_length
      simp at b1 b2
      simp [h1, h2]
      refine .call 60 (by simp) (p_Move s (1, 1) (by omega) (by simp) (by simp) (by simp) (by simp)) ?_
      simp
      refine .call 60 (by simp) (p_Place hΓ s s.length (by omega)) ?_
      simp [w0]
      refine .call 60 (by simp) (p_Move t (walk s (1, 1)) (by omega) (by omega) (by omega) (by omega) (by omega)) ?_
      simp (disch := omega)
      refine .call 60 (by simp) (p_Place hΓ (s ++ t) (s.length + t.length) (by simp; omega)) ?_
      simp (disch := omega) [w1]
      refine .call 60 (by simp) (p_Move s (n, e) (by omega) (by simp; omega) (by simp; omega) (by simp; omega) (by simp; omega)) ?_
      simp (disch := omega)
      refine .call 60 (by simp) (p_Move t (walk s (n, e)) (by omega) (by omega) (by omega) (by omega) (by omega)) ?_
      simp (disch := omega)
      refine .call 120 (by simp) (p_Move (s ++ t) (n, e) (by simp; omega) (by simp; omega) (by simp; omega) (by simp; omega) (by simp; omega)) ?_
      simp (disch := omega) [w2]
      exact .back (by simp)
end Go.Proofs.YthnplnkddbbojaaDoor
/- Chapter 01: spot.At is the reference's At. -/
namespace Go.Proofs.YthnplnkddbbojaaDoor
open Go.AM Go.Proofs
set_option linter.unusedSimpArgs false
set_option linter.unusedVariables false

/-- The reference's search, from a place of the text on. -/
def atW (w : Int × Int) : List UInt8 → Int → Int × Int → Int × Bool
  | [], i, p => if p = w then (i, true) else (0, false)
  | c :: s, i, p => if p = w then (i, true) else atW w s (i + 1) (if c = 10 then (p.1 + 1, 1) else (p.1, p.2 + 1))
theorem atF_atW (s : List UInt8) (w : Int × Int) : ∀ (n i : Nat), i + n = s.length → atF s w i (n + 1) = atW w (s.drop i) i (walk (s.take i) (1, 1)) := by
  intro n
  induction n with
  | zero =>
    intro i hi
    rw [List.drop_eq_nil_of_le (by omega)]
    simp [atF, atW]
  | succ n ih =>
    intro i hi
    have h1 : i < s.length := by omega
    rw [List.drop_eq_getElem_cons h1, atF, atW]
    split
    · rfl
    · rw [ih (i + 1) (by omega), List.take_succ_eq_append_getElem h1, walk_append]
      simp [walk_cons]
theorem atW_past (w : Int × Int) (s : List UInt8) (i : Int) (p : Int × Int) (h : w.1 < p.1) : atW w s i p = (0, false) := by
  have h1 : ∀ q : Int × Int, w.1 < q.1 → ¬ q = w := fun q hq e => by subst e; omega
  induction s generalizing i p with
  | nil => simp [atW, h1 p h]
  | cons c s ih =>
    rw [atW, if_neg (h1 p h)]
    split
    · exact ih _ _ (by simp; omega)
    · exact ih _ _ (by simp; omega)
theorem atL_past (l c : Int) (Ls : List (List UInt8)) (n a : Int) (h : l < n) : atL l c Ls n a = (0, false) := by
  induction Ls generalizing n a with
  | nil => rfl
  | cons L Ls ih =>
    have h1 : ¬ (c ≤ L.length + 1 ∧ n = l ∧ 0 < c) := by omega
    rw [atL, if_neg h1, ih _ _ (by omega)]
theorem linesA_head (s cur : List UInt8) : ∃ L Ls, linesA s cur = L :: Ls ∧ cur.length ≤ L.length := by
  induction s generalizing cur with
  | nil => exact ⟨cur, [], rfl, Nat.le_refl _⟩
  | cons c s ih =>
    rw [linesA_cons]
    split
    · exact ⟨cur, _, rfl, Nat.le_refl _⟩
    · obtain ⟨L, Ls, h1, h2⟩ := ih (cur ++ [c])
      exact ⟨L, Ls, h1, by simp at h2; omega⟩
/-- In one line. cur: what of the line is behind. -/
theorem atL_atW (l c : Int) (s cur : List UInt8) (n a : Int) (h : n = l → 0 < c → (cur.length : Int) < c) : atL l c (linesA s cur) n a = atW (l, c) s (a + cur.length) (n, cur.length + 1) := by
  induction s generalizing cur n a with
  | nil =>
    simp only [linesA, atL, atW, Prod.mk.injEq]
    by_cases h1 : n = l
    · by_cases h2 : 0 < c
      · have := h h1 h2
        by_cases h3 : (cur.length : Int) + 1 = c
        · have h4 : c ≤ cur.length + 1 := by omega
          simp [h1, h2, h3, h4]; omega
        · have h4 : ¬ c ≤ cur.length + 1 := by omega
          simp [h1, h2, h3, h4]
      · have h3 : ¬ (cur.length : Int) + 1 = c := by omega
        simp [h1, h2, h3]
    · simp [h1]
  | cons b s ih =>
    rw [linesA_cons]
    simp only [atW, Prod.mk.injEq]
    by_cases h1 : n = l ∧ (cur.length : Int) + 1 = c
    · obtain ⟨h1, h2⟩ := h1
      rw [if_pos (show n = l ∧ (cur.length : Int) + 1 = c from ⟨h1, h2⟩)]
      by_cases hb : b = 10
      · have h3 : c ≤ cur.length + 1 ∧ n = l ∧ 0 < c := ⟨by omega, h1, by omega⟩
        rw [if_pos hb, atL, if_pos h3]
        exact Prod.ext (by simp; omega) rfl
      · rw [if_neg hb]
        obtain ⟨L, Ls, h4, h5⟩ := linesA_head s (cur ++ [b])
        simp at h5
        have h3 : c ≤ L.length + 1 ∧ n = l ∧ 0 < c := ⟨by omega, h1, by omega⟩
        rw [h4, atL, if_pos h3]
        exact Prod.ext (by simp; omega) rfl
    · rw [if_neg h1]
      by_cases hb : b = 10
      · have h3 : ¬ (c ≤ cur.length + 1 ∧ n = l ∧ 0 < c) := fun e => by
          have := h e.2.1 e.2.2
          exact h1 ⟨e.2.1, by omega⟩
        rw [if_pos hb, atL, if_neg h3, if_pos hb]
        rw [ih [] (n + 1) (a + cur.length + 1) (by intro _ h6; simpa using h6)]
        simp
      · rw [if_neg hb, if_neg hb, ih (cur ++ [b]) n a (by intro h5 h6; have := h h5 h6; simp; by_cases h7 : (cur.length : Int) + 1 = c; exact absurd ⟨h5, h7⟩ h1; omega)]
        simp
        congr 1
        omega
end Go.Proofs.YthnplnkddbbojaaDoor
/- Chapter 01: the laws, SpotPlaces. -/
namespace Go.Proofs.YthnplnkddbbojaaDoor
open Go.AM Go.Proofs
variable {Γ : Nat → Option AV}
set_option linter.unusedSimpArgs false
set_option linter.unusedVariables false

theorem at_eq (s : List UInt8) (l c : Int) : atL l c (linesA s []) 1 0 = atF s (l, c) 0 (s.length + 1) := by
  rw [atF_atW s (l, c) s.length 0 (by omega), atL_atW l c s [] 1 0 (by intro _ h; simpa using h)]
  simp

set_option maxRecDepth 4000 in
theorem p_SpotPlaces (hΓ : ΓS Γ) (s : List UInt8) (n l c e : Int) : PureCon Tryd.prog Γ n_w01_SpotPlaces [.str s, .int .i64 n, .int .i64 l, .int .i64 c, .int .i64 e] (.bool true) := by
  refine .run 60 c_w01_SpotPlaces (by simp) ?_
  simp
  refine .call 60 (by simp) (p_works hΓ) ?_
  by_cases h1 : (200 : Int) < s.length
  · simp [h1]
    exact .back (by simp)
  · have w0 : walk (s.take n.toNat) (1, 1) = place s n := rfl
    simp [h1]
    refine .call 60 (by simp) (p_Place hΓ s n (by omega)) ?_
    simp
    refine .call 60 (by simp) (p_r01_Place s n (by omega)) ?_
    simp [ePl_def, w0]
    refine .call 60 (by simp) (p_At hΓ s l c (by omega)) ?_
    simp
    refine .call 60 (by simp [ePl_def]) (p_r01_At s (l, c) (by omega)) ?_
    simp [at_eq]
    refine .call 60 (by simp) (p_r01_Fail s n e (by omega)) ?_
    have hF := p_Fail (Γ := Γ) hΓ s n e (by omega)
    by_cases h2 : e = 0
    · simp [h2, failF] at hF ⊢
      refine .dr 60 ?_
      simp
      refine .call (by simp) hF ?_
      simp
      exact .back (by simp)
    · simp [h2, failF] at hF ⊢
      refine .dr 60 ?_
      simp
      refine .call (by simp) hF ?_
      simp
      exact .back (by simp)
end Go.Proofs.YthnplnkddbbojaaDoor
/- Chapter 01: the laws, SpotLines, SpotOrder, SpotBack. -/
namespace Go.Proofs.YthnplnkddbbojaaDoor
open Go.AM Go.Proofs
variable {Γ : Nat → Option AV}
set_option linter.unusedSimpArgs false
set_option linter.unusedVariables false

/-- Lines, with a byte 10 between them. -/
def flat10 : List (List UInt8) → List UInt8
  | [] => []
  | l :: ls => 10 :: (l ++ flat10 ls)
def joinA : List (List UInt8) → List UInt8
  | [] => []
  | l :: ls => l ++ flat10 ls
theorem joinA_lines (s cur : List UInt8) : joinA (linesA s cur) = cur ++ s := by
  induction s generalizing cur with
  | nil => simp [linesA, joinA, flat10]
  | cons c s ih =>
    rw [linesA_cons]
    split
    · rename_i hc
      subst hc
      have h1 := ih []
      obtain ⟨L, Ls, h2, _⟩ := linesA_head s []
      rw [h2] at h1 ⊢
      simp only [joinA, flat10] at h1 ⊢
      rw [h1]
      simp
    · rw [ih]; simp
theorem flat10_append (a b : List (List UInt8)) : flat10 (a ++ b) = flat10 a ++ flat10 b := by
  induction a with
  | nil => rfl
  | cons x a ih => simp [flat10, ih]
theorem joinA_take (ls : List (List UInt8)) (i : Nat) (hi : i < ls.length) : joinA (ls.take (i + 1)) = joinA (ls.take i) ++ (if i = 0 then [] else [10]) ++ ls[i] := by
  cases ls with
  | nil => simp at hi
  | cons l ls =>
    cases i with
    | zero => simp [joinA, flat10]
    | succ i =>
      simp at hi
      rw [List.take_succ_cons, List.take_succ_cons, joinA, joinA, List.take_succ_eq_append_getElem hi, flat10_append]
      simp [flat10]
theorem joinA_len (ls : List (List UInt8)) (i : Nat) : (joinA (ls.take i)).length ≤ (joinA ls).length := by
  cases ls with
  | nil => simp
  | cons l ls =>
    cases i with
    | zero => simp [joinA]
    | succ i =>
      have h : flat10 ls = flat10 (ls.take i) ++ flat10 (ls.drop i) := by rw [← flat10_append, List.take_append_drop]
      simp only [List.take_succ_cons, joinA, List.length_append, h]
      omega

set_option maxRecDepth 4000 in
theorem p_SpotLines (hΓ : ΓS Γ) (s : List UInt8) : PureCon Tryd.prog Γ n_w01_SpotLines [.str s] (.bool true) := by
  refine .run 60 c_w01_SpotLines (by simp) ?_
  simp
  refine .call 60 (by simp) (p_works hΓ) ?_
  by_cases h1 : (200 : Int) < s.length
  · simp [h1]
    exact .back (by simp)
  · have hlen := linesA_len s []
    have hj : joinA (linesA s []) = s := by simpa using joinA_lines s []
    have hp := p_Lines hΓ s (by omega)
    have hq := p_r01_Lines (Γ := Γ) s (by omega)
    have hsl : s.length ≤ 200 := by omega
    simp [h1]
    refine .call 60 (by simp) hp ?_
    clear hp
    simp
    refine .call 60 (by simp) hq ?_
    clear hq
    generalize linesA s [] = ls at *
    simp
    refine .call 60 (by simp) (p_r01_Texts (Γ := Γ) ls ls (.inl rfl) (.inl rfl) (by omega)) ?_
    simp
    refine .inLoop ?_
    have key : ∀ n i, i + n = ls.length → Fins Tryd.prog Γ (w01_SpotLines_L1 (.str s) (.bool true) (.sl 0 0 ls.length) (.bool true) (.str (joinA (ls.take i))) (.int .i64 i) [.row 1 t_string (ls.map .str) none true false, .row 1 t_string (ls.map .str) none true false]) (.ret (.bool true)) := by
      intro n
      induction n with
      | zero =>
        intro i hi
        have h2 : ¬ i < ls.length := by omega
        have h3 : ls.take i = ls := List.take_of_length_le (by omega)
        refine .go 60 ?_
        simp [h2, h3, hj]
        exact .back (by simp)
      | succ n ih =>
        intro i hi
        have h2 : i < ls.length := by omega
        have h3 := joinA_take ls i h2
        have h4 := joinA_len ls (i + 1)
        have h5 := joinA_len ls i
        rw [h3, hj] at h4
        rw [hj] at h5
        simp only [List.length_append] at h4
        have hh := ih (i + 1) (by omega)
        rw [h3] at hh
        refine .go 60 ?_
        by_cases h6 : i = 0
        · subst h6
          simp at h4 hh
          simp (disch := (first | omega | (simp; omega))) [h2]
          refine .reLoop ?_
          simp
          exact hh
        · simp [h6] at h4 hh
          have h7 : 0 < i := by omega
          simp (disch := (first | omega | (simp; omega))) [h2, h6, h7]
          refine .reLoop ?_
          simp
          exact hh
    have hh := key ls.length 0 (by omega)
    simp [joinA] at hh
    exact hh

theorem walk_lex (t : List UInt8) (p : Int × Int) (ht : t ≠ []) : p.1 < (walk t p).1 ∨ (p.1 = (walk t p).1 ∧ p.2 < (walk t p).2) := by
  induction t generalizing p with
  | nil => exact absurd rfl ht
  | cons c t ih =>
    rw [walk_cons]
    by_cases hc : c = 10
    · rw [if_pos hc]
      left
      have := walk_fst t (p.1 + 1, 1)
      simp at this
      omega
    · rw [if_neg hc]
      by_cases h0 : t = []
      · subst h0; right; simp; omega
      · have := ih (p.1, p.2 + 1) h0
        simp at this
        omega
theorem place_lt (s : List UInt8) (i k : Nat) (h : i < k) (hk : k ≤ s.length) : (walk (s.take i) (1, 1)).1 < (walk (s.take k) (1, 1)).1 ∨ ((walk (s.take i) (1, 1)).1 = (walk (s.take k) (1, 1)).1 ∧ (walk (s.take i) (1, 1)).2 < (walk (s.take k) (1, 1)).2) := by
  have h1 : s.take k = s.take i ++ (s.take k).drop i := by
    conv => lhs; rw [← List.take_append_drop i (s.take k)]
    rw [List.take_take, Nat.min_eq_left (by omega)]
  have h2 : (s.take k).drop i ≠ [] := by
    intro e
    have := congrArg List.length e
    simp at this
    omega
  rw [h1, walk_append]
  exact walk_lex _ _ h2
theorem rem_nat (n : Int) (m : Nat) (h : 0 ≤ n) : n.tmod ((m : Int) + 1) = ((n.toNat % (m + 1) : Nat) : Int) := by
  obtain ⟨a, rfl⟩ := Int.eq_ofNat_of_zero_le h
  have h1 : ((m : Int) + 1) = ((m + 1 : Nat) : Int) := by omega
  rw [h1, Int.tmod_eq_emod_of_nonneg (by omega)]
  simp
theorem rem_le (n : Int) (m : Nat) : n.toNat % (m + 1) ≤ m := by
  have := Nat.mod_lt n.toNat (y := m + 1) (by omega)
  omega

set_option maxRecDepth 4000 in
theorem p_SpotOrder (hΓ : ΓS Γ) (s : List UInt8) (a b : Int) (ha : 0 ≤ a ∧ a < 256) (hb : 0 ≤ b ∧ b < 256) : PureCon Tryd.prog Γ n_w01_SpotOrder [.str s, .int .u8 a, .int .u8 b] (.bool true) := by
  refine .run 60 c_w01_SpotOrder (by simp) ?_
  simp
  refine .call 60 (by simp) (p_works hΓ) ?_
  by_cases h1 : (200 : Int) < s.length
  · simp [h1]
    exact .back (by simp)
  · obtain ⟨i, e1, l1⟩ : ∃ i : Nat, a.tmod ((s.length : Int) + 1) = i ∧ i ≤ s.length := ⟨_, rem_nat a s.length ha.1, rem_le a s.length⟩
    obtain ⟨k, e2, l2⟩ : ∃ k : Nat, b.tmod ((s.length : Int) + 1) = k ∧ k ≤ s.length := ⟨_, rem_nat b s.length hb.1, rem_le b s.length⟩
    have h0 : ¬ (s.length : Int) + 1 = 0 := by omega
    simp (disch := omega) [h1, e1, e2, h0]
    refine .call 60 (by simp) (p_Place hΓ s i (by omega)) ?_
    simp
    refine .call 100 (by simp) (p_Place hΓ s k (by omega)) ?_
    have q1 := place_lt s i k
    have q2 := place_lt s k i
    have w1 : place s i = walk (s.take i) (1, 1) := by simp [place]
    have w2 : place s k = walk (s.take k) (1, 1) := by simp [place]
    rw [← w1, ← w2] at q1 q2
    generalize place s i = p at *
    generalize place s k = q at *
    obtain ⟨p1, p2⟩ := p
    obtain ⟨r1, r2⟩ := q
    simp at q1 q2
    by_cases c1 : i < k
    · have q1 := q1 c1 l2
      by_cases c2 : p1 < r1
      · simp [c1, c2]
        exact .back (by simp)
      · have c3 : p1 = r1 := by omega
        have c4 : p2 < r2 := by omega
        simp [c1, c2, c3, c4]
        exact .back (by simp)
    · have c2 : ¬ p1 < r1 := by
        intro h
        rcases Nat.lt_or_ge k i with h5 | h5
        · have := q2 h5 l1; omega
        · have : i = k := by omega
          subst this
          have : (p1, p2) = (r1, r2) := by rw [w1, w2]
          simp at this; omega
      by_cases c3 : p1 = r1
      · have c4 : ¬ p2 < r2 := by
          intro h
          rcases Nat.lt_or_ge k i with h5 | h5
          · have := q2 h5 l1; omega
          · have : i = k := by omega
            subst this
            have : (p1, p2) = (r1, r2) := by rw [w1, w2]
            simp at this; omega
        simp [c1, c2, c3, c4]
        exact .back (by simp)
      · simp [c1, c2, c3]
        exact .back (by simp)

theorem atF_first (s : List UInt8) (w : Int × Int) (k : Nat) (hw : walk (s.take k) (1, 1) = w) : ∀ (n i : Nat), i ≤ k → k < i + n → (∀ j, i ≤ j → j < k → walk (s.take j) (1, 1) ≠ w) → atF s w i n = ((k : Int), true) := by
  intro n
  induction n with
  | zero => intro i h1 h2; omega
  | succ n ih =>
    intro i h1 h2 h3
    rw [atF]
    by_cases h4 : i = k
    · subst h4; simp [hw]
    · rw [if_neg (h3 i (Nat.le_refl _) (by omega))]
      exact ih (i + 1) (by omega) (by omega) (fun j h5 h6 => h3 j (by omega) h6)
theorem at_place (s : List UInt8) (k : Nat) (hk : k ≤ s.length) : atL (place s k).1 (place s k).2 (linesA s []) 1 0 = ((k : Int), true) := by
  have w1 : place s k = walk (s.take k) (1, 1) := by simp [place]
  rw [at_eq, w1]
  refine atF_first s _ k rfl _ 0 (by omega) (by omega) ?_
  intro j _ hj e
  have e1 := congrArg Prod.fst e
  have e2 := congrArg Prod.snd e
  have := place_lt s j k hj hk
  omega
theorem atL_line (l c : Int) : ∀ (Ls : List (List UInt8)) (n a : Int), (atL l c Ls n a).2 = true → ∃ m : Nat, l = n + m ∧ 0 < c ∧ ∃ h : m < Ls.length, c ≤ Ls[m].length + 1
  | [], n, a, h => by simp [atL] at h
  | L :: Ls, n, a, h => by
    rw [atL] at h
    split at h
    · rename_i hc
      exact ⟨0, by simp; omega, hc.2.2, by simp, by simpa using hc.1⟩
    · obtain ⟨m, h1, h2, h3, h4⟩ := atL_line l c Ls (n + 1) _ h
      exact ⟨m + 1, by omega, h2, by simpa using h3, by simpa using h4⟩

theorem linesA_each (s cur : List UInt8) : ∀ L ∈ linesA s cur, L.length ≤ cur.length + s.length := by
  induction s generalizing cur with
  | nil => intro L hL; simp [linesA] at hL; subst hL; simp
  | cons c s ih =>
    intro L hL
    rw [linesA_cons] at hL
    simp only [List.length_cons]
    split at hL
    · rcases List.mem_cons.1 hL with rfl | hL
      · omega
      · have := ih [] L hL; simp at this; omega
    · have := ih (cur ++ [c]) L hL; simp at this; omega

set_option maxRecDepth 4000 in
theorem p_SpotBack (hΓ : ΓS Γ) (s : List UInt8) (a : Int) (ha : 0 ≤ a ∧ a < 256) : PureCon Tryd.prog Γ n_w01_SpotBack [.str s, .int .u8 a] (.bool true) := by
  refine .run 60 c_w01_SpotBack (by simp) ?_
  simp
  refine .call 60 (by simp) (p_works hΓ) ?_
  by_cases h1 : (200 : Int) < s.length
  · simp [h1]
    exact .back (by simp)
  · obtain ⟨k, e1, l1⟩ : ∃ k : Nat, a.tmod ((s.length : Int) + 1) = k ∧ k ≤ s.length := ⟨_, rem_nat a s.length ha.1, rem_le a s.length⟩
    have h0 : ¬ (s.length : Int) + 1 = 0 := by omega
    simp (disch := omega) [h1, e1, h0]
    have h2 := at_place s k l1
    have hA := p_At hΓ s (place s k).1 (place s k).2 (by omega)
    have hlen := linesA_len s []
    have hea := linesA_each s []
    refine .call 60 (by simp) (p_Place hΓ s k (by omega)) ?_
    obtain ⟨m, q1, q2, q3, q4⟩ := atL_line _ _ _ _ _ (by rw [h2])
    rw [h2] at hA
    generalize (place s k).1 = x at *
    generalize (place s k).2 = y at *
    subst q1
    simp
    refine .call 60 (by simp) hA ?_
    simp
    refine .call 160 (by simp) (p_Lines hΓ s (by omega)) ?_
    generalize linesA s [] = ls at *
    have c0 := hea ls[m] (List.getElem_mem q3)
    simp at c0
    have c1 : (1 : Int) ≤ 1 + m := by omega
    have c2 : (1 : Int) + m ≤ ls.length := by omega
    have c3 : (1 : Int) ≤ y := by omega
    have c4 : (1 : Int) + m - 1 = m := by omega
    simp (disch := omega) [c1, c2, c3, c4, q3, q4]
    exact .back (by simp)
end Go.Proofs.YthnplnkddbbojaaDoor
