/- A list's elements' size. -/
import Derived.Test.YtenpljbbboibiaaDoorAMd
import Derived.Test.YtenpljbbboibiaaDoorCode
import Derived.Laws.RangeString
import Derived.Laws.RangeAny
import Derived.Test.YtenpljbbboibiaaDoorShelf
set_option linter.unusedSimpArgs false
set_option linter.unusedVariables false
namespace Go.Proofs.YtenpljbbboibiaaDoor
open Go.AM Go.Proofs
/-- A list may have its elements' size, or any if it is empty. -/
def Kd (n k : Nat) {α : Type} (l : List α) : Prop := k = n ∨ l = []
theorem Kd.of {n k : Nat} {α : Type} {l : List α} (h : Kd n k l) {i : Nat} (hi : i < l.length) : k = n := by
  rcases h with h | h
  · exact h
  · subst h; simp at hi
theorem Kd.self {n : Nat} {α : Type} {l : List α} : Kd n n l := .inl rfl
theorem Kd.nil {n k : Nat} {α : Type} : Kd n k ([] : List α) := .inr rfl
@[simp] abbrev i64 (n : Int) : AV := .int .i64 n
end Go.Proofs.YtenpljbbboibiaaDoor
/- Names: contracts. -/
namespace Go.Proofs.YtenpljbbboibiaaDoor
open Go.AM Go.Proofs
variable {Γ : Nat → Option AV}
set_option linter.unusedSimpArgs false
set_option linter.unusedVariables false

/-- A byte that is in no name. -/
def oddC (c : UInt8) : Bool := decide (c < 33) || decide (126 < c)
def nameB (s : List UInt8) : Bool := !anyB oddC s && (decide (1 ≤ s.length) && decide (s.length ≤ 40))
def fOdd : List UInt8 → Nat → Int
  | [], _ => -1
  | c :: s, i => if oddC c = true then (i : Int) else fOdd s (i + 1)
theorem fOdd_any : ∀ (s : List UInt8) (i : Nat), decide (fOdd s i < 0) = !anyB oddC s
  | [], i => by simp [fOdd, anyB_nil]
  | c :: s, i => by
    rw [fOdd, anyB_cons]
    cases h : oddC c with
    | true => simp
    | false => simpa using fOdd_any s (i + 1)

theorem p_plain_1 (r : Int) : PureCon Tryd.prog Γ n_ident_name_plain_1 [.int .i32 r] (.bool (decide (r ≤ 32) || decide (126 < r))) := by
  refine .run 60 c_ident_name_plain_1 (by simp) ?_
  by_cases h : r ≤ 32 <;> simp [h] <;> exact .back (by simp [h])

theorem decode_ascii' {s : List UInt8} {i : Nat} (h : i < s.length) (ha : s[i].toNat < 128) : Utf8.decode ⟨s.toArray⟩ i = (s[i].toNat, 1) := by
  exact decode_ascii ⟨s.toArray⟩ i (show i < s.toArray.size by simpa using h) ha
theorem decode_high' {s : List UInt8} {i : Nat} (h : i < s.length) (ha : 128 ≤ s[i].toNat) : 128 ≤ (Utf8.decode ⟨s.toArray⟩ i).1 := by
  exact (decode_high ⟨s.toArray⟩ i (show i < s.toArray.size by simpa using h) ha).1

set_option maxRecDepth 8000 in
theorem p_indexFunc (s : List UInt8) (hs : s.length < 2 ^ 40) : PureCon Tryd.prog Γ n_strings_indexFunc [.str s, .fn (.func n_ident_name_plain_1) [] [], .bool true] (.int .i64 (fOdd s 0)) := by
  have key : ∀ n i : Nat, i + n = s.length → Fins Tryd.prog Γ (strings_indexFunc_L1 (.fn (.func n_ident_name_plain_1) [] []) (.bool true) (.it 0) [.siter s i]) (.ret (.int .i64 (fOdd (s.drop i) i))) := by
    intro n
    induction n with
    | zero =>
      intro i hi
      rw [List.drop_eq_nil_of_le (by omega), fOdd]
      have q1 : ¬ i < s.length := by omega
      refine .go 60 ?_
      simp [q1]
      exact .back (by simp)
    | succ n ih =>
      intro i hi
      have q1 : i < s.length := by omega
      rw [List.drop_eq_getElem_cons q1, fOdd]
      have hh := ih (i + 1) (by omega)
      by_cases ha : s[i].toNat < 128
      · have hd := decode_ascii' q1 ha
        have e : (decide ((s[i].toNat : Int) ≤ 32) || decide (126 < (s[i].toNat : Int))) = oddC s[i] := by
          unfold oddC
          simp only [UInt8.lt_iff_toNat_lt, show (33 : UInt8).toNat = 33 from rfl, show (126 : UInt8).toNat = 126 from rfl]
          congr 1 <;> exact decide_eq_decide.2 (by omega)
        have hc := p_plain_1 (Γ := Γ) (s[i].toNat : Int)
        rw [e] at hc
        refine .go 60 ?_
        simp [q1, hd]
        refine .call 60 (by simp) hc ?_
        cases ho : oddC s[i] with
        | true => simp; exact .back (by simp)
        | false =>
          simp
          refine .reLoop ?_
          simp at hh ⊢
          exact hh
      · have hd := decode_high' q1 (by omega)
        have ho : oddC s[i] = true := by unfold oddC; simp only [UInt8.lt_iff_toNat_lt, show (33 : UInt8).toNat = 33 from rfl, show (126 : UInt8).toNat = 126 from rfl, Bool.or_eq_true, decide_eq_true_eq]; omega
        rw [ho]
        have hc := p_plain_1 (Γ := Γ) ((Utf8.decode ⟨s.toArray⟩ i).1 : Int)
        have e : (decide (((Utf8.decode ⟨s.toArray⟩ i).1 : Int) ≤ 32) || decide (126 < ((Utf8.decode ⟨s.toArray⟩ i).1 : Int))) = true := by
          simp only [Bool.or_eq_true, decide_eq_true_eq]; right; omega
        rw [e] at hc
        refine .go 60 ?_
        simp [q1]
        refine .call 60 (by simp) hc ?_
        simp
        exact .back (by simp)
  refine .run 60 c_strings_indexFunc (by simp) ?_
  simp
  refine .inLoop ?_
  have hh := key s.length 0 (by omega)
  simp at hh ⊢
  exact hh
theorem p_IndexFunc (s : List UInt8) (hs : s.length < 2 ^ 40) : PureCon Tryd.prog Γ n_strings_IndexFunc [.str s, .fn (.func n_ident_name_plain_1) [] []] (.int .i64 (fOdd s 0)) := by
  refine .run 60 c_strings_IndexFunc (by simp) ?_
  simp
  refine .call 60 (by simp) (p_indexFunc s hs) ?_
  simp
  exact .back (by simp)

theorem p_plain (s : List UInt8) : PureCon Tryd.prog Γ n_ident_name_plain [.str s] (.bool (nameB s)) := by
  refine .run 60 c_ident_name_plain (by simp) ?_
  unfold nameB
  by_cases h0 : s = []
  · subst h0
    simp
    exact .back (by simp)
  · have h1 : 1 ≤ s.length := List.length_pos_iff.2 h0
    have h0' : ¬ s = [] := h0
    by_cases h2 : s.length ≤ 40
    · have h2' : (s.length : Int) ≤ 40 := by omega
      simp [h0, h2, h2']
      refine .call 60 (by simp) (p_IndexFunc s (by omega)) ?_
      have e := fOdd_any s 0
      simp [e]
      exact .back (by simp [h0, h1, h2])
    · have h2' : ¬ (s.length : Int) ≤ 40 := by omega
      simp [h0, h2, h2']
      exact .back (by simp [h2])
theorem p_Name (s : List UInt8) : PureCon Tryd.prog Γ n_ident_Name [.str s] (.bool (nameB s)) := by
  refine .run 60 c_ident_Name (by simp) ?_
  simp
  refine .call 60 (by simp) (p_plain s) ?_
  simp
  exact .back (by simp)

end Go.Proofs.YtenpljbbboibiaaDoor
/- Names: the reference's contracts. -/
namespace Go.Proofs.YtenpljbbboibiaaDoor
open Go.AM Go.Proofs
variable {Γ : Nat → Option AV}
set_option linter.unusedSimpArgs false
set_option linter.unusedVariables false

theorem p_r04_Name (s : List UInt8) (hs : s.length < 2 ^ 60) : PureCon Tryd.prog Γ n_r04_Name [.str s] (.bool (nameB s)) := by
  have key : ∀ n i : Nat, i + n = s.length → Fins Tryd.prog Γ (r04_Name_L1 (.str s) (.int .i64 i) []) (.ret (.bool (!anyB oddC (s.drop i) && (decide (1 ≤ s.length) && decide (s.length ≤ 40))))) := by
    intro n
    induction n with
    | zero =>
      intro i hi
      rw [List.drop_eq_nil_of_le (by omega), anyB_nil]
      have q1 : ¬ i < s.length := by omega
      refine .go 60 ?_
      by_cases h2 : 1 ≤ s.length
      · have h3 : ((s.length : Int) ≤ 40) = (s.length ≤ 40) := propext (by omega)
        have h4 : ((1 : Int) ≤ s.length) = True := eq_true (by omega)
        simp [q1, h2, h3, h4]
        exact .back (by simp [h2])
      · have h4 : ((1 : Int) ≤ s.length) = False := eq_false (by omega)
        simp [q1, h2, h4]
        exact .back (by simp [h2])
    | succ n ih =>
      intro i hi
      have q1 : i < s.length := by omega
      have hh := ih (i + 1) (by omega)
      rw [List.drop_eq_getElem_cons q1, anyB_cons]
      refine .go 60 ?_
      by_cases h1 : s[i] < 33
      · have ho : oddC s[i] = true := by simp [oddC, h1]
        simp [q1, h1, ho]
        exact .back (by simp)
      · by_cases h2 : 126 < s[i]
        · have ho : oddC s[i] = true := by simp [oddC, h2]
          simp [q1, h1, h2, ho]
          exact .back (by simp)
        · have ho : oddC s[i] = false := by simp [oddC, h1, h2]
          simp (disch := omega) [q1, h1, h2, ho]
          refine .reLoop ?_
          simp at hh ⊢
          exact hh
  refine .run 60 c_r04_Name (by simp) ?_
  simp
  refine .inLoop ?_
  have hh := key s.length 0 (by omega)
  unfold nameB
  simp at hh ⊢
  exact hh
end Go.Proofs.YtenpljbbboibiaaDoor
/- Names: what is legal; the library's functions; spelling in digits. -/
namespace Go.Proofs.YtenpljbbboibiaaDoor
open Go.AM Go.Proofs
variable {Γ : Nat → Option AV}
set_option linter.unusedSimpArgs false
set_option linter.unusedVariables false

theorem p_HasPrefix (s p : List UInt8) : PureCon Tryd.prog Γ n_strings_HasPrefix [.str s, .str p] (.bool (p.isPrefixOf s)) := by
  refine PureCon.lib (by simp) (fun _ => rfl) rfl fun N g h w us _ hV => ?_
  obtain ⟨us, rfl, h1⟩ := VL_str hV
  obtain ⟨us, rfl, h2⟩ := VL_str h1
  obtain rfl := VL_nil' h2
  refine (Tryd.strings_HasPrefix _ _ w).mono ?_
  rintro e w' ⟨rfl, rfl⟩
  exact ⟨⟨_, rfl, fun _ _ => by simp [V, Lib.hasPrefix]⟩, rfl⟩
theorem p_CutPrefix (s p : List UInt8) : PureCon Tryd.prog Γ n_strings_CutPrefix [.str s, .str p] (.tup [.str (Lib.trimPrefix s p), .bool (p.isPrefixOf s)]) := by
  refine PureCon.lib (by simp) (fun _ => rfl) rfl fun N g h w us _ hV => ?_
  obtain ⟨us, rfl, h1⟩ := VL_str hV
  obtain ⟨us, rfl, h2⟩ := VL_str h1
  obtain rfl := VL_nil' h2
  refine (Tryd.strings_CutPrefix _ _ w).mono ?_
  rintro e w' ⟨rfl, rfl⟩
  exact ⟨⟨_, rfl, fun _ _ => by simp [V, VL, Lib.hasPrefix]⟩, rfl⟩
theorem p_IndexByte (s : List UInt8) (c : UInt8) : PureCon Tryd.prog Γ n_strings_IndexByte [.str s, byteA c] (.int .i64 (Lib.indexByte s c)) := by
  refine PureCon.lib (by simp) (fun _ => rfl) rfl fun N g h w us _ hV => ?_
  obtain ⟨us, rfl, h1⟩ := VL_str hV
  obtain ⟨us, rfl, h2⟩ := VL_int h1
  obtain rfl := VL_nil' h2
  refine (Tryd.strings_IndexByte _ _ w).mono ?_
  rintro e w' ⟨rfl, rfl⟩
  exact ⟨⟨_, rfl, fun _ _ => by simp [V]⟩, rfl⟩
theorem p_Itoa (k : Nat) (hk : k < 100) : PureCon Tryd.prog Γ n_strconv_Itoa [.int .i64 k] (.str (Lib.decDigits k)) := by
  refine PureCon.lib (by simp) (fun _ => rfl) rfl fun N g h w us _ hV => ?_
  obtain ⟨us, rfl, h2⟩ := VL_int hV
  obtain rfl := VL_nil' h2
  refine (Tryd.strconv_Itoa_small k hk w).mono ?_
  rintro e w' ⟨rfl, rfl⟩
  exact ⟨⟨_, rfl, fun _ _ => by simp [V]⟩, rfl⟩
theorem p_ContainsAny (s chars : List UInt8) (hs : s.length < 2 ^ 30) (hc : chars.length < 2 ^ 30) (has : ∀ c ∈ s, c.toNat < 128) (hac : ∀ c ∈ chars, c.toNat < 128) :
    PureCon Tryd.prog Γ n_strings_ContainsAny [.str s, .str chars] (.bool (anyB (fun c => decide (c ∈ chars)) s)) := by
  have e : ∀ l : List UInt8, decide (0 ≤ Lib.indexAny l chars) = anyB (fun c => decide (c ∈ chars)) l := by
    intro l
    induction l with
    | nil => simp [Lib.indexAny, anyB_nil]
    | cons b l ih =>
      rw [anyB_cons, Lib.indexAny]
      have hge := Lib.indexAny_ge chars l
      by_cases hb : b ∈ chars
      · simp [hb]
      · have hb' : chars.contains b = false := by simpa using hb
        rw [hb']
        simp only [hb, Bool.false_eq_true, if_false, decide_false, Bool.false_or, ← ih]
        by_cases h1 : Lib.indexAny l chars = -1
        · simp [h1]
        · rw [if_neg (by simpa using h1)]
          exact decide_eq_decide.2 (by omega)
  refine PureCon.libB (by simp) (fun _ => rfl) rfl fun N g h w us _ hV => ?_
  obtain ⟨us, rfl, h1⟩ := VL_str hV
  obtain ⟨us, rfl, h2⟩ := VL_str h1
  obtain rfl := VL_nil' h2
  refine (Tryd.strings_ContainsAny_laid ⟨s.toArray⟩ ⟨chars.toArray⟩ w (by simp [ByteArray.size]; omega) (by simp [ByteArray.size]; omega) (fun j b hj => has b (List.mem_of_getElem? hj)) (fun j b hj => hac b (List.mem_of_getElem? hj))).mono ?_
  rintro e' w' ⟨rfl, hB⟩
  exact ⟨⟨_, rfl, fun _ _ => by simp only [V, Lib.containsAny, Value.bool.injEq]; exact e s⟩, hB⟩

def keptL : List (List UInt8) := [[109, 111, 100, 117, 108, 101], [101, 110, 100, 109, 111, 100, 117, 108, 101], [105, 110, 112, 117, 116], [111, 117, 116, 112, 117, 116], [119, 105, 114, 101], [97, 115, 115, 105, 103, 110], [98, 117, 102], [110, 111, 116], [97, 110, 100], [110, 97, 110, 100], [111, 114], [110, 111, 114], [120, 111, 114], [120, 110, 111, 114], [100, 102, 102, 48], [100, 102, 102, 49], [100, 102, 102, 120]]
def keptB (s : List UInt8) : Bool := keptL.contains s
/-- The words that are kept, as they are laid. -/
def KeptG (Γ : Nat → Option AV) : Prop := ∃ ks vs, Γ 0 = some (.kmp ks vs) ∧ ∀ s, findIn (.sc .str) (.str s) (ks.zip vs) = some (if keptB s = true then some (.bool true) else none)

def letterC (c : UInt8) : Bool := (decide (97 ≤ c) && decide (c ≤ 122)) || ((decide (65 ≤ c) && decide (c ≤ 90)) || decide (c = 95))
def digC (c : UInt8) : Bool := decide (48 ≤ c) && decide (c ≤ 57)
def verOdd (i : Nat) (c : UInt8) : Bool := !(letterC c || (decide (0 < i) && (digC c || decide (c = 36))))
def verBad : List UInt8 → Nat → Bool
  | [], _ => false
  | c :: s, i => verOdd i c || verBad s (i + 1)

theorem cls_ver (c : UInt8) : c = 36 ∨ c = 95 ∨ (97 ≤ c ∧ c ≤ 122) ∨ (¬ 97 ≤ c ∧ 65 ≤ c ∧ c ≤ 90) ∨ (¬ 97 ≤ c ∧ ¬ 65 ≤ c ∧ 48 ≤ c ∧ c ≤ 57) ∨ (¬ c = 36 ∧ ¬ c = 95 ∧ ¬ (97 ≤ c ∧ c ≤ 122) ∧ ¬ (65 ≤ c ∧ c ≤ 90) ∧ ¬ (48 ≤ c ∧ c ≤ 57)) := by
  simp only [UInt8.le_iff_toNat_le, ← UInt8.toNat_inj, show (36 : UInt8).toNat = 36 from rfl, show (95 : UInt8).toNat = 95 from rfl, show (97 : UInt8).toNat = 97 from rfl, show (122 : UInt8).toNat = 122 from rfl, show (65 : UInt8).toNat = 65 from rfl,
    show (90 : UInt8).toNat = 90 from rfl, show (48 : UInt8).toNat = 48 from rfl, show (57 : UInt8).toNat = 57 from rfl]
  omega
set_option maxRecDepth 8000 in
theorem p_verilog (hΓ : KeptG Γ) (s : List UInt8) (hs : s.length < 2 ^ 40) : PureCon Tryd.prog Γ n_ident_name_verilog [.str s] (.bool (!verBad s 0 && !keptB s)) := by
  obtain ⟨ks, vs, hG, hF⟩ := hΓ
  have key : ∀ n i : Nat, i + n = s.length → Fins Tryd.prog Γ (ident_name_verilog_L1 (.str s) (.int .i64 s.length) (.int .i64 i) []) (.ret (.bool (!verBad (s.drop i) i && !keptB s))) := by
    intro n
    induction n with
    | zero =>
      intro i hi
      rw [List.drop_eq_nil_of_le (by omega), verBad]
      obtain rfl : i = s.length := by omega
      have h1 := hF s
      refine .go 120 ?_
      cases hk : keptB s with
      | true => rw [hk, if_pos rfl] at h1; simp [hG, h1]; exact .back (by simp)
      | false => rw [hk, if_neg (by simp)] at h1; simp [hG, h1]; exact .back (by simp)
    | succ n ih =>
      intro i hi
      have q1 : i < s.length := by omega
      have hh := ih (i + 1) (by omega)
      have hi0 : ((0 : Int) < i) = (0 < i) := propext (by omega)
      rw [List.drop_eq_getElem_cons q1, verBad]
      refine .go 120 ?_
      generalize hc : s[i] = c at *
      rcases cls_ver c with rfl | rfl | ⟨b1, b2⟩ | ⟨b1, b3, b4⟩ | ⟨b1, b3, b7, b8⟩ | ⟨b9, b5, n1, n2, n3⟩
      · by_cases b6 : 0 < i
        · have ho : verOdd i 36 = false := by simp [verOdd, b6]
          simp (disch := omega) [q1, hc, hi0, b6, ho]
          refine .reLoop ?_
          simp at hh ⊢
          exact hh
        · have ho : verOdd i 36 = true := by simp [verOdd, b6, letterC]
          simp (disch := omega) [q1, hc, hi0, b6, ho]
          exact .back (by simp)
      · have ho : verOdd i 95 = false := by simp [verOdd, letterC]
        simp (disch := omega) [q1, hc, ho]
        refine .reLoop ?_
        simp at hh ⊢
        exact hh
      · have ho : verOdd i c = false := by simp [verOdd, letterC, b1, b2]
        simp (disch := omega) [q1, hc, b1, b2, ho]
        refine .reLoop ?_
        simp at hh ⊢
        exact hh
      · have ho : verOdd i c = false := by simp [verOdd, letterC, b3, b4]
        simp (disch := omega) [q1, hc, b1, b3, b4, ho]
        refine .reLoop ?_
        simp at hh ⊢
        exact hh
      · have b5 : ¬ c = 95 := by rintro rfl; exact absurd b8 (by decide)
        by_cases b6 : 0 < i
        · have ho : verOdd i c = false := by simp [verOdd, digC, b6, b7, b8]
          simp (disch := omega) [q1, hc, hi0, b1, b3, b5, b6, b7, b8, ho]
          refine .reLoop ?_
          simp at hh ⊢
          exact hh
        · have ho : verOdd i c = true := by simp [verOdd, letterC, b1, b3, b5, b6]
          simp (disch := omega) [q1, hc, hi0, b1, b3, b5, b6, ho]
          exact .back (by simp)
      · have ho : verOdd i c = true := by
          simp only [verOdd, letterC, digC, Bool.not_eq_true', Bool.or_eq_false_iff, Bool.and_eq_false_iff, decide_eq_false_iff_not]
          exact ⟨⟨by rw [← Classical.not_and_iff_not_or_not]; exact n1, by rw [← Classical.not_and_iff_not_or_not]; exact n2, b5⟩, .inr ⟨by rw [← Classical.not_and_iff_not_or_not]; exact n3, b9⟩⟩
        have e1 := Classical.not_and_iff_not_or_not.1 n1
        have e2 := Classical.not_and_iff_not_or_not.1 n2
        have e3 := Classical.not_and_iff_not_or_not.1 n3
        by_cases b1 : 97 ≤ c <;> by_cases b3 : 65 ≤ c <;> by_cases b6 : 0 < i <;> by_cases b7 : 48 ≤ c <;> simp only [b1, b3, b7, not_true_eq_false, false_or, not_false_eq_true, true_or] at e1 e2 e3 <;> simp (disch := omega) [q1, hc, hi0, b1, b3, b5, b6, b7, b9, e1, e2, e3, ho] <;> exact .back (by simp)
  refine .run 60 c_ident_name_verilog (by simp) ?_
  simp
  refine .inLoop ?_
  have hh := key s.length 0 (by omega)
  simp at hh ⊢
  exact hh
end Go.Proofs.YtenpljbbboibiaaDoor
/- Names: legal, spelled. -/
namespace Go.Proofs.YtenpljbbboibiaaDoor
open Go.AM Go.Proofs
variable {Γ : Nat → Option AV}
set_option linter.unusedSimpArgs false
set_option linter.unusedVariables false

def knownB (f : Int) : Bool := decide (0 ≤ f) && decide (f ≤ 4)
theorem known_cases {f : Int} (h : knownB f = true) : f = 0 ∨ f = 1 ∨ f = 2 ∨ f = 3 ∨ f = 4 := by simp [knownB] at h; omega
theorem p_known (f : Int) : PureCon Tryd.prog Γ n_ident_known [.int .i64 f] (.bool (knownB f)) := by
  refine .run 60 c_ident_known (by simp) ?_
  by_cases h : 0 ≤ f <;> simp [h] <;> exact .back (by simp [knownB, h])
def withB (l s : List UInt8) : Bool := anyB (fun c => decide (c ∈ l)) s
def blifB (s : List UInt8) : Bool := !decide (s.head? = some 46) && !withB [35, 92] s
def benchB (s : List UInt8) : Bool := !withB [61, 40, 41, 44, 35] s
def verilogB (s : List UInt8) : Bool := !verBad s 0 && !keptB s
theorem name_ascii {s : List UInt8} (h : nameB s = true) : (∀ c ∈ s, c.toNat < 128) ∧ 1 ≤ s.length ∧ s.length ≤ 40 := by
  simp only [nameB, Bool.and_eq_true, Bool.not_eq_true', decide_eq_true_eq] at h
  refine ⟨fun c hc => ?_, h.2⟩
  have h1 := anyB_no.1 h.1 c hc
  simp only [oddC, Bool.or_eq_false_iff, decide_eq_false_iff_not, UInt8.lt_iff_toNat_lt, show (126 : UInt8).toNat = 126 from rfl] at h1
  omega
theorem p_blif (s : List UInt8) (h : nameB s = true) : PureCon Tryd.prog Γ n_ident_name_blif [.str s] (.bool (blifB s)) := by
  obtain ⟨h1, h2, h3⟩ := name_ascii h
  obtain ⟨c, r, rfl⟩ : ∃ c r, s = c :: r := by cases s with | nil => simp at h2 | cons c r => exact ⟨c, r, rfl⟩
  refine .run 60 c_ident_name_blif (by simp) ?_
  by_cases hc : c = 46
  · simp [hc]; exact .back (by simp [blifB])
  · simp [hc]
    refine .call 60 (by simp) (p_ContainsAny (c :: r) [35, 92] (by omega) (by simp) h1 (by simp)) ?_
    simp
    exact .back (by simp [blifB, hc, withB])
theorem p_bench (s : List UInt8) (h : nameB s = true) : PureCon Tryd.prog Γ n_ident_name_bench [.str s] (.bool (benchB s)) := by
  obtain ⟨h1, h2, h3⟩ := name_ascii h
  refine .run 60 c_ident_name_bench (by simp) ?_
  simp
  refine .call 60 (by simp) (p_ContainsAny s [61, 40, 41, 44, 35] (by omega) (by simp) h1 (by simp)) ?_
  simp
  exact .back (by simp [benchB, withB])

def legalB (f : Int) (s : List UInt8) : Bool := knownB f && (nameB s && (if f = 2 then blifB s else if f = 3 then benchB s else if f = 4 then verilogB s else true))
theorem p_Legal (hΓ : KeptG Γ) (f : Int) (s : List UInt8) : PureCon Tryd.prog Γ n_ident_Legal [.int .i64 f, .str s] (.bool (legalB f s)) := by
  refine .run 60 c_ident_Legal (by simp) ?_
  simp
  refine .call 60 (by simp) (p_known f) ?_
  unfold legalB
  cases hk : knownB f with
  | false => simp; exact .back (by simp)
  | true =>
    simp
    refine .call 60 (by simp) (p_Name s) ?_
    cases hn : nameB s with
    | false => simp; exact .back (by simp)
    | true =>
      have hl := name_ascii hn
      rcases known_cases hk with rfl | rfl | rfl | rfl | rfl
      · simp; refine .call 60 (by simp) (p_plain s) ?_; simp [hn]; exact .back (by simp)
      · simp; refine .call 60 (by simp) (p_plain s) ?_; simp [hn]; exact .back (by simp)
      · simp; refine .call 60 (by simp) (p_blif s hn) ?_; simp; exact .back (by simp)
      · simp; refine .call 60 (by simp) (p_bench s hn) ?_; simp; exact .back (by simp)
      · simp; refine .call 60 (by simp) (p_verilog hΓ s (by omega)) ?_; simp; exact .back (by simp [verilogB])

abbrev hexL : List UInt8 := [48, 49, 50, 51, 52, 53, 54, 55, 56, 57, 97, 98, 99, 100, 101, 102]
def hexD (n : Nat) : UInt8 := hexL.getD n 0
def hexS : List UInt8 → List UInt8
  | [] => []
  | c :: s => hexD (c.toNat / 16) :: hexD (c.toNat % 16) :: hexS s
theorem hexS_append : ∀ (a b : List UInt8), hexS (a ++ b) = hexS a ++ hexS b
  | [], b => rfl
  | c :: a, b => by simp [hexS, hexS_append a b]
theorem hexS_len : ∀ (a : List UInt8), (hexS a).length = 2 * a.length
  | [] => rfl
  | c :: a => by simp [hexS, hexS_len a]; omega
theorem hexL_get {n : Nat} (h : n < 16) : hexL[n]? = some (hexD n) := by
  unfold hexD
  rw [List.getD_eq_getElem?_getD, List.getElem?_eq_getElem (show n < hexL.length by simpa using h)]; rfl
abbrev markL : List UInt8 := [120, 95, 95]

set_option maxRecDepth 8000 in
theorem p_spelled (s : List UInt8) (hs : s.length < 2 ^ 20) : PureCon Tryd.prog Γ n_ident_spelled [.str s] (.str (markL ++ hexS s)) := by
  have key : ∀ n i : Nat, i + n = s.length → ∀ w, w = markL ++ hexS (s.take i) → Fins Tryd.prog Γ (ident_spelled_L1 (.str s) (.sl 0 0 w.length) (.int .i64 s.length) (.int .i64 i) [.row 1 t_uint8 (w.map byteA) none true false]) (.ret (.str (markL ++ hexS s))) := by
    intro n
    induction n with
    | zero =>
      intro i hi w hw
      obtain rfl : i = s.length := by omega
      rw [List.take_length] at hw
      refine .go 60 ?_
      simp
      exact .back (by simp [hw])
    | succ n ih =>
      intro i hi w hw
      have q1 : i < s.length := by omega
      have hh := ih (i + 1) (by omega) (w ++ [hexD (s[i].toNat / 16), hexD (s[i].toNat % 16)]) (by rw [hw, List.take_succ_eq_append_getElem q1, hexS_append]; simp [hexS])
      have hwl : w.length < 2 ^ 30 := by rw [hw]; simp [hexS_len]; omega
      refine .go 60 ?_
      have e1 := shr4 s[i]
      have g1 : ([48, 49, 50, 51, 52, 53, 54, 55, 56, 57, 97, 98, 99, 100, 101, 102] : List UInt8)[s[i].toNat / 16]? = some (hexD (s[i].toNat / 16)) := hexL_get (by have := s[i].toNat_lt; omega)
      have g2 : ([48, 49, 50, 51, 52, 53, 54, 55, 56, 57, 97, 98, 99, 100, 101, 102] : List UInt8)[s[i].toNat % 16]? = some (hexD (s[i].toNat % 16)) := hexL_get (by omega)
      have e2 := and15 s[i]
      simp (disch := omega) [q1, e1, e2, g1, g2, -Int.natCast_ediv, -Int.natCast_emod]
      refine .reLoop ?_
      simp
      refine .reset (i := 0) rfl (by simp) (by simp) (by simp) ?_
      simp [byteA] at hh ⊢
      exact hh
  refine .run 6 c_ident_spelled (by simp) ?_
  simp
  refine .litRow 60 t_uint8 (es := [.int .u8 120, .int .u8 95, .int .u8 95]) (by simp) (by simp) ?_
  simp
  refine .inLoop ?_
  have hh := key s.length 0 (by omega) markL rfl
  simp [byteA] at hh ⊢
  exact hh

def markB (s : List UInt8) : Bool := markL.isPrefixOf s
def spellS (f : Int) (s : List UInt8) : List UInt8 × Int :=
  if nameB s = false then ([], 4) else if knownB f = false then ([], 9)
  else if f = 4 then (if legalB 4 s = true then (s, 0) else (92 :: s ++ [32], 0))
  else if (f = 2 ∨ f = 3) ∧ (markB s || !legalB f s) = true then (markL ++ hexS s, 0) else (s, 0)
theorem p_Spell (hΓ : KeptG Γ) (f : Int) (s : List UInt8) : PureCon Tryd.prog Γ n_ident_Spell [.int .i64 f, .str s] (.tup [.str (spellS f s).1, .int .i64 (spellS f s).2]) := by
  refine .run 120 c_ident_Spell (by simp) ?_
  simp
  refine .call 120 (by simp) (p_Name s) ?_
  unfold spellS
  cases hn : nameB s with
  | false => simp; exact .back (by simp)
  | true =>
    obtain ⟨_, _, hl⟩ := name_ascii hn
    simp
    refine .call 120 (by simp) (p_known f) ?_
    cases hk : knownB f with
    | false => simp; exact .back (by simp)
    | true =>
      have hsp := p_spelled (Γ := Γ) s (by omega)
      rcases known_cases hk with rfl | rfl | rfl | rfl | rfl
      · simp; exact .back (by simp)
      · simp; exact .back (by simp)
      · simp
        refine .call 120 (by simp) (p_HasPrefix s markL) ?_
        unfold markB
        cases hm : markL.isPrefixOf s with
        | true => simp [hm]; refine .call 120 (by simp) hsp ?_; simp; exact .back (by simp [hm])
        | false =>
          simp [hm]
          refine .call 120 (by simp) (p_Legal hΓ 2 s) ?_
          cases hle : legalB 2 s with
          | true => simp; exact .back (by simp [hm])
          | false => simp; refine .call 120 (by simp) hsp ?_; simp; exact .back (by simp [hm])
      · simp
        refine .call 120 (by simp) (p_HasPrefix s markL) ?_
        unfold markB
        cases hm : markL.isPrefixOf s with
        | true => simp [hm]; refine .call 120 (by simp) hsp ?_; simp; exact .back (by simp [hm])
        | false =>
          simp [hm]
          refine .call 120 (by simp) (p_Legal hΓ 3 s) ?_
          cases hle : legalB 3 s with
          | true => simp; exact .back (by simp [hm])
          | false => simp; refine .call 120 (by simp) hsp ?_; simp; exact .back (by simp [hm])
      · simp
        refine .call 120 (by simp) (p_Legal hΓ 4 s) ?_
        have hl2 : (s.length : Int) ≤ 40 := by omega
        cases hle : legalB 4 s with
        | true => simp; exact .back (by simp)
        | false => simp (disch := omega); exact .back (by simp)
end Go.Proofs.YtenpljbbboibiaaDoor
/- Names: the reference's legal, spelled. -/
namespace Go.Proofs.YtenpljbbboibiaaDoor
open Go.AM Go.Proofs
variable {Γ : Nat → Option AV}
set_option linter.unusedSimpArgs false
set_option linter.unusedVariables false

theorem p_r01_Has (l : List (List UInt8)) (s : List UInt8) {k : Nat} (hk : Kd 1 k l) (hl : l.length < 2 ^ 40) : PureCon Tryd.prog Γ n_r01_Has [.list false k (l.map .str), .str s] (.bool (l.contains s)) := by
  have key : ∀ n i : Nat, i + n = l.length → Fins Tryd.prog Γ (r01_Has_L1 (.list false k (l.map .str)) (.str s) (.int .i64 i) []) (.ret (.bool ((l.drop i).contains s))) := by
    intro n
    induction n with
    | zero =>
      intro i hi
      have q1 : ¬ i < l.length := by omega
      rw [List.drop_eq_nil_of_le (by omega)]
      refine .go 60 ?_
      simp [q1]
      exact .back (by simp)
    | succ n ih =>
      intro i hi
      have q1 : i < l.length := by omega
      have q2 := eq_true (hk.of q1)
      have hh := ih (i + 1) (by omega)
      rw [List.drop_eq_getElem_cons q1, List.contains_cons]
      refine .go 60 ?_
      by_cases h : l[i] = s
      · have h' : (s == l[i]) = true := by simp [h]
        simp [q1, q2, h, h']
        exact .back (by simp)
      · have h' : (s == l[i]) = false := by simpa using fun e => h e.symm
        simp (disch := omega) [q1, q2, h, h']
        refine .reLoop ?_
        simp at hh ⊢
        exact hh
  refine .run 60 c_r01_Has (by simp) ?_
  simp
  refine .inLoop ?_
  have hh := key l.length 0 (by omega)
  simp at hh ⊢
  exact hh

theorem p_r04_letter (c : UInt8) : PureCon Tryd.prog Γ n_r04_letter [byteA c] (.bool (letterC c)) := by
  refine .run 60 c_r04_letter (by simp) ?_
  unfold letterC
  by_cases a1 : 97 ≤ c <;> by_cases a2 : c ≤ 122 <;> by_cases a3 : 65 ≤ c <;> by_cases a4 : c ≤ 90 <;> simp [a1, a2, a3, a4] <;> exact .back (by simp [a1, a2, a3, a4])
theorem p_r02_Digit (c : UInt8) : PureCon Tryd.prog Γ n_r02_Digit [byteA c] (.bool (digC c)) := by
  refine .run 60 c_r02_Digit (by simp) ?_
  unfold digC
  by_cases a1 : 48 ≤ c <;> simp [a1] <;> exact .back (by simp [a1])
theorem p_r04_known (f : Int) : PureCon Tryd.prog Γ n_r04_known [.int .i64 f] (.bool (knownB f)) := by
  refine .run 60 c_r04_known (by simp) ?_
  by_cases h : 0 ≤ f <;> simp [h] <;> exact .back (by simp [knownB, h])

theorem p_r04_without (s l : List UInt8) (hs : s.length < 2 ^ 40) (hl : l.length < 2 ^ 40) : PureCon Tryd.prog Γ n_r04_without [.str s, .str l] (.bool (!withB l s)) := by
  have key : ∀ n i : Nat, i + n = s.length → Fins Tryd.prog Γ (r04_without_L1 (.str s) (.str l) (.int .i64 i) []) (.ret (.bool (!withB l (s.drop i)))) := by
    intro n
    induction n with
    | zero =>
      intro i hi
      have q1 : ¬ i < s.length := by omega
      rw [List.drop_eq_nil_of_le (by omega), withB, anyB_nil]
      refine .go 60 ?_
      simp [q1]
      exact .back (by simp)
    | succ n ih =>
      intro i hi
      have q1 : i < s.length := by omega
      have hh := ih (i + 1) (by omega)
      rw [List.drop_eq_getElem_cons q1, withB, anyB_cons]
      have inner : ∀ m k : Nat, k + m = l.length → Fins Tryd.prog Γ (r04_without_L3 (.str s) (.str l) (.int .i64 i) (.int .i64 k) []) (.ret (.bool (!(decide (s[i] ∈ l.drop k) || withB l (s.drop (i + 1)))))) := by
        intro m
        induction m with
        | zero =>
          intro k hk
          have p1 : ¬ k < l.length := by omega
          rw [List.drop_eq_nil_of_le (show l.length ≤ k by omega)]
          refine .go 60 ?_
          simp (disch := omega) [p1]
          refine .reLoop ?_
          simp at hh ⊢
          exact hh
        | succ m ihm =>
          intro k hk
          have p1 : k < l.length := by omega
          have h2 := ihm (k + 1) (by omega)
          have e : decide (s[i] ∈ l.drop k) = (decide (s[i] = l[k]) || decide (s[i] ∈ l.drop (k + 1))) := by
            rw [List.drop_eq_getElem_cons p1]; simp only [List.mem_cons, Bool.decide_or]
          rw [e]
          refine .go 60 ?_
          by_cases h : s[i] = l[k]
          · simp [p1, q1, h]
            exact .back (by simp)
          · simp (disch := omega) [p1, q1, h]
            refine .reLoop ?_
            simp at h2 ⊢
            exact h2
      have hin := inner l.length 0 (by omega)
      rw [List.drop_zero] at hin
      refine .go 60 ?_
      simp [q1]
      refine .inLoop ?_
      simp [withB] at hin ⊢
      exact hin
  refine .run 60 c_r04_without (by simp) ?_
  simp
  refine .inLoop ?_
  have hh := key s.length 0 (by omega)
  simp at hh ⊢
  exact hh

set_option maxRecDepth 8000 in
theorem f_r04ver (s : List UInt8) (hs : s.length < 2 ^ 40) : ∀ n i : Nat, i + n = s.length → Fins Tryd.prog Γ (r04_Legal_L5 (.str s) (.int .i64 i) []) (.ret (.bool (!verBad (s.drop i) i && !keptB s))) := by
  intro n
  induction n with
  | zero =>
    intro i hi
    have q1 : ¬ i < s.length := by omega
    rw [List.drop_eq_nil_of_le (by omega), verBad]
    have hc := p_r01_Has (Γ := Γ) keptL s (k := 1) .self (by simp [keptL])
    simp only [keptL, List.map_cons, List.map_nil] at hc
    refine .go 60 ?_
    simp [q1]
    refine .call 60 (by simp) hc ?_
    simp
    exact .back (by simp [keptB, keptL])
  | succ n ih =>
    intro i hi
    have q1 : i < s.length := by omega
    have hh := ih (i + 1) (by omega)
    rw [List.drop_eq_getElem_cons q1, verBad]
    have hl := p_r04_letter (Γ := Γ) s[i]
    have hd := p_r02_Digit (Γ := Γ) s[i]
    refine .go 60 ?_
    simp [q1]
    refine .call 60 (by simp [byteA]) hl ?_
    unfold verOdd
    cases h1 : letterC s[i] with
    | true =>
      simp (disch := omega)
      refine .reLoop ?_
      simp at hh ⊢
      exact hh
    | false =>
      by_cases h2 : i = 0
      · subst h2
        simp
        exact .back (by simp)
      · have h2' : ¬ (i : Int) = 0 := by omega
        have h3 : 0 < i := by omega
        simp [h2, h2', h3, q1]
        refine .call 60 (by simp [byteA]) hd ?_
        cases h4 : digC s[i] with
        | true =>
          simp (disch := omega)
          refine .reLoop ?_
          simp at hh ⊢
          exact hh
        | false =>
          by_cases h5 : s[i] = 36
          · simp (disch := omega) [h5, q1]
            refine .reLoop ?_
            simp at hh ⊢
            exact hh
          · simp [h5, q1]
            exact .back (by simp)
theorem p_r04_Legal (f : Int) (s : List UInt8) (hs : s.length < 2 ^ 40) : PureCon Tryd.prog Γ n_r04_Legal [.int .i64 f, .str s] (.bool (legalB f s)) := by
  refine .run 60 c_r04_Legal (by simp) ?_
  simp
  refine .call 60 (by simp) (p_r04_Name s (by omega)) ?_
  unfold legalB
  cases hn : nameB s with
  | false => simp; exact .back (by simp)
  | true =>
    have hl := name_ascii hn
    by_cases h0 : f = 0
    · subst h0; simp; exact .back (by simp [knownB])
    by_cases h1 : f = 1
    · subst h1; simp; exact .back (by simp [knownB])
    by_cases h2 : f = 2
    · subst h2
      obtain ⟨c, r, rfl⟩ : ∃ c r, s = c :: r := by cases s with | nil => simp at hl | cons c r => exact ⟨c, r, rfl⟩
      by_cases hc : c = 46
      · simp [hc]; exact .back (by simp [blifB, knownB])
      · simp [hc]
        refine .call 60 (by simp) (p_r04_without (c :: r) [35, 92] (by omega) (by simp)) ?_
        simp
        exact .back (by simp [blifB, hc, knownB])
    by_cases h3 : f = 3
    · subst h3
      simp
      refine .call 60 (by simp) (p_r04_without s [61, 40, 41, 44, 35] (by omega) (by simp)) ?_
      simp
      exact .back (by simp [benchB, knownB])
    by_cases h4 : f = 4
    · subst h4
      have hh := f_r04ver (Γ := Γ) s (by omega) s.length 0 (by omega)
      simp
      refine .inLoop ?_
      simp [knownB, verilogB] at hh ⊢
      exact hh
    · have hk : knownB f = false := by simp [knownB]; omega
      simp [h0, h1, h2, h3, h4, hk]
      exact .back (by simp [hk])
end Go.Proofs.YtenpljbbboibiaaDoor
/- Names: the reference's spelling. -/
namespace Go.Proofs.YtenpljbbboibiaaDoor
open Go.AM Go.Proofs
variable {Γ : Nat → Option AV}
set_option linter.unusedSimpArgs false
set_option linter.unusedVariables false

theorem quo16 (c : UInt8) : binI .quo .u8 c.toNat 16 = some ((c.toNat / 16 : Nat) : Int) := by
  have h : ∀ n : Fin 256, binI .quo .u8 (n.val : Int) 16 = some ((n.val / 16 : Nat) : Int) := by decide +kernel
  exact h ⟨c.toNat, c.toNat_lt⟩
theorem rem16 (c : UInt8) : binI .rem .u8 c.toNat 16 = some ((c.toNat % 16 : Nat) : Int) := by
  have h : ∀ n : Fin 256, binI .rem .u8 (n.val : Int) 16 = some ((n.val % 16 : Nat) : Int) := by decide +kernel
  exact h ⟨c.toNat, c.toNat_lt⟩
theorem inc16 {n : Nat} (h : n < 16) : IntKind.u8.wrap ((n : Int) + 1) = ((n + 1 : Nat) : Int) := by
  have h : ∀ n : Fin 16, IntKind.u8.wrap ((n.val : Int) + 1) = ((n.val + 1 : Nat) : Int) := by decide +kernel
  exact h ⟨n, by omega⟩
theorem hexL_one {n : Nat} (h : n < 16) : (List.drop n (List.take (n + 1) [48, 49, 50, 51, 52, 53, 54, 55, 56, 57, 97, 98, 99, 100, 101, 102]) : List UInt8) = [hexD n] := by
  have h : ∀ n : Fin 16, (List.drop n.val (List.take (n.val + 1) hexL) : List UInt8) = [hexD n.val] := by decide +kernel
  exact h ⟨n, by omega⟩

set_option maxRecDepth 8000 in
theorem p_r04_Hex (s : List UInt8) (hs : s.length < 2 ^ 20) : PureCon Tryd.prog Γ n_r04_Hex [.str s] (.str (hexS s)) := by
  have key : ∀ n i : Nat, i + n = s.length → ∀ w, w = hexS (s.take i) → Fins Tryd.prog Γ (r04_Hex_L1 (.str s) (.str hexL) (.str w) (.int .i64 i) []) (.ret (.str (hexS s))) := by
    intro n
    induction n with
    | zero =>
      intro i hi w hw
      obtain rfl : i = s.length := by omega
      rw [List.take_length] at hw
      refine .go 60 ?_
      simp
      exact .back (by simp [hw])
    | succ n ih =>
      intro i hi w hw
      have q1 : i < s.length := by omega
      have hh := ih (i + 1) (by omega) (w ++ [hexD (s[i].toNat / 16)] ++ [hexD (s[i].toNat % 16)]) (by rw [hw, List.take_succ_eq_append_getElem q1, hexS_append]; simp [hexS])
      have hwl : w.length < 2 ^ 30 := by rw [hw]; simp [hexS_len]; omega
      have hc := s[i].toNat_lt
      have e1 := quo16 s[i]
      have e2 := rem16 s[i]
      have e3 := inc16 (n := s[i].toNat / 16) (by omega)
      have e4 := inc16 (n := s[i].toNat % 16) (by omega)
      have e5 := hexL_one (n := s[i].toNat / 16) (by omega)
      have e6 := hexL_one (n := s[i].toNat % 16) (by omega)
      refine .go 60 ?_
      simp (disch := omega) [q1, e1, e2, e3, e4, e5, e6, -Int.natCast_ediv, -Int.natCast_emod, -Int.natCast_add, -List.take_succ_cons]
      refine .reLoop ?_
      simp at hh ⊢
      exact hh
  refine .run 60 c_r04_Hex (by simp) ?_
  simp
  refine .inLoop ?_
  have hh := key s.length 0 (by omega) [] rfl
  simp at hh ⊢
  exact hh

theorem mark_take {s : List UInt8} (h : 3 ≤ s.length) : decide (s.take 3 = markL) = markB s := by
  unfold markB
  match s, h with
  | a :: b :: c :: r, _ =>
    simp [List.isPrefixOf]
    rw [Bool.eq_iff_iff]; simp
    exact ⟨fun ⟨x, y, z⟩ => ⟨x.symm, y.symm, z.symm⟩, fun ⟨x, y, z⟩ => ⟨x.symm, y.symm, z.symm⟩⟩
theorem mark_short {s : List UInt8} (h : ¬ 3 ≤ s.length) : markB s = false := by
  unfold markB
  match s, h with
  | [], _ => rfl
  | [a], _ => simp [List.isPrefixOf]
  | [a, b], _ => simp [List.isPrefixOf]
  | a :: b :: c :: r, h => simp at h

set_option maxRecDepth 8000 in
theorem p_r04_Spell (f : Int) (s : List UInt8) (hs : s.length < 2 ^ 40) : PureCon Tryd.prog Γ n_r04_Spell [.int .i64 f, .str s] (.tup [.str (spellS f s).1, .int .i64 (spellS f s).2]) := by
  refine .run 120 c_r04_Spell (by simp) ?_
  simp
  refine .call 120 (by simp) (p_r04_Name s (by omega)) ?_
  unfold spellS
  cases hn : nameB s with
  | false => simp; exact .back (by simp)
  | true =>
    obtain ⟨_, _, hl⟩ := name_ascii hn
    have hl2 : (s.length : Int) ≤ 40 := by omega
    simp
    refine .call 120 (by simp) (p_r04_known f) ?_
    cases hk : knownB f with
    | false => simp; exact .back (by simp)
    | true =>
      have hx := p_r04_Hex (Γ := Γ) s (by omega)
      have hxl := hexS_len s
      have hm : Fins Tryd.prog Γ (.back [] (.tup [.str s, .int .i64 0]) []) (.ret (.tup [.str s, .int .i64 0])) := .back (by simp)
      by_cases h3 : 3 ≤ s.length
      · have h3' : (3 : Int) ≤ s.length := by omega
        have e := mark_take h3
        have e' : (decide (s.take 3 = [120, 95, 95])) = markB s := e
        rcases known_cases hk with rfl | rfl | rfl | rfl | rfl
        · simp (disch := omega) [h3, h3']; exact .back (by simp)
        · simp (disch := omega) [h3, h3']; exact .back (by simp)
        · simp (disch := omega) [h3, h3', e']
          cases hb : markB s with
          | true =>
            simp
            refine .call 120 (by simp) hx ?_
            simp (disch := omega) [hxl]
            exact .back (by simp)
          | false =>
            simp
            refine .call 120 (by simp) (p_r04_Legal 2 s (by omega)) ?_
            cases hg : legalB 2 s with
            | true => simp; exact .back (by simp)
            | false =>
              simp
              refine .call 120 (by simp) hx ?_
              simp (disch := omega) [hxl]
              exact .back (by simp)
        · simp (disch := omega) [h3, h3', e']
          cases hb : markB s with
          | true =>
            simp
            refine .call 120 (by simp) hx ?_
            simp (disch := omega) [hxl]
            exact .back (by simp)
          | false =>
            simp
            refine .call 120 (by simp) (p_r04_Legal 3 s (by omega)) ?_
            cases hg : legalB 3 s with
            | true => simp; exact .back (by simp)
            | false =>
              simp
              refine .call 120 (by simp) hx ?_
              simp (disch := omega) [hxl]
              exact .back (by simp)
        · simp
          refine .call 120 (by simp) (p_r04_Legal 4 s (by omega)) ?_
          cases hg : legalB 4 s with
          | true => simp (disch := omega) [h3, h3']; exact .back (by simp)
          | false => simp (disch := omega); exact .back (by simp)
      · have h3' : ¬ (3 : Int) ≤ s.length := by omega
        have e := mark_short h3
        rcases known_cases hk with rfl | rfl | rfl | rfl | rfl
        · simp (disch := omega) [h3, h3']; exact .back (by simp)
        · simp (disch := omega) [h3, h3']; exact .back (by simp)
        · simp (disch := omega) [h3, h3', e]
          refine .call 120 (by simp) (p_r04_Legal 2 s (by omega)) ?_
          cases hg : legalB 2 s with
          | true => simp; exact .back (by simp)
          | false =>
            simp
            refine .call 120 (by simp) hx ?_
            simp (disch := omega) [hxl]
            exact .back (by simp)
        · simp (disch := omega) [h3, h3', e]
          refine .call 120 (by simp) (p_r04_Legal 3 s (by omega)) ?_
          cases hg : legalB 3 s with
          | true => simp; exact .back (by simp)
          | false =>
            simp
            refine .call 120 (by simp) hx ?_
            simp (disch := omega) [hxl]
            exact .back (by simp)
        · simp
          refine .call 120 (by simp) (p_r04_Legal 4 s (by omega)) ?_
          cases hg : legalB 4 s with
          | true => simp (disch := omega) [h3, h3']; exact .back (by simp)
          | false => simp (disch := omega); exact .back (by simp)
end Go.Proofs.YtenpljbbboibiaaDoor
/- Names: reading digits. -/
namespace Go.Proofs.YtenpljbbboibiaaDoor
open Go.AM Go.Proofs
variable {Γ : Nat → Option AV}
set_option linter.unusedSimpArgs false
set_option linter.unusedVariables false

/-- A digit of sixteen. -/
def dgN (n : Nat) : Int := if 48 ≤ n ∧ n ≤ 57 then (n : Int) - 48 else if 97 ≤ n ∧ n ≤ 102 then (n : Int) - 87 else -1
def dg (c : UInt8) : Int := dgN c.toNat
theorem dg_bound (c : UInt8) : -1 ≤ dg c ∧ dg c ≤ 15 := by unfold dg dgN; split <;> (try split) <;> omega
theorem dg_index (c : UInt8) : Lib.indexByte hexL c = dg c := by
  have h : ∀ n : Fin 256, Lib.indexByte hexL (UInt8.ofNat n.val) = dgN n.val := by decide +kernel
  have := h ⟨c.toNat, c.toNat_lt⟩
  simpa [dg] using this
theorem dg_hexD {n : Nat} (h : n < 16) : dg (hexD n) = n := by
  have h : ∀ n : Fin 16, dg (hexD n.val) = n.val := by decide +kernel
  exact h ⟨n, by omega⟩
/-- A number as a byte. -/
def byteI (n : Int) : UInt8 := UInt8.ofNat (n % 256).toNat
theorem byteI_wrap (n : Int) : AV.int .u8 (IntKind.u8.wrap n) = byteA (byteI n) := by
  have h : IntKind.u8.wrap n = n % 256 := rfl
  have h0 := Int.emod_nonneg n (show (256 : Int) ≠ 0 by omega)
  have h1 := Int.emod_lt_of_pos n (show (0 : Int) < 256 by omega)
  rw [h, byteA, byteI]
  congr 1
  rw [UInt8.toNat_ofNat']
  omega
def pairI (a b : UInt8) : UInt8 := byteI (dg a * 16 + dg b)
theorem pair_hex (c : UInt8) : pairI (hexD (c.toNat / 16)) (hexD (c.toNat % 16)) = c := by
  have hc := c.toNat_lt
  unfold pairI
  rw [dg_hexD (by omega), dg_hexD (by omega), byteI]
  have : ((((c.toNat / 16 : Nat) : Int) * 16 + ((c.toNat % 16 : Nat) : Int)) % 256).toNat = c.toNat := by omega
  rw [this]
  exact UInt8.ofNat_toNat
def unS : List UInt8 → List UInt8
  | a :: b :: r => pairI a b :: unS r
  | _ => []
theorem unS_hex : ∀ n : List UInt8, unS (hexS n) = n
  | [] => rfl
  | c :: n => by rw [hexS, unS, unS_hex n, pair_hex]
theorem unS_len : ∀ s : List UInt8, 2 * (unS s).length ≤ s.length
  | [] => by simp [unS]
  | [a] => by simp [unS]
  | a :: b :: r => by have := unS_len r; simp [unS]; omega
def unhexF : List UInt8 → List UInt8 → List UInt8 × Bool
  | a :: b :: r, out => if dg a < 0 ∨ dg b < 0 then ([], false) else unhexF r (out ++ [pairI a b])
  | [a], out => (out, false)
  | [], out => (out, true)
theorem unhexF_hex : ∀ (n out : List UInt8), unhexF (hexS n) out = (out ++ n, true)
  | [], out => by simp [hexS, unhexF]
  | c :: n, out => by
    have hc := c.toNat_lt
    rw [hexS, unhexF, if_neg (by rw [dg_hexD (by omega), dg_hexD (by omega)]; omega), unhexF_hex n, pair_hex]
    simp
theorem unhexF_yes : ∀ (s out n : List UInt8), unhexF s out = (n, true) → n = out ++ unS s
  | [], out, n, h => by simp [unhexF] at h; simp [unS, h]
  | [a], out, n, h => by simp [unhexF] at h
  | a :: b :: r, out, n, h => by
    rw [unhexF] at h
    split at h
    · simp at h
    · rw [unhexF_yes r _ n h, unS]; simp

theorem spell_cases {f : Int} {n s : List UInt8} (hf : f = 2 ∨ f = 3) (h : spellS f n = (s, 0)) : nameB n = true ∧ (s = markL ++ hexS n ∨ (s = n ∧ markB n = false ∧ legalB f n = true)) := by
  have hk : knownB f = true := by rcases hf with rfl | rfl <;> rfl
  unfold spellS at h
  cases hn : nameB n with
  | false => simp [hn] at h
  | true =>
    have h4 : ¬ f = 4 := by omega
    simp only [hn, hk, h4, hf, Bool.true_eq_false, if_false, true_and] at h
    refine ⟨rfl, ?_⟩
    cases hm : markB n <;> cases hl : legalB f n <;> simp [hm, hl] at h
    · exact .inl h.symm
    · exact .inr ⟨h.symm, rfl, rfl⟩
    · exact .inl h.symm
    · exact .inl h.symm
theorem mark_trim (r : List UInt8) : Lib.trimPrefix (markL ++ r) markL = r ∧ markB (markL ++ r) = true := by
  constructor
  · simp [Lib.trimPrefix, Lib.hasPrefix, List.isPrefixOf]
  · simp [markB, List.isPrefixOf]
theorem mark_notrim {s : List UInt8} (h : markB s = false) : Lib.trimPrefix s markL = s := by
  unfold markB at h
  simp [Lib.trimPrefix, Lib.hasPrefix, h]

/-- What is read: the name behind digits. -/
def backS (f : Int) (s : List UInt8) : Option (List UInt8) :=
  if unS (Lib.trimPrefix s markL) ≠ [] ∧ spellS f (unS (Lib.trimPrefix s markL)) = (s, 0) then some (unS (Lib.trimPrefix s markL)) else none
theorem back_spec {f : Int} (hf : f = 2 ∨ f = 3) {s n : List UInt8} : backS f s = some n ↔ s = markL ++ hexS n ∧ spellS f n = (s, 0) := by
  unfold backS
  constructor
  · intro h
    split at h
    · rename_i hc
      simp only [Option.some.injEq] at h
      rw [h] at hc
      obtain ⟨hn, hs⟩ := hc
      obtain ⟨_, h1 | ⟨h1, h2, _⟩⟩ := spell_cases hf hs
      · exact ⟨h1, hs⟩
      · subst h1
        rw [mark_notrim h2] at h
        have := unS_len s
        rw [h] at this
        have : s = [] := List.length_eq_zero_iff.1 (by omega)
        exact absurd this hn
    · cases h
  · rintro ⟨h1, h2⟩
    have e : unS (Lib.trimPrefix s markL) = n := by rw [h1, (mark_trim _).1, unS_hex]
    obtain ⟨h3, _⟩ := spell_cases hf h2
    have h4 := (name_ascii h3).2.1
    have hne : n ≠ [] := by rintro rfl; simp at h4
    rw [e, if_pos ⟨hne, h2⟩]
theorem back_ref {f : Int} (hf : f = 2 ∨ f = 3) {s : List UInt8} (h3 : 3 < s.length) : ((unhexF (s.drop 3) []).2 = true ∧ spellS f (unhexF (s.drop 3) []).1 = (s, 0)) ↔ backS f s = some (unhexF (s.drop 3) []).1 := by
  rw [back_spec hf]
  constructor
  · rintro ⟨h1, h2⟩
    refine ⟨?_, h2⟩
    obtain ⟨_, h4 | ⟨h4, _, _⟩⟩ := spell_cases hf h2
    · exact h4
    · have h5 := unhexF_yes (s.drop 3) [] (unhexF (s.drop 3) []).1 (Prod.ext rfl h1)
      have h6 := unS_len (s.drop 3)
      rw [List.nil_append] at h5
      rw [← h5, ← h4, List.length_drop] at h6
      omega
  · rintro ⟨h1, h2⟩
    have : (unhexF (s.drop 3) []).2 = true := by
      rw [h1]
      have := unhexF_hex (unhexF (List.drop 3 s) []).1 []
      simp [this]
    exact ⟨this, h2⟩
theorem back_none {f : Int} (hf : f = 2 ∨ f = 3) {s : List UInt8} (h3 : ¬ 3 < s.length) : backS f s = none := by
  cases h : backS f s with
  | none => rfl
  | some n =>
    obtain ⟨h1, h2⟩ := (back_spec hf).1 h
    obtain ⟨h4, _⟩ := spell_cases hf h2
    have h5 := (name_ascii h4).2.1
    have : s.length = 3 + 2 * n.length := by rw [h1, List.length_append, hexS_len]; rfl
    omega
theorem back_some {f : Int} (hf : f = 2 ∨ f = 3) {s n : List UInt8} (h : backS f s = some n) (h3 : 3 < s.length) : unhexF (s.drop 3) [] = (n, true) := by
  obtain ⟨h1, _⟩ := (back_spec hf).1 h
  rw [h1]
  simpa using unhexF_hex n []

def readS (f : Int) (s : List UInt8) : List UInt8 × Int :=
  if knownB f = false then ([], 9)
  else if f = 2 ∨ f = 3 then (match backS f s with
    | some n => (n, 0)
    | none => if legalB f s = true then (s, 0) else ([], 4))
  else if nameB s = true then (s, 0) else ([], 4)

set_option maxRecDepth 8000 in
theorem p_unspelled (s : List UInt8) (hs : s.length < 2 ^ 20) : PureCon Tryd.prog Γ n_ident_unspelled [.str s] (.str (unS (Lib.trimPrefix s markL))) := by
  have key : ∀ n : Nat, ∀ r w : List UInt8, r.length ≤ n → r.length + w.length < 2 ^ 30 → Fins Tryd.prog Γ (ident_unspelled_L1 (.sl 0 0 w.length) (.str r) [.row 1 t_uint8 (w.map byteA) none true false]) (.ret (.str (w ++ unS r))) := by
    intro n
    induction n with
    | zero =>
      intro r w hr _
      obtain rfl : r = [] := List.length_eq_zero_iff.1 (by omega)
      refine .go 60 ?_
      simp
      exact .back (by simp [unS])
    | succ n ih =>
      intro r w hr hb
      match r, hr, hb with
      | [], _, _ => refine .go 60 ?_; simp; exact .back (by simp [unS])
      | [a], _, _ => refine .go 60 ?_; simp; exact .back (by simp [unS])
      | a :: b :: r, hr, hb =>
        have c1 := p_IndexByte (Γ := Γ) hexL a
        have c2 := p_IndexByte (Γ := Γ) hexL b
        rw [dg_index] at c1 c2
        have b1 := dg_bound a
        have b2 := dg_bound b
        have hh := ih r (w ++ [pairI a b]) (by simp at hr; omega) (by simp at hb ⊢; omega)
        have e := byteI_wrap (dg a * 16 + dg b)
        have q1 : (2 : Int) ≤ ((r.length : Int) + 1 + 1) := by omega
        have q2 : 2 ≤ r.length + 1 + 1 := by omega
        rw [unS]
        refine .go 60 ?_
        simp [q1]
        refine .dr 60 ?_
        simp
        refine .call (by simp [byteA]) c1 ?_
        simp
        refine .call (by simp [byteA]) c2 ?_
        simp at hb
        simp (disch := omega) [e]
        refine .reLoop ?_
        simp
        refine .reset (i := 0) rfl (by simp) (by simp) (by simp) ?_
        simp [pairI] at hh ⊢
        exact hh
  refine .run 60 c_ident_unspelled (by simp) ?_
  simp
  refine .call 60 (by simp) (p_CutPrefix s markL) ?_
  simp
  refine .inLoop ?_
  have hl : (Lib.trimPrefix s markL).length ≤ s.length := by unfold Lib.trimPrefix; split <;> simp
  have hh := key _ (Lib.trimPrefix s markL) [] (Nat.le_refl _) (by simp; omega)
  simp at hh ⊢
  exact hh
end Go.Proofs.YtenpljbbboibiaaDoor
/- Names: reading, of both; words. -/
namespace Go.Proofs.YtenpljbbboibiaaDoor
open Go.AM Go.Proofs
variable {Γ : Nat → Option AV}
set_option linter.unusedSimpArgs false
set_option linter.unusedVariables false

theorem legal_name {f : Int} {s : List UInt8} (h : legalB f s = true) : nameB s = true := by
  simp only [legalB, Bool.and_eq_true] at h; exact h.2.1

set_option maxRecDepth 8000 in
theorem p_Read (hΓ : KeptG Γ) (f : Int) (s : List UInt8) (hs : s.length < 2 ^ 20) : PureCon Tryd.prog Γ n_ident_Read [.int .i64 f, .str s] (.tup [.str (readS f s).1, .int .i64 (readS f s).2]) := by
  refine .run 120 c_ident_Read (by simp) ?_
  simp
  refine .call 120 (by simp) (p_known f) ?_
  unfold readS
  cases hk : knownB f with
  | false => simp; exact .back (by simp)
  | true =>
    have two : ∀ f : Int, (f = 2 ∨ f = 3) → PureCon Tryd.prog Γ n_ident_Legal [.int .i64 f, .str s] (.bool (legalB f s)) := fun f _ => p_Legal hΓ f s
    have hu := p_unspelled (Γ := Γ) s hs
    have hN := p_Name (Γ := Γ) s
    have hb : ∀ f : Int, backS f s = if unS (Lib.trimPrefix s markL) ≠ [] ∧ spellS f (unS (Lib.trimPrefix s markL)) = (s, 0) then some (unS (Lib.trimPrefix s markL)) else none := fun f => rfl
    generalize unS (Lib.trimPrefix s markL) = n at *
    rcases known_cases hk with rfl | rfl | rfl | rfl | rfl
    · simp; refine .call 120 (by simp) hN ?_; cases h : nameB s <;> simp <;> exact .back (by simp)
    · simp; refine .call 120 (by simp) hN ?_; cases h : nameB s <;> simp <;> exact .back (by simp)
    · have hL := p_Legal hΓ 2 s
      have hS := p_Spell hΓ 2 n
      simp
      refine .call 120 (by simp) hu ?_
      by_cases hn : n = []
      · rw [hb, if_neg (by simp [hn])]
        simp [hn]
        refine .call 120 (by simp) hL ?_
        cases hl : legalB 2 s with
        | false => simp; exact .back (by simp)
        | true => simp; refine .call 120 (by simp) hN ?_; simp [legal_name hl]; exact .back (by simp)
      · simp [hn]
        refine .call 120 (by simp) hS ?_
        by_cases he : (spellS 2 n).2 = 0
        · by_cases ht : (spellS 2 n).1 = s
          · rw [hb, if_pos ⟨hn, Prod.ext ht he⟩]
            simp [he, ht]
            exact .back (by simp)
          · rw [hb, if_neg (by rintro ⟨_, h⟩; exact ht (by rw [h]))]
            simp [he, ht]
            refine .call 120 (by simp) hL ?_
            cases hl : legalB 2 s with
            | false => simp; exact .back (by simp)
            | true => simp; refine .call 120 (by simp) hN ?_; simp [legal_name hl]; exact .back (by simp)
        · rw [hb, if_neg (by rintro ⟨_, h⟩; exact he (by rw [h]))]
          simp [he]
          refine .call 120 (by simp) hL ?_
          cases hl : legalB 2 s with
          | false => simp; exact .back (by simp)
          | true => simp; refine .call 120 (by simp) hN ?_; simp [legal_name hl]; exact .back (by simp)
    · have hL := p_Legal hΓ 3 s
      have hS := p_Spell hΓ 3 n
      simp
      refine .call 120 (by simp) hu ?_
      by_cases hn : n = []
      · rw [hb, if_neg (by simp [hn])]
        simp [hn]
        refine .call 120 (by simp) hL ?_
        cases hl : legalB 3 s with
        | false => simp; exact .back (by simp)
        | true => simp; refine .call 120 (by simp) hN ?_; simp [legal_name hl]; exact .back (by simp)
      · simp [hn]
        refine .call 120 (by simp) hS ?_
        by_cases he : (spellS 3 n).2 = 0
        · by_cases ht : (spellS 3 n).1 = s
          · rw [hb, if_pos ⟨hn, Prod.ext ht he⟩]
            simp [he, ht]
            exact .back (by simp)
          · rw [hb, if_neg (by rintro ⟨_, h⟩; exact ht (by rw [h]))]
            simp [he, ht]
            refine .call 120 (by simp) hL ?_
            cases hl : legalB 3 s with
            | false => simp; exact .back (by simp)
            | true => simp; refine .call 120 (by simp) hN ?_; simp [legal_name hl]; exact .back (by simp)
        · rw [hb, if_neg (by rintro ⟨_, h⟩; exact he (by rw [h]))]
          simp [he]
          refine .call 120 (by simp) hL ?_
          cases hl : legalB 3 s with
          | false => simp; exact .back (by simp)
          | true => simp; refine .call 120 (by simp) hN ?_; simp [legal_name hl]; exact .back (by simp)
    · simp; refine .call 120 (by simp) hN ?_; cases h : nameB s <;> simp <;> exact .back (by simp)

theorem p_r04_digit (c : UInt8) : PureCon Tryd.prog Γ n_r04_digit [byteA c] (.int .i64 (dg c)) := by
  refine .run 60 c_r04_digit (by simp) ?_
  simp
  refine .call 60 (by simp [byteA]) (p_r02_Digit c) ?_
  have hc := c.toNat_lt
  unfold dg dgN
  cases h : digC c with
  | true =>
    simp only [digC, Bool.and_eq_true, decide_eq_true_eq, UInt8.le_iff_toNat_le, show (48 : UInt8).toNat = 48 from rfl, show (57 : UInt8).toNat = 57 from rfl] at h
    have e : IntKind.i64.wrap (IntKind.u8.wrap ((c.toNat : Int) - 48)) = (c.toNat : Int) - 48 := by
      have : ∀ n : Fin 256, 48 ≤ n.val ∧ n.val ≤ 57 → IntKind.i64.wrap (IntKind.u8.wrap ((n.val : Int) - 48)) = (n.val : Int) - 48 := by decide +kernel
      exact this ⟨c.toNat, hc⟩ h
    simp [e, h]
    exact .back (by simp)
  | false =>
    have h' : ¬ (48 ≤ c.toNat ∧ c.toNat ≤ 57) := by
      intro h2
      simp [digC, UInt8.le_iff_toNat_le, h2] at h
    rw [if_neg h']
    by_cases a1 : 97 ≤ c
    · have a1' : 97 ≤ c.toNat := by simpa [UInt8.le_iff_toNat_le] using a1
      by_cases a2 : c ≤ 102
      · have a2' : c.toNat ≤ 102 := by simpa [UInt8.le_iff_toNat_le] using a2
        have e : IntKind.i64.wrap (IntKind.i64.wrap (IntKind.u8.wrap ((c.toNat : Int) - 97)) + 10) = (c.toNat : Int) - 87 := by
          have : ∀ n : Fin 256, 97 ≤ n.val ∧ n.val ≤ 102 → IntKind.i64.wrap (IntKind.i64.wrap (IntKind.u8.wrap ((n.val : Int) - 97)) + 10) = (n.val : Int) - 87 := by decide +kernel
          exact this ⟨c.toNat, hc⟩ ⟨a1', a2'⟩
        simp [a1, a2, a1', a2', e]
        exact .back (by simp)
      · have a2' : ¬ c.toNat ≤ 102 := by simpa [UInt8.le_iff_toNat_le] using a2
        simp [a1, a2, a1', a2']
        exact .back (by simp)
    · have a1' : ¬ 97 ≤ c.toNat := by simpa [UInt8.le_iff_toNat_le] using a1
      simp [a1, a1']
      exact .back (by simp)

theorem unBytes_one (c : UInt8) : unBytes [AV.int .u8 (c.toNat : Int)] = some [c] := unBytes_map [c]
set_option maxRecDepth 8000 in
theorem p_r04_unhex (s : List UInt8) (hs : s.length < 2 ^ 20) : PureCon Tryd.prog Γ n_r04_unhex [.str s] (.tup [.str (unhexF s []).1, .bool (unhexF s []).2]) := by
  have key : ∀ n : Nat, ∀ i, s.length ≤ i + n → i ≤ s.length → i % 2 = 0 → ∀ w : List UInt8, w.length < 2 ^ 20 + i → Fins Tryd.prog Γ (r04_unhex_L1 (.str s) (.str w) (.int .i64 i) []) (.ret (.tup [.str (unhexF (s.drop i) w).1, .bool (unhexF (s.drop i) w).2])) := by
    intro n
    induction n with
    | zero =>
      intro i hi hi2 hp w hw
      obtain rfl : i = s.length := by omega
      have q1 : ¬ (s.length : Int) + 1 < s.length := by omega
      have q2 : ((s.length : Int).tmod 2 = 0) = True := eq_true (by rw [Int.tmod_eq_emod_of_nonneg (by omega)]; omega)
      have q3 : ((s.length : Int) % 2 = 0) = True := eq_true (by omega)
      rw [List.drop_length, unhexF]
      refine .go 60 ?_
      simp (disch := omega) [q1, q2]
      exact .back (by simp [q3])
    | succ n ih =>
      intro i hi hi2 hp w hw
      by_cases h1 : i + 1 < s.length
      · have q0 : i < s.length := by omega
        have q1 : ((i : Int) + 1 < s.length) = True := eq_true (by omega)
        have hh := ih (i + 2) (by omega) (by omega) (by omega) (w ++ [pairI s[i] s[i + 1]]) (by simp; omega)
        have d1 := p_r04_digit (Γ := Γ) s[i]
        have d2 := p_r04_digit (Γ := Γ) s[i + 1]
        have e0 : s.drop i = s[i] :: s[i + 1] :: s.drop (i + 2) := by rw [List.drop_eq_getElem_cons q0, List.drop_eq_getElem_cons h1]
        have b1 := dg_bound s[i]
        have b2 := dg_bound s[i + 1]
        have e := byteI_wrap (dg s[i] * 16 + dg s[i + 1])
        rw [Int.mul_comm] at e
        have e2 : pairI s[i] s[i + 1] = byteI (16 * dg s[i] + dg s[i + 1]) := by unfold pairI; rw [Int.mul_comm]
        have q3 : ((i : Int) + 1).toNat = i + 1 := by omega
        rw [e0, unhexF]
        by_cases g1 : dg s[i] < 0
        · refine .go 60 ?_
          simp (disch := omega) [q1, q0]
          refine .call 60 (by simp [byteA]) d1 ?_
          simp [g1]
          exact .back (by simp)
        · by_cases g2 : dg s[i + 1] < 0
          · refine .go 60 ?_
            simp (disch := omega) [q1, q0]
            refine .call 60 (by simp [byteA]) d1 ?_
            simp (disch := omega) [g1, q3, h1]
            refine .call 60 (by simp [byteA]) d2 ?_
            simp [g1, g2]
            exact .back (by simp)
          · refine .go 60 ?_
            simp (disch := omega) [q1, q0]
            refine .call 60 (by simp [byteA]) d1 ?_
            simp (disch := omega) [g1, q3, h1]
            refine .call 60 (by simp [byteA]) d2 ?_
            simp (disch := omega) [g1, g2, q0, q3, h1]
            refine .dr 60 ?_
            simp (disch := omega) [q0]
            refine .call (by simp [byteA]) d1 ?_
            simp (disch := omega) [q3, h1]
            refine .call (by simp [byteA]) d2 ?_
            simp (disch := omega) [e, byteA, unBytes_one]
            refine .reLoop ?_
            simp at hh ⊢
            rw [e2] at hh ⊢
            exact hh
      · have q1 : ((i : Int) + 1 < s.length) = False := eq_false (by omega)
        by_cases h2 : i = s.length
        · subst h2
          rw [List.drop_length, unhexF]
          have q3 : ((s.length : Int) % 2 = 0) = True := eq_true (by omega)
          refine .go 60 ?_
          simp (disch := omega) [q1]
          exact .back (by simp [q3])
        · have q0 : i < s.length := by omega
          have e0 : s.drop i = [s[i]] := by rw [List.drop_eq_getElem_cons q0, List.drop_eq_nil_of_le (by omega)]
          have q3 : ((s.length : Int) % 2 = 0) = False := eq_false (by omega)
          rw [e0, unhexF]
          refine .go 60 ?_
          simp (disch := omega) [q1]
          exact .back (by simp [q3])
  refine .run 60 c_r04_unhex (by simp) ?_
  simp
  refine .inLoop ?_
  have hh := key s.length 0 (by omega) (by omega) rfl [] (by simp)
  simp at hh ⊢
  exact hh

theorem unhexF_len : ∀ (n : Nat) (s out : List UInt8), s.length ≤ n → (unhexF s out).1.length ≤ s.length + out.length := by
  intro n
  induction n with
  | zero => intro s out h; obtain rfl : s = [] := List.length_eq_zero_iff.1 (by omega); simp [unhexF]
  | succ n ih =>
    intro s out h
    match s, h with
    | [], _ => simp [unhexF]
    | [a], _ => simp [unhexF]
    | a :: b :: r, h =>
      rw [unhexF]
      split
      · simp
      · have := ih r (out ++ [pairI a b]) (by simp at h; omega)
        simp at this ⊢
        omega
set_option maxRecDepth 8000 in
theorem p_r04_Read (f : Int) (s : List UInt8) (hs : s.length < 2 ^ 20) : PureCon Tryd.prog Γ n_r04_Read [.int .i64 f, .str s] (.tup [.str (readS f s).1, .int .i64 (readS f s).2]) := by
  refine .run 120 c_r04_Read (by simp) ?_
  simp
  refine .call 120 (by simp) (p_r04_known f) ?_
  unfold readS
  cases hk : knownB f with
  | false => simp; exact .back (by simp)
  | true =>
    have hN := p_r04_Name (Γ := Γ) s (by omega)
    by_cases hf : f = 2 ∨ f = 3
    · have h4 : ¬ f = 4 := by omega
      have h0 : ¬ f = 0 := by omega
      have h1 : ¬ f = 1 := by omega
      have hL := p_r04_Legal (Γ := Γ) f s (by omega)
      by_cases h3 : 3 < s.length
      · have hu := p_r04_unhex (Γ := Γ) (s.drop 3) (by simp; omega)
        have hln := unhexF_len _ (s.drop 3) [] (Nat.le_refl _)
        have hS := p_r04_Spell (Γ := Γ) f (unhexF (s.drop 3) []).1 (by simp at hln; omega)
        have hb := back_ref hf h3
        have hbs := fun n => back_some hf (s := s) (n := n)
        have q3 : ((3 : Int) < s.length) = True := eq_true (by omega)
        have q4 : 3 ≤ s.length := by omega
        simp (disch := omega) [h4, h0, h1, q3, q4]
        refine .call 120 (by simp) hu ?_
        simp
        refine .call 120 (by simp) hS ?_
        generalize unhexF (s.drop 3) [] = p at *
        obtain ⟨n, ok⟩ := p
        simp only at hb hbs hS ⊢
        have hno : ¬ (ok = true ∧ spellS f n = (s, 0)) → backS f s = none := by
          intro h
          cases hq : backS f s with
          | none => rfl
          | some m =>
            have := hbs m hq h3
            simp only [Prod.mk.injEq] at this
            obtain ⟨rfl, rfl⟩ := this
            exact absurd (hb.2 hq) h
        have tail : Fins Tryd.prog Γ (.cl n_r04_Legal [.int .i64 f, .str s] [] []) (.ret (.bool true)) → True := fun _ => trivial
        cases ok with
        | false =>
          rw [hno (by simp)]
          simp [hf]
          refine .call 120 (by simp) hL ?_
          cases hl : legalB f s <;> simp <;> exact .back (by simp)
        | true =>
          by_cases he : (spellS f n).2 = 0
          · by_cases ht : (spellS f n).1 = s
            · rw [hb.1 ⟨rfl, Prod.ext ht he⟩]
              simp [he, ht, hf]
              exact .back (by simp)
            · rw [hno (by rintro ⟨_, h⟩; exact ht (by rw [h]))]
              simp [he, ht, hf]
              refine .call 120 (by simp) hL ?_
              cases hl : legalB f s <;> simp <;> exact .back (by simp)
          · rw [hno (by rintro ⟨_, h⟩; exact he (by rw [h]))]
            simp [he, hf]
            refine .call 120 (by simp) hL ?_
            cases hl : legalB f s <;> simp <;> exact .back (by simp)
      · have q3 : ((3 : Int) < s.length) = False := eq_false (by omega)
        rw [back_none hf h3]
        simp [q3, h4, h0, h1, hf]
        refine .call 120 (by simp) hL ?_
        cases hl : legalB f s <;> simp <;> exact .back (by simp)
    · rcases known_cases hk with rfl | rfl | rfl | rfl | rfl
      · simp; refine .call 120 (by simp) hN ?_; cases h : nameB s <;> simp <;> exact .back (by simp)
      · simp; refine .call 120 (by simp) hN ?_; cases h : nameB s <;> simp <;> exact .back (by simp)
      · simp at hf
      · simp at hf
      · simp; refine .call 120 (by simp) hN ?_; cases h : nameB s <;> simp <;> exact .back (by simp)
end Go.Proofs.YtenpljbbboibiaaDoor
/- Names: words; numbers in digits; what is contained. -/
namespace Go.Proofs.YtenpljbbboibiaaDoor
open Go.AM Go.Proofs
variable {Γ : Nat → Option AV}
set_option linter.unusedSimpArgs false
set_option linter.unusedVariables false

/-- A token. -/
structure Tk where
  kind : Int
  text : List UInt8
  at_ : Int
@[simp] abbrev eTk (t : Tk) : AV := .agg [.int .i64 t.kind, .str t.text, .int .i64 t.at_]
def wordS (f : Int) (t : Tk) : List UInt8 × Int :=
  if t.kind = 2 ∧ f = 4 then readS f t.text else if t.kind ≠ 0 then ([], 4) else if f = 4 ∧ legalB 4 t.text = false then ([], 4) else readS f t.text
theorem p_Word (hΓ : KeptG Γ) (f : Int) (t : Tk) (hs : t.text.length < 2 ^ 20) : PureCon Tryd.prog Γ n_ident_Word [.int .i64 f, eTk t] (.tup [.str (wordS f t).1, .int .i64 (wordS f t).2]) := by
  obtain ⟨k, s, a⟩ := t
  have hR := p_Read hΓ f s hs
  refine .run 120 c_ident_Word (by simp) ?_
  unfold wordS
  by_cases h2 : k = 2
  · by_cases h4 : f = 4
    · simp [h2, h4]
      rw [h4] at hR
      refine .call 120 (by simp) hR ?_
      simp
      exact .back (by simp)
    · simp [h2, h4]
      exact .back (by simp)
  · by_cases h0 : k = 0
    · by_cases h4 : f = 4
      · simp [h2, h4, h0]
        rw [h4] at hR
        refine .call 120 (by simp) (p_Legal hΓ 4 s) ?_
        cases hl : legalB 4 s with
        | true => simp; refine .call 120 (by simp) hR ?_; simp; exact .back (by simp)
        | false => simp; exact .back (by simp)
      · simp [h2, h4, h0]
        refine .call 120 (by simp) hR ?_
        simp
        exact .back (by simp)
    · simp [h2, h0]
      exact .back (by simp)
theorem p_r04_Word (f : Int) (t : Tk) (hs : t.text.length < 2 ^ 20) : PureCon Tryd.prog Γ n_r04_Word [.int .i64 f, eTk t] (.tup [.str (wordS f t).1, .int .i64 (wordS f t).2]) := by
  obtain ⟨k, s, a⟩ := t
  have hR := p_r04_Read (Γ := Γ) f s hs
  refine .run 120 c_r04_Word (by simp) ?_
  unfold wordS
  by_cases h2 : k = 2
  · by_cases h4 : f = 4
    · simp [h2, h4]
      rw [h4] at hR
      refine .call 120 (by simp) hR ?_
      simp
      exact .back (by simp)
    · simp [h2, h4]
      exact .back (by simp)
  · by_cases h0 : k = 0
    · by_cases h4 : f = 4
      · simp [h2, h4, h0]
        rw [h4] at hR
        refine .call 120 (by simp) (p_r04_Legal 4 s (by simp at hs; omega)) ?_
        cases hl : legalB 4 s with
        | true => simp; refine .call 120 (by simp) hR ?_; simp; exact .back (by simp)
        | false => simp; exact .back (by simp)
      · simp [h2, h4, h0]
        refine .call 120 (by simp) hR ?_
        simp
        exact .back (by simp)
    · simp [h2, h0]
      exact .back (by simp)

/-! ### Contains -/
def idxS (s : List UInt8) : List (List UInt8) → Nat → Int
  | [], _ => -1
  | a :: l, i => if s = a then (i : Int) else idxS s l (i + 1)
theorem idxS_has (s : List UInt8) : ∀ (l : List (List UInt8)) (i : Nat), decide (0 ≤ idxS s l i) = l.contains s
  | [], i => by simp [idxS]
  | a :: l, i => by
    rw [idxS, List.contains_cons]
    by_cases h : s = a
    · rw [if_pos h]; simp [h]
    · rw [if_neg h, idxS_has s l (i + 1)]
      have : (s == a) = false := by simpa using h
      rw [this]; rfl
theorem p_IndexS (l : List (List UInt8)) (s : List UInt8) {k : Nat} (hk : Kd 1 k l) (hl : l.length < 2 ^ 40) : PureCon Tryd.prog Γ n_slices_Index_string_string [.list false k (l.map .str), .str s] (.int .i64 (idxS s l 0)) := by
  have key : ∀ n i : Nat, i + n = l.length → Fins Tryd.prog Γ (slices_Index_string_string_L1 (.list false k (l.map .str)) (.str s) (.int .i64 l.length) (.int .i64 i) []) (.ret (.int .i64 (idxS s (l.drop i) i))) := by
    intro n
    induction n with
    | zero =>
      intro i hi
      have q1 : ¬ i < l.length := by omega
      rw [List.drop_eq_nil_of_le (by omega), idxS]
      refine .go 60 ?_
      simp [q1]
      exact .back (by simp)
    | succ n ih =>
      intro i hi
      have q1 : i < l.length := by omega
      have q2 := eq_true (hk.of q1)
      have hh := ih (i + 1) (by omega)
      rw [List.drop_eq_getElem_cons q1, idxS]
      refine .go 60 ?_
      by_cases h : s = l[i]
      · simp [q1, q2, h]
        exact .back (by simp)
      · simp (disch := omega) [q1, q2, h]
        refine .reLoop ?_
        simp at hh ⊢
        exact hh
  refine .run 60 c_slices_Index_string_string (by simp) ?_
  simp
  refine .inLoop ?_
  have hh := key l.length 0 (by omega)
  simp at hh ⊢
  exact hh
theorem p_ContainsS (l : List (List UInt8)) (s : List UInt8) {k : Nat} (hk : Kd 1 k l) (hl : l.length < 2 ^ 40) : PureCon Tryd.prog Γ n_slices_Contains_string_string [.list false k (l.map .str), .str s] (.bool (l.contains s)) := by
  refine .run 60 c_slices_Contains_string_string (by simp) ?_
  simp
  refine .call 60 (by simp) (p_IndexS l s hk hl) ?_
  have e := idxS_has s l 0
  simp [e]
  exact .back (by simp)

/-! ### Digits -/
theorem dec_big {n : Nat} (h : ¬ n < 10) : Lib.decDigits n = Lib.decDigits (n / 10) ++ [UInt8.ofNat (48 + n % 10)] := by rw [Lib.decDigits, dif_neg h]
theorem dec_small {n : Nat} (h : n < 10) : Lib.decDigits n = [UInt8.ofNat (48 + n)] := by rw [Lib.decDigits, dif_pos h]
def decC (m : Nat) : UInt8 := UInt8.ofNat (48 + m)
theorem dec_big' {n : Nat} (h : ¬ n < 10) : Lib.decDigits n = Lib.decDigits (n / 10) ++ [decC (n % 10)] := dec_big h
theorem dec_small' {n : Nat} (h : n < 10) : Lib.decDigits n = [decC n] := dec_small h
theorem dig_byte (n : Nat) : IntKind.u8.wrap (48 + (n : Int) % 10) = ((decC (n % 10)).toNat : Int) := by
  have h : ∀ m : Fin 10, IntKind.u8.wrap (48 + (m.val : Int)) = ((decC m.val).toNat : Int) := by decide +kernel
  have := h ⟨n % 10, by omega⟩
  simpa using this
set_option maxRecDepth 8000 in
theorem p_r02_Put (n : Nat) (hn : n ≤ 2147483647) : PureCon Tryd.prog Γ n_r02_Put [.int .i64 n] (.tup [.str (Lib.decDigits n), .int .i64 0]) := by
  have key : ∀ m n : Nat, n ≤ m → n ≤ 2147483647 → ∀ s : List UInt8, s.length + n < 2 ^ 40 → Fins Tryd.prog Γ (r02_Put_L1 (.int .i64 n) (.str s) []) (.ret (.tup [.str ((if n = 0 then [] else Lib.decDigits n) ++ s), .int .i64 0])) := by
    intro m
    induction m with
    | zero =>
      intro n h1 h2 s hs
      obtain rfl : n = 0 := by omega
      refine .go 60 ?_
      simp
      exact .back (by simp)
    | succ m ih =>
      intro n h1 h2 s hs
      by_cases h0 : n = 0
      · subst h0
        refine .go 60 ?_
        simp
        exact .back (by simp)
      · have q0 : 0 < n := by omega
        have e := dig_byte n
        have hh := ih (n / 10) (by omega) (by omega) (decC (n % 10) :: s) (by simp; omega)
        have e2 : (if n = 0 then [] else Lib.decDigits n) ++ s = (if n / 10 = 0 then [] else Lib.decDigits (n / 10)) ++ decC (n % 10) :: s := by
          rw [if_neg h0]
          by_cases h9 : n < 10
          · rw [dec_small' h9, if_pos (by omega), show n % 10 = n by omega]; rfl
          · rw [dec_big' h9, if_neg (by omega)]; simp
        rw [e2]
        refine .go 60 ?_
        simp (disch := omega) [q0, e, unBytes_one, show (n : Int).tmod 10 = (n : Int) % 10 from Int.tmod_eq_emod_of_nonneg (by omega), show (n : Int).tdiv 10 = (n : Int) / 10 from Int.tdiv_eq_ediv_of_nonneg (by omega)]
        refine .reLoop ?_
        simp at hh ⊢
        exact hh
  have q1 : ¬ (n : Int) < 0 := by omega
  have q2 : ((2147483647 : Int) < n) = False := eq_false (by omega)
  have e := dig_byte n
  refine .run 60 c_r02_Put (by simp) ?_
  simp (disch := omega) [q1, q2, e, unBytes_one, show (n : Int).tmod 10 = (n : Int) % 10 from Int.tmod_eq_emod_of_nonneg (by omega), show (n : Int).tdiv 10 = (n : Int) / 10 from Int.tdiv_eq_ediv_of_nonneg (by omega)]
  refine .inLoop ?_
  have hh := key (n / 10) (n / 10) (Nat.le_refl _) (by omega) [decC (n % 10)] (by simp; omega)
  have e2 : (if n / 10 = 0 then [] else Lib.decDigits (n / 10)) ++ [decC (n % 10)] = Lib.decDigits n := by
    by_cases h9 : n < 10
    · rw [dec_small' h9, if_pos (by omega), show n % 10 = n by omega]; rfl
    · rw [dec_big' h9, if_neg (by omega)]
  rw [e2] at hh
  simp at hh ⊢
  exact hh
end Go.Proofs.YtenpljbbboibiaaDoor
/- Names: a fresh one. -/
namespace Go.Proofs.YtenpljbbboibiaaDoor
open Go.AM Go.Proofs
variable {Γ : Nat → Option AV}
set_option linter.unusedSimpArgs false
set_option linter.unusedVariables false

theorem dec_inj : ∀ (m a b : Nat), a ≤ m → Lib.decDigits a = Lib.decDigits b → a = b := by
  have hd : ∀ x y : Nat, x < 10 → y < 10 → decC x = decC y → x = y := by
    intro x y hx hy h
    have : ∀ x y : Fin 10, decC x.val = decC y.val → x.val = y.val := by decide +kernel
    exact this ⟨x, hx⟩ ⟨y, hy⟩ h
  intro m
  induction m with
  | zero =>
    intro a b ha h
    obtain rfl : a = 0 := by omega
    by_cases hb : b < 10
    · rw [dec_small' (by omega), dec_small' hb] at h
      exact hd _ _ (by omega) hb (by simpa using h)
    · rw [dec_small' (by omega), dec_big' hb] at h
      have := congrArg List.length h
      have h2 : 1 ≤ (Lib.decDigits (b / 10)).length := by
        by_cases h3 : b / 10 < 10
        · rw [dec_small' h3]; simp
        · rw [dec_big' h3]; simp
      simp only [List.length_append, List.length_cons, List.length_nil] at this; omega
  | succ m ih =>
    have hne : ∀ n, 1 ≤ (Lib.decDigits n).length := by
      intro n
      by_cases h3 : n < 10
      · rw [dec_small' h3]; simp
      · rw [dec_big' h3]; simp
    intro a b ha h
    by_cases h1 : a < 10
    · by_cases hb : b < 10
      · rw [dec_small' h1, dec_small' hb] at h
        exact hd _ _ h1 hb (by simpa using h)
      · rw [dec_small' h1, dec_big' hb] at h
        have := congrArg List.length h
        have := hne (b / 10)
        simp only [List.length_append, List.length_cons, List.length_nil] at *; omega
    · by_cases hb : b < 10
      · rw [dec_small' hb, dec_big' h1] at h
        have := congrArg List.length h
        have := hne (a / 10)
        simp only [List.length_append, List.length_cons, List.length_nil] at *; omega
      · rw [dec_big' h1, dec_big' hb] at h
        have h2 := List.append_inj' h rfl
        have h3 := ih (a / 10) (b / 10) (by omega) h2.1
        have h4 := hd _ _ (by omega) (by omega) (List.cons.inj h2.2).1
        omega
theorem nodup_sub {α : Type} [DecidableEq α] : ∀ (l m : List α), l.Nodup → (∀ x ∈ l, x ∈ m) → l.length ≤ m.length
  | [], m, _, _ => Nat.zero_le _
  | x :: l, m, hn, hs => by
    have hx := hs x (List.mem_cons_self ..)
    rw [List.nodup_cons] at hn
    have := nodup_sub l (m.erase x) hn.2 (fun y hy => (List.mem_erase_of_ne (by rintro rfl; exact hn.1 hy)).2 (hs y (List.mem_cons_of_mem _ hy)))
    rw [List.length_erase_of_mem hx] at this
    have hp := List.length_pos_of_mem hx
    rw [List.length_cons]; omega

def frS (used : List (List UInt8)) (stem : List UInt8) : Nat → Nat → List UInt8
  | 0, k => stem ++ Lib.decDigits k
  | n + 1, k => if used.contains (stem ++ Lib.decDigits k) = true then frS used stem n (k + 1) else stem ++ Lib.decDigits k
def freshS (used : List (List UInt8)) (stem : List UInt8) : List UInt8 := frS used stem used.length 1
theorem frS_not {used : List (List UInt8)} {stem : List UInt8} : ∀ (n k : Nat), frS used stem n k ∈ used → ∀ j, k ≤ j → j ≤ k + n → stem ++ Lib.decDigits j ∈ used
  | 0, k, h, j, h1, h2 => by obtain rfl : j = k := by omega
                             exact h
  | n + 1, k, h, j, h1, h2 => by
    rw [frS] at h
    split at h
    · rename_i hc
      by_cases hj : j = k
      · subst hj; simpa using hc
      · exact frS_not n (k + 1) h j (by omega) (by omega)
    · rename_i hc
      exact absurd (by simpa using h) hc
theorem fresh_not (used : List (List UInt8)) (stem : List UInt8) : freshS used stem ∉ used := by
  intro h
  have h1 := frS_not used.length 1 h
  have h2 := nodup_sub ((List.range (used.length + 1)).map fun j => stem ++ Lib.decDigits (j + 1)) used (by
    rw [List.nodup_iff_pairwise_ne, List.pairwise_map]
    refine List.Pairwise.imp ?_ (List.nodup_iff_pairwise_ne.1 List.nodup_range)
    intro a b hab he
    exact hab (by have := dec_inj _ (a + 1) (b + 1) (Nat.le_refl _) (List.append_cancel_left he); omega)) (by
    intro x hx
    obtain ⟨j, hj, rfl⟩ := List.mem_map.1 hx
    have := List.mem_range.1 hj
    exact h1 (j + 1) (by omega) (by omega))
  simp only [List.length_map, List.length_range] at h2
  omega
theorem frS_form {used : List (List UInt8)} {stem : List UInt8} : ∀ (n k : Nat), ∃ j, k ≤ j ∧ j ≤ k + n ∧ frS used stem n k = stem ++ Lib.decDigits j
  | 0, k => ⟨k, by omega, by omega, rfl⟩
  | n + 1, k => by
    rw [frS]
    split
    · obtain ⟨j, h1, h2, h3⟩ := frS_form (used := used) (stem := stem) n (k + 1)
      exact ⟨j, by omega, by omega, h3⟩
    · exact ⟨k, by omega, by omega, rfl⟩
theorem dec_len {n : Nat} (h : n < 100) : (Lib.decDigits n).length ≤ 2 := by
  by_cases h3 : n < 10
  · rw [dec_small' h3]; simp
  · rw [dec_big' h3, dec_small' (by omega)]; simp

set_option maxRecDepth 8000 in
theorem p_r04_Fresh (used : List (List UInt8)) (stem : List UInt8) {kd : Nat} (hk : Kd 1 kd used) (hl : used.length < 90) (hs : stem.length < 2 ^ 40) : PureCon Tryd.prog Γ n_r04_Fresh [.list false kd (used.map .str), .str stem] (.str (freshS used stem)) := by
  have key : ∀ n k : Nat, k + n = used.length + 1 → 1 ≤ k → Fins Tryd.prog Γ (r04_Fresh_L2 (.list false kd (used.map .str)) (.str stem) (.int .i64 k) []) (.ret (.str (frS used stem n k))) := by
    intro n
    induction n with
    | zero =>
      intro k hn h1
      have q1 : ¬ k ≤ used.length := by omega
      have hp := p_r02_Put (Γ := Γ) k (by omega)
      have hd := dec_len (n := k) (by omega)
      rw [show (k : Int) = (used.length : Int) + 1 by omega] at hp
      refine .go 60 ?_
      simp (disch := omega) [q1]
      refine .call 60 (by simp) hp ?_
      simp (disch := omega)
      exact .back (by simp [frS])
    | succ n ih =>
      intro k hn h1
      have q1 : k ≤ used.length := by omega
      have hp := p_r02_Put (Γ := Γ) k (by omega)
      have hd := dec_len (n := k) (by omega)
      have hh := ih (k + 1) (by omega) (by omega)
      have hc := p_r01_Has (Γ := Γ) used (stem ++ Lib.decDigits k) hk (by omega)
      rw [frS]
      refine .go 60 ?_
      simp (disch := omega) [q1]
      refine .call 60 (by simp) hp ?_
      simp (disch := omega)
      refine .call 60 (by simp) hc ?_
      by_cases h : stem ++ Lib.decDigits k ∈ used
      · simp (disch := omega) [h]
        refine .reLoop ?_
        simp at hh ⊢
        exact hh
      · simp (disch := omega) [h]
        exact .back (by simp [h])
  refine .run 60 c_r04_Fresh (by simp) ?_
  simp
  refine .inLoop ?_
  have hh := key used.length 1 (by omega) (by omega)
  unfold freshS
  simp at hh ⊢
  exact hh

abbrev upFr (used : List (List UInt8)) (kd : Nat) (stem : List UInt8) : List Fr := [⟨.run, n_ident_Fresh, [It.inRange 4, It.inBlock 0 [], It.code ((ACode.reg ident_Fresh_p0).seq ACode.ret)],
  [.list false kd (used.map .str), .str stem, .ptr 0 0, U, .str [], .ptr 1 0, U, .str stem, .str stem, .fn (.func n_ident_names_1) [] [.ptr 2 0], U, U, U, U, U, U, U], [.mark 3], .norm, 0⟩]
abbrev hFr (used : List (List UInt8)) (kd : Nat) (fresh stem : List UInt8) (st : LoopState) (j : Jump) : List Ob := [.cells [.list false kd (used.map .str)], .cells [.str fresh], .cells [.str stem], .dfr true,
  .loop st j n_ident_Fresh [U, U, .ptr 0 0, U, .str [], .ptr 1 0, U, U, U, U, U, U, U, U, U, U, U] [10] (.reg ident_Fresh_p1) ident_Fresh_p6]
theorem r_frYes (used : List (List UInt8)) {kd : Nat} (hk : Kd 1 kd used) (hl : used.length < 90) (stem s : List UInt8) (h : s ∈ used) : ∀ up, AM.Reach Tryd.prog Γ ((Cal.yl 4).cfg [.str s] up (hFr used kd stem stem .ready .none)) (.back up (.bool true) (hFr used kd stem stem .ready .none)) := by
  intro up
  have hc := p_ContainsS (Γ := Γ) used s hk (by omega)
  simp [setAll]
  refine .goB 60 ?_
  simp
  refine .callB 60 (by simp) hc ?_
  simp [h]
theorem r_frNo (used : List (List UInt8)) {kd : Nat} (hk : Kd 1 kd used) (hl : used.length < 90) (stem s : List UInt8) (h : ¬ s ∈ used) : ∀ up, AM.Reach Tryd.prog Γ ((Cal.yl 4).cfg [.str s] up (hFr used kd stem stem .ready .none)) (.back up (.bool false) (hFr used kd s stem .done (.exit 0))) := by
  intro up
  have hc := p_ContainsS (Γ := Γ) used s hk (by omega)
  simp [setAll]
  refine .goB 60 ?_
  simp
  refine .callB 60 (by simp) hc ?_
  simp [h]
  exact .refl _

set_option maxRecDepth 8000 in
theorem p_Fresh (used : List (List UInt8)) (stem : List UInt8) {kd : Nat} (hk : Kd 1 kd used) (hl : used.length < 90) (hs : stem.length < 2 ^ 40) : PureCon Tryd.prog Γ n_ident_Fresh [.list false kd (used.map .str), .str stem] (.str (freshS used stem)) := by
  have stop : ∀ k : Nat, k < 100 → ¬ (stem ++ Lib.decDigits k ∈ used) → Fins Tryd.prog Γ (ident_names_1_L0 (.yld 4) (.ptr 2 0) (.int .i64 k) (hFr used kd stem stem .ready .none) ⟨[], .norm, 5, upFr used kd stem⟩) (.ret (.str (stem ++ Lib.decDigits k))) := by
    intro k hk1 h
    have hp := p_Itoa (Γ := Γ) k hk1
    have hd := dec_len hk1
    refine .go 60 ?_
    simp
    refine .dr 60 ?_
    simp
    refine .call (by simp) hp ?_
    simp (disch := omega)
    refine .go (.bool false) _ (r_frNo used hk hl stem _ h) ?_
    simp
    exact .back (by simp)
  have key : ∀ n k : Nat, k + n < 100 → ¬ (frS used stem n k ∈ used) → Fins Tryd.prog Γ (ident_names_1_L0 (.yld 4) (.ptr 2 0) (.int .i64 k) (hFr used kd stem stem .ready .none) ⟨[], .norm, 5, upFr used kd stem⟩) (.ret (.str (frS used stem n k))) := by
    intro n
    induction n with
    | zero =>
      intro k hn h
      exact stop k (by omega) h
    | succ n ih =>
      intro k hn h
      rw [frS] at h ⊢
      by_cases h1 : stem ++ Lib.decDigits k ∈ used
      · have h2 : used.contains (stem ++ Lib.decDigits k) = true := by simpa using h1
        rw [if_pos h2] at h ⊢
        have hh := ih (k + 1) (by omega) h
        have hp := p_Itoa (Γ := Γ) k (by omega)
        have hd := dec_len (n := k) (by omega)
        refine .go 60 ?_
        simp
        refine .dr 60 ?_
        simp
        refine .call (by simp) hp ?_
        simp (disch := omega)
        refine .go (.bool true) _ (r_frYes used hk hl stem _ h1) ?_
        simp (disch := omega)
        refine .reLoop ?_
        simp at hh ⊢
        exact hh
      · have h2 : ¬ used.contains (stem ++ Lib.decDigits k) = true := by simpa using h1
        rw [if_neg h2]
        exact stop k (by omega) h1
  refine .run 60 c_ident_Fresh (by simp) ?_
  simp
  refine .enter 60 c_ident_names ?_
  simp
  refine .enter 60 c_ident_names_1 ?_
  simp
  refine .inLoop ?_
  have hh := key used.length 1 (by omega) (fresh_not used stem)
  unfold freshS
  simp at hh ⊢
  exact hh
end Go.Proofs.YtenpljbbboibiaaDoor
/- Names: the laws, and what they say in plain words. -/
namespace Go.Proofs.YtenpljbbboibiaaDoor
open Go.AM Go.Proofs
variable {Γ : Nat → Option AV}
set_option linter.unusedSimpArgs false
set_option linter.unusedVariables false

set_option maxRecDepth 8000 in
theorem p_w04_works (hΓ : KeptG Γ) : PureCon Tryd.prog Γ n_w04_works [] (.bool true) := by
  have s1 := p_Spell hΓ 3 [97, 40, 49, 41]
  have s2 := p_Read hΓ 3 [120, 95, 95, 54, 49, 50, 56, 51, 49, 50, 57] (by simp)
  have s3 := p_Spell hΓ 4 [97, 110, 100]
  have s4 := p_Word hΓ 4 ⟨2, [97, 110, 100], 0⟩ (by simp)
  have s5 := p_Word hΓ 4 ⟨0, [97, 110, 100], 0⟩ (by simp)
  have s6 := p_Spell hΓ 7 [97]
  have s7 := p_Name (Γ := Γ) [97, 40, 49, 41]
  have s8 := p_Name (Γ := Γ) [97, 32, 98]
  have s9 := p_Legal hΓ 2 [97, 40, 49, 41]
  have s10 := p_Legal hΓ 3 [97, 40, 49, 41]
  have s11 := p_Fresh (Γ := Γ) [[110, 50], [110, 49]] [110] (kd := 1) .self (by simp) (by simp)
  have e1 : spellS 3 [97, 40, 49, 41] = ([120, 95, 95, 54, 49, 50, 56, 51, 49, 50, 57], 0) := by kernel_rfl
  have e2 : readS 3 [120, 95, 95, 54, 49, 50, 56, 51, 49, 50, 57] = ([97, 40, 49, 41], 0) := by kernel_rfl
  have e3 : spellS 4 [97, 110, 100] = ([92, 97, 110, 100, 32], 0) := by kernel_rfl
  have e4 : wordS 4 ⟨2, [97, 110, 100], 0⟩ = ([97, 110, 100], 0) := by kernel_rfl
  have e5 : wordS 4 ⟨0, [97, 110, 100], 0⟩ = ([], 4) := by kernel_rfl
  have e6 : spellS 7 [97] = ([], 9) := by kernel_rfl
  have e7 : nameB [97, 40, 49, 41] = true := by kernel_rfl
  have e8 : nameB [97, 32, 98] = false := by kernel_rfl
  have e9 : legalB 2 [97, 40, 49, 41] = true := by kernel_rfl
  have e10 : legalB 3 [97, 40, 49, 41] = false := by kernel_rfl
  have e11 : freshS [[110, 50], [110, 49]] [110] = [110, 51] := by
    have d1 : Lib.decDigits 1 = [49] := dec_small (by omega)
    have d2 : Lib.decDigits 2 = [50] := dec_small (by omega)
    have d3 : Lib.decDigits 3 = [51] := dec_small (by omega)
    simp [freshS, frS, d1, d2, d3]
  rw [e1] at s1; rw [e2] at s2; rw [e3] at s3; rw [e4] at s4; rw [e5] at s5; rw [e6] at s6; rw [e7] at s7; rw [e8] at s8; rw [e9] at s9; rw [e10] at s10; rw [e11] at s11
  refine .run 200 c_w04_works (by simp) ?_
  simp
  refine .call 200 (by simp) s1 ?_
  simp
  refine .call 200 (by simp) s2 ?_
  simp
  refine .call 200 (by simp) s3 ?_
  simp
  refine .call 200 (by simp) s4 ?_
  simp
  refine .call 200 (by simp) s5 ?_
  simp
  refine .call 200 (by simp) s6 ?_
  simp
  refine .call 200 (by simp) s7 ?_
  simp
  refine .call 200 (by simp) s8 ?_
  simp
  refine .call 200 (by simp) s9 ?_
  simp
  refine .call 200 (by simp) s10 ?_
  simp
  refine .call 200 (by simp) s11 ?_
  simp
  exact .back (by simp)

set_option maxRecDepth 8000 in
theorem l_IdentWords (hΓ : KeptG Γ) (f : Int) (t : Tk) (used : List (List UInt8)) {kd : Nat} (hk : Kd 1 kd used) (stem : List UInt8) : PureCon Tryd.prog Γ n_w04_IdentWords [.int .i64 f, eTk t, .list false kd (used.map .str), .str stem] (.bool true) := by
  obtain ⟨k, s, a⟩ := t
  refine .run 60 c_w04_IdentWords (by simp) ?_
  simp
  refine .call 60 (by simp) (p_w04_works hΓ) ?_
  by_cases h1 : 120 < s.length
  · have q1 : ((120 : Int) < s.length) = True := eq_true (by omega)
    simp [q1]; exact .back (by simp)
  have q1 : ((120 : Int) < s.length) = False := eq_false (by omega)
  by_cases h2 : 30 < used.length
  · have q2 : ((30 : Int) < used.length) = True := eq_true (by omega)
    simp [q1, q2]; exact .back (by simp)
  have q2 : ((30 : Int) < used.length) = False := eq_false (by omega)
  by_cases h3 : 120 < stem.length
  · have q3 : ((120 : Int) < stem.length) = True := eq_true (by omega)
    simp [q1, q2, q3]; exact .back (by simp)
  have q3 : ((120 : Int) < stem.length) = False := eq_false (by omega)
  have key : ∀ n i : Nat, i + n = used.length → Fins Tryd.prog Γ (w04_IdentWords_L4 (.int .i64 f) (.list false kd (used.map .str)) (.str stem) (.ptr 0 0) (.bool true) (.int .i64 i) [.cells [.int .i64 k, .str s, .int .i64 a]]) (.ret (.bool true)) := by
    intro n
    induction n with
    | zero =>
      intro i hi
      have p1 : ¬ i < used.length := by omega
      refine .go 60 ?_
      simp [p1]
      refine .call 60 (by simp) (p_Word hΓ f ⟨k, s, a⟩ (by simp; omega)) ?_
      simp
      refine .call 60 (by simp) (p_r04_Word f ⟨k, s, a⟩ (by simp; omega)) ?_
      simp
      refine .call 60 (by simp) (p_r04_Fresh used stem hk (by omega) (by omega)) ?_
      simp
      refine .call 60 (by simp) (p_Fresh used stem hk (by omega) (by omega)) ?_
      simp
      exact .back (by simp)
    | succ n ih =>
      intro i hi
      have p1 : i < used.length := by omega
      have p2 := eq_true (hk.of p1)
      have hh := ih (i + 1) (by omega)
      refine .go 60 ?_
      by_cases h4 : 120 < used[i].length
      · have q4 : ((120 : Int) < used[i].length) = True := eq_true (by omega)
        simp [p1, p2, q4]; exact .back (by simp)
      · have q4 : ((120 : Int) < used[i].length) = False := eq_false (by omega)
        simp (disch := omega) [p1, p2, q4]
        refine .reLoop ?_
        simp at hh ⊢
        exact hh
  simp [q1, q2, q3]
  refine .inLoop ?_
  have hh := key used.length 0 (by omega)
  simp at hh ⊢
  exact hh

/-! ### Spelled alike -/
theorem spell_err {f : Int} {s : List UInt8} (h : (spellS f s).2 ≠ 0) : (spellS f s).1 = [] := by
  unfold spellS at h ⊢
  split
  · rfl
  · split
    · rfl
    · rename_i h1 h2
      rw [if_neg h1, if_neg h2] at h
      exfalso
      split at h
      · split at h <;> simp at h
      · split at h <;> simp at h
theorem spell_ok {f : Int} {s : List UInt8} (h : (spellS f s).2 = 0) : nameB s = true ∧ knownB f = true := by
  unfold spellS at h
  split at h
  · simp at h
  · rename_i h1
    split at h
    · simp at h
    · rename_i h2
      exact ⟨by simpa using h1, by simpa using h2⟩
theorem name_no32 {a : List UInt8} (h : nameB a = true) : (32 : UInt8) ∉ a := by
  intro hm
  simp only [nameB, Bool.and_eq_true, Bool.not_eq_true'] at h
  have := anyB_no.1 h.1 32 hm
  simp [oddC] at this
theorem spell_forms {f : Int} {s : List UInt8} (h : (spellS f s).2 = 0) :
    (f = 4 ∧ (spellS f s).1 = 92 :: s ++ [32]) ∨ ((f = 2 ∨ f = 3) ∧ (spellS f s).1 = markL ++ hexS s) ∨ ((spellS f s).1 = s ∧ ((f = 2 ∨ f = 3) → markB s = false)) := by
  obtain ⟨h1, h2⟩ := spell_ok h
  unfold spellS at h ⊢
  simp only [h1, h2, Bool.true_eq_false, if_false] at h ⊢
  by_cases h4 : f = 4
  · rw [if_pos h4] at h ⊢
    split
    · exact .inr (.inr ⟨rfl, fun h => by omega⟩)
    · exact .inl ⟨h4, rfl⟩
  · rw [if_neg h4] at h ⊢
    split
    · rename_i hc
      exact .inr (.inl ⟨hc.1, rfl⟩)
    · rename_i hc
      refine .inr (.inr ⟨rfl, fun h5 => ?_⟩)
      cases hm : markB s with
      | false => rfl
      | true => exact absurd ⟨h5, by simp [hm]⟩ hc
theorem spell_inj {f : Int} {a b : List UInt8} (ha : (spellS f a).2 = 0) (hb : (spellS f b).2 = 0) : (spellS f a).1 = (spellS f b).1 ↔ a = b := by
  refine ⟨fun h => ?_, fun h => by rw [h]⟩
  have na := name_no32 (spell_ok ha).1
  have nb := name_no32 (spell_ok hb).1
  rcases spell_forms ha with ⟨f1, e1⟩ | ⟨f1, e1⟩ | ⟨e1, m1⟩ <;> rcases spell_forms hb with ⟨f2, e2⟩ | ⟨f2, e2⟩ | ⟨e2, m2⟩ <;> rw [e1, e2] at h
  · simpa using h
  · omega
  · exact absurd (by rw [← h]; simp) nb
  · omega
  · have := congrArg unS (List.append_cancel_left h)
    rwa [unS_hex, unS_hex] at this
  · have := m2 f1
    rw [← h, (mark_trim _).2] at this
    simp at this
  · exact absurd (by rw [h]; simp) na
  · have := m1 f2
    rw [h, (mark_trim _).2] at this
    simp at this
  · exact h
theorem spell_len {f : Int} {a : List UInt8} (ha : (spellS f a).2 = 0) : (spellS f a).1.length ≤ 2 * a.length + 3 := by
  rcases spell_forms ha with ⟨f1, e1⟩ | ⟨f1, e1⟩ | ⟨e1, m1⟩ <;> rw [e1]
  · simp; omega
  · rw [List.length_append, hexS_len]; simp; omega
  · omega

set_option maxRecDepth 8000 in
theorem l_IdentOnly (hΓ : KeptG Γ) (f : Int) (a b : List UInt8) : PureCon Tryd.prog Γ n_w04_IdentOnly [.int .i64 f, .str a, .str b] (.bool true) := by
  refine .run 60 c_w04_IdentOnly (by simp) ?_
  simp
  refine .call 60 (by simp) (p_w04_works hΓ) ?_
  by_cases h1 : 120 < a.length
  · have q1 : ((120 : Int) < a.length) = True := eq_true (by omega)
    simp [q1]; exact .back (by simp)
  have q1 : ((120 : Int) < a.length) = False := eq_false (by omega)
  by_cases h2 : 120 < b.length
  · have q2 : ((120 : Int) < b.length) = True := eq_true (by omega)
    simp [q1, q2]; exact .back (by simp)
  have q2 : ((120 : Int) < b.length) = False := eq_false (by omega)
  simp [q1, q2]
  refine .call 60 (by simp) (p_Spell hΓ f a) ?_
  simp
  refine .call 60 (by simp) (p_Spell hΓ f b) ?_
  by_cases e1 : (spellS f a).2 = 0
  · by_cases e2 : (spellS f b).2 = 0
    · have hi := spell_inj e1 e2
      have hl := spell_len e1
      have q3 : (((spellS f a).1.length : Int) ≤ 2 * (a.length : Int) + 3) = True := eq_true (by omega)
      by_cases hab : a = b
      · have hx := hi.2 hab
        simp (disch := omega) [e1, e2, hab, hx, q3]
        subst hab
        simp (disch := omega) [q3]
        exact .back (by simp)
      · have hx : ¬ (spellS f a).1 = (spellS f b).1 := fun h => hab (hi.1 h)
        simp (disch := omega) [e1, e2, hab, hx, q3]
        exact .back (by simp)
    · have e3 := spell_err e2
      simp [e1, e2, e3]
      exact .back (by simp)
  · have e3 := spell_err e1
    by_cases e2 : (spellS f b).2 = 0
    · simp [e1, e2, e3]
      exact .back (by simp)
    · have e4 := spell_err e2
      simp [e1, e2, e3, e4]
      exact .back (by simp)
end Go.Proofs.YtenpljbbboibiaaDoor
/- Names: what is read; what is fresh: the laws. -/
namespace Go.Proofs.YtenpljbbboibiaaDoor
open Go.AM Go.Proofs
variable {Γ : Nat → Option AV}
set_option linter.unusedSimpArgs false
set_option linter.unusedVariables false

theorem spell_yes {f : Int} {s : List UInt8} (h1 : nameB s = true) (h2 : knownB f = true) : (spellS f s).2 = 0 := by
  unfold spellS
  simp only [h1, h2, Bool.true_eq_false, if_false]
  split
  · split <;> rfl
  · split <;> rfl
theorem read_err {f : Int} {s : List UInt8} (h : (readS f s).2 ≠ 0) : (readS f s).1 = [] ∧ (legalB f s = false ∨ f < 0 ∨ 4 < f) := by
  unfold readS at h ⊢
  split
  · rename_i hk
    refine ⟨rfl, .inr ?_⟩
    simp [knownB] at hk
    omega
  · rename_i hk
    rw [if_neg hk] at h
    split
    · rename_i hf
      rw [if_pos hf] at h
      split
      · rename_i n hb; rw [hb] at h; simp at h
      · rename_i hb
        rw [hb] at h
        simp only at h
        split
        · rename_i hl; rw [if_pos hl] at h; simp at h
        · rename_i hl; exact ⟨rfl, .inl (by simpa using hl)⟩
    · rename_i hf
      rw [if_neg hf] at h
      split
      · rename_i hn; rw [if_pos hn] at h; simp at h
      · rename_i hn
        refine ⟨rfl, .inl ?_⟩
        cases hl : legalB f s with
        | false => rfl
        | true => exact absurd (legal_name hl) hn
structure ReadOk (f : Int) (s n : List UInt8) : Prop where
  name : nameB n = true
  spell : (spellS f n).2 = 0
  same : legalB f s = true → markB s = false → n = s
  ver : f = 4 → n = s
  back : f ≠ 4 → readS f (spellS f n).1 = (n, 0)
theorem read_ok {f : Int} {s : List UInt8} (h : (readS f s).2 = 0) : ReadOk f s (readS f s).1 := by
  have hk : knownB f = true := by
    unfold readS at h
    cases hk : knownB f with
    | true => rfl
    | false => rw [if_pos hk] at h; simp at h
  have hk' : ¬ knownB f = false := by simp [hk]
  by_cases hf : f = 2 ∨ f = 3
  · have e : readS f s = (match backS f s with
      | some n => (n, 0)
      | none => if legalB f s = true then (s, 0) else ([], 4)) := by unfold readS; rw [if_neg hk', if_pos hf] <;> (cases backS f s <;> rfl)
    rw [e] at h ⊢
    cases hb : backS f s with
    | some n =>
      simp only
      obtain ⟨b1, b2⟩ := (back_spec hf).1 hb
      refine ⟨(spell_cases hf b2).1, by rw [b2], fun _ hm => ?_, fun h4 => by omega, fun _ => ?_⟩
      · rw [b1, (mark_trim _).2] at hm; simp at hm
      · rw [b2]
        simp only
        rw [e, hb]
    | none =>
      simp only [hb] at h ⊢
      by_cases hl : legalB f s = true
      · rw [if_pos hl]
        have hn := legal_name hl
        have hs := spell_yes hn hk
        refine ⟨hn, hs, fun _ _ => rfl, fun _ => rfl, fun _ => ?_⟩
        rcases spell_forms hs with ⟨f1, e1⟩ | ⟨f1, e1⟩ | ⟨e1, m1⟩
        · omega
        · have hb2 : backS f (markL ++ hexS s) = some s := (back_spec hf).2 ⟨rfl, Prod.ext e1 hs⟩
          rw [e1]
          unfold readS
          rw [if_neg hk', if_pos hf, hb2]
        · rw [e1, e, hb]
          simp only [hl, if_true]
      · rw [if_neg hl] at h; simp at h
  · have e : ∀ s, readS f s = if nameB s = true then (s, 0) else ([], 4) := fun s => by unfold readS; rw [if_neg hk', if_neg hf]
    rw [e] at h ⊢
    by_cases hn : nameB s = true
    · rw [if_pos hn]
      have hs := spell_yes hn hk
      refine ⟨hn, hs, fun _ _ => rfl, fun _ => rfl, fun h4 => ?_⟩
      rcases spell_forms hs with ⟨f1, e1⟩ | ⟨f1, e1⟩ | ⟨e1, m1⟩
      · exact absurd f1 h4
      · exact absurd f1 hf
      · simp only [e1]; rw [e, if_pos hn]
    · rw [if_neg hn] at h; simp at h

set_option maxRecDepth 8000 in
theorem l_IdentReads (hΓ : KeptG Γ) (f : Int) (s : List UInt8) : PureCon Tryd.prog Γ n_w04_IdentReads [.int .i64 f, .str s] (.bool true) := by
  refine .run 100 c_w04_IdentReads (by simp) ?_
  simp
  refine .call 100 (by simp) (p_w04_works hΓ) ?_
  by_cases h1 : 120 < s.length
  · have q1 : ((120 : Int) < s.length) = True := eq_true (by omega)
    simp [q1]; exact .back (by simp)
  have q1 : ((120 : Int) < s.length) = False := eq_false (by omega)
  have hL := p_Legal hΓ f s
  simp [q1]
  refine .call 100 (by simp) (p_Read hΓ f s (by omega)) ?_
  by_cases he : (readS f s).2 = 0
  · have ok := read_ok he
    generalize (readS f s).1 = n at *
    obtain ⟨_, _, hnl⟩ := name_ascii ok.name
    have hS := p_Spell hΓ f n
    have hsl := spell_len ok.spell
    have hR := p_Read hΓ f (spellS f n).1 (by omega)
    have hN := p_Name (Γ := Γ) n
    rw [ok.name] at hN
    have tail : ∀ b : Bool, True := fun _ => trivial
    by_cases h4 : f = 4
    · have e4 := ok.ver h4
      subst e4
      by_cases h3 : 3 ≤ n.length
      · have q3 : ((3 : Int) ≤ n.length) = True := eq_true (by omega)
        simp [he]
        refine .call 100 (by simp) hS ?_
        simp (disch := omega) [ok.spell, q3, h3]
        refine .call 100 (by simp) hN ?_
        simp
        refine .call 100 (by simp) hL ?_
        cases hl : legalB f n <;> cases hm : decide (n.take 3 = [120, 95, 95]) <;> simp [h4, hm] <;> exact .back (by simp)
      · have q3 : ((3 : Int) ≤ n.length) = False := eq_false (by omega)
        simp [he]
        refine .call 100 (by simp) hS ?_
        simp (disch := omega) [ok.spell, q3, h3]
        refine .call 100 (by simp) hN ?_
        simp
        refine .call 100 (by simp) hL ?_
        cases hl : legalB f n <;> simp [h4] <;> exact .back (by simp)
    · rw [ok.back h4] at hR
      by_cases h3 : 3 ≤ s.length
      · have q3 : ((3 : Int) ≤ s.length) = True := eq_true (by omega)
        have e := mark_take h3
        simp [he]
        refine .call 100 (by simp) hS ?_
        simp (disch := omega) [ok.spell, q3, h3]
        refine .call 100 (by simp) hN ?_
        simp
        refine .call 100 (by simp) hL ?_
        cases hl : legalB f s with
        | false =>
          simp [h4]
          refine .call 100 (by simp) hR ?_
          simp
          exact .back (by simp)
        | true =>
          cases hm : markB s with
          | true =>
            rw [hm] at e
            simp [e, h4]
            refine .call 100 (by simp) hR ?_
            simp
            exact .back (by simp)
          | false =>
            have e5 := ok.same hl hm
            rw [hm] at e
            subst e5
            simp [e, h4]
            refine .call 100 (by simp) hR ?_
            simp
            exact .back (by simp)
      · have q3 : ((3 : Int) ≤ s.length) = False := eq_false (by omega)
        have e := mark_short h3
        simp [he]
        refine .call 100 (by simp) hS ?_
        simp (disch := omega) [ok.spell, q3, h3]
        refine .call 100 (by simp) hN ?_
        simp
        refine .call 100 (by simp) hL ?_
        cases hl : legalB f s with
        | false =>
          simp [h4]
          refine .call 100 (by simp) hR ?_
          simp
          exact .back (by simp)
        | true =>
          have e5 := ok.same hl e
          subst e5
          simp [h4]
          refine .call 100 (by simp) hR ?_
          simp
          exact .back (by simp)
  · obtain ⟨e1, e2⟩ := read_err he
    simp [he, e1]
    refine .call 100 (by simp) hL ?_
    cases hl : legalB f s with
    | false => simp; exact .back (by simp)
    | true =>
      rw [hl] at e2
      simp only [Bool.true_eq_false, false_or] at e2
      by_cases h5 : f < 0
      · simp [h5]; exact .back (by simp)
      · have h6 : 4 < f := by omega
        simp [h5, h6]; exact .back (by simp)

set_option maxRecDepth 8000 in
theorem l_IdentFresh (hΓ : KeptG Γ) (used : List (List UInt8)) {kd : Nat} (hk : Kd 1 kd used) (stem : List UInt8) (more : List (List UInt8)) {km : Nat} (hm : Kd 1 km more) : PureCon Tryd.prog Γ n_w04_IdentFresh [.list false kd (used.map .str), .str stem, .list false km (more.map .str)] (.bool true) := by
  refine .run 100 c_w04_IdentFresh (by simp) ?_
  simp
  refine .call 100 (by simp) (p_w04_works hΓ) ?_
  by_cases h1 : 30 < used.length
  · have q1 : ((30 : Int) < used.length) = True := eq_true (by omega)
    simp [q1]; exact .back (by simp)
  have q1 : ((30 : Int) < used.length) = False := eq_false (by omega)
  by_cases h2 : 30 < more.length
  · have q2 : ((30 : Int) < more.length) = True := eq_true (by omega)
    simp [q1, q2]; exact .back (by simp)
  have q2 : ((30 : Int) < more.length) = False := eq_false (by omega)
  by_cases h3 : 120 < stem.length
  · have q3 : ((120 : Int) < stem.length) = True := eq_true (by omega)
    simp [q1, q2, q3]; exact .back (by simp)
  have q3 : ((120 : Int) < stem.length) = False := eq_false (by omega)
  have c1 := p_Fresh (Γ := Γ) used stem hk (by omega) (by omega)
  have c2 := p_Fresh (Γ := Γ) (used ++ [freshS used stem]) stem (kd := 1) .self (by simp; omega) (by omega)
  have c3 := p_Fresh (Γ := Γ) (used ++ more) stem (kd := 1) .self (by simp; omega) (by omega)
  have c4 := p_r01_Has (Γ := Γ) used (freshS used stem) hk (by omega)
  have c5 := p_r01_Has (Γ := Γ) (used ++ more) (freshS (used ++ more) stem) (k := 1) .self (by simp; omega)
  have n1 := fresh_not used stem
  have n2 := fresh_not (used ++ [freshS used stem]) stem
  have n3 := fresh_not (used ++ more) stem
  have n4 : ¬ freshS (used ++ [freshS used stem]) stem = freshS used stem := fun h => n2 (by rw [h]; simp)
  obtain ⟨j, _, _, hj⟩ := frS_form (used := used) (stem := stem) used.length 1
  have hj : freshS used stem = stem ++ Lib.decDigits j := hj
  have hpos : 1 ≤ (Lib.decDigits j).length := by
    by_cases h3 : j < 10
    · rw [dec_small' h3]; simp
    · rw [dec_big' h3]; simp
  have l1 : stem.length < (freshS used stem).length := by rw [hj]; simp; omega
  have l1' : ((stem.length : Int) < (freshS used stem).length) = True := eq_true (by omega)
  have l2 : (freshS used stem).take stem.length = stem := by rw [hj, List.take_left]
  have l3 : stem.length ≤ (freshS used stem).length := by omega
  simp only [List.contains_eq_mem, n1, n3, decide_false] at c4 c5
  simp [q1, q2, q3]
  refine .call 100 (by simp) c1 ?_
  generalize freshS used stem = n at *
  generalize freshS (used ++ [n]) stem = m at *
  generalize freshS (used ++ more) stem = k at *
  cases used with
  | nil =>
    cases more with
    | nil =>
      simp (disch := (simp at *; omega))
      refine .call 100 (by first | (simp; done) | (simp (disch := (first | (simp; done) | (simp; omega))) [List.take_of_length_le]; done) | (simp (disch := (first | (simp; done) | (simp; omega))) [List.take_of_length_le, show ∀ a b : Nat, a + 1 + (b + 1) = a + (b + 1) + 1 from by intros; omega]; done)) c2 ?_
      simp (disch := (simp at *; omega))
      refine .call 100 (by first | (simp; done) | (simp (disch := (first | (simp; done) | (simp; omega))) [List.take_of_length_le]; done) | (simp (disch := (first | (simp; done) | (simp; omega))) [List.take_of_length_le, show ∀ a b : Nat, a + 1 + (b + 1) = a + (b + 1) + 1 from by intros; omega]; done)) c3 ?_
      simp (disch := (simp at *; omega))
      refine .call 100 (by first | (simp; done) | (simp (disch := (first | (simp; done) | (simp; omega))) [List.take_of_length_le]; done) | (simp (disch := (first | (simp; done) | (simp; omega))) [List.take_of_length_le, show ∀ a b : Nat, a + 1 + (b + 1) = a + (b + 1) + 1 from by intros; omega]; done)) c4 ?_
      simp (disch := (simp at *; omega))
      refine .call 100 (by first | (simp; done) | (simp (disch := (first | (simp; done) | (simp; omega))) [List.take_of_length_le]; done) | (simp (disch := (first | (simp; done) | (simp; omega))) [List.take_of_length_le, show ∀ a b : Nat, a + 1 + (b + 1) = a + (b + 1) + 1 from by intros; omega]; done)) c5 ?_
      simp (disch := omega) [n4, l1, l1', l2, l3]
      exact .back (by simp)
    | cons v vs =>
      obtain rfl := hm.of (i := 0) (by simp)
      simp (disch := (simp at *; omega))
      refine .call 100 (by first | (simp; done) | (simp (disch := (first | (simp; done) | (simp; omega))) [List.take_of_length_le]; done) | (simp (disch := (first | (simp; done) | (simp; omega))) [List.take_of_length_le, show ∀ a b : Nat, a + 1 + (b + 1) = a + (b + 1) + 1 from by intros; omega]; done)) c2 ?_
      simp (disch := (simp at *; omega))
      refine .call 100 (by first | (simp; done) | (simp (disch := (first | (simp; done) | (simp; omega))) [List.take_of_length_le]; done) | (simp (disch := (first | (simp; done) | (simp; omega))) [List.take_of_length_le, show ∀ a b : Nat, a + 1 + (b + 1) = a + (b + 1) + 1 from by intros; omega]; done)) c3 ?_
      simp (disch := (simp at *; omega))
      refine .call 100 (by first | (simp; done) | (simp (disch := (first | (simp; done) | (simp; omega))) [List.take_of_length_le]; done) | (simp (disch := (first | (simp; done) | (simp; omega))) [List.take_of_length_le, show ∀ a b : Nat, a + 1 + (b + 1) = a + (b + 1) + 1 from by intros; omega]; done)) c4 ?_
      simp (disch := (simp at *; omega))
      refine .call 100 (by first | (simp; done) | (simp (disch := (first | (simp; done) | (simp; omega))) [List.take_of_length_le]; done) | (simp (disch := (first | (simp; done) | (simp; omega))) [List.take_of_length_le, show ∀ a b : Nat, a + 1 + (b + 1) = a + (b + 1) + 1 from by intros; omega]; done)) c5 ?_
      simp (disch := omega) [n4, l1, l1', l2, l3]
      exact .back (by simp)
  | cons u us =>
    obtain rfl := hk.of (i := 0) (by simp)
    cases more with
    | nil =>
      simp (disch := (simp at *; omega))
      refine .call 100 (by first | (simp; done) | (simp (disch := (first | (simp; done) | (simp; omega))) [List.take_of_length_le]; done) | (simp (disch := (first | (simp; done) | (simp; omega))) [List.take_of_length_le, show ∀ a b : Nat, a + 1 + (b + 1) = a + (b + 1) + 1 from by intros; omega]; done)) c2 ?_
      simp (disch := (simp at *; omega))
      refine .call 100 (by first | (simp; done) | (simp (disch := (first | (simp; done) | (simp; omega))) [List.take_of_length_le]; done) | (simp (disch := (first | (simp; done) | (simp; omega))) [List.take_of_length_le, show ∀ a b : Nat, a + 1 + (b + 1) = a + (b + 1) + 1 from by intros; omega]; done)) c3 ?_
      simp (disch := (simp at *; omega))
      refine .call 100 (by first | (simp; done) | (simp (disch := (first | (simp; done) | (simp; omega))) [List.take_of_length_le]; done) | (simp (disch := (first | (simp; done) | (simp; omega))) [List.take_of_length_le, show ∀ a b : Nat, a + 1 + (b + 1) = a + (b + 1) + 1 from by intros; omega]; done)) c4 ?_
      simp (disch := (simp at *; omega))
      refine .call 100 (by first | (simp; done) | (simp (disch := (first | (simp; done) | (simp; omega))) [List.take_of_length_le]; done) | (simp (disch := (first | (simp; done) | (simp; omega))) [List.take_of_length_le, show ∀ a b : Nat, a + 1 + (b + 1) = a + (b + 1) + 1 from by intros; omega]; done)) c5 ?_
      simp (disch := omega) [n4, l1, l1', l2, l3]
      exact .back (by simp)
    | cons v vs =>
      obtain rfl := hm.of (i := 0) (by simp)
      simp (disch := (simp at *; omega))
      refine .call 100 (by first | (simp; done) | (simp (disch := (first | (simp; done) | (simp; omega))) [List.take_of_length_le]; done) | (simp (disch := (first | (simp; done) | (simp; omega))) [List.take_of_length_le, show ∀ a b : Nat, a + 1 + (b + 1) = a + (b + 1) + 1 from by intros; omega]; done)) c2 ?_
      simp (disch := (simp at *; omega))
      refine .call 100 (by first | (simp; done) | (simp (disch := (first | (simp; done) | (simp; omega))) [List.take_of_length_le]; done) | (simp (disch := (first | (simp; done) | (simp; omega))) [List.take_of_length_le, show ∀ a b : Nat, a + 1 + (b + 1) = a + (b + 1) + 1 from by intros; omega]; done)) c3 ?_
      simp (disch := (simp at *; omega))
      refine .call 100 (by first | (simp; done) | (simp (disch := (first | (simp; done) | (simp; omega))) [List.take_of_length_le]; done) | (simp (disch := (first | (simp; done) | (simp; omega))) [List.take_of_length_le, show ∀ a b : Nat, a + 1 + (b + 1) = a + (b + 1) + 1 from by intros; omega]; done)) c4 ?_
      simp (disch := (simp at *; omega))
      refine .call 100 (by first | (simp; done) | (simp (disch := (first | (simp; done) | (simp; omega))) [List.take_of_length_le]; done) | (simp (disch := (first | (simp; done) | (simp; omega))) [List.take_of_length_le, show ∀ a b : Nat, a + 1 + (b + 1) = a + (b + 1) + 1 from by intros; omega]; done)) c5 ?_
      simp (disch := omega) [n4, l1, l1', l2, l3]
      exact .back (by simp)
end Go.Proofs.YtenpljbbboibiaaDoor
/- Tokens: runs of bytes; BENCH. -/
namespace Go.Proofs.YtenpljbbboibiaaDoor.Tok
open Go.AM Go.Proofs Go.Proofs.YtenpljbbboibiaaDoor
variable {Γ : Nat → Option AV}
set_option linter.unusedSimpArgs false
set_option linter.unusedVariables false

/-- How many bytes from a place on are so. -/
def runB (p : UInt8 → Bool) (s : List UInt8) (i : Nat) : Nat := ((s.drop i).takeWhile p).length
theorem runB_end {p : UInt8 → Bool} {s : List UInt8} {i : Nat} (h : s.length ≤ i) : runB p s i = 0 := by simp [runB, List.drop_eq_nil_of_le h]
theorem runB_no {p : UInt8 → Bool} {s : List UInt8} {i : Nat} (h : i < s.length) (hp : p s[i] = false) : runB p s i = 0 := by
  rw [runB, List.drop_eq_getElem_cons h, List.takeWhile_cons, hp]; rfl
theorem runB_yes {p : UInt8 → Bool} {s : List UInt8} {i : Nat} (h : i < s.length) (hp : p s[i] = true) : runB p s i = runB p s (i + 1) + 1 := by
  rw [runB, List.drop_eq_getElem_cons h, List.takeWhile_cons, hp]; rfl
theorem runB_le {p : UInt8 → Bool} {s : List UInt8} {i : Nat} : i + runB p s i ≤ max i s.length := by
  have := (List.takeWhile_prefix p (l := s.drop i)).length_le
  rw [List.length_drop] at this
  unfold runB; omega

def not10 (c : UInt8) : Bool := !decide (c = 10)
/-- A closure that tells of a byte. -/
def Tells (Γ : Nat → Option AV) (k : Nat) (p : UInt8 → Bool) : Prop := ∀ c, PureCon Tryd.prog Γ k [byteA c] (.bool (p c))

theorem p_token_run {k : Nat} {p : UInt8 → Bool} (hp : Tells Γ k p) (s : List UInt8) (i : Nat) (hs : s.length < 2 ^ 60) (hi : i ≤ s.length) :
    PureCon Tryd.prog Γ n_token_run [.str s, .int .i64 i, .fn (.func k) [] []] (.int .i64 (runB p s i)) := by
  have hb := (hp 0).1
  have key : ∀ n j : Nat, i + j + n = s.length → AM.Reach Tryd.prog Γ (token_run_L1 (.str s) (.int .i64 i) (.fn (.func k) [] []) (.int .i64 j) []) (.back [] (.int .i64 ((j + runB p s (i + j) : Nat) : Int)) []) := by
    intro n
    induction n with
    | zero =>
      intro j hj
      have h1 : i + j = s.length := by omega
      have h2 : (i : Int) + j = s.length := by omega
      refine .go 60 ?_
      simp [runB_end, h1, h2, wrap64 (n := (s.length : Int)) (by omega) (by omega)]
    | succ n ih =>
      intro j hj
      have hlt : i + j < s.length := by omega
      have h2 : (i : Int) + j < s.length := by omega
      have h3 : ((i : Int) + j).toNat = i + j := by omega
      have h4 : 0 ≤ (i : Int) + j := by omega
      refine .go 60 ?_
      simp [hlt, h2, h3, h4, hb, wrap64 (n := (i : Int) + j) (by omega) (by omega)]
      refine .con (by simp) (hp s[i + j]) ?_
      refine .go 60 ?_
      cases hc : p s[i + j] with
      | false =>
        simp [runB_no hlt hc]
      | true =>
        simp [wrap64 (n := (j : Int) + 1) (by omega) (by omega)]
        refine re_loop ?_
        have h5 := runB_yes hlt hc
        rw [Nat.add_assoc] at h5
        rw [show ((j : Int) + (runB p s (i + j) : Int)) = ((j + 1 + runB p s (i + (j + 1)) : Nat) : Int) by omega]
        simpa using ih (j + 1) (by omega)
  refine PureCon.of (v := .int .i64 (runB p s i)) (hh := []) (by simp) (enter_eq c_token_run _ (.go 40 ?_)) (by simp)
  simp
  refine in_loop ?_
  simpa using key (s.length - i) 0 (by omega)

structure Tok where
  kind : Int
  text : List UInt8
  pos : Int
  deriving DecidableEq
@[simp] def eTok (t : Tok) : AV := .agg [.int .i64 t.kind, .str t.text, .int .i64 t.pos]

theorem p_IndexByte (s : List UInt8) (c : UInt8) : PureCon Tryd.prog Γ n_strings_IndexByte [.str s, byteA c] (.int .i64 (Lib.indexByte s c)) := by
  refine PureCon.lib (by simp) (fun _ => rfl) rfl fun N g h w us _ hV => ?_
  obtain ⟨us, rfl, h1⟩ := VL_str hV
  obtain ⟨us, rfl, h2⟩ := VL_int (show VL g h [.int .u8 c.toNat] us from h1)
  obtain rfl := VL_nil' h2
  refine (Tryd.strings_IndexByte _ _ w).mono ?_
  rintro e w' ⟨rfl, rfl⟩
  exact ⟨⟨_, rfl, fun _ _ => by simp [V]⟩, rfl⟩

theorem indexByte_ge (s : List UInt8) (c : UInt8) : -1 ≤ Lib.indexByte s c := by
  induction s with
  | nil => simp [Lib.indexByte]
  | cons b l ih =>
    simp only [Lib.indexByte]
    by_cases h1 : (b == c) = true
    · simp [h1]
    · by_cases h2 : (Lib.indexByte l c == -1) = true
      · simp [h1, h2]
      · simp only [h1, h2, Bool.false_eq_true, if_false]; omega
theorem indexByte_none (s : List UInt8) (c : UInt8) : (Lib.indexByte s c = -1) ↔ ¬ c ∈ s := by
  induction s with
  | nil => simp [Lib.indexByte]
  | cons b l ih =>
    have hge := indexByte_ge l c
    simp only [Lib.indexByte, List.mem_cons, not_or, ← ih]
    by_cases h1 : b = c
    · subst h1; simp
    · have h2 : ¬ c = b := fun e => h1 e.symm
      by_cases h3 : Lib.indexByte l c = -1
      · simp [h1, h2, h3]
      · simp [h1, h2, h3]; omega
/-- Is a byte among some? -/
def memB (s : List UInt8) (c : UInt8) : Bool := decide (c ∈ s)
theorem memB_yes {s : List UInt8} {c : UInt8} (h : memB s c = true) : c ∈ s := by simpa [memB] using h
theorem memB_no {s : List UInt8} {c : UInt8} (h : memB s c = false) : ¬ c ∈ s := by simpa [memB] using h
@[simp] theorem indexByte_lt (s : List UInt8) (c : UInt8) : (Lib.indexByte s c < 0) ↔ memB s c = false := by
  have := indexByte_ge s c
  have := indexByte_none s c
  simp only [memB, decide_eq_false_iff_not, ← this]; omega
@[simp] theorem indexByte_le (s : List UInt8) (c : UInt8) : (0 ≤ Lib.indexByte s c) ↔ memB s c = true := by
  have := indexByte_lt s c
  rw [← Int.not_lt, this]; simp

theorem p_graph (c : UInt8) : PureCon Tryd.prog Γ n_token_graph [byteA c] (.bool (decide (32 < c) && decide (c ≤ 126))) := by
  refine PureCon.of (v := .bool (decide (32 < c) && decide (c ≤ 126))) (hh := []) (by simp) (enter_eq c_token_graph _ (.go 60 ?_)) (by simp)
  by_cases h1 : 32 < c
  · simp [h1]
  · simp [h1]

theorem p_none (n : Int) : PureCon Tryd.prog Γ n_token_none [.int .i64 n] (.tup [eTok ⟨-1, [], 0⟩, .int .i64 n]) := by
  refine PureCon.of (v := .tup [eTok ⟨-1, [], 0⟩, .int .i64 n]) (hh := [.cells [.int .i64 (-1), .str [], .int .i64 0]]) (by simp) (enter_eq c_token_none _ (.go 60 ?_)) (by simp)
  simp

/-- The bytes from a place on. -/
def sub (s : List UInt8) (i n : Nat) : List UInt8 := (s.drop i).take n

theorem p_one (k : Int) (s : List UInt8) (i n : Nat) (hs : s.length < 2 ^ 60) (hn : 0 < n) (hi : i + n ≤ s.length) :
    PureCon Tryd.prog Γ n_token_one [.int .i64 k, .str s, .int .i64 i, .int .i64 n] (.tup [eTok ⟨k, sub s i n, i⟩, .int .i64 n]) := by
  refine PureCon.of (v := .tup [eTok ⟨k, sub s i n, i⟩, .int .i64 n]) (hh := [.cells [.int .i64 k, .str (sub s i n), .int .i64 i]]) (by simp) (enter_eq c_token_one _ (.go 60 ?_)) (by simp)
  have h0 : ¬ n = 0 := by omega
  have h1 : (s.take (i + n)).drop i = sub s i n := by rw [sub, List.drop_take]; congr 1; omega
  simp (disch := omega) [h0, h1]


theorem p_one_die (k : Int) (s : List UInt8) (i : Nat) : DieCon Tryd.prog Γ n_token_one [.int .i64 k, .str s, .int .i64 i, .int .i64 0] (.ifc t_token_odd (.agg [.int .i64 i])) := by
  refine DieCon.of (hh := [.cells [.int .i64 0, .str [], .int .i64 0]]) (by simp) (enter_eq c_token_one _ (.go 60 ?_)) (by simp) (by simp)
  simp

theorem t_line_1 : Tells Γ n_token_line_1 not10 := by
  intro c
  refine PureCon.of (v := .bool (not10 c)) (hh := []) (by simp) (enter_eq c_token_line_1 _ (.go 60 ?_)) (by simp)
  by_cases h : c = 10
  · subst h; simp [not10]
  · simp [h, not10]

theorem p_token_line (s : List UInt8) (i : Nat) (hs : s.length < 2 ^ 60) (hi : i ≤ s.length) : PureCon Tryd.prog Γ n_token_line [.str s, .int .i64 i] (.int .i64 (runB not10 s i)) := by
  refine PureCon.of (v := .int .i64 (runB not10 s i)) (hh := []) (by simp) (enter_eq c_token_line _ (.go 60 ?_)) (by simp)
  simp
  refine .call 60 (by simp) (p_token_run t_line_1 s i hs hi) ?_
  simp

def benchB (c : UInt8) : Bool := decide (32 < c) && decide (c ≤ 126) && !memB [61, 40, 41, 44, 35] c
theorem t_bench_read_1 : Tells Γ n_token_bench_read_1 benchB := by
  intro c
  refine PureCon.of (v := .bool (benchB c)) (hh := []) (by simp) (enter_eq c_token_bench_read_1 _ (.go 60 ?_)) (by simp)
  simp
  refine .call 60 (by simp) (p_graph c) ?_
  cases h : (decide (32 < c) && decide (c ≤ 126)) with
  | false => simp [benchB, h]
  | true =>
    simp
    refine .call 60 (by simp) (p_IndexByte [61, 40, 41, 44, 35] c) ?_
    simp [benchB, h]

def noTok : Tok := ⟨-1, [], 0⟩
/-- What a reader comes to. -/
@[simp] def rdOut (i : Nat) : Option (Tok × Nat) → Out
  | some r => .ret (.tup [eTok r.1, .int .i64 r.2])
  | none => .die (.ifc t_token_odd (.agg [.int .i64 i]))
def RdCon (Γ : Nat → Option AV) (f : FuncId) (s : List UInt8) (i : Nat) (r : Option (Tok × Nat)) : Prop := Con Tryd.prog Γ f [.agg [], .str s, .int .i64 i] (rdOut i r)
/-- A token of so many bytes, or none. -/
def oneOf (k : Int) (s : List UInt8) (i n : Nat) : Option (Tok × Nat) := if n = 0 then none else some (⟨k, sub s i n, i⟩, n)

theorem q_one (k : Int) (s : List UInt8) (i n : Nat) (hs : s.length < 2 ^ 60) (hi : i + n ≤ s.length) : Con Tryd.prog Γ n_token_one [.int .i64 k, .str s, .int .i64 i, .int .i64 n] (rdOut i (oneOf k s i n)) := by
  unfold oneOf
  by_cases h : n = 0
  · subst h; exact p_one_die k s i
  · simp only [h, if_false]; exact p_one k s i n hs (by omega) hi
/-- The reader hands on what one comes to. -/
theorem fin_one {k : Int} {s : List UInt8} {i n : Nat} (m : Nat) {up : List Fr} {h : List Ob} (hs : s.length < 2 ^ 60) (hi : i + n ≤ s.length) 
    (h1 : n ≠ 0 → Fins Tryd.prog Γ (AM.go Tryd.prog Γ 0 m (.back up (.tup [eTok ⟨k, sub s i n, i⟩, .int .i64 n]) h)) (.ret (.tup [eTok ⟨k, sub s i n, i⟩, .int .i64 n])))
    (h2 : Fins Tryd.prog Γ (AM.go Tryd.prog Γ 0 m (.die up (.ifc t_token_odd (.agg [.int .i64 i])) h)) (.die (.ifc t_token_odd (.agg [.int .i64 i])))) :
    Fins Tryd.prog Γ (.cl n_token_one [.int .i64 k, .str s, .int .i64 i, .int .i64 n] up h) (rdOut i (oneOf k s i n)) := by
  unfold oneOf
  by_cases h0 : n = 0
  · subst h0
    exact .dcall m (by simp) (p_one_die k s i) h2
  · simp only [h0, if_false]
    refine .call m (by simp) (p_one k s i n hs (by omega) hi) ?_
    simpa using h1 h0

def rdBench (s : List UInt8) (i : Nat) (c : UInt8) : Option (Tok × Nat) :=
  if c = 35 then some (noTok, runB not10 s i)
  else if memB [32, 9, 13, 10] c then some (noTok, 1)
  else if memB [61, 40, 41, 44] c then some (⟨1, sub s i 1, i⟩, 1)
  else oneOf 0 s i (runB benchB s i)

theorem p_bench_read (s : List UInt8) (i : Nat) (hs : s.length < 2 ^ 60) (hi : i < s.length) : RdCon Γ n_token_bench_read s i (rdBench s i s[i]) := by
  have hle := runB_le (p := benchB) (s := s) (i := i)
  refine .of 60 c_token_bench_read (by simp) ?_
  unfold rdBench
  by_cases h1 : s[i] = 35
  · simp (disch := omega) [h1]
    refine .call 60 (by simp) (p_token_line s i hs (by omega)) ?_
    simp
    refine .call 60 (by simp) (p_none (runB not10 s i)) ?_
    simp
    exact .back (by simp [noTok])
  simp (disch := omega) only [h1, if_false]
  simp (disch := omega) [h1]
  refine .call 60 (by simp) (p_IndexByte [32, 9, 13, 10] s[i]) ?_
  cases h2 : memB [32, 9, 13, 10] s[i] with
  | true =>
    simp [h2]
    refine .call 60 (by simp) (p_none 1) ?_
    simp
    exact .back (by simp [noTok])
  | false =>
  simp [h2]
  refine .call 60 (by simp) (p_IndexByte [61, 40, 41, 44] s[i]) ?_
  cases h3 : memB [61, 40, 41, 44] s[i] with
  | true =>
    simp [h3]
    refine .call 60 (by simp) (p_one 1 s i 1 hs (by omega) (by omega)) ?_
    simp
    exact .back (by simp)
  | false =>
  simp [h3]
  refine .call 60 (by simp) (p_token_run t_bench_read_1 s i hs (by omega)) ?_
  simp
  refine fin_one 60 hs (by omega) (fun _ => ?_) ?_
  · simp; exact .back (by simp)
  · simp; exact .die (by simp) (by simp)
end Go.Proofs.YtenpljbbboibiaaDoor.Tok
/- Tokens: BLIF and Verilog. -/
namespace Go.Proofs.YtenpljbbboibiaaDoor.Tok
open Go.AM Go.Proofs Go.Proofs.YtenpljbbboibiaaDoor
variable {Γ : Nat → Option AV}
set_option linter.unusedSimpArgs false
set_option linter.unusedVariables false


theorem isPrefixOf_take (p s : List UInt8) : p.isPrefixOf s = (decide (p.length ≤ s.length) && decide (s.take p.length = p)) := by
  rw [Bool.eq_iff_iff, List.isPrefixOf_iff_prefix, List.prefix_iff_eq_take]
  simp only [Bool.and_eq_true, decide_eq_true_eq]
  constructor
  · intro h
    refine ⟨?_, h.symm⟩
    have := congrArg List.length h
    rw [List.length_take] at this
    omega
  · intro h; exact h.2.symm

def hasPre (p s : List UInt8) : Bool := p.isPrefixOf s
theorem p_stringslite_HasPrefix (s p : List UInt8) (hs : s.length < 2 ^ 60) : PureCon Tryd.prog Γ n_stringslite_HasPrefix [.str s, .str p] (.bool (hasPre p s)) := by
  refine .run 60 c_stringslite_HasPrefix (by simp) ?_
  rw [hasPre, isPrefixOf_take]
  by_cases h : p.length ≤ s.length
  · simp [h]
    exact .back (by simp)
  · have h' : ¬ (p.length : Int) ≤ s.length := by omega
    simp [h]
    exact .back (by simp)
theorem p_HasPrefix (s p : List UInt8) (hs : s.length < 2 ^ 60) : PureCon Tryd.prog Γ n_strings_HasPrefix [.str s, .str p] (.bool (hasPre p s)) := by
  refine .run 60 c_strings_HasPrefix (by simp) ?_
  simp
  refine .call 60 (by simp) (p_stringslite_HasPrefix s p hs) ?_
  simp
  exact .back (by simp)

def blifB (c : UInt8) : Bool := !memB [32, 9, 13, 10, 35, 92] c
theorem t_blif_read_1 : Tells Γ n_token_blif_read_1 blifB := by
  intro c
  refine .run 60 c_token_blif_read_1 (by simp) ?_
  simp
  refine .call 60 (by simp) (p_IndexByte [32, 9, 13, 10, 35, 92] c) ?_
  simp
  exact .back (by simp [blifB])

def rdBlif (s : List UInt8) (i : Nat) (c : UInt8) : Option (Tok × Nat) :=
  if c = 35 then some (noTok, runB not10 s i)
  else if hasPre [92, 10] (s.drop i) then some (noTok, 2)
  else if memB [32, 9, 13] c then some (noTok, 1)
  else if c = 10 then some (⟨3, [], i⟩, 1)
  else if c = 92 then some (⟨0, sub s i 1, i⟩, 1)
  else oneOf 0 s i (runB blifB s i)

theorem p_blif_read (s : List UInt8) (i : Nat) (hs : s.length < 2 ^ 60) (hi : i < s.length) : RdCon Γ n_token_blif_read s i (rdBlif s i s[i]) := by
  have hle := runB_le (p := blifB) (s := s) (i := i)
  refine .of 60 c_token_blif_read (by simp) ?_
  unfold rdBlif
  by_cases h1 : s[i] = 35
  · simp (disch := omega) [h1]
    refine .call 60 (by simp) (p_token_line s i hs (by omega)) ?_
    simp
    refine .call 60 (by simp) (p_none (runB not10 s i)) ?_
    simp
    exact .back (by simp [noTok])
  simp (disch := omega) [h1]
  refine .call 60 (by simp) (p_HasPrefix (s.drop i) [92, 10] (by simp; omega)) ?_
  cases h2 : hasPre [92, 10] (s.drop i) with
  | true =>
    simp [h2]
    refine .call 60 (by simp) (p_none 2) ?_
    simp
    exact .back (by simp [noTok])
  | false =>
  simp [h2]
  refine .call 60 (by simp) (p_IndexByte [32, 9, 13] s[i]) ?_
  cases h3 : memB [32, 9, 13] s[i] with
  | true =>
    simp [h3]
    refine .call 60 (by simp) (p_none 1) ?_
    simp
    exact .back (by simp [noTok])
  | false =>
  simp [h3]
  by_cases h4 : s[i] = 10
  · simp [h4]
    exact .back (by simp)
  simp [h4]
  by_cases h5 : s[i] = 92
  · simp [h5]
    refine .call 60 (by simp) (p_one 0 s i 1 hs (by omega) (by omega)) ?_
    simp
    exact .back (by simp)
  simp [h5]
  refine .call 60 (by simp) (p_token_run t_blif_read_1 s i hs (by omega)) ?_
  simp
  refine fin_one 60 hs (by omega) (fun _ => ?_) ?_
  · simp; exact .back (by simp)
  · simp; exact .die (by simp) (by simp)

def namedB (c : UInt8) : Bool := (decide (97 ≤ c) && decide (c ≤ 122)) || (decide (65 ≤ c) && decide (c ≤ 90)) || (decide (48 ≤ c) && decide (c ≤ 57)) || memB [95, 36, 39] c
theorem t_named : Tells Γ n_token_named namedB := by
  intro c
  refine .run 100 c_token_named (by simp) ?_
  unfold namedB
  by_cases h1 : 97 ≤ c <;> by_cases h2 : c ≤ 122 <;> simp [h1, h2]
  · exact .back (by simp)
  all_goals
    by_cases h3 : 65 ≤ c <;> by_cases h4 : c ≤ 90 <;> simp [h3, h4]
  all_goals first
    | exact .back (by simp)
    | by_cases h5 : 48 ≤ c <;> by_cases h6 : c ≤ 57 <;> simp [h5, h6]
  all_goals first
    | exact .back (by simp)
    | refine .call 60 (by simp) (p_IndexByte [95, 36, 39] c) ?_
      simp; exact .back (by simp)

/-- The package's variable. -/
def ΓM (Γ : Nat → Option AV) : Prop := ∃ m, Γ 1 = some (.int .i64 m)
theorem p_Index (hΓ : ΓM Γ) (s p : List UInt8) (hs : s.length < 4294967281) : PureCon Tryd.prog Γ n_strings_Index [.str s, .str p] (.int .i64 (Lib.index s p)) := by
  obtain ⟨m, hm⟩ := hΓ
  refine PureCon.lib (by simp) (fun _ => rfl) rfl fun N g h w us H hV => ?_
  obtain ⟨us, rfl, h1⟩ := VL_str hV
  obtain ⟨us, rfl, h2⟩ := VL_str h1
  obtain rfl := VL_nil' h2
  refine (Tryd.strings_Index _ _ m w (by simpa [ByteArray.size] using hs) (H.glob_int hm)).mono ?_
  rintro e w' ⟨rfl, rfl⟩
  exact ⟨⟨_, rfl, fun _ _ => by simp [V]⟩, rfl⟩

def graphB (c : UInt8) : Bool := decide (32 < c) && decide (c ≤ 126)
def rdVer (s : List UInt8) (i : Nat) (c : UInt8) : Option (Tok × Nat) :=
  if memB [32, 9, 13, 10] c then some (noTok, 1)
  else if hasPre [47, 47] (s.drop i) then some (noTok, runB not10 s i)
  else if hasPre [47, 42] (s.drop i) then (if Lib.index (s.drop (i + 2)) [42, 47] < 0 then none else some (noTok, (Lib.index (s.drop (i + 2)) [42, 47]).toNat + 4))
  else if memB [40, 41, 59, 44, 61, 126, 38, 124, 94] c then some (⟨1, sub s i 1, i⟩, 1)
  else if c = 92 then (if runB graphB s (i + 1) = 0 then none else some (⟨2, sub s (i + 1) (runB graphB s (i + 1)), i⟩, runB graphB s (i + 1) + 1))
  else oneOf 0 s i (runB namedB s i)

theorem hasPre_len {p s : List UInt8} (h : hasPre p s = true) : p.length ≤ s.length := by
  rw [hasPre, isPrefixOf_take] at h
  simp at h
  exact h.1
theorem index_le (s p : List UInt8) : Lib.index s p ≤ s.length := by
  induction s with
  | nil => simp only [Lib.index]; split <;> simp
  | cons b l ih =>
    simp only [Lib.index, List.length_cons]
    by_cases h1 : p.isPrefixOf (b :: l) = true
    · simp [h1]; omega
    · by_cases h2 : (Lib.index l p == -1) = true
      · simp [h1, h2]; omega
      · simp only [h1, h2, Bool.false_eq_true, if_false]; omega

theorem p_verilog_read (hΓ : ΓM Γ) (s : List UInt8) (i : Nat) (hs : s.length < 4294967281) (hi : i < s.length) : RdCon Γ n_token_verilog_read s i (rdVer s i s[i]) := by
  have hs' : s.length < 2 ^ 60 := by omega
  have hle := runB_le (p := namedB) (s := s) (i := i)
  have hle2 := runB_le (p := graphB) (s := s) (i := i + 1)
  refine .of 60 c_token_verilog_read (by simp) ?_
  unfold rdVer
  simp (disch := omega)
  refine .call 60 (by simp) (p_IndexByte [32, 9, 13, 10] s[i]) ?_
  cases h2 : memB [32, 9, 13, 10] s[i] with
  | true =>
    simp [h2]
    refine .call 60 (by simp) (p_none 1) ?_
    simp
    exact .back (by simp [noTok])
  | false =>
  simp (disch := omega) [h2]
  refine .call 60 (by simp) (p_HasPrefix (s.drop i) [47, 47] (by simp; omega)) ?_
  cases h3 : hasPre [47, 47] (s.drop i) with
  | true =>
    simp [h3]
    refine .call 60 (by simp) (p_token_line s i hs' (by omega)) ?_
    simp
    refine .call 60 (by simp) (p_none (runB not10 s i)) ?_
    simp
    exact .back (by simp [noTok])
  | false =>
  simp (disch := omega) [h3]
  refine .call 60 (by simp) (p_HasPrefix (s.drop i) [47, 42] (by simp; omega)) ?_
  cases h4 : hasPre [47, 42] (s.drop i) with
  | true =>
    have hl := hasPre_len h4
    simp at hl
    have hix := index_le (s.drop (i + 2)) [42, 47]
    rw [List.length_drop] at hix
    simp (disch := omega) [h4]
    refine .call 60 (by simp) (p_Index hΓ (s.drop (i + 2)) [42, 47] (by simp; omega)) ?_
    by_cases h5 : Lib.index (s.drop (i + 2)) [42, 47] < 0
    · simp [h5]
      exact .die (by simp) (by simp)
    · simp (disch := omega) [h5]
      refine .call 60 (by simp) (p_none (Lib.index (s.drop (i + 2)) [42, 47] + 4)) ?_
      have h6 : max (Lib.index (s.drop (i + 2)) [42, 47]) 0 = Lib.index (s.drop (i + 2)) [42, 47] := by omega
      simp [h6]
      exact .back (by simp [noTok])
  | false =>
  simp (disch := omega) [h4]
  refine .call 60 (by simp) (p_IndexByte [40, 41, 59, 44, 61, 126, 38, 124, 94] s[i]) ?_
  cases h5 : memB [40, 41, 59, 44, 61, 126, 38, 124, 94] s[i] with
  | true =>
    simp [h5]
    refine .call 60 (by simp) (p_one 1 s i 1 hs' (by omega) (by omega)) ?_
    simp
    exact .back (by simp)
  | false =>
  simp [h5]
  by_cases h6 : s[i] = 92
  · simp (disch := omega) [h6]
    refine .call 60 (by simp) (p_token_run (p := graphB) (fun c => p_graph c) s (i + 1) hs' (by omega)) ?_
    by_cases h7 : runB graphB s (i + 1) = 0
    · simp [h7]
      exact .die (by simp) (by simp)
    · have h8 : (s.take (i + 1 + runB graphB s (i + 1))).drop (i + 1) = sub s (i + 1) (runB graphB s (i + 1)) := by rw [sub, List.drop_take]; congr 1; omega
      simp (disch := omega) [h7, h8]
      exact .back (by simp)
  simp [h6]
  refine .call 60 (by simp) (p_token_run t_named s i hs' (by omega)) ?_
  simp
  refine fin_one 60 hs' (by omega) (fun _ => ?_) ?_
  · simp; exact .back (by simp)
  · simp; exact .die (by simp) (by simp)
end Go.Proofs.YtenpljbbboibiaaDoor.Tok
/- Tokens: all of a text. -/
namespace Go.Proofs.YtenpljbbboibiaaDoor.Tok
open Go.AM Go.Proofs Go.Proofs.YtenpljbbboibiaaDoor
variable {Γ : Nat → Option AV}
set_option linter.unusedSimpArgs false
set_option linter.unusedVariables false


/-- All tokens from a place on, behind others; or where it cannot be read. -/
def allS (rd : Nat → UInt8 → Option (Tok × Nat)) (s : List UInt8) : Nat → Nat → List Tok → Except Nat (List Tok)
  | 0, _, acc => .ok acc
  | n + 1, i, acc => if h : i < s.length then match rd i s[i] with
    | none => .error i
    | some (t, k) => allS rd s n (i + k) (if 0 ≤ t.kind then acc ++ [t] else acc)
    else .ok acc

def allR : Except Nat (List Tok) → AV
  | .ok l => .tup [.own 3 t_token_Token (l.map eTok), .int .i64 0, .int .i64 0]
  | .error i => .tup [.list true 0 [], .int .i64 i, .int .i64 2]

@[simp] theorem allR_ok (l : List Tok) : allR (.ok l) = .tup [.own 3 t_token_Token (l.map eTok), .int .i64 0, .int .i64 0] := rfl
@[simp] theorem allR_err (i : Nat) : allR (.error i) = .tup [.list true 0 [], .int .i64 i, .int .i64 2] := rfl

theorem p_all {ty : TypeId} {f : FuncId} {s : List UInt8} {rd : Nat → UInt8 → Option (Tok × Nat)} (hm : cmeth Tryd.prog ty s_patchbay_token_read = some (f, none)) (hs : s.length < 4294967281)
    (hrd : ∀ i (hi : i < s.length), RdCon Γ f s i (rd i s[i])) (hk : ∀ i (hi : i < s.length) t k, rd i s[i] = some (t, k) → 0 < k ∧ k ≤ s.length + 4) :
    PureCon Tryd.prog Γ n_token_all [.ifc ty (.agg []), .str s] (allR (allS rd s s.length 0 [])) := by
  have key : ∀ n i (acc : List Tok), s.length ≤ i + n → i ≤ 2 * s.length + 4 → acc.length ≤ i →
      Fins Tryd.prog Γ (token_all_L1 (.ifc ty (.agg [])) (.str s) (.ptr 0 0) (.ptr 2 0) (.ptr 3 0) (.int .i64 i) [.cells [.sl 1 0 acc.length], .row 3 t_token_Token (acc.map eTok) none true false, .cells [.int .i64 0], .cells [.int .i64 0]]
        ⟨[.call n_token_all_1 [.ptr 0 0, .ptr 2 0, .ptr 3 0]], .norm, 0, []⟩) (.ret (allR (allS rd s n i acc))) := by
    intro n
    induction n with
    | zero =>
      intro i acc hn hi hacc
      have h1 : ¬ i < s.length := by omega
      refine .go 90 ?_
      simp (disch := omega) [h1]
      exact .back (by simp [allS])
    | succ n ih =>
      intro i acc hn hi hacc
      refine .go 90 ?_
      by_cases h1 : i < s.length
      · have hc := hrd i h1
        have hb := hc.body
        have hkk := hk i h1
        simp (disch := omega) [h1, hm, hb]
        cases h2 : rd i s[i] with
        | none =>
          rw [h2] at hc
          refine .dcall 90 (by simp) hc ?_
          simp
          refine .dr 90 ?_
          simp
          exact .back (by simp [allS, h1, h2])
        | some r =>
          obtain ⟨t, k⟩ := r
          rw [h2] at hc
          obtain ⟨hk1, hk2⟩ := hkk t k h2
          refine .call 90 (by simp) hc ?_
          by_cases h3 : 0 ≤ t.kind
          · have h4 : allS rd s (n + 1) i acc = allS rd s n (i + k) (acc ++ [t]) := by simp [allS, h1, h2, h3]
            rw [h4]
            simp (disch := omega) [h3]
            refine .reLoop ?_
            simp
            refine .drop 4 rfl (by simp) (by simp) (by simp) ?_
            refine .reset (i := 1) rfl (by simp) (by simp) (by simp) ?_
            simpa using ih (i + k) (acc ++ [t]) (by omega) (by omega) (by simp; omega)
          · have h4 : allS rd s (n + 1) i acc = allS rd s n (i + k) acc := by simp [allS, h1, h2, h3]
            rw [h4]
            simp (disch := omega) [h3]
            refine .reLoop ?_
            simp
            refine .drop 4 rfl (by simp) (by simp) (by simp) ?_
            simpa using ih (i + k) acc (by omega) (by omega) (by omega)
      · simp (disch := omega) [h1]
        exact .back (by simp [allS, h1])
  refine .run 60 c_token_all (by simp) ?_
  simp
  refine .inLoop ?_
  simpa using key s.length 0 [] (by omega) (by omega) (by simp)
/-- The words of a text, read so. -/
def words (rd : List UInt8 → Nat → UInt8 → Option (Tok × Nat)) (s : List UInt8) : Except Nat (List Tok) := allS (rd s) s s.length 0 []
theorem oneOf_le {k : Int} {s : List UInt8} {i n : Nat} {t : Tok} {m : Nat} (h : oneOf k s i n = some (t, m)) : 0 < m ∧ m = n := by
  unfold oneOf at h
  split at h
  · cases h
  · simp at h; omega
theorem rdBench_le {s : List UInt8} {i : Nat} (hi : i < s.length) {t : Tok} {k : Nat} (h : rdBench s i s[i] = some (t, k)) : 0 < k ∧ i + k ≤ s.length := by
  have h1 := runB_le (p := not10) (s := s) (i := i)
  have h2 := runB_le (p := benchB) (s := s) (i := i)
  unfold rdBench at h
  split at h
  · rename_i hc
    have h3 : not10 s[i] = true := by simp [not10, hc]
    have h4 := runB_yes hi h3
    simp at h; omega
  · split at h
    · simp at h; omega
    · split at h
      · simp at h; omega
      · have := oneOf_le h; omega

theorem p_token_Bench (s : List UInt8) (hs : s.length < 4294967281) : PureCon Tryd.prog Γ n_token_Bench [.str s] (allR (words rdBench s)) := by
  refine .run 60 c_token_Bench (by simp) ?_
  simp
  refine .call 60 (by simp) (p_all m_token_bench_patchbay_token_read hs (fun i hi => p_bench_read s i (by omega) hi) (fun i hi t k h => by have := rdBench_le hi h; omega)) ?_
  unfold words
  cases allS (rdBench s) s s.length 0 [] with
  | ok l => simp; exact .back (by simp)
  | error i => simp; exact .back (by simp)
end Go.Proofs.YtenpljbbboibiaaDoor.Tok
/- Tokens: BLIF, Verilog, whole. -/
namespace Go.Proofs.YtenpljbbboibiaaDoor.Tok
open Go.AM Go.Proofs Go.Proofs.YtenpljbbboibiaaDoor
variable {Γ : Nat → Option AV}
set_option linter.unusedSimpArgs false
set_option linter.unusedVariables false


theorem rdBlif_le {s : List UInt8} {i : Nat} (hi : i < s.length) {t : Tok} {k : Nat} (h : rdBlif s i s[i] = some (t, k)) : 0 < k ∧ i + k ≤ s.length := by
  have h1 := runB_le (p := not10) (s := s) (i := i)
  have h2 := runB_le (p := blifB) (s := s) (i := i)
  unfold rdBlif at h
  split at h
  · rename_i hc
    have h3 : not10 s[i] = true := by simp [not10, hc]
    have h4 := runB_yes hi h3
    simp at h; omega
  split at h
  · rename_i hc
    have := hasPre_len hc
    simp at this h; omega
  split at h
  · simp at h; omega
  split at h
  · simp at h; omega
  split at h
  · simp at h; omega
  have := oneOf_le h; omega
theorem rdVer_le {s : List UInt8} {i : Nat} (hi : i < s.length) {t : Tok} {k : Nat} (h : rdVer s i s[i] = some (t, k)) : 0 < k ∧ k ≤ s.length + 4 := by
  have h1 := runB_le (p := not10) (s := s) (i := i)
  have h2 := runB_le (p := namedB) (s := s) (i := i)
  have h5 := runB_le (p := graphB) (s := s) (i := i + 1)
  unfold rdVer at h
  split at h
  · simp at h; omega
  split at h
  · rename_i hc
    have h4 : s[i] = 47 := by
      rw [hasPre, List.drop_eq_getElem_cons hi] at hc
      simp [List.isPrefixOf] at hc
      exact hc.1.symm
    have h3 : not10 s[i] = true := by simp [not10, h4]
    have h4 := runB_yes hi h3
    simp at h; omega
  split at h
  · have := index_le (s.drop (i + 2)) [42, 47]
    rw [List.length_drop] at this
    split at h
    · cases h
    · simp at h; omega
  split at h
  · simp at h; omega
  split at h
  · split at h
    · cases h
    · simp at h; omega
  have := oneOf_le h; omega

theorem p_token_Verilog (hΓ : ΓM Γ) (s : List UInt8) (hs : s.length < 4294967281) : PureCon Tryd.prog Γ n_token_Verilog [.str s] (allR (words rdVer s)) := by
  refine .run 60 c_token_Verilog (by simp) ?_
  simp
  refine .call 60 (by simp) (p_all m_token_verilog_patchbay_token_read hs (fun i hi => p_verilog_read hΓ s i (by omega) hi) (fun i hi t k h => rdVer_le hi h)) ?_
  unfold words
  cases allS (rdVer s) s s.length 0 [] with
  | ok l => simp; exact .back (by simp)
  | error i => simp; exact .back (by simp)

/-- BLIF can be read. -/
theorem rdBlif_some {s : List UInt8} {i : Nat} (hi : i < s.length) : ∃ t k, rdBlif s i s[i] = some (t, k) := by
  unfold rdBlif
  split
  · exact ⟨_, _, rfl⟩
  split
  · exact ⟨_, _, rfl⟩
  split
  · exact ⟨_, _, rfl⟩
  split
  · exact ⟨_, _, rfl⟩
  split
  · exact ⟨_, _, rfl⟩
  rename_i h1 h2 h3 h4 h5
  have hb : blifB s[i] = true := by
    simp [memB] at h3
    simp [blifB, memB, h1, h3, h4, h5]
  have := runB_yes hi hb
  unfold oneOf
  rw [if_neg (by omega)]
  exact ⟨_, _, rfl⟩
theorem allS_ok {rd : Nat → UInt8 → Option (Tok × Nat)} {s : List UInt8} (h : ∀ i (hi : i < s.length), ∃ t k, rd i s[i] = some (t, k)) : ∀ n i acc, ∃ l, allS rd s n i acc = .ok l
  | 0, i, acc => ⟨acc, rfl⟩
  | n + 1, i, acc => by
    simp only [allS]
    by_cases hi : i < s.length
    · obtain ⟨t, k, h1⟩ := h i hi
      rw [dif_pos hi]
      simp only [h1]
      exact allS_ok h n _ _
    · rw [dif_neg hi]
      exact ⟨_, rfl⟩
theorem allS_len {rd : Nat → UInt8 → Option (Tok × Nat)} {s : List UInt8} : ∀ {n i acc l}, allS rd s n i acc = .ok l → l.length ≤ acc.length + n
  | 0, i, acc, l, h => by simp only [allS] at h; cases h; omega
  | n + 1, i, acc, l, h => by
    simp only [allS] at h
    split at h
    · split at h
      · cases h
      · have := allS_len h
        split at this
        · simp at this; omega
        · omega
    · cases h; omega

def isEnd (t : Tok) : Bool := decide (t.kind = 3)
/-- Ends of lines only behind something. -/
def squeeze : Bool → List Tok → List Tok
  | _, [] => []
  | p, t :: r => if isEnd t && p then squeeze (isEnd t) r else t :: squeeze (isEnd t) r
theorem squeeze_drop {p : Bool} {L : List Tok} {i : Nat} (h : i < L.length) : squeeze p (L.drop i) = if isEnd L[i] && p then squeeze (isEnd L[i]) (L.drop (i + 1)) else L[i] :: squeeze (isEnd L[i]) (L.drop (i + 1)) := by
  rw [List.drop_eq_getElem_cons h, squeeze]
def blifS (s : List UInt8) : List Tok := match words rdBlif s with
  | .ok l => squeeze true (l ++ [⟨3, [], s.length⟩])
  | .error _ => []

theorem p_token_Blif (s : List UInt8) (hs : s.length < 2 ^ 31) : PureCon Tryd.prog Γ n_token_Blif [.str s] (.own 3 t_token_Token ((blifS s).map eTok)) := by
  refine .run 90 c_token_Blif (by simp) ?_
  simp
  refine .call 90 (by simp) (p_all m_token_blif_patchbay_token_read (by omega) (fun i hi => p_blif_read s i (by omega) hi) (fun i hi t k h => by have := rdBlif_le hi h; omega)) ?_
  obtain ⟨l, hl⟩ := allS_ok (fun i hi => rdBlif_some (s := s) hi) s.length 0 []
  have hlen := allS_len hl
  have hw : blifS s = squeeze true (l ++ [⟨3, [], s.length⟩]) := by simp [blifS, words, hl]
  rw [hw, hl]
  simp at hlen
  simp (disch := omega)
  refine .inLoop ?_
  have key : ∀ n i (acc : List Tok) (p : Bool) (L : List Tok), i + n = L.length → acc.length ≤ i → L.length < 2 ^ 32 → p = (decide (i = 0) || (L.map isEnd).getD (i - 1) true) →
      Fins Tryd.prog Γ (token_Blif_L1 (.sl 1 0 L.length) (.sl 2 0 acc.length) (.sl 1 0 L.length) (.int .i64 L.length) (.int .i64 i) [.row 3 t_token_Token [] none true false, .row 3 t_token_Token (L.map eTok) (some 0) true false,
        .row 3 t_token_Token (acc.map eTok) none true false]) (.ret (.own 3 t_token_Token ((acc ++ squeeze p (L.drop i)).map eTok))) := by
    intro n
    induction n with
    | zero =>
      intro i acc p L hi hacc hL hp
      obtain rfl : i = L.length := by omega
      refine .go 90 ?_
      simp [squeeze]
      exact .back (by simp)
    | succ n ih =>
      intro i acc p L hi hacc hL hp
      have h1 : i < L.length := by omega
      have ih1 := ih (i + 1) acc (isEnd L[i]) L (by omega) (by omega) hL (by simp [h1])
      have ih2 := ih (i + 1) (acc ++ [L[i]]) (isEnd L[i]) L (by omega) (by simp; omega) hL (by simp [h1])
      have hsq := squeeze_drop (p := p) h1
      refine .go 90 ?_
      by_cases h2 : L[i].kind = 3
      · have h3 : isEnd L[i] = true := by simp [isEnd, h2]
        by_cases h4 : i = 0
        · subst h4
          have hp1 : p = true := by simpa using hp
          subst hp1
          simp [h3] at hsq ih1
          simp (disch := omega) [h1, h2, hsq]
          refine .reLoop ?_
          simp
          refine .drop 3 rfl (by simp) (by simp) (by simp) ?_
          exact ih1
        · have h5 : i - 1 < L.length := by omega
          have h8 : 0 < i := by omega
          have hp2 : p = isEnd L[i - 1] := by simpa [h4, h5] using hp
          by_cases h7 : L[i - 1].kind = 3
          · have hp1 : p = true := by simp [hp2, isEnd, h7]
            subst hp1
            simp [h3] at hsq ih1
            simp (disch := omega) [h1, h2, h8, h7, hsq]
            refine .reLoop ?_
            simp
            refine .drop 3 rfl (by simp) (by simp) (by simp) ?_
            exact ih1
          · have hp1 : p = false := by simp [hp2, isEnd, h7]
            subst hp1
            simp [h3] at hsq
            simp [h3, h2] at ih2
            simp (disch := omega) [h1, h2, h8, h7, hsq]
            refine .reLoop ?_
            simp
            refine .drop 3 rfl (by simp) (by simp) (by simp) ?_
            refine .reset (i := 2) rfl (by simp) (by simp) (by simp) ?_
            simp
            exact ih2
      · have h3 : isEnd L[i] = false := by simp [isEnd, h2]
        simp [h3] at hsq ih2
        simp (disch := omega) [h1, h2, hsq]
        refine .reLoop ?_
        simp
        refine .drop 3 rfl (by simp) (by simp) (by simp) ?_
        refine .reset (i := 2) rfl (by simp) (by simp) (by simp) ?_
        simp
        exact ih2
  have hh := key (l.length + 1) 0 [] true (l ++ [⟨3, [], s.length⟩]) (by simp) (by simp) (by simp; omega) (by simp)
  simp at hh ⊢
  exact hh
end Go.Proofs.YtenpljbbboibiaaDoor.Tok
/- Names among tokens. -/
namespace Go.Proofs.YtenpljbbboibiaaDoor
open Go.AM Go.Proofs
variable {Γ : Nat → Option AV}
set_option linter.unusedSimpArgs false
set_option linter.unusedVariables false

def findS (f : Int) (s : List UInt8) : List Tk → Int
  | [] => 0
  | t :: r => if wordS f t = (s, 0) then t.at_ else findS f s r
theorem word_iff {f : Int} {t : Tk} {s : List UInt8} : wordS f t = (s, 0) ↔ (wordS f t).2 = 0 ∧ (wordS f t).1 = s := by
  rw [Prod.ext_iff]; exact ⟨fun h => ⟨h.2, h.1⟩, fun h => ⟨h.2, h.1⟩⟩

theorem p_r04_Find (f : Int) (l : List Tk) (s : List UInt8) {k : Nat} (hk : Kd 3 k l) (hl : l.length < 2 ^ 40) (ht : ∀ t ∈ l, t.text.length < 2 ^ 20) : PureCon Tryd.prog Γ n_r04_Find [.int .i64 f, .list false k (l.map fun t => eTk t), .str s] (.int .i64 (findS f s l)) := by
  have key : ∀ n i : Nat, i + n = l.length → Fins Tryd.prog Γ (r04_Find_L1 (.int .i64 f) (.list false k (l.map fun t => eTk t)) (.str s) (.int .i64 i) []) (.ret (.int .i64 (findS f s (l.drop i)))) := by
    intro n
    induction n with
    | zero =>
      intro i hi
      have q1 : ¬ i < l.length := by omega
      rw [List.drop_eq_nil_of_le (by omega), findS]
      refine .go 60 ?_
      simp [q1]
      exact .back (by simp)
    | succ n ih =>
      intro i hi
      have q1 : i < l.length := by omega
      have q2 := eq_true (hk.of q1)
      have hh := ih (i + 1) (by omega)
      have hw := p_r04_Word (Γ := Γ) f l[i] (ht _ (List.getElem_mem q1))
      rw [List.drop_eq_getElem_cons q1, findS]
      refine .go 60 ?_
      simp (disch := omega) [q1, q2]
      refine .call 60 (by simp) hw ?_
      by_cases h1 : (wordS f l[i]).2 = 0
      · by_cases h2 : (wordS f l[i]).1 = s
        · rw [if_pos (word_iff.2 ⟨h1, h2⟩)]
          simp (disch := omega) [q1, q2, h1, h2]
          exact .back (by simp)
        · rw [if_neg (fun h => h2 (word_iff.1 h).2)]
          simp (disch := omega) [q1, q2, h1, h2]
          refine .reLoop ?_
          simp at hh ⊢
          exact hh
      · rw [if_neg (fun h => h1 (word_iff.1 h).1)]
        simp (disch := omega) [q1, q2, h1]
        refine .reLoop ?_
        simp at hh ⊢
        exact hh
  refine .run 60 c_r04_Find (by simp) ?_
  simp
  refine .inLoop ?_
  have hh := key l.length 0 (by omega)
  simp at hh ⊢
  exact hh

theorem p_w04_Of (l : List Tk) {k : Nat} (hk : Kd 3 k l) (hl : l.length < 2 ^ 32) : PureCon Tryd.prog Γ n_w04_Of [.list false k (l.map fun t => eTk t)] (.own 3 t_r03_Token (l.map fun t => eTk t)) := by
  have key : ∀ n i : Nat, i + n = l.length → ∀ w, w = l.take i → Fins Tryd.prog Γ (w04_Of_L1 (.list false k (l.map fun t => eTk t)) (.sl 1 0 w.length) (.int .i64 i) [.row 3 t_r03_Token [] none true false, .row 3 t_r03_Token (w.map fun t => eTk t) none true false]) (.ret (.own 3 t_r03_Token (l.map fun t => eTk t))) := by
    intro n
    induction n with
    | zero =>
      intro i hi w hw
      have q1 : ¬ i < l.length := by omega
      rw [List.take_of_length_le (by omega)] at hw
      subst hw
      refine .go 60 ?_
      simp [q1]
      exact .back (by simp)
    | succ n ih =>
      intro i hi w hw
      have q1 : i < l.length := by omega
      have q2 := eq_true (hk.of q1)
      have hwl : w.length < 2 ^ 32 := by rw [hw, List.length_take]; omega
      have hh := ih (i + 1) (by omega) (w ++ [l[i]]) (by rw [hw, List.take_succ_eq_append_getElem q1])
      refine .go 60 ?_
      simp (disch := omega) [q1, q2]
      refine .reLoop ?_
      simp
      refine .reset (i := 1) rfl (by simp) (by simp) (by simp) ?_
      simp at hh ⊢
      exact hh
  refine .run 60 c_w04_Of (by simp) ?_
  simp
  refine .inLoop ?_
  have hh := key l.length 0 (by omega) [] rfl
  simp at hh ⊢
  exact hh

abbrev upFd (f : Int) (l : List Tk) (k : Nat) (s : List UInt8) : List Fr := [⟨.run, n_ident_Find, [It.ops [{ dst := some 10, guard := none, op := AO.call (AX.f n_slices_IndexFunc_token_Token_token_Token) [AX.t 8, AX.t 9] }, o 7 (AO.mv (AX.t 10))],
  It.code (((ACode.reg ident_Find_p3).seq (ACode.cond (AX.t 12) ident_Find_p2 ACode.skip)).seq ((ACode.reg ident_Find_p0).seq ACode.ret))],
  [.int .i64 f, .list false k (l.map fun t => eTk t), .str s, .ptr 0 0, U, .ptr 1 0, .int .i64 0, U, .list false k (l.map fun t => eTk t), .fn (.func n_ident_Find_1) [] [.ptr 0 0, .ptr 1 0], U, U, U, U, U, U, U, U], [], .norm, 0⟩]
set_option maxRecDepth 8000 in
theorem p_Find (hΓ : KeptG Γ) (f : Int) (l : List Tk) (s : List UInt8) {k : Nat} (hk : Kd 3 k l) (hl : l.length < 2 ^ 40) (ht : ∀ t ∈ l, t.text.length < 2 ^ 20) : PureCon Tryd.prog Γ n_ident_Find [.int .i64 f, .list false k (l.map fun t => eTk t), .str s] (.int .i64 (findS f s l)) := by
  have key : ∀ n i : Nat, i + n = l.length → Fins Tryd.prog Γ (slices_IndexFunc_token_Token_token_Token_L1 (.list false k (l.map fun t => eTk t)) (.fn (.func n_ident_Find_1) [] [.ptr 0 0, .ptr 1 0]) (.int .i64 l.length) (.int .i64 i)
      [.cells [.int .i64 f], .cells [.str s]] ⟨[], .norm, 2, upFd f l k s⟩) (.ret (.int .i64 (findS f s (l.drop i)))) := by
    intro n
    induction n with
    | zero =>
      intro i hi
      have q1 : ¬ i < l.length := by omega
      rw [List.drop_eq_nil_of_le (by omega), findS]
      refine .go 90 ?_
      simp [q1]
      exact .back (by simp)
    | succ n ih =>
      intro i hi
      have q1 : i < l.length := by omega
      have q2 := eq_true (hk.of q1)
      have hh := ih (i + 1) (by omega)
      have hw := p_Word hΓ f l[i] (ht _ (List.getElem_mem q1))
      rw [List.drop_eq_getElem_cons q1, findS]
      refine .go 60 ?_
      simp (disch := omega) [q1, q2]
      refine .enter 60 c_ident_Find_1 ?_
      simp
      refine .call 90 (by simp) hw ?_
      by_cases h1 : (wordS f l[i]).2 = 0
      · by_cases h2 : (wordS f l[i]).1 = s
        · rw [if_pos (word_iff.2 ⟨h1, h2⟩)]
          simp (disch := omega) [q1, q2, h1, h2]
          exact .back (by simp)
        · rw [if_neg (fun h => h2 (word_iff.1 h).2)]
          simp (disch := omega) [q1, q2, h1, h2]
          refine .reLoop ?_
          simp
          refine .drop 2 rfl (by simp) (by simp) (by simp) ?_
          simp at hh ⊢
          exact hh
      · rw [if_neg (fun h => h1 (word_iff.1 h).1)]
        simp (disch := omega) [q1, q2, h1]
        refine .reLoop ?_
        simp
        refine .drop 2 rfl (by simp) (by simp) (by simp) ?_
        simp at hh ⊢
        exact hh
  refine .run 60 c_ident_Find (by simp) ?_
  simp
  refine .enter 60 c_slices_IndexFunc_token_Token_token_Token ?_
  simp
  refine .inLoop ?_
  have hh := key l.length 0 (by omega)
  simp at hh ⊢
  exact hh

/-! ### Tokens' texts are no longer than the text -/
theorem sub_len (s : List UInt8) (i n : Nat) : (Tok.sub s i n).length ≤ s.length := by unfold Tok.sub; rw [List.length_take, List.length_drop]; omega
theorem rdBlif_text {s : List UInt8} {i : Nat} {c : UInt8} {t : Tok.Tok} {k : Nat} (h : Tok.rdBlif s i c = some (t, k)) : t.text.length ≤ s.length + 1 := by
  unfold Tok.rdBlif Tok.oneOf at h
  (repeat' split at h) <;> first
    | (cases h; done)
    | (simp only [Option.some.injEq, Prod.mk.injEq] at h; obtain ⟨rfl, _⟩ := h; first | (simp [Tok.noTok]; done) | (have := sub_len s; simp only; omega) | (exact Nat.le_succ_of_le (sub_len s _ _)))
theorem allS_text {rd : Nat → UInt8 → Option (Tok.Tok × Nat)} {s : List UInt8} {B : Nat} (h : ∀ i c t k, rd i c = some (t, k) → t.text.length ≤ B) : ∀ (n i : Nat) (acc l : List Tok.Tok), Tok.allS rd s n i acc = .ok l → (∀ t ∈ acc, t.text.length ≤ B) → ∀ t ∈ l, t.text.length ≤ B
  | 0, i, acc, l, hl, ha => by simp only [Tok.allS, Except.ok.injEq] at hl; subst hl; exact ha
  | n + 1, i, acc, l, hl, ha => by
    rw [Tok.allS] at hl
    split at hl
    · split at hl
      · cases hl
      · rename_i t k hr
        refine allS_text h n _ _ l hl ?_
        split
        · intro u hu
          rcases List.mem_append.1 hu with hu | hu
          · exact ha u hu
          · simp only [List.mem_singleton] at hu; subst hu; exact h _ _ _ _ hr
        · exact ha
    · simp only [Except.ok.injEq] at hl; subst hl; exact ha
theorem squeeze_mem {t : Tok.Tok} : ∀ (p : Bool) (l : List Tok.Tok), t ∈ Tok.squeeze p l → t ∈ l
  | _, [], h => by simp [Tok.squeeze] at h
  | p, u :: r, h => by
    rw [Tok.squeeze] at h
    split at h
    · exact List.mem_cons_of_mem _ (squeeze_mem _ r h)
    · rcases List.mem_cons.1 h with rfl | h
      · exact List.mem_cons_self ..
      · exact List.mem_cons_of_mem _ (squeeze_mem _ r h)
theorem squeeze_len : ∀ (p : Bool) (l : List Tok.Tok), (Tok.squeeze p l).length ≤ l.length
  | _, [] => by simp [Tok.squeeze]
  | p, u :: r => by
    rw [Tok.squeeze]
    have := squeeze_len (Tok.isEnd u) r
    split <;> simp <;> omega
theorem blifS_text (s : List UInt8) : (∀ t ∈ Tok.blifS s, t.text.length ≤ s.length + 1) ∧ (Tok.blifS s).length ≤ s.length + 1 := by
  obtain ⟨l, hl⟩ := Tok.allS_ok (fun i hi => Tok.rdBlif_some (s := s) hi) s.length 0 []
  have hw : Tok.blifS s = Tok.squeeze true (l ++ [⟨3, [], s.length⟩]) := by simp [Tok.blifS, Tok.words, hl]
  have hlen := Tok.allS_len hl
  rw [hw]
  refine ⟨fun t ht => ?_, ?_⟩
  · rcases List.mem_append.1 (squeeze_mem _ _ ht) with h | h
    · exact allS_text (fun i c t k h => rdBlif_text h) _ _ _ _ hl (by simp) t h
    · simp only [List.mem_singleton] at h; subst h; simp
  · have := squeeze_len true (l ++ [⟨3, [], s.length⟩])
    simp at this hlen
    omega
end Go.Proofs.YtenpljbbboibiaaDoor
/- The law: IdentFinds. -/
namespace Go.Proofs.YtenpljbbboibiaaDoor
open Go.AM Go.Proofs
variable {Γ : Nat → Option AV}
set_option linter.unusedSimpArgs false
set_option linter.unusedVariables false

def blifK (s : List UInt8) : List Tk := (Tok.blifS s).map fun t => ⟨t.kind, t.text, t.pos⟩
theorem blifK_av (s : List UInt8) : (Tok.blifS s).map Tok.eTok = (blifK s).map fun t => eTk t := by simp [blifK, Function.comp_def]
theorem blifK_text (s : List UInt8) : (∀ t ∈ blifK s, t.text.length ≤ s.length + 1) ∧ (blifK s).length ≤ s.length + 1 := by
  obtain ⟨h1, h2⟩ := blifS_text s
  refine ⟨fun t ht => ?_, by simp [blifK]; exact h2⟩
  obtain ⟨u, hu, rfl⟩ := List.mem_map.1 ht
  exact h1 u hu

set_option maxRecDepth 8000 in
theorem l_IdentFinds (hΓ : KeptG Γ) (f : Int) (l : List Tk) {k : Nat} (hk : Kd 3 k l) (s text : List UInt8) : PureCon Tryd.prog Γ n_w04_IdentFinds [.int .i64 f, .list false k (l.map fun t => eTk t), .str s, .str text] (.bool true) := by
  refine .run 60 c_w04_IdentFinds (by simp) ?_
  simp
  refine .call 60 (by simp) (p_w04_works hΓ) ?_
  by_cases h1 : 30 < l.length
  · have q1 : ((30 : Int) < l.length) = True := eq_true (by omega)
    simp [q1]; exact .back (by simp)
  have q1 : ((30 : Int) < l.length) = False := eq_false (by omega)
  by_cases h2 : 120 < s.length
  · have q2 : ((120 : Int) < s.length) = True := eq_true (by omega)
    simp [q1, q2]; exact .back (by simp)
  have q2 : ((120 : Int) < s.length) = False := eq_false (by omega)
  by_cases h3 : 300 < text.length
  · have q3 : ((300 : Int) < text.length) = True := eq_true (by omega)
    simp [q1, q2, q3]; exact .back (by simp)
  have q3 : ((300 : Int) < text.length) = False := eq_false (by omega)
  have hB := Tok.p_token_Blif (Γ := Γ) text (by omega)
  obtain ⟨b1, b2⟩ := blifK_text text
  rw [blifK_av] at hB
  generalize blifK text = m at *
  have key : ∀ n i : Nat, i + n = l.length → (∀ j (h : j < l.length), j < i → l[j].text.length ≤ 120) → Fins Tryd.prog Γ (w04_IdentFinds_L4 (.int .i64 f) (.list false k (l.map fun t => eTk t)) (.str s) (.str text) (.bool true) (.int .i64 i) []) (.ret (.bool true)) := by
    intro n
    induction n with
    | zero =>
      intro i hi hsh
      have p1 : ¬ i < l.length := by omega
      have ht : ∀ t ∈ l, t.text.length < 2 ^ 20 := by
        intro t ht
        obtain ⟨j, hj, rfl⟩ := List.getElem_of_mem ht
        have := hsh j hj (by omega)
        omega
      have ht2 : ∀ t ∈ m, t.text.length < 2 ^ 20 := fun t h => by have := b1 t h; omega
      have c1 := p_w04_Of (Γ := Γ) l hk (by omega)
      have c2 := p_r04_Find (Γ := Γ) f l s (k := 3) .self (by omega) ht
      have c3 := p_w04_Of (Γ := Γ) m (k := 3) .self (by omega)
      have c4 := p_r04_Find (Γ := Γ) 2 m s (k := 3) .self (by omega) ht2
      have c5 := p_Find hΓ f l s hk (by omega) ht
      have c6 := p_Find hΓ 2 m s (k := 3) .self (by omega) ht2
      refine .go 60 ?_
      simp [p1]
      refine .call 60 (by simp) c1 ?_
      simp
      refine .call 60 (by simp) c2 ?_
      simp
      refine .call 60 (by simp) hB ?_
      simp
      refine .call 60 (by simp) c3 ?_
      simp
      refine .call 60 (by simp) c4 ?_
      simp
      refine .call 60 (by simp) c5 ?_
      simp
      refine .call 60 (by simp) c6 ?_
      simp
      exact .back (by simp)
    | succ n ih =>
      intro i hi hsh
      have p1 : i < l.length := by omega
      have p2 := eq_true (hk.of p1)
      refine .go 60 ?_
      by_cases h4 : 120 < l[i].text.length
      · have q4 : ((120 : Int) < l[i].text.length) = True := eq_true (by omega)
        simp [p1, p2, q4]; exact .back (by simp)
      · have q4 : ((120 : Int) < l[i].text.length) = False := eq_false (by omega)
        have hh := ih (i + 1) (by omega) (fun j hj hji => by
          by_cases e : j = i
          · subst e; omega
          · exact hsh j hj (by omega))
        simp (disch := omega) [p1, p2, q4]
        refine .reLoop ?_
        simp at hh ⊢
        exact hh
  simp [q1, q2, q3]
  refine .inLoop ?_
  have hh := key l.length 0 (by omega) (fun j _ h => by omega)
  simp at hh ⊢
  exact hh
end Go.Proofs.YtenpljbbboibiaaDoor
/- Names: what is spelled is one token. No program in sight. -/
namespace Go.Proofs.YtenpljbbboibiaaDoor
open Go.AM Go.Proofs
set_option linter.unusedSimpArgs false
set_option linter.unusedVariables false

theorem tw_all {p : UInt8 → Bool} : ∀ {l : List UInt8}, (∀ c ∈ l, p c = true) → l.takeWhile p = l
  | [], _ => rfl
  | c :: l, h => by rw [List.takeWhile_cons, h c (List.mem_cons_self ..), if_pos rfl, tw_all (fun x hx => h x (List.mem_cons_of_mem _ hx))]
theorem tw_stop {p : UInt8 → Bool} {d : UInt8} (hd : p d = false) : ∀ {l : List UInt8}, (∀ c ∈ l, p c = true) → (l ++ [d]).takeWhile p = l
  | [], _ => by simp [hd]
  | c :: l, h => by rw [List.cons_append, List.takeWhile_cons, h c (List.mem_cons_self ..), if_pos rfl, tw_stop hd (fun x hx => h x (List.mem_cons_of_mem _ hx))]
theorem allS_end {rd : Nat → UInt8 → Option (Tok.Tok × Nat)} {s : List UInt8} : ∀ {n i : Nat} {acc : List Tok.Tok}, s.length ≤ i → Tok.allS rd s n i acc = .ok acc
  | 0, _, _, _ => rfl
  | n + 1, i, acc, h => by rw [Tok.allS, dif_neg (by omega)]
theorem one_word {rd : Nat → UInt8 → Option (Tok.Tok × Nat)} {s : List UInt8} (h0 : 0 < s.length) (h : rd 0 s[0] = some (⟨0, s, 0⟩, s.length)) : Tok.allS rd s s.length 0 [] = .ok [⟨0, s, 0⟩] := by
  obtain ⟨n, hn⟩ : ∃ n, s.length = n + 1 := ⟨s.length - 1, by omega⟩
  conv => lhs; arg 3; rw [hn]
  rw [Tok.allS, dif_pos h0, h]
  simp only
  rw [allS_end (by omega)]
  rfl
theorem oneOf_all {p : UInt8 → Bool} {s : List UInt8} (h0 : 0 < s.length) (h : ∀ c ∈ s, p c = true) : Tok.oneOf 0 s 0 (Tok.runB p s 0) = some (⟨0, s, 0⟩, s.length) := by
  have e : Tok.runB p s 0 = s.length := by unfold Tok.runB; rw [List.drop_zero, tw_all h]
  unfold Tok.oneOf
  rw [e, if_neg (by omega)]
  simp [Tok.sub]
theorem no_pre {a b c : UInt8} {r : List UInt8} (h : c ≠ a) : Tok.hasPre [a, b] (c :: r) = false := by
  have : (a == c) = false := by simpa using fun e => h e.symm
  simp [Tok.hasPre, List.isPrefixOf, this]

theorem blif_one {s : List UInt8} (h0 : 0 < s.length) (h : ∀ c ∈ s, Tok.blifB c = true) : Tok.blifS s = [⟨0, s, 0⟩, ⟨3, [], s.length⟩] := by
  have hc := h s[0] (List.getElem_mem h0)
  simp only [Tok.blifB, Tok.memB, Bool.not_eq_true', decide_eq_false_iff_not, List.mem_cons, List.not_mem_nil, or_false, not_or] at hc
  obtain ⟨c1, c2, c3, c4, c5, c6⟩ := hc
  have e : Tok.rdBlif s 0 s[0] = some (⟨0, s, 0⟩, s.length) := by
    unfold Tok.rdBlif
    rw [if_neg c5, if_neg, if_neg, if_neg c4, if_neg c6, oneOf_all h0 h]
    · simp [Tok.memB, c1, c2, c3]
    · obtain ⟨c, r, rfl⟩ : ∃ c r, s = c :: r := by cases s with | nil => simp at h0 | cons c r => exact ⟨c, r, rfl⟩
      rw [List.drop_zero, no_pre (c := c) c6]; simp
  have hw : Tok.words Tok.rdBlif s = .ok [⟨0, s, 0⟩] := one_word h0 e
  simp [Tok.blifS, hw, Tok.squeeze, Tok.isEnd]
theorem bench_one {s : List UInt8} (h0 : 0 < s.length) (h : ∀ c ∈ s, Tok.benchB c = true) : Tok.words Tok.rdBench s = .ok [⟨0, s, 0⟩] := by
  have hc := h s[0] (List.getElem_mem h0)
  have e : Tok.rdBench s 0 s[0] = some (⟨0, s, 0⟩, s.length) := by
    have k : ∀ c : UInt8, Tok.benchB c = true → ¬ c = 35 ∧ Tok.memB [32, 9, 13, 10] c = false ∧ Tok.memB [61, 40, 41, 44] c = false := by
      intro c
      have : ∀ n : Fin 256, Tok.benchB (UInt8.ofNat n.val) = true → ¬ UInt8.ofNat n.val = 35 ∧ Tok.memB [32, 9, 13, 10] (UInt8.ofNat n.val) = false ∧ Tok.memB [61, 40, 41, 44] (UInt8.ofNat n.val) = false := by decide +kernel
      have := this ⟨c.toNat, c.toNat_lt⟩
      simpa using this
    obtain ⟨c1, c2, c3⟩ := k _ hc
    unfold Tok.rdBench
    rw [if_neg c1, c2, c3, oneOf_all h0 h]
    rfl
  exact one_word h0 e
theorem ver_one {s : List UInt8} (h0 : 0 < s.length) (h : ∀ c ∈ s, Tok.namedB c = true) : Tok.words Tok.rdVer s = .ok [⟨0, s, 0⟩] := by
  have hc := h s[0] (List.getElem_mem h0)
  have e : Tok.rdVer s 0 s[0] = some (⟨0, s, 0⟩, s.length) := by
    have k : ∀ c : UInt8, Tok.namedB c = true → Tok.memB [32, 9, 13, 10] c = false ∧ c ≠ 47 ∧ Tok.memB [40, 41, 59, 44, 61, 126, 38, 124, 94] c = false ∧ ¬ c = 92 := by
      intro c
      have : ∀ n : Fin 256, Tok.namedB (UInt8.ofNat n.val) = true → Tok.memB [32, 9, 13, 10] (UInt8.ofNat n.val) = false ∧ UInt8.ofNat n.val ≠ 47 ∧ Tok.memB [40, 41, 59, 44, 61, 126, 38, 124, 94] (UInt8.ofNat n.val) = false ∧ ¬ UInt8.ofNat n.val = 92 := by decide +kernel
      have := this ⟨c.toNat, c.toNat_lt⟩
      simpa using this
    obtain ⟨c1, c2, c3, c4⟩ := k _ hc
    have p1 : Tok.hasPre [47, 47] (s.drop 0) = false := by
      obtain ⟨c, r, rfl⟩ : ∃ c r, s = c :: r := by cases s with | nil => simp at h0 | cons c r => exact ⟨c, r, rfl⟩
      rw [List.drop_zero, no_pre (c := c) c2]
    have p2 : Tok.hasPre [47, 42] (s.drop 0) = false := by
      obtain ⟨c, r, rfl⟩ : ∃ c r, s = c :: r := by cases s with | nil => simp at h0 | cons c r => exact ⟨c, r, rfl⟩
      rw [List.drop_zero, no_pre (c := c) c2]
    unfold Tok.rdVer
    rw [c1, p1, p2, c3, if_neg c4, oneOf_all h0 h]
    rfl
  exact one_word h0 e
theorem ver_esc {s : List UInt8} (h0 : 0 < s.length) (h : ∀ c ∈ s, Tok.graphB c = true) : Tok.words Tok.rdVer (92 :: s ++ [32]) = .ok [⟨2, s, 0⟩] := by
  have hl : (92 :: s ++ [32]).length = s.length + 2 := by simp
  have e1 : Tok.runB Tok.graphB (92 :: s ++ [32]) 1 = s.length := by
    unfold Tok.runB
    rw [List.cons_append, List.drop_succ_cons, List.drop_zero, tw_stop (by decide) h]
  have e : Tok.rdVer (92 :: s ++ [32]) 0 92 = some (⟨2, s, 0⟩, s.length + 1) := by
    have p1 : Tok.hasPre [47, 47] ((92 :: s ++ [32]).drop 0) = false := by rw [List.drop_zero, List.cons_append, no_pre (by decide)]
    have p2 : Tok.hasPre [47, 42] ((92 :: s ++ [32]).drop 0) = false := by rw [List.drop_zero, List.cons_append, no_pre (by decide)]
    unfold Tok.rdVer
    rw [p1, p2, e1, if_neg (by decide), if_neg (by simp), if_neg (by simp), if_neg (by decide), if_pos rfl, if_neg (by omega)]
    simp [Tok.sub]
  have e2 : Tok.rdVer (92 :: s ++ [32]) (s.length + 1) 32 = some (Tok.noTok, 1) := by
    unfold Tok.rdVer
    rw [if_pos (by decide)]
  have g : (92 :: s ++ [32])[s.length + 1]'(by simp) = 32 := by simp
  unfold Tok.words
  conv => lhs; arg 3; rw [hl]
  rw [Tok.allS, dif_pos (by simp)]
  simp only [List.cons_append, List.getElem_cons_zero] at e ⊢
  rw [e]
  simp only
  rw [Tok.allS, dif_pos (by simp)]
  have g' : (92 :: (s ++ [32]))[0 + (s.length + 1)]'(by simp) = 32 := by simp
  simp only [Nat.zero_add, List.cons_append] at e2 g' ⊢
  rw [g', e2]
  simp only
  rw [allS_end (by simp)]
  rfl

theorem hexD_mem {n : Nat} (h : n < 16) : hexD n ∈ hexL := by
  have := hexL_get h
  exact List.mem_of_getElem? this
theorem hexS_mem : ∀ {s : List UInt8} {c : UInt8}, c ∈ hexS s → c ∈ hexL
  | d :: s, c, h => by
    have hd := d.toNat_lt
    rw [hexS] at h
    rcases List.mem_cons.1 h with rfl | h
    · exact hexD_mem (by omega)
    · rcases List.mem_cons.1 h with rfl | h
      · exact hexD_mem (by omega)
      · exact hexS_mem h
theorem mark_mem {s : List UInt8} {c : UInt8} (h : c ∈ markL ++ hexS s) : c ∈ markL ++ hexL := by
  rcases List.mem_append.1 h with h | h
  · exact List.mem_append_left _ h
  · exact List.mem_append_right _ (hexS_mem h)
theorem name_graph {s : List UInt8} (h : nameB s = true) : (∀ c ∈ s, oddC c = false) ∧ 0 < s.length := by
  have h2 := (name_ascii h).2.1
  simp only [nameB, Bool.and_eq_true, Bool.not_eq_true'] at h
  exact ⟨fun c hc => anyB_no.1 h.1 c hc, h2⟩
theorem byte_all {p : UInt8 → Bool} (h : (List.range 256).all (fun n => p (UInt8.ofNat n)) = true) (c : UInt8) : p c = true := by
  have := List.all_eq_true.1 h c.toNat (List.mem_range.2 c.toNat_lt)
  simpa using this
theorem spell_form2 {f : Int} {s : List UInt8} (hf : f = 2 ∨ f = 3) (h : nameB s = true) : (spellS f s).2 = 0 ∧ ((spellS f s).1 = markL ++ hexS s ∨ ((spellS f s).1 = s ∧ markB s = false ∧ legalB f s = true)) := by
  have hk : knownB f = true := by rcases hf with rfl | rfl <;> rfl
  refine ⟨spell_yes h hk, ?_⟩
  have h4 : ¬ f = 4 := by omega
  unfold spellS
  simp only [h, hk, h4, hf, Bool.true_eq_false, if_false, true_and]
  cases hm : markB s <;> cases hl : legalB f s <;> simp
theorem blif_spelled {s : List UInt8} (h : nameB s = true) : Tok.blifS (spellS 2 s).1 = [⟨0, (spellS 2 s).1, 0⟩, ⟨3, [], (spellS 2 s).1.length⟩] := by
  obtain ⟨g1, g2⟩ := name_graph h
  rcases (spell_form2 (.inl rfl) h).2 with e | ⟨e, _, hl⟩ <;> rw [e]
  · refine blif_one (by simp) fun c hc => ?_
    have : ∀ c ∈ markL ++ hexL, Tok.blifB c = true := by decide +kernel
    exact this c (mark_mem hc)
  · refine blif_one g2 fun c hc => ?_
    simp only [legalB, Bool.and_eq_true] at hl
    have h3 := hl.2.2
    simp only [if_true, blifB, withB, Bool.and_eq_true, Bool.not_eq_true'] at h3
    have h4 := anyB_no.1 h3.2 c hc
    have h5 := g1 c hc
    have := byte_all (p := fun c => oddC c || decide (c ∈ [35, 92]) || Tok.blifB c) (by decide +kernel) c
    simp only [h4, h5, Bool.false_or] at this
    exact this
theorem bench_spelled {s : List UInt8} (h : nameB s = true) : Tok.words Tok.rdBench (spellS 3 s).1 = .ok [⟨0, (spellS 3 s).1, 0⟩] := by
  obtain ⟨g1, g2⟩ := name_graph h
  rcases (spell_form2 (.inr rfl) h).2 with e | ⟨e, _, hl⟩ <;> rw [e]
  · refine bench_one (by simp) fun c hc => ?_
    have : ∀ c ∈ markL ++ hexL, Tok.benchB c = true := by decide +kernel
    exact this c (mark_mem hc)
  · refine bench_one g2 fun c hc => ?_
    simp only [legalB, Bool.and_eq_true] at hl
    have h3 := hl.2.2
    rw [if_neg (by decide), if_pos trivial] at h3
    simp only [benchB, withB, Bool.not_eq_true'] at h3
    have h4 := anyB_no.1 h3 c hc
    have h5 := g1 c hc
    have := byte_all (p := fun c => oddC c || decide (c ∈ [61, 40, 41, 44, 35]) || Tok.benchB c) (by decide +kernel) c
    simp only [h4, h5, Bool.false_or] at this
    exact this
theorem verBad_all : ∀ {s : List UInt8} {i : Nat}, verBad s i = false → ∀ c ∈ s, (letterC c || (digC c || decide (c = 36))) = true
  | d :: s, i, h, c, hc => by
    rw [verBad, Bool.or_eq_false_iff] at h
    rcases List.mem_cons.1 hc with rfl | hc
    · have h1 := h.1
      simp only [verOdd, Bool.not_eq_false'] at h1
      cases hl : letterC c with
      | true => rfl
      | false =>
        rw [hl] at h1
        simp only [Bool.false_or, Bool.and_eq_true] at h1 ⊢
        exact h1.2
    · exact verBad_all h.2 c hc
theorem ver_spelled {s : List UInt8} (h : nameB s = true) : ∃ t : Tok.Tok, Tok.words Tok.rdVer (spellS 4 s).1 = .ok [t] ∧ wordS 4 ⟨t.kind, t.text, t.pos⟩ = (s, 0) := by
  obtain ⟨g1, g2⟩ := name_graph h
  have hr : readS 4 s = (s, 0) := by unfold readS; rw [if_neg (by decide), if_neg (by decide), if_pos h]
  have e : (spellS 4 s).1 = if legalB 4 s = true then s else 92 :: s ++ [32] := by
    unfold spellS
    rw [if_neg (by simp [h]), if_neg (by decide), if_pos rfl]
    split <;> rfl
  rw [e]
  by_cases hl : legalB 4 s = true
  · rw [if_pos hl]
    refine ⟨⟨0, s, 0⟩, ver_one g2 fun c hc => ?_, ?_⟩
    · have hl2 := hl
      simp only [legalB, Bool.and_eq_true] at hl2
      have h3 := hl2.2.2
      rw [if_neg (by decide), if_neg (by decide), if_pos trivial] at h3
      simp only [verilogB, Bool.and_eq_true, Bool.not_eq_true'] at h3
      have h4 := verBad_all h3.1 c hc
      have := byte_all (p := fun c => !(letterC c || (digC c || decide (c = 36))) || Tok.namedB c) (by decide +kernel) c
      simp only [h4, Bool.not_true, Bool.false_or] at this
      exact this
    · unfold wordS
      rw [if_neg (by simp), if_neg (by simp), if_neg (by simp [hl])]
      exact hr
  · rw [if_neg hl]
    refine ⟨⟨2, s, 0⟩, ver_esc g2 fun c hc => ?_, ?_⟩
    · have h5 := g1 c hc
      have := byte_all (p := fun c => oddC c || Tok.graphB c) (by decide +kernel) c
      simp only [h5, Bool.false_or] at this
      exact this
    · unfold wordS
      rw [if_pos ⟨rfl, rfl⟩]
      exact hr
theorem read_spelled {f : Int} {s : List UInt8} (hf : f = 2 ∨ f = 3) (h : nameB s = true) : wordS f ⟨0, (spellS f s).1, 0⟩ = (s, 0) := by
  have hk : knownB f = true := by rcases hf with rfl | rfl <;> rfl
  have h4 : ¬ f = 4 := by omega
  have e : wordS f ⟨0, (spellS f s).1, 0⟩ = readS f (spellS f s).1 := by
    unfold wordS
    rw [if_neg (by simp), if_neg (by simp), if_neg (by simp [h4])]
  rw [e]
  obtain ⟨s2, s1⟩ := spell_form2 hf h
  unfold readS
  rw [if_neg (by simp [hk]), if_pos hf]
  rcases s1 with e1 | ⟨e1, hm, hl⟩
  · have : backS f (spellS f s).1 = some s := by rw [e1]; exact (back_spec hf).2 ⟨rfl, Prod.ext e1 s2⟩
    rw [this]
  · rw [e1]
    have : backS f s = none := by
      cases hb : backS f s with
      | none => rfl
      | some n =>
        have h1 := ((back_spec hf).1 hb).1
        rw [h1, (mark_trim _).2] at hm
        simp at hm
    rw [this]
    simp only [hl, if_true]
end Go.Proofs.YtenpljbbboibiaaDoor
/- The law: IdentBack. -/
namespace Go.Proofs.YtenpljbbboibiaaDoor
open Go.AM Go.Proofs
variable {Γ : Nat → Option AV}
set_option linter.unusedSimpArgs false
set_option linter.unusedVariables false

theorem spell01 {f : Int} {s : List UInt8} (hf : f = 0 ∨ f = 1) (h : nameB s = true) : spellS f s = (s, 0) ∧ readS f s = (s, 0) := by
  rcases hf with rfl | rfl
  · constructor
    · unfold spellS; rw [if_neg (by simp [h]), if_neg (by decide), if_neg (by decide), if_neg (by simp)]
    · unfold readS; rw [if_neg (by decide), if_neg (by decide), if_pos h]
  · constructor
    · unfold spellS; rw [if_neg (by simp [h]), if_neg (by decide), if_neg (by decide), if_neg (by simp)]
    · unfold readS; rw [if_neg (by decide), if_neg (by decide), if_pos h]

set_option maxRecDepth 8000 in
theorem l_IdentBack (hΓ : KeptG Γ) (hM : Tok.ΓM Γ) (s : List UInt8) : PureCon Tryd.prog Γ n_w04_IdentBack [.str s] (.bool true) := by
  refine .run 60 c_w04_IdentBack (by simp) ?_
  simp
  refine .call 60 (by simp) (p_w04_works hΓ) ?_
  simp
  refine .call 60 (by simp) (p_Name s) ?_
  cases hn : nameB s with
  | false => simp; exact .back (by simp)
  | true =>
    obtain ⟨_, _, hl⟩ := name_ascii hn
    have s0 := p_Spell hΓ 0 s
    have s1 := p_Spell hΓ 1 s
    have s2 := p_Spell hΓ 2 s
    have s3 := p_Spell hΓ 3 s
    have s4 := p_Spell hΓ 4 s
    have r0 := p_Read hΓ 0 s (by omega)
    have r1 := p_Read hΓ 1 s (by omega)
    obtain ⟨e0, f0⟩ := spell01 (.inl rfl) hn
    obtain ⟨e1, f1⟩ := spell01 (.inr rfl) hn
    have e2 := spell_yes (f := 2) hn rfl
    have e3 := spell_yes (f := 3) hn rfl
    have e4 := spell_yes (f := 4) hn rfl
    have l2 := spell_len e2
    have l3 := spell_len e3
    have l4 := spell_len e4
    have b2 := blif_spelled hn
    have b3 := bench_spelled hn
    obtain ⟨t, b4, w4⟩ := ver_spelled hn
    have w2 := read_spelled (.inl rfl) hn
    have w3 := read_spelled (.inr rfl) hn
    have t2 := Tok.p_token_Blif (Γ := Γ) (spellS 2 s).1 (by omega)
    have t3 := Tok.p_token_Bench (Γ := Γ) (spellS 3 s).1 (by omega)
    have t4 := Tok.p_token_Verilog hM (spellS 4 s).1 (by omega)
    rw [b2] at t2
    rw [b3] at t3
    rw [b4] at t4
    have c2 := p_Word hΓ 2 ⟨0, (spellS 2 s).1, 0⟩ (by simp; omega)
    have c3 := p_Word hΓ 3 ⟨0, (spellS 3 s).1, 0⟩ (by simp; omega)
    have ht : t.text.length < 2 ^ 20 := by
      have h1 : ∀ i c t k, Tok.rdVer (spellS 4 s).1 i c = some (t, k) → t.text.length ≤ (spellS 4 s).1.length := by
        intro i c t k h
        unfold Tok.rdVer Tok.oneOf at h
        (repeat' split at h) <;> first
          | (cases h; done)
          | (simp only [Option.some.injEq, Prod.mk.injEq] at h; obtain ⟨rfl, _⟩ := h; first | (simp [Tok.noTok]; done) | (exact sub_len _ _ _))
      have := allS_text h1 _ _ _ _ b4 (by simp) t (by simp)
      omega
    have c4 := p_Word hΓ 4 ⟨t.kind, t.text, t.pos⟩ ht
    rw [w2] at c2
    rw [w3] at c3
    rw [w4] at c4
    rw [e0] at s0
    rw [e1] at s1
    rw [f0] at r0
    rw [f1] at r1
    rw [e2] at s2
    rw [e3] at s3
    rw [e4] at s4
    generalize (spellS 2 s).1 = x2 at *
    generalize (spellS 3 s).1 = x3 at *
    generalize (spellS 4 s).1 = x4 at *
    simp
    refine .inLoop ?_
    refine .go 60 ?_
    simp
    refine .call 60 (by simp) s0 ?_
    simp
    refine .call 60 (by simp) r0 ?_
    simp
    refine .reLoop ?_
    refine .go 60 ?_
    simp
    refine .call 60 (by simp) s1 ?_
    simp
    refine .call 60 (by simp) r1 ?_
    simp
    refine .reLoop ?_
    refine .go 60 ?_
    simp
    refine .call 60 (by simp) s2 ?_
    simp
    refine .call 60 (by simp) s3 ?_
    simp
    refine .call 60 (by simp) s4 ?_
    simp
    refine .call 60 (by simp) t2 ?_
    simp
    refine .call 60 (by simp) t3 ?_
    simp
    refine .call 60 (by simp) t4 ?_
    simp
    refine .call 60 (by simp) c2 ?_
    simp
    refine .call 60 (by simp) c3 ?_
    simp
    refine .call 60 (by simp) c4 ?_
    simp
    exact .back (by simp)
end Go.Proofs.YtenpljbbboibiaaDoor
