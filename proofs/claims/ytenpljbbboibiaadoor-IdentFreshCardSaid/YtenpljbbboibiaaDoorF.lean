/- A list's elements' size. -/
import Derived.Test.YtenpljbbboibiaaDoorAMd
import Derived.Test.YtenpljbbboibiaaDoorCode
import Derived.Laws.RangeString
import Derived.Laws.RangeAny
import Derived.Test.YtenpljbbboibiaaDoorShelf
set_option linter.unusedSimpArgs false
set_option linter.unusedVariables false
namespace Go.Proofs.YtenpljbbboibiaaDoor
open Go.AM Go.Proofs
/-- A list may have its elements' size, or any if it is empty. -/
def Kd (n k : Nat) {α : Type} (l : List α) : Prop := k = n ∨ l = []
theorem Kd.of {n k : Nat} {α : Type} {l : List α} (h : Kd n k l) {i : Nat} (hi : i < l.length) : k = n := by
  rcases h with h | h
  · exact h
  · subst h; simp at hi
theorem Kd.self {n : Nat} {α : Type} {l : List α} : Kd n n l := .inl rfl
theorem Kd.nil {n k : Nat} {α : Type} : Kd n k ([] : List α) := .inr rfl
@[simp] abbrev i64 (n : Int) : AV := .int .i64 n
end Go.Proofs.YtenpljbbboibiaaDoor
/- Names: contracts. -/
namespace Go.Proofs.YtenpljbbboibiaaDoor
open Go.AM Go.Proofs
variable {Γ : Nat → Option AV}
set_option linter.unusedSimpArgs false
set_option linter.unusedVariables false

/-- A byte that is in no name. -/
def oddC (c : UInt8) : Bool := decide (c < 33) || decide (126 < c)
def nameB (s : List UInt8) : Bool := !anyB oddC s && (decide (1 ≤ s.length) && decide (s.length ≤ 40))
def fOdd : List UInt8 → Nat → Int
  | [], _ => -1
  | c :: s, i => if oddC c = true then (i : Int) else fOdd s (i + 1)
theorem fOdd_any : ∀ (s : List UInt8) (i : Nat), decide (fOdd s i < 0) = !anyB oddC s
  | [], i => by simp [fOdd, anyB_nil]
  | c :: s, i => by
    rw [fOdd, anyB_cons]
    cases h : oddC c with
    | true => simp
    | false => simpa using fOdd_any s (i + 1)

theorem p_plain_1 (r : Int) : PureCon Tryd.prog Γ n_ident_name_plain_1 [.int .i32 r] (.bool (decide (r ≤ 32) || decide (126 < r))) := by
  refine .run 60 c_ident_name_plain_1 (by simp) ?_
  by_cases h : r ≤ 32 <;> simp [h] <;> exact .back (by simp [h])

theorem decode_ascii' {s : List UInt8} {i : Nat} (h : i < s.length) (ha : s[i].toNat < 128) : Utf8.decode ⟨s.toArray⟩ i = (s[i].toNat, 1) := by
  exact decode_ascii ⟨s.toArray⟩ i (show i < s.toArray.size by simpa using h) ha
theorem decode_high' {s : List UInt8} {i : Nat} (h : i < s.length) (ha : 128 ≤ s[i].toNat) : 128 ≤ (Utf8.decode ⟨s.toArray⟩ i).1 := by
  exact (decode_high ⟨s.toArray⟩ i (show i < s.toArray.size by simpa using h) ha).1

set_option maxRecDepth 8000 in
theorem p_indexFunc (s : List UInt8) (hs : s.length < 2 ^ 40) : PureCon Tryd.prog Γ n_strings_indexFunc [.str s, .fn (.func n_ident_name_plain_1) [] [], .bool true] (.int .i64 (fOdd s 0)) := by
  have key : ∀ n i : Nat, i + n = s.length → Fins Tryd.prog Γ (strings_indexFunc_L1 (.fn (.func n_ident_name_plain_1) [] []) (.bool true) (.it 0) [.siter s i]) (.ret (.int .i64 (fOdd (s.drop i) i))) := by
    intro n
    induction n with
    | zero =>
      intro i hi
      rw [List.drop_eq_nil_of_le (by omega), fOdd]
      have q1 : ¬ i < s.length := by omega
      refine .go 60 ?_
      simp [q1]
      exact .back (by simp)
    | succ n ih =>
      intro i hi
      have q1 : i < s.length := by omega
      rw [List.drop_eq_getElem_cons q1, fOdd]
      have hh := ih (i + 1) (by omega)
      by_cases ha : s[i].toNat < 128
      · have hd := decode_ascii' q1 ha
        have e : (decide ((s[i].toNat : Int) ≤ 32) || decide (126 < (s[i].toNat : Int))) = oddC s[i] := by
          unfold oddC
          simp only [UInt8.lt_iff_toNat_lt, show (33 : UInt8).toNat = 33 from rfl, show (126 : UInt8).toNat = 126 from rfl]
          congr 1 <;> exact decide_eq_decide.2 (by omega)
        have hc := p_plain_1 (Γ := Γ) (s[i].toNat : Int)
        rw [e] at hc
        refine .go 60 ?_
        simp [q1, hd]
        refine .call 60 (by simp) hc ?_
        cases ho : oddC s[i] with
        | true => simp; exact .back (by simp)
        | false =>
          simp
          refine .reLoop ?_
          simp at hh ⊢
          exact hh
      · have hd := decode_high' q1 (by omega)
        have ho : oddC s[i] = true := by unfold oddC; simp only [UInt8.lt_iff_toNat_lt, show (33 : UInt8).toNat = 33 from rfl, show (126 : UInt8).toNat = 126 from rfl, Bool.or_eq_true, decide_eq_true_eq]; omega
        rw [ho]
        have hc := p_plain_1 (Γ := Γ) ((Utf8.decode ⟨s.toArray⟩ i).1 : Int)
        have e : (decide (((Utf8.decode ⟨s.toArray⟩ i).1 : Int) ≤ 32) || decide (126 < ((Utf8.decode ⟨s.toArray⟩ i).1 : Int))) = true := by
          simp only [Bool.or_eq_true, decide_eq_true_eq]; right; omega
        rw [e] at hc
        refine .go 60 ?_
        simp [q1]
        refine .call 60 (by simp) hc ?_
        simp
        exact .back (by simp)
  refine .run 60 c_strings_indexFunc (by simp) ?_
  simp
  refine .inLoop ?_
  have hh := key s.length 0 (by omega)
  simp at hh ⊢
  exact hh
theorem p_IndexFunc (s : List UInt8) (hs : s.length < 2 ^ 40) : PureCon Tryd.prog Γ n_strings_IndexFunc [.str s, .fn (.func n_ident_name_plain_1) [] []] (.int .i64 (fOdd s 0)) := by
  refine .run 60 c_strings_IndexFunc (by simp) ?_
  simp
  refine .call 60 (by simp) (p_indexFunc s hs) ?_
  simp
  exact .back (by simp)

theorem p_plain (s : List UInt8) : PureCon Tryd.prog Γ n_ident_name_plain [.str s] (.bool (nameB s)) := by
  refine .run 60 c_ident_name_plain (by simp) ?_
  unfold nameB
  by_cases h0 : s = []
  · subst h0
    simp
    exact .back (by simp)
  · have h1 : 1 ≤ s.length := List.length_pos_iff.2 h0
    have h0' : ¬ s = [] := h0
    by_cases h2 : s.length ≤ 40
    · have h2' : (s.length : Int) ≤ 40 := by omega
      simp [h0, h2, h2']
      refine .call 60 (by simp) (p_IndexFunc s (by omega)) ?_
      have e := fOdd_any s 0
      simp [e]
      exact .back (by simp [h0, h1, h2])
    · have h2' : ¬ (s.length : Int) ≤ 40 := by omega
      simp [h0, h2, h2']
      exact .back (by simp [h2])
theorem p_Name (s : List UInt8) : PureCon Tryd.prog Γ n_ident_Name [.str s] (.bool (nameB s)) := by
  refine .run 60 c_ident_Name (by simp) ?_
  simp
  refine .call 60 (by simp) (p_plain s) ?_
  simp
  exact .back (by simp)

end Go.Proofs.YtenpljbbboibiaaDoor
/- Names: the reference's contracts. -/
namespace Go.Proofs.YtenpljbbboibiaaDoor
open Go.AM Go.Proofs
variable {Γ : Nat → Option AV}
set_option linter.unusedSimpArgs false
set_option linter.unusedVariables false

theorem p_r04_Name (s : List UInt8) (hs : s.length < 2 ^ 60) : PureCon Tryd.prog Γ n_r04_Name [.str s] (.bool (nameB s)) := by
  have key : ∀ n i : Nat, i + n = s.length → Fins Tryd.prog Γ (r04_Name_L1 (.str s) (.int .i64 i) []) (.ret (.bool (!anyB oddC (s.drop i) && (decide (1 ≤ s.length) && decide (s.length ≤ 40))))) := by
    intro n
    induction n with
    | zero =>
      intro i hi
      rw [List.drop_eq_nil_of_le (by omega), anyB_nil]
      have q1 : ¬ i < s.length := by omega
      refine .go 60 ?_
      by_cases h2 : 1 ≤ s.length
      · have h3 : ((s.length : Int) ≤ 40) = (s.length ≤ 40) := propext (by omega)
        have h4 : ((1 : Int) ≤ s.length) = True := eq_true (by omega)
        simp [q1, h2, h3, h4]
        exact .back (by simp [h2])
      · have h4 : ((1 : Int) ≤ s.length) = False := eq_false (by omega)
        simp [q1, h2, h4]
        exact .back (by simp [h2])
    | succ n ih =>
      intro i hi
      have q1 : i < s.length := by omega
      have hh := ih (i + 1) (by omega)
      rw [List.drop_eq_getElem_cons q1, anyB_cons]
      refine .go 60 ?_
      by_cases h1 : s[i] < 33
      · have ho : oddC s[i] = true := by simp [oddC, h1]
        simp [q1, h1, ho]
        exact .back (by simp)
      · by_cases h2 : 126 < s[i]
        · have ho : oddC s[i] = true := by simp [oddC, h2]
          simp [q1, h1, h2, ho]
          exact .back (by simp)
        · have ho : oddC s[i] = false := by simp [oddC, h1, h2]
          simp (disch := omega) [q1, h1, h2, ho]
          refine .reLoop ?_
          simp at hh ⊢
          exact hh
  refine .run 60 c_r04_Name (by simp) ?_
  simp
  refine .inLoop ?_
  have hh := key s.length 0 (by omega)
  unfold nameB
  simp at hh ⊢
  exact hh
end Go.Proofs.YtenpljbbboibiaaDoor
/- Names: what is legal; the library's functions; spelling in digits. -/
namespace Go.Proofs.YtenpljbbboibiaaDoor
open Go.AM Go.Proofs
variable {Γ : Nat → Option AV}
set_option linter.unusedSimpArgs false
set_option linter.unusedVariables false

theorem p_HasPrefix (s p : List UInt8) : PureCon Tryd.prog Γ n_strings_HasPrefix [.str s, .str p] (.bool (p.isPrefixOf s)) := by
  refine PureCon.lib (by simp) (fun _ => rfl) rfl fun N g h w us _ hV => ?_
  obtain ⟨us, rfl, h1⟩ := VL_str hV
  obtain ⟨us, rfl, h2⟩ := VL_str h1
  obtain rfl := VL_nil' h2
  refine (Tryd.strings_HasPrefix _ _ w).mono ?_
  rintro e w' ⟨rfl, rfl⟩
  exact ⟨⟨_, rfl, fun _ _ => by simp [V, Lib.hasPrefix]⟩, rfl⟩
theorem p_CutPrefix (s p : List UInt8) : PureCon Tryd.prog Γ n_strings_CutPrefix [.str s, .str p] (.tup [.str (Lib.trimPrefix s p), .bool (p.isPrefixOf s)]) := by
  refine PureCon.lib (by simp) (fun _ => rfl) rfl fun N g h w us _ hV => ?_
  obtain ⟨us, rfl, h1⟩ := VL_str hV
  obtain ⟨us, rfl, h2⟩ := VL_str h1
  obtain rfl := VL_nil' h2
  refine (Tryd.strings_CutPrefix _ _ w).mono ?_
  rintro e w' ⟨rfl, rfl⟩
  exact ⟨⟨_, rfl, fun _ _ => by simp [V, VL, Lib.hasPrefix]⟩, rfl⟩
theorem p_IndexByte (s : List UInt8) (c : UInt8) : PureCon Tryd.prog Γ n_strings_IndexByte [.str s, byteA c] (.int .i64 (Lib.indexByte s c)) := by
  refine PureCon.lib (by simp) (fun _ => rfl) rfl fun N g h w us _ hV => ?_
  obtain ⟨us, rfl, h1⟩ := VL_str hV
  obtain ⟨us, rfl, h2⟩ := VL_int h1
  obtain rfl := VL_nil' h2
  refine (Tryd.strings_IndexByte _ _ w).mono ?_
  rintro e w' ⟨rfl, rfl⟩
  exact ⟨⟨_, rfl, fun _ _ => by simp [V]⟩, rfl⟩
theorem p_Itoa (k : Nat) (hk : k < 100) : PureCon Tryd.prog Γ n_strconv_Itoa [.int .i64 k] (.str (Lib.decDigits k)) := by
  refine PureCon.lib (by simp) (fun _ => rfl) rfl fun N g h w us _ hV => ?_
  obtain ⟨us, rfl, h2⟩ := VL_int hV
  obtain rfl := VL_nil' h2
  refine (Tryd.strconv_Itoa_small k hk w).mono ?_
  rintro e w' ⟨rfl, rfl⟩
  exact ⟨⟨_, rfl, fun _ _ => by simp [V]⟩, rfl⟩
theorem p_ContainsAny (s chars : List UInt8) (hs : s.length < 2 ^ 30) (hc : chars.length < 2 ^ 30) (has : ∀ c ∈ s, c.toNat < 128) (hac : ∀ c ∈ chars, c.toNat < 128) :
    PureCon Tryd.prog Γ n_strings_ContainsAny [.str s, .str chars] (.bool (anyB (fun c => decide (c ∈ chars)) s)) := by
  have e : ∀ l : List UInt8, decide (0 ≤ Lib.indexAny l chars) = anyB (fun c => decide (c ∈ chars)) l := by
    intro l
    induction l with
    | nil => simp [Lib.indexAny, anyB_nil]
    | cons b l ih =>
      rw [anyB_cons, Lib.indexAny]
      have hge := Lib.indexAny_ge chars l
      by_cases hb : b ∈ chars
      · simp [hb]
      · have hb' : chars.contains b = false := by simpa using hb
        rw [hb']
        simp only [hb, Bool.false_eq_true, if_false, decide_false, Bool.false_or, ← ih]
        by_cases h1 : Lib.indexAny l chars = -1
        · simp [h1]
        · rw [if_neg (by simpa using h1)]
          exact decide_eq_decide.2 (by omega)
  refine PureCon.libB (by simp) (fun _ => rfl) rfl fun N g h w us _ hV => ?_
  obtain ⟨us, rfl, h1⟩ := VL_str hV
  obtain ⟨us, rfl, h2⟩ := VL_str h1
  obtain rfl := VL_nil' h2
  refine (Tryd.strings_ContainsAny_laid ⟨s.toArray⟩ ⟨chars.toArray⟩ w (by simp [ByteArray.size]; omega) (by simp [ByteArray.size]; omega) (fun j b hj => has b (List.mem_of_getElem? hj)) (fun j b hj => hac b (List.mem_of_getElem? hj))).mono ?_
  rintro e' w' ⟨rfl, hB⟩
  exact ⟨⟨_, rfl, fun _ _ => by simp only [V, Lib.containsAny, Value.bool.injEq]; exact e s⟩, hB⟩

def keptL : List (List UInt8) := [[109, 111, 100, 117, 108, 101], [101, 110, 100, 109, 111, 100, 117, 108, 101], [105, 110, 112, 117, 116], [111, 117, 116, 112, 117, 116], [119, 105, 114, 101], [97, 115, 115, 105, 103, 110], [98, 117, 102], [110, 111, 116], [97, 110, 100], [110, 97, 110, 100], [111, 114], [110, 111, 114], [120, 111, 114], [120, 110, 111, 114], [100, 102, 102, 48], [100, 102, 102, 49], [100, 102, 102, 120]]
def keptB (s : List UInt8) : Bool := keptL.contains s
/-- The words that are kept, as they are laid. -/
def KeptG (Γ : Nat → Option AV) : Prop := ∃ ks vs, Γ 0 = some (.kmp ks vs) ∧ ∀ s, findIn (.sc .str) (.str s) (ks.zip vs) = some (if keptB s = true then some (.bool true) else none)

def letterC (c : UInt8) : Bool := (decide (97 ≤ c) && decide (c ≤ 122)) || ((decide (65 ≤ c) && decide (c ≤ 90)) || decide (c = 95))
def digC (c : UInt8) : Bool := decide (48 ≤ c) && decide (c ≤ 57)
def verOdd (i : Nat) (c : UInt8) : Bool := !(letterC c || (decide (0 < i) && (digC c || decide (c = 36))))
def verBad : List UInt8 → Nat → Bool
  | [], _ => false
  | c :: s, i => verOdd i c || verBad s (i + 1)

theorem cls_ver (c : UInt8) : c = 36 ∨ c = 95 ∨ (97 ≤ c ∧ c ≤ 122) ∨ (¬ 97 ≤ c ∧ 65 ≤ c ∧ c ≤ 90) ∨ (¬ 97 ≤ c ∧ ¬ 65 ≤ c ∧ 48 ≤ c ∧ c ≤ 57) ∨ (¬ c = 36 ∧ ¬ c = 95 ∧ ¬ (97 ≤ c ∧ c ≤ 122) ∧ ¬ (65 ≤ c ∧ c ≤ 90) ∧ ¬ (48 ≤ c ∧ c ≤ 57)) := by
  simp only [UInt8.le_iff_toNat_le, ← UInt8.toNat_inj, show (36 : UInt8).toNat = 36 from rfl, show (95 : UInt8).toNat = 95 from rfl, show (97 : UInt8).toNat = 97 from rfl, show (122 : UInt8).toNat = 122 from rfl, show (65 : UInt8).toNat = 65 from rfl,
    show (90 : UInt8).toNat = 90 from rfl, show (48 : UInt8).toNat = 48 from rfl, show (57 : UInt8).toNat = 57 from rfl]
  omega
set_option maxRecDepth 8000 in
theorem p_verilog (hΓ : KeptG Γ) (s : List UInt8) (hs : s.length < 2 ^ 40) : PureCon Tryd.prog Γ n_ident_name_verilog [.str s] (.bool (!verBad s 0 && !keptB s)) := by
  obtain ⟨ks, vs, hG, hF⟩ := hΓ
  have key : ∀ n i : Nat, i + n = s.length → Fins Tryd.prog Γ (ident_name_verilog_L1 (.str s) (.int .i64 s.length) (.int .i64 i) []) (.ret (.bool (!verBad (s.drop i) i && !keptB s))) := by
    intro n
    induction n with
    | zero =>
      intro i hi
      rw [List.drop_eq_nil_of_le (by omega), verBad]
      obtain rfl : i = s.length := by omega
      have h1 := hF s
      refine .go 120 ?_
      cases hk : keptB s with
      | true => rw [hk, if_pos rfl] at h1; simp [hG, h1]; exact .back (by simp)
      | false => rw [hk, if_neg (by simp)] at h1; simp [hG, h1]; exact .back (by simp)
    | succ n ih =>
      intro i hi
      have q1 : i < s.length := by omega
      have hh := ih (i + 1) (by omega)
      have hi0 : ((0 : Int) < i) = (0 < i) := propext (by omega)
      rw [List.drop_eq_getElem_cons q1, verBad]
      refine .go 120 ?_
      generalize hc : s[i] = c at *
      rcases cls_ver c with rfl | rfl | ⟨b1, b2⟩ | ⟨b1, b3, b4⟩ | ⟨b1, b3, b7, b8⟩ | ⟨b9, b5, n1, n2, n3⟩
      · by_cases b6 : 0 < i
        · have ho : verOdd i 36 = false := by simp [verOdd, b6]
          simp (disch := omega) [q1, hc, hi0, b6, ho]
          refine .reLoop ?_
          simp at hh ⊢
          exact hh
        · have ho : verOdd i 36 = true := by simp [verOdd, b6, letterC]
          simp (disch := omega) [q1, hc, hi0, b6, ho]
          exact .back (by simp)
      · have ho : verOdd i 95 = false := by simp [verOdd, letterC]
        simp (disch := omega) [q1, hc, ho]
        refine .reLoop ?_
        simp at hh ⊢
        exact hh
      · have ho : verOdd i c = false := by simp [verOdd, letterC, b1, b2]
        simp (disch := omega) [q1, hc, b1, b2, ho]
        refine .reLoop ?_
        simp at hh ⊢
        exact hh
      · have ho : verOdd i c = false := by simp [verOdd, letterC, b3, b4]
        simp (disch := omega) [q1, hc, b1, b3, b4, ho]
        refine .reLoop ?_
        simp at hh ⊢
        exact hh
      · have b5 : ¬ c = 95 := by rintro rfl; exact absurd b8 (by decide)
        by_cases b6 : 0 < i
        · have ho : verOdd i c = false := by simp [verOdd, digC, b6, b7, b8]
          simp (disch := omega) [q1, hc, hi0, b1, b3, b5, b6, b7, b8, ho]
          refine .reLoop ?_
          simp at hh ⊢
          exact hh
        · have ho : verOdd i c = true := by simp [verOdd, letterC, b1, b3, b5, b6]
          simp (disch := omega) [q1, hc, hi0, b1, b3, b5, b6, ho]
          exact .back (by simp)
      · have ho : verOdd i c = true := by
          simp only [verOdd, letterC, digC, Bool.not_eq_true', Bool.or_eq_false_iff, Bool.and_eq_false_iff, decide_eq_false_iff_not]
          exact ⟨⟨by rw [← Classical.not_and_iff_not_or_not]; exact n1, by rw [← Classical.not_and_iff_not_or_not]; exact n2, b5⟩, .inr ⟨by rw [← Classical.not_and_iff_not_or_not]; exact n3, b9⟩⟩
        have e1 := Classical.not_and_iff_not_or_not.1 n1
        have e2 := Classical.not_and_iff_not_or_not.1 n2
        have e3 := Classical.not_and_iff_not_or_not.1 n3
        by_cases b1 : 97 ≤ c <;> by_cases b3 : 65 ≤ c <;> by_cases b6 : 0 < i <;> by_cases b7 : 48 ≤ c <;> simp only [b1, b3, b7, not_true_eq_false, false_or, not_false_eq_true, true_or] at e1 e2 e3 <;> simp (disch := omega) [q1, hc, hi0, b1, b3, b5, b6, b7, b9, e1, e2, e3, ho] <;> exact .back (by simp)
  refine .run 60 c_ident_name_verilog (by simp) ?_
  simp
  refine .inLoop ?_
  have hh := key s.length 0 (by omega)
  simp at hh ⊢
  exact hh
end Go.Proofs.YtenpljbbboibiaaDoor
/- Names: legal, spelled. -/
namespace Go.Proofs.YtenpljbbboibiaaDoor
open Go.AM Go.Proofs
variable {Γ : Nat → Option AV}
set_option linter.unusedSimpArgs false
set_option linter.unusedVariables false

def knownB (f : Int) : Bool := decide (0 ≤ f) && decide (f ≤ 4)
theorem known_cases {f : Int} (h : knownB f = true) : f = 0 ∨ f = 1 ∨ f = 2 ∨ f = 3 ∨ f = 4 := by simp [knownB] at h; omega
theorem p_known (f : Int) : PureCon Tryd.prog Γ n_ident_known [.int .i64 f] (.bool (knownB f)) := by
  refine .run 60 c_ident_known (by simp) ?_
  by_cases h : 0 ≤ f <;> simp [h] <;> exact .back (by simp [knownB, h])
def withB (l s : List UInt8) : Bool := anyB (fun c => decide (c ∈ l)) s
def blifB (s : List UInt8) : Bool := !decide (s.head? = some 46) && !withB [35, 92] s
def benchB (s : List UInt8) : Bool := !withB [61, 40, 41, 44, 35] s
def verilogB (s : List UInt8) : Bool := !verBad s 0 && !keptB s
theorem name_ascii {s : List UInt8} (h : nameB s = true) : (∀ c ∈ s, c.toNat < 128) ∧ 1 ≤ s.length ∧ s.length ≤ 40 := by
  simp only [nameB, Bool.and_eq_true, Bool.not_eq_true', decide_eq_true_eq] at h
  refine ⟨fun c hc => ?_, h.2⟩
  have h1 := anyB_no.1 h.1 c hc
  simp only [oddC, Bool.or_eq_false_iff, decide_eq_false_iff_not, UInt8.lt_iff_toNat_lt, show (126 : UInt8).toNat = 126 from rfl] at h1
  omega
theorem p_blif (s : List UInt8) (h : nameB s = true) : PureCon Tryd.prog Γ n_ident_name_blif [.str s] (.bool (blifB s)) := by
  obtain ⟨h1, h2, h3⟩ := name_ascii h
  obtain ⟨c, r, rfl⟩ : ∃ c r, s = c :: r := by cases s with | nil => simp at h2 | cons c r => exact ⟨c, r, rfl⟩
  refine .run 60 c_ident_name_blif (by simp) ?_
  by_cases hc : c = 46
  · simp [hc]; exact .back (by simp [blifB])
  · simp [hc]
    refine .call 60 (by simp) (p_ContainsAny (c :: r) [35, 92] (by omega) (by simp) h1 (by simp)) ?_
    simp
    exact .back (by simp [blifB, hc, withB])
theorem p_bench (s : List UInt8) (h : nameB s = true) : PureCon Tryd.prog Γ n_ident_name_bench [.str s] (.bool (benchB s)) := by
  obtain ⟨h1, h2, h3⟩ := name_ascii h
  refine .run 60 c_ident_name_bench (by simp) ?_
  simp
  refine .call 60 (by simp) (p_ContainsAny s [61, 40, 41, 44, 35] (by omega) (by simp) h1 (by simp)) ?_
  simp
  exact .back (by simp [benchB, withB])

def legalB (f : Int) (s : List UInt8) : Bool := knownB f && (nameB s && (if f = 2 then blifB s else if f = 3 then benchB s else if f = 4 then verilogB s else true))
theorem p_Legal (hΓ : KeptG Γ) (f : Int) (s : List UInt8) : PureCon Tryd.prog Γ n_ident_Legal [.int .i64 f, .str s] (.bool (legalB f s)) := by
  refine .run 60 c_ident_Legal (by simp) ?_
  simp
  refine .call 60 (by simp) (p_known f) ?_
  unfold legalB
  cases hk : knownB f with
  | false => simp; exact .back (by simp)
  | true =>
    simp
    refine .call 60 (by simp) (p_Name s) ?_
    cases hn : nameB s with
    | false => simp; exact .back (by simp)
    | true =>
      have hl := name_ascii hn
      rcases known_cases hk with rfl | rfl | rfl | rfl | rfl
      · simp; refine .call 60 (by simp) (p_plain s) ?_; simp [hn]; exact .back (by simp)
      · simp; refine .call 60 (by simp) (p_plain s) ?_; simp [hn]; exact .back (by simp)
      · simp; refine .call 60 (by simp) (p_blif s hn) ?_; simp; exact .back (by simp)
      · simp; refine .call 60 (by simp) (p_bench s hn) ?_; simp; exact .back (by simp)
      · simp; refine .call 60 (by simp) (p_verilog hΓ s (by omega)) ?_; simp; exact .back (by simp [verilogB])

abbrev hexL : List UInt8 := [48, 49, 50, 51, 52, 53, 54, 55, 56, 57, 97, 98, 99, 100, 101, 102]
def hexD (n : Nat) : UInt8 := hexL.getD n 0
def hexS : List UInt8 → List UInt8
  | [] => []
  | c :: s => hexD (c.toNat / 16) :: hexD (c.toNat % 16) :: hexS s
theorem hexS_append : ∀ (a b : List UInt8), hexS (a ++ b) = hexS a ++ hexS b
  | [], b => rfl
  | c :: a, b => by simp [hexS, hexS_append a b]
theorem hexS_len : ∀ (a : List UInt8), (hexS a).length = 2 * a.length
  | [] => rfl
  | c :: a => by simp [hexS, hexS_len a]; omega
theorem hexL_get {n : Nat} (h : n < 16) : hexL[n]? = some (hexD n) := by
  unfold hexD
  rw [List.getD_eq_getElem?_getD, List.getElem?_eq_getElem (show n < hexL.length by simpa using h)]; rfl
abbrev markL : List UInt8 := [120, 95, 95]

set_option maxRecDepth 8000 in
theorem p_spelled (s : List UInt8) (hs : s.length < 2 ^ 20) : PureCon Tryd.prog Γ n_ident_spelled [.str s] (.str (markL ++ hexS s)) := by
  have key : ∀ n i : Nat, i + n = s.length → ∀ w, w = markL ++ hexS (s.take i) → Fins Tryd.prog Γ (ident_spelled_L1 (.str s) (.sl 0 0 w.length) (.int .i64 s.length) (.int .i64 i) [.row 1 t_uint8 (w.map byteA) none true false]) (.ret (.str (markL ++ hexS s))) := by
    intro n
    induction n with
    | zero =>
      intro i hi w hw
      obtain rfl : i = s.length := by omega
      rw [List.take_length] at hw
      refine .go 60 ?_
      simp
      exact .back (by simp [hw])
    | succ n ih =>
      intro i hi w hw
      have q1 : i < s.length := by omega
      have hh := ih (i + 1) (by omega) (w ++ [hexD (s[i].toNat / 16), hexD (s[i].toNat % 16)]) (by rw [hw, List.take_succ_eq_append_getElem q1, hexS_append]; simp [hexS])
      have hwl : w.length < 2 ^ 30 := by rw [hw]; simp [hexS_len]; omega
      refine .go 60 ?_
      have e1 := shr4 s[i]
      have g1 : ([48, 49, 50, 51, 52, 53, 54, 55, 56, 57, 97, 98, 99, 100, 101, 102] : List UInt8)[s[i].toNat / 16]? = some (hexD (s[i].toNat / 16)) := hexL_get (by have := s[i].toNat_lt; omega)
      have g2 : ([48, 49, 50, 51, 52, 53, 54, 55, 56, 57, 97, 98, 99, 100, 101, 102] : List UInt8)[s[i].toNat % 16]? = some (hexD (s[i].toNat % 16)) := hexL_get (by omega)
      have e2 := and15 s[i]
      simp (disch := omega) [q1, e1, e2, g1, g2, -Int.natCast_ediv, -Int.natCast_emod]
      refine .reLoop ?_
      simp
      refine .reset (i := 0) rfl (by simp) (by simp) (by simp) ?_
      simp [byteA] at hh ⊢
      exact hh
  refine .run 6 c_ident_spelled (by simp) ?_
  simp
  refine .litRow 60 t_uint8 (es := [.int .u8 120, .int .u8 95, .int .u8 95]) (by simp) (by simp) ?_
  simp
  refine .inLoop ?_
  have hh := key s.length 0 (by omega) markL rfl
  simp [byteA] at hh ⊢
  exact hh

def markB (s : List UInt8) : Bool := markL.isPrefixOf s
def spellS (f : Int) (s : List UInt8) : List UInt8 × Int :=
  if nameB s = false then ([], 4) else if knownB f = false then ([], 9)
  else if f = 4 then (if legalB 4 s = true then (s, 0) else (92 :: s ++ [32], 0))
  else if (f = 2 ∨ f = 3) ∧ (markB s || !legalB f s) = true then (markL ++ hexS s, 0) else (s, 0)
theorem p_Spell (hΓ : KeptG Γ) (f : Int) (s : List UInt8) : PureCon Tryd.prog Γ n_ident_Spell [.int .i64 f, .str s] (.tup [.str (spellS f s).1, .int .i64 (spellS f s).2]) := by
  refine .run 120 c_ident_Spell (by simp) ?_
  simp
  refine .call 120 (by simp) (p_Name s) ?_
  unfold spellS
  cases hn : nameB s with
  | false => simp; exact .back (by simp)
  | true =>
    obtain ⟨_, _, hl⟩ := name_ascii hn
    simp
    refine .call 120 (by simp) (p_known f) ?_
    cases hk : knownB f with
    | false => simp; exact .back (by simp)
    | true =>
      have hsp := p_spelled (Γ := Γ) s (by omega)
      rcases known_cases hk with rfl | rfl | rfl | rfl | rfl
      · simp; exact .back (by simp)
      · simp; exact .back (by simp)
      · simp
        refine .call 120 (by simp) (p_HasPrefix s markL) ?_
        unfold markB
        cases hm : markL.isPrefixOf s with
        | true => simp [hm]; refine .call 120 (by simp) hsp ?_; simp; exact .back (by simp [hm])
        | false =>
          simp [hm]
          refine .call 120 (by simp) (p_Legal hΓ 2 s) ?_
          cases hle : legalB 2 s with
          | true => simp; exact .back (by simp [hm])
          | false => simp; refine .call 120 (by simp) hsp ?_; simp; exact .back (by simp [hm])
      · simp
        refine .call 120 (by simp) (p_HasPrefix s markL) ?_
        unfold markB
        cases hm : markL.isPrefixOf s with
        | true => simp [hm]; refine .call 120 (by simp) hsp ?_; simp; exact .back (by simp [hm])
        | false =>
          simp [hm]
          refine .call 120 (by simp) (p_Legal hΓ 3 s) ?_
          cases hle : legalB 3 s with
          | true => simp; exact .back (by simp [hm])
          | false => simp; refine .call 120 (by simp) hsp ?_; simp; exact .back (by simp [hm])
      · simp
        refine .call 120 (by simp) (p_Legal hΓ 4 s) ?_
        have hl2 : (s.length : Int) ≤ 40 := by omega
        cases hle : legalB 4 s with
        | true => simp; exact .back (by simp)
        | false => simp (disch := omega); exact .back (by simp)
end Go.Proofs.YtenpljbbboibiaaDoor
/- Names: the reference's legal, spelled. -/
namespace Go.Proofs.YtenpljbbboibiaaDoor
open Go.AM Go.Proofs
variable {Γ : Nat → Option AV}
set_option linter.unusedSimpArgs false
set_option linter.unusedVariables false

theorem p_r01_Has (l : List (List UInt8)) (s : List UInt8) {k : Nat} (hk : Kd 1 k l) (hl : l.length < 2 ^ 40) : PureCon Tryd.prog Γ n_r01_Has [.list false k (l.map .str), .str s] (.bool (l.contains s)) := by
  have key : ∀ n i : Nat, i + n = l.length → Fins Tryd.prog Γ (r01_Has_L1 (.list false k (l.map .str)) (.str s) (.int .i64 i) []) (.ret (.bool ((l.drop i).contains s))) := by
    intro n
    induction n with
    | zero =>
      intro i hi
      have q1 : ¬ i < l.length := by omega
      rw [List.drop_eq_nil_of_le (by omega)]
      refine .go 60 ?_
      simp [q1]
      exact .back (by simp)
    | succ n ih =>
      intro i hi
      have q1 : i < l.length := by omega
      have q2 := eq_true (hk.of q1)
      have hh := ih (i + 1) (by omega)
      rw [List.drop_eq_getElem_cons q1, List.contains_cons]
      refine .go 60 ?_
      by_cases h : l[i] = s
      · have h' : (s == l[i]) = true := by simp [h]
        simp [q1, q2, h, h']
        exact .back (by simp)
      · have h' : (s == l[i]) = false := by simpa using fun e => h e.symm
        simp (disch := omega) [q1, q2, h, h']
        refine .reLoop ?_
        simp at hh ⊢
        exact hh
  refine .run 60 c_r01_Has (by simp) ?_
  simp
  refine .inLoop ?_
  have hh := key l.length 0 (by omega)
  simp at hh ⊢
  exact hh

theorem p_r04_letter (c : UInt8) : PureCon Tryd.prog Γ n_r04_letter [byteA c] (.bool (letterC c)) := by
  refine .run 60 c_r04_letter (by simp) ?_
  unfold letterC
  by_cases a1 : 97 ≤ c <;> by_cases a2 : c ≤ 122 <;> by_cases a3 : 65 ≤ c <;> by_cases a4 : c ≤ 90 <;> simp [a1, a2, a3, a4] <;> exact .back (by simp [a1, a2, a3, a4])
theorem p_r02_Digit (c : UInt8) : PureCon Tryd.prog Γ n_r02_Digit [byteA c] (.bool (digC c)) := by
  refine .run 60 c_r02_Digit (by simp) ?_
  unfold digC
  by_cases a1 : 48 ≤ c <;> simp [a1] <;> exact .back (by simp [a1])
theorem p_r04_known (f : Int) : PureCon Tryd.prog Γ n_r04_known [.int .i64 f] (.bool (knownB f)) := by
  refine .run 60 c_r04_known (by simp) ?_
  by_cases h : 0 ≤ f <;> simp [h] <;> exact .back (by simp [knownB, h])

theorem p_r04_without (s l : List UInt8) (hs : s.length < 2 ^ 40) (hl : l.length < 2 ^ 40) : PureCon Tryd.prog Γ n_r04_without [.str s, .str l] (.bool (!withB l s)) := by
  have key : ∀ n i : Nat, i + n = s.length → Fins Tryd.prog Γ (r04_without_L1 (.str s) (.str l) (.int .i64 i) []) (.ret (.bool (!withB l (s.drop i)))) := by
    intro n
    induction n with
    | zero =>
      intro i hi
      have q1 : ¬ i < s.length := by omega
      rw [List.drop_eq_nil_of_le (by omega), withB, anyB_nil]
      refine .go 60 ?_
      simp [q1]
      exact .back (by simp)
    | succ n ih =>
      intro i hi
      have q1 : i < s.length := by omega
      have hh := ih (i + 1) (by omega)
      rw [List.drop_eq_getElem_cons q1, withB, anyB_cons]
      have inner : ∀ m k : Nat, k + m = l.length → Fins Tryd.prog Γ (r04_without_L3 (.str s) (.str l) (.int .i64 i) (.int .i64 k) []) (.ret (.bool (!(decide (s[i] ∈ l.drop k) || withB l (s.drop (i + 1)))))) := by
        intro m
        induction m with
        | zero =>
          intro k hk
          have p1 : ¬ k < l.length := by omega
          rw [List.drop_eq_nil_of_le (show l.length ≤ k by omega)]
          refine .go 60 ?_
          simp (disch := omega) [p1]
          refine .reLoop ?_
          simp at hh ⊢
          exact hh
        | succ m ihm =>
          intro k hk
          have p1 : k < l.length := by omega
          have h2 := ihm (k + 1) (by omega)
          have e : decide (s[i] ∈ l.drop k) = (decide (s[i] = l[k]) || decide (s[i] ∈ l.drop (k + 1))) := by
            rw [List.drop_eq_getElem_cons p1]; simp only [List.mem_cons, Bool.decide_or]
          rw [e]
          refine .go 60 ?_
          by_cases h : s[i] = l[k]
          · simp [p1, q1, h]
            exact .back (by simp)
          · simp (disch := omega) [p1, q1, h]
            refine .reLoop ?_
            simp at h2 ⊢
            exact h2
      have hin := inner l.length 0 (by omega)
      rw [List.drop_zero] at hin
      refine .go 60 ?_
      simp [q1]
      refine .inLoop ?_
      simp [withB] at hin ⊢
      exact hin
  refine .run 60 c_r04_without (by simp) ?_
  simp
  refine .inLoop ?_
  have hh := key s.length 0 (by omega)
  simp at hh ⊢
  exact hh

set_option maxRecDepth 8000 in
theorem f_r04ver (s : List UInt8) (hs : s.length < 2 ^ 40) : ∀ n i : Nat, i + n = s.length → Fins Tryd.prog Γ (r04_Legal_L5 (.str s) (.int .i64 i) []) (.ret (.bool (!verBad (s.drop i) i && !keptB s))) := by
  intro n
  induction n with
  | zero =>
    intro i hi
    have q1 : ¬ i < s.length := by omega
    rw [List.drop_eq_nil_of_le (by omega), verBad]
    have hc := p_r01_Has (Γ := Γ) keptL s (k := 1) .self (by simp [keptL])
    simp only [keptL, List.map_cons, List.map_nil] at hc
    refine .go 60 ?_
    simp [q1]
    refine .call 60 (by simp) hc ?_
    simp
    exact .back (by simp [keptB, keptL])
  | succ n ih =>
    intro i hi
    have q1 : i < s.length := by omega
    have hh := ih (i + 1) (by omega)
    rw [List.drop_eq_getElem_cons q1, verBad]
    have hl := p_r04_letter (Γ := Γ) s[i]
    have hd := p_r02_Digit (Γ := Γ) s[i]
    refine .go 60 ?_
    simp [q1]
    refine .call 60 (by simp [byteA]) hl ?_
    unfold verOdd
    cases h1 : letterC s[i] with
    | true =>
      simp (disch := omega)
      refine .reLoop ?_
      simp at hh ⊢
      exact hh
    | false =>
      by_cases h2 : i = 0
      · subst h2
        simp
        exact .back (by simp)
      · have h2' : ¬ (i : Int) = 0 := by omega
        have h3 : 0 < i := by omega
        simp [h2, h2', h3, q1]
        refine .call 60 (by simp [byteA]) hd ?_
        cases h4 : digC s[i] with
        | true =>
          simp (disch := omega)
          refine .reLoop ?_
          simp at hh ⊢
          exact hh
        | false =>
          by_cases h5 : s[i] = 36
          · simp (disch := omega) [h5, q1]
            refine .reLoop ?_
            simp at hh ⊢
            exact hh
          · simp [h5, q1]
            exact .back (by simp)
theorem p_r04_Legal (f : Int) (s : List UInt8) (hs : s.length < 2 ^ 40) : PureCon Tryd.prog Γ n_r04_Legal [.int .i64 f, .str s] (.bool (legalB f s)) := by
  refine .run 60 c_r04_Legal (by simp) ?_
  simp
  refine .call 60 (by simp) (p_r04_Name s (by omega)) ?_
  unfold legalB
  cases hn : nameB s with
  | false => simp; exact .back (by simp)
  | true =>
    have hl := name_ascii hn
    by_cases h0 : f = 0
    · subst h0; simp; exact .back (by simp [knownB])
    by_cases h1 : f = 1
    · subst h1; simp; exact .back (by simp [knownB])
    by_cases h2 : f = 2
    · subst h2
      obtain ⟨c, r, rfl⟩ : ∃ c r, s = c :: r := by cases s with | nil => simp at hl | cons c r => exact ⟨c, r, rfl⟩
      by_cases hc : c = 46
      · simp [hc]; exact .back (by simp [blifB, knownB])
      · simp [hc]
        refine .call 60 (by simp) (p_r04_without (c :: r) [35, 92] (by omega) (by simp)) ?_
        simp
        exact .back (by simp [blifB, hc, knownB])
    by_cases h3 : f = 3
    · subst h3
      simp
      refine .call 60 (by simp) (p_r04_without s [61, 40, 41, 44, 35] (by omega) (by simp)) ?_
      simp
      exact .back (by simp [benchB, knownB])
    by_cases h4 : f = 4
    · subst h4
      have hh := f_r04ver (Γ := Γ) s (by omega) s.length 0 (by omega)
      simp
      refine .inLoop ?_
      simp [knownB, verilogB] at hh ⊢
      exact hh
    · have hk : knownB f = false := by simp [knownB]; omega
      simp [h0, h1, h2, h3, h4, hk]
      exact .back (by simp [hk])
end Go.Proofs.YtenpljbbboibiaaDoor
/- Names: the reference's spelling. -/
namespace Go.Proofs.YtenpljbbboibiaaDoor
open Go.AM Go.Proofs
variable {Γ : Nat → Option AV}
set_option linter.unusedSimpArgs false
set_option linter.unusedVariables false

theorem quo16 (c : UInt8) : binI .quo .u8 c.toNat 16 = some ((c.toNat / 16 : Nat) : Int) := by
  have h : ∀ n : Fin 256, binI .quo .u8 (n.val : Int) 16 = some ((n.val / 16 : Nat) : Int) := by decide +kernel
  exact h ⟨c.toNat, c.toNat_lt⟩
theorem rem16 (c : UInt8) : binI .rem .u8 c.toNat 16 = some ((c.toNat % 16 : Nat) : Int) := by
  have h : ∀ n : Fin 256, binI .rem .u8 (n.val : Int) 16 = some ((n.val % 16 : Nat) : Int) := by decide +kernel
  exact h ⟨c.toNat, c.toNat_lt⟩
theorem inc16 {n : Nat} (h : n < 16) : IntKind.u8.wrap ((n : Int) + 1) = ((n + 1 : Nat) : Int) := by
  have h : ∀ n : Fin 16, IntKind.u8.wrap ((n.val : Int) + 1) = ((n.val + 1 : Nat) : Int) := by decide +kernel
  exact h ⟨n, by omega⟩
theorem hexL_one {n : Nat} (h : n < 16) : (List.drop n (List.take (n + 1) [48, 49, 50, 51, 52, 53, 54, 55, 56, 57, 97, 98, 99, 100, 101, 102]) : List UInt8) = [hexD n] := by
  have h : ∀ n : Fin 16, (List.drop n.val (List.take (n.val + 1) hexL) : List UInt8) = [hexD n.val] := by decide +kernel
  exact h ⟨n, by omega⟩

set_option maxRecDepth 8000 in
theorem p_r04_Hex (s : List UInt8) (hs : s.length < 2 ^ 20) : PureCon Tryd.prog Γ n_r04_Hex [.str s] (.str (hexS s)) := by
  have key : ∀ n i : Nat, i + n = s.length → ∀ w, w = hexS (s.take i) → Fins Tryd.prog Γ (r04_Hex_L1 (.str s) (.str hexL) (.str w) (.int .i64 i) []) (.ret (.str (hexS s))) := by
    intro n
    induction n with
    | zero =>
      intro i hi w hw
      obtain rfl : i = s.length := by omega
      rw [List.take_length] at hw
      refine .go 60 ?_
      simp
      exact .back (by simp [hw])
    | succ n ih =>
      intro i hi w hw
      have q1 : i < s.length := by omega
      have hh := ih (i + 1) (by omega) (w ++ [hexD (s[i].toNat / 16)] ++ [hexD (s[i].toNat % 16)]) (by rw [hw, List.take_succ_eq_append_getElem q1, hexS_append]; simp [hexS])
      have hwl : w.length < 2 ^ 30 := by rw [hw]; simp [hexS_len]; omega
      have hc := s[i].toNat_lt
      have e1 := quo16 s[i]
      have e2 := rem16 s[i]
      have e3 := inc16 (n := s[i].toNat / 16) (by omega)
      have e4 := inc16 (n := s[i].toNat % 16) (by omega)
      have e5 := hexL_one (n := s[i].toNat / 16) (by omega)
      have e6 := hexL_one (n := s[i].toNat % 16) (by omega)
      refine .go 60 ?_
      simp (disch := omega) [q1, e1, e2, e3, e4, e5, e6, -Int.natCast_ediv, -Int.natCast_emod, -Int.natCast_add, -List.take_succ_cons]
      refine .reLoop ?_
      simp at hh ⊢
      exact hh
  refine .run 60 c_r04_Hex (by simp) ?_
  simp
  refine .inLoop ?_
  have hh := key s.length 0 (by omega) [] rfl
  simp at hh ⊢
  exact hh

theorem mark_take {s : List UInt8} (h : 3 ≤ s.length) : decide (s.take 3 = markL) = markB s := by
  unfold markB
  match s, h with
  | a :: b :: c :: r, _ =>
    simp [List.isPrefixOf]
    rw [Bool.eq_iff_iff]; simp
    exact ⟨fun ⟨x, y, z⟩ => ⟨x.symm, y.symm, z.symm⟩, fun ⟨x, y, z⟩ => ⟨x.symm, y.symm, z.symm⟩⟩
theorem mark_short {s : List UInt8} (h : ¬ 3 ≤ s.length) : markB s = false := by
  unfold markB
  match s, h with
  | [], _ => rfl
  | [a], _ => simp [List.isPrefixOf]
  | [a, b], _ => simp [List.isPrefixOf]
  | a :: b :: c :: r, h => simp at h

set_option maxRecDepth 8000 in
theorem p_r04_Spell (f : Int) (s : List UInt8) (hs : s.length < 2 ^ 40) : PureCon Tryd.prog Γ n_r04_Spell [.int .i64 f, .str s] (.tup [.str (spellS f s).1, .int .i64 (spellS f s).2]) := by
  refine .run 120 c_r04_Spell (by simp) ?_
  simp
  refine .call 120 (by simp) (p_r04_Name s (by omega)) ?_
  unfold spellS
  cases hn : nameB s with
  | false => simp; exact .back (by simp)
  | true =>
    obtain ⟨_, _, hl⟩ := name_ascii hn
    have hl2 : (s.length : Int) ≤ 40 := by omega
    simp
    refine .call 120 (by simp) (p_r04_known f) ?_
    cases hk : knownB f with
    | false => simp; exact .back (by simp)
    | true =>
      have hx := p_r04_Hex (Γ := Γ) s (by omega)
      have hxl := hexS_len s
      have hm : Fins Tryd.prog Γ (.back [] (.tup [.str s, .int .i64 0]) []) (.ret (.tup [.str s, .int .i64 0])) := .back (by simp)
      by_cases h3 : 3 ≤ s.length
      · have h3' : (3 : Int) ≤ s.length := by omega
        have e := mark_take h3
        have e' : (decide (s.take 3 = [120, 95, 95])) = markB s := e
        rcases known_cases hk with rfl | rfl | rfl | rfl | rfl
        · simp (disch := omega) [h3, h3']; exact .back (by simp)
        · simp (disch := omega) [h3, h3']; exact .back (by simp)
        · simp (disch := omega) [h3, h3', e']
          cases hb : markB s with
          | true =>
            simp
            refine .call 120 (by simp) hx ?_
            simp (disch := omega) [hxl]
            exact .back (by simp)
          | false =>
            simp
            refine .call 120 (by simp) (p_r04_Legal 2 s (by omega)) ?_
            cases hg : legalB 2 s with
            | true => simp; exact .back (by simp)
            | false =>
              simp
              refine .call 120 (by simp) hx ?_
              simp (disch := omega) [hxl]
              exact .back (by simp)
        · simp (disch := omega) [h3, h3', e']
          cases hb : markB s with
          | true =>
            simp
            refine .call 120 (by simp) hx ?_
            simp (disch := omega) [hxl]
            exact .back (by simp)
          | false =>
            simp
            refine .call 120 (by simp) (p_r04_Legal 3 s (by omega)) ?_
            cases hg : legalB 3 s with
            | true => simp; exact .back (by simp)
            | false =>
              simp
              refine .call 120 (by simp) hx ?_
              simp (disch := omega) [hxl]
              exact .back (by simp)
        · simp
          refine .call 120 (by simp) (p_r04_Legal 4 s (by omega)) ?_
          cases hg : legalB 4 s with
          | true => simp (disch := omega) [h3, h3']; exact .back (by simp)
          | false => simp (disch := omega); exact .back (by simp)
      · have h3' : ¬ (3 : Int) ≤ s.length := by omega
        have e := mark_short h3
        rcases known_cases hk with rfl | rfl | rfl | rfl | rfl
        · simp (disch := omega) [h3, h3']; exact .back (by simp)
        · simp (disch := omega) [h3, h3']; exact .back (by simp)
        · simp (disch := omega) [h3, h3', e]
          refine .call 120 (by simp) (p_r04_Legal 2 s (by omega)) ?_
          cases hg : legalB 2 s with
          | true => simp; exact .back (by simp)
          | false =>
            simp
            refine .call 120 (by simp) hx ?_
            simp (disch := omega) [hxl]
            exact .back (by simp)
        · simp (disch := omega) [h3, h3', e]
          refine .call 120 (by simp) (p_r04_Legal 3 s (by omega)) ?_
          cases hg : legalB 3 s with
          | true => simp; exact .back (by simp)
          | false =>
            simp
            refine .call 120 (by simp) hx ?_
            simp (disch := omega) [hxl]
            exact .back (by simp)
        · simp
          refine .call 120 (by simp) (p_r04_Legal 4 s (by omega)) ?_
          cases hg : legalB 4 s with
          | true => simp (disch := omega) [h3, h3']; exact .back (by simp)
          | false => simp (disch := omega); exact .back (by simp)
end Go.Proofs.YtenpljbbboibiaaDoor
/- Names: reading digits. -/
namespace Go.Proofs.YtenpljbbboibiaaDoor
open Go.AM Go.Proofs
variable {Γ : Nat → Option AV}
set_option linter.unusedSimpArgs false
set_option linter.unusedVariables false

/-- A digit of sixteen. -/
def dgN (n : Nat) : Int := if 48 ≤ n ∧ n ≤ 57 then (n : Int) - 48 else if 97 ≤ n ∧ n ≤ 102 then (n : Int) - 87 else -1
def dg (c : UInt8) : Int := dgN c.toNat
theorem dg_bound (c : UInt8) : -1 ≤ dg c ∧ dg c ≤ 15 := by unfold dg dgN; split <;> (try split) <;> omega
theorem dg_index (c : UInt8) : Lib.indexByte hexL c = dg c := by
  have h : ∀ n : Fin 256, Lib.indexByte hexL (UInt8.ofNat n.val) = dgN n.val := by decide +kernel
  have := h ⟨c.toNat, c.toNat_lt⟩
  simpa [dg] using this
theorem dg_hexD {n : Nat} (h : n < 16) : dg (hexD n) = n := by
  have h : ∀ n : Fin 16, dg (hexD n.val) = n.val := by decide +kernel
  exact h ⟨n, by omega⟩
/-- A number as a byte. -/
def byteI (n : Int) : UInt8 := UInt8.ofNat (n % 256).toNat
theorem byteI_wrap (n : Int) : AV.int .u8 (IntKind.u8.wrap n) = byteA (byteI n) := by
  have h : IntKind.u8.wrap n = n % 256 := rfl
  have h0 := Int.emod_nonneg n (show (256 : Int) ≠ 0 by omega)
  have h1 := Int.emod_lt_of_pos n (show (0 : Int) < 256 by omega)
  rw [h, byteA, byteI]
  congr 1
  rw [UInt8.toNat_ofNat']
  omega
def pairI (a b : UInt8) : UInt8 := byteI (dg a * 16 + dg b)
theorem pair_hex (c : UInt8) : pairI (hexD (c.toNat / 16)) (hexD (c.toNat % 16)) = c := by
  have hc := c.toNat_lt
  unfold pairI
  rw [dg_hexD (by omega), dg_hexD (by omega), byteI]
  have : ((((c.toNat / 16 : Nat) : Int) * 16 + ((c.toNat % 16 : Nat) : Int)) % 256).toNat = c.toNat := by omega
  rw [this]
  exact UInt8.ofNat_toNat
def unS : List UInt8 → List UInt8
  | a :: b :: r => pairI a b :: unS r
  | _ => []
theorem unS_hex : ∀ n : List UInt8, unS (hexS n) = n
  | [] => rfl
  | c :: n => by rw [hexS, unS, unS_hex n, pair_hex]
theorem unS_len : ∀ s : List UInt8, 2 * (unS s).length ≤ s.length
  | [] => by simp [unS]
  | [a] => by simp [unS]
  | a :: b :: r => by have := unS_len r; simp [unS]; omega
def unhexF : List UInt8 → List UInt8 → List UInt8 × Bool
  | a :: b :: r, out => if dg a < 0 ∨ dg b < 0 then ([], false) else unhexF r (out ++ [pairI a b])
  | [a], out => (out, false)
  | [], out => (out, true)
theorem unhexF_hex : ∀ (n out : List UInt8), unhexF (hexS n) out = (out ++ n, true)
  | [], out => by simp [hexS, unhexF]
  | c :: n, out => by
    have hc := c.toNat_lt
    rw [hexS, unhexF, if_neg (by rw [dg_hexD (by omega), dg_hexD (by omega)]; omega), unhexF_hex n, pair_hex]
    simp
theorem unhexF_yes : ∀ (s out n : List UInt8), unhexF s out = (n, true) → n = out ++ unS s
  | [], out, n, h => by simp [unhexF] at h; simp [unS, h]
  | [a], out, n, h => by simp [unhexF] at h
  | a :: b :: r, out, n, h => by
    rw [unhexF] at h
    split at h
    · simp at h
    · rw [unhexF_yes r _ n h, unS]; simp

theorem spell_cases {f : Int} {n s : List UInt8} (hf : f = 2 ∨ f = 3) (h : spellS f n = (s, 0)) : nameB n = true ∧ (s = markL ++ hexS n ∨ (s = n ∧ markB n = false ∧ legalB f n = true)) := by
  have hk : knownB f = true := by rcases hf with rfl | rfl <;> rfl
  unfold spellS at h
  cases hn : nameB n with
  | false => simp [hn] at h
  | true =>
    have h4 : ¬ f = 4 := by omega
    simp only [hn, hk, h4, hf, Bool.true_eq_false, if_false, true_and] at h
    refine ⟨rfl, ?_⟩
    cases hm : markB n <;> cases hl : legalB f n <;> simp [hm, hl] at h
    · exact .inl h.symm
    · exact .inr ⟨h.symm, rfl, rfl⟩
    · exact .inl h.symm
    · exact .inl h.symm
theorem mark_trim (r : List UInt8) : Lib.trimPrefix (markL ++ r) markL = r ∧ markB (markL ++ r) = true := by
  constructor
  · simp [Lib.trimPrefix, Lib.hasPrefix, List.isPrefixOf]
  · simp [markB, List.isPrefixOf]
theorem mark_notrim {s : List UInt8} (h : markB s = false) : Lib.trimPrefix s markL = s := by
  unfold markB at h
  simp [Lib.trimPrefix, Lib.hasPrefix, h]

/-- What is read: the name behind digits. -/
def backS (f : Int) (s : List UInt8) : Option (List UInt8) :=
  if unS (Lib.trimPrefix s markL) ≠ [] ∧ spellS f (unS (Lib.trimPrefix s markL)) = (s, 0) then some (unS (Lib.trimPrefix s markL)) else none
theorem back_spec {f : Int} (hf : f = 2 ∨ f = 3) {s n : List UInt8} : backS f s = some n ↔ s = markL ++ hexS n ∧ spellS f n = (s, 0) := by
  unfold backS
  constructor
  · intro h
    split at h
    · rename_i hc
      simp only [Option.some.injEq] at h
      rw [h] at hc
      obtain ⟨hn, hs⟩ := hc
      obtain ⟨_, h1 | ⟨h1, h2, _⟩⟩ := spell_cases hf hs
      · exact ⟨h1, hs⟩
      · subst h1
        rw [mark_notrim h2] at h
        have := unS_len s
        rw [h] at this
        have : s = [] := List.length_eq_zero_iff.1 (by omega)
        exact absurd this hn
    · cases h
  · rintro ⟨h1, h2⟩
    have e : unS (Lib.trimPrefix s markL) = n := by rw [h1, (mark_trim _).1, unS_hex]
    obtain ⟨h3, _⟩ := spell_cases hf h2
    have h4 := (name_ascii h3).2.1
    have hne : n ≠ [] := by rintro rfl; simp at h4
    rw [e, if_pos ⟨hne, h2⟩]
theorem back_ref {f : Int} (hf : f = 2 ∨ f = 3) {s : List UInt8} (h3 : 3 < s.length) : ((unhexF (s.drop 3) []).2 = true ∧ spellS f (unhexF (s.drop 3) []).1 = (s, 0)) ↔ backS f s = some (unhexF (s.drop 3) []).1 := by
  rw [back_spec hf]
  constructor
  · rintro ⟨h1, h2⟩
    refine ⟨?_, h2⟩
    obtain ⟨_, h4 | ⟨h4, _, _⟩⟩ := spell_cases hf h2
    · exact h4
    · have h5 := unhexF_yes (s.drop 3) [] (unhexF (s.drop 3) []).1 (Prod.ext rfl h1)
      have h6 := unS_len (s.drop 3)
      rw [List.nil_append] at h5
      rw [← h5, ← h4, List.length_drop] at h6
      omega
  · rintro ⟨h1, h2⟩
    have : (unhexF (s.drop 3) []).2 = true := by
      rw [h1]
      have := unhexF_hex (unhexF (List.drop 3 s) []).1 []
      simp [this]
    exact ⟨this, h2⟩
theorem back_none {f : Int} (hf : f = 2 ∨ f = 3) {s : List UInt8} (h3 : ¬ 3 < s.length) : backS f s = none := by
  cases h : backS f s with
  | none => rfl
  | some n =>
    obtain ⟨h1, h2⟩ := (back_spec hf).1 h
    obtain ⟨h4, _⟩ := spell_cases hf h2
    have h5 := (name_ascii h4).2.1
    have : s.length = 3 + 2 * n.length := by rw [h1, List.length_append, hexS_len]; rfl
    omega
theorem back_some {f : Int} (hf : f = 2 ∨ f = 3) {s n : List UInt8} (h : backS f s = some n) (h3 : 3 < s.length) : unhexF (s.drop 3) [] = (n, true) := by
  obtain ⟨h1, _⟩ := (back_spec hf).1 h
  rw [h1]
  simpa using unhexF_hex n []

def readS (f : Int) (s : List UInt8) : List UInt8 × Int :=
  if knownB f = false then ([], 9)
  else if f = 2 ∨ f = 3 then (match backS f s with
    | some n => (n, 0)
    | none => if legalB f s = true then (s, 0) else ([], 4))
  else if nameB s = true then (s, 0) else ([], 4)

set_option maxRecDepth 8000 in
theorem p_unspelled (s : List UInt8) (hs : s.length < 2 ^ 20) : PureCon Tryd.prog Γ n_ident_unspelled [.str s] (.str (unS (Lib.trimPrefix s markL))) := by
  have key : ∀ n : Nat, ∀ r w : List UInt8, r.length ≤ n → r.length + w.length < 2 ^ 30 → Fins Tryd.prog Γ (ident_unspelled_L1 (.sl 0 0 w.length) (.str r) [.row 1 t_uint8 (w.map byteA) none true false]) (.ret (.str (w ++ unS r))) := by
    intro n
    induction n with
    | zero =>
      intro r w hr _
      obtain rfl : r = [] := List.length_eq_zero_iff.1 (by omega)
      refine .go 60 ?_
      simp
      exact .back (by simp [unS])
    | succ n ih =>
      intro r w hr hb
      match r, hr, hb with
      | [], _, _ => refine .go 60 ?_; simp; exact .back (by simp [unS])
      | [a], _, _ => refine .go 60 ?_; simp; exact .back (by simp [unS])
      | a :: b :: r, hr, hb =>
        have c1 := p_IndexByte (Γ := Γ) hexL a
        have c2 := p_IndexByte (Γ := Γ) hexL b
        rw [dg_index] at c1 c2
        have b1 := dg_bound a
        have b2 := dg_bound b
        have hh := ih r (w ++ [pairI a b]) (by simp at hr; omega) (by simp at hb ⊢; omega)
        have e := byteI_wrap (dg a * 16 + dg b)
        have q1 : (2 : Int) ≤ ((r.length : Int) + 1 + 1) := by omega
        have q2 : 2 ≤ r.length + 1 + 1 := by omega
        rw [unS]
        refine .go 60 ?_
        simp [q1]
        refine .dr 60 ?_
        simp
        refine .call (by simp [byteA]) c1 ?_
        simp
        refine .call (by simp [byteA]) c2 ?_
        simp at hb
        simp (disch := omega) [e]
        refine .reLoop ?_
        simp
        refine .reset (i := 0) rfl (by simp) (by simp) (by simp) ?_
        simp [pairI] at hh ⊢
        exact hh
  refine .run 60 c_ident_unspelled (by simp) ?_
  simp
  refine .call 60 (by simp) (p_CutPrefix s markL) ?_
  simp
  refine .inLoop ?_
  have hl : (Lib.trimPrefix s markL).length ≤ s.length := by unfold Lib.trimPrefix; split <;> simp
  have hh := key _ (Lib.trimPrefix s markL) [] (Nat.le_refl _) (by simp; omega)
  simp at hh ⊢
  exact hh
end Go.Proofs.YtenpljbbboibiaaDoor
/- Names: reading, of both; words. -/
namespace Go.Proofs.YtenpljbbboibiaaDoor
open Go.AM Go.Proofs
variable {Γ : Nat → Option AV}
set_option linter.unusedSimpArgs false
set_option linter.unusedVariables false

theorem legal_name {f : Int} {s : List UInt8} (h : legalB f s = true) : nameB s = true := by
  simp only [legalB, Bool.and_eq_true] at h; exact h.2.1

set_option maxRecDepth 8000 in
theorem p_Read (hΓ : KeptG Γ) (f : Int) (s : List UInt8) (hs : s.length < 2 ^ 20) : PureCon Tryd.prog Γ n_ident_Read [.int .i64 f, .str s] (.tup [.str (readS f s).1, .int .i64 (readS f s).2]) := by
  refine .run 120 c_ident_Read (by simp) ?_
  simp
  refine .call 120 (by simp) (p_known f) ?_
  unfold readS
  cases hk : knownB f with
  | false => simp; exact .back (by simp)
  | true =>
    have two : ∀ f : Int, (f = 2 ∨ f = 3) → PureCon Tryd.prog Γ n_ident_Legal [.int .i64 f, .str s] (.bool (legalB f s)) := fun f _ => p_Legal hΓ f s
    have hu := p_unspelled (Γ := Γ) s hs
    have hN := p_Name (Γ := Γ) s
    have hb : ∀ f : Int, backS f s = if unS (Lib.trimPrefix s markL) ≠ [] ∧ spellS f (unS (Lib.trimPrefix s markL)) = (s, 0) then some (unS (Lib.trimPrefix s markL)) else none := fun f => rfl
    generalize unS (Lib.trimPrefix s markL) = n at *
    rcases known_cases hk with rfl | rfl | rfl | rfl | rfl
    · simp; refine .call 120 (by simp) hN ?_; cases h : nameB s <;> simp <;> exact .back (by simp)
    · simp; refine .call 120 (by simp) hN ?_; cases h : nameB s <;> simp <;> exact .back (by simp)
    · have hL := p_Legal hΓ 2 s
      have hS := p_Spell hΓ 2 n
      simp
      refine .call 120 (by simp) hu ?_
      by_cases hn : n = []
      · rw [hb, if_neg (by simp [hn])]
        simp [hn]
        refine .call 120 (by simp) hL ?_
        cases hl : legalB 2 s with
        | false => simp; exact .back (by simp)
        | true => simp; refine .call 120 (by simp) hN ?_; simp [legal_name hl]; exact .back (by simp)
      · simp [hn]
        refine .call 120 (by simp) hS ?_
        by_cases he : (spellS 2 n).2 = 0
        · by_cases ht : (spellS 2 n).1 = s
          · rw [hb, if_pos ⟨hn, Prod.ext ht he⟩]
            simp [he, ht]
            exact .back (by simp)
          · rw [hb, if_neg (by rintro ⟨_, h⟩; exact ht (by rw [h]))]
            simp [he, ht]
            refine .call 120 (by simp) hL ?_
            cases hl : legalB 2 s with
            | false => simp; exact .back (by simp)
            | true => simp; refine .call 120 (by simp) hN ?_; simp [legal_name hl]; exact .back (by simp)
        · rw [hb, if_neg (by rintro ⟨_, h⟩; exact he (by rw [h]))]
          simp [he]
          refine .call 120 (by simp) hL ?_
          cases hl : legalB 2 s with
          | false => simp; exact .back (by simp)
          | true => simp; refine .call 120 (by simp) hN ?_; simp [legal_name hl]; exact .back (by simp)
    · have hL := p_Legal hΓ 3 s
      have hS := p_Spell hΓ 3 n
      simp
      refine .call 120 (by simp) hu ?_
      by_cases hn : n = []
      · rw [hb, if_neg (by simp [hn])]
        simp [hn]
        refine .call 120 (by simp) hL ?_
        cases hl : legalB 3 s with
        | false => simp; exact .back (by simp)
        | true => simp; refine .call 120 (by simp) hN ?_; simp [legal_name hl]; exact .back (by simp)
      · simp [hn]
        refine .call 120 (by simp) hS ?_
        by_cases he : (spellS 3 n).2 = 0
        · by_cases ht : (spellS 3 n).1 = s
          · rw [hb, if_pos ⟨hn, Prod.ext ht he⟩]
            simp [he, ht]
            exact .back (by simp)
          · rw [hb, if_neg (by rintro ⟨_, h⟩; exact ht (by rw [h]))]
            simp [he, ht]
            refine .call 120 (by simp) hL ?_
            cases hl : legalB 3 s with
            | false => simp; exact .back (by simp)
            | true => simp; refine .call 120 (by simp) hN ?_; simp [legal_name hl]; exact .back (by simp)
        · rw [hb, if_neg (by rintro ⟨_, h⟩; exact he (by rw [h]))]
          simp [he]
          refine .call 120 (by simp) hL ?_
          cases hl : legalB 3 s with
          | false => simp; exact .back (by simp)
          | true => simp; refine .call 120 (by simp) hN ?_; simp [legal_name hl]; exact .back (by simp)
    · simp; refine .call 120 (by simp) hN ?_; cases h : nameB s <;> simp <;> exact .back (by simp)

theorem p_r04_digit (c : UInt8) : PureCon Tryd.prog Γ n_r04_digit [byteA c] (.int .i64 (dg c)) := by
  refine .run 60 c_r04_digit (by simp) ?_
  simp
  refine .call 60 (by simp [byteA]) (p_r02_Digit c) ?_
  have hc := c.toNat_lt
  unfold dg dgN
  cases h : digC c with
  | true =>
    simp only [digC, Bool.and_eq_true, decide_eq_true_eq, UInt8.le_iff_toNat_le, show (48 : UInt8).toNat = 48 from rfl, show (57 : UInt8).toNat = 57 from rfl] at h
    have e : IntKind.i64.wrap (IntKind.u8.wrap ((c.toNat : Int) - 48)) = (c.toNat : Int) - 48 := by
      have : ∀ n : Fin 256, 48 ≤ n.val ∧ n.val ≤ 57 → IntKind.i64.wrap (IntKind.u8.wrap ((n.val : Int) - 48)) = (n.val : Int) - 48 := by decide +kernel
      exact this ⟨c.toNat, hc⟩ h
    simp [e, h]
    exact .back (by simp)
  | false =>
    have h' : ¬ (48 ≤ c.toNat ∧ c.toNat ≤ 57) := by
      intro h2
      simp [digC, UInt8.le_iff_toNat_le, h2] at h
    rw [if_neg h']
    by_cases a1 : 97 ≤ c
    · have a1' : 97 ≤ c.toNat := by simpa [UInt8.le_iff_toNat_le] using a1
      by_cases a2 : c ≤ 102
      · have a2' : c.toNat ≤ 102 := by simpa [UInt8.le_iff_toNat_le] using a2
        have e : IntKind.i64.wrap (IntKind.i64.wrap (IntKind.u8.wrap ((c.toNat : Int) - 97)) + 10) = (c.toNat : Int) - 87 := by
          have : ∀ n : Fin 256, 97 ≤ n.val ∧ n.val ≤ 102 → IntKind.i64.wrap (IntKind.i64.wrap (IntKind.u8.wrap ((n.val : Int) - 97)) + 10) = (n.val : Int) - 87 := by decide +kernel
          exact this ⟨c.toNat, hc⟩ ⟨a1', a2'⟩
        simp [a1, a2, a1', a2', e]
        exact .back (by simp)
      · have a2' : ¬ c.toNat ≤ 102 := by simpa [UInt8.le_iff_toNat_le] using a2
        simp [a1, a2, a1', a2']
        exact .back (by simp)
    · have a1' : ¬ 97 ≤ c.toNat := by simpa [UInt8.le_iff_toNat_le] using a1
      simp [a1, a1']
      exact .back (by simp)

theorem unBytes_one (c : UInt8) : unBytes [AV.int .u8 (c.toNat : Int)] = some [c] := unBytes_map [c]
set_option maxRecDepth 8000 in
theorem p_r04_unhex (s : List UInt8) (hs : s.length < 2 ^ 20) : PureCon Tryd.prog Γ n_r04_unhex [.str s] (.tup [.str (unhexF s []).1, .bool (unhexF s []).2]) := by
  have key : ∀ n : Nat, ∀ i, s.length ≤ i + n → i ≤ s.length → i % 2 = 0 → ∀ w : List UInt8, w.length < 2 ^ 20 + i → Fins Tryd.prog Γ (r04_unhex_L1 (.str s) (.str w) (.int .i64 i) []) (.ret (.tup [.str (unhexF (s.drop i) w).1, .bool (unhexF (s.drop i) w).2])) := by
    intro n
    induction n with
    | zero =>
      intro i hi hi2 hp w hw
      obtain rfl : i = s.length := by omega
      have q1 : ¬ (s.length : Int) + 1 < s.length := by omega
      have q2 : ((s.length : Int).tmod 2 = 0) = True := eq_true (by rw [Int.tmod_eq_emod_of_nonneg (by omega)]; omega)
      have q3 : ((s.length : Int) % 2 = 0) = True := eq_true (by omega)
      rw [List.drop_length, unhexF]
      refine .go 60 ?_
      simp (disch := omega) [q1, q2]
      exact .back (by simp [q3])
    | succ n ih =>
      intro i hi hi2 hp w hw
      by_cases h1 : i + 1 < s.length
      · have q0 : i < s.length := by omega
        have q1 : ((i : Int) + 1 < s.length) = True := eq_true (by omega)
        have hh := ih (i + 2) (by omega) (by omega) (by omega) (w ++ [pairI s[i] s[i + 1]]) (by simp; omega)
        have d1 := p_r04_digit (Γ := Γ) s[i]
        have d2 := p_r04_digit (Γ := Γ) s[i + 1]
        have e0 : s.drop i = s[i] :: s[i + 1] :: s.drop (i + 2) := by rw [List.drop_eq_getElem_cons q0, List.drop_eq_getElem_cons h1]
        have b1 := dg_bound s[i]
        have b2 := dg_bound s[i + 1]
        have e := byteI_wrap (dg s[i] * 16 + dg s[i + 1])
        rw [Int.mul_comm] at e
        have e2 : pairI s[i] s[i + 1] = byteI (16 * dg s[i] + dg s[i + 1]) := by unfold pairI; rw [Int.mul_comm]
        have q3 : ((i : Int) + 1).toNat = i + 1 := by omega
        rw [e0, unhexF]
        by_cases g1 : dg s[i] < 0
        · refine .go 60 ?_
          simp (disch := omega) [q1, q0]
          refine .call 60 (by simp [byteA]) d1 ?_
          simp [g1]
          exact .back (by simp)
        · by_cases g2 : dg s[i + 1] < 0
          · refine .go 60 ?_
            simp (disch := omega) [q1, q0]
            refine .call 60 (by simp [byteA]) d1 ?_
            simp (disch := omega) [g1, q3, h1]
            refine .call 60 (by simp [byteA]) d2 ?_
            simp [g1, g2]
            exact .back (by simp)
          · refine .go 60 ?_
            simp (disch := omega) [q1, q0]
            refine .call 60 (by simp [byteA]) d1 ?_
            simp (disch := omega) [g1, q3, h1]
            refine .call 60 (by simp [byteA]) d2 ?_
            simp (disch := omega) [g1, g2, q0, q3, h1]
            refine .dr 60 ?_
            simp (disch := omega) [q0]
            refine .call (by simp [byteA]) d1 ?_
            simp (disch := omega) [q3, h1]
            refine .call (by simp [byteA]) d2 ?_
            simp (disch := omega) [e, byteA, unBytes_one]
            refine .reLoop ?_
            simp at hh ⊢
            rw [e2] at hh ⊢
            exact hh
      · have q1 : ((i : Int) + 1 < s.length) = False := eq_false (by omega)
        by_cases h2 : i = s.length
        · subst h2
          rw [List.drop_length, unhexF]
          have q3 : ((s.length : Int) % 2 = 0) = True := eq_true (by omega)
          refine .go 60 ?_
          simp (disch := omega) [q1]
          exact .back (by simp [q3])
        · have q0 : i < s.length := by omega
          have e0 : s.drop i = [s[i]] := by rw [List.drop_eq_getElem_cons q0, List.drop_eq_nil_of_le (by omega)]
          have q3 : ((s.length : Int) % 2 = 0) = False := eq_false (by omega)
          rw [e0, unhexF]
          refine .go 60 ?_
          simp (disch := omega) [q1]
          exact .back (by simp [q3])
  refine .run 60 c_r04_unhex (by simp) ?_
  simp
  refine .inLoop ?_
  have hh := key s.length 0 (by omega) (by omega) rfl [] (by simp)
  simp at hh ⊢
  exact hh

theorem unhexF_len : ∀ (n : Nat) (s out : List UInt8), s.length ≤ n → (unhexF s out).1.length ≤ s.length + out.length := by
  intro n
  induction n with
  | zero => intro s out h; obtain rfl : s = [] := List.length_eq_zero_iff.1 (by omega); simp [unhexF]
  | succ n ih =>
    intro s out h
    match s, h with
    | [], _ => simp [unhexF]
    | [a], _ => simp [unhexF]
    | a :: b :: r, h =>
      rw [unhexF]
      split
      · simp
      · have := ih r (out ++ [pairI a b]) (by simp at h; omega)
        simp at this ⊢
        omega
set_option maxRecDepth 8000 in
theorem p_r04_Read (f : Int) (s : List UInt8) (hs : s.length < 2 ^ 20) : PureCon Tryd.prog Γ n_r04_Read [.int .i64 f, .str s] (.tup [.str (readS f s).1, .int .i64 (readS f s).2]) := by
  refine .run 120 c_r04_Read (by simp) ?_
  simp
  refine .call 120 (by simp) (p_r04_known f) ?_
  unfold readS
  cases hk : knownB f with
  | false => simp; exact .back (by simp)
  | true =>
    have hN := p_r04_Name (Γ := Γ) s (by omega)
    by_cases hf : f = 2 ∨ f = 3
    · have h4 : ¬ f = 4 := by omega
      have h0 : ¬ f = 0 := by omega
      have h1 : ¬ f = 1 := by omega
      have hL := p_r04_Legal (Γ := Γ) f s (by omega)
      by_cases h3 : 3 < s.length
      · have hu := p_r04_unhex (Γ := Γ) (s.drop 3) (by simp; omega)
        have hln := unhexF_len _ (s.drop 3) [] (Nat.le_refl _)
        have hS := p_r04_Spell (Γ := Γ) f (unhexF (s.drop 3) []).1 (by simp at hln; omega)
        have hb := back_ref hf h3
        have hbs := fun n => back_some hf (s := s) (n := n)
        have q3 : ((3 : Int) < s.length) = True := eq_true (by omega)
        have q4 : 3 ≤ s.length := by omega
        simp (disch := omega) [h4, h0, h1, q3, q4]
        refine .call 120 (by simp) hu ?_
        simp
        refine .call 120 (by simp) hS ?_
        generalize unhexF (s.drop 3) [] = p at *
        obtain ⟨n, ok⟩ := p
        simp only at hb hbs hS ⊢
        have hno : ¬ (ok = true ∧ spellS f n = (s, 0)) → backS f s = none := by
          intro h
          cases hq : backS f s with
          | none => rfl
          | some m =>
            have := hbs m hq h3
            simp only [Prod.mk.injEq] at this
            obtain ⟨rfl, rfl⟩ := this
            exact absurd (hb.2 hq) h
        have tail : Fins Tryd.prog Γ (.cl n_r04_Legal [.int .i64 f, .str s] [] []) (.ret (.bool true)) → True := fun _ => trivial
        cases ok with
        | false =>
          rw [hno (by simp)]
          simp [hf]
          refine .call 120 (by simp) hL ?_
          cases hl : legalB f s <;> simp <;> exact .back (by simp)
        | true =>
          by_cases he : (spellS f n).2 = 0
          · by_cases ht : (spellS f n).1 = s
            · rw [hb.1 ⟨rfl, Prod.ext ht he⟩]
              simp [he, ht, hf]
              exact .back (by simp)
            · rw [hno (by rintro ⟨_, h⟩; exact ht (by rw [h]))]
              simp [he, ht, hf]
              refine .call 120 (by simp) hL ?_
              cases hl : legalB f s <;> simp <;> exact .back (by simp)
          · rw [hno (by rintro ⟨_, h⟩; exact he (by rw [h]))]
            simp [he, hf]
            refine .call 120 (by simp) hL ?_
            cases hl : legalB f s <;> simp <;> exact .back (by simp)
      · have q3 : ((3 : Int) < s.length) = False := eq_false (by omega)
        rw [back_none hf h3]
        simp [q3, h4, h0, h1, hf]
        refine .call 120 (by simp) hL ?_
        cases hl : legalB f s <;> simp <;> exact .back (by simp)
    · rcases known_cases hk with rfl | rfl | rfl | rfl | rfl
      · simp; refine .call 120 (by simp) hN ?_; cases h : nameB s <;> simp <;> exact .back (by simp)
      · simp; refine .call 120 (by simp) hN ?_; cases h : nameB s <;> simp <;> exact .back (by simp)
      · simp at hf
      · simp at hf
      · simp; refine .call 120 (by simp) hN ?_; cases h : nameB s <;> simp <;> exact .back (by simp)
end Go.Proofs.YtenpljbbboibiaaDoor
/- Names: words; numbers in digits; what is contained. -/
namespace Go.Proofs.YtenpljbbboibiaaDoor
open Go.AM Go.Proofs
variable {Γ : Nat → Option AV}
set_option linter.unusedSimpArgs false
set_option linter.unusedVariables false

/-- A token. -/
structure Tk where
  kind : Int
  text : List UInt8
  at_ : Int
@[simp] abbrev eTk (t : Tk) : AV := .agg [.int .i64 t.kind, .str t.text, .int .i64 t.at_]
def wordS (f : Int) (t : Tk) : List UInt8 × Int :=
  if t.kind = 2 ∧ f = 4 then readS f t.text else if t.kind ≠ 0 then ([], 4) else if f = 4 ∧ legalB 4 t.text = false then ([], 4) else readS f t.text
theorem p_Word (hΓ : KeptG Γ) (f : Int) (t : Tk) (hs : t.text.length < 2 ^ 20) : PureCon Tryd.prog Γ n_ident_Word [.int .i64 f, eTk t] (.tup [.str (wordS f t).1, .int .i64 (wordS f t).2]) := by
  obtain ⟨k, s, a⟩ := t
  have hR := p_Read hΓ f s hs
  refine .run 120 c_ident_Word (by simp) ?_
  unfold wordS
  by_cases h2 : k = 2
  · by_cases h4 : f = 4
    · simp [h2, h4]
      rw [h4] at hR
      refine .call 120 (by simp) hR ?_
      simp
      exact .back (by simp)
    · simp [h2, h4]
      exact .back (by simp)
  · by_cases h0 : k = 0
    · by_cases h4 : f = 4
      · simp [h2, h4, h0]
        rw [h4] at hR
        refine .call 120 (by simp) (p_Legal hΓ 4 s) ?_
        cases hl : legalB 4 s with
        | true => simp; refine .call 120 (by simp) hR ?_; simp; exact .back (by simp)
        | false => simp; exact .back (by simp)
      · simp [h2, h4, h0]
        refine .call 120 (by simp) hR ?_
        simp
        exact .back (by simp)
    · simp [h2, h0]
      exact .back (by simp)
theorem p_r04_Word (f : Int) (t : Tk) (hs : t.text.length < 2 ^ 20) : PureCon Tryd.prog Γ n_r04_Word [.int .i64 f, eTk t] (.tup [.str (wordS f t).1, .int .i64 (wordS f t).2]) := by
  obtain ⟨k, s, a⟩ := t
  have hR := p_r04_Read (Γ := Γ) f s hs
  refine .run 120 c_r04_Word (by simp) ?_
  unfold wordS
  by_cases h2 : k = 2
  · by_cases h4 : f = 4
    · simp [h2, h4]
      rw [h4] at hR
      refine .call 120 (by simp) hR ?_
      simp
      exact .back (by simp)
    · simp [h2, h4]
      exact .back (by simp)
  · by_cases h0 : k = 0
    · by_cases h4 : f = 4
      · simp [h2, h4, h0]
        rw [h4] at hR
        refine .call 120 (by simp) (p_r04_Legal 4 s (by simp at hs; omega)) ?_
        cases hl : legalB 4 s with
        | true => simp; refine .call 120 (by simp) hR ?_; simp; exact .back (by simp)
        | false => simp; exact .back (by simp)
      · simp [h2, h4, h0]
        refine .call 120 (by simp) hR ?_
        simp
        exact .back (by simp)
    · simp [h2, h0]
      exact .back (by simp)

/-! ### Contains -/
def idxS (s : List UInt8) : List (List UInt8) → Nat → Int
  | [], _ => -1
  | a :: l, i => if s = a then (i : Int) else idxS s l (i + 1)
theorem idxS_has (s : List UInt8) : ∀ (l : List (List UInt8)) (i : Nat), decide (0 ≤ idxS s l i) = l.contains s
  | [], i => by simp [idxS]
  | a :: l, i => by
    rw [idxS, List.contains_cons]
    by_cases h : s = a
    · rw [if_pos h]; simp [h]
    · rw [if_neg h, idxS_has s l (i + 1)]
      have : (s == a) = false := by simpa using h
      rw [this]; rfl
theorem p_IndexS (l : List (List UInt8)) (s : List UInt8) {k : Nat} (hk : Kd 1 k l) (hl : l.length < 2 ^ 40) : PureCon Tryd.prog Γ n_slices_Index_string_string [.list false k (l.map .str), .str s] (.int .i64 (idxS s l 0)) := by
  have key : ∀ n i : Nat, i + n = l.length → Fins Tryd.prog Γ (slices_Index_string_string_L1 (.list false k (l.map .str)) (.str s) (.int .i64 l.length) (.int .i64 i) []) (.ret (.int .i64 (idxS s (l.drop i) i))) := by
    intro n
    induction n with
    | zero =>
      intro i hi
      have q1 : ¬ i < l.length := by omega
      rw [List.drop_eq_nil_of_le (by omega), idxS]
      refine .go 60 ?_
      simp [q1]
      exact .back (by simp)
    | succ n ih =>
      intro i hi
      have q1 : i < l.length := by omega
      have q2 := eq_true (hk.of q1)
      have hh := ih (i + 1) (by omega)
      rw [List.drop_eq_getElem_cons q1, idxS]
      refine .go 60 ?_
      by_cases h : s = l[i]
      · simp [q1, q2, h]
        exact .back (by simp)
      · simp (disch := omega) [q1, q2, h]
        refine .reLoop ?_
        simp at hh ⊢
        exact hh
  refine .run 60 c_slices_Index_string_string (by simp) ?_
  simp
  refine .inLoop ?_
  have hh := key l.length 0 (by omega)
  simp at hh ⊢
  exact hh
theorem p_ContainsS (l : List (List UInt8)) (s : List UInt8) {k : Nat} (hk : Kd 1 k l) (hl : l.length < 2 ^ 40) : PureCon Tryd.prog Γ n_slices_Contains_string_string [.list false k (l.map .str), .str s] (.bool (l.contains s)) := by
  refine .run 60 c_slices_Contains_string_string (by simp) ?_
  simp
  refine .call 60 (by simp) (p_IndexS l s hk hl) ?_
  have e := idxS_has s l 0
  simp [e]
  exact .back (by simp)

/-! ### Digits -/
theorem dec_big {n : Nat} (h : ¬ n < 10) : Lib.decDigits n = Lib.decDigits (n / 10) ++ [UInt8.ofNat (48 + n % 10)] := by rw [Lib.decDigits, dif_neg h]
theorem dec_small {n : Nat} (h : n < 10) : Lib.decDigits n = [UInt8.ofNat (48 + n)] := by rw [Lib.decDigits, dif_pos h]
def decC (m : Nat) : UInt8 := UInt8.ofNat (48 + m)
theorem dec_big' {n : Nat} (h : ¬ n < 10) : Lib.decDigits n = Lib.decDigits (n / 10) ++ [decC (n % 10)] := dec_big h
theorem dec_small' {n : Nat} (h : n < 10) : Lib.decDigits n = [decC n] := dec_small h
theorem dig_byte (n : Nat) : IntKind.u8.wrap (48 + (n : Int) % 10) = ((decC (n % 10)).toNat : Int) := by
  have h : ∀ m : Fin 10, IntKind.u8.wrap (48 + (m.val : Int)) = ((decC m.val).toNat : Int) := by decide +kernel
  have := h ⟨n % 10, by omega⟩
  simpa using this
set_option maxRecDepth 8000 in
theorem p_r02_Put (n : Nat) (hn : n ≤ 2147483647) : PureCon Tryd.prog Γ n_r02_Put [.int .i64 n] (.tup [.str (Lib.decDigits n), .int .i64 0]) := by
  have key : ∀ m n : Nat, n ≤ m → n ≤ 2147483647 → ∀ s : List UInt8, s.length + n < 2 ^ 40 → Fins Tryd.prog Γ (r02_Put_L1 (.int .i64 n) (.str s) []) (.ret (.tup [.str ((if n = 0 then [] else Lib.decDigits n) ++ s), .int .i64 0])) := by
    intro m
    induction m with
    | zero =>
      intro n h1 h2 s hs
      obtain rfl : n = 0 := by omega
      refine .go 60 ?_
      simp
      exact .back (by simp)
    | succ m ih =>
      intro n h1 h2 s hs
      by_cases h0 : n = 0
      · subst h0
        refine .go 60 ?_
        simp
        exact .back (by simp)
      · have q0 : 0 < n := by omega
        have e := dig_byte n
        have hh := ih (n / 10) (by omega) (by omega) (decC (n % 10) :: s) (by simp; omega)
        have e2 : (if n = 0 then [] else Lib.decDigits n) ++ s = (if n / 10 = 0 then [] else Lib.decDigits (n / 10)) ++ decC (n % 10) :: s := by
          rw [if_neg h0]
          by_cases h9 : n < 10
          · rw [dec_small' h9, if_pos (by omega), show n % 10 = n by omega]; rfl
          · rw [dec_big' h9, if_neg (by omega)]; simp
        rw [e2]
        refine .go 60 ?_
        simp (disch := omega) [q0, e, unBytes_one, show (n : Int).tmod 10 = (n : Int) % 10 from Int.tmod_eq_emod_of_nonneg (by omega), show (n : Int).tdiv 10 = (n : Int) / 10 from Int.tdiv_eq_ediv_of_nonneg (by omega)]
        refine .reLoop ?_
        simp at hh ⊢
        exact hh
  have q1 : ¬ (n : Int) < 0 := by omega
  have q2 : ((2147483647 : Int) < n) = False := eq_false (by omega)
  have e := dig_byte n
  refine .run 60 c_r02_Put (by simp) ?_
  simp (disch := omega) [q1, q2, e, unBytes_one, show (n : Int).tmod 10 = (n : Int) % 10 from Int.tmod_eq_emod_of_nonneg (by omega), show (n : Int).tdiv 10 = (n : Int) / 10 from Int.tdiv_eq_ediv_of_nonneg (by omega)]
  refine .inLoop ?_
  have hh := key (n / 10) (n / 10) (Nat.le_refl _) (by omega) [decC (n % 10)] (by simp; omega)
  have e2 : (if n / 10 = 0 then [] else Lib.decDigits (n / 10)) ++ [decC (n % 10)] = Lib.decDigits n := by
    by_cases h9 : n < 10
    · rw [dec_small' h9, if_pos (by omega), show n % 10 = n by omega]; rfl
    · rw [dec_big' h9, if_neg (by omega)]
  rw [e2] at hh
  simp at hh ⊢
  exact hh
end Go.Proofs.YtenpljbbboibiaaDoor
/- Names: a fresh one. -/
namespace Go.Proofs.YtenpljbbboibiaaDoor
open Go.AM Go.Proofs
variable {Γ : Nat → Option AV}
set_option linter.unusedSimpArgs false
set_option linter.unusedVariables false

theorem dec_inj : ∀ (m a b : Nat), a ≤ m → Lib.decDigits a = Lib.decDigits b → a = b := by
  have hd : ∀ x y : Nat, x < 10 → y < 10 → decC x = decC y → x = y := by
    intro x y hx hy h
    have : ∀ x y : Fin 10, decC x.val = decC y.val → x.val = y.val := by decide +kernel
    exact this ⟨x, hx⟩ ⟨y, hy⟩ h
  intro m
  induction m with
  | zero =>
    intro a b ha h
    obtain rfl : a = 0 := by omega
    by_cases hb : b < 10
    · rw [dec_small' (by omega), dec_small' hb] at h
      exact hd _ _ (by omega) hb (by simpa using h)
    · rw [dec_small' (by omega), dec_big' hb] at h
      have := congrArg List.length h
      have h2 : 1 ≤ (Lib.decDigits (b / 10)).length := by
        by_cases h3 : b / 10 < 10
        · rw [dec_small' h3]; simp
        · rw [dec_big' h3]; simp
      simp only [List.length_append, List.length_cons, List.length_nil] at this; omega
  | succ m ih =>
    have hne : ∀ n, 1 ≤ (Lib.decDigits n).length := by
      intro n
      by_cases h3 : n < 10
      · rw [dec_small' h3]; simp
      · rw [dec_big' h3]; simp
    intro a b ha h
    by_cases h1 : a < 10
    · by_cases hb : b < 10
      · rw [dec_small' h1, dec_small' hb] at h
        exact hd _ _ h1 hb (by simpa using h)
      · rw [dec_small' h1, dec_big' hb] at h
        have := congrArg List.length h
        have := hne (b / 10)
        simp only [List.length_append, List.length_cons, List.length_nil] at *; omega
    · by_cases hb : b < 10
      · rw [dec_small' hb, dec_big' h1] at h
        have := congrArg List.length h
        have := hne (a / 10)
        simp only [List.length_append, List.length_cons, List.length_nil] at *; omega
      · rw [dec_big' h1, dec_big' hb] at h
        have h2 := List.append_inj' h rfl
        have h3 := ih (a / 10) (b / 10) (by omega) h2.1
        have h4 := hd _ _ (by omega) (by omega) (List.cons.inj h2.2).1
        omega
theorem nodup_sub {α : Type} [DecidableEq α] : ∀ (l m : List α), l.Nodup → (∀ x ∈ l, x ∈ m) → l.length ≤ m.length
  | [], m, _, _ => Nat.zero_le _
  | x :: l, m, hn, hs => by
    have hx := hs x (List.mem_cons_self ..)
    rw [List.nodup_cons] at hn
    have := nodup_sub l (m.erase x) hn.2 (fun y hy => (List.mem_erase_of_ne (by rintro rfl; exact hn.1 hy)).2 (hs y (List.mem_cons_of_mem _ hy)))
    rw [List.length_erase_of_mem hx] at this
    have hp := List.length_pos_of_mem hx
    rw [List.length_cons]; omega

def frS (used : List (List UInt8)) (stem : List UInt8) : Nat → Nat → List UInt8
  | 0, k => stem ++ Lib.decDigits k
  | n + 1, k => if used.contains (stem ++ Lib.decDigits k) = true then frS used stem n (k + 1) else stem ++ Lib.decDigits k
def freshS (used : List (List UInt8)) (stem : List UInt8) : List UInt8 := frS used stem used.length 1
theorem frS_not {used : List (List UInt8)} {stem : List UInt8} : ∀ (n k : Nat), frS used stem n k ∈ used → ∀ j, k ≤ j → j ≤ k + n → stem ++ Lib.decDigits j ∈ used
  | 0, k, h, j, h1, h2 => by obtain rfl : j = k := by omega
                             exact h
  | n + 1, k, h, j, h1, h2 => by
    rw [frS] at h
    split at h
    · rename_i hc
      by_cases hj : j = k
      · subst hj; simpa using hc
      · exact frS_not n (k + 1) h j (by omega) (by omega)
    · rename_i hc
      exact absurd (by simpa using h) hc
theorem fresh_not (used : List (List UInt8)) (stem : List UInt8) : freshS used stem ∉ used := by
  intro h
  have h1 := frS_not used.length 1 h
  have h2 := nodup_sub ((List.range (used.length + 1)).map fun j => stem ++ Lib.decDigits (j + 1)) used (by
    rw [List.nodup_iff_pairwise_ne, List.pairwise_map]
    refine List.Pairwise.imp ?_ (List.nodup_iff_pairwise_ne.1 List.nodup_range)
    intro a b hab he
    exact hab (by have := dec_inj _ (a + 1) (b + 1) (Nat.le_refl _) (List.append_cancel_left he); omega)) (by
    intro x hx
    obtain ⟨j, hj, rfl⟩ := List.mem_map.1 hx
    have := List.mem_range.1 hj
    exact h1 (j + 1) (by omega) (by omega))
  simp only [List.length_map, List.length_range] at h2
  omega
theorem frS_form {used : List (List UInt8)} {stem : List UInt8} : ∀ (n k : Nat), ∃ j, k ≤ j ∧ j ≤ k + n ∧ frS used stem n k = stem ++ Lib.decDigits j
  | 0, k => ⟨k, by omega, by omega, rfl⟩
  | n + 1, k => by
    rw [frS]
    split
    · obtain ⟨j, h1, h2, h3⟩ := frS_form (used := used) (stem := stem) n (k + 1)
      exact ⟨j, by omega, by omega, h3⟩
    · exact ⟨k, by omega, by omega, rfl⟩
theorem dec_len {n : Nat} (h : n < 100) : (Lib.decDigits n).length ≤ 2 := by
  by_cases h3 : n < 10
  · rw [dec_small' h3]; simp
  · rw [dec_big' h3, dec_small' (by omega)]; simp

set_option maxRecDepth 8000 in
theorem p_r04_Fresh (used : List (List UInt8)) (stem : List UInt8) {kd : Nat} (hk : Kd 1 kd used) (hl : used.length < 90) (hs : stem.length < 2 ^ 40) : PureCon Tryd.prog Γ n_r04_Fresh [.list false kd (used.map .str), .str stem] (.str (freshS used stem)) := by
  have key : ∀ n k : Nat, k + n = used.length + 1 → 1 ≤ k → Fins Tryd.prog Γ (r04_Fresh_L2 (.list false kd (used.map .str)) (.str stem) (.int .i64 k) []) (.ret (.str (frS used stem n k))) := by
    intro n
    induction n with
    | zero =>
      intro k hn h1
      have q1 : ¬ k ≤ used.length := by omega
      have hp := p_r02_Put (Γ := Γ) k (by omega)
      have hd := dec_len (n := k) (by omega)
      rw [show (k : Int) = (used.length : Int) + 1 by omega] at hp
      refine .go 60 ?_
      simp (disch := omega) [q1]
      refine .call 60 (by simp) hp ?_
      simp (disch := omega)
      exact .back (by simp [frS])
    | succ n ih =>
      intro k hn h1
      have q1 : k ≤ used.length := by omega
      have hp := p_r02_Put (Γ := Γ) k (by omega)
      have hd := dec_len (n := k) (by omega)
      have hh := ih (k + 1) (by omega) (by omega)
      have hc := p_r01_Has (Γ := Γ) used (stem ++ Lib.decDigits k) hk (by omega)
      rw [frS]
      refine .go 60 ?_
      simp (disch := omega) [q1]
      refine .call 60 (by simp) hp ?_
      simp (disch := omega)
      refine .call 60 (by simp) hc ?_
      by_cases h : stem ++ Lib.decDigits k ∈ used
      · simp (disch := omega) [h]
        refine .reLoop ?_
        simp at hh ⊢
        exact hh
      · simp (disch := omega) [h]
        exact .back (by simp [h])
  refine .run 60 c_r04_Fresh (by simp) ?_
  simp
  refine .inLoop ?_
  have hh := key used.length 1 (by omega) (by omega)
  unfold freshS
  simp at hh ⊢
  exact hh

abbrev upFr (used : List (List UInt8)) (kd : Nat) (stem : List UInt8) : List Fr := [⟨.run, n_ident_Fresh, [It.inRange 4, It.inBlock 0 [], It.code ((ACode.reg ident_Fresh_p0).seq ACode.ret)],
  [.list false kd (used.map .str), .str stem, .ptr 0 0, U, .str [], .ptr 1 0, U, .str stem, .str stem, .fn (.func n_ident_names_1) [] [.ptr 2 0], U, U, U, U, U, U, U], [.mark 3], .norm, 0⟩]
abbrev hFr (used : List (List UInt8)) (kd : Nat) (fresh stem : List UInt8) (st : LoopState) (j : Jump) : List Ob := [.cells [.list false kd (used.map .str)], .cells [.str fresh], .cells [.str stem], .dfr true,
  .loop st j n_ident_Fresh [U, U, .ptr 0 0, U, .str [], .ptr 1 0, U, U, U, U, U, U, U, U, U, U, U] [10] (.reg ident_Fresh_p1) ident_Fresh_p6]
theorem r_frYes (used : List (List UInt8)) {kd : Nat} (hk : Kd 1 kd used) (hl : used.length < 90) (stem s : List UInt8) (h : s ∈ used) : ∀ up, AM.Reach Tryd.prog Γ ((Cal.yl 4).cfg [.str s] up (hFr used kd stem stem .ready .none)) (.back up (.bool true) (hFr used kd stem stem .ready .none)) := by
  intro up
  have hc := p_ContainsS (Γ := Γ) used s hk (by omega)
  simp [setAll]
  refine .goB 60 ?_
  simp
  refine .callB 60 (by simp) hc ?_
  simp [h]
theorem r_frNo (used : List (List UInt8)) {kd : Nat} (hk : Kd 1 kd used) (hl : used.length < 90) (stem s : List UInt8) (h : ¬ s ∈ used) : ∀ up, AM.Reach Tryd.prog Γ ((Cal.yl 4).cfg [.str s] up (hFr used kd stem stem .ready .none)) (.back up (.bool false) (hFr used kd s stem .done (.exit 0))) := by
  intro up
  have hc := p_ContainsS (Γ := Γ) used s hk (by omega)
  simp [setAll]
  refine .goB 60 ?_
  simp
  refine .callB 60 (by simp) hc ?_
  simp [h]
  exact .refl _

set_option maxRecDepth 8000 in
theorem p_Fresh (used : List (List UInt8)) (stem : List UInt8) {kd : Nat} (hk : Kd 1 kd used) (hl : used.length < 90) (hs : stem.length < 2 ^ 40) : PureCon Tryd.prog Γ n_ident_Fresh [.list false kd (used.map .str), .str stem] (.str (freshS used stem)) := by
  have stop : ∀ k : Nat, k < 100 → ¬ (stem ++ Lib.decDigits k ∈ used) → Fins Tryd.prog Γ (ident_names_1_L0 (.yld 4) (.ptr 2 0) (.int .i64 k) (hFr used kd stem stem .ready .none) ⟨[], .norm, 5, upFr used kd stem⟩) (.ret (.str (stem ++ Lib.decDigits k))) := by
    intro k hk1 h
    have hp := p_Itoa (Γ := Γ) k hk1
    have hd := dec_len hk1
    refine .go 60 ?_
    simp
    refine .dr 60 ?_
    simp
    refine .call (by simp) hp ?_
    simp (disch := omega)
    refine .go (.bool false) _ (r_frNo used hk hl stem _ h) ?_
    simp
    exact .back (by simp)
  have key : ∀ n k : Nat, k + n < 100 → ¬ (frS used stem n k ∈ used) → Fins Tryd.prog Γ (ident_names_1_L0 (.yld 4) (.ptr 2 0) (.int .i64 k) (hFr used kd stem stem .ready .none) ⟨[], .norm, 5, upFr used kd stem⟩) (.ret (.str (frS used stem n k))) := by
    intro n
    induction n with
    | zero =>
      intro k hn h
      exact stop k (by omega) h
    | succ n ih =>
      intro k hn h
      rw [frS] at h ⊢
      by_cases h1 : stem ++ Lib.decDigits k ∈ used
      · have h2 : used.contains (stem ++ Lib.decDigits k) = true := by simpa using h1
        rw [if_pos h2] at h ⊢
        have hh := ih (k + 1) (by omega) h
        have hp := p_Itoa (Γ := Γ) k (by omega)
        have hd := dec_len (n := k) (by omega)
        refine .go 60 ?_
        simp
        refine .dr 60 ?_
        simp
        refine .call (by simp) hp ?_
        simp (disch := omega)
        refine .go (.bool true) _ (r_frYes used hk hl stem _ h1) ?_
        simp (disch := omega)
        refine .reLoop ?_
        simp at hh ⊢
        exact hh
      · have h2 : ¬ used.contains (stem ++ Lib.decDigits k) = true := by simpa using h1
        rw [if_neg h2]
        exact stop k (by omega) h1
  refine .run 60 c_ident_Fresh (by simp) ?_
  simp
  refine .enter 60 c_ident_names ?_
  simp
  refine .enter 60 c_ident_names_1 ?_
  simp
  refine .inLoop ?_
  have hh := key used.length 1 (by omega) (fresh_not used stem)
  unfold freshS
  simp at hh ⊢
  exact hh
end Go.Proofs.YtenpljbbboibiaaDoor
/- Names: the laws, and what they say in plain words. -/
namespace Go.Proofs.YtenpljbbboibiaaDoor
open Go.AM Go.Proofs
variable {Γ : Nat → Option AV}
set_option linter.unusedSimpArgs false
set_option linter.unusedVariables false

set_option maxRecDepth 8000 in
theorem p_w04_works (hΓ : KeptG Γ) : PureCon Tryd.prog Γ n_w04_works [] (.bool true) := by
  have s1 := p_Spell hΓ 3 [97, 40, 49, 41]
  have s2 := p_Read hΓ 3 [120, 95, 95, 54, 49, 50, 56, 51, 49, 50, 57] (by simp)
  have s3 := p_Spell hΓ 4 [97, 110, 100]
  have s4 := p_Word hΓ 4 ⟨2, [97, 110, 100], 0⟩ (by simp)
  have s5 := p_Word hΓ 4 ⟨0, [97, 110, 100], 0⟩ (by simp)
  have s6 := p_Spell hΓ 7 [97]
  have s7 := p_Name (Γ := Γ) [97, 40, 49, 41]
  have s8 := p_Name (Γ := Γ) [97, 32, 98]
  have s9 := p_Legal hΓ 2 [97, 40, 49, 41]
  have s10 := p_Legal hΓ 3 [97, 40, 49, 41]
  have s11 := p_Fresh (Γ := Γ) [[110, 50], [110, 49]] [110] (kd := 1) .self (by simp) (by simp)
  have e1 : spellS 3 [97, 40, 49, 41] = ([120, 95, 95, 54, 49, 50, 56, 51, 49, 50, 57], 0) := by kernel_rfl
  have e2 : readS 3 [120, 95, 95, 54, 49, 50, 56, 51, 49, 50, 57] = ([97, 40, 49, 41], 0) := by kernel_rfl
  have e3 : spellS 4 [97, 110, 100] = ([92, 97, 110, 100, 32], 0) := by kernel_rfl
  have e4 : wordS 4 ⟨2, [97, 110, 100], 0⟩ = ([97, 110, 100], 0) := by kernel_rfl
  have e5 : wordS 4 ⟨0, [97, 110, 100], 0⟩ = ([], 4) := by kernel_rfl
  have e6 : spellS 7 [97] = ([], 9) := by kernel_rfl
  have e7 : nameB [97, 40, 49, 41] = true := by kernel_rfl
  have e8 : nameB [97, 32, 98] = false := by kernel_rfl
  have e9 : legalB 2 [97, 40, 49, 41] = true := by kernel_rfl
  have e10 : legalB 3 [97, 40, 49, 41] = false := by kernel_rfl
  have e11 : freshS [[110, 50], [110, 49]] [110] = [110, 51] := by
    have d1 : Lib.decDigits 1 = [49] := dec_small (by omega)
    have d2 : Lib.decDigits 2 = [50] := dec_small (by omega)
    have d3 : Lib.decDigits 3 = [51] := dec_small (by omega)
    simp [freshS, frS, d1, d2, d3]
  rw [e1] at s1; rw [e2] at s2; rw [e3] at s3; rw [e4] at s4; rw [e5] at s5; rw [e6] at s6; rw [e7] at s7; rw [e8] at s8; rw [e9] at s9; rw [e10] at s10; rw [e11] at s11
  refine .run 200 c_w04_works (by simp) ?_
  simp
  refine .call 200 (by simp) s1 ?_
  simp
  refine .call 200 (by simp) s2 ?_
  simp
  refine .call 200 (by simp) s3 ?_
  simp
  refine .call 200 (by simp) s4 ?_
  simp
  refine .call 200 (by simp) s5 ?_
  simp
  refine .call 200 (by simp) s6 ?_
  simp
  refine .call 200 (by simp) s7 ?_
  simp
  refine .call 200 (by simp) s8 ?_
  simp
  refine .call 200 (by simp) s9 ?_
  simp
  refine .call 200 (by simp) s10 ?_
  simp
  refine .call 200 (by simp) s11 ?_
  simp
  exact .back (by simp)

set_option maxRecDepth 8000 in
theorem l_IdentWords (hΓ : KeptG Γ) (f : Int) (t : Tk) (used : List (List UInt8)) {kd : Nat} (hk : Kd 1 kd used) (stem : List UInt8) : PureCon Tryd.prog Γ n_w04_IdentWords [.int .i64 f, eTk t, .list false kd (used.map .str), .str stem] (.bool true) := by
  obtain ⟨k, s, a⟩ := t
  refine .run 60 c_w04_IdentWords (by simp) ?_
  simp
  refine .call 60 (by simp) (p_w04_works hΓ) ?_
  by_cases h1 : 120 < s.length
  · have q1 : ((120 : Int) < s.length) = True := eq_true (by omega)
    simp [q1]; exact .back (by simp)
  have q1 : ((120 : Int) < s.length) = False := eq_false (by omega)
  by_cases h2 : 30 < used.length
  · have q2 : ((30 : Int) < used.length) = True := eq_true (by omega)
    simp [q1, q2]; exact .back (by simp)
  have q2 : ((30 : Int) < used.length) = False := eq_false (by omega)
  by_cases h3 : 120 < stem.length
  · have q3 : ((120 : Int) < stem.length) = True := eq_true (by omega)
    simp [q1, q2, q3]; exact .back (by simp)
  have q3 : ((120 : Int) < stem.length) = False := eq_false (by omega)
  have key : ∀ n i : Nat, i + n = used.length → Fins Tryd.prog Γ (w04_IdentWords_L4 (.int .i64 f) (.list false kd (used.map .str)) (.str stem) (.ptr 0 0) (.bool true) (.int .i64 i) [.cells [.int .i64 k, .str s, .int .i64 a]]) (.ret (.bool true)) := by
    intro n
    induction n with
    | zero =>
      intro i hi
      have p1 : ¬ i < used.length := by omega
      refine .go 60 ?_
      simp [p1]
      refine .call 60 (by simp) (p_Word hΓ f ⟨k, s, a⟩ (by simp; omega)) ?_
      simp
      refine .call 60 (by simp) (p_r04_Word f ⟨k, s, a⟩ (by simp; omega)) ?_
      simp
      refine .call 60 (by simp) (p_r04_Fresh used stem hk (by omega) (by omega)) ?_
      simp
      refine .call 60 (by simp) (p_Fresh used stem hk (by omega) (by omega)) ?_
      simp
      exact .back (by simp)
    | succ n ih =>
      intro i hi
      have p1 : i < used.length := by omega
      have p2 := eq_true (hk.of p1)
      have hh := ih (i + 1) (by omega)
      refine .go 60 ?_
      by_cases h4 : 120 < used[i].length
      · have q4 : ((120 : Int) < used[i].length) = True := eq_true (by omega)
        simp [p1, p2, q4]; exact .back (by simp)
      · have q4 : ((120 : Int) < used[i].length) = False := eq_false (by omega)
        simp (disch := omega) [p1, p2, q4]
        refine .reLoop ?_
        simp at hh ⊢
        exact hh
  simp [q1, q2, q3]
  refine .inLoop ?_
  have hh := key used.length 0 (by omega)
  simp at hh ⊢
  exact hh

/-! ### Spelled alike -/
theorem spell_err {f : Int} {s : List UInt8} (h : (spellS f s).2 ≠ 0) : (spellS f s).1 = [] := by
  unfold spellS at h ⊢
  split
  · rfl
  · split
    · rfl
    · rename_i h1 h2
      rw [if_neg h1, if_neg h2] at h
      exfalso
      split at h
      · split at h <;> simp at h
      · split at h <;> simp at h
theorem spell_ok {f : Int} {s : List UInt8} (h : (spellS f s).2 = 0) : nameB s = true ∧ knownB f = true := by
  unfold spellS at h
  split at h
  · simp at h
  · rename_i h1
    split at h
    · simp at h
    · rename_i h2
      exact ⟨by simpa using h1, by simpa using h2⟩
theorem name_no32 {a : List UInt8} (h : nameB a = true) : (32 : UInt8) ∉ a := by
  intro hm
  simp only [nameB, Bool.and_eq_true, Bool.not_eq_true'] at h
  have := anyB_no.1 h.1 32 hm
  simp [oddC] at this
theorem spell_forms {f : Int} {s : List UInt8} (h : (spellS f s).2 = 0) :
    (f = 4 ∧ (spellS f s).1 = 92 :: s ++ [32]) ∨ ((f = 2 ∨ f = 3) ∧ (spellS f s).1 = markL ++ hexS s) ∨ ((spellS f s).1 = s ∧ ((f = 2 ∨ f = 3) → markB s = false)) := by
  obtain ⟨h1, h2⟩ := spell_ok h
  unfold spellS at h ⊢
  simp only [h1, h2, Bool.true_eq_false, if_false] at h ⊢
  by_cases h4 : f = 4
  · rw [if_pos h4] at h ⊢
    split
    · exact .inr (.inr ⟨rfl, fun h => by omega⟩)
    · exact .inl ⟨h4, rfl⟩
  · rw [if_neg h4] at h ⊢
    split
    · rename_i hc
      exact .inr (.inl ⟨hc.1, rfl⟩)
    · rename_i hc
      refine .inr (.inr ⟨rfl, fun h5 => ?_⟩)
      cases hm : markB s with
      | false => rfl
      | true => exact absurd ⟨h5, by simp [hm]⟩ hc
theorem spell_inj {f : Int} {a b : List UInt8} (ha : (spellS f a).2 = 0) (hb : (spellS f b).2 = 0) : (spellS f a).1 = (spellS f b).1 ↔ a = b := by
  refine ⟨fun h => ?_, fun h => by rw [h]⟩
  have na := name_no32 (spell_ok ha).1
  have nb := name_no32 (spell_ok hb).1
  rcases spell_forms ha with ⟨f1, e1⟩ | ⟨f1, e1⟩ | ⟨e1, m1⟩ <;> rcases spell_forms hb with ⟨f2, e2⟩ | ⟨f2, e2⟩ | ⟨e2, m2⟩ <;> rw [e1, e2] at h
  · simpa using h
  · omega
  · exact absurd (by rw [← h]; simp) nb
  · omega
  · have := congrArg unS (List.append_cancel_left h)
    rwa [unS_hex, unS_hex] at this
  · have := m2 f1
    rw [← h, (mark_trim _).2] at this
    simp at this
  · exact absurd (by rw [h]; simp) na
  · have := m1 f2
    rw [h, (mark_trim _).2] at this
    simp at this
  · exact h
theorem spell_len {f : Int} {a : List UInt8} (ha : (spellS f a).2 = 0) : (spellS f a).1.length ≤ 2 * a.length + 3 := by
  rcases spell_forms ha with ⟨f1, e1⟩ | ⟨f1, e1⟩ | ⟨e1, m1⟩ <;> rw [e1]
  · simp; omega
  · rw [List.length_append, hexS_len]; simp; omega
  · omega

set_option maxRecDepth 8000 in
theorem l_IdentOnly (hΓ : KeptG Γ) (f : Int) (a b : List UInt8) : PureCon Tryd.prog Γ n_w04_IdentOnly [.int .i64 f, .str a, .str b] (.bool true) := by
  refine .run 60 c_w04_IdentOnly (by simp) ?_
  simp
  refine .call 60 (by simp) (p_w04_works hΓ) ?_
  by_cases h1 : 120 < a.length
  · have q1 : ((120 : Int) < a.length) = True := eq_true (by omega)
    simp [q1]; exact .back (by simp)
  have q1 : ((120 : Int) < a.length) = False := eq_false (by omega)
  by_cases h2 : 120 < b.length
  · have q2 : ((120 : Int) < b.length) = True := eq_true (by omega)
    simp [q1, q2]; exact .back (by simp)
  have q2 : ((120 : Int) < b.length) = False := eq_false (by omega)
  simp [q1, q2]
  refine .call 60 (by simp) (p_Spell hΓ f a) ?_
  simp
  refine .call 60 (by simp) (p_Spell hΓ f b) ?_
  by_cases e1 : (spellS f a).2 = 0
  · by_cases e2 : (spellS f b).2 = 0
    · have hi := spell_inj e1 e2
      have hl := spell_len e1
      have q3 : (((spellS f a).1.length : Int) ≤ 2 * (a.length : Int) + 3) = True := eq_true (by omega)
      by_cases hab : a = b
      · have hx := hi.2 hab
        simp (disch := omega) [e1, e2, hab, hx, q3]
        subst hab
        simp (disch := omega) [q3]
        exact .back (by simp)
      · have hx : ¬ (spellS f a).1 = (spellS f b).1 := fun h => hab (hi.1 h)
        simp (disch := omega) [e1, e2, hab, hx, q3]
        exact .back (by simp)
    · have e3 := spell_err e2
      simp [e1, e2, e3]
      exact .back (by simp)
  · have e3 := spell_err e1
    by_cases e2 : (spellS f b).2 = 0
    · simp [e1, e2, e3]
      exact .back (by simp)
    · have e4 := spell_err e2
      simp [e1, e2, e3, e4]
      exact .back (by simp)
end Go.Proofs.YtenpljbbboibiaaDoor
/- Names: what is read; what is fresh: the laws. -/
namespace Go.Proofs.YtenpljbbboibiaaDoor
open Go.AM Go.Proofs
variable {Γ : Nat → Option AV}
set_option linter.unusedSimpArgs false
set_option linter.unusedVariables false

theorem spell_yes {f : Int} {s : List UInt8} (h1 : nameB s = true) (h2 : knownB f = true) : (spellS f s).2 = 0 := by
  unfold spellS
  simp only [h1, h2, Bool.true_eq_false, if_false]
  split
  · split <;> rfl
  · split <;> rfl
theorem read_err {f : Int} {s : List UInt8} (h : (readS f s).2 ≠ 0) : (readS f s).1 = [] ∧ (legalB f s = false ∨ f < 0 ∨ 4 < f) := by
  unfold readS at h ⊢
  split
  · rename_i hk
    refine ⟨rfl, .inr ?_⟩
    simp [knownB] at hk
    omega
  · rename_i hk
    rw [if_neg hk] at h
    split
    · rename_i hf
      rw [if_pos hf] at h
      split
      · rename_i n hb; rw [hb] at h; simp at h
      · rename_i hb
        rw [hb] at h
        simp only at h
        split
        · rename_i hl; rw [if_pos hl] at h; simp at h
        · rename_i hl; exact ⟨rfl, .inl (by simpa using hl)⟩
    · rename_i hf
      rw [if_neg hf] at h
      split
      · rename_i hn; rw [if_pos hn] at h; simp at h
      · rename_i hn
        refine ⟨rfl, .inl ?_⟩
        cases hl : legalB f s with
        | false => rfl
        | true => exact absurd (legal_name hl) hn
structure ReadOk (f : Int) (s n : List UInt8) : Prop where
  name : nameB n = true
  spell : (spellS f n).2 = 0
  same : legalB f s = true → markB s = false → n = s
  ver : f = 4 → n = s
  back : f ≠ 4 → readS f (spellS f n).1 = (n, 0)
theorem read_ok {f : Int} {s : List UInt8} (h : (readS f s).2 = 0) : ReadOk f s (readS f s).1 := by
  have hk : knownB f = true := by
    unfold readS at h
    cases hk : knownB f with
    | true => rfl
    | false => rw [if_pos hk] at h; simp at h
  have hk' : ¬ knownB f = false := by simp [hk]
  by_cases hf : f = 2 ∨ f = 3
  · have e : readS f s = (match backS f s with
      | some n => (n, 0)
      | none => if legalB f s = true then (s, 0) else ([], 4)) := by unfold readS; rw [if_neg hk', if_pos hf] <;> (cases backS f s <;> rfl)
    rw [e] at h ⊢
    cases hb : backS f s with
    | some n =>
      simp only
      obtain ⟨b1, b2⟩ := (back_spec hf).1 hb
      refine ⟨(spell_cases hf b2).1, by rw [b2], fun _ hm => ?_, fun h4 => by omega, fun _ => ?_⟩
      · rw [b1, (mark_trim _).2] at hm; simp at hm
      · rw [b2]
        simp only
        rw [e, hb]
    | none =>
      simp only [hb] at h ⊢
      by_cases hl : legalB f s = true
      · rw [if_pos hl]
        have hn := legal_name hl
        have hs := spell_yes hn hk
        refine ⟨hn, hs, fun _ _ => rfl, fun _ => rfl, fun _ => ?_⟩
        rcases spell_forms hs with ⟨f1, e1⟩ | ⟨f1, e1⟩ | ⟨e1, m1⟩
        · omega
        · have hb2 : backS f (markL ++ hexS s) = some s := (back_spec hf).2 ⟨rfl, Prod.ext e1 hs⟩
          rw [e1]
          unfold readS
          rw [if_neg hk', if_pos hf, hb2]
        · rw [e1, e, hb]
          simp only [hl, if_true]
      · rw [if_neg hl] at h; simp at h
  · have e : ∀ s, readS f s = if nameB s = true then (s, 0) else ([], 4) := fun s => by unfold readS; rw [if_neg hk', if_neg hf]
    rw [e] at h ⊢
    by_cases hn : nameB s = true
    · rw [if_pos hn]
      have hs := spell_yes hn hk
      refine ⟨hn, hs, fun _ _ => rfl, fun _ => rfl, fun h4 => ?_⟩
      rcases spell_forms hs with ⟨f1, e1⟩ | ⟨f1, e1⟩ | ⟨e1, m1⟩
      · exact absurd f1 h4
      · exact absurd f1 hf
      · simp only [e1]; rw [e, if_pos hn]
    · rw [if_neg hn] at h; simp at h

set_option maxRecDepth 8000 in
theorem l_IdentReads (hΓ : KeptG Γ) (f : Int) (s : List UInt8) : PureCon Tryd.prog Γ n_w04_IdentReads [.int .i64 f, .str s] (.bool true) := by
  refine .run 100 c_w04_IdentReads (by simp) ?_
  simp
  refine .call 100 (by simp) (p_w04_works hΓ) ?_
  by_cases h1 : 120 < s.length
  · have q1 : ((120 : Int) < s.length) = True := eq_true (by omega)
    simp [q1]; exact .back (by simp)
  have q1 : ((120 : Int) < s.length) = False := eq_false (by omega)
  have hL := p_Legal hΓ f s
  simp [q1]
  refine .call 100 (by simp) (p_Read hΓ f s (by omega)) ?_
  by_cases he : (readS f s).2 = 0
  · have ok := read_ok he
    generalize (readS f s).1 = n at *
    obtain ⟨_, _, hnl⟩ := name_ascii ok.name
    have hS := p_Spell hΓ f n
    have hsl := spell_len ok.spell
    have hR := p_Read hΓ f (spellS f n).1 (by omega)
    have hN := p_Name (Γ := Γ) n
    rw [ok.name] at hN
    have tail : ∀ b : Bool, True := fun _ => trivial
    by_cases h4 : f = 4
    · have e4 := ok.ver h4
      subst e4
      by_cases h3 : 3 ≤ n.length
      · have q3 : ((3 : Int) ≤ n.length) = True := eq_true (by omega)
        simp [he]
        refine .call 100 (by simp) hS ?_
        simp (disch := omega) [ok.spell, q3, h3]
        refine .call 100 (by simp) hN ?_
        simp
        refine .call 100 (by simp) hL ?_
        cases hl : legalB f n <;> cases hm : decide (n.take 3 = [120, 95, 95]) <;> simp [h4, hm] <;> exact .back (by simp)
      · have q3 : ((3 : Int) ≤ n.length) = False := eq_false (by omega)
        simp [he]
        refine .call 100 (by simp) hS ?_
        simp (disch := omega) [ok.spell, q3, h3]
        refine .call 100 (by simp) hN ?_
        simp
        refine .call 100 (by simp) hL ?_
        cases hl : legalB f n <;> simp [h4] <;> exact .back (by simp)
    · rw [ok.back h4] at hR
      by_cases h3 : 3 ≤ s.length
      · have q3 : ((3 : Int) ≤ s.length) = True := eq_true (by omega)
        have e := mark_take h3
        simp [he]
        refine .call 100 (by simp) hS ?_
        simp (disch := omega) [ok.spell, q3, h3]
        refine .call 100 (by simp) hN ?_
        simp
        refine .call 100 (by simp) hL ?_
        cases hl : legalB f s with
        | false =>
          simp [h4]
          refine .call 100 (by simp) hR ?_
          simp
          exact .back (by simp)
        | true =>
          cases hm : markB s with
          | true =>
            rw [hm] at e
            simp [e, h4]
            refine .call 100 (by simp) hR ?_
            simp
            exact .back (by simp)
          | false =>
            have e5 := ok.same hl hm
            rw [hm] at e
            subst e5
            simp [e, h4]
            refine .call 100 (by simp) hR ?_
            simp
            exact .back (by simp)
      · have q3 : ((3 : Int) ≤ s.length) = False := eq_false (by omega)
        have e := mark_short h3
        simp [he]
        refine .call 100 (by simp) hS ?_
        simp (disch := omega) [ok.spell, q3, h3]
        refine .call 100 (by simp) hN ?_
        simp
        refine .call 100 (by simp) hL ?_
        cases hl : legalB f s with
        | false =>
          simp [h4]
          refine .call 100 (by simp) hR ?_
          simp
          exact .back (by simp)
        | true =>
          have e5 := ok.same hl e
          subst e5
          simp [h4]
          refine .call 100 (by simp) hR ?_
          simp
          exact .back (by simp)
  · obtain ⟨e1, e2⟩ := read_err he
    simp [he, e1]
    refine .call 100 (by simp) hL ?_
    cases hl : legalB f s with
    | false => simp; exact .back (by simp)
    | true =>
      rw [hl] at e2
      simp only [Bool.true_eq_false, false_or] at e2
      by_cases h5 : f < 0
      · simp [h5]; exact .back (by simp)
      · have h6 : 4 < f := by omega
        simp [h5, h6]; exact .back (by simp)

set_option maxRecDepth 8000 in
theorem l_IdentFresh (hΓ : KeptG Γ) (used : List (List UInt8)) {kd : Nat} (hk : Kd 1 kd used) (stem : List UInt8) (more : List (List UInt8)) {km : Nat} (hm : Kd 1 km more) : PureCon Tryd.prog Γ n_w04_IdentFresh [.list false kd (used.map .str), .str stem, .list false km (more.map .str)] (.bool true) := by
  refine .run 100 c_w04_IdentFresh (by simp) ?_
  simp
  refine .call 100 (by simp) (p_w04_works hΓ) ?_
  by_cases h1 : 30 < used.length
  · have q1 : ((30 : Int) < used.length) = True := eq_true (by omega)
    simp [q1]; exact .back (by simp)
  have q1 : ((30 : Int) < used.length) = False := eq_false (by omega)
  by_cases h2 : 30 < more.length
  · have q2 : ((30 : Int) < more.length) = True := eq_true (by omega)
    simp [q1, q2]; exact .back (by simp)
  have q2 : ((30 : Int) < more.length) = False := eq_false (by omega)
  by_cases h3 : 120 < stem.length
  · have q3 : ((120 : Int) < stem.length) = True := eq_true (by omega)
    simp [q1, q2, q3]; exact .back (by simp)
  have q3 : ((120 : Int) < stem.length) = False := eq_false (by omega)
  have c1 := p_Fresh (Γ := Γ) used stem hk (by omega) (by omega)
  have c2 := p_Fresh (Γ := Γ) (used ++ [freshS used stem]) stem (kd := 1) .self (by simp; omega) (by omega)
  have c3 := p_Fresh (Γ := Γ) (used ++ more) stem (kd := 1) .self (by simp; omega) (by omega)
  have c4 := p_r01_Has (Γ := Γ) used (freshS used stem) hk (by omega)
  have c5 := p_r01_Has (Γ := Γ) (used ++ more) (freshS (used ++ more) stem) (k := 1) .self (by simp; omega)
  have n1 := fresh_not used stem
  have n2 := fresh_not (used ++ [freshS used stem]) stem
  have n3 := fresh_not (used ++ more) stem
  have n4 : ¬ freshS (used ++ [freshS used stem]) stem = freshS used stem := fun h => n2 (by rw [h]; simp)
  obtain ⟨j, _, _, hj⟩ := frS_form (used := used) (stem := stem) used.length 1
  have hj : freshS used stem = stem ++ Lib.decDigits j := hj
  have hpos : 1 ≤ (Lib.decDigits j).length := by
    by_cases h3 : j < 10
    · rw [dec_small' h3]; simp
    · rw [dec_big' h3]; simp
  have l1 : stem.length < (freshS used stem).length := by rw [hj]; simp; omega
  have l1' : ((stem.length : Int) < (freshS used stem).length) = True := eq_true (by omega)
  have l2 : (freshS used stem).take stem.length = stem := by rw [hj, List.take_left]
  have l3 : stem.length ≤ (freshS used stem).length := by omega
  simp only [List.contains_eq_mem, n1, n3, decide_false] at c4 c5
  simp [q1, q2, q3]
  refine .call 100 (by simp) c1 ?_
  generalize freshS used stem = n at *
  generalize freshS (used ++ [n]) stem = m at *
  generalize freshS (used ++ more) stem = k at *
  cases used with
  | nil =>
    cases more with
    | nil =>
      simp (disch := (simp at *; omega))
      refine .call 100 (by first | (simp; done) | (simp (disch := (first | (simp; done) | (simp; omega))) [List.take_of_length_le]; done) | (simp (disch := (first | (simp; done) | (simp; omega))) [List.take_of_length_le, show ∀ a b : Nat, a + 1 + (b + 1) = a + (b + 1) + 1 from by intros; omega]; done)) c2 ?_
      simp (disch := (simp at *; omega))
      refine .call 100 (by first | (simp; done) | (simp (disch := (first | (simp; done) | (simp; omega))) [List.take_of_length_le]; done) | (simp (disch := (first | (simp; done) | (simp; omega))) [List.take_of_length_le, show ∀ a b : Nat, a + 1 + (b + 1) = a + (b + 1) + 1 from by intros; omega]; done)) c3 ?_
      simp (disch := (simp at *; omega))
      refine .call 100 (by first | (simp; done) | (simp (disch := (first | (simp; done) | (simp; omega))) [List.take_of_length_le]; done) | (simp (disch := (first | (simp; done) | (simp; omega))) [List.take_of_length_le, show ∀ a b : Nat, a + 1 + (b + 1) = a + (b + 1) + 1 from by intros; omega]; done)) c4 ?_
      simp (disch := (simp at *; omega))
      refine .call 100 (by first | (simp; done) | (simp (disch := (first | (simp; done) | (simp; omega))) [List.take_of_length_le]; done) | (simp (disch := (first | (simp; done) | (simp; omega))) [List.take_of_length_le, show ∀ a b : Nat, a + 1 + (b + 1) = a + (b + 1) + 1 from by intros; omega]; done)) c5 ?_
      simp (disch := omega) [n4, l1, l1', l2, l3]
      exact .back (by simp)
    | cons v vs =>
      obtain rfl := hm.of (i := 0) (by simp)
      simp (disch := (simp at *; omega))
      refine .call 100 (by first | (simp; done) | (simp (disch := (first | (simp; done) | (simp; omega))) [List.take_of_length_le]; done) | (simp (disch := (first | (simp; done) | (simp; omega))) [List.take_of_length_le, show ∀ a b : Nat, a + 1 + (b + 1) = a + (b + 1) + 1 from by intros; omega]; done)) c2 ?_
      simp (disch := (simp at *; omega))
      refine .call 100 (by first | (simp; done) | (simp (disch := (first | (simp; done) | (simp; omega))) [List.take_of_length_le]; done) | (simp (disch := (first | (simp; done) | (simp; omega))) [List.take_of_length_le, show ∀ a b : Nat, a + 1 + (b + 1) = a + (b + 1) + 1 from by intros; omega]; done)) c3 ?_
      simp (disch := (simp at *; omega))
      refine .call 100 (by first | (simp; done) | (simp (disch := (first | (simp; done) | (simp; omega))) [List.take_of_length_le]; done) | (simp (disch := (first | (simp; done) | (simp; omega))) [List.take_of_length_le, show ∀ a b : Nat, a + 1 + (b + 1) = a + (b + 1) + 1 from by intros; omega]; done)) c4 ?_
      simp (disch := (simp at *; omega))
      refine .call 100 (by first | (simp; done) | (simp (disch := (first | (simp; done) | (simp; omega))) [List.take_of_length_le]; done) | (simp (disch := (first | (simp; done) | (simp; omega))) [List.take_of_length_le, show ∀ a b : Nat, a + 1 + (b + 1) = a + (b + 1) + 1 from by intros; omega]; done)) c5 ?_
      simp (disch := omega) [n4, l1, l1', l2, l3]
      exact .back (by simp)
  | cons u us =>
    obtain rfl := hk.of (i := 0) (by simp)
    cases more with
    | nil =>
      simp (disch := (simp at *; omega))
      refine .call 100 (by first | (simp; done) | (simp (disch := (first | (simp; done) | (simp; omega))) [List.take_of_length_le]; done) | (simp (disch := (first | (simp; done) | (simp; omega))) [List.take_of_length_le, show ∀ a b : Nat, a + 1 + (b + 1) = a + (b + 1) + 1 from by intros; omega]; done)) c2 ?_
      simp (disch := (simp at *; omega))
      refine .call 100 (by first | (simp; done) | (simp (disch := (first | (simp; done) | (simp; omega))) [List.take_of_length_le]; done) | (simp (disch := (first | (simp; done) | (simp; omega))) [List.take_of_length_le, show ∀ a b : Nat, a + 1 + (b + 1) = a + (b + 1) + 1 from by intros; omega]; done)) c3 ?_
      simp (disch := (simp at *; omega))
      refine .call 100 (by first | (simp; done) | (simp (disch := (first | (simp; done) | (simp; omega))) [List.take_of_length_le]; done) | (simp (disch := (first | (simp; done) | (simp; omega))) [List.take_of_length_le, show ∀ a b : Nat, a + 1 + (b + 1) = a + (b + 1) + 1 from by intros; omega]; done)) c4 ?_
      simp (disch := (simp at *; omega))
      refine .call 100 (by first | (simp; done) | (simp (disch := (first | (simp; done) | (simp; omega))) [List.take_of_length_le]; done) | (simp (disch := (first | (simp; done) | (simp; omega))) [List.take_of_length_le, show ∀ a b : Nat, a + 1 + (b + 1) = a + (b + 1) + 1 from by intros; omega]; done)) c5 ?_
      simp (disch := omega) [n4, l1, l1', l2, l3]
      exact .back (by simp)
    | cons v vs =>
      obtain rfl := hm.of (i := 0) (by simp)
      simp (disch := (simp at *; omega))
      refine .call 100 (by first | (simp; done) | (simp (disch := (first | (simp; done) | (simp; omega))) [List.take_of_length_le]; done) | (simp (disch := (first | (simp; done) | (simp; omega))) [List.take_of_length_le, show ∀ a b : Nat, a + 1 + (b + 1) = a + (b + 1) + 1 from by intros; omega]; done)) c2 ?_
      simp (disch := (simp at *; omega))
      refine .call 100 (by first | (simp; done) | (simp (disch := (first | (simp; done) | (simp; omega))) [List.take_of_length_le]; done) | (simp (disch := (first | (simp; done) | (simp; omega))) [List.take_of_length_le, show ∀ a b : Nat, a + 1 + (b + 1) = a + (b + 1) + 1 from by intros; omega]; done)) c3 ?_
      simp (disch := (simp at *; omega))
      refine .call 100 (by first | (simp; done) | (simp (disch := (first | (simp; done) | (simp; omega))) [List.take_of_length_le]; done) | (simp (disch := (first | (simp; done) | (simp; omega))) [List.take_of_length_le, show ∀ a b : Nat, a + 1 + (b + 1) = a + (b + 1) + 1 from by intros; omega]; done)) c4 ?_
      simp (disch := (simp at *; omega))
      refine .call 100 (by first | (simp; done) | (simp (disch := (first | (simp; done) | (simp; omega))) [List.take_of_length_le]; done) | (simp (disch := (first | (simp; done) | (simp; omega))) [List.take_of_length_le, show ∀ a b : Nat, a + 1 + (b + 1) = a + (b + 1) + 1 from by intros; omega]; done)) c5 ?_
      simp (disch := omega) [n4, l1, l1', l2, l3]
      exact .back (by simp)
end Go.Proofs.YtenpljbbboibiaaDoor
