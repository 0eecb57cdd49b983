/- Chapter 03: contracts of the reference's functions. -/
import Derived.Test.YtbdnncbigmcdjaaCode
import Derived.Test.YtbdnncbigmcdjaaAMc
import Derived.Test.YtbdnncbigmcdjaaShelf
import Derived.Test.YtbdnncbigmcdjaaRows
import Derived.HandedShaped
namespace Go.Proofs.Ytbdnncbigmcdjaa
open Go.AM Go.Proofs
variable {Γ : Nat → Option AV}
set_option linter.unusedSimpArgs false

theorem p_r03_in (c : UInt8) (s : List UInt8) (hs : s.length < 2 ^ 60) : PureCon Try.prog Γ n_r03_in [byteA c, .str s] (.bool (s.any (· == c))) := by
  have key : ∀ n i : Nat, i + n = s.length → AM.Reach Try.prog Γ (r03_in_L1 (byteA c) (.str s) (.int .i64 i) []) (.back [] (.bool ((s.drop i).any (· == c))) []) := by
    intro n
    induction n with
    | zero =>
      intro i hi
      obtain rfl : i = s.length := by omega
      refine .go 60 ?_
      simp
    | succ n ih =>
      intro i hi
      have hlt : i < s.length := by omega
      refine .go 60 ?_
      simp [hlt]
      rw [List.drop_eq_getElem_cons hlt, List.any_cons]
      by_cases hc : s[i] = c
      · simp [hc]
      · have hb : (s[i] == c) = false := by simpa using hc
        simp [hc, hb, wrap64 (n := (i : Int) + 1) (by omega) (by omega)]
        refine re_loop ?_
        simpa using ih (i + 1) (by omega)
  refine PureCon.of (v := .bool (s.any (· == c))) (hh := []) (by simp) (enter_eq c_r03_in _ (.go 40 ?_)) (by simp)
  simp
  refine in_loop ?_
  simpa using key s.length 0 (by omega)

def blankB (c : UInt8) : Bool := c == 9 || c == 13 || c == 32
theorem p_r03_blank (c : UInt8) : PureCon Try.prog Γ n_r03_blank [byteA c] (.bool (blankB c)) := by
  refine PureCon.of (v := .bool (blankB c)) (hh := []) (by simp) (enter_eq c_r03_blank _ (.go 40 ?_)) (by simp)
  by_cases h1 : c = 9
  · subst h1; simp [blankB]
  · by_cases h2 : c = 13
    · subst h2; simp [blankB]
    · have h3 : decide (c = 32) = blankB c := by simp [blankB, h1, h2, Bool.beq_eq_decide_eq]
      simp [h1, h2, h3]

/-- How many bytes from a place on are so. -/
def runB (p : UInt8 → Bool) (s : List UInt8) (i : Nat) : Nat := ((s.drop i).takeWhile p).length
theorem runB_end {p : UInt8 → Bool} {s : List UInt8} {i : Nat} (h : s.length ≤ i) : runB p s i = 0 := by simp [runB, List.drop_eq_nil_of_le h]
theorem runB_no {p : UInt8 → Bool} {s : List UInt8} {i : Nat} (h : i < s.length) (hp : p s[i] = false) : runB p s i = 0 := by
  rw [runB, List.drop_eq_getElem_cons h, List.takeWhile_cons, hp]; rfl
theorem runB_yes {p : UInt8 → Bool} {s : List UInt8} {i : Nat} (h : i < s.length) (hp : p s[i] = true) : runB p s i = runB p s (i + 1) + 1 := by
  rw [runB, List.drop_eq_getElem_cons h, List.takeWhile_cons, hp]; rfl
theorem runB_le {p : UInt8 → Bool} {s : List UInt8} {i : Nat} : i + runB p s i ≤ max i s.length := by
  have := (List.takeWhile_prefix p (l := s.drop i)).length_le
  rw [List.length_drop] at this
  unfold runB; omega

def not10 (c : UInt8) : Bool := !decide (c = 10)
theorem p_r03_line (s : List UInt8) (i : Nat) (hs : s.length < 2 ^ 60) (hi : i ≤ s.length) : PureCon Try.prog Γ n_r03_line [.str s, .int .i64 i] (.int .i64 ((i + runB not10 s i : Nat) : Int)) := by
  have key : ∀ n i : Nat, i + n = s.length → AM.Reach Try.prog Γ (r03_line_L1 (.str s) (.int .i64 i) []) (.back [] (.int .i64 ((i + runB not10 s i : Nat) : Int)) []) := by
    intro n
    induction n with
    | zero =>
      intro i hi
      obtain rfl : i = s.length := by omega
      refine .go 60 ?_
      simp [runB_end]
    | succ n ih =>
      intro i hi
      have hlt : i < s.length := by omega
      refine .go 60 ?_
      by_cases hc : s[i] = 10
      · have hb : not10 s[i] = false := by simp [not10, hc]
        simp [hlt, hc, runB_no hlt hb]
      · have hb : not10 s[i] = true := by simp [not10, hc]
        simp [hlt, hc, wrap64 (n := (i : Int) + 1) (by omega) (by omega)]
        refine re_loop ?_
        rw [show ((i : Int) + (runB not10 s i : Int)) = ((i + 1 + runB not10 s (i + 1) : Nat) : Int) by rw [runB_yes hlt hb]; omega]
        simpa using ih (i + 1) (by omega)
  refine PureCon.of (v := .int .i64 ((i + runB not10 s i : Nat) : Int)) (hh := []) (by simp) (enter_eq c_r03_line _ (.go 40 ?_)) (by simp)
  simp
  refine in_loop ?_
  simpa using key (s.length - i) i (by omega)

/-- A closure that tells of a byte. -/
def Tells (Γ : Nat → Option AV) (k : Nat) (p : UInt8 → Bool) : Prop := ∀ c, PureCon Try.prog Γ k [byteA c] (.bool (p c))

theorem p_token_run {k : Nat} {p : UInt8 → Bool} (hp : Tells Γ k p) (s : List UInt8) (i : Nat) (hs : s.length < 2 ^ 60) (hi : i ≤ s.length) :
    PureCon Try.prog Γ n_token_run [.str s, .int .i64 i, .fn (.func k) [] []] (.int .i64 (runB p s i)) := by
  have hb := (hp 0).1
  have key : ∀ n j : Nat, i + j + n = s.length → AM.Reach Try.prog Γ (token_run_L1 (.str s) (.int .i64 i) (.fn (.func k) [] []) (.int .i64 j) []) (.back [] (.int .i64 ((j + runB p s (i + j) : Nat) : Int)) []) := by
    intro n
    induction n with
    | zero =>
      intro j hj
      have h1 : i + j = s.length := by omega
      have h2 : (i : Int) + j = s.length := by omega
      refine .go 60 ?_
      simp [runB_end, h1, h2, wrap64 (n := (s.length : Int)) (by omega) (by omega)]
    | succ n ih =>
      intro j hj
      have hlt : i + j < s.length := by omega
      have h2 : (i : Int) + j < s.length := by omega
      have h3 : ((i : Int) + j).toNat = i + j := by omega
      have h4 : 0 ≤ (i : Int) + j := by omega
      refine .go 60 ?_
      simp [hlt, h2, h3, h4, hb, wrap64 (n := (i : Int) + j) (by omega) (by omega)]
      refine .con (by simp) (hp s[i + j]) ?_
      refine .go 60 ?_
      cases hc : p s[i + j] with
      | false =>
        simp [runB_no hlt hc]
      | true =>
        simp [wrap64 (n := (j : Int) + 1) (by omega) (by omega)]
        refine re_loop ?_
        have h5 := runB_yes hlt hc
        rw [Nat.add_assoc] at h5
        rw [show ((j : Int) + (runB p s (i + j) : Int)) = ((j + 1 + runB p s (i + (j + 1)) : Nat) : Int) by omega]
        simpa using ih (j + 1) (by omega)
  refine PureCon.of (v := .int .i64 (runB p s i)) (hh := []) (by simp) (enter_eq c_token_run _ (.go 40 ?_)) (by simp)
  simp
  refine in_loop ?_
  simpa using key (s.length - i) 0 (by omega)
end Go.Proofs.Ytbdnncbigmcdjaa
/- Chapter 03: contracts of the program's functions. -/
namespace Go.Proofs.Ytbdnncbigmcdjaa
open Go.AM Go.Proofs
variable {Γ : Nat → Option AV}
set_option linter.unusedSimpArgs false

structure Tok where
  kind : Int
  text : List UInt8
  pos : Int
  deriving DecidableEq
@[simp] def eTok (t : Tok) : AV := .agg [.int .i64 t.kind, .str t.text, .int .i64 t.pos]

theorem p_IndexByte (s : List UInt8) (c : UInt8) : PureCon Try.prog Γ n_strings_IndexByte [.str s, byteA c] (.int .i64 (Lib.indexByte s c)) := by
  refine PureCon.lib (by simp) (fun _ => rfl) rfl fun N g h w us _ hV => ?_
  obtain ⟨us, rfl, h1⟩ := VL_str hV
  obtain ⟨us, rfl, h2⟩ := VL_int (show VL g h [.int .u8 c.toNat] us from h1)
  obtain rfl := VL_nil' h2
  refine (Try.strings_IndexByte _ _ w).mono ?_
  rintro e w' ⟨rfl, rfl⟩
  exact ⟨⟨_, rfl, fun _ _ => by simp [V]⟩, rfl⟩

theorem indexByte_ge (s : List UInt8) (c : UInt8) : -1 ≤ Lib.indexByte s c := by
  induction s with
  | nil => simp [Lib.indexByte]
  | cons b l ih =>
    simp only [Lib.indexByte]
    by_cases h1 : (b == c) = true
    · simp [h1]
    · by_cases h2 : (Lib.indexByte l c == -1) = true
      · simp [h1, h2]
      · simp only [h1, h2, Bool.false_eq_true, if_false]; omega
theorem indexByte_none (s : List UInt8) (c : UInt8) : (Lib.indexByte s c = -1) ↔ ¬ c ∈ s := by
  induction s with
  | nil => simp [Lib.indexByte]
  | cons b l ih =>
    have hge := indexByte_ge l c
    simp only [Lib.indexByte, List.mem_cons, not_or, ← ih]
    by_cases h1 : b = c
    · subst h1; simp
    · have h2 : ¬ c = b := fun e => h1 e.symm
      by_cases h3 : Lib.indexByte l c = -1
      · simp [h1, h2, h3]
      · simp [h1, h2, h3]; omega
/-- Is a byte among some? -/
def memB (s : List UInt8) (c : UInt8) : Bool := decide (c ∈ s)
theorem memB_yes {s : List UInt8} {c : UInt8} (h : memB s c = true) : c ∈ s := by simpa [memB] using h
theorem memB_no {s : List UInt8} {c : UInt8} (h : memB s c = false) : ¬ c ∈ s := by simpa [memB] using h
@[simp] theorem indexByte_lt (s : List UInt8) (c : UInt8) : (Lib.indexByte s c < 0) ↔ memB s c = false := by
  have := indexByte_ge s c
  have := indexByte_none s c
  simp only [memB, decide_eq_false_iff_not, ← this]; omega
@[simp] theorem indexByte_le (s : List UInt8) (c : UInt8) : (0 ≤ Lib.indexByte s c) ↔ memB s c = true := by
  have := indexByte_lt s c
  rw [← Int.not_lt, this]; simp

theorem p_graph (c : UInt8) : PureCon Try.prog Γ n_token_graph [byteA c] (.bool (decide (32 < c) && decide (c ≤ 126))) := by
  refine PureCon.of (v := .bool (decide (32 < c) && decide (c ≤ 126))) (hh := []) (by simp) (enter_eq c_token_graph _ (.go 60 ?_)) (by simp)
  by_cases h1 : 32 < c
  · simp [h1]
  · simp [h1]

theorem p_none (n : Int) : PureCon Try.prog Γ n_token_none [.int .i64 n] (.tup [eTok ⟨-1, [], 0⟩, .int .i64 n]) := by
  refine PureCon.of (v := .tup [eTok ⟨-1, [], 0⟩, .int .i64 n]) (hh := [.cells [.int .i64 (-1), .str [], .int .i64 0]]) (by simp) (enter_eq c_token_none _ (.go 60 ?_)) (by simp)
  simp

/-- The bytes from a place on. -/
def sub (s : List UInt8) (i n : Nat) : List UInt8 := (s.drop i).take n

theorem p_one (k : Int) (s : List UInt8) (i n : Nat) (hs : s.length < 2 ^ 60) (hn : 0 < n) (hi : i + n ≤ s.length) :
    PureCon Try.prog Γ n_token_one [.int .i64 k, .str s, .int .i64 i, .int .i64 n] (.tup [eTok ⟨k, sub s i n, i⟩, .int .i64 n]) := by
  refine PureCon.of (v := .tup [eTok ⟨k, sub s i n, i⟩, .int .i64 n]) (hh := [.cells [.int .i64 k, .str (sub s i n), .int .i64 i]]) (by simp) (enter_eq c_token_one _ (.go 60 ?_)) (by simp)
  have h0 : ¬ n = 0 := by omega
  have h1 : (s.take (i + n)).drop i = sub s i n := by rw [sub, List.drop_take]; congr 1; omega
  simp (disch := omega) [h0, h1]


theorem p_one_die (k : Int) (s : List UInt8) (i : Nat) : DieCon Try.prog Γ n_token_one [.int .i64 k, .str s, .int .i64 i, .int .i64 0] (.ifc t_token_odd (.agg [.int .i64 i])) := by
  refine DieCon.of (hh := [.cells [.int .i64 0, .str [], .int .i64 0]]) (by simp) (enter_eq c_token_one _ (.go 60 ?_)) (by simp) (by simp)
  simp

theorem t_line_1 : Tells Γ n_token_line_1 not10 := by
  intro c
  refine PureCon.of (v := .bool (not10 c)) (hh := []) (by simp) (enter_eq c_token_line_1 _ (.go 60 ?_)) (by simp)
  by_cases h : c = 10
  · subst h; simp [not10]
  · simp [h, not10]

theorem p_token_line (s : List UInt8) (i : Nat) (hs : s.length < 2 ^ 60) (hi : i ≤ s.length) : PureCon Try.prog Γ n_token_line [.str s, .int .i64 i] (.int .i64 (runB not10 s i)) := by
  refine PureCon.of (v := .int .i64 (runB not10 s i)) (hh := []) (by simp) (enter_eq c_token_line _ (.go 60 ?_)) (by simp)
  simp
  refine .call 60 (by simp) (p_token_run t_line_1 s i hs hi) ?_
  simp

def benchB (c : UInt8) : Bool := decide (32 < c) && decide (c ≤ 126) && !memB [61, 40, 41, 44, 35] c
theorem t_bench_read_1 : Tells Γ n_token_bench_read_1 benchB := by
  intro c
  refine PureCon.of (v := .bool (benchB c)) (hh := []) (by simp) (enter_eq c_token_bench_read_1 _ (.go 60 ?_)) (by simp)
  simp
  refine .call 60 (by simp) (p_graph c) ?_
  cases h : (decide (32 < c) && decide (c ≤ 126)) with
  | false => simp [benchB, h]
  | true =>
    simp
    refine .call 60 (by simp) (p_IndexByte [61, 40, 41, 44, 35] c) ?_
    simp [benchB, h]

def noTok : Tok := ⟨-1, [], 0⟩
/-- What a reader comes to. -/
@[simp] def rdOut (i : Nat) : Option (Tok × Nat) → Out
  | some r => .ret (.tup [eTok r.1, .int .i64 r.2])
  | none => .die (.ifc t_token_odd (.agg [.int .i64 i]))
def RdCon (Γ : Nat → Option AV) (f : FuncId) (s : List UInt8) (i : Nat) (r : Option (Tok × Nat)) : Prop := Con Try.prog Γ f [.agg [], .str s, .int .i64 i] (rdOut i r)
/-- A token of so many bytes, or none. -/
def oneOf (k : Int) (s : List UInt8) (i n : Nat) : Option (Tok × Nat) := if n = 0 then none else some (⟨k, sub s i n, i⟩, n)

theorem q_one (k : Int) (s : List UInt8) (i n : Nat) (hs : s.length < 2 ^ 60) (hi : i + n ≤ s.length) : Con Try.prog Γ n_token_one [.int .i64 k, .str s, .int .i64 i, .int .i64 n] (rdOut i (oneOf k s i n)) := by
  unfold oneOf
  by_cases h : n = 0
  · subst h; exact p_one_die k s i
  · simp only [h, if_false]; exact p_one k s i n hs (by omega) hi
/-- The reader hands on what one comes to. -/
theorem fin_one {k : Int} {s : List UInt8} {i n : Nat} (m : Nat) {up : List Fr} {h : List Ob} (hs : s.length < 2 ^ 60) (hi : i + n ≤ s.length) 
    (h1 : n ≠ 0 → Fins Try.prog Γ (AM.go Try.prog Γ false m (.back up (.tup [eTok ⟨k, sub s i n, i⟩, .int .i64 n]) h)) (.ret (.tup [eTok ⟨k, sub s i n, i⟩, .int .i64 n])))
    (h2 : Fins Try.prog Γ (AM.go Try.prog Γ false m (.die up (.ifc t_token_odd (.agg [.int .i64 i])) h)) (.die (.ifc t_token_odd (.agg [.int .i64 i])))) :
    Fins Try.prog Γ (.cl n_token_one [.int .i64 k, .str s, .int .i64 i, .int .i64 n] up h) (rdOut i (oneOf k s i n)) := by
  unfold oneOf
  by_cases h0 : n = 0
  · subst h0
    exact .dcall m (by simp) (p_one_die k s i) h2
  · simp only [h0, if_false]
    refine .call m (by simp) (p_one k s i n hs (by omega) hi) ?_
    simpa using h1 h0

def rdBench (s : List UInt8) (i : Nat) (c : UInt8) : Option (Tok × Nat) :=
  if c = 35 then some (noTok, runB not10 s i)
  else if memB [32, 9, 13, 10] c then some (noTok, 1)
  else if memB [61, 40, 41, 44] c then some (⟨1, sub s i 1, i⟩, 1)
  else oneOf 0 s i (runB benchB s i)

theorem p_bench_read (s : List UInt8) (i : Nat) (hs : s.length < 2 ^ 60) (hi : i < s.length) : RdCon Γ n_token_bench_read s i (rdBench s i s[i]) := by
  have hle := runB_le (p := benchB) (s := s) (i := i)
  refine .of 60 c_token_bench_read (by simp) ?_
  unfold rdBench
  by_cases h1 : s[i] = 35
  · simp (disch := omega) [h1]
    refine .call 60 (by simp) (p_token_line s i hs (by omega)) ?_
    simp
    refine .call 60 (by simp) (p_none (runB not10 s i)) ?_
    simp
    exact .back (by simp [noTok])
  simp (disch := omega) only [h1, if_false]
  simp (disch := omega) [h1]
  refine .call 60 (by simp) (p_IndexByte [32, 9, 13, 10] s[i]) ?_
  cases h2 : memB [32, 9, 13, 10] s[i] with
  | true =>
    simp [h2]
    refine .call 60 (by simp) (p_none 1) ?_
    simp
    exact .back (by simp [noTok])
  | false =>
  simp [h2]
  refine .call 60 (by simp) (p_IndexByte [61, 40, 41, 44] s[i]) ?_
  cases h3 : memB [61, 40, 41, 44] s[i] with
  | true =>
    simp [h3]
    refine .call 60 (by simp) (p_one 1 s i 1 hs (by omega) (by omega)) ?_
    simp
    exact .back (by simp)
  | false =>
  simp [h3]
  refine .call 60 (by simp) (p_token_run t_bench_read_1 s i hs (by omega)) ?_
  simp
  refine fin_one 60 hs (by omega) (fun _ => ?_) ?_
  · simp; exact .back (by simp)
  · simp; exact .die (by simp) (by simp)
end Go.Proofs.Ytbdnncbigmcdjaa
/- Chapter 03: contracts of the program's functions, part 2. -/
namespace Go.Proofs.Ytbdnncbigmcdjaa
open Go.AM Go.Proofs
variable {Γ : Nat → Option AV}
set_option linter.unusedSimpArgs false

theorem isPrefixOf_take (p s : List UInt8) : p.isPrefixOf s = (decide (p.length ≤ s.length) && decide (s.take p.length = p)) := by
  rw [Bool.eq_iff_iff, List.isPrefixOf_iff_prefix, List.prefix_iff_eq_take]
  simp only [Bool.and_eq_true, decide_eq_true_eq]
  constructor
  · intro h
    refine ⟨?_, h.symm⟩
    have := congrArg List.length h
    rw [List.length_take] at this
    omega
  · intro h; exact h.2.symm

def hasPre (p s : List UInt8) : Bool := p.isPrefixOf s
theorem p_stringslite_HasPrefix (s p : List UInt8) (hs : s.length < 2 ^ 60) : PureCon Try.prog Γ n_stringslite_HasPrefix [.str s, .str p] (.bool (hasPre p s)) := by
  refine .run 60 c_stringslite_HasPrefix (by simp) ?_
  rw [hasPre, isPrefixOf_take]
  by_cases h : p.length ≤ s.length
  · simp [h]
    exact .back (by simp)
  · have h' : ¬ (p.length : Int) ≤ s.length := by omega
    simp [h]
    exact .back (by simp)
theorem p_HasPrefix (s p : List UInt8) (hs : s.length < 2 ^ 60) : PureCon Try.prog Γ n_strings_HasPrefix [.str s, .str p] (.bool (hasPre p s)) := by
  refine .run 60 c_strings_HasPrefix (by simp) ?_
  simp
  refine .call 60 (by simp) (p_stringslite_HasPrefix s p hs) ?_
  simp
  exact .back (by simp)

def blifB (c : UInt8) : Bool := !memB [32, 9, 13, 10, 35, 92] c
theorem t_blif_read_1 : Tells Γ n_token_blif_read_1 blifB := by
  intro c
  refine .run 60 c_token_blif_read_1 (by simp) ?_
  simp
  refine .call 60 (by simp) (p_IndexByte [32, 9, 13, 10, 35, 92] c) ?_
  simp
  exact .back (by simp [blifB])

def rdBlif (s : List UInt8) (i : Nat) (c : UInt8) : Option (Tok × Nat) :=
  if c = 35 then some (noTok, runB not10 s i)
  else if hasPre [92, 10] (s.drop i) then some (noTok, 2)
  else if memB [32, 9, 13] c then some (noTok, 1)
  else if c = 10 then some (⟨3, [], i⟩, 1)
  else if c = 92 then some (⟨0, sub s i 1, i⟩, 1)
  else oneOf 0 s i (runB blifB s i)

theorem p_blif_read (s : List UInt8) (i : Nat) (hs : s.length < 2 ^ 60) (hi : i < s.length) : RdCon Γ n_token_blif_read s i (rdBlif s i s[i]) := by
  have hle := runB_le (p := blifB) (s := s) (i := i)
  refine .of 60 c_token_blif_read (by simp) ?_
  unfold rdBlif
  by_cases h1 : s[i] = 35
  · simp (disch := omega) [h1]
    refine .call 60 (by simp) (p_token_line s i hs (by omega)) ?_
    simp
    refine .call 60 (by simp) (p_none (runB not10 s i)) ?_
    simp
    exact .back (by simp [noTok])
  simp (disch := omega) [h1]
  refine .call 60 (by simp) (p_HasPrefix (s.drop i) [92, 10] (by simp; omega)) ?_
  cases h2 : hasPre [92, 10] (s.drop i) with
  | true =>
    simp [h2]
    refine .call 60 (by simp) (p_none 2) ?_
    simp
    exact .back (by simp [noTok])
  | false =>
  simp [h2]
  refine .call 60 (by simp) (p_IndexByte [32, 9, 13] s[i]) ?_
  cases h3 : memB [32, 9, 13] s[i] with
  | true =>
    simp [h3]
    refine .call 60 (by simp) (p_none 1) ?_
    simp
    exact .back (by simp [noTok])
  | false =>
  simp [h3]
  by_cases h4 : s[i] = 10
  · simp [h4]
    exact .back (by simp)
  simp [h4]
  by_cases h5 : s[i] = 92
  · simp [h5]
    refine .call 60 (by simp) (p_one 0 s i 1 hs (by omega) (by omega)) ?_
    simp
    exact .back (by simp)
  simp [h5]
  refine .call 60 (by simp) (p_token_run t_blif_read_1 s i hs (by omega)) ?_
  simp
  refine fin_one 60 hs (by omega) (fun _ => ?_) ?_
  · simp; exact .back (by simp)
  · simp; exact .die (by simp) (by simp)

def namedB (c : UInt8) : Bool := (decide (97 ≤ c) && decide (c ≤ 122)) || (decide (65 ≤ c) && decide (c ≤ 90)) || (decide (48 ≤ c) && decide (c ≤ 57)) || memB [95, 36, 39] c
theorem t_named : Tells Γ n_token_named namedB := by
  intro c
  refine .run 100 c_token_named (by simp) ?_
  unfold namedB
  by_cases h1 : 97 ≤ c <;> by_cases h2 : c ≤ 122 <;> simp [h1, h2]
  · exact .back (by simp)
  all_goals
    by_cases h3 : 65 ≤ c <;> by_cases h4 : c ≤ 90 <;> simp [h3, h4]
  all_goals first
    | exact .back (by simp)
    | by_cases h5 : 48 ≤ c <;> by_cases h6 : c ≤ 57 <;> simp [h5, h6]
  all_goals first
    | exact .back (by simp)
    | refine .call 60 (by simp) (p_IndexByte [95, 36, 39] c) ?_
      simp; exact .back (by simp)

/-- The package's variable. -/
def ΓM (Γ : Nat → Option AV) : Prop := ∃ m, Γ 0 = some (.int .i64 m)
theorem p_Index (hΓ : ΓM Γ) (s p : List UInt8) (hs : s.length < 4294967281) : PureCon Try.prog Γ n_strings_Index [.str s, .str p] (.int .i64 (Lib.index s p)) := by
  obtain ⟨m, hm⟩ := hΓ
  refine PureCon.lib (by simp) (fun _ => rfl) rfl fun N g h w us H hV => ?_
  obtain ⟨us, rfl, h1⟩ := VL_str hV
  obtain ⟨us, rfl, h2⟩ := VL_str h1
  obtain rfl := VL_nil' h2
  refine (Try.strings_Index _ _ m w (by simpa [ByteArray.size] using hs) (H.glob_int hm)).mono ?_
  rintro e w' ⟨rfl, rfl⟩
  exact ⟨⟨_, rfl, fun _ _ => by simp [V]⟩, rfl⟩

def graphB (c : UInt8) : Bool := decide (32 < c) && decide (c ≤ 126)
def rdVer (s : List UInt8) (i : Nat) (c : UInt8) : Option (Tok × Nat) :=
  if memB [32, 9, 13, 10] c then some (noTok, 1)
  else if hasPre [47, 47] (s.drop i) then some (noTok, runB not10 s i)
  else if hasPre [47, 42] (s.drop i) then (if Lib.index (s.drop (i + 2)) [42, 47] < 0 then none else some (noTok, (Lib.index (s.drop (i + 2)) [42, 47]).toNat + 4))
  else if memB [40, 41, 59, 44, 61, 126, 38, 124, 94] c then some (⟨1, sub s i 1, i⟩, 1)
  else if c = 92 then (if runB graphB s (i + 1) = 0 then none else some (⟨2, sub s (i + 1) (runB graphB s (i + 1)), i⟩, runB graphB s (i + 1) + 1))
  else oneOf 0 s i (runB namedB s i)

theorem hasPre_len {p s : List UInt8} (h : hasPre p s = true) : p.length ≤ s.length := by
  rw [hasPre, isPrefixOf_take] at h
  simp at h
  exact h.1
theorem index_le (s p : List UInt8) : Lib.index s p ≤ s.length := by
  induction s with
  | nil => simp only [Lib.index]; split <;> simp
  | cons b l ih =>
    simp only [Lib.index, List.length_cons]
    by_cases h1 : p.isPrefixOf (b :: l) = true
    · simp [h1]; omega
    · by_cases h2 : (Lib.index l p == -1) = true
      · simp [h1, h2]; omega
      · simp only [h1, h2, Bool.false_eq_true, if_false]; omega

theorem p_verilog_read (hΓ : ΓM Γ) (s : List UInt8) (i : Nat) (hs : s.length < 4294967281) (hi : i < s.length) : RdCon Γ n_token_verilog_read s i (rdVer s i s[i]) := by
  have hs' : s.length < 2 ^ 60 := by omega
  have hle := runB_le (p := namedB) (s := s) (i := i)
  have hle2 := runB_le (p := graphB) (s := s) (i := i + 1)
  refine .of 60 c_token_verilog_read (by simp) ?_
  unfold rdVer
  simp (disch := omega)
  refine .call 60 (by simp) (p_IndexByte [32, 9, 13, 10] s[i]) ?_
  cases h2 : memB [32, 9, 13, 10] s[i] with
  | true =>
    simp [h2]
    refine .call 60 (by simp) (p_none 1) ?_
    simp
    exact .back (by simp [noTok])
  | false =>
  simp (disch := omega) [h2]
  refine .call 60 (by simp) (p_HasPrefix (s.drop i) [47, 47] (by simp; omega)) ?_
  cases h3 : hasPre [47, 47] (s.drop i) with
  | true =>
    simp [h3]
    refine .call 60 (by simp) (p_token_line s i hs' (by omega)) ?_
    simp
    refine .call 60 (by simp) (p_none (runB not10 s i)) ?_
    simp
    exact .back (by simp [noTok])
  | false =>
  simp (disch := omega) [h3]
  refine .call 60 (by simp) (p_HasPrefix (s.drop i) [47, 42] (by simp; omega)) ?_
  cases h4 : hasPre [47, 42] (s.drop i) with
  | true =>
    have hl := hasPre_len h4
    simp at hl
    have hix := index_le (s.drop (i + 2)) [42, 47]
    rw [List.length_drop] at hix
    simp (disch := omega) [h4]
    refine .call 60 (by simp) (p_Index hΓ (s.drop (i + 2)) [42, 47] (by simp; omega)) ?_
    by_cases h5 : Lib.index (s.drop (i + 2)) [42, 47] < 0
    · simp [h5]
      exact .die (by simp) (by simp)
    · simp (disch := omega) [h5]
      refine .call 60 (by simp) (p_none (Lib.index (s.drop (i + 2)) [42, 47] + 4)) ?_
      have h6 : max (Lib.index (s.drop (i + 2)) [42, 47]) 0 = Lib.index (s.drop (i + 2)) [42, 47] := by omega
      simp [h6]
      exact .back (by simp [noTok])
  | false =>
  simp (disch := omega) [h4]
  refine .call 60 (by simp) (p_IndexByte [40, 41, 59, 44, 61, 126, 38, 124, 94] s[i]) ?_
  cases h5 : memB [40, 41, 59, 44, 61, 126, 38, 124, 94] s[i] with
  | true =>
    simp [h5]
    refine .call 60 (by simp) (p_one 1 s i 1 hs' (by omega) (by omega)) ?_
    simp
    exact .back (by simp)
  | false =>
  simp [h5]
  by_cases h6 : s[i] = 92
  · simp (disch := omega) [h6]
    refine .call 60 (by simp) (p_token_run (p := graphB) (fun c => p_graph c) s (i + 1) hs' (by omega)) ?_
    by_cases h7 : runB graphB s (i + 1) = 0
    · simp [h7]
      exact .die (by simp) (by simp)
    · have h8 : (s.take (i + 1 + runB graphB s (i + 1))).drop (i + 1) = sub s (i + 1) (runB graphB s (i + 1)) := by rw [sub, List.drop_take]; congr 1; omega
      simp (disch := omega) [h7, h8]
      exact .back (by simp)
  simp [h6]
  refine .call 60 (by simp) (p_token_run t_named s i hs' (by omega)) ?_
  simp
  refine fin_one 60 hs' (by omega) (fun _ => ?_) ?_
  · simp; exact .back (by simp)
  · simp; exact .die (by simp) (by simp)
end Go.Proofs.Ytbdnncbigmcdjaa
/- Chapter 03: contracts of the program's functions, part 3: all tokens. -/
namespace Go.Proofs.Ytbdnncbigmcdjaa
open Go.AM Go.Proofs
variable {Γ : Nat → Option AV}
set_option linter.unusedSimpArgs false

/-- All tokens from a place on, behind others; or where it cannot be read. -/
def allS (rd : Nat → UInt8 → Option (Tok × Nat)) (s : List UInt8) : Nat → Nat → List Tok → Except Nat (List Tok)
  | 0, _, acc => .ok acc
  | n + 1, i, acc => if h : i < s.length then match rd i s[i] with
    | none => .error i
    | some (t, k) => allS rd s n (i + k) (if 0 ≤ t.kind then acc ++ [t] else acc)
    else .ok acc

def allR : Except Nat (List Tok) → AV
  | .ok l => .tup [.own 3 t_token_Token_2 (l.map eTok), .int .i64 0, .int .i64 0]
  | .error i => .tup [.list true 0 [], .int .i64 i, .int .i64 2]

@[simp] theorem allR_ok (l : List Tok) : allR (.ok l) = .tup [.own 3 t_token_Token_2 (l.map eTok), .int .i64 0, .int .i64 0] := rfl
@[simp] theorem allR_err (i : Nat) : allR (.error i) = .tup [.list true 0 [], .int .i64 i, .int .i64 2] := rfl

theorem p_all {ty : TypeId} {f : FuncId} {s : List UInt8} {rd : Nat → UInt8 → Option (Tok × Nat)} (hm : cmeth Try.prog ty s_patchbay_token_read = some (f, none)) (hs : s.length < 4294967281)
    (hrd : ∀ i (hi : i < s.length), RdCon Γ f s i (rd i s[i])) (hk : ∀ i (hi : i < s.length) t k, rd i s[i] = some (t, k) → 0 < k ∧ k ≤ s.length + 4) :
    PureCon Try.prog Γ n_token_all [.ifc ty (.agg []), .str s] (allR (allS rd s s.length 0 [])) := by
  have key : ∀ n i (acc : List Tok), s.length ≤ i + n → i ≤ 2 * s.length + 4 → acc.length ≤ i →
      Fins Try.prog Γ (token_all_L1 (.ifc ty (.agg [])) (.str s) (.ptr 0 0) (.ptr 2 0) (.ptr 3 0) (.int .i64 i) [.cells [.sl 1 0 acc.length], .row 3 t_token_Token_2 (acc.map eTok) none true false, .cells [.int .i64 0], .cells [.int .i64 0]]
        ⟨[.call n_token_all_1 [.ptr 0 0, .ptr 2 0, .ptr 3 0]], .norm, 0, []⟩) (.ret (allR (allS rd s n i acc))) := by
    intro n
    induction n with
    | zero =>
      intro i acc hn hi hacc
      have h1 : ¬ i < s.length := by omega
      refine .go 90 ?_
      simp (disch := omega) [h1]
      exact .back (by simp [allS])
    | succ n ih =>
      intro i acc hn hi hacc
      refine .go 90 ?_
      by_cases h1 : i < s.length
      · have hc := hrd i h1
        have hb := hc.body
        have hkk := hk i h1
        simp (disch := omega) [h1, hm, hb]
        cases h2 : rd i s[i] with
        | none =>
          rw [h2] at hc
          refine .dcall 90 (by simp) hc ?_
          simp
          refine .dreg (orc := []) (by simp; exact ⟨rfl, rfl, rfl, rfl⟩) (by simp) (by simp) ?_
          refine .go 90 ?_
          simp
          exact .back (by simp [allS, h1, h2])
        | some r =>
          obtain ⟨t, k⟩ := r
          rw [h2] at hc
          obtain ⟨hk1, hk2⟩ := hkk t k h2
          refine .call 90 (by simp) hc ?_
          by_cases h3 : 0 ≤ t.kind
          · have h4 : allS rd s (n + 1) i acc = allS rd s n (i + k) (acc ++ [t]) := by simp [allS, h1, h2, h3]
            rw [h4]
            simp (disch := omega) [h3]
            refine .reLoop ?_
            simp
            refine .drop 4 rfl (by simp) (by simp) (by simp) ?_
            refine .reset (i := 1) rfl (by simp) (by simp) (by simp) ?_
            simpa using ih (i + k) (acc ++ [t]) (by omega) (by omega) (by simp; omega)
          · have h4 : allS rd s (n + 1) i acc = allS rd s n (i + k) acc := by simp [allS, h1, h2, h3]
            rw [h4]
            simp (disch := omega) [h3]
            refine .reLoop ?_
            simp
            refine .drop 4 rfl (by simp) (by simp) (by simp) ?_
            simpa using ih (i + k) acc (by omega) (by omega) (by omega)
      · simp (disch := omega) [h1]
        exact .back (by simp [allS, h1])
  refine .run 60 c_token_all (by simp) ?_
  simp
  refine .inLoop ?_
  simpa using key s.length 0 [] (by omega) (by omega) (by simp)
end Go.Proofs.Ytbdnncbigmcdjaa
/- Chapter 03: contracts of the functions on rows of tokens. -/
namespace Go.Proofs.Ytbdnncbigmcdjaa
open Go.AM Go.Proofs
variable {Γ : Nat → Option AV}
set_option linter.unusedSimpArgs false

@[simp] theorem eqTok (a b : Tok) : eqData (.strct [.int, .str, .int]) (.agg [.int .i64 a.kind, .str a.text, .int .i64 a.pos]) (.agg [.int .i64 b.kind, .str b.text, .int .i64 b.pos]) = some (decide (a = b)) := by
  obtain ⟨a1, a2, a3⟩ := a
  obtain ⟨b1, b2, b3⟩ := b
  by_cases h1 : a1 = b1 <;> by_cases h2 : a2 = b2 <;> by_cases h3 : a3 = b3 <;> simp [eqData, allDatum, isDatum, eqAll, h1, h2, h3]

/-- A list of tokens may have its elements' size, or none if it is empty. -/
def Kd (n k : Nat) {α : Type} (l : List α) : Prop := k = n ∨ l = []
theorem Kd.of {n k : Nat} {α : Type} {l : List α} (h : Kd n k l) {i : Nat} (hi : i < l.length) : k = n := by
  rcases h with h | h
  · exact h
  · subst h; simp at hi

theorem p_r03_Same (a b : List Tok) {ka kb : Nat} (ha : Kd 3 ka a) (hb : Kd 3 kb b) (hs : a.length < 2 ^ 60) : PureCon Try.prog Γ n_r03_Same [.list false ka (a.map eTok), .list false kb (b.map eTok)] (.bool (decide (a = b))) := by
  refine .run 60 c_r03_Same (by simp) ?_
  by_cases hl : a.length = b.length
  · have key : ∀ n i : Nat, i + n = a.length → Fins Try.prog Γ (r03_Same_L1 (.list false ka (a.map eTok)) (.list false kb (b.map eTok)) (.int .i64 i) []) (.ret (.bool (decide (a.drop i = b.drop i)))) := by
      intro n
      induction n with
      | zero =>
        intro i hi
        refine .go 60 ?_
        have h1 : ¬ i < a.length := by omega
        have h2 : a.drop i = b.drop i := by rw [List.drop_eq_nil_of_le (by omega), List.drop_eq_nil_of_le (by omega)]
        simp [h1, h2]
        exact .back (by simp)
      | succ n ih =>
        intro i hi
        have h1 : i < a.length := by omega
        have h2 : i < b.length := by omega
        obtain rfl := ha.of h1
        obtain rfl := hb.of h2
        have h4 := drop_eq h1 h2
        refine .go 60 ?_
        by_cases h3 : a[i] = b[i]
        · simp (disch := omega) [h1, h2, h3, h4]
          refine .reLoop ?_
          simpa using ih (i + 1) (by omega)
        · simp (disch := omega) [h1, h2, h3, h4]
          exact .back (by simp)
    simp [hl]
    refine .inLoop ?_
    simpa [hl] using key a.length 0 (by omega)
  · have h1 : ¬ (a.length : Int) = b.length := by omega
    have h2 : ¬ a = b := fun e => hl (by rw [e])
    simp [hl, h2]
    exact .back (by simp)
theorem p_Equal (a b : List Tok) {ka kb : Nat} (ha : Kd 3 ka a) (hb : Kd 3 kb b) (hs : a.length < 2 ^ 60) : PureCon Try.prog Γ n_slices_Equal_token_Token_token_Token [.list false ka (a.map eTok), .list false kb (b.map eTok)] (.bool (decide (a = b))) := by
  refine .run 60 c_slices_Equal_token_Token_token_Token (by simp) ?_
  by_cases hl : a.length = b.length
  · have key : ∀ n i : Nat, i + n = a.length → Fins Try.prog Γ (slices_Equal_token_Token_token_Token_L1 (.list false ka (a.map eTok)) (.list false kb (b.map eTok)) (.int .i64 a.length) (.int .i64 i) []) (.ret (.bool (decide (a.drop i = b.drop i)))) := by
      intro n
      induction n with
      | zero =>
        intro i hi
        refine .go 60 ?_
        have h1 : ¬ i < a.length := by omega
        have h2 : a.drop i = b.drop i := by rw [List.drop_eq_nil_of_le (by omega), List.drop_eq_nil_of_le (by omega)]
        simp [h1, h2]
        exact .back (by simp)
      | succ n ih =>
        intro i hi
        have h1 : i < a.length := by omega
        have h2 : i < b.length := by omega
        obtain rfl := ha.of h1
        obtain rfl := hb.of h2
        have h4 := drop_eq h1 h2
        refine .go 60 ?_
        by_cases h3 : a[i] = b[i]
        · simp (disch := omega) [h1, h2, h3, h4]
          refine .reLoop ?_
          simpa using ih (i + 1) (by omega)
        · simp (disch := omega) [h1, h2, h3, h4]
          exact .back (by simp)
    simp [hl]
    refine .inLoop ?_
    simpa [hl] using key a.length 0 (by omega)
  · have h1 : ¬ (a.length : Int) = b.length := by omega
    have h2 : ¬ a = b := fun e => hl (by rw [e])
    simp [hl, h2]
    exact .back (by simp)
theorem p_token_Same (a b : List Tok) {ka kb : Nat} (ha : Kd 3 ka a) (hb : Kd 3 kb b) (hs : a.length < 2 ^ 60) : PureCon Try.prog Γ n_token_Same [.list false ka (a.map eTok), .list false kb (b.map eTok)] (.bool (decide (a = b))) := by
  refine .run 60 c_token_Same (by simp) ?_
  simp
  refine .call 60 (by simp) (p_Equal a b ha hb hs) ?_
  simp
  exact .back (by simp)

theorem p_r01_Texts (a b : List (List UInt8)) {ka kb : Nat} (ha : Kd 1 ka a) (hb : Kd 1 kb b) (hs : a.length < 2 ^ 60) : PureCon Try.prog Γ n_r01_Texts [.list false ka (a.map .str), .list false kb (b.map .str)] (.bool (decide (a = b))) := by
  refine .run 60 c_r01_Texts (by simp) ?_
  by_cases hl : a.length = b.length
  · have key : ∀ n i : Nat, i + n = a.length → Fins Try.prog Γ (r01_Texts_L1 (.list false ka (a.map .str)) (.list false kb (b.map .str)) (.int .i64 i) []) (.ret (.bool (decide (a.drop i = b.drop i)))) := by
      intro n
      induction n with
      | zero =>
        intro i hi
        refine .go 60 ?_
        have h1 : ¬ i < a.length := by omega
        have h2 : a.drop i = b.drop i := by rw [List.drop_eq_nil_of_le (by omega), List.drop_eq_nil_of_le (by omega)]
        simp [h1, h2]
        exact .back (by simp)
      | succ n ih =>
        intro i hi
        have h1 : i < a.length := by omega
        have h2 : i < b.length := by omega
        obtain rfl := ha.of h1
        obtain rfl := hb.of h2
        have h4 := drop_eq h1 h2
        refine .go 60 ?_
        by_cases h3 : a[i] = b[i]
        · simp (disch := omega) [h1, h2, h3, h4]
          refine .reLoop ?_
          simpa using ih (i + 1) (by omega)
        · simp (disch := omega) [h1, h2, h3, h4]
          exact .back (by simp)
    simp [hl]
    refine .inLoop ?_
    simpa [hl] using key a.length 0 (by omega)
  · have h1 : ¬ (a.length : Int) = b.length := by omega
    have h2 : ¬ a = b := fun e => hl (by rw [e])
    simp [hl, h2]
    exact .back (by simp)

theorem p_Of (a : List Tok) {ka : Nat} (ha : Kd 3 ka a) (hs : a.length < 2 ^ 32) : PureCon Try.prog Γ n_w03_Of [.list false ka (a.map eTok)] (.own 3 t_r03_Token_2 (a.map eTok)) := by
  refine .run 60 c_w03_Of (by simp) ?_
  have key : ∀ n i (acc : List Tok), i + n = a.length → acc.length ≤ i → acc ++ a.drop i = a → Fins Try.prog Γ (w03_Of_L1 (.list false ka (a.map eTok)) (.sl 1 0 acc.length) (.int .i64 i) [.row 3 t_r03_Token_2 [] none true false, .row 3 t_r03_Token_2 (acc.map eTok) none true false]) (.ret (.own 3 t_r03_Token_2 (a.map eTok))) := by
    intro n
    induction n with
    | zero =>
      intro i acc hi hacc hd
      obtain rfl : i = a.length := by omega
      rw [List.drop_length, List.append_nil] at hd
      subst hd
      refine .go 60 ?_
      simp
      exact .back (by simp)
    | succ n ih =>
      intro i acc hi hacc hd
      have h1 : i < a.length := by omega
      obtain rfl := ha.of h1
      rw [List.drop_eq_getElem_cons h1, List.append_cons] at hd
      refine .go 60 ?_
      simp (disch := omega) [h1]
      refine .reLoop ?_
      simp
      refine .reset (i := 1) rfl (by simp) (by simp) (by simp) ?_
      simpa using ih (i + 1) (acc ++ [a[i]]) (by omega) (by simp; omega) hd
  simp
  refine .inLoop ?_
  simpa using key a.length 0 [] (by omega) (by simp) (by simp)

theorem p_r03_Texts (a : List Tok) {ka : Nat} (ha : Kd 3 ka a) (hs : a.length < 2 ^ 32) : PureCon Try.prog Γ n_r03_Texts [.list false ka (a.map eTok)] (.own 1 t_string (a.map fun t => .str t.text)) := by
  refine .run 60 c_r03_Texts (by simp) ?_
  have key : ∀ n i (acc : List Tok), i + n = a.length → acc.length ≤ i → acc ++ a.drop i = a → Fins Try.prog Γ (r03_Texts_L1 (.list false ka (a.map eTok)) (.sl 1 0 acc.length) (.int .i64 i) [.row 1 t_string [] none true false, .row 1 t_string (acc.map fun t => .str t.text) none true false]) (.ret (.own 1 t_string (a.map fun t => .str t.text))) := by
    intro n
    induction n with
    | zero =>
      intro i acc hi hacc hd
      obtain rfl : i = a.length := by omega
      rw [List.drop_length, List.append_nil] at hd
      subst hd
      refine .go 60 ?_
      simp
      exact .back (by simp)
    | succ n ih =>
      intro i acc hi hacc hd
      have h1 : i < a.length := by omega
      obtain rfl := ha.of h1
      rw [List.drop_eq_getElem_cons h1, List.append_cons] at hd
      refine .go 60 ?_
      simp (disch := omega) [h1]
      refine .reLoop ?_
      simp
      refine .reset (i := 1) rfl (by simp) (by simp) (by simp) ?_
      simpa using ih (i + 1) (acc ++ [a[i]]) (by omega) (by simp; omega) hd
  simp
  refine .inLoop ?_
  simpa using key a.length 0 [] (by omega) (by simp) (by simp)

theorem p_token_Texts (a : List Tok) {ka : Nat} (ha : Kd 3 ka a) (hs : a.length < 2 ^ 32) : PureCon Try.prog Γ n_token_Texts [.list false ka (a.map eTok)] (.own 1 t_string (a.map fun t => .str t.text)) := by
  refine .run 60 c_token_Texts (by simp) ?_
  have key : ∀ n i (acc : List Tok), i + n = a.length → acc.length ≤ i → acc ++ a.drop i = a → Fins Try.prog Γ (token_Texts_L1 (.sl 1 0 acc.length) (.list false ka (a.map eTok)) (.int .i64 a.length) (.int .i64 i) [.row 1 t_string [] none true false, .row 1 t_string (acc.map fun t => .str t.text) none true false]) (.ret (.own 1 t_string (a.map fun t => .str t.text))) := by
    intro n
    induction n with
    | zero =>
      intro i acc hi hacc hd
      obtain rfl : i = a.length := by omega
      rw [List.drop_length, List.append_nil] at hd
      subst hd
      refine .go 60 ?_
      simp
      exact .back (by simp)
    | succ n ih =>
      intro i acc hi hacc hd
      have h1 : i < a.length := by omega
      obtain rfl := ha.of h1
      rw [List.drop_eq_getElem_cons h1, List.append_cons] at hd
      refine .go 60 ?_
      simp (disch := omega) [h1]
      refine .reLoop ?_
      simp
      refine .drop 2 rfl (by simp) (by simp) (by simp) ?_
      refine .reset (i := 1) rfl (by simp) (by simp) (by simp) ?_
      simpa using ih (i + 1) (acc ++ [a[i]]) (by omega) (by simp; omega) hd
  simp
  refine .inLoop ?_
  simpa using key a.length 0 [] (by omega) (by simp) (by simp)

/-- The words of a text, read so. -/
def words (rd : List UInt8 → Nat → UInt8 → Option (Tok × Nat)) (s : List UInt8) : Except Nat (List Tok) := allS (rd s) s s.length 0 []
theorem oneOf_le {k : Int} {s : List UInt8} {i n : Nat} {t : Tok} {m : Nat} (h : oneOf k s i n = some (t, m)) : 0 < m ∧ m = n := by
  unfold oneOf at h
  split at h
  · cases h
  · simp at h; omega
theorem rdBench_le {s : List UInt8} {i : Nat} (hi : i < s.length) {t : Tok} {k : Nat} (h : rdBench s i s[i] = some (t, k)) : 0 < k ∧ i + k ≤ s.length := by
  have h1 := runB_le (p := not10) (s := s) (i := i)
  have h2 := runB_le (p := benchB) (s := s) (i := i)
  unfold rdBench at h
  split at h
  · rename_i hc
    have h3 : not10 s[i] = true := by simp [not10, hc]
    have h4 := runB_yes hi h3
    simp at h; omega
  · split at h
    · simp at h; omega
    · split at h
      · simp at h; omega
      · have := oneOf_le h; omega

theorem p_token_Bench (s : List UInt8) (hs : s.length < 4294967281) : PureCon Try.prog Γ n_token_Bench [.str s] (allR (words rdBench s)) := by
  refine .run 60 c_token_Bench (by simp) ?_
  simp
  refine .call 60 (by simp) (p_all m_token_bench_patchbay_token_read hs (fun i hi => p_bench_read s i (by omega) hi) (fun i hi t k h => by have := rdBench_le hi h; omega)) ?_
  unfold words
  cases allS (rdBench s) s s.length 0 [] with
  | ok l => simp; exact .back (by simp)
  | error i => simp; exact .back (by simp)
end Go.Proofs.Ytbdnncbigmcdjaa
/- Chapter 03: the reference's BENCH; the law. -/
namespace Go.Proofs.Ytbdnncbigmcdjaa
open Go.AM Go.Proofs
variable {Γ : Nat → Option AV}
set_option linter.unusedSimpArgs false

def refR : Except Nat (List Tok) → AV
  | .ok l => .tup [.own 3 t_r03_Token_2 (l.map eTok), .int .i64 0, .int .i64 0]
  | .error i => .tup [.own 3 t_r03_Token_2 [], .int .i64 i, .int .i64 2]

@[simp] theorem refR_ok (l : List Tok) : refR (.ok l) = .tup [.own 3 t_r03_Token_2 (l.map eTok), .int .i64 0, .int .i64 0] := rfl
@[simp] theorem refR_err (i : Nat) : refR (.error i) = .tup [.own 3 t_r03_Token_2 [], .int .i64 i, .int .i64 2] := rfl

theorem any_memB (l : List UInt8) (c : UInt8) : l.any (fun x => x == c) = memB l c := by
  rw [Bool.eq_iff_iff]; simp [memB]
theorem u8_lt127 (c : UInt8) : (c < 127) ↔ (c ≤ 126) := by rw [UInt8.lt_iff_toNat_lt, UInt8.le_iff_toNat_le]; simp; omega

theorem r03_Bench_in (s : List UInt8) (x5 x6 : AV) (h : List Ob) (hs : s.length < 2 ^ 60) : ∀ n j, j + n = s.length →
    AM.Reach Try.prog Γ (r03_Bench_L7 (.str s) x5 x6 (.int .i64 j) h) (r03_Bench_E7 (.str s) x5 x6 (.int .i64 ((j + runB benchB s j : Nat) : Int)) h) := by
  intro n
  induction n with
  | zero =>
    intro j hj
    obtain rfl : j = s.length := by omega
    refine .goS 60 ?_
    simp [runB_end]
    exact .exit rfl rfl
  | succ n ih =>
    intro j hj
    have h1 : j < s.length := by omega
    refine .goS 60 ?_
    by_cases h2 : 32 < s[j]
    · by_cases h3 : s[j] < 127
      · have h3' := (u8_lt127 _).1 h3
        simp (disch := omega) [h1, h2, h3]
        refine .callS 60 (by simp) (p_r03_in s[j] [61, 40, 41, 44, 35] (by simp)) ?_
        rw [any_memB]
        cases h4 : memB [61, 40, 41, 44, 35] s[j] with
        | true =>
          have hb : benchB s[j] = false := by simp [benchB, h4]
          simp (disch := omega) [runB_no h1 hb]
          exact .exit rfl rfl
        | false =>
          have hb : benchB s[j] = true := by simp [benchB, h2, h3', h4]
          simp (disch := omega)
          refine re_loop ?_
          rw [show ((j : Int) + (runB benchB s j : Int)) = ((j + 1 + runB benchB s (j + 1) : Nat) : Int) by rw [runB_yes h1 hb]; omega]
          simpa using ih (j + 1) (by omega)
      · have hb : benchB s[j] = false := by simp [benchB, ← u8_lt127, h3]
        simp (disch := omega) [h1, h2, h3, runB_no h1 hb]
        exact .exit rfl rfl
    · have hb : benchB s[j] = false := by simp [benchB, h2]
      simp (disch := omega) [h1, h2, runB_no h1 hb]
      exact .exit rfl rfl

theorem p_r03_Bench (s : List UInt8) (hs : s.length < 4294967281) : PureCon Try.prog Γ n_r03_Bench [.str s] (refR (words rdBench s)) := by
  refine .run 60 c_r03_Bench (by simp) ?_
  have key : ∀ n i (acc : List Tok), s.length ≤ i + n → i ≤ s.length → acc.length ≤ i → Fins Try.prog Γ (r03_Bench_L1 (.str s) (.sl 1 0 acc.length) (.int .i64 i)
      [.row 3 t_r03_Token_2 [] none true false, .row 3 t_r03_Token_2 (acc.map eTok) none true false]) (.ret (refR (allS (rdBench s) s n i acc))) := by
    intro n
    induction n with
    | zero =>
      intro i acc hn hi hacc
      obtain rfl : i = s.length := by omega
      refine .go 60 ?_
      simp [allS]
      exact .back (by simp)
    | succ n ih =>
      intro i acc hn hi hacc
      by_cases h0 : i < s.length
      · have hrd : ∀ t k, rdBench s i s[i] = some (t, k) → allS (rdBench s) s (n + 1) i acc = allS (rdBench s) s n (i + k) (if 0 ≤ t.kind then acc ++ [t] else acc) := fun t k h => by simp [allS, h0, h]
        have hle : ∀ t k, rdBench s i s[i] = some (t, k) → 0 < k ∧ i + k ≤ s.length := fun t k h => rdBench_le h0 h
        refine .go 60 ?_
        by_cases h1 : s[i] = 35
        · have h2 : rdBench s i s[i] = some (noTok, runB not10 s i) := by simp [rdBench, h1]
          rw [hrd _ _ h2]
          have h3 := hle _ _ h2
          simp (disch := omega) [h0, h1]
          refine .call 60 (by simp) (p_r03_line s i (by omega) (by omega)) ?_
          simp [noTok]
          refine .reLoop ?_
          simpa using ih (i + runB not10 s i) acc (by omega) (by omega) (by omega)
        simp (disch := omega) [h0, h1]
        refine .call 60 (by simp) (p_r03_blank s[i]) ?_
        cases h2 : memB [32, 9, 13, 10] s[i] with
        | true =>
          have h3 : rdBench s i s[i] = some (noTok, 1) := by simp [rdBench, h1, h2]
          rw [hrd _ _ h3]
          have h4 : blankB s[i] = true ∨ (blankB s[i] = false ∧ s[i] = 10) := by
            have := memB_yes h2
            simp at this
            rcases this with h | h | h | h <;> simp [blankB, h]
          rcases h4 with h4 | ⟨h4, h5⟩
          · simp (disch := omega) [h4, noTok]
            refine .reLoop ?_
            simpa using ih (i + 1) acc (by omega) (by omega) (by omega)
          · simp (disch := omega) [h4, h5, noTok]
            refine .reLoop ?_
            simp (disch := omega)
            simpa using ih (i + 1) acc (by omega) (by omega) (by omega)
        | false =>
        have h3 := memB_no h2
        simp at h3
        have h4 : blankB s[i] = false := by simp [blankB, h3]
        simp (disch := omega) [h4, h3]
        refine .call 60 (by simp) (p_r03_in s[i] [61, 40, 41, 44] (by simp)) ?_
        rw [any_memB]
        cases h5 : memB [61, 40, 41, 44] s[i] with
        | true =>
          have h6 : rdBench s i s[i] = some (⟨1, sub s i 1, i⟩, 1) := by simp [rdBench, h1, h2, h5]
          rw [hrd _ _ h6]
          have h7 : (s.take (i + 1)).drop i = sub s i 1 := by rw [sub, List.drop_take]; congr 1; omega
          simp (disch := omega) [h7]
          refine .reLoop ?_
          simp
          refine .reset (i := 1) rfl (by simp) (by simp) (by simp) ?_
          have hh := ih (i + 1) (acc ++ [⟨1, sub s i 1, i⟩]) (by omega) (by omega) (by simp; omega)
          simp at hh; exact hh
        | false =>
        simp (disch := omega)
        refine .inLoop ?_
        refine .reach (by simpa using r03_Bench_in s (.sl 1 0 acc.length) (.int .i64 i) _ (by omega) (s.length - i) i (by omega)) ?_
        refine .go 60 ?_
        by_cases h6 : runB benchB s i = 0
        · simp (disch := omega) [h6]
          exact .back (by simp [allS, h0, rdBench, h1, h2, h5, oneOf, h6])
        · have h7 : rdBench s i s[i] = some (⟨0, sub s i (runB benchB s i), i⟩, runB benchB s i) := by simp [rdBench, h1, h2, h5, oneOf, h6]
          rw [hrd _ _ h7]
          have h8 := hle _ _ h7
          have h9 : (s.take (i + runB benchB s i)).drop i = sub s i (runB benchB s i) := by rw [sub, List.drop_take]; congr 1; omega
          have h10 : ¬ ((i : Int) + (runB benchB s i : Int) = i) := by omega
          simp (disch := omega) [h10, h9]
          refine .reLoop ?_
          simp
          refine .reset (i := 1) rfl (by simp) (by simp) (by simp) ?_
          have hh := ih (i + runB benchB s i) (acc ++ [⟨0, sub s i (runB benchB s i), i⟩]) (by omega) (by omega) (by simp; omega)
          simp at hh; exact hh
      · obtain rfl : i = s.length := by omega
        refine .go 60 ?_
        simp [allS]
        exact .back (by simp)
  simp
  refine .inLoop ?_
  simpa [words] using key s.length 0 [] (by omega) (by omega) (by simp)
end Go.Proofs.Ytbdnncbigmcdjaa
/- Chapter 03: BLIF and Verilog. -/
namespace Go.Proofs.Ytbdnncbigmcdjaa
open Go.AM Go.Proofs
variable {Γ : Nat → Option AV}
set_option linter.unusedSimpArgs false

theorem rdBlif_le {s : List UInt8} {i : Nat} (hi : i < s.length) {t : Tok} {k : Nat} (h : rdBlif s i s[i] = some (t, k)) : 0 < k ∧ i + k ≤ s.length := by
  have h1 := runB_le (p := not10) (s := s) (i := i)
  have h2 := runB_le (p := blifB) (s := s) (i := i)
  unfold rdBlif at h
  split at h
  · rename_i hc
    have h3 : not10 s[i] = true := by simp [not10, hc]
    have h4 := runB_yes hi h3
    simp at h; omega
  split at h
  · rename_i hc
    have := hasPre_len hc
    simp at this h; omega
  split at h
  · simp at h; omega
  split at h
  · simp at h; omega
  split at h
  · simp at h; omega
  have := oneOf_le h; omega
theorem rdVer_le {s : List UInt8} {i : Nat} (hi : i < s.length) {t : Tok} {k : Nat} (h : rdVer s i s[i] = some (t, k)) : 0 < k ∧ k ≤ s.length + 4 := by
  have h1 := runB_le (p := not10) (s := s) (i := i)
  have h2 := runB_le (p := namedB) (s := s) (i := i)
  have h5 := runB_le (p := graphB) (s := s) (i := i + 1)
  unfold rdVer at h
  split at h
  · simp at h; omega
  split at h
  · rename_i hc
    have h4 : s[i] = 47 := by
      rw [hasPre, List.drop_eq_getElem_cons hi] at hc
      simp [List.isPrefixOf] at hc
      exact hc.1.symm
    have h3 : not10 s[i] = true := by simp [not10, h4]
    have h4 := runB_yes hi h3
    simp at h; omega
  split at h
  · have := index_le (s.drop (i + 2)) [42, 47]
    rw [List.length_drop] at this
    split at h
    · cases h
    · simp at h; omega
  split at h
  · simp at h; omega
  split at h
  · split at h
    · cases h
    · simp at h; omega
  have := oneOf_le h; omega

theorem p_token_Verilog (hΓ : ΓM Γ) (s : List UInt8) (hs : s.length < 4294967281) : PureCon Try.prog Γ n_token_Verilog [.str s] (allR (words rdVer s)) := by
  refine .run 60 c_token_Verilog (by simp) ?_
  simp
  refine .call 60 (by simp) (p_all m_token_verilog_patchbay_token_read hs (fun i hi => p_verilog_read hΓ s i (by omega) hi) (fun i hi t k h => rdVer_le hi h)) ?_
  unfold words
  cases allS (rdVer s) s s.length 0 [] with
  | ok l => simp; exact .back (by simp)
  | error i => simp; exact .back (by simp)

/-- BLIF can be read. -/
theorem rdBlif_some {s : List UInt8} {i : Nat} (hi : i < s.length) : ∃ t k, rdBlif s i s[i] = some (t, k) := by
  unfold rdBlif
  split
  · exact ⟨_, _, rfl⟩
  split
  · exact ⟨_, _, rfl⟩
  split
  · exact ⟨_, _, rfl⟩
  split
  · exact ⟨_, _, rfl⟩
  split
  · exact ⟨_, _, rfl⟩
  rename_i h1 h2 h3 h4 h5
  have hb : blifB s[i] = true := by
    simp [memB] at h3
    simp [blifB, memB, h1, h3, h4, h5]
  have := runB_yes hi hb
  unfold oneOf
  rw [if_neg (by omega)]
  exact ⟨_, _, rfl⟩
theorem allS_ok {rd : Nat → UInt8 → Option (Tok × Nat)} {s : List UInt8} (h : ∀ i (hi : i < s.length), ∃ t k, rd i s[i] = some (t, k)) : ∀ n i acc, ∃ l, allS rd s n i acc = .ok l
  | 0, i, acc => ⟨acc, rfl⟩
  | n + 1, i, acc => by
    simp only [allS]
    by_cases hi : i < s.length
    · obtain ⟨t, k, h1⟩ := h i hi
      rw [dif_pos hi]
      simp only [h1]
      exact allS_ok h n _ _
    · rw [dif_neg hi]
      exact ⟨_, rfl⟩
theorem allS_len {rd : Nat → UInt8 → Option (Tok × Nat)} {s : List UInt8} : ∀ {n i acc l}, allS rd s n i acc = .ok l → l.length ≤ acc.length + n
  | 0, i, acc, l, h => by simp only [allS] at h; cases h; omega
  | n + 1, i, acc, l, h => by
    simp only [allS] at h
    split at h
    · split at h
      · cases h
      · have := allS_len h
        split at this
        · simp at this; omega
        · omega
    · cases h; omega

def isEnd (t : Tok) : Bool := decide (t.kind = 3)
/-- Ends of lines only behind something. -/
def squeeze : Bool → List Tok → List Tok
  | _, [] => []
  | p, t :: r => if isEnd t && p then squeeze (isEnd t) r else t :: squeeze (isEnd t) r
theorem squeeze_drop {p : Bool} {L : List Tok} {i : Nat} (h : i < L.length) : squeeze p (L.drop i) = if isEnd L[i] && p then squeeze (isEnd L[i]) (L.drop (i + 1)) else L[i] :: squeeze (isEnd L[i]) (L.drop (i + 1)) := by
  rw [List.drop_eq_getElem_cons h, squeeze]
def blifS (s : List UInt8) : List Tok := match words rdBlif s with
  | .ok l => squeeze true (l ++ [⟨3, [], s.length⟩])
  | .error _ => []

theorem p_token_Blif (s : List UInt8) (hs : s.length < 2 ^ 31) : PureCon Try.prog Γ n_token_Blif [.str s] (.own 3 t_token_Token_2 ((blifS s).map eTok)) := by
  refine .run 90 c_token_Blif (by simp) ?_
  simp
  refine .call 90 (by simp) (p_all m_token_blif_patchbay_token_read (by omega) (fun i hi => p_blif_read s i (by omega) hi) (fun i hi t k h => by have := rdBlif_le hi h; omega)) ?_
  obtain ⟨l, hl⟩ := allS_ok (fun i hi => rdBlif_some (s := s) hi) s.length 0 []
  have hlen := allS_len hl
  have hw : blifS s = squeeze true (l ++ [⟨3, [], s.length⟩]) := by simp [blifS, words, hl]
  rw [hw, hl]
  simp at hlen
  simp (disch := omega)
  refine .inLoop ?_
  have key : ∀ n i (acc : List Tok) (p : Bool) (L : List Tok), i + n = L.length → acc.length ≤ i → L.length < 2 ^ 32 → p = (decide (i = 0) || (L.map isEnd).getD (i - 1) true) →
      Fins Try.prog Γ (token_Blif_L1 (.sl 1 0 L.length) (.sl 2 0 acc.length) (.sl 1 0 L.length) (.int .i64 L.length) (.int .i64 i) [.row 3 t_token_Token_2 [] none true false, .row 3 t_token_Token_2 (L.map eTok) (some 0) true false,
        .row 3 t_token_Token_2 (acc.map eTok) none true false]) (.ret (.own 3 t_token_Token_2 ((acc ++ squeeze p (L.drop i)).map eTok))) := by
    intro n
    induction n with
    | zero =>
      intro i acc p L hi hacc hL hp
      obtain rfl : i = L.length := by omega
      refine .go 90 ?_
      simp [squeeze]
      exact .back (by simp)
    | succ n ih =>
      intro i acc p L hi hacc hL hp
      have h1 : i < L.length := by omega
      have ih1 := ih (i + 1) acc (isEnd L[i]) L (by omega) (by omega) hL (by simp [h1])
      have ih2 := ih (i + 1) (acc ++ [L[i]]) (isEnd L[i]) L (by omega) (by simp; omega) hL (by simp [h1])
      have hsq := squeeze_drop (p := p) h1
      refine .go 90 ?_
      by_cases h2 : L[i].kind = 3
      · have h3 : isEnd L[i] = true := by simp [isEnd, h2]
        by_cases h4 : i = 0
        · subst h4
          have hp1 : p = true := by simpa using hp
          subst hp1
          simp [h3] at hsq ih1
          simp (disch := omega) [h1, h2, hsq]
          refine .reLoop ?_
          simp
          refine .drop 3 rfl (by simp) (by simp) (by simp) ?_
          exact ih1
        · have h5 : i - 1 < L.length := by omega
          have h8 : 0 < i := by omega
          have hp2 : p = isEnd L[i - 1] := by simpa [h4, h5] using hp
          by_cases h7 : L[i - 1].kind = 3
          · have hp1 : p = true := by simp [hp2, isEnd, h7]
            subst hp1
            simp [h3] at hsq ih1
            simp (disch := omega) [h1, h2, h8, h7, hsq]
            refine .reLoop ?_
            simp
            refine .drop 3 rfl (by simp) (by simp) (by simp) ?_
            exact ih1
          · have hp1 : p = false := by simp [hp2, isEnd, h7]
            subst hp1
            simp [h3] at hsq
            simp [h3, h2] at ih2
            simp (disch := omega) [h1, h2, h8, h7, hsq]
            refine .reLoop ?_
            simp
            refine .drop 3 rfl (by simp) (by simp) (by simp) ?_
            refine .reset (i := 2) rfl (by simp) (by simp) (by simp) ?_
            simp
            exact ih2
      · have h3 : isEnd L[i] = false := by simp [isEnd, h2]
        simp [h3] at hsq ih2
        simp (disch := omega) [h1, h2, hsq]
        refine .reLoop ?_
        simp
        refine .drop 3 rfl (by simp) (by simp) (by simp) ?_
        refine .reset (i := 2) rfl (by simp) (by simp) (by simp) ?_
        simp
        exact ih2
  have hh := key (l.length + 1) 0 [] true (l ++ [⟨3, [], s.length⟩]) (by simp) (by simp) (by simp; omega) (by simp)
  simp at hh ⊢
  exact hh
end Go.Proofs.Ytbdnncbigmcdjaa
/- Chapter 03: the laws TokenBench, TokenRows. -/
namespace Go.Proofs.Ytbdnncbigmcdjaa
open Go.AM Go.Proofs
variable {Γ : Nat → Option AV}
set_option linter.unusedSimpArgs false

theorem wk1 : blifS [97, 32, 35, 32, 98] = [⟨0, [97], 0⟩, ⟨3, [], 5⟩] := by kernel_rfl
theorem wk2 : words rdBench [122, 32, 61, 32, 65, 78, 68, 40, 97, 44, 32, 98, 41, 32, 35, 32, 120] = .ok [⟨0, [122], 0⟩, ⟨1, [61], 2⟩, ⟨0, [65, 78, 68], 4⟩, ⟨1, [40], 7⟩, ⟨0, [97], 8⟩, ⟨1, [44], 9⟩, ⟨0, [98], 11⟩, ⟨1, [41], 12⟩] := by kernel_rfl
theorem wk3 : words rdVer [97, 115, 115, 105, 103, 110, 32, 92, 97, 46, 98, 32, 61, 32, 126, 120, 59, 32, 47, 47, 32, 121] = .ok [⟨0, [97, 115, 115, 105, 103, 110], 0⟩, ⟨2, [97, 46, 98], 7⟩, ⟨1, [61], 12⟩, ⟨1, [126], 14⟩, ⟨0, [120], 15⟩, ⟨1, [59], 16⟩] := by kernel_rfl
theorem wk4 : words rdVer [97, 32, 63, 32, 98] = .error 2 := by kernel_rfl

theorem p_works (hΓ : ΓM Γ) : PureCon Try.prog Γ n_w03_works [] (.bool true) := by
  refine .run 90 c_w03_works (by simp) ?_
  simp
  refine .call 90 (by simp) (p_token_Blif [97, 32, 35, 32, 98] (by simp)) ?_
  rw [wk1]
  simp
  refine .call 90 (by simp) (p_token_Bench [122, 32, 61, 32, 65, 78, 68, 40, 97, 44, 32, 98, 41, 32, 35, 32, 120] (by simp)) ?_
  rw [wk2]
  simp
  refine .call 90 (by simp) (p_token_Verilog hΓ [97, 115, 115, 105, 103, 110, 32, 92, 97, 46, 98, 32, 61, 32, 126, 120, 59, 32, 47, 47, 32, 121] (by simp)) ?_
  rw [wk3]
  simp
  refine .call 90 (by simp) (p_token_Verilog hΓ [97, 32, 63, 32, 98] (by simp)) ?_
  rw [wk4]
  simp
  refine .call 90 (by simp) (p_token_Texts [⟨0, [97, 115, 115, 105, 103, 110], 0⟩, ⟨2, [97, 46, 98], 7⟩, ⟨1, [61], 12⟩, ⟨1, [126], 14⟩, ⟨0, [120], 15⟩, ⟨1, [59], 16⟩] (.inl rfl) (by simp)) ?_
  simp
  refine .call 90 (by simp) (p_token_Same [⟨0, [97], 0⟩, ⟨3, [], 5⟩] [⟨0, [97], 0⟩, ⟨3, [], 5⟩] (.inl rfl) (.inl rfl) (by simp)) ?_
  simp
  refine .call 90 (by simp) (p_token_Same [⟨0, [97], 0⟩, ⟨3, [], 5⟩] [⟨0, [122], 0⟩, ⟨1, [61], 2⟩, ⟨0, [65, 78, 68], 4⟩, ⟨1, [40], 7⟩, ⟨0, [97], 8⟩, ⟨1, [44], 9⟩, ⟨0, [98], 11⟩, ⟨1, [41], 12⟩] (.inl rfl) (.inl rfl) (by simp)) ?_
  simp
  exact .back (by simp)

theorem l_TokenBench (hΓ : ΓM Γ) (s : List UInt8) : PureCon Try.prog Γ n_w03_TokenBench [.str s] (.bool true) := by
  refine .run 90 c_w03_TokenBench (by simp) ?_
  simp
  refine .call 90 (by simp) (p_works hΓ) ?_
  by_cases h : 300 < s.length
  · have h1 : (300 : Int) < s.length := by omega
    simp [h1]
    exact .back (by simp)
  have h1 : ¬ (300 : Int) < s.length := by omega
  simp [h1]
  refine .call 90 (by simp) (p_token_Bench s (by omega)) ?_
  cases hw : words rdBench s with
  | ok l =>
    have hl : l.length ≤ s.length := by have := allS_len hw; simpa using this
    simp
    refine .call 90 (by simp) (p_r03_Bench s (by omega)) ?_
    simp [hw]
    refine .call 90 (by simp) (p_Of l (.inl rfl) (by omega)) ?_
    simp
    refine .call 90 (by simp) (p_r03_Same l l (.inl rfl) (.inl rfl) (by omega)) ?_
    simp
    exact .back (by simp)
  | error i =>
    simp
    refine .call 90 (by simp) (p_r03_Bench s (by omega)) ?_
    simp [hw]
    refine .call 90 (by simp) (p_Of [] (ka := 0) (.inr rfl) (by simp)) ?_
    simp
    refine .call 90 (by simp) (p_r03_Same [] [] (.inl rfl) (.inl rfl) (by simp)) ?_
    simp
    exact .back (by simp)

theorem l_TokenRows (hΓ : ΓM Γ) (a b : List Tok) {ka kb : Nat} (ha : Kd 3 ka a) (hb : Kd 3 kb b) : PureCon Try.prog Γ n_w03_TokenRows [.list false ka (a.map eTok), .list false kb (b.map eTok)] (.bool true) := by
  refine .run 90 c_w03_TokenRows (by simp) ?_
  simp
  refine .call 90 (by simp) (p_works hΓ) ?_
  by_cases h : 30 < a.length
  · have h1 : (30 : Int) < a.length := by omega
    simp [h1]
    exact .back (by simp)
  have h1 : ¬ (30 : Int) < a.length := by omega
  by_cases h' : 30 < b.length
  · have h2 : (30 : Int) < b.length := by omega
    simp [h1, h2]
    exact .back (by simp)
  have h2 : ¬ (30 : Int) < b.length := by omega
  simp [h1, h2]
  refine .call 90 (by simp) (p_Of a ha (by omega)) ?_
  simp
  refine .call 90 (by simp) (p_Of b hb (by omega)) ?_
  simp
  refine .call 90 (by simp) (p_r03_Same a b (.inl rfl) (.inl rfl) (by omega)) ?_
  simp
  refine .call 90 (by simp) (p_token_Texts a ha (by omega)) ?_
  simp
  refine .call 90 (by simp) (p_Of a ha (by omega)) ?_
  simp
  refine .call 90 (by simp) (p_r03_Texts a (.inl rfl) (by omega)) ?_
  simp
  refine .call 90 (by simp [Function.comp_def]) (p_r01_Texts (a.map Tok.text) (a.map Tok.text) (.inl rfl) (.inl rfl) (by simp; omega)) ?_
  simp
  refine .call 90 (by simp) (p_token_Same a b ha hb (by omega)) ?_
  simp
  exact .back (by simp)
end Go.Proofs.Ytbdnncbigmcdjaa
/- Chapter 03: what the given statements ask beside the contracts. -/
namespace Go.Proofs.Ytbdnncbigmcdjaa
open Go.AM Go.Proofs Go.ChangeShapes Go.WideShapes Go.ChangeAt Go.RowKit

def ΓW (m : Int) : Nat → Option AV := fun n => if n = 0 then some (.int .i64 m) else none
theorem ΓW_ok {W : World} {m : Int} (hm : W.cell? ⟨0, 0, none⟩ = some (.int .i64 m)) : ∀ n a, ΓW m n = some a → belL 0 a.cells = true ∧ ∃ vs, VL (gw W) [] a.cells vs ∧ ∀ j (hj : j < vs.length), W.cell? ⟨n, j, none⟩ = some vs[j] := by
  intro n a h
  unfold ΓW at h
  split at h
  · rename_i hn
    cases h
    subst hn
    refine ⟨rfl, [.int .i64 m], by simp [AV.cells, VL, V], fun j hj => ?_⟩
    have : j = 0 := by simp at hj; omega
    subst this
    exact hm
  · cases h
theorem ΓW_M (m : Int) : ΓM (ΓW m) := ⟨m, rfl⟩

theorem own : ownKnob Try.prog.godebug = none := by kernel_rfl
theorem laid : laidOutB Try.prog = true := by kernel_rfl
theorem mapsR : mapsRowed Try.prog = true := by kernel_rfl

theorem args_str {xs : List AV} (h : IsArgs [(false, .str)] xs) : ∃ s, xs = [.str s] := by
  simp only [IsArgs, IsSh] at h
  obtain ⟨cs, xs', rfl, ⟨s, rfl, _⟩, _, rfl⟩ := h
  exact ⟨s, rfl⟩

theorem args_toks {xs : List AV} (h : IsArgs [(false, .list 3 true (.parts [.int .i64, .str, .int .i64])), (false, .list 3 true (.parts [.int .i64, .str, .int .i64]))] xs) : ∃ a b : List Tok, xs = [.list false 3 (a.map eTok), .list false 3 (b.map eTok)] := by
  have dec : ∀ x, IsShL [.int .i64, .str, .int .i64] x → ∃ t, mkA true x = eTok t := by
    intro x hx
    simp only [IsShL, IsSh] at hx
    obtain ⟨_, _, rfl, ⟨n, rfl, _⟩, _, _, rfl, ⟨s, rfl, _⟩, _, _, rfl, ⟨m, rfl, _⟩, rfl⟩ := hx
    exact ⟨⟨n, s, m⟩, rfl⟩
  simp only [IsArgs, IsSh] at h
  obtain ⟨_, _, rfl, ⟨x1, rfl, _, h1⟩, _, _, _, rfl, ⟨x2, rfl, _, h2⟩, _, rfl⟩ := h
  obtain ⟨a, ha, _⟩ := map_dec (f := mkA true) (e := eTok) (fun x hx => dec x (h1 x hx).1)
  obtain ⟨b, hb, _⟩ := map_dec (f := mkA true) (e := eTok) (fun x hx => dec x (h2 x hx).1)
  exact ⟨a, b, by simp [mkA, ha, hb]⟩
end Go.Proofs.Ytbdnncbigmcdjaa
