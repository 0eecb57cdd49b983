/- Chapter 03: the law TokenPlaces. -/
import Derived.Test.YtbdnncbigmcdjaaF
namespace Go.Proofs.Ytbdnncbigmcdjaa
open Go.AM Go.Proofs
variable {Γ : Nat → Option AV}
set_option linter.unusedSimpArgs false

/-- One token at its place. -/
def offT (t : Tok) : Nat := if t.kind = 2 then 1 else 0
def endT (p : Nat) (t : Tok) : Nat := p + offT t + t.text.length
def One (s : List UInt8) (p : Nat) (t : Tok) : Prop := t.pos = p ∧ endT p t ≤ s.length ∧ sub s (p + offT t) t.text.length = t.text ∧ (t.text = [] → t.kind = 3) ∧ 0 ≤ t.kind ∧ t.kind ≤ 3
def Placed (s : List UInt8) : Nat → List Tok → Prop
  | _, [] => True
  | last, t :: r => ∃ p, last ≤ p ∧ One s p t ∧ Placed s (endT p t) r

theorem Placed.mono {s : List UInt8} {a b : Nat} {l : List Tok} (h : b ≤ a) (hl : Placed s a l) : Placed s b l := by
  cases l with
  | nil => trivial
  | cons t r => obtain ⟨p, h1, h2⟩ := hl; exact ⟨p, Nat.le_trans h h1, h2⟩

set_option maxRecDepth 4000 in
theorem p_placed (s : List UInt8) (hs : s.length < 2 ^ 32) (l : List Tok) (hl : l.length < 2 ^ 32) {k : Nat} (hk : Kd 3 k l) (hp : Placed s 0 l) : PureCon Try.prog Γ n_w03_placed [.str s, .list false k (l.map eTok)] (.bool true) := by
  refine .run 60 c_w03_placed (by simp) ?_
  have key : ∀ n i last, i + n = l.length → Placed s last (l.drop i) → last ≤ s.length → Fins Try.prog Γ (w03_placed_L1 (.str s) (.list false k (l.map eTok)) (.int .i64 last) (.int .i64 i) []) (.ret (.bool true)) := by
    intro n
    induction n with
    | zero =>
      intro i last hi hd hls
      obtain rfl : i = l.length := by omega
      refine .go 60 ?_
      simp
      exact .back (by simp)
    | succ n ih =>
      intro i last hi hd hls
      have h1 : i < l.length := by omega
      obtain rfl := hk.of h1
      rw [List.drop_eq_getElem_cons h1] at hd
      obtain ⟨p, h2, ⟨h3, h4, h5, h6, h7, h8⟩, h9⟩ := hd
      have hh := ih (i + 1) (endT p l[i]) (by omega) h9 h4
      unfold endT at h4 hh
      have g1 : ¬ (p : Int) < last := by omega
      have g2 : ¬ (s.length : Int) < p := by omega
      have g3 : ¬ (s.length : Int) - p < l[i].text.length := by omega
      have g4 : ¬ l[i].kind < 0 := by omega
      have g5 : ¬ 3 < l[i].kind := by omega
      have g6 : l[i].text.length = 0 → l[i].kind = 3 := fun e => h6 (List.length_eq_zero_iff.1 e)
      refine .go 120 ?_
      by_cases h10 : l[i].kind = 2
      · simp only [offT, h10, if_true] at h4 h5 hh
        have g7 : ¬ l[i].text = [] := fun e => by have := h6 e; omega
        have g8 : ¬ (s.length : Int) - (p + 1) < l[i].text.length := by omega
        have g9 : (s.take (p + 1 + l[i].text.length)).drop (p + 1) = l[i].text := by rw [List.drop_take, show p + 1 + l[i].text.length - (p + 1) = l[i].text.length by omega]; exact h5
        simp (disch := omega) [h1, h3, g1, g2, g3, h10, g7, g8, g9]
        refine .reLoop ?_
        simp at hh ⊢
        exact hh
      · simp only [offT, h10, if_false, Nat.add_zero] at h4 h5 hh
        have g9 : (s.take (p + l[i].text.length)).drop p = l[i].text := by rw [List.drop_take, show p + l[i].text.length - p = l[i].text.length by omega]; exact h5
        by_cases h11 : l[i].text = []
        · have g10 := h6 h11
          rw [h11] at g3 g9 hh
          have g11 : ¬ (s.length : Int) - p < 0 := by omega
          simp (disch := omega) [h1, h3, g1, g2, g11, h11, g10]
          refine .reLoop ?_
          simp at hh ⊢
          exact hh
        · simp (disch := omega) [h1, h3, g1, g2, g3, g4, g5, h10, h11, g9]
          refine .reLoop ?_
          simp at hh ⊢
          exact hh
  simp
  refine .inLoop ?_
  simpa using key l.length 0 0 (by omega) (by simpa using hp) (by omega)

/-- Where a reader's tokens stand. -/
def RdAt (rd : Nat → UInt8 → Option (Tok × Nat)) (s : List UInt8) : Prop := ∀ i (hi : i < s.length) t k, rd i s[i] = some (t, k) → 0 ≤ t.kind → One s i t ∧ endT i t ≤ i + k

theorem allS_placed {rd : Nat → UInt8 → Option (Tok × Nat)} {s : List UInt8} (h : RdAt rd s) : ∀ n i acc l, allS rd s n i acc = .ok l → ∃ l', l = acc ++ l' ∧ Placed s i l'
  | 0, i, acc, l, hl => by simp only [allS] at hl; cases hl; exact ⟨[], by simp, trivial⟩
  | n + 1, i, acc, l, hl => by
    simp only [allS] at hl
    by_cases hi : i < s.length
    · rw [dif_pos hi] at hl
      cases hr : rd i s[i] with
      | none => rw [hr] at hl; cases hl
      | some x =>
        obtain ⟨t, k⟩ := x
        rw [hr] at hl
        simp only at hl
        by_cases ht : 0 ≤ t.kind
        · rw [if_pos ht] at hl
          obtain ⟨l', rfl, h2⟩ := allS_placed h n _ _ _ hl
          obtain ⟨h3, h4⟩ := h i hi t k hr ht
          exact ⟨t :: l', by simp, i, Nat.le_refl _, h3, h2.mono h4⟩
        · rw [if_neg ht] at hl
          obtain ⟨l', rfl, h2⟩ := allS_placed h n _ _ _ hl
          exact ⟨l', rfl, h2.mono (by omega)⟩
    · rw [dif_neg hi] at hl
      cases hl
      exact ⟨[], by simp, trivial⟩

theorem sub_len {s : List UInt8} {i n : Nat} (h : i + n ≤ s.length) : (sub s i n).length = n := by simp [sub]; omega
theorem One.of {s : List UInt8} {k : Int} {i n : Nat} (hn : 0 < n) (h : i + n ≤ s.length) (h1 : 0 ≤ k) (h2 : k ≤ 1) : One s i ⟨k, sub s i n, i⟩ ∧ endT i ⟨k, sub s i n, i⟩ = i + n := by
  have h3 : ¬ k = 2 := by omega
  have h4 := sub_len h
  refine ⟨⟨rfl, ?_, ?_, ?_, h1, by simp only; omega⟩, ?_⟩
  · simp [endT, offT, h3, h4]; exact h
  · simp [offT, h3, h4]
  · intro e; simp only at e; rw [e] at h4; simp at h4; omega
  · simp [endT, offT, h3, h4]

theorem oneOf_at {s : List UInt8} {k : Int} {i n : Nat} (h : i + n ≤ s.length) (h1 : 0 ≤ k) (h2 : k ≤ 1) {t : Tok} {m : Nat} (hr : oneOf k s i n = some (t, m)) : One s i t ∧ endT i t ≤ i + m := by
  unfold oneOf at hr
  split at hr
  · cases hr
  · cases hr
    have := One.of (k := k) (s := s) (i := i) (n := n) (by omega) h h1 h2
    exact ⟨this.1, by omega⟩

theorem at_Bench (s : List UInt8) : RdAt (rdBench s) s := by
  intro i hi t k hr ht
  have h2 := runB_le (p := benchB) (s := s) (i := i)
  unfold rdBench at hr
  split at hr
  · cases hr; simp [noTok] at ht
  split at hr
  · cases hr; simp [noTok] at ht
  split at hr
  · cases hr
    have := One.of (k := 1) (s := s) (i := i) (n := 1) (by omega) (by omega) (by omega) (by omega)
    exact ⟨this.1, by omega⟩
  exact oneOf_at (by omega) (by omega) (by omega) hr
theorem at_Blif (s : List UInt8) : RdAt (rdBlif s) s := by
  intro i hi t k hr ht
  have h2 := runB_le (p := blifB) (s := s) (i := i)
  unfold rdBlif at hr
  split at hr
  · cases hr; simp [noTok] at ht
  split at hr
  · cases hr; simp [noTok] at ht
  split at hr
  · cases hr; simp [noTok] at ht
  split at hr
  · cases hr
    exact ⟨⟨rfl, by simp [endT, offT]; omega, by simp [offT, sub], by simp, by simp, by simp⟩, by simp [endT, offT]⟩
  split at hr
  · cases hr
    have := One.of (k := 0) (s := s) (i := i) (n := 1) (by omega) (by omega) (by omega) (by omega)
    exact ⟨this.1, by omega⟩
  exact oneOf_at (by omega) (by omega) (by omega) hr
theorem at_Ver (s : List UInt8) : RdAt (rdVer s) s := by
  intro i hi t k hr ht
  have h2 := runB_le (p := namedB) (s := s) (i := i)
  have h3 := runB_le (p := graphB) (s := s) (i := i + 1)
  unfold rdVer at hr
  split at hr
  · cases hr; simp [noTok] at ht
  split at hr
  · cases hr; simp [noTok] at ht
  split at hr
  · split at hr
    · cases hr
    · cases hr; simp [noTok] at ht
  split at hr
  · cases hr
    have := One.of (k := 1) (s := s) (i := i) (n := 1) (by omega) (by omega) (by omega) (by omega)
    exact ⟨this.1, by omega⟩
  split at hr
  · split at hr
    · cases hr
    · rename_i h4
      cases hr
      have h5 : (sub s (i + 1) (runB graphB s (i + 1))).length = runB graphB s (i + 1) := sub_len (by omega)
      refine ⟨⟨rfl, ?_, ?_, ?_, by simp, by simp⟩, ?_⟩
      · simp [endT, offT, h5]; omega
      · simp [offT, h5]
      · intro e; simp only at e; rw [e] at h5; simp at h5; omega
      · simp [endT, offT, h5]; omega
  exact oneOf_at (by omega) (by omega) (by omega) hr

theorem squeeze_placed {s : List UInt8} : ∀ {l : List Tok} {p : Bool} {last : Nat}, Placed s last l → Placed s last (squeeze p l)
  | [], _, _, _ => by simp [squeeze, Placed]
  | t :: r, p, last, h => by
    obtain ⟨q, h1, h2, h3⟩ := h
    unfold squeeze
    split
    · refine (squeeze_placed h3).mono ?_
      unfold endT; omega
    · exact ⟨q, h1, h2, squeeze_placed h3⟩
theorem placed_end {s : List UInt8} : ∀ {l : List Tok} {last : Nat}, last ≤ s.length → Placed s last l → Placed s last (l ++ [⟨3, [], s.length⟩])
  | [], last, hls, _ => ⟨s.length, hls, ⟨rfl, by simp [endT, offT], by simp [offT, sub], by simp, by simp, by simp⟩, trivial⟩
  | t :: r, last, _, h => by
    obtain ⟨q, h1, h2, h3⟩ := h
    exact ⟨q, h1, h2, placed_end h2.2.1 h3⟩
theorem squeeze_len : ∀ (p : Bool) (l : List Tok), (squeeze p l).length ≤ l.length
  | _, [] => by simp [squeeze]
  | p, t :: r => by
    have := squeeze_len (isEnd t) r
    unfold squeeze
    split <;> simp <;> omega

theorem words_placed {rd : List UInt8 → Nat → UInt8 → Option (Tok × Nat)} {s : List UInt8} (h : RdAt (rd s) s) {l : List Tok} (hl : words rd s = .ok l) : Placed s 0 l ∧ l.length ≤ s.length := by
  obtain ⟨l', rfl, h1⟩ := allS_placed h _ _ _ _ hl
  have := allS_len hl
  exact ⟨by simpa using h1, by simpa using this⟩
theorem blif_placed (s : List UInt8) : Placed s 0 (blifS s) ∧ (blifS s).length ≤ s.length + 1 := by
  unfold blifS
  cases hw : words rdBlif s with
  | ok l =>
    obtain ⟨h1, h2⟩ := words_placed (at_Blif s) hw
    have := squeeze_len true (l ++ [⟨3, [], s.length⟩])
    exact ⟨squeeze_placed (placed_end (by omega) h1), by simp at this ⊢; omega⟩
  | error i => exact ⟨trivial, by simp⟩

/-- Tokens that came, or none. -/
def okL : Except Nat (List Tok) → List Tok
  | .ok l => l
  | .error _ => []
theorem okL_placed {rd : List UInt8 → Nat → UInt8 → Option (Tok × Nat)} {s : List UInt8} (h : RdAt (rd s) s) : Placed s 0 (okL (words rd s)) ∧ (okL (words rd s)).length ≤ s.length := by
  cases hw : words rd s with
  | ok l => exact words_placed h hw
  | error i => exact ⟨trivial, by simp [okL]⟩

theorem l_TokenPlaces (hΓ : ΓM Γ) (s : List UInt8) : PureCon Try.prog Γ n_w03_TokenPlaces [.str s] (.bool true) := by
  refine .run 90 c_w03_TokenPlaces (by simp) ?_
  simp
  refine .call 90 (by simp) (p_works hΓ) ?_
  by_cases h : 300 < s.length
  · have h1 : (300 : Int) < s.length := by omega
    simp [h1]
    exact .back (by simp)
  have h1 : ¬ (300 : Int) < s.length := by omega
  simp [h1]
  refine .call 90 (by simp) (p_token_Blif s (by omega)) ?_
  simp
  refine .call 90 (by simp) (p_token_Bench s (by omega)) ?_
  obtain ⟨a1, a2⟩ := blif_placed s
  obtain ⟨b1, b2⟩ := okL_placed (at_Bench s)
  obtain ⟨c1, c2⟩ := okL_placed (at_Ver s)
  cases hb : words rdBench s with
  | ok l =>
    rw [hb] at b1 b2
    simp
    refine .call 90 (by simp) (p_token_Verilog hΓ s (by omega)) ?_
    cases hc : words rdVer s with
    | ok l2 =>
      rw [hc] at c1 c2
      simp
      refine .call 90 (by simp) (p_placed s (by omega) (blifS s) (by omega) (.inl rfl) a1) ?_
      simp
      refine .call 90 (by simp) (p_placed s (by omega) l (by simp [okL] at b2; omega) (.inl rfl) b1) ?_
      simp
      refine .call 90 (by simp) (p_placed s (by omega) l2 (by simp [okL] at c2; omega) (.inl rfl) c1) ?_
      simp
      exact .back (by simp)
    | error i =>
      simp
      refine .call 90 (by simp) (p_placed s (by omega) (blifS s) (by omega) (.inl rfl) a1) ?_
      simp
      refine .call 90 (by simp) (p_placed s (by omega) l (by simp [okL] at b2; omega) (.inl rfl) b1) ?_
      simp
      refine .call 90 (by simp) (p_placed s (by omega) [] (k := 0) (by simp) (.inr rfl) trivial) ?_
      simp
      exact .back (by simp)
  | error i =>
    simp
    refine .call 90 (by simp) (p_token_Verilog hΓ s (by omega)) ?_
    cases hc : words rdVer s with
    | ok l2 =>
      rw [hc] at c1 c2
      simp
      refine .call 90 (by simp) (p_placed s (by omega) (blifS s) (by omega) (.inl rfl) a1) ?_
      simp
      refine .call 90 (by simp) (p_placed s (by omega) [] (k := 0) (by simp) (.inr rfl) trivial) ?_
      simp
      refine .call 90 (by simp) (p_placed s (by omega) l2 (by simp [okL] at c2; omega) (.inl rfl) c1) ?_
      simp
      exact .back (by simp)
    | error i =>
      simp
      refine .call 90 (by simp) (p_placed s (by omega) (blifS s) (by omega) (.inl rfl) a1) ?_
      simp
      refine .call 90 (by simp) (p_placed s (by omega) [] (k := 0) (by simp) (.inr rfl) trivial) ?_
      simp
      refine .call 90 (by simp) (p_placed s (by omega) [] (k := 0) (by simp) (.inr rfl) trivial) ?_
      simp
      exact .back (by simp)
end Go.Proofs.Ytbdnncbigmcdjaa
/- Chapter 03: the law TokenAgain. -/
namespace Go.Proofs.Ytbdnncbigmcdjaa
open Go.AM Go.Proofs
variable {Γ : Nat → Option AV}
set_option linter.unusedSimpArgs false

def core (t : Tok) : List UInt8 := (if t.kind = 2 then [92] else []) ++ (if t.kind = 3 then [10] else []) ++ t.text
def spacedS (l : List Tok) : List UInt8 := l.flatMap fun t => core t ++ [32]
def strip (t : Tok) : Int × List UInt8 := (t.kind, t.text)

theorem spacedS_cons (t : Tok) (r : List Tok) : spacedS (t :: r) = core t ++ 32 :: spacedS r := by simp [spacedS]
theorem spacedS_len {m : Nat} : ∀ {l : List Tok}, (∀ t ∈ l, t.text.length ≤ m) → (spacedS l).length ≤ l.length * (m + 3)
  | [], _ => by simp [spacedS]
  | t :: r, h => by
    have h1 := spacedS_len (l := r) (fun x hx => h x (List.mem_cons_of_mem _ hx))
    have h2 := h t (by simp)
    have h3 : (core t).length ≤ m + 2 := by
      unfold core
      split <;> split <;> simp <;> omega
    rw [spacedS_cons, List.length_append, List.length_cons, List.length_cons, Nat.succ_mul]
    omega

theorem p_spaced (l : List Tok) {k : Nat} (hk : Kd 3 k l) (hl : l.length < 2 ^ 32) (hS : (spacedS l).length < 2 ^ 40) : PureCon Try.prog Γ n_w03_spaced [.list false k (l.map eTok)] (.str (spacedS l)) := by
  refine .run 60 c_w03_spaced (by simp) ?_
  have key : ∀ n i (acc : List UInt8), i + n = l.length → acc ++ spacedS (l.drop i) = spacedS l → Fins Try.prog Γ (w03_spaced_L1 (.list false k (l.map eTok)) (.str acc) (.int .i64 i) []) (.ret (.str (spacedS l))) := by
    intro n
    induction n with
    | zero =>
      intro i acc hi hd
      obtain rfl : i = l.length := by omega
      rw [List.drop_length] at hd
      simp [spacedS] at hd
      refine .go 60 ?_
      simp
      exact .back (by simp [hd, spacedS])
    | succ n ih =>
      intro i acc hi hd
      have h1 : i < l.length := by omega
      obtain rfl := hk.of h1
      rw [List.drop_eq_getElem_cons h1, spacedS_cons] at hd
      have hh := ih (i + 1) (acc ++ core l[i] ++ [32]) (by omega) (by rw [← hd]; simp)
      have hlen := congrArg List.length hd
      rw [List.length_append, List.length_append, List.length_cons] at hlen
      unfold core at hh hlen
      refine .go 90 ?_
      by_cases h2 : l[i].kind = 2
      · simp [h2] at hlen
        simp (disch := (first | omega | (simp; omega))) [h1, h2]
        refine .reLoop ?_
        simp [h2] at hh ⊢
        exact hh
      · by_cases h3 : l[i].kind = 3
        · simp [h3] at hlen
          simp (disch := (first | omega | (simp; omega))) [h1, h3]
          refine .reLoop ?_
          simp [h3] at hh ⊢
          exact hh
        · simp [h2, h3] at hlen
          simp (disch := (first | omega | (simp; omega))) [h1, h2, h3]
          refine .reLoop ?_
          simp [h2, h3] at hh ⊢
          exact hh
  simp
  refine .inLoop ?_
  have hh := key l.length 0 [] (by omega) (by simp)
  simp at hh ⊢
  exact hh

theorem p_kinds (a b : List Tok) {ka kb : Nat} (ha : Kd 3 ka a) (hb : Kd 3 kb b) (hs : a.length < 2 ^ 32) (hab : a.map strip = b.map strip) : PureCon Try.prog Γ n_w03_kinds [.list false ka (a.map eTok), .list false kb (b.map eTok)] (.bool true) := by
  refine .run 60 c_w03_kinds (by simp) ?_
  have hl : a.length = b.length := by simpa using congrArg List.length hab
  have key : ∀ n i : Nat, i + n = a.length → Fins Try.prog Γ (w03_kinds_L1 (.list false ka (a.map eTok)) (.list false kb (b.map eTok)) (.int .i64 i) []) (.ret (.bool true)) := by
    intro n
    induction n with
    | zero =>
      intro i hi
      have h1 : ¬ i < a.length := by omega
      refine .go 60 ?_
      simp [h1]
      exact .back (by simp)
    | succ n ih =>
      intro i hi
      have h1 : i < a.length := by omega
      have h2 : i < b.length := by omega
      obtain rfl := ha.of h1
      obtain rfl := hb.of h2
      have h3 : strip a[i] = strip b[i] := by
        have := congrArg (fun l => l[i]?) hab
        simpa [h1, h2] using this
      simp only [strip, Prod.mk.injEq] at h3
      refine .go 90 ?_
      simp (disch := omega) [h1, h2, h3.1, h3.2]
      refine .reLoop ?_
      simpa using ih (i + 1) (by omega)
  simp [hl]
  refine .inLoop ?_
  simpa [hl] using key a.length 0 (by omega)

/-! ### Reading again -/

theorem bytes (P : UInt8 → Bool) (h : (List.range 256).all (fun n => P (UInt8.ofNat n)) = true) (c : UInt8) : P c = true := by
  have h1 := List.all_eq_true.1 h c.toNat (by simp; exact c.toNat_lt)
  simpa using h1

theorem drop_head {α : Type} {S : List α} {i : Nat} {c : α} {d : List α} (h : S.drop i = c :: d) : ∃ hi : i < S.length, S[i] = c ∧ S.drop (i + 1) = d := by
  have hi : i < S.length := by
    rcases Nat.lt_or_ge i S.length with h1 | h1
    · exact h1
    · rw [List.drop_eq_nil_of_le h1] at h; cases h
  rw [List.drop_eq_getElem_cons hi] at h
  cases h
  exact ⟨hi, rfl, rfl⟩
theorem runB_app {p : UInt8 → Bool} {S w rest : List UInt8} {i : Nat} (h : S.drop i = w ++ 32 :: rest) (hw : ∀ x ∈ w, p x = true) (hp : p 32 = false) : runB p S i = w.length := by
  rw [runB, h, List.takeWhile_append_of_pos hw, List.takeWhile_cons, hp]
  simp
theorem sub_app {S w rest : List UInt8} {i : Nat} (h : S.drop i = w ++ rest) : sub S i w.length = w := by
  rw [sub, h]; simp
theorem hasPre_ne {x c : UInt8} {p d : List UInt8} (h : ¬ c = x) : hasPre (x :: p) (c :: d) = false := by
  have : ¬ x = c := fun e => h e.symm
  simp [hasPre, List.isPrefixOf, this]

/-- A format whose good tokens are read again. -/
structure Reads (rd : List UInt8 → Nat → UInt8 → Option (Tok × Nat)) (good : Tok → Prop) : Prop where
  blank : ∀ S i d, S.drop i = 32 :: d → rd S i 32 = some (noTok, 1)
  tok : ∀ S i t rest, good t → S.drop i = core t ++ 32 :: rest → ∃ (hi : i < S.length) (t' : Tok), rd S i S[i] = some (t', (core t).length) ∧ strip t' = strip t
  kind : ∀ t, good t → 0 ≤ t.kind
  made : ∀ S i (hi : i < S.length) t k, rd S i S[i] = some (t, k) → 0 ≤ t.kind → good t

theorem Reads.all {rd good} (R : Reads rd good) {s : List UInt8} : ∀ n i acc l, allS (rd s) s n i acc = .ok l → (∀ t ∈ acc, good t) → ∀ t ∈ l, good t
  | 0, i, acc, l, hl, h => by simp only [allS] at hl; cases hl; exact h
  | n + 1, i, acc, l, hl, h => by
    simp only [allS] at hl
    by_cases hi : i < s.length
    · rw [dif_pos hi] at hl
      cases hr : rd s i s[i] with
      | none => rw [hr] at hl; cases hl
      | some x =>
        obtain ⟨t, k⟩ := x
        rw [hr] at hl
        simp only at hl
        refine Reads.all R n _ _ l hl ?_
        intro u hu
        split at hu
        · rename_i ht
          rcases List.mem_append.1 hu with hu | hu
          · exact h u hu
          · simp at hu; subst hu; exact R.made s i hi _ k hr ht
        · exact h u hu
    · rw [dif_neg hi] at hl
      cases hl
      exact h

theorem Reads.again {rd good} (R : Reads rd good) {S : List UInt8} : ∀ (l : List Tok), (∀ t ∈ l, good t) → ∀ n i acc, S.drop i = spacedS l → i ≤ S.length → S.length ≤ i + n → ∃ l', allS (rd S) S n i acc = .ok (acc ++ l') ∧ l'.map strip = l.map strip
  | [], _, n, i, acc, hd, hi, hn => by
    have h1 : ¬ i < S.length := by
      intro h
      rw [List.drop_eq_getElem_cons h] at hd
      cases hd
    refine ⟨[], ?_, rfl⟩
    cases n with
    | zero => simp [allS]
    | succ n => simp [allS, h1]
  | t :: r, hg, n, i, acc, hd, hi, hn => by
    rw [spacedS_cons] at hd
    obtain ⟨h1, t', h2, h3⟩ := R.tok S i t (spacedS r) (hg t (by simp)) hd
    have hk := R.kind t (hg t (by simp))
    have hd2 : S.drop (i + (core t).length) = 32 :: spacedS r := by rw [← List.drop_drop, hd]; simp
    obtain ⟨h4, h5, h6⟩ := drop_head hd2
    have hc : 0 ≤ t'.kind := by simp only [strip, Prod.mk.injEq] at h3; rw [h3.1]; exact hk
    match n, hn with
    | 0, hn => omega
    | 1, hn =>
      exfalso
      have := congrArg List.length hd
      simp at this
      have hcl : 0 < (core t).length ∨ (core t).length = 0 := by omega
      rcases hcl with hcl | hcl
      · omega
      · rw [hcl] at h2 hd2
        have h7 : S[i] = 32 := by
          obtain ⟨_, h8, _⟩ := drop_head hd2
          exact h8
        rw [h7, R.blank S i _ hd2] at h2
        simp [hcl] at h2
    | n + 2, hn =>
      obtain ⟨l', h7, h8⟩ := Reads.again R r (fun x hx => hg x (List.mem_cons_of_mem _ hx)) n (i + (core t).length + 1) (acc ++ [t']) h6 (by omega) (by
        have hcl : 0 < (core t).length := by
          rcases Nat.eq_zero_or_pos (core t).length with h9 | h9
          · rw [h9] at h2 hd2
            have h7 : S[i] = 32 := by
              obtain ⟨_, h8, _⟩ := drop_head hd2
              exact h8
            rw [h7, R.blank S i _ hd2] at h2
            simp at h2
          · exact h9
        omega)
      refine ⟨t' :: l', ?_, by simp [h3, h8]⟩
      rw [allS, dif_pos h1, h2]
      simp only [hc, if_true]
      rw [allS, dif_pos h4, h5, R.blank S _ _ hd2]
      simp only
      rw [if_neg (by simp [noTok]), h7]
      simp

theorem Reads.words {rd good} (R : Reads rd good) (s : List UInt8) : ∃ l', words rd (spacedS (okL (words rd s))) = .ok l' ∧ l'.map strip = (okL (words rd s)).map strip := by
  have hg : ∀ t ∈ okL (Ytbdnncbigmcdjaa.words rd s), good t := by
    cases hw : Ytbdnncbigmcdjaa.words rd s with
    | ok l => exact R.all _ _ _ l hw (by simp)
    | error i => simp [okL]
  obtain ⟨l', h1, h2⟩ := R.again _ hg (spacedS (okL (Ytbdnncbigmcdjaa.words rd s))).length 0 [] (S := spacedS (okL (Ytbdnncbigmcdjaa.words rd s))) (by simp) (by omega) (by omega)
  exact ⟨l', by simpa [Ytbdnncbigmcdjaa.words] using h1, h2⟩

/-! ### The three formats -/

theorem oneOf_some {k : Int} {s : List UInt8} {i n : Nat} (h : 0 < n) : oneOf k s i n = some (⟨k, sub s i n, i⟩, n) := by
  unfold oneOf; rw [if_neg (by omega)]
theorem oneOf_eq {k : Int} {s : List UInt8} {i n m : Nat} {t : Tok} (h : oneOf k s i n = some (t, m)) : 0 < n ∧ t = ⟨k, sub s i n, i⟩ := by
  unfold oneOf at h
  split at h
  · cases h
  · cases h; exact ⟨by omega, rfl⟩
theorem take_tw {p : UInt8 → Bool} : ∀ l : List UInt8, l.take (l.takeWhile p).length = l.takeWhile p
  | [] => rfl
  | a :: l => by
    rw [List.takeWhile_cons]
    split
    · simp [take_tw l]
    · rfl
theorem mem_tw {p : UInt8 → Bool} : ∀ (l : List UInt8), ∀ x ∈ l.takeWhile p, p x = true
  | [] => by simp
  | a :: l => by
    rw [List.takeWhile_cons]
    split
    · rename_i h
      intro x hx
      rcases List.mem_cons.1 hx with rfl | hx
      · exact h
      · exact mem_tw l x hx
    · simp
/-- What was run over is so. -/
theorem sub_run {p : UInt8 → Bool} {s : List UInt8} {i : Nat} (h : 0 < runB p s i) : ∃ c w, sub s i (runB p s i) = c :: w ∧ ∀ x ∈ c :: w, p x = true := by
  have h1 : sub s i (runB p s i) = (s.drop i).takeWhile p := take_tw _
  have h2 : ∀ x ∈ sub s i (runB p s i), p x = true := by
    rw [h1]
    intro x hx
    exact mem_tw _ x hx
  cases h3 : sub s i (runB p s i) with
  | nil =>
    rw [h1] at h3
    rw [runB, h3] at h
    simp at h
  | cons c w => rw [h3] at h2; exact ⟨c, w, rfl, h2⟩
theorem sub_one {s : List UInt8} {i : Nat} (hi : i < s.length) : sub s i 1 = [s[i]] := by
  rw [sub, List.drop_eq_getElem_cons hi]; rfl

def goodB (t : Tok) : Prop := (t.kind = 0 ∧ ∃ c w, t.text = c :: w ∧ ∀ x ∈ c :: w, benchB x = true) ∨ (t.kind = 1 ∧ ∃ c, t.text = [c] ∧ memB [61, 40, 41, 44] c = true)
theorem fB1 (c : UInt8) : (!benchB c || (!decide (c = 35) && !memB [32, 9, 13, 10] c && !memB [61, 40, 41, 44] c)) = true := bytes (fun c => (!benchB c || (!decide (c = 35) && !memB [32, 9, 13, 10] c && !memB [61, 40, 41, 44] c))) (by decide +kernel) c
theorem fB2 (c : UInt8) : (!memB [61, 40, 41, 44] c || (!decide (c = 35) && !memB [32, 9, 13, 10] c)) = true := bytes (fun c => (!memB [61, 40, 41, 44] c || (!decide (c = 35) && !memB [32, 9, 13, 10] c))) (by decide +kernel) c
theorem reads_Bench : Reads rdBench goodB := by
  refine ⟨fun S i _ _ => rfl, ?_, ?_, ?_⟩
  · rintro S i t rest (⟨h1, c, w, h2, h3⟩ | ⟨h1, c, h2, h3⟩) hd
    · have hc : core t = c :: w := by simp [core, h1, h2]
      rw [hc] at hd ⊢
      obtain ⟨hi, h4, _⟩ := drop_head hd
      have h5 := fB1 c
      have h6 := h3 c (by simp)
      simp [h6] at h5
      have h7 := runB_app hd h3 (by decide +kernel)
      refine ⟨hi, ⟨0, c :: w, i⟩, ?_, by simp [strip, h1, h2]⟩
      rw [h4, rdBench, if_neg h5.1.1, if_neg (by simp [h5.1.2]), if_neg (by simp [h5.2]), h7, oneOf_some (by simp), sub_app hd]
    · have hc : core t = [c] := by simp [core, h1, h2]
      rw [hc] at hd ⊢
      obtain ⟨hi, h4, _⟩ := drop_head hd
      have h5 := fB2 c
      simp [h3] at h5
      refine ⟨hi, ⟨1, [c], i⟩, ?_, by simp [strip, h1, h2]⟩
      rw [h4, rdBench, if_neg h5.1, if_neg (by simp [h5.2]), if_pos h3, sub_one hi, h4]
      rfl
  · rintro t (⟨h, _⟩ | ⟨h, _⟩) <;> omega
  · intro S i hi t k hr ht
    unfold rdBench at hr
    split at hr
    · cases hr; simp [noTok] at ht
    split at hr
    · cases hr; simp [noTok] at ht
    split at hr
    · rename_i h1
      cases hr
      exact Or.inr ⟨rfl, _, sub_one hi, h1⟩
    obtain ⟨h1, rfl⟩ := oneOf_eq hr
    obtain ⟨c, w, h2, h3⟩ := sub_run h1
    exact Or.inl ⟨rfl, c, w, h2, h3⟩

def goodL (t : Tok) : Prop := (t.kind = 3 ∧ t.text = []) ∨ (t.kind = 0 ∧ t.text = [92]) ∨ (t.kind = 0 ∧ ∃ c w, t.text = c :: w ∧ ∀ x ∈ c :: w, blifB x = true)
theorem fL1 (c : UInt8) : (!blifB c || (!decide (c = 35) && !memB [32, 9, 13] c && !decide (c = 10) && !decide (c = 92))) = true := bytes (fun c => (!blifB c || (!decide (c = 35) && !memB [32, 9, 13] c && !decide (c = 10) && !decide (c = 92)))) (by decide +kernel) c
theorem reads_Blif : Reads rdBlif goodL := by
  refine ⟨fun S i d hd => ?_, ?_, ?_, ?_⟩
  · rw [rdBlif, if_neg (by decide), hd, if_neg (by rw [hasPre_ne (by decide)]; simp), if_pos (by decide +kernel)]
  · rintro S i t rest (⟨h1, h2⟩ | ⟨h1, h2⟩ | ⟨h1, c, w, h2, h3⟩) hd
    · have hc : core t = [10] := by simp [core, h1, h2]
      rw [hc] at hd ⊢
      obtain ⟨hi, h4, _⟩ := drop_head hd
      refine ⟨hi, ⟨3, [], i⟩, ?_, by simp [strip, h1, h2]⟩
      rw [h4, rdBlif, if_neg (by decide), hd]
      rw [if_neg (by rw [List.cons_append, hasPre_ne (by decide)]; simp), if_neg (by decide +kernel), if_pos rfl]
      rfl
    · have hc : core t = [92] := by simp [core, h1, h2]
      rw [hc] at hd ⊢
      obtain ⟨hi, h4, _⟩ := drop_head hd
      refine ⟨hi, ⟨0, [92], i⟩, ?_, by simp [strip, h1, h2]⟩
      rw [h4, rdBlif, if_neg (by decide), hd]
      rw [if_neg (by simp [hasPre, List.isPrefixOf]), if_neg (by decide +kernel), if_neg (by decide), if_pos rfl, sub_one hi, h4]
      rfl
    · have hc : core t = c :: w := by simp [core, h1, h2]
      rw [hc] at hd ⊢
      obtain ⟨hi, h4, _⟩ := drop_head hd
      have h5 := fL1 c
      have h6 := h3 c (by simp)
      simp [h6] at h5
      have h7 := runB_app hd h3 (by decide +kernel)
      refine ⟨hi, ⟨0, c :: w, i⟩, ?_, by simp [strip, h1, h2]⟩
      rw [h4, rdBlif, if_neg h5.1.1.1]
      rw [if_neg (by rw [hd, List.cons_append, hasPre_ne h5.2]; simp), if_neg (by simp [h5.1.1.2]), if_neg h5.1.2, if_neg h5.2, h7, oneOf_some (by simp), sub_app hd]
  · rintro t (⟨h, _⟩ | ⟨h, _⟩ | ⟨h, _⟩) <;> omega
  · intro S i hi t k hr ht
    unfold rdBlif at hr
    split at hr
    · cases hr; simp [noTok] at ht
    split at hr
    · cases hr; simp [noTok] at ht
    split at hr
    · cases hr; simp [noTok] at ht
    split at hr
    · cases hr; exact Or.inl ⟨rfl, rfl⟩
    split at hr
    · rename_i h1
      cases hr
      exact Or.inr (Or.inl ⟨rfl, by rw [sub_one hi, h1]⟩)
    obtain ⟨h1, rfl⟩ := oneOf_eq hr
    obtain ⟨c, w, h2, h3⟩ := sub_run h1
    exact Or.inr (Or.inr ⟨rfl, c, w, h2, h3⟩)
end Go.Proofs.Ytbdnncbigmcdjaa
/- Chapter 03: the law TokenAgain, part 2. -/
namespace Go.Proofs.Ytbdnncbigmcdjaa
open Go.AM Go.Proofs
variable {Γ : Nat → Option AV}
set_option linter.unusedSimpArgs false

def marksV : List UInt8 := [40, 41, 59, 44, 61, 126, 38, 124, 94]
def goodV (t : Tok) : Prop := (t.kind = 0 ∧ ∃ c w, t.text = c :: w ∧ ∀ x ∈ c :: w, namedB x = true) ∨ (t.kind = 1 ∧ ∃ c, t.text = [c] ∧ memB [40, 41, 59, 44, 61, 126, 38, 124, 94] c = true) ∨ (t.kind = 2 ∧ ∃ c w, t.text = c :: w ∧ ∀ x ∈ c :: w, graphB x = true)
theorem fV1 (c : UInt8) : (!namedB c || (!memB [32, 9, 13, 10] c && !decide (c = 47) && !memB [40, 41, 59, 44, 61, 126, 38, 124, 94] c && !decide (c = 92))) = true := bytes (fun c => !namedB c || (!memB [32, 9, 13, 10] c && !decide (c = 47) && !memB [40, 41, 59, 44, 61, 126, 38, 124, 94] c && !decide (c = 92))) (by decide +kernel) c
theorem fV2 (c : UInt8) : (!memB [40, 41, 59, 44, 61, 126, 38, 124, 94] c || (!memB [32, 9, 13, 10] c && !decide (c = 47))) = true := bytes (fun c => !memB [40, 41, 59, 44, 61, 126, 38, 124, 94] c || (!memB [32, 9, 13, 10] c && !decide (c = 47))) (by decide +kernel) c
theorem reads_Ver : Reads rdVer goodV := by
  refine ⟨fun S i _ _ => rfl, ?_, ?_, ?_⟩
  · rintro S i t rest (⟨h1, c, w, h2, h3⟩ | ⟨h1, c, h2, h3⟩ | ⟨h1, c, w, h2, h3⟩) hd
    · have hc : core t = c :: w := by simp [core, h1, h2]
      rw [hc] at hd ⊢
      obtain ⟨hi, h4, _⟩ := drop_head hd
      have h5 := fV1 c
      have h6 := h3 c (by simp)
      simp [h6] at h5
      have h7 := runB_app hd h3 (by decide +kernel)
      refine ⟨hi, ⟨0, c :: w, i⟩, ?_, by simp [strip, h1, h2]⟩
      rw [h4, rdVer, if_neg (by simp [h5.1.1.1]), if_neg (by rw [hd, List.cons_append, hasPre_ne h5.1.1.2]; simp), if_neg (by rw [hd, List.cons_append, hasPre_ne h5.1.1.2]; simp), if_neg (by simp [h5.1.2]), if_neg h5.2, h7, oneOf_some (by simp), sub_app hd]
    · have hc : core t = [c] := by simp [core, h1, h2]
      rw [hc] at hd ⊢
      obtain ⟨hi, h4, _⟩ := drop_head hd
      have h5 := fV2 c
      simp [h3] at h5
      refine ⟨hi, ⟨1, [c], i⟩, ?_, by simp [strip, h1, h2]⟩
      rw [h4, rdVer, if_neg (by simp [h5.1]), if_neg (by rw [hd, List.cons_append, hasPre_ne h5.2]; simp), if_neg (by rw [hd, List.cons_append, hasPre_ne h5.2]; simp), if_pos h3, sub_one hi, h4]
      rfl
    · have hc : core t = 92 :: c :: w := by simp [core, h1, h2]
      rw [hc] at hd ⊢
      obtain ⟨hi, h4, h8⟩ := drop_head hd
      have h7 := runB_app h8 h3 (by decide +kernel)
      refine ⟨hi, ⟨2, c :: w, i⟩, ?_, by simp [strip, h1, h2]⟩
      rw [h4, rdVer, if_neg (by decide +kernel), if_neg (by rw [hd, List.cons_append, hasPre_ne (by decide)]; simp), if_neg (by rw [hd, List.cons_append, hasPre_ne (by decide)]; simp), if_neg (by decide +kernel), if_pos rfl, h7, if_neg (by simp), sub_app h8]
      rfl
  · rintro t (⟨h, _⟩ | ⟨h, _⟩ | ⟨h, _⟩) <;> omega
  · intro S i hi t k hr ht
    unfold rdVer at hr
    split at hr
    · cases hr; simp [noTok] at ht
    split at hr
    · cases hr; simp [noTok] at ht
    split at hr
    · split at hr
      · cases hr
      · cases hr; simp [noTok] at ht
    split at hr
    · rename_i h1
      cases hr
      exact Or.inr (Or.inl ⟨rfl, _, sub_one hi, h1⟩)
    split at hr
    · split at hr
      · cases hr
      · rename_i h1
        cases hr
        obtain ⟨c, w, h2, h3⟩ := sub_run (p := graphB) (s := S) (i := i + 1) (by omega)
        exact Or.inr (Or.inr ⟨rfl, c, w, h2, h3⟩)
    obtain ⟨h1, rfl⟩ := oneOf_eq hr
    obtain ⟨c, w, h2, h3⟩ := sub_run h1
    exact Or.inl ⟨rfl, c, w, h2, h3⟩

/-- Ends only behind something, and at the end. -/
def Tidy : Bool → List Tok → Prop
  | p, [] => p = true
  | p, t :: r => (isEnd t = true → p = false) ∧ Tidy (isEnd t) r
theorem squeeze_tidy {e : Tok} (he : isEnd e = true) : ∀ (w : List Tok) (p : Bool), Tidy p (squeeze p (w ++ [e]))
  | [], p => by
    cases p <;> simp [squeeze, he, Tidy]
  | t :: r, p => by
    rw [List.cons_append, squeeze]
    split
    · rename_i h
      simp at h
      have := squeeze_tidy he r (isEnd t)
      rw [h.1] at this ⊢
      rw [h.2]
      exact this
    · rename_i h
      refine ⟨fun h1 => ?_, squeeze_tidy he r _⟩
      rw [h1] at h
      simpa using h
theorem tidy_squeeze {e : Tok} (he : isEnd e = true) : ∀ {l : List Tok} {p : Bool}, Tidy p l → squeeze p (l ++ [e]) = l
  | [], p, h => by simp only [Tidy] at h; subst h; simp [squeeze, he]
  | t :: r, p, h => by
    obtain ⟨h1, h2⟩ := h
    rw [List.cons_append, squeeze, if_neg, tidy_squeeze he h2]
    intro h3
    simp at h3
    rw [h1 h3.1] at h3
    simp at h3
theorem tidy_strip : ∀ {l l' : List Tok} {p : Bool}, l'.map strip = l.map strip → Tidy p l → Tidy p l'
  | [], [], _, _, h => h
  | [], _ :: _, _, hs, _ => by simp at hs
  | _ :: _, [], _, hs, _ => by simp at hs
  | t :: r, t' :: r', p, hs, h => by
    simp only [List.map_cons, List.cons.injEq, strip, Prod.mk.injEq] at hs
    have hk : isEnd t' = isEnd t := by simp [isEnd, hs.1.1]
    obtain ⟨h1, h2⟩ := h
    exact ⟨by rw [hk]; exact h1, by rw [hk]; exact tidy_strip hs.2 h2⟩
theorem squeeze_mem : ∀ {l : List Tok} {p : Bool}, ∀ t ∈ squeeze p l, t ∈ l
  | [], p, t, h => by simp [squeeze] at h
  | a :: r, p, t, h => by
    unfold squeeze at h
    split at h
    · exact List.mem_cons_of_mem _ (squeeze_mem t h)
    · rcases List.mem_cons.1 h with rfl | h
      · simp
      · exact List.mem_cons_of_mem _ (squeeze_mem t h)

theorem blif_again (s : List UInt8) : (blifS (spacedS (blifS s))).map strip = (blifS s).map strip := by
  obtain ⟨w, hw⟩ := allS_ok (fun i hi => rdBlif_some (s := s) hi) s.length 0 []
  have hb : blifS s = squeeze true (w ++ [⟨3, [], s.length⟩]) := by simp [blifS, words, hw]
  have hg : ∀ t ∈ blifS s, goodL t := by
    rw [hb]
    intro t ht
    have := squeeze_mem t ht
    rcases List.mem_append.1 this with h | h
    · exact reads_Blif.all _ _ _ w hw (by simp) t h
    · simp at h; subst h; exact Or.inl ⟨rfl, rfl⟩
  have ht : Tidy true (blifS s) := by rw [hb]; exact squeeze_tidy rfl w true
  generalize blifS s = L at hg ht
  obtain ⟨l', h1, h2⟩ := reads_Blif.again L hg (spacedS L).length 0 [] (S := spacedS L) (by simp) (by omega) (by omega)
  have h3 : blifS (spacedS L) = l' := by
    have h4 := tidy_squeeze (e := ⟨3, [], (spacedS L).length⟩) rfl (tidy_strip h2 ht)
    simp [blifS, words, h1, h4]
  rw [h3, h2]

theorem placed_text {s : List UInt8} : ∀ {l : List Tok} {p : Nat}, Placed s p l → ∀ t ∈ l, t.text.length ≤ s.length
  | [], _, _ => by simp
  | a :: r, p, h => by
    obtain ⟨q, h1, h2, h3⟩ := h
    intro t ht
    rcases List.mem_cons.1 ht with rfl | ht
    · have := h2.2.1; unfold endT at this; omega
    · exact placed_text h3 t ht
theorem spaced_small {s : List UInt8} {l : List Tok} (hs : s.length ≤ 300) (h : Placed s 0 l) (hl : l.length ≤ 301) : (spacedS l).length < 2 ^ 30 := by
  have h1 := spacedS_len (m := 300) (l := l) (fun t ht => Nat.le_trans (placed_text h t ht) hs)
  have : l.length * (300 + 3) ≤ 301 * 303 := Nat.mul_le_mul hl (by omega)
  omega

theorem strip_len {a b : List Tok} (h : a.map strip = b.map strip) : a.length = b.length := by simpa using congrArg List.length h

theorem l_TokenAgain (hΓ : ΓM Γ) (s : List UInt8) : PureCon Try.prog Γ n_w03_TokenAgain [.str s] (.bool true) := by
  refine .run 90 c_w03_TokenAgain (by simp) ?_
  simp
  refine .call 90 (by simp) (p_works hΓ) ?_
  by_cases h : 300 < s.length
  · have h1 : (300 : Int) < s.length := by omega
    simp [h1]
    exact .back (by simp)
  have h1 : ¬ (300 : Int) < s.length := by omega
  simp [h1]
  refine .call 90 (by simp) (p_token_Blif s (by omega)) ?_
  simp
  refine .call 90 (by simp) (p_token_Bench s (by omega)) ?_
  obtain ⟨a1, a2⟩ := blif_placed s
  obtain ⟨b1, b2⟩ := okL_placed (at_Bench s)
  obtain ⟨c1, c2⟩ := okL_placed (at_Ver s)
  have a3 := spaced_small (by omega) a1 (by omega)
  have b3 := spaced_small (by omega) b1 (by omega)
  have c3 := spaced_small (by omega) c1 (by omega)
  obtain ⟨y, y1, y2⟩ := reads_Bench.words s
  obtain ⟨z, z1, z2⟩ := reads_Ver.words s
  have x2 := blif_again s
  have x3 := strip_len x2
  have y3 := strip_len y2
  have z3 := strip_len z2
  cases hb : words rdBench s with
  | ok lb =>
    rw [hb] at b1 b2 b3 y1 y2 y3
    simp only [okL] at b1 b2 b3 y1 y2 y3
    simp
    refine .call 90 (by simp) (p_token_Verilog hΓ s (by omega)) ?_
    cases hc : words rdVer s with
    | ok lc =>
      rw [hc] at c1 c2 c3 z1 z2 z3
      simp only [okL] at c1 c2 c3 z1 z2 z3
      simp
      refine .call 90 (by simp) (p_spaced (blifS s) (.inl rfl) (by omega) (by omega)) ?_
      simp
      refine .call 90 (by simp) (p_token_Blif (spacedS (blifS s)) (by omega)) ?_
      simp
      refine .call 90 (by simp) (p_spaced lb (k := 3) (.inl rfl) (by first | omega | simp) (by omega)) ?_
      simp
      refine .call 90 (by simp) (p_token_Bench (spacedS lb) (by omega)) ?_
      rw [y1]
      simp
      refine .call 90 (by simp) (p_spaced lc (k := 3) (.inl rfl) (by first | omega | simp) (by omega)) ?_
      simp
      refine .call 90 (by simp) (p_token_Verilog hΓ (spacedS lc) (by omega)) ?_
      rw [z1]
      simp
      refine .call 90 (by simp) (p_kinds (blifS s) (blifS (spacedS (blifS s))) (.inl rfl) (.inl rfl) (by omega) x2.symm) ?_
      simp
      refine .call 90 (by simp) (p_kinds lb y (ka := 3) (.inl rfl) (.inl rfl) (by first | omega | simp) y2.symm) ?_
      simp
      refine .call 90 (by simp) (p_kinds lc z (ka := 3) (.inl rfl) (.inl rfl) (by first | omega | simp) z2.symm) ?_
      simp
      exact .back (by simp)
    | error ic =>
      rw [hc] at c1 c2 c3 z1 z2 z3
      simp only [okL] at c1 c2 c3 z1 z2 z3
      simp
      refine .call 90 (by simp) (p_spaced (blifS s) (.inl rfl) (by omega) (by omega)) ?_
      simp
      refine .call 90 (by simp) (p_token_Blif (spacedS (blifS s)) (by omega)) ?_
      simp
      refine .call 90 (by simp) (p_spaced lb (k := 3) (.inl rfl) (by first | omega | simp) (by omega)) ?_
      simp
      refine .call 90 (by simp) (p_token_Bench (spacedS lb) (by omega)) ?_
      rw [y1]
      simp
      refine .call 90 (by simp) (p_spaced [] (k := 0) (.inr rfl) (by first | omega | simp) (by omega)) ?_
      simp
      refine .call 90 (by simp) (p_token_Verilog hΓ (spacedS []) (by omega)) ?_
      rw [z1]
      simp
      refine .call 90 (by simp) (p_kinds (blifS s) (blifS (spacedS (blifS s))) (.inl rfl) (.inl rfl) (by omega) x2.symm) ?_
      simp
      refine .call 90 (by simp) (p_kinds lb y (ka := 3) (.inl rfl) (.inl rfl) (by first | omega | simp) y2.symm) ?_
      simp
      refine .call 90 (by simp) (p_kinds [] z (ka := 0) (.inr rfl) (.inl rfl) (by first | omega | simp) z2.symm) ?_
      simp
      exact .back (by simp)
  | error ib =>
    rw [hb] at b1 b2 b3 y1 y2 y3
    simp only [okL] at b1 b2 b3 y1 y2 y3
    simp
    refine .call 90 (by simp) (p_token_Verilog hΓ s (by omega)) ?_
    cases hc : words rdVer s with
    | ok lc =>
      rw [hc] at c1 c2 c3 z1 z2 z3
      simp only [okL] at c1 c2 c3 z1 z2 z3
      simp
      refine .call 90 (by simp) (p_spaced (blifS s) (.inl rfl) (by omega) (by omega)) ?_
      simp
      refine .call 90 (by simp) (p_token_Blif (spacedS (blifS s)) (by omega)) ?_
      simp
      refine .call 90 (by simp) (p_spaced [] (k := 0) (.inr rfl) (by first | omega | simp) (by omega)) ?_
      simp
      refine .call 90 (by simp) (p_token_Bench (spacedS []) (by omega)) ?_
      rw [y1]
      simp
      refine .call 90 (by simp) (p_spaced lc (k := 3) (.inl rfl) (by first | omega | simp) (by omega)) ?_
      simp
      refine .call 90 (by simp) (p_token_Verilog hΓ (spacedS lc) (by omega)) ?_
      rw [z1]
      simp
      refine .call 90 (by simp) (p_kinds (blifS s) (blifS (spacedS (blifS s))) (.inl rfl) (.inl rfl) (by omega) x2.symm) ?_
      simp
      refine .call 90 (by simp) (p_kinds [] y (ka := 0) (.inr rfl) (.inl rfl) (by first | omega | simp) y2.symm) ?_
      simp
      refine .call 90 (by simp) (p_kinds lc z (ka := 3) (.inl rfl) (.inl rfl) (by first | omega | simp) z2.symm) ?_
      simp
      exact .back (by simp)
    | error ic =>
      rw [hc] at c1 c2 c3 z1 z2 z3
      simp only [okL] at c1 c2 c3 z1 z2 z3
      simp
      refine .call 90 (by simp) (p_spaced (blifS s) (.inl rfl) (by omega) (by omega)) ?_
      simp
      refine .call 90 (by simp) (p_token_Blif (spacedS (blifS s)) (by omega)) ?_
      simp
      refine .call 90 (by simp) (p_spaced [] (k := 0) (.inr rfl) (by first | omega | simp) (by omega)) ?_
      simp
      refine .call 90 (by simp) (p_token_Bench (spacedS []) (by omega)) ?_
      rw [y1]
      simp
      refine .call 90 (by simp) (p_spaced [] (k := 0) (.inr rfl) (by first | omega | simp) (by omega)) ?_
      simp
      refine .call 90 (by simp) (p_token_Verilog hΓ (spacedS []) (by omega)) ?_
      rw [z1]
      simp
      refine .call 90 (by simp) (p_kinds (blifS s) (blifS (spacedS (blifS s))) (.inl rfl) (.inl rfl) (by omega) x2.symm) ?_
      simp
      refine .call 90 (by simp) (p_kinds [] y (ka := 0) (.inr rfl) (.inl rfl) (by first | omega | simp) y2.symm) ?_
      simp
      refine .call 90 (by simp) (p_kinds [] z (ka := 0) (.inr rfl) (.inl rfl) (by first | omega | simp) z2.symm) ?_
      simp
      exact .back (by simp)
end Go.Proofs.Ytbdnncbigmcdjaa
