/- Chapter 03: the law TokenPlaces. -/
import Derived.Test.YtbdnncbigmcdjaaF
namespace Go.Proofs.Ytbdnncbigmcdjaa
open Go.AM Go.Proofs
variable {Γ : Nat → Option AV}
set_option linter.unusedSimpArgs false

/-- One token at its place. -/
def offT (t : Tok) : Nat := if t.kind = 2 then 1 else 0
def endT (p : Nat) (t : Tok) : Nat := p + offT t + t.text.length
def One (s : List UInt8) (p : Nat) (t : Tok) : Prop := t.pos = p ∧ endT p t ≤ s.length ∧ sub s (p + offT t) t.text.length = t.text ∧ (t.text = [] → t.kind = 3) ∧ 0 ≤ t.kind ∧ t.kind ≤ 3
def Placed (s : List UInt8) : Nat → List Tok → Prop
  | _, [] => True
  | last, t :: r => ∃ p, last ≤ p ∧ One s p t ∧ Placed s (endT p t) r

theorem Placed.mono {s : List UInt8} {a b : Nat} {l : List Tok} (h : b ≤ a) (hl : Placed s a l) : Placed s b l := by
  cases l with
  | nil => trivial
  | cons t r => obtain ⟨p, h1, h2⟩ := hl; exact ⟨p, Nat.le_trans h h1, h2⟩

set_option maxRecDepth 4000 in
theorem p_placed (s : List UInt8) (hs : s.length < 2 ^ 32) (l : List Tok) (hl : l.length < 2 ^ 32) {k : Nat} (hk : Kd 3 k l) (hp : Placed s 0 l) : PureCon Try.prog Γ n_w03_placed [.str s, .list false k (l.map eTok)] (.bool true) := by
  refine .run 60 c_w03_placed (by simp) ?_
  have key : ∀ n i last, i + n = l.length → Placed s last (l.drop i) → last ≤ s.length → Fins Try.prog Γ (w03_placed_L1 (.str s) (.list false k (l.map eTok)) (.int .i64 last) (.int .i64 i) []) (.ret (.bool true)) := by
    intro n
    induction n with
    | zero =>
      intro i last hi hd hls
      obtain rfl : i = l.length := by omega
      refine .go 60 ?_
      simp
      exact .back (by simp)
    | succ n ih =>
      intro i last hi hd hls
      have h1 : i < l.length := by omega
      obtain rfl := hk.of h1
      rw [List.drop_eq_getElem_cons h1] at hd
      obtain ⟨p, h2, ⟨h3, h4, h5, h6, h7, h8⟩, h9⟩ := hd
      have hh := ih (i + 1) (endT p l[i]) (by omega) h9 h4
      unfold endT at h4 hh
      have g1 : ¬ (p : Int) < last := by omega
      have g2 : ¬ (s.length : Int) < p := by omega
      have g3 : ¬ (s.length : Int) - p < l[i].text.length := by omega
      have g4 : ¬ l[i].kind < 0 := by omega
      have g5 : ¬ 3 < l[i].kind := by omega
      have g6 : l[i].text.length = 0 → l[i].kind = 3 := fun e => h6 (List.length_eq_zero_iff.1 e)
      refine .go 120 ?_
      by_cases h10 : l[i].kind = 2
      · simp only [offT, h10, if_true] at h4 h5 hh
        have g7 : ¬ l[i].text = [] := fun e => by have := h6 e; omega
        have g8 : ¬ (s.length : Int) - (p + 1) < l[i].text.length := by omega
        have g9 : (s.take (p + 1 + l[i].text.length)).drop (p + 1) = l[i].text := by rw [List.drop_take, show p + 1 + l[i].text.length - (p + 1) = l[i].text.length by omega]; exact h5
        simp (disch := omega) [h1, h3, g1, g2, g3, h10, g7, g8, g9]
        refine .reLoop ?_
        simp at hh ⊢
        exact hh
      · simp only [offT, h10, if_false, Nat.add_zero] at h4 h5 hh
        have g9 : (s.take (p + l[i].text.length)).drop p = l[i].text := by rw [List.drop_take, show p + l[i].text.length - p = l[i].text.length by omega]; exact h5
        by_cases h11 : l[i].text = []
        · have g10 := h6 h11
          rw [h11] at g3 g9 hh
          have g11 : ¬ (s.length : Int) - p < 0 := by omega
          simp (disch := omega) [h1, h3, g1, g2, g11, h11, g10]
          refine .reLoop ?_
          simp at hh ⊢
          exact hh
        · simp (disch := omega) [h1, h3, g1, g2, g3, g4, g5, h10, h11, g9]
          refine .reLoop ?_
          simp at hh ⊢
          exact hh
  simp
  refine .inLoop ?_
  simpa using key l.length 0 0 (by omega) (by simpa using hp) (by omega)

/-- Where a reader's tokens stand. -/
def RdAt (rd : Nat → UInt8 → Option (Tok × Nat)) (s : List UInt8) : Prop := ∀ i (hi : i < s.length) t k, rd i s[i] = some (t, k) → 0 ≤ t.kind → One s i t ∧ endT i t ≤ i + k

theorem allS_placed {rd : Nat → UInt8 → Option (Tok × Nat)} {s : List UInt8} (h : RdAt rd s) : ∀ n i acc l, allS rd s n i acc = .ok l → ∃ l', l = acc ++ l' ∧ Placed s i l'
  | 0, i, acc, l, hl => by simp only [allS] at hl; cases hl; exact ⟨[], by simp, trivial⟩
  | n + 1, i, acc, l, hl => by
    simp only [allS] at hl
    by_cases hi : i < s.length
    · rw [dif_pos hi] at hl
      cases hr : rd i s[i] with
      | none => rw [hr] at hl; cases hl
      | some x =>
        obtain ⟨t, k⟩ := x
        rw [hr] at hl
        simp only at hl
        by_cases ht : 0 ≤ t.kind
        · rw [if_pos ht] at hl
          obtain ⟨l', rfl, h2⟩ := allS_placed h n _ _ _ hl
          obtain ⟨h3, h4⟩ := h i hi t k hr ht
          exact ⟨t :: l', by simp, i, Nat.le_refl _, h3, h2.mono h4⟩
        · rw [if_neg ht] at hl
          obtain ⟨l', rfl, h2⟩ := allS_placed h n _ _ _ hl
          exact ⟨l', rfl, h2.mono (by omega)⟩
    · rw [dif_neg hi] at hl
      cases hl
      exact ⟨[], by simp, trivial⟩

theorem sub_len {s : List UInt8} {i n : Nat} (h : i + n ≤ s.length) : (sub s i n).length = n := by simp [sub]; omega
theorem One.of {s : List UInt8} {k : Int} {i n : Nat} (hn : 0 < n) (h : i + n ≤ s.length) (h1 : 0 ≤ k) (h2 : k ≤ 1) : One s i ⟨k, sub s i n, i⟩ ∧ endT i ⟨k, sub s i n, i⟩ = i + n := by
  have h3 : ¬ k = 2 := by omega
  have h4 := sub_len h
  refine ⟨⟨rfl, ?_, ?_, ?_, h1, by simp only; omega⟩, ?_⟩
  · simp [endT, offT, h3, h4]; exact h
  · simp [offT, h3, h4]
  · intro e; simp only at e; rw [e] at h4; simp at h4; omega
  · simp [endT, offT, h3, h4]

theorem oneOf_at {s : List UInt8} {k : Int} {i n : Nat} (h : i + n ≤ s.length) (h1 : 0 ≤ k) (h2 : k ≤ 1) {t : Tok} {m : Nat} (hr : oneOf k s i n = some (t, m)) : One s i t ∧ endT i t ≤ i + m := by
  unfold oneOf at hr
  split at hr
  · cases hr
  · cases hr
    have := One.of (k := k) (s := s) (i := i) (n := n) (by omega) h h1 h2
    exact ⟨this.1, by omega⟩

theorem at_Bench (s : List UInt8) : RdAt (rdBench s) s := by
  intro i hi t k hr ht
  have h2 := runB_le (p := benchB) (s := s) (i := i)
  unfold rdBench at hr
  split at hr
  · cases hr; simp [noTok] at ht
  split at hr
  · cases hr; simp [noTok] at ht
  split at hr
  · cases hr
    have := One.of (k := 1) (s := s) (i := i) (n := 1) (by omega) (by omega) (by omega) (by omega)
    exact ⟨this.1, by omega⟩
  exact oneOf_at (by omega) (by omega) (by omega) hr
theorem at_Blif (s : List UInt8) : RdAt (rdBlif s) s := by
  intro i hi t k hr ht
  have h2 := runB_le (p := blifB) (s := s) (i := i)
  unfold rdBlif at hr
  split at hr
  · cases hr; simp [noTok] at ht
  split at hr
  · cases hr; simp [noTok] at ht
  split at hr
  · cases hr; simp [noTok] at ht
  split at hr
  · cases hr
    exact ⟨⟨rfl, by simp [endT, offT]; omega, by simp [offT, sub], by simp, by simp, by simp⟩, by simp [endT, offT]⟩
  split at hr
  · cases hr
    have := One.of (k := 0) (s := s) (i := i) (n := 1) (by omega) (by omega) (by omega) (by omega)
    exact ⟨this.1, by omega⟩
  exact oneOf_at (by omega) (by omega) (by omega) hr
theorem at_Ver (s : List UInt8) : RdAt (rdVer s) s := by
  intro i hi t k hr ht
  have h2 := runB_le (p := namedB) (s := s) (i := i)
  have h3 := runB_le (p := graphB) (s := s) (i := i + 1)
  unfold rdVer at hr
  split at hr
  · cases hr; simp [noTok] at ht
  split at hr
  · cases hr; simp [noTok] at ht
  split at hr
  · split at hr
    · cases hr
    · cases hr; simp [noTok] at ht
  split at hr
  · cases hr
    have := One.of (k := 1) (s := s) (i := i) (n := 1) (by omega) (by omega) (by omega) (by omega)
    exact ⟨this.1, by omega⟩
  split at hr
  · split at hr
    · cases hr
    · rename_i h4
      cases hr
      have h5 : (sub s (i + 1) (runB graphB s (i + 1))).length = runB graphB s (i + 1) := sub_len (by omega)
      refine ⟨⟨rfl, ?_, ?_, ?_, by simp, by simp⟩, ?_⟩
      · simp [endT, offT, h5]; omega
      · simp [offT, h5]
      · intro e; simp only at e; rw [e] at h5; simp at h5; omega
      · simp [endT, offT, h5]; omega
  exact oneOf_at (by omega) (by omega) (by omega) hr

theorem squeeze_placed {s : List UInt8} : ∀ {l : List Tok} {p : Bool} {last : Nat}, Placed s last l → Placed s last (squeeze p l)
  | [], _, _, _ => by simp [squeeze, Placed]
  | t :: r, p, last, h => by
    obtain ⟨q, h1, h2, h3⟩ := h
    unfold squeeze
    split
    · refine (squeeze_placed h3).mono ?_
      unfold endT; omega
    · exact ⟨q, h1, h2, squeeze_placed h3⟩
theorem placed_end {s : List UInt8} : ∀ {l : List Tok} {last : Nat}, last ≤ s.length → Placed s last l → Placed s last (l ++ [⟨3, [], s.length⟩])
  | [], last, hls, _ => ⟨s.length, hls, ⟨rfl, by simp [endT, offT], by simp [offT, sub], by simp, by simp, by simp⟩, trivial⟩
  | t :: r, last, _, h => by
    obtain ⟨q, h1, h2, h3⟩ := h
    exact ⟨q, h1, h2, placed_end h2.2.1 h3⟩
theorem squeeze_len : ∀ (p : Bool) (l : List Tok), (squeeze p l).length ≤ l.length
  | _, [] => by simp [squeeze]
  | p, t :: r => by
    have := squeeze_len (isEnd t) r
    unfold squeeze
    split <;> simp <;> omega

theorem words_placed {rd : List UInt8 → Nat → UInt8 → Option (Tok × Nat)} {s : List UInt8} (h : RdAt (rd s) s) {l : List Tok} (hl : words rd s = .ok l) : Placed s 0 l ∧ l.length ≤ s.length := by
  obtain ⟨l', rfl, h1⟩ := allS_placed h _ _ _ _ hl
  have := allS_len hl
  exact ⟨by simpa using h1, by simpa using this⟩
theorem blif_placed (s : List UInt8) : Placed s 0 (blifS s) ∧ (blifS s).length ≤ s.length + 1 := by
  unfold blifS
  cases hw : words rdBlif s with
  | ok l =>
    obtain ⟨h1, h2⟩ := words_placed (at_Blif s) hw
    have := squeeze_len true (l ++ [⟨3, [], s.length⟩])
    exact ⟨squeeze_placed (placed_end (by omega) h1), by simp at this ⊢; omega⟩
  | error i => exact ⟨trivial, by simp⟩

/-- Tokens that came, or none. -/
def okL : Except Nat (List Tok) → List Tok
  | .ok l => l
  | .error _ => []
theorem okL_placed {rd : List UInt8 → Nat → UInt8 → Option (Tok × Nat)} {s : List UInt8} (h : RdAt (rd s) s) : Placed s 0 (okL (words rd s)) ∧ (okL (words rd s)).length ≤ s.length := by
  cases hw : words rd s with
  | ok l => exact words_placed h hw
  | error i => exact ⟨trivial, by simp [okL]⟩

theorem l_TokenPlaces (hΓ : ΓM Γ) (s : List UInt8) : PureCon Try.prog Γ n_w03_TokenPlaces [.str s] (.bool true) := by
  refine .run 90 c_w03_TokenPlaces (by simp) ?_
  simp
  refine .call 90 (by simp) (p_works hΓ) ?_
  by_cases h : 300 < s.length
  · have h1 : (300 : Int) < s.length := by omega
    simp [h1]
    exact .back (by simp)
  have h1 : ¬ (300 : Int) < s.length := by omega
  simp [h1]
  refine .call 90 (by simp) (p_token_Blif s (by omega)) ?_
  simp
  refine .call 90 (by simp) (p_token_Bench s (by omega)) ?_
  obtain ⟨a1, a2⟩ := blif_placed s
  obtain ⟨b1, b2⟩ := okL_placed (at_Bench s)
  obtain ⟨c1, c2⟩ := okL_placed (at_Ver s)
  cases hb : words rdBench s with
  | ok l =>
    rw [hb] at b1 b2
    simp
    refine .call 90 (by simp) (p_token_Verilog hΓ s (by omega)) ?_
    cases hc : words rdVer s with
    | ok l2 =>
      rw [hc] at c1 c2
      simp
      refine .call 90 (by simp) (p_placed s (by omega) (blifS s) (by omega) (.inl rfl) a1) ?_
      simp
      refine .call 90 (by simp) (p_placed s (by omega) l (by simp [okL] at b2; omega) (.inl rfl) b1) ?_
      simp
      refine .call 90 (by simp) (p_placed s (by omega) l2 (by simp [okL] at c2; omega) (.inl rfl) c1) ?_
      simp
      exact .back (by simp)
    | error i =>
      simp
      refine .call 90 (by simp) (p_placed s (by omega) (blifS s) (by omega) (.inl rfl) a1) ?_
      simp
      refine .call 90 (by simp) (p_placed s (by omega) l (by simp [okL] at b2; omega) (.inl rfl) b1) ?_
      simp
      refine .call 90 (by simp) (p_placed s (by omega) [] (k := 0) (by simp) (.inr rfl) trivial) ?_
      simp
      exact .back (by simp)
  | error i =>
    simp
    refine .call 90 (by simp) (p_token_Verilog hΓ s (by omega)) ?_
    cases hc : words rdVer s with
    | ok l2 =>
      rw [hc] at c1 c2
      simp
      refine .call 90 (by simp) (p_placed s (by omega) (blifS s) (by omega) (.inl rfl) a1) ?_
      simp
      refine .call 90 (by simp) (p_placed s (by omega) [] (k := 0) (by simp) (.inr rfl) trivial) ?_
      simp
      refine .call 90 (by simp) (p_placed s (by omega) l2 (by simp [okL] at c2; omega) (.inl rfl) c1) ?_
      simp
      exact .back (by simp)
    | error i =>
      simp
      refine .call 90 (by simp) (p_placed s (by omega) (blifS s) (by omega) (.inl rfl) a1) ?_
      simp
      refine .call 90 (by simp) (p_placed s (by omega) [] (k := 0) (by simp) (.inr rfl) trivial) ?_
      simp
      refine .call 90 (by simp) (p_placed s (by omega) [] (k := 0) (by simp) (.inr rfl) trivial) ?_
      simp
      exact .back (by simp)
end Go.Proofs.Ytbdnncbigmcdjaa
