/- Graphs: what And's literal means; the laws of And. No program in sight. -/
import Derived.Test.YtdmedcdloeljeaaF
import Derived.Test.YtdmedcdloeljeaaT
set_option linter.unusedSimpArgs false
set_option linter.unusedVariables false
namespace Go.Proofs.Ytdmedcdloeljeaa
open Go.AM Go.Proofs
set_option linter.unusedSimpArgs false
set_option linter.unusedVariables false

theorem andsB_of {l : List (Int × Int)} {n : Nat} (h : ∀ i (hi : i < l.length), (0 ≤ l[i].1 ∧ l[i].1 < 2 * (n + i)) ∧ 0 ≤ l[i].2 ∧ l[i].2 < 2 * (n + i)) : andsB l n = false := by
  induction l generalizing n with
  | nil => rfl
  | cons p l ih =>
    have h0 := h 0 (by simp)
    simp only [List.getElem_cons_zero] at h0
    simp only [andsB, Bool.or_eq_false_iff, litB, decide_eq_false_iff_not]
    refine ⟨by omega, ih fun i hi => ?_⟩
    have := h (i + 1) (by simpa using hi)
    simp only [List.getElem_cons_succ] at this
    omega
theorem Gr.check_of {g : Gr} (ok : g.Ok) : g.check = 0 := by
  obtain ⟨h1, h2, h3, h4, h5, h6, h7, h8⟩ := ok
  unfold Gr.check
  have e1 : g.lim = false := by simp [Gr.lim]; omega
  have e2 : anyB iniB g.init = false := anyB_no.2 fun a ha => by have := h5 a ha; simp [iniB]; omega
  have e3 : anyB (litB g.lits) g.next = false := anyB_no.2 fun a ha => by have := h6 a ha; simp [litB]; omega
  have e4 : anyB (litB g.lits) g.outs = false := anyB_no.2 fun a ha => by have := h7 a ha; simp [litB]; omega
  simp [e1, e2, e3, e4, h4, andsB_of h8]

theorem andG_comm (first : Nat) (l : List (Int × Int)) (a b : Nat) : andG first l a b = andG first l b a := by
  unfold andG
  rw [Nat.max_comm b a, Nat.min_comm b a]
theorem andG_ext (first : Nat) (l : List (Int × Int)) (a b : Nat) : ∃ e, (andG first l a b).1 = l ++ e := by
  unfold andG
  split
  · exact ⟨[], by simp⟩
  · split
    · exact ⟨[], by simp⟩
    · exact ⟨_, rfl⟩
/-- Again: the same. -/
theorem andG_again (first : Nat) (l : List (Int × Int)) (a b : Nat) : andG first (andG first l a b).1 a b = andG first l a b := by
  unfold andG
  cases hk : andK (max a b) (min a b) with
  | some c => rfl
  | none =>
    simp only
    cases hi : idxP (((max a b : Nat) : Int), ((min a b : Nat) : Int)) l 0 with
    | some i => simp only [hi]
    | none =>
      simp only
      rw [idxP_append, hi]
      simp [idxP]
theorem litV_app {v : List Bool} {a : Nat} (h : a / 2 < v.length) (e : List Bool) : litV (v ++ e) a = litV v a := by
  unfold litV
  rw [List.getD_eq_getElem?_getD, List.getD_eq_getElem?_getD, List.getElem?_append_left h]
theorem valsA_pre : ∀ (l : List (Int × Int)) (v : List Bool), ∃ e, valsA l v = v ++ e
  | [], v => ⟨[], by simp [valsA]⟩
  | p :: ps, v => by
    obtain ⟨e, he⟩ := valsA_pre ps (v ++ [litV v p.1.toNat && litV v p.2.toNat])
    exact ⟨[litV v p.1.toNat && litV v p.2.toNat] ++ e, by rw [valsA, he, List.append_assoc]⟩
theorem valsA_lit (l : List (Int × Int)) {v : List Bool} {a : Nat} (h : a / 2 < v.length) : litV (valsA l v) a = litV v a := by
  obtain ⟨e, he⟩ := valsA_pre l v
  rw [he, litV_app h]
theorem litV_last (w : List Bool) (x : Bool) {n : Nat} (h : n = 2 * w.length) : litV (w ++ [x]) n = x := by
  subst h
  unfold litV
  have e1 : 2 * w.length / 2 = w.length := by omega
  have e2 : ¬ 2 * w.length % 2 = 1 := by omega
  rw [e1, List.getD_eq_getElem?_getD]
  simp [e2]
/-- An and's value. -/
theorem valsA_and {l : List (Int × Int)} {v : List Bool} {i : Nat} (hi : i < l.length) (h1 : l[i].1.toNat / 2 < v.length + i) (h2 : l[i].2.toNat / 2 < v.length + i) :
    litV (valsA l v) (2 * (v.length + i)) = (litV (valsA l v) l[i].1.toNat && litV (valsA l v) l[i].2.toNat) := by
  have e : l = l.take i ++ (l[i] :: l.drop (i + 1)) := by rw [← List.drop_eq_getElem_cons hi, List.take_append_drop]
  have hl : (valsA (l.take i) v).length = v.length + i := by rw [valsA_len, List.length_take]; omega
  have e2 : valsA l v = valsA (l.drop (i + 1)) (valsA (l.take i) v ++ [litV (valsA (l.take i) v) l[i].1.toNat && litV (valsA (l.take i) v) l[i].2.toNat]) := by
    conv => lhs; rw [e, valsA_append, valsA]
  generalize valsA (l.take i) v = w at *
  have s : ∀ c, c / 2 < w.length + 1 → litV (valsA l v) c = litV (w ++ [litV w l[i].1.toNat && litV w l[i].2.toNat]) c := fun c hc => by
    rw [e2]; exact valsA_lit _ (by rw [List.length_append]; exact hc)
  rw [s (2 * (v.length + i)) (by omega), s l[i].1.toNat (by omega), s l[i].2.toNat (by omega), litV_last _ _ (by omega), litV_app (by omega), litV_app (by omega)]
theorem litV_not {v : List Bool} {a : Nat} : litV v (a ^^^ 1) = !litV v a := by
  rw [xor1_nat]
  unfold litV
  split
  · rename_i h
    have e1 : (a + 1) / 2 = a / 2 := by omega
    have e2 : (a + 1) % 2 = 1 := by omega
    rw [e1]; simp [h, e2]
  · rename_i h
    have e1 : (a - 1) / 2 = a / 2 := by omega
    have e2 : ¬ (a - 1) % 2 = 1 := by omega
    have e3 : a % 2 = 1 := by omega
    rw [e1]; simp [e2, e3]
theorem litV_one {v : List Bool} (h : litV v 0 = false) : litV v 1 = true := by
  have := litV_not (v := v) (a := 0)
  rw [h] at this; exact this
/-- Ands that may be, behind so many numbers. -/
def WfA (first : Nat) (l : List (Int × Int)) : Prop := ∀ i (h : i < l.length), (0 ≤ l[i].1 ∧ l[i].1 < 2 * (first + i)) ∧ 0 ≤ l[i].2 ∧ l[i].2 < 2 * (first + i)
theorem WfA.push {first : Nat} {l : List (Int × Int)} (h : WfA first l) {p : Int × Int} (hp : (0 ≤ p.1 ∧ p.1 < 2 * (first + l.length)) ∧ 0 ≤ p.2 ∧ p.2 < 2 * (first + l.length)) : WfA first (l ++ [p]) := by
  intro i hi
  by_cases h2 : i < l.length
  · rw [List.getElem_append_left h2]; exact h i h2
  · have e : i = l.length := by simp at hi; omega
    subst e
    simp only [List.getElem_append_right (Nat.le_refl _), Nat.sub_self, List.getElem_cons_zero]
    omega
theorem WfA.and {first : Nat} {l : List (Int × Int)} (h : WfA first l) {a b : Nat} (ha : a < 2 * (first + l.length)) (hb : b < 2 * (first + l.length)) : WfA first (andG first l a b).1 := by
  unfold andG
  split
  · exact h
  · split
    · exact h
    · refine h.push ?_
      have := Nat.max_lt.2 ⟨ha, hb⟩
      have : min a b ≤ max a b := by omega
      simp only
      omega
/-- The literal is both. -/
theorem andG_val {first : Nat} {l : List (Int × Int)} {v : List Bool} (hv : v.length = first) (hz : litV v 0 = false) (h1 : 1 ≤ first) (wf : WfA first l) {a b : Nat} (ha : a < 2 * (first + l.length)) (hb : b < 2 * (first + l.length)) :
    litV (valsA (andG first l a b).1 v) (andG first l a b).2 = (litV (valsA l v) a && litV (valsA l v) b) := by
  have hz2 : litV (valsA l v) 0 = false := by rw [valsA_lit _ (by omega)]; exact hz
  have hM : max a b < 2 * (first + l.length) := Nat.max_lt.2 ⟨ha, hb⟩
  have hm : min a b < 2 * (first + l.length) := by omega
  have hL : (valsA l v).length = first + l.length := by rw [valsA_len, hv]
  have key : (litV (valsA l v) a && litV (valsA l v) b) = (litV (valsA l v) (max a b) && litV (valsA l v) (min a b)) := by
    rcases Nat.le_total a b with h | h
    · rw [Nat.max_eq_right h, Nat.min_eq_left h, Bool.and_comm]
    · rw [Nat.max_eq_left h, Nat.min_eq_right h]
  rw [key]
  unfold andG
  generalize max a b = p at *
  generalize min a b = q at *
  cases hk : andK p q with
  | some c =>
    simp only
    unfold andK at hk
    split at hk
    · rename_i h2
      cases hk
      rw [hz2]
      rcases h2 with rfl | rfl
      · rw [hz2, Bool.and_false]
      · rw [litV_not]; cases litV (valsA l v) p <;> rfl
    · split at hk
      · rename_i h2
        cases hk
        rcases h2 with rfl | rfl
        · rw [litV_one hz2, Bool.and_true]
        · rw [Bool.and_self]
      · cases hk
  | none =>
    simp only
    cases hi : idxP ((p : Int), (q : Int)) l 0 with
    | some i =>
      simp only
      obtain ⟨_, h2, h3⟩ := idxP_some hi
      simp only [Nat.sub_zero] at h2 h3
      have hw := wf i h2
      have := valsA_and (v := v) h2 (by omega) (by omega)
      rw [hv, h3] at this
      exact this
    | none =>
      simp only
      rw [valsA_append, valsA, valsA]
      rw [litV_last _ _ (by omega)]
      rfl
theorem andG_old {first : Nat} {l : List (Int × Int)} {v : List Bool} (hv : v.length = first) {a b c : Nat} (hc : c < 2 * (first + l.length)) : litV (valsA (andG first l a b).1 v) c = litV (valsA l v) c := by
  obtain ⟨e, he⟩ := andG_ext first l a b
  rw [he, valsA_append, valsA_lit _ (by rw [valsA_len]; omega)]
theorem sameG_refl (a : Gr) : sameG a a = true := by simp [sameG]

/-! ### And, of graphs -/
theorem andR_comm (g : Gr) (a b : Int) : g.andE a b = g.andE b a ∧ g.andR a b = g.andR b a ∧ g.andC a b = g.andC b a := by
  have e : g.andE a b = g.andE b a := by
    unfold Gr.andE
    rw [andG_comm g.first g.ands a.toNat b.toNat]
    by_cases hx : litB g.lits a = true <;> by_cases hy : litB g.lits b = true <;> simp [hx, hy]
  refine ⟨e, ?_, ?_⟩
  · unfold Gr.andR; rw [e, andG_comm]
  · unfold Gr.andC; rw [e, andG_comm]
/-- What is known where And is well. -/
structure AndOk (g : Gr) (a b : Int) : Prop where
  ok : g.Ok
  a1 : 0 ≤ a ∧ a < g.lits
  b1 : 0 ≤ b ∧ b < g.lits
  R : g.andR a b = g.ofA (andG g.first g.ands a.toNat b.toNat).1
  C : g.andC a b = (andG g.first g.ands a.toNat b.toNat).2
  ok2 : (g.andR a b).Ok
  lt : g.andC a b < (g.andR a b).lits
  le : g.lits ≤ (g.andR a b).lits
theorem andOk {g : Gr} {a b : Int} (h : g.andE a b = 0) : AndOk g a b := by
  have hR : g.andR a b = g.ofA (andG g.first g.ands a.toNat b.toNat).1 := by unfold Gr.andR; rw [if_pos h]
  have hC : g.andC a b = (andG g.first g.ands a.toNat b.toNat).2 := by unfold Gr.andC; rw [if_pos h]
  unfold Gr.andE at h
  split at h
  · contradiction
  · rename_i hc
    have ok := Gr.ok_of (Decidable.not_not.1 hc)
    split at h
    · cases h
    · rename_i hl
      rw [not_or] at hl
      obtain ⟨a1, a2⟩ := hl
      simp [litB] at a1 a2
      split at h
      · cases h
      · rename_i hs
        have hlits : g.lits = 2 * (g.first + g.ands.length) := rfl
        have ha : a.toNat < 2 * (g.first + g.ands.length) := by omega
        have hb : b.toNat < 2 * (g.first + g.ands.length) := by omega
        have h1 : 1 ≤ g.first := by unfold Gr.first; omega
        obtain ⟨l1, l2⟩ := andG_lt ha hb h1
        have wf : WfA g.first (andG g.first g.ands a.toNat b.toNat).1 := WfA.and ok.ands ha hb
        have hl2 : (g.ofA (andG g.first g.ands a.toNat b.toNat).1).lits = 2 * (g.first + (andG g.first g.ands a.toNat b.toNat).1.length) := rfl
        refine ⟨ok, by omega, by omega, hR, hC, ?_, ?_, ?_⟩
        · rw [hR]
          refine ⟨ok.ins, by simp only; omega, ok.outsL, ok.same, ok.init, fun x hx => ?_, fun x hx => ?_, wf⟩
          · rw [hl2]; have := ok.next x hx; omega
          · rw [hl2]; have := ok.outs x hx; omega
        · rw [hC, hR, hl2]; exact l1
        · rw [hR, hl2, hlits]; omega
theorem AndOk.vals {g : Gr} {a b : Int} (h : AndOk g a b) (state ins : List Bool) : (g.andR a b).valuesE state ins = g.valuesE state ins := by
  unfold Gr.valuesE
  rw [Gr.check_of h.ok, Gr.check_of h.ok2]
  have e : (g.andR a b).fits state ins = g.fits state ins := by rw [h.R]; rfl
  rw [e]
theorem AndOk.value {g : Gr} {a b : Int} (h : AndOk g a b) {state ins : List Bool} (hv : g.valuesE state ins = 0) :
    litV ((g.andR a b).vals state ins) (g.andC a b) = (litV (g.vals state ins) a.toNat && litV (g.vals state ins) b.toNat) ∧
    (∀ c : Nat, c < g.lits → litV ((g.andR a b).vals state ins) c = litV (g.vals state ins) c) ∧ ∃ e, (g.andR a b).vals state ins = g.vals state ins ++ e := by
  obtain ⟨ok, d1, d2⟩ := Gr.ok_E hv
  have o1 := ok.ins
  have hl : (false :: (ins ++ state)).length = g.first := by simp [Gr.first]; omega
  have hlits : g.lits = 2 * (g.first + g.ands.length) := rfl
  have ha := h.a1
  have hb := h.b1
  unfold Gr.vals
  rw [h.R, h.C]
  refine ⟨andG_val hl (by simp [litV]) (by unfold Gr.first; omega) ok.ands (by omega) (by omega), fun c hc => andG_old hl (by omega), ?_⟩
  obtain ⟨e, he⟩ := andG_ext g.first g.ands a.toNat b.toNat
  simp only
  rw [he, valsA_append]
  exact valsA_pre e _
theorem AndOk.again {g : Gr} {a b : Int} (h : AndOk g a b) : (g.andR a b).andE a b = 0 ∧ (g.andR a b).andC a b = g.andC a b ∧ (g.andR a b).andR a b = g.andR a b := by
  have hA : andG (g.andR a b).first (g.andR a b).ands a.toNat b.toNat = andG g.first g.ands a.toNat b.toNat := by
    rw [h.R]; exact andG_again _ _ _ _
  have ha := h.a1
  have hb := h.b1
  have hle := h.le
  have hE : (g.andR a b).andE a b = 0 := by
    unfold Gr.andE
    rw [Gr.check_of h.ok2, hA, if_neg (by simp), if_neg (by simp [litB]; omega), if_neg]
    have := h.ok2.sum
    rw [h.R] at this
    rw [h.R]
    simp only at this ⊢
    omega
  refine ⟨hE, ?_, ?_⟩
  · rw [(andOk hE).C, hA, h.C]
  · rw [(andOk hE).R, hA, h.R]
end Go.Proofs.Ytdmedcdloeljeaa
/- The law: AigMeans. -/
namespace Go.Proofs.Ytdmedcdloeljeaa
open Go.AM Go.Proofs
variable {Γ : Nat → Option AV}
set_option linter.unusedSimpArgs false
set_option linter.unusedVariables false

theorem Gr.Ok.few {g : Gr} (h : g.Ok) : g.few := by
  have h1 := h.ins; have h2 := h.sum; have h3 := h.outsL; have h4 := h.same
  unfold Gr.few; omega
theorem gr0_few : gr0.few := by unfold Gr.few gr0; decide
theorem andR_few (g : Gr) (a b : Int) : (g.andR a b).few := by
  by_cases h : g.andE a b = 0
  · exact (andOk h).ok2.few
  · unfold Gr.andR; rw [if_neg h]; exact gr0_few
theorem Gr.values_few {g : Gr} (hf : g.few) {state ins : List Bool} (h1 : state.length < 2 ^ 40) (h2 : ins.length < 2 ^ 40) : (g.values state ins).length < 2 ^ 60 := by
  unfold Gr.values; split
  · rw [g.vals_len]; have := hf.2.2.1; omega
  · simp

abbrev obG (x : Gr) : Ob := .cells [.int .i64 x.ins, .list false x.kn (x.next.map i64), .list false x.ki (x.init.map i64), .list false x.ka (x.ands.map ePr), .list false x.ko (x.outs.map i64)]
abbrev obR1 : Ob := .row 1 t_int [] none true false
abbrev obR2 : Ob := .row 2 t_2_int_2 [] none true false
abbrev obB (v : List Bool) : Ob := .row 1 t_bool (v.map .bool) none true false

set_option maxHeartbeats 2000000 in
set_option maxRecDepth 8000 in
theorem l_AigMeans (g : Gr) (a b : Int) (state ins : List Bool) {ks ki : Nat} (hs : Kd 1 ks state) (hi : Kd 1 ki ins) :
    PureCon Try.prog Γ n_w09_AigMeans [eGr g, .int .i64 a, .int .i64 b, .list false ks (state.map .bool), .list false ki (ins.map .bool)] (.bool true) := by
  refine .run 60 c_w09_AigMeans (by simp) ?_
  simp
  refine .call 60 (by simp) p_w09_works ?_
  simp
  refine .call 60 (by simp) (p_w09_Few g) ?_
  cases hF : g.fewB with
  | false => simp; exact .back (by simp)
  | true =>
    have hf := Gr.fewB_few hF
    by_cases h1 : 60 < state.length
    · simp [h1]; exact .back (by simp)
    · by_cases h2 : 60 < ins.length
      · simp [h1, h2]; exact .back (by simp)
      · simp [h1, h2]
        obtain ⟨ce, cr, cc⟩ := andR_comm g b a
        have hA2 := p_aig_And (Γ := Γ) g hf b a
        rw [ce, cr, cc] at hA2
        have hxf := andR_few g a b
        refine .call 60 (by simp) (p_aig_And g hf a b) ?_
        simp
        refine .call 60 (by simp) hA2 ?_
        have hVg := p_aig_Values (Γ := Γ) g hf state ins hs hi (by omega) (by omega)
        have hVx := p_aig_Values (Γ := Γ) (g.andR a b) hxf state ins hs hi (by omega) (by omega)
        by_cases hE : g.andE a b = 0
        · have A := andOk hE
          rw [A.vals] at hVx
          have hsame := p_aig_Same (Γ := Γ) (g.andR a b) (g.andR a b) hxf
          rw [sameG_refl] at hsame
          simp [hE]
          refine .call 60 (by simp) hsame ?_
          simp [hE]
          refine .call 60 (by simp) hVg ?_
          simp [hE]
          refine .call 60 (by simp) hVx ?_
          by_cases hV : g.valuesE state ins = 0
          · simp [hE, hV]
            have e1 : g.values state ins = g.vals state ins := by unfold Gr.values; rw [if_pos hV]
            have e2 : (g.andR a b).values state ins = (g.andR a b).vals state ins := by unfold Gr.values; rw [A.vals, if_pos hV]
            obtain ⟨v1, v2, v3⟩ := A.value hV
            obtain ⟨g1, g2, g3⟩ := A.again
            have hA3 := p_aig_And (Γ := Γ) (g.andR a b) hxf a b
            rw [g1, g2, g3] at hA3
            obtain ⟨ok, d1, d2⟩ := Gr.ok_E hV
            have o1 := ok.ins
            have o3 := ok.sum
            have ha := A.a1
            have hb := A.b1
            have hlt := A.lt
            have hvl := g.vals_len state ins
            have hlit : g.lits = 2 * (g.vals state ins).length := by rw [hvl]; simp [Gr.lits, Gr.all, Gr.first]; omega
            have hwl := (g.andR a b).vals_len state ins
            have hlit2 : (g.andR a b).lits = 2 * ((g.andR a b).vals state ins).length := by rw [hwl, A.R]; simp [Gr.lits, Gr.all, Gr.first]; omega
            have hok2 := A.ok2.sum
            have hok3 := A.ok2.ins
            rw [e1, e2]
            clear e1 e2 hVg hVx
            generalize g.vals state ins = v at *
            generalize (g.andR a b).vals state ins = w at *
            obtain ⟨x, hx⟩ := Int.eq_ofNat_of_zero_le ha.1
            obtain ⟨y, hy⟩ := Int.eq_ofNat_of_zero_le hb.1
            subst hx hy
            simp only [Int.toNat_natCast] at v1
            have cp := p_r09_Lit (Γ := Γ) v x (by omega) (by omega)
            have cq := p_r09_Lit (Γ := Γ) v y (by omega) (by omega)
            have cw := p_r09_Lit (Γ := Γ) w (g.andC x y) (by omega) (by omega)
            rw [v1] at cw
            generalize g.andC (x : Int) (y : Int) = c at *
            generalize g.andR (x : Int) (y : Int) = X at *
            have key : ∀ n i : Nat, i + n = v.length → Fins Try.prog Γ (w09_AigMeans_L5 (.int .i64 x) (.int .i64 y) (.bool true) (.ptr 1 0) (.int .i64 c) (.sl 11 0 v.length) (.sl 12 0 w.length) (.int .i64 i)
                [obG g, obG X, obR1, obR1, obR2, obR1, obG X, obR1, obR1, obR2, obR1, obB v, obB w]) (.ret (.bool true)) := by
              intro n
              induction n with
              | zero =>
                intro i hi
                have q1 : ¬ i < v.length := by omega
                refine .go 60 ?_
                simp [q1]
                refine .call 60 (by simp) hA3 ?_
                simp
                refine .call 60 (by simp) cp ?_
                simp
                refine .call 60 (by simp) cq ?_
                simp
                refine .call 60 (by simp) cw ?_
                cases litV v x <;> cases litV v y <;> simp
                all_goals
                  refine .call 60 (by simp) hsame ?_
                  simp
                  exact .back (by simp)
              | succ n ih =>
                intro i hi
                have q1 : i < v.length := by omega
                obtain ⟨e, he⟩ := v3
                have q2 : i < w.length := by rw [he]; simp; omega
                have q3 : w[i] = v[i] := by subst he; rw [List.getElem_append_left q1]
                refine .go 60 ?_
                simp (disch := omega) [q1, q2, q3]
                refine .reLoop ?_
                have hh := ih (i + 1) (by omega)
                simp at hh ⊢
                exact hh
            refine .inLoop ?_
            have hh := key v.length 0 (by omega)
            simp at hh ⊢
            exact hh
          · simp [hE, hV]
            exact .back (by simp)
        · have hc : g.andC a b = 0 := by unfold Gr.andC; rw [if_neg hE]
          simp [hE, hc]
          refine .call 60 (by simp) hVg ?_
          simp [hE, hc]
          refine .call 60 (by simp) hVx ?_
          simp [hE, hc]
          exact .back (by simp)
end Go.Proofs.Ytdmedcdloeljeaa
/- The law: AigLaws. -/
namespace Go.Proofs.Ytdmedcdloeljeaa
open Go.AM Go.Proofs
variable {Γ : Nat → Option AV}
set_option linter.unusedSimpArgs false
set_option linter.unusedVariables false

theorem andC_zero (g : Gr) (a : Int) : g.andC a 0 = 0 := by
  unfold Gr.andC
  split
  · unfold andG
    have h : andK (max a.toNat (Int.toNat 0)) (min a.toNat (Int.toNat 0)) = some 0 := by
      unfold andK
      rw [if_pos (Or.inl (by simp))]
    rw [h]
  · rfl
theorem andC_one (g : Gr) (a : Int) (h : g.andE 1 a = 0) : (g.andC 1 a : Int) = a := by
  have A := andOk h
  have ha := A.b1
  rw [A.C]
  obtain ⟨x, hx⟩ := Int.eq_ofNat_of_zero_le ha.1
  subst hx
  unfold andG
  have h1 : andK (max (Int.toNat 1) (Int.toNat (x : Int))) (min (Int.toNat 1) (Int.toNat (x : Int))) = some x := by
    rw [Int.toNat_natCast, show Int.toNat 1 = 1 from rfl]
    rcases (show x = 0 ∨ x = 1 ∨ 2 ≤ x by omega) with rfl | rfl | h2
    · rfl
    · rfl
    · rw [Nat.max_eq_right (by omega), Nat.min_eq_left (by omega)]
      unfold andK
      have h3 := xor1_nat x
      rw [if_neg, if_pos (Or.inl rfl)]
      rw [not_or]
      refine ⟨by omega, ?_⟩
      rw [h3]; split <;> omega
  rw [h1]
/-- Of three, whichever two are first. -/
theorem and3 {g : Gr} {a b c : Int} {state ins : List Bool}
    (h1 : g.andE a b = 0) (h2 : (g.andR a b).andE (g.andC a b) c = 0) (h3 : ((g.andR a b).andR (g.andC a b) c).andE b c = 0)
    (h4 : (((g.andR a b).andR (g.andC a b) c).andR b c).andE a (((g.andR a b).andR (g.andC a b) c).andC b c) = 0)
    (hv : ((((g.andR a b).andR (g.andC a b) c).andR b c).andR a (((g.andR a b).andR (g.andC a b) c).andC b c)).valuesE state ins = 0) :
    litV (((((g.andR a b).andR (g.andC a b) c).andR b c).andR a (((g.andR a b).andR (g.andC a b) c).andC b c)).vals state ins) ((g.andR a b).andC (g.andC a b) c) =
    litV (((((g.andR a b).andR (g.andC a b) c).andR b c).andR a (((g.andR a b).andR (g.andC a b) c).andC b c)).vals state ins) ((((g.andR a b).andR (g.andC a b) c).andR b c).andC a (((g.andR a b).andR (g.andC a b) c).andC b c)) := by
  have A1 := andOk h1
  have A2 := andOk h2
  have A3 := andOk h3
  have A4 := andOk h4
  rw [A4.vals] at hv
  have v4 := A4.value hv
  rw [A3.vals] at hv
  have v3 := A3.value hv
  rw [A2.vals] at hv
  have v2 := A2.value hv
  rw [A1.vals] at hv
  have v1 := A1.value hv
  have a1 := A1.a1; have b1 := A1.b1; have c1 := A2.b1
  have l1 := A1.lt; have l2 := A2.lt; have l3 := A3.lt; have l4 := A4.lt
  have e1 := A1.le; have e2 := A2.le; have e3 := A3.le; have e4 := A4.le
  rw [v4.1, v4.2.1 _ (by omega), v3.2.1 _ (by omega), v2.1]
  simp only [Int.toNat_natCast]
  rw [v3.1, v3.2.1 a.toNat (by omega), v2.2.1 a.toNat (by omega), v2.2.1 b.toNat (by omega), v2.2.1 c.toNat (by omega)]
  rw [v1.1, v1.2.1 a.toNat (by omega), v1.2.1 b.toNat (by omega), Bool.and_assoc]
theorem vals_lit {g : Gr} {state ins : List Bool} (hv : g.valuesE state ins = 0) : g.lits = 2 * (g.vals state ins).length ∧ (g.vals state ins).length ≤ 4001 := by
  obtain ⟨ok, d1, d2⟩ := Gr.ok_E hv
  have o1 := ok.ins
  have o3 := ok.sum
  have hvl := g.vals_len state ins
  refine ⟨?_, by omega⟩
  rw [hvl]; simp [Gr.lits, Gr.all, Gr.first]; omega

set_option maxHeartbeats 4000000 in
set_option maxRecDepth 8000 in
theorem l_AigLaws (g : Gr) (a b c : Int) (state ins : List Bool) {ks ki : Nat} (hs : Kd 1 ks state) (hi : Kd 1 ki ins) :
    PureCon Try.prog Γ n_w09_AigLaws [eGr g, .int .i64 a, .int .i64 b, .int .i64 c, .list false ks (state.map .bool), .list false ki (ins.map .bool)] (.bool true) := by
  refine .run 60 c_w09_AigLaws (by simp) ?_
  simp
  refine .call 60 (by simp) p_w09_works ?_
  simp
  refine .call 60 (by simp) (p_w09_Few g) ?_
  cases hF : g.fewB with
  | false => simp; exact .back (by simp)
  | true =>
    have hf := Gr.fewB_few hF
    by_cases h1 : 60 < state.length
    · simp [h1]; exact .back (by simp)
    · by_cases h2 : 60 < ins.length
      · simp [h1, h2]; exact .back (by simp)
      · by_cases n1 : a < 0
        · simp [h1, h2, n1]; exact .back (by simp)
        · by_cases n2 : b < 0
          · simp [h1, h2, n1, n2]; exact .back (by simp)
          · by_cases n3 : c < 0
            · simp [h1, h2, n1, n2, n3]; exact .back (by simp)
            · simp [h1, h2, n1, n2, n3]
              refine .call 60 (by simp) (p_aig_And g hf a b) ?_
              have f1 := andR_few g a b
              simp
              refine .call 60 (by simp) (p_aig_And (g.andR a b) f1 (g.andC a b) c) ?_
              have f2 := andR_few (g.andR a b) (g.andC a b) c
              simp
              refine .call 60 (by simp) (p_aig_And ((g.andR a b).andR (g.andC a b) c) f2 b c) ?_
              have f3 := andR_few ((g.andR a b).andR (g.andC a b) c) b c
              simp
              refine .call 60 (by simp) (p_aig_And (((g.andR a b).andR (g.andC a b) c).andR b c) f3 a (((g.andR a b).andR (g.andC a b) c).andC b c)) ?_
              have f4 := andR_few (((g.andR a b).andR (g.andC a b) c).andR b c) a (((g.andR a b).andR (g.andC a b) c).andC b c)
              simp
              have hz := p_aig_And (Γ := Γ) g hf a 0
              rw [andC_zero] at hz
              refine .call 60 (by simp) hz ?_
              simp
              refine .call 60 (by simp) (p_aig_And g hf 1 a) ?_
              simp
              have law := and3 (g := g) (a := a) (b := b) (c := c) (state := state) (ins := ins)
              have hV := p_aig_Values (Γ := Γ) _ f4 state ins hs hi (by omega) (by omega)
              have hone := andC_one g a
              have lt2 : (g.andR a b).andE (g.andC a b) c = 0 → ((g.andR a b).andR (g.andC a b) c).andE b c = 0 → (((g.andR a b).andR (g.andC a b) c).andR b c).andE a (((g.andR a b).andR (g.andC a b) c).andC b c) = 0 → (g.andR a b).andC (g.andC a b) c < ((((g.andR a b).andR (g.andC a b) c).andR b c).andR a (((g.andR a b).andR (g.andC a b) c).andC b c)).lits :=
                fun q2 q3 q4 => Nat.lt_of_lt_of_le (andOk q2).lt (Nat.le_trans (andOk q3).le (andOk q4).le)
              have lt4 : (((g.andR a b).andR (g.andC a b) c).andR b c).andE a (((g.andR a b).andR (g.andC a b) c).andC b c) = 0 → (((g.andR a b).andR (g.andC a b) c).andR b c).andC a (((g.andR a b).andR (g.andC a b) c).andC b c) < ((((g.andR a b).andR (g.andC a b) c).andR b c).andR a (((g.andR a b).andR (g.andC a b) c).andC b c)).lits :=
                fun q4 => (andOk q4).lt
              generalize (((g.andR a b).andR (g.andC a b) c).andR b c).andR a (((g.andR a b).andR (g.andC a b) c).andC b c) = X4 at *
              generalize (((g.andR a b).andR (g.andC a b) c).andR b c).andE a (((g.andR a b).andR (g.andC a b) c).andC b c) = E4 at *
              generalize (((g.andR a b).andR (g.andC a b) c).andR b c).andC a (((g.andR a b).andR (g.andC a b) c).andC b c) = C4 at *
              generalize ((g.andR a b).andR (g.andC a b) c).andE b c = E3 at *
              generalize (g.andR a b).andE (g.andC a b) c = E2 at *
              generalize (g.andR a b).andC (g.andC a b) c = C2 at *
              generalize g.andE a b = E1 at *
              generalize g.andE a 0 = E5 at *
              generalize g.andE 1 a = E6 at *
              generalize hC6 : g.andC 1 a = C6 at *
              refine .call 60 (by simp) hV ?_
              by_cases k1 : E1 = 0
              · by_cases k2 : E2 = 0
                · by_cases k3 : E3 = 0
                  · by_cases k4 : E4 = 0
                    · by_cases k5 : E5 = 0
                      · by_cases k6 : E6 = 0
                        · by_cases k7 : X4.valuesE state ins = 0
                          · have hv1 : X4.values state ins = X4.vals state ins := by unfold Gr.values; rw [if_pos k7]
                            have law := law k1 k2 k3 k4 k7
                            have hone := hone k6
                            have lt2 := lt2 k2 k3 k4
                            have lt4 := lt4 k4
                            obtain ⟨hl, hl2⟩ := vals_lit k7
                            have cp := p_r09_Lit (Γ := Γ) (X4.vals state ins) C2 (by omega) (by omega)
                            have cq := p_r09_Lit (Γ := Γ) (X4.vals state ins) C4 (by omega) (by omega)
                            rw [hv1]
                            simp [k1, k2, k3, k4, k5, k6, k7]
                            refine .call 60 (by simp) cp ?_
                            simp
                            refine .call 60 (by simp) cq ?_
                            simp [law, hone]
                            exact .back (by simp)
                          · simp [k1, k2, k3, k4, k5, k6, k7]; exact .back (by simp)
                        · simp [k1, k2, k3, k4, k5, k6]; exact .back (by simp)
                      · simp [k1, k2, k3, k4, k5]; exact .back (by simp)
                    · simp [k1, k2, k3, k4]; exact .back (by simp)
                  · simp [k1, k2, k3]; exact .back (by simp)
                · simp [k1, k2]; exact .back (by simp)
              · simp [k1]; exact .back (by simp)
end Go.Proofs.Ytdmedcdloeljeaa
/- AigLaws: the law returns true, and it reads as it did. -/
namespace Go.Proofs.Ytdmedcdloeljeaa
open Go.AM Go.Proofs Go.ChangeShapes Go.WideShapes Go.ChangeAt Go.RowKit

set_option maxRecDepth 100000 in
theorem aigLaws_lifted (os : Os) (started : os.Started) (H : Type) (enc : TypeId × Value → H) :
    ReturnsInHanded {} Try.checked os n_w09_AigLaws .any (Rows.aigLawsSpec.pre6 enc Try.prog Try.f7 Rows.aigLawsRow.domain false) (Rows.aigLawsSpec.post enc Try.prog Try.f7 false true false false) := by
  refine returnsInHanded_of_change_shaped (C := Try.checked) own started (by kernel_rfl) Try.func7
    (ChangeSpec.witness6 (enc := enc) (C := Try.checked) false ⟨#[], #[.agg #[.int .i64 0, .slice none 0 0, .slice none 0 0, .slice none 0 0, .slice none 0 0], .int .i64 0, .int .i64 0, .int .i64 0, .slice none 0 0, .slice none 0 0], []⟩ 8 (by kernel_rfl) (by kernel_rfl) (by kernel_rfl) (by kernel_rfl)) ?_
  intro W base args ds gs before hval hW _ _ hsh _
  refine law_callsQ Down.any (Γ := ΓW) (shs := [(true, shGr), (false, shI), (false, shI), (false, shI), (false, shBs), (false, shBs)]) laid mapsR (tb := 4) (by kernel_rfl) Try.underlying4 (of_decide_eq_true (by kernel_rfl)) (by kernel_rfl) rfl ?_ ΓW_ok ?_ hval hW (fun _ _ => trivial)
  · intro ds hds
    match ds, hds with
    | [d1, d2, d3, d4, d5, d6], _ => exact ⟨rfl, rfl, rfl⟩
  · intro xs has
    simp only [IsArgs] at has
    obtain ⟨_, _, rfl, h1, _, _, _, rfl, h2, _, _, _, rfl, h3, _, _, _, rfl, h4, _, _, _, rfl, h5, _, _, _, rfl, h6, _, rfl⟩ := has
    obtain ⟨a1, l1, l1f⟩ := dec_gr h1
    obtain ⟨a2, rfl, l2⟩ := dec_int h2
    obtain ⟨a3, rfl, l3⟩ := dec_int h3
    obtain ⟨a4, rfl, l4⟩ := dec_int h4
    obtain ⟨a5, rfl, l5⟩ := dec_bools h5
    obtain ⟨a6, rfl, l6⟩ := dec_bools h6
    simp only [mkA, l1]
    exact l_AigLaws a1 a2 a3 a4 a5 a6 .self .self

theorem aigLaws_holds : Rows.AigLawsSaid :=
  OpenClaim.holds_of_wide 7 Try.f7 rfl rfl rfl rfl rfl rfl rfl ⟨rfl, rfl, rfl, rfl, rfl⟩ rfl rfl rfl rfl rfl (by kernel_rfl) Try.func7 (by kernel_rfl)
    (of_decide_eq_true (by kernel_rfl)) (by unfold Func.isWrapper; first | (rw [if_pos (by decide +kernel)]; kernel_rfl) | (rw [if_neg (by decide +kernel)]; exact ⟨rfl, rfl⟩))
    (fun os started H enc _ => aigLaws_lifted os started H enc)
#print axioms aigLaws_holds
end Go.Proofs.Ytdmedcdloeljeaa
