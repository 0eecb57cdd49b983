/- Graphs: what And's literal means; the laws of And. No program in sight. -/
import Derived.Test.YtdmedcdloeljeaaF
import Derived.Test.YtdmedcdloeljeaaT
set_option linter.unusedSimpArgs false
set_option linter.unusedVariables false
namespace Go.Proofs.Ytdmedcdloeljeaa
open Go.AM Go.Proofs
set_option linter.unusedSimpArgs false
set_option linter.unusedVariables false

theorem andsB_of {l : List (Int × Int)} {n : Nat} (h : ∀ i (hi : i < l.length), (0 ≤ l[i].1 ∧ l[i].1 < 2 * (n + i)) ∧ 0 ≤ l[i].2 ∧ l[i].2 < 2 * (n + i)) : andsB l n = false := by
  induction l generalizing n with
  | nil => rfl
  | cons p l ih =>
    have h0 := h 0 (by simp)
    simp only [List.getElem_cons_zero] at h0
    simp only [andsB, Bool.or_eq_false_iff, litB, decide_eq_false_iff_not]
    refine ⟨by omega, ih fun i hi => ?_⟩
    have := h (i + 1) (by simpa using hi)
    simp only [List.getElem_cons_succ] at this
    omega
theorem Gr.check_of {g : Gr} (ok : g.Ok) : g.check = 0 := by
  obtain ⟨h1, h2, h3, h4, h5, h6, h7, h8⟩ := ok
  unfold Gr.check
  have e1 : g.lim = false := by simp [Gr.lim]; omega
  have e2 : anyB iniB g.init = false := anyB_no.2 fun a ha => by have := h5 a ha; simp [iniB]; omega
  have e3 : anyB (litB g.lits) g.next = false := anyB_no.2 fun a ha => by have := h6 a ha; simp [litB]; omega
  have e4 : anyB (litB g.lits) g.outs = false := anyB_no.2 fun a ha => by have := h7 a ha; simp [litB]; omega
  simp [e1, e2, e3, e4, h4, andsB_of h8]

theorem andG_comm (first : Nat) (l : List (Int × Int)) (a b : Nat) : andG first l a b = andG first l b a := by
  unfold andG
  rw [Nat.max_comm b a, Nat.min_comm b a]
theorem andG_ext (first : Nat) (l : List (Int × Int)) (a b : Nat) : ∃ e, (andG first l a b).1 = l ++ e := by
  unfold andG
  split
  · exact ⟨[], by simp⟩
  · split
    · exact ⟨[], by simp⟩
    · exact ⟨_, rfl⟩
/-- Again: the same. -/
theorem andG_again (first : Nat) (l : List (Int × Int)) (a b : Nat) : andG first (andG first l a b).1 a b = andG first l a b := by
  unfold andG
  cases hk : andK (max a b) (min a b) with
  | some c => rfl
  | none =>
    simp only
    cases hi : idxP (((max a b : Nat) : Int), ((min a b : Nat) : Int)) l 0 with
    | some i => simp only [hi]
    | none =>
      simp only
      rw [idxP_append, hi]
      simp [idxP]
theorem litV_app {v : List Bool} {a : Nat} (h : a / 2 < v.length) (e : List Bool) : litV (v ++ e) a = litV v a := by
  unfold litV
  rw [List.getD_eq_getElem?_getD, List.getD_eq_getElem?_getD, List.getElem?_append_left h]
theorem valsA_pre : ∀ (l : List (Int × Int)) (v : List Bool), ∃ e, valsA l v = v ++ e
  | [], v => ⟨[], by simp [valsA]⟩
  | p :: ps, v => by
    obtain ⟨e, he⟩ := valsA_pre ps (v ++ [litV v p.1.toNat && litV v p.2.toNat])
    exact ⟨[litV v p.1.toNat && litV v p.2.toNat] ++ e, by rw [valsA, he, List.append_assoc]⟩
theorem valsA_lit (l : List (Int × Int)) {v : List Bool} {a : Nat} (h : a / 2 < v.length) : litV (valsA l v) a = litV v a := by
  obtain ⟨e, he⟩ := valsA_pre l v
  rw [he, litV_app h]
theorem litV_last (w : List Bool) (x : Bool) {n : Nat} (h : n = 2 * w.length) : litV (w ++ [x]) n = x := by
  subst h
  unfold litV
  have e1 : 2 * w.length / 2 = w.length := by omega
  have e2 : ¬ 2 * w.length % 2 = 1 := by omega
  rw [e1, List.getD_eq_getElem?_getD]
  simp [e2]
/-- An and's value. -/
theorem valsA_and {l : List (Int × Int)} {v : List Bool} {i : Nat} (hi : i < l.length) (h1 : l[i].1.toNat / 2 < v.length + i) (h2 : l[i].2.toNat / 2 < v.length + i) :
    litV (valsA l v) (2 * (v.length + i)) = (litV (valsA l v) l[i].1.toNat && litV (valsA l v) l[i].2.toNat) := by
  have e : l = l.take i ++ (l[i] :: l.drop (i + 1)) := by rw [← List.drop_eq_getElem_cons hi, List.take_append_drop]
  have hl : (valsA (l.take i) v).length = v.length + i := by rw [valsA_len, List.length_take]; omega
  have e2 : valsA l v = valsA (l.drop (i + 1)) (valsA (l.take i) v ++ [litV (valsA (l.take i) v) l[i].1.toNat && litV (valsA (l.take i) v) l[i].2.toNat]) := by
    conv => lhs; rw [e, valsA_append, valsA]
  generalize valsA (l.take i) v = w at *
  have s : ∀ c, c / 2 < w.length + 1 → litV (valsA l v) c = litV (w ++ [litV w l[i].1.toNat && litV w l[i].2.toNat]) c := fun c hc => by
    rw [e2]; exact valsA_lit _ (by rw [List.length_append]; exact hc)
  rw [s (2 * (v.length + i)) (by omega), s l[i].1.toNat (by omega), s l[i].2.toNat (by omega), litV_last _ _ (by omega), litV_app (by omega), litV_app (by omega)]
theorem litV_not {v : List Bool} {a : Nat} : litV v (a ^^^ 1) = !litV v a := by
  rw [xor1_nat]
  unfold litV
  split
  · rename_i h
    have e1 : (a + 1) / 2 = a / 2 := by omega
    have e2 : (a + 1) % 2 = 1 := by omega
    rw [e1]; simp [h, e2]
  · rename_i h
    have e1 : (a - 1) / 2 = a / 2 := by omega
    have e2 : ¬ (a - 1) % 2 = 1 := by omega
    have e3 : a % 2 = 1 := by omega
    rw [e1]; simp [e2, e3]
theorem litV_one {v : List Bool} (h : litV v 0 = false) : litV v 1 = true := by
  have := litV_not (v := v) (a := 0)
  rw [h] at this; exact this
/-- Ands that may be, behind so many numbers. -/
def WfA (first : Nat) (l : List (Int × Int)) : Prop := ∀ i (h : i < l.length), (0 ≤ l[i].1 ∧ l[i].1 < 2 * (first + i)) ∧ 0 ≤ l[i].2 ∧ l[i].2 < 2 * (first + i)
theorem WfA.push {first : Nat} {l : List (Int × Int)} (h : WfA first l) {p : Int × Int} (hp : (0 ≤ p.1 ∧ p.1 < 2 * (first + l.length)) ∧ 0 ≤ p.2 ∧ p.2 < 2 * (first + l.length)) : WfA first (l ++ [p]) := by
  intro i hi
  by_cases h2 : i < l.length
  · rw [List.getElem_append_left h2]; exact h i h2
  · have e : i = l.length := by simp at hi; omega
    subst e
    simp only [List.getElem_append_right (Nat.le_refl _), Nat.sub_self, List.getElem_cons_zero]
    omega
theorem WfA.and {first : Nat} {l : List (Int × Int)} (h : WfA first l) {a b : Nat} (ha : a < 2 * (first + l.length)) (hb : b < 2 * (first + l.length)) : WfA first (andG first l a b).1 := by
  unfold andG
  split
  · exact h
  · split
    · exact h
    · refine h.push ?_
      have := Nat.max_lt.2 ⟨ha, hb⟩
      have : min a b ≤ max a b := by omega
      simp only
      omega
/-- The literal is both. -/
theorem andG_val {first : Nat} {l : List (Int × Int)} {v : List Bool} (hv : v.length = first) (hz : litV v 0 = false) (h1 : 1 ≤ first) (wf : WfA first l) {a b : Nat} (ha : a < 2 * (first + l.length)) (hb : b < 2 * (first + l.length)) :
    litV (valsA (andG first l a b).1 v) (andG first l a b).2 = (litV (valsA l v) a && litV (valsA l v) b) := by
  have hz2 : litV (valsA l v) 0 = false := by rw [valsA_lit _ (by omega)]; exact hz
  have hM : max a b < 2 * (first + l.length) := Nat.max_lt.2 ⟨ha, hb⟩
  have hm : min a b < 2 * (first + l.length) := by omega
  have hL : (valsA l v).length = first + l.length := by rw [valsA_len, hv]
  have key : (litV (valsA l v) a && litV (valsA l v) b) = (litV (valsA l v) (max a b) && litV (valsA l v) (min a b)) := by
    rcases Nat.le_total a b with h | h
    · rw [Nat.max_eq_right h, Nat.min_eq_left h, Bool.and_comm]
    · rw [Nat.max_eq_left h, Nat.min_eq_right h]
  rw [key]
  unfold andG
  generalize max a b = p at *
  generalize min a b = q at *
  cases hk : andK p q with
  | some c =>
    simp only
    unfold andK at hk
    split at hk
    · rename_i h2
      cases hk
      rw [hz2]
      rcases h2 with rfl | rfl
      · rw [hz2, Bool.and_false]
      · rw [litV_not]; cases litV (valsA l v) p <;> rfl
    · split at hk
      · rename_i h2
        cases hk
        rcases h2 with rfl | rfl
        · rw [litV_one hz2, Bool.and_true]
        · rw [Bool.and_self]
      · cases hk
  | none =>
    simp only
    cases hi : idxP ((p : Int), (q : Int)) l 0 with
    | some i =>
      simp only
      obtain ⟨_, h2, h3⟩ := idxP_some hi
      simp only [Nat.sub_zero] at h2 h3
      have hw := wf i h2
      have := valsA_and (v := v) h2 (by omega) (by omega)
      rw [hv, h3] at this
      exact this
    | none =>
      simp only
      rw [valsA_append, valsA, valsA]
      rw [litV_last _ _ (by omega)]
      rfl
theorem andG_old {first : Nat} {l : List (Int × Int)} {v : List Bool} (hv : v.length = first) {a b c : Nat} (hc : c < 2 * (first + l.length)) : litV (valsA (andG first l a b).1 v) c = litV (valsA l v) c := by
  obtain ⟨e, he⟩ := andG_ext first l a b
  rw [he, valsA_append, valsA_lit _ (by rw [valsA_len]; omega)]
theorem sameG_refl (a : Gr) : sameG a a = true := by simp [sameG]

/-! ### And, of graphs -/
theorem andR_comm (g : Gr) (a b : Int) : g.andE a b = g.andE b a ∧ g.andR a b = g.andR b a ∧ g.andC a b = g.andC b a := by
  have e : g.andE a b = g.andE b a := by
    unfold Gr.andE
    rw [andG_comm g.first g.ands a.toNat b.toNat]
    by_cases hx : litB g.lits a = true <;> by_cases hy : litB g.lits b = true <;> simp [hx, hy]
  refine ⟨e, ?_, ?_⟩
  · unfold Gr.andR; rw [e, andG_comm]
  · unfold Gr.andC; rw [e, andG_comm]
/-- What is known where And is well. -/
structure AndOk (g : Gr) (a b : Int) : Prop where
  ok : g.Ok
  a1 : 0 ≤ a ∧ a < g.lits
  b1 : 0 ≤ b ∧ b < g.lits
  R : g.andR a b = g.ofA (andG g.first g.ands a.toNat b.toNat).1
  C : g.andC a b = (andG g.first g.ands a.toNat b.toNat).2
  ok2 : (g.andR a b).Ok
  lt : g.andC a b < (g.andR a b).lits
  le : g.lits ≤ (g.andR a b).lits
theorem andOk {g : Gr} {a b : Int} (h : g.andE a b = 0) : AndOk g a b := by
  have hR : g.andR a b = g.ofA (andG g.first g.ands a.toNat b.toNat).1 := by unfold Gr.andR; rw [if_pos h]
  have hC : g.andC a b = (andG g.first g.ands a.toNat b.toNat).2 := by unfold Gr.andC; rw [if_pos h]
  unfold Gr.andE at h
  split at h
  · contradiction
  · rename_i hc
    have ok := Gr.ok_of (Decidable.not_not.1 hc)
    split at h
    · cases h
    · rename_i hl
      rw [not_or] at hl
      obtain ⟨a1, a2⟩ := hl
      simp [litB] at a1 a2
      split at h
      · cases h
      · rename_i hs
        have hlits : g.lits = 2 * (g.first + g.ands.length) := rfl
        have ha : a.toNat < 2 * (g.first + g.ands.length) := by omega
        have hb : b.toNat < 2 * (g.first + g.ands.length) := by omega
        have h1 : 1 ≤ g.first := by unfold Gr.first; omega
        obtain ⟨l1, l2⟩ := andG_lt ha hb h1
        have wf : WfA g.first (andG g.first g.ands a.toNat b.toNat).1 := WfA.and ok.ands ha hb
        have hl2 : (g.ofA (andG g.first g.ands a.toNat b.toNat).1).lits = 2 * (g.first + (andG g.first g.ands a.toNat b.toNat).1.length) := rfl
        refine ⟨ok, by omega, by omega, hR, hC, ?_, ?_, ?_⟩
        · rw [hR]
          refine ⟨ok.ins, by simp only; omega, ok.outsL, ok.same, ok.init, fun x hx => ?_, fun x hx => ?_, wf⟩
          · rw [hl2]; have := ok.next x hx; omega
          · rw [hl2]; have := ok.outs x hx; omega
        · rw [hC, hR, hl2]; exact l1
        · rw [hR, hl2, hlits]; omega
theorem AndOk.vals {g : Gr} {a b : Int} (h : AndOk g a b) (state ins : List Bool) : (g.andR a b).valuesE state ins = g.valuesE state ins := by
  unfold Gr.valuesE
  rw [Gr.check_of h.ok, Gr.check_of h.ok2]
  have e : (g.andR a b).fits state ins = g.fits state ins := by rw [h.R]; rfl
  rw [e]
theorem AndOk.value {g : Gr} {a b : Int} (h : AndOk g a b) {state ins : List Bool} (hv : g.valuesE state ins = 0) :
    litV ((g.andR a b).vals state ins) (g.andC a b) = (litV (g.vals state ins) a.toNat && litV (g.vals state ins) b.toNat) ∧
    (∀ c : Nat, c < g.lits → litV ((g.andR a b).vals state ins) c = litV (g.vals state ins) c) ∧ ∃ e, (g.andR a b).vals state ins = g.vals state ins ++ e := by
  obtain ⟨ok, d1, d2⟩ := Gr.ok_E hv
  have o1 := ok.ins
  have hl : (false :: (ins ++ state)).length = g.first := by simp [Gr.first]; omega
  have hlits : g.lits = 2 * (g.first + g.ands.length) := rfl
  have ha := h.a1
  have hb := h.b1
  unfold Gr.vals
  rw [h.R, h.C]
  refine ⟨andG_val hl (by simp [litV]) (by unfold Gr.first; omega) ok.ands (by omega) (by omega), fun c hc => andG_old hl (by omega), ?_⟩
  obtain ⟨e, he⟩ := andG_ext g.first g.ands a.toNat b.toNat
  simp only
  rw [he, valsA_append]
  exact valsA_pre e _
theorem AndOk.again {g : Gr} {a b : Int} (h : AndOk g a b) : (g.andR a b).andE a b = 0 ∧ (g.andR a b).andC a b = g.andC a b ∧ (g.andR a b).andR a b = g.andR a b := by
  have hA : andG (g.andR a b).first (g.andR a b).ands a.toNat b.toNat = andG g.first g.ands a.toNat b.toNat := by
    rw [h.R]; exact andG_again _ _ _ _
  have ha := h.a1
  have hb := h.b1
  have hle := h.le
  have hE : (g.andR a b).andE a b = 0 := by
    unfold Gr.andE
    rw [Gr.check_of h.ok2, hA, if_neg (by simp), if_neg (by simp [litB]; omega), if_neg]
    have := h.ok2.sum
    rw [h.R] at this
    rw [h.R]
    simp only at this ⊢
    omega
  refine ⟨hE, ?_, ?_⟩
  · rw [(andOk hE).C, hA, h.C]
  · rw [(andOk hE).R, hA, h.R]
end Go.Proofs.Ytdmedcdloeljeaa
/- The law: AigMeans. -/
namespace Go.Proofs.Ytdmedcdloeljeaa
open Go.AM Go.Proofs
variable {Γ : Nat → Option AV}
set_option linter.unusedSimpArgs false
set_option linter.unusedVariables false

theorem Gr.Ok.few {g : Gr} (h : g.Ok) : g.few := by
  have h1 := h.ins; have h2 := h.sum; have h3 := h.outsL; have h4 := h.same
  unfold Gr.few; omega
theorem gr0_few : gr0.few := by unfold Gr.few gr0; decide
theorem andR_few (g : Gr) (a b : Int) : (g.andR a b).few := by
  by_cases h : g.andE a b = 0
  · exact (andOk h).ok2.few
  · unfold Gr.andR; rw [if_neg h]; exact gr0_few
theorem Gr.values_few {g : Gr} (hf : g.few) {state ins : List Bool} (h1 : state.length < 2 ^ 40) (h2 : ins.length < 2 ^ 40) : (g.values state ins).length < 2 ^ 60 := by
  unfold Gr.values; split
  · rw [g.vals_len]; have := hf.2.2.1; omega
  · simp

abbrev obG (x : Gr) : Ob := .cells [.int .i64 x.ins, .list false x.kn (x.next.map i64), .list false x.ki (x.init.map i64), .list false x.ka (x.ands.map ePr), .list false x.ko (x.outs.map i64)]
abbrev obR1 : Ob := .row 1 t_int [] none true false
abbrev obR2 : Ob := .row 2 t_2_int_2 [] none true false
abbrev obB (v : List Bool) : Ob := .row 1 t_bool (v.map .bool) none true false

set_option maxHeartbeats 2000000 in
set_option maxRecDepth 8000 in
theorem l_AigMeans (g : Gr) (a b : Int) (state ins : List Bool) {ks ki : Nat} (hs : Kd 1 ks state) (hi : Kd 1 ki ins) :
    PureCon Try.prog Γ n_w09_AigMeans [eGr g, .int .i64 a, .int .i64 b, .list false ks (state.map .bool), .list false ki (ins.map .bool)] (.bool true) := by
  refine .run 60 c_w09_AigMeans (by simp) ?_
  simp
  refine .call 60 (by simp) p_w09_works ?_
  simp
  refine .call 60 (by simp) (p_w09_Few g) ?_
  cases hF : g.fewB with
  | false => simp; exact .back (by simp)
  | true =>
    have hf := Gr.fewB_few hF
    by_cases h1 : 60 < state.length
    · simp [h1]; exact .back (by simp)
    · by_cases h2 : 60 < ins.length
      · simp [h1, h2]; exact .back (by simp)
      · simp [h1, h2]
        obtain ⟨ce, cr, cc⟩ := andR_comm g b a
        have hA2 := p_aig_And (Γ := Γ) g hf b a
        rw [ce, cr, cc] at hA2
        have hxf := andR_few g a b
        refine .call 60 (by simp) (p_aig_And g hf a b) ?_
        simp
        refine .call 60 (by simp) hA2 ?_
        have hVg := p_aig_Values (Γ := Γ) g hf state ins hs hi (by omega) (by omega)
        have hVx := p_aig_Values (Γ := Γ) (g.andR a b) hxf state ins hs hi (by omega) (by omega)
        by_cases hE : g.andE a b = 0
        · have A := andOk hE
          rw [A.vals] at hVx
          have hsame := p_aig_Same (Γ := Γ) (g.andR a b) (g.andR a b) hxf
          rw [sameG_refl] at hsame
          simp [hE]
          refine .call 60 (by simp) hsame ?_
          simp [hE]
          refine .call 60 (by simp) hVg ?_
          simp [hE]
          refine .call 60 (by simp) hVx ?_
          by_cases hV : g.valuesE state ins = 0
          · simp [hE, hV]
            have e1 : g.values state ins = g.vals state ins := by unfold Gr.values; rw [if_pos hV]
            have e2 : (g.andR a b).values state ins = (g.andR a b).vals state ins := by unfold Gr.values; rw [A.vals, if_pos hV]
            obtain ⟨v1, v2, v3⟩ := A.value hV
            obtain ⟨g1, g2, g3⟩ := A.again
            have hA3 := p_aig_And (Γ := Γ) (g.andR a b) hxf a b
            rw [g1, g2, g3] at hA3
            obtain ⟨ok, d1, d2⟩ := Gr.ok_E hV
            have o1 := ok.ins
            have o3 := ok.sum
            have ha := A.a1
            have hb := A.b1
            have hlt := A.lt
            have hvl := g.vals_len state ins
            have hlit : g.lits = 2 * (g.vals state ins).length := by rw [hvl]; simp [Gr.lits, Gr.all, Gr.first]; omega
            have hwl := (g.andR a b).vals_len state ins
            have hlit2 : (g.andR a b).lits = 2 * ((g.andR a b).vals state ins).length := by rw [hwl, A.R]; simp [Gr.lits, Gr.all, Gr.first]; omega
            have hok2 := A.ok2.sum
            have hok3 := A.ok2.ins
            rw [e1, e2]
            clear e1 e2 hVg hVx
            generalize g.vals state ins = v at *
            generalize (g.andR a b).vals state ins = w at *
            obtain ⟨x, hx⟩ := Int.eq_ofNat_of_zero_le ha.1
            obtain ⟨y, hy⟩ := Int.eq_ofNat_of_zero_le hb.1
            subst hx hy
            simp only [Int.toNat_natCast] at v1
            have cp := p_r09_Lit (Γ := Γ) v x (by omega) (by omega)
            have cq := p_r09_Lit (Γ := Γ) v y (by omega) (by omega)
            have cw := p_r09_Lit (Γ := Γ) w (g.andC x y) (by omega) (by omega)
            rw [v1] at cw
            generalize g.andC (x : Int) (y : Int) = c at *
            generalize g.andR (x : Int) (y : Int) = X at *
            have key : ∀ n i : Nat, i + n = v.length → Fins Try.prog Γ (w09_AigMeans_L5 (.int .i64 x) (.int .i64 y) (.bool true) (.ptr 1 0) (.int .i64 c) (.sl 11 0 v.length) (.sl 12 0 w.length) (.int .i64 i)
                [obG g, obG X, obR1, obR1, obR2, obR1, obG X, obR1, obR1, obR2, obR1, obB v, obB w]) (.ret (.bool true)) := by
              intro n
              induction n with
              | zero =>
                intro i hi
                have q1 : ¬ i < v.length := by omega
                refine .go 60 ?_
                simp [q1]
                refine .call 60 (by simp) hA3 ?_
                simp
                refine .call 60 (by simp) cp ?_
                simp
                refine .call 60 (by simp) cq ?_
                simp
                refine .call 60 (by simp) cw ?_
                cases litV v x <;> cases litV v y <;> simp
                all_goals
                  refine .call 60 (by simp) hsame ?_
                  simp
                  exact .back (by simp)
              | succ n ih =>
                intro i hi
                have q1 : i < v.length := by omega
                obtain ⟨e, he⟩ := v3
                have q2 : i < w.length := by rw [he]; simp; omega
                have q3 : w[i] = v[i] := by subst he; rw [List.getElem_append_left q1]
                refine .go 60 ?_
                simp (disch := omega) [q1, q2, q3]
                refine .reLoop ?_
                have hh := ih (i + 1) (by omega)
                simp at hh ⊢
                exact hh
            refine .inLoop ?_
            have hh := key v.length 0 (by omega)
            simp at hh ⊢
            exact hh
          · simp [hE, hV]
            exact .back (by simp)
        · have hc : g.andC a b = 0 := by unfold Gr.andC; rw [if_neg hE]
          simp [hE, hc]
          refine .call 60 (by simp) hVg ?_
          simp [hE, hc]
          refine .call 60 (by simp) hVx ?_
          simp [hE, hc]
          exact .back (by simp)
end Go.Proofs.Ytdmedcdloeljeaa
/- AigMeans: the law returns true, and it reads as it did. -/
namespace Go.Proofs.Ytdmedcdloeljeaa
open Go.AM Go.Proofs Go.ChangeShapes Go.WideShapes Go.ChangeAt Go.RowKit

set_option maxRecDepth 100000 in
theorem aigMeans_lifted (os : Os) (started : os.Started) (H : Type) (enc : TypeId × Value → H) :
    ReturnsInHanded {} Try.checked os n_w09_AigMeans .any (Rows.aigMeansSpec.pre6 enc Try.prog Try.f5 Rows.aigMeansRow.domain false) (Rows.aigMeansSpec.post enc Try.prog Try.f5 false true false false) := by
  refine returnsInHanded_of_change_shaped (C := Try.checked) own started (by kernel_rfl) Try.func5
    (ChangeSpec.witness6 (enc := enc) (C := Try.checked) false ⟨#[], #[.agg #[.int .i64 0, .slice none 0 0, .slice none 0 0, .slice none 0 0, .slice none 0 0], .int .i64 0, .int .i64 0, .slice none 0 0, .slice none 0 0], []⟩ 8 (by kernel_rfl) (by kernel_rfl) (by kernel_rfl) (by kernel_rfl)) ?_
  intro W base args ds gs before hval hW _ _ hsh _
  refine law_callsQ Down.any (Γ := ΓW) (shs := [(true, shGr), (false, shI), (false, shI), (false, shBs), (false, shBs)]) laid mapsR (tb := 4) (by kernel_rfl) Try.underlying4 (of_decide_eq_true (by kernel_rfl)) (by kernel_rfl) rfl ?_ ΓW_ok ?_ hval hW (fun _ _ => trivial)
  · intro ds hds
    match ds, hds with
    | [d1, d2, d3, d4, d5], _ => exact ⟨rfl, rfl, rfl⟩
  · intro xs has
    simp only [IsArgs] at has
    obtain ⟨_, _, rfl, h1, _, _, _, rfl, h2, _, _, _, rfl, h3, _, _, _, rfl, h4, _, _, _, rfl, h5, _, rfl⟩ := has
    obtain ⟨a1, l1, l1f⟩ := dec_gr h1
    obtain ⟨a2, rfl, l2⟩ := dec_int h2
    obtain ⟨a3, rfl, l3⟩ := dec_int h3
    obtain ⟨a4, rfl, l4⟩ := dec_bools h4
    obtain ⟨a5, rfl, l5⟩ := dec_bools h5
    simp only [mkA, l1]
    exact l_AigMeans a1 a2 a3 a4 a5 .self .self

theorem aigMeans_holds : Rows.AigMeansSaid :=
  OpenClaim.holds_of_wide 5 Try.f5 rfl rfl rfl rfl rfl rfl rfl ⟨rfl, rfl, rfl, rfl, rfl⟩ rfl rfl rfl rfl rfl (by kernel_rfl) Try.func5 (by kernel_rfl)
    (of_decide_eq_true (by kernel_rfl)) (by unfold Func.isWrapper; first | (rw [if_pos (by decide +kernel)]; kernel_rfl) | (rw [if_neg (by decide +kernel)]; exact ⟨rfl, rfl⟩))
    (fun os started H enc _ => aigMeans_lifted os started H enc)
#print axioms aigMeans_holds
end Go.Proofs.Ytdmedcdloeljeaa
