/- Graphs: what And's literal means; the laws of And. No program in sight. -/
import Derived.Test.YtdmedcdloeljeaaF
import Derived.Test.YtdmedcdloeljeaaT
set_option linter.unusedSimpArgs false
set_option linter.unusedVariables false
namespace Go.Proofs.Ytdmedcdloeljeaa
open Go.AM Go.Proofs
set_option linter.unusedSimpArgs false
set_option linter.unusedVariables false

theorem andsB_of {l : List (Int × Int)} {n : Nat} (h : ∀ i (hi : i < l.length), (0 ≤ l[i].1 ∧ l[i].1 < 2 * (n + i)) ∧ 0 ≤ l[i].2 ∧ l[i].2 < 2 * (n + i)) : andsB l n = false := by
  induction l generalizing n with
  | nil => rfl
  | cons p l ih =>
    have h0 := h 0 (by simp)
    simp only [List.getElem_cons_zero] at h0
    simp only [andsB, Bool.or_eq_false_iff, litB, decide_eq_false_iff_not]
    refine ⟨by omega, ih fun i hi => ?_⟩
    have := h (i + 1) (by simpa using hi)
    simp only [List.getElem_cons_succ] at this
    omega
theorem Gr.check_of {g : Gr} (ok : g.Ok) : g.check = 0 := by
  obtain ⟨h1, h2, h3, h4, h5, h6, h7, h8⟩ := ok
  unfold Gr.check
  have e1 : g.lim = false := by simp [Gr.lim]; omega
  have e2 : anyB iniB g.init = false := anyB_no.2 fun a ha => by have := h5 a ha; simp [iniB]; omega
  have e3 : anyB (litB g.lits) g.next = false := anyB_no.2 fun a ha => by have := h6 a ha; simp [litB]; omega
  have e4 : anyB (litB g.lits) g.outs = false := anyB_no.2 fun a ha => by have := h7 a ha; simp [litB]; omega
  simp [e1, e2, e3, e4, h4, andsB_of h8]

theorem andG_comm (first : Nat) (l : List (Int × Int)) (a b : Nat) : andG first l a b = andG first l b a := by
  unfold andG
  rw [Nat.max_comm b a, Nat.min_comm b a]
theorem andG_ext (first : Nat) (l : List (Int × Int)) (a b : Nat) : ∃ e, (andG first l a b).1 = l ++ e := by
  unfold andG
  split
  · exact ⟨[], by simp⟩
  · split
    · exact ⟨[], by simp⟩
    · exact ⟨_, rfl⟩
/-- Again: the same. -/
theorem andG_again (first : Nat) (l : List (Int × Int)) (a b : Nat) : andG first (andG first l a b).1 a b = andG first l a b := by
  unfold andG
  cases hk : andK (max a b) (min a b) with
  | some c => rfl
  | none =>
    simp only
    cases hi : idxP (((max a b : Nat) : Int), ((min a b : Nat) : Int)) l 0 with
    | some i => simp only [hi]
    | none =>
      simp only
      rw [idxP_append, hi]
      simp [idxP]
theorem litV_app {v : List Bool} {a : Nat} (h : a / 2 < v.length) (e : List Bool) : litV (v ++ e) a = litV v a := by
  unfold litV
  rw [List.getD_eq_getElem?_getD, List.getD_eq_getElem?_getD, List.getElem?_append_left h]
theorem valsA_pre : ∀ (l : List (Int × Int)) (v : List Bool), ∃ e, valsA l v = v ++ e
  | [], v => ⟨[], by simp [valsA]⟩
  | p :: ps, v => by
    obtain ⟨e, he⟩ := valsA_pre ps (v ++ [litV v p.1.toNat && litV v p.2.toNat])
    exact ⟨[litV v p.1.toNat && litV v p.2.toNat] ++ e, by rw [valsA, he, List.append_assoc]⟩
theorem valsA_lit (l : List (Int × Int)) {v : List Bool} {a : Nat} (h : a / 2 < v.length) : litV (valsA l v) a = litV v a := by
  obtain ⟨e, he⟩ := valsA_pre l v
  rw [he, litV_app h]
theorem litV_last (w : List Bool) (x : Bool) {n : Nat} (h : n = 2 * w.length) : litV (w ++ [x]) n = x := by
  subst h
  unfold litV
  have e1 : 2 * w.length / 2 = w.length := by omega
  have e2 : ¬ 2 * w.length % 2 = 1 := by omega
  rw [e1, List.getD_eq_getElem?_getD]
  simp [e2]
/-- An and's value. -/
theorem valsA_and {l : List (Int × Int)} {v : List Bool} {i : Nat} (hi : i < l.length) (h1 : l[i].1.toNat / 2 < v.length + i) (h2 : l[i].2.toNat / 2 < v.length + i) :
    litV (valsA l v) (2 * (v.length + i)) = (litV (valsA l v) l[i].1.toNat && litV (valsA l v) l[i].2.toNat) := by
  have e : l = l.take i ++ (l[i] :: l.drop (i + 1)) := by rw [← List.drop_eq_getElem_cons hi, List.take_append_drop]
  have hl : (valsA (l.take i) v).length = v.length + i := by rw [valsA_len, List.length_take]; omega
  have e2 : valsA l v = valsA (l.drop (i + 1)) (valsA (l.take i) v ++ [litV (valsA (l.take i) v) l[i].1.toNat && litV (valsA (l.take i) v) l[i].2.toNat]) := by
    conv => lhs; rw [e, valsA_append, valsA]
  generalize valsA (l.take i) v = w at *
  have s : ∀ c, c / 2 < w.length + 1 → litV (valsA l v) c = litV (w ++ [litV w l[i].1.toNat && litV w l[i].2.toNat]) c := fun c hc => by
    rw [e2]; exact valsA_lit _ (by rw [List.length_append]; exact hc)
  rw [s (2 * (v.length + i)) (by omega), s l[i].1.toNat (by omega), s l[i].2.toNat (by omega), litV_last _ _ (by omega), litV_app (by omega), litV_app (by omega)]
theorem litV_not {v : List Bool} {a : Nat} : litV v (a ^^^ 1) = !litV v a := by
  rw [xor1_nat]
  unfold litV
  split
  · rename_i h
    have e1 : (a + 1) / 2 = a / 2 := by omega
    have e2 : (a + 1) % 2 = 1 := by omega
    rw [e1]; simp [h, e2]
  · rename_i h
    have e1 : (a - 1) / 2 = a / 2 := by omega
    have e2 : ¬ (a - 1) % 2 = 1 := by omega
    have e3 : a % 2 = 1 := by omega
    rw [e1]; simp [e2, e3]
theorem litV_one {v : List Bool} (h : litV v 0 = false) : litV v 1 = true := by
  have := litV_not (v := v) (a := 0)
  rw [h] at this; exact this
/-- Ands that may be, behind so many numbers. -/
def WfA (first : Nat) (l : List (Int × Int)) : Prop := ∀ i (h : i < l.length), (0 ≤ l[i].1 ∧ l[i].1 < 2 * (first + i)) ∧ 0 ≤ l[i].2 ∧ l[i].2 < 2 * (first + i)
theorem WfA.push {first : Nat} {l : List (Int × Int)} (h : WfA first l) {p : Int × Int} (hp : (0 ≤ p.1 ∧ p.1 < 2 * (first + l.length)) ∧ 0 ≤ p.2 ∧ p.2 < 2 * (first + l.length)) : WfA first (l ++ [p]) := by
  intro i hi
  by_cases h2 : i < l.length
  · rw [List.getElem_append_left h2]; exact h i h2
  · have e : i = l.length := by simp at hi; omega
    subst e
    simp only [List.getElem_append_right (Nat.le_refl _), Nat.sub_self, List.getElem_cons_zero]
    omega
theorem WfA.and {first : Nat} {l : List (Int × Int)} (h : WfA first l) {a b : Nat} (ha : a < 2 * (first + l.length)) (hb : b < 2 * (first + l.length)) : WfA first (andG first l a b).1 := by
  unfold andG
  split
  · exact h
  · split
    · exact h
    · refine h.push ?_
      have := Nat.max_lt.2 ⟨ha, hb⟩
      have : min a b ≤ max a b := by omega
      simp only
      omega
/-- The literal is both. -/
theorem andG_val {first : Nat} {l : List (Int × Int)} {v : List Bool} (hv : v.length = first) (hz : litV v 0 = false) (h1 : 1 ≤ first) (wf : WfA first l) {a b : Nat} (ha : a < 2 * (first + l.length)) (hb : b < 2 * (first + l.length)) :
    litV (valsA (andG first l a b).1 v) (andG first l a b).2 = (litV (valsA l v) a && litV (valsA l v) b) := by
  have hz2 : litV (valsA l v) 0 = false := by rw [valsA_lit _ (by omega)]; exact hz
  have hM : max a b < 2 * (first + l.length) := Nat.max_lt.2 ⟨ha, hb⟩
  have hm : min a b < 2 * (first + l.length) := by omega
  have hL : (valsA l v).length = first + l.length := by rw [valsA_len, hv]
  have key : (litV (valsA l v) a && litV (valsA l v) b) = (litV (valsA l v) (max a b) && litV (valsA l v) (min a b)) := by
    rcases Nat.le_total a b with h | h
    · rw [Nat.max_eq_right h, Nat.min_eq_left h, Bool.and_comm]
    · rw [Nat.max_eq_left h, Nat.min_eq_right h]
  rw [key]
  unfold andG
  generalize max a b = p at *
  generalize min a b = q at *
  cases hk : andK p q with
  | some c =>
    simp only
    unfold andK at hk
    split at hk
    · rename_i h2
      cases hk
      rw [hz2]
      rcases h2 with rfl | rfl
      · rw [hz2, Bool.and_false]
      · rw [litV_not]; cases litV (valsA l v) p <;> rfl
    · split at hk
      · rename_i h2
        cases hk
        rcases h2 with rfl | rfl
        · rw [litV_one hz2, Bool.and_true]
        · rw [Bool.and_self]
      · cases hk
  | none =>
    simp only
    cases hi : idxP ((p : Int), (q : Int)) l 0 with
    | some i =>
      simp only
      obtain ⟨_, h2, h3⟩ := idxP_some hi
      simp only [Nat.sub_zero] at h2 h3
      have hw := wf i h2
      have := valsA_and (v := v) h2 (by omega) (by omega)
      rw [hv, h3] at this
      exact this
    | none =>
      simp only
      rw [valsA_append, valsA, valsA]
      rw [litV_last _ _ (by omega)]
      rfl
theorem andG_old {first : Nat} {l : List (Int × Int)} {v : List Bool} (hv : v.length = first) {a b c : Nat} (hc : c < 2 * (first + l.length)) : litV (valsA (andG first l a b).1 v) c = litV (valsA l v) c := by
  obtain ⟨e, he⟩ := andG_ext first l a b
  rw [he, valsA_append, valsA_lit _ (by rw [valsA_len]; omega)]
theorem sameG_refl (a : Gr) : sameG a a = true := by simp [sameG]

/-! ### And, of graphs -/
theorem andR_comm (g : Gr) (a b : Int) : g.andE a b = g.andE b a ∧ g.andR a b = g.andR b a ∧ g.andC a b = g.andC b a := by
  have e : g.andE a b = g.andE b a := by
    unfold Gr.andE
    rw [andG_comm g.first g.ands a.toNat b.toNat]
    by_cases hx : litB g.lits a = true <;> by_cases hy : litB g.lits b = true <;> simp [hx, hy]
  refine ⟨e, ?_, ?_⟩
  · unfold Gr.andR; rw [e, andG_comm]
  · unfold Gr.andC; rw [e, andG_comm]
/-- What is known where And is well. -/
structure AndOk (g : Gr) (a b : Int) : Prop where
  ok : g.Ok
  a1 : 0 ≤ a ∧ a < g.lits
  b1 : 0 ≤ b ∧ b < g.lits
  R : g.andR a b = g.ofA (andG g.first g.ands a.toNat b.toNat).1
  C : g.andC a b = (andG g.first g.ands a.toNat b.toNat).2
  ok2 : (g.andR a b).Ok
  lt : g.andC a b < (g.andR a b).lits
  le : g.lits ≤ (g.andR a b).lits
theorem andOk {g : Gr} {a b : Int} (h : g.andE a b = 0) : AndOk g a b := by
  have hR : g.andR a b = g.ofA (andG g.first g.ands a.toNat b.toNat).1 := by unfold Gr.andR; rw [if_pos h]
  have hC : g.andC a b = (andG g.first g.ands a.toNat b.toNat).2 := by unfold Gr.andC; rw [if_pos h]
  unfold Gr.andE at h
  split at h
  · contradiction
  · rename_i hc
    have ok := Gr.ok_of (Decidable.not_not.1 hc)
    split at h
    · cases h
    · rename_i hl
      rw [not_or] at hl
      obtain ⟨a1, a2⟩ := hl
      simp [litB] at a1 a2
      split at h
      · cases h
      · rename_i hs
        have hlits : g.lits = 2 * (g.first + g.ands.length) := rfl
        have ha : a.toNat < 2 * (g.first + g.ands.length) := by omega
        have hb : b.toNat < 2 * (g.first + g.ands.length) := by omega
        have h1 : 1 ≤ g.first := by unfold Gr.first; omega
        obtain ⟨l1, l2⟩ := andG_lt ha hb h1
        have wf : WfA g.first (andG g.first g.ands a.toNat b.toNat).1 := WfA.and ok.ands ha hb
        have hl2 : (g.ofA (andG g.first g.ands a.toNat b.toNat).1).lits = 2 * (g.first + (andG g.first g.ands a.toNat b.toNat).1.length) := rfl
        refine ⟨ok, by omega, by omega, hR, hC, ?_, ?_, ?_⟩
        · rw [hR]
          refine ⟨ok.ins, by simp only; omega, ok.outsL, ok.same, ok.init, fun x hx => ?_, fun x hx => ?_, wf⟩
          · rw [hl2]; have := ok.next x hx; omega
          · rw [hl2]; have := ok.outs x hx; omega
        · rw [hC, hR, hl2]; exact l1
        · rw [hR, hl2, hlits]; omega
theorem AndOk.vals {g : Gr} {a b : Int} (h : AndOk g a b) (state ins : List Bool) : (g.andR a b).valuesE state ins = g.valuesE state ins := by
  unfold Gr.valuesE
  rw [Gr.check_of h.ok, Gr.check_of h.ok2]
  have e : (g.andR a b).fits state ins = g.fits state ins := by rw [h.R]; rfl
  rw [e]
theorem AndOk.value {g : Gr} {a b : Int} (h : AndOk g a b) {state ins : List Bool} (hv : g.valuesE state ins = 0) :
    litV ((g.andR a b).vals state ins) (g.andC a b) = (litV (g.vals state ins) a.toNat && litV (g.vals state ins) b.toNat) ∧
    (∀ c : Nat, c < g.lits → litV ((g.andR a b).vals state ins) c = litV (g.vals state ins) c) ∧ ∃ e, (g.andR a b).vals state ins = g.vals state ins ++ e := by
  obtain ⟨ok, d1, d2⟩ := Gr.ok_E hv
  have o1 := ok.ins
  have hl : (false :: (ins ++ state)).length = g.first := by simp [Gr.first]; omega
  have hlits : g.lits = 2 * (g.first + g.ands.length) := rfl
  have ha := h.a1
  have hb := h.b1
  unfold Gr.vals
  rw [h.R, h.C]
  refine ⟨andG_val hl (by simp [litV]) (by unfold Gr.first; omega) ok.ands (by omega) (by omega), fun c hc => andG_old hl (by omega), ?_⟩
  obtain ⟨e, he⟩ := andG_ext g.first g.ands a.toNat b.toNat
  simp only
  rw [he, valsA_append]
  exact valsA_pre e _
theorem AndOk.again {g : Gr} {a b : Int} (h : AndOk g a b) : (g.andR a b).andE a b = 0 ∧ (g.andR a b).andC a b = g.andC a b ∧ (g.andR a b).andR a b = g.andR a b := by
  have hA : andG (g.andR a b).first (g.andR a b).ands a.toNat b.toNat = andG g.first g.ands a.toNat b.toNat := by
    rw [h.R]; exact andG_again _ _ _ _
  have ha := h.a1
  have hb := h.b1
  have hle := h.le
  have hE : (g.andR a b).andE a b = 0 := by
    unfold Gr.andE
    rw [Gr.check_of h.ok2, hA, if_neg (by simp), if_neg (by simp [litB]; omega), if_neg]
    have := h.ok2.sum
    rw [h.R] at this
    rw [h.R]
    simp only at this ⊢
    omega
  refine ⟨hE, ?_, ?_⟩
  · rw [(andOk hE).C, hA, h.C]
  · rw [(andOk hE).R, hA, h.R]
end Go.Proofs.Ytdmedcdloeljeaa
/- The law: AigMeans. -/
namespace Go.Proofs.Ytdmedcdloeljeaa
open Go.AM Go.Proofs
variable {Γ : Nat → Option AV}
set_option linter.unusedSimpArgs false
set_option linter.unusedVariables false

theorem Gr.Ok.few {g : Gr} (h : g.Ok) : g.few := by
  have h1 := h.ins; have h2 := h.sum; have h3 := h.outsL; have h4 := h.same
  unfold Gr.few; omega
theorem gr0_few : gr0.few := by unfold Gr.few gr0; decide
theorem andR_few (g : Gr) (a b : Int) : (g.andR a b).few := by
  by_cases h : g.andE a b = 0
  · exact (andOk h).ok2.few
  · unfold Gr.andR; rw [if_neg h]; exact gr0_few
theorem Gr.values_few {g : Gr} (hf : g.few) {state ins : List Bool} (h1 : state.length < 2 ^ 40) (h2 : ins.length < 2 ^ 40) : (g.values state ins).length < 2 ^ 60 := by
  unfold Gr.values; split
  · rw [g.vals_len]; have := hf.2.2.1; omega
  · simp

abbrev obG (x : Gr) : Ob := .cells [.int .i64 x.ins, .list false x.kn (x.next.map i64), .list false x.ki (x.init.map i64), .list false x.ka (x.ands.map ePr), .list false x.ko (x.outs.map i64)]
abbrev obR1 : Ob := .row 1 t_int [] none true false
abbrev obR2 : Ob := .row 2 t_2_int_2 [] none true false
abbrev obB (v : List Bool) : Ob := .row 1 t_bool (v.map .bool) none true false

set_option maxHeartbeats 2000000 in
set_option maxRecDepth 8000 in
theorem l_AigMeans (g : Gr) (a b : Int) (state ins : List Bool) {ks ki : Nat} (hs : Kd 1 ks state) (hi : Kd 1 ki ins) :
    PureCon Try.prog Γ n_w09_AigMeans [eGr g, .int .i64 a, .int .i64 b, .list false ks (state.map .bool), .list false ki (ins.map .bool)] (.bool true) := by
  refine .run 60 c_w09_AigMeans (by simp) ?_
  simp
  refine .call 60 (by simp) p_w09_works ?_
  simp
  refine .call 60 (by simp) (p_w09_Few g) ?_
  cases hF : g.fewB with
  | false => simp; exact .back (by simp)
  | true =>
    have hf := Gr.fewB_few hF
    by_cases h1 : 60 < state.length
    · simp [h1]; exact .back (by simp)
    · by_cases h2 : 60 < ins.length
      · simp [h1, h2]; exact .back (by simp)
      · simp [h1, h2]
        obtain ⟨ce, cr, cc⟩ := andR_comm g b a
        have hA2 := p_aig_And (Γ := Γ) g hf b a
        rw [ce, cr, cc] at hA2
        have hxf := andR_few g a b
        refine .call 60 (by simp) (p_aig_And g hf a b) ?_
        simp
        refine .call 60 (by simp) hA2 ?_
        have hVg := p_aig_Values (Γ := Γ) g hf state ins hs hi (by omega) (by omega)
        have hVx := p_aig_Values (Γ := Γ) (g.andR a b) hxf state ins hs hi (by omega) (by omega)
        by_cases hE : g.andE a b = 0
        · have A := andOk hE
          rw [A.vals] at hVx
          have hsame := p_aig_Same (Γ := Γ) (g.andR a b) (g.andR a b) hxf
          rw [sameG_refl] at hsame
          simp [hE]
          refine .call 60 (by simp) hsame ?_
          simp [hE]
          refine .call 60 (by simp) hVg ?_
          simp [hE]
          refine .call 60 (by simp) hVx ?_
          by_cases hV : g.valuesE state ins = 0
          · simp [hE, hV]
            have e1 : g.values state ins = g.vals state ins := by unfold Gr.values; rw [if_pos hV]
            have e2 : (g.andR a b).values state ins = (g.andR a b).vals state ins := by unfold Gr.values; rw [A.vals, if_pos hV]
            obtain ⟨v1, v2, v3⟩ := A.value hV
            obtain ⟨g1, g2, g3⟩ := A.again
            have hA3 := p_aig_And (Γ := Γ) (g.andR a b) hxf a b
            rw [g1, g2, g3] at hA3
            obtain ⟨ok, d1, d2⟩ := Gr.ok_E hV
            have o1 := ok.ins
            have o3 := ok.sum
            have ha := A.a1
            have hb := A.b1
            have hlt := A.lt
            have hvl := g.vals_len state ins
            have hlit : g.lits = 2 * (g.vals state ins).length := by rw [hvl]; simp [Gr.lits, Gr.all, Gr.first]; omega
            have hwl := (g.andR a b).vals_len state ins
            have hlit2 : (g.andR a b).lits = 2 * ((g.andR a b).vals state ins).length := by rw [hwl, A.R]; simp [Gr.lits, Gr.all, Gr.first]; omega
            have hok2 := A.ok2.sum
            have hok3 := A.ok2.ins
            rw [e1, e2]
            clear e1 e2 hVg hVx
            generalize g.vals state ins = v at *
            generalize (g.andR a b).vals state ins = w at *
            obtain ⟨x, hx⟩ := Int.eq_ofNat_of_zero_le ha.1
            obtain ⟨y, hy⟩ := Int.eq_ofNat_of_zero_le hb.1
            subst hx hy
            simp only [Int.toNat_natCast] at v1
            have cp := p_r09_Lit (Γ := Γ) v x (by omega) (by omega)
            have cq := p_r09_Lit (Γ := Γ) v y (by omega) (by omega)
            have cw := p_r09_Lit (Γ := Γ) w (g.andC x y) (by omega) (by omega)
            rw [v1] at cw
            generalize g.andC (x : Int) (y : Int) = c at *
            generalize g.andR (x : Int) (y : Int) = X at *
            have key : ∀ n i : Nat, i + n = v.length → Fins Try.prog Γ (w09_AigMeans_L5 (.int .i64 x) (.int .i64 y) (.bool true) (.ptr 1 0) (.int .i64 c) (.sl 11 0 v.length) (.sl 12 0 w.length) (.int .i64 i)
                [obG g, obG X, obR1, obR1, obR2, obR1, obG X, obR1, obR1, obR2, obR1, obB v, obB w]) (.ret (.bool true)) := by
              intro n
              induction n with
              | zero =>
                intro i hi
                have q1 : ¬ i < v.length := by omega
                refine .go 60 ?_
                simp [q1]
                refine .call 60 (by simp) hA3 ?_
                simp
                refine .call 60 (by simp) cp ?_
                simp
                refine .call 60 (by simp) cq ?_
                simp
                refine .call 60 (by simp) cw ?_
                cases litV v x <;> cases litV v y <;> simp
                all_goals
                  refine .call 60 (by simp) hsame ?_
                  simp
                  exact .back (by simp)
              | succ n ih =>
                intro i hi
                have q1 : i < v.length := by omega
                obtain ⟨e, he⟩ := v3
                have q2 : i < w.length := by rw [he]; simp; omega
                have q3 : w[i] = v[i] := by subst he; rw [List.getElem_append_left q1]
                refine .go 60 ?_
                simp (disch := omega) [q1, q2, q3]
                refine .reLoop ?_
                have hh := ih (i + 1) (by omega)
                simp at hh ⊢
                exact hh
            refine .inLoop ?_
            have hh := key v.length 0 (by omega)
            simp at hh ⊢
            exact hh
          · simp [hE, hV]
            exact .back (by simp)
        · have hc : g.andC a b = 0 := by unfold Gr.andC; rw [if_neg hE]
          simp [hE, hc]
          refine .call 60 (by simp) hVg ?_
          simp [hE, hc]
          refine .call 60 (by simp) hVx ?_
          simp [hE, hc]
          exact .back (by simp)
end Go.Proofs.Ytdmedcdloeljeaa
/- Graphs: Normal of a strict graph is the graph; Normal does what the graph does. No program in sight. -/
namespace Go.Proofs.Ytdmedcdloeljeaa
open Go.AM Go.Proofs
set_option linter.unusedSimpArgs false
set_option linter.unusedVariables false

/-! ### A strict graph is itself -/
theorem AndsS.take {first : Nat} {l : List (Int × Int)} (h : AndsS first l) (i : Nat) : AndsS first (l.take i) := by
  refine ⟨fun j hj => ?_, h.nd.sublist (List.take_sublist i l)⟩
  have hj2 : j < l.length := by rw [List.length_take] at hj; omega
  rw [List.getElem_take]
  exact h.at_ j hj2
/-- An and that is new comes behind. -/
theorem andG_new {first : Nat} {l : List (Int × Int)} {p q : Nat} (h1 : 2 ≤ q) (h2 : q < p) (h3 : p / 2 ≠ q / 2) (h4 : (((p : Nat) : Int), ((q : Nat) : Int)) ∉ l) :
    andG first l p q = (l ++ [((p : Int), (q : Int))], 2 * (first + l.length)) := by
  unfold andG
  rw [Nat.max_eq_left (by omega), Nat.min_eq_right (by omega)]
  have hk : andK p q = none := by
    unfold andK
    have hx := xor1_nat p
    rw [if_neg, if_neg]
    · omega
    · rw [not_or]
      refine ⟨by omega, ?_⟩
      rw [hx]; split <;> omega
  rw [hk, idxP_none.2 h4]
theorem bec_ids {n a : Nat} (h : a / 2 < n) : bec (ids n) a = a := by
  have e1 : (ids n).getD (a / 2) 0 = 2 * (a / 2) := by
    rw [List.getD_eq_getElem?_getD, List.getElem?_eq_getElem (by simpa using h)]
    simp [ids]
  unfold bec
  rw [e1]
  rcases (show a % 2 = 0 ∨ a % 2 = 1 by omega) with h2 | h2
  · rw [h2, Nat.xor_zero]; omega
  · rw [h2, xor1_nat, if_pos (by omega)]; omega
theorem nodup_take {α : Type} {l : List α} (h : l.Nodup) {i : Nat} (hi : i < l.length) : l[i] ∉ l.take i := by
  intro hm
  have h2 : (l.take i ++ l.drop i).Nodup := by rw [List.take_append_drop]; exact h
  exact (List.nodup_append.1 h2).2.2 _ hm _ (by rw [List.drop_eq_getElem_cons hi]; exact List.mem_cons_self) rfl
theorem andG_self {first : Nat} {l : List (Int × Int)} (h : AndsS first l) {i : Nat} (hi : i < l.length) : andG first (l.take i) (bec (ids (first + i)) l[i].1.toNat) (bec (ids (first + i)) l[i].2.toNat) = (l.take (i + 1), 2 * (first + i)) := by
  obtain ⟨p, q, e, h1, h2, h3, h4⟩ := h.at_ i hi
  have hn := nodup_take h.nd hi
  rw [List.take_succ_eq_append_getElem hi]
  rw [e] at hn ⊢
  simp only [Int.toNat_natCast]
  rw [bec_ids (by omega), bec_ids (by omega), andG_new h1 h2 h3 hn, List.length_take, Nat.min_eq_left (by omega)]
theorem normS_self {first : Nat} {l : List (Int × Int)} (h : AndsS first l) : ∀ n i : Nat, i + n = l.length → normS first (l.drop i) (l.take i) (ids (first + i)) = (l, ids (first + l.length))
  | 0, i, hi => by
    have : i = l.length := by omega
    subst this
    rw [List.drop_length, List.take_length, normS]
  | n + 1, i, hi => by
    have h1 : i < l.length := by omega
    rw [List.drop_eq_getElem_cons h1, normS, andG_self h h1]
    simp only
    rw [← ids_succ, Nat.add_assoc]
    exact normS_self h n (i + 1) (by omega)
theorem closS_self {first : Nat} {l : List (Int × Int)} (h : AndsS first l) {led : List Bool} (hl : ∀ i, i < l.length → led.getD (first + i) false = true) : ∀ n i : Nat, i + n = l.length → closS first led (l.drop i) i (l.take i) (ids (first + i)) = (l, ids (first + l.length))
  | 0, i, hi => by
    have : i = l.length := by omega
    subst this
    rw [List.drop_length, List.take_length, closS]
  | n + 1, i, hi => by
    have h1 : i < l.length := by omega
    rw [List.drop_eq_getElem_cons h1, closS, if_pos (hl i h1), andG_self h h1]
    simp only
    rw [← ids_succ, Nat.add_assoc]
    exact closS_self h hl n (i + 1) (by omega)
theorem becs_ids {n : Nat} {l : List Int} (h : ∀ a ∈ l, 0 ≤ a ∧ a < 2 * n) : (becs (ids n) l).map (fun n : Nat => (n : Int)) = l := by
  unfold becs
  rw [List.map_map]
  conv => rhs; rw [← List.map_id l]
  refine List.map_congr_left fun a ha => ?_
  have := h a ha
  simp only [Function.comp_apply, id]
  rw [bec_ids (by omega)]
  omega
theorem mk2_self {g : Gr} (ok : g.Ok) : sameG (g.mk2 (g.ands, ids (g.first + g.ands.length))) g = true := by
  have h1 : g.lits = 2 * (g.first + g.ands.length) := rfl
  have e1 := becs_ids (n := g.first + g.ands.length) (l := g.next) (fun a ha => by have := ok.next a ha; omega)
  have e2 := becs_ids (n := g.first + g.ands.length) (l := g.outs) (fun a ha => by have := ok.outs a ha; omega)
  simp [sameG, Gr.mk2, e1, e2]

/-! ### Of graphs that are alike -/
theorem sameG_eq {a b : Gr} (h : sameG a b = true) : a.ins = b.ins ∧ a.next = b.next ∧ a.init = b.init ∧ a.ands = b.ands ∧ a.outs = b.outs := by
  simpa [sameG, and_assoc] using h
theorem sameG_led {a b : Gr} (h : sameG a b = true) : a.led = b.led ∧ a.check = b.check ∧ a.first = b.first ∧ a.all = b.all ∧ a.strict = b.strict ∧ sameG a.nor2 b.nor2 = true := by
  obtain ⟨i1, n1, j1, s1, o1, k1, k2, k3, k4, p1, p2, p3, p4⟩ := a
  obtain ⟨i2, n2, j2, s2, o2, k5, k6, k7, k8, p5, p6, p7, p8⟩ := b
  obtain ⟨rfl, rfl, rfl, rfl, rfl⟩ := sameG_eq h
  exact ⟨rfl, rfl, rfl, rfl, rfl, sameG_refl _⟩
theorem sameG_trans {a b c : Gr} (h : sameG a b = true) (h2 : sameG b c = true) : sameG a c = true := by
  obtain ⟨h1, h3, h4, h5, h6⟩ := sameG_eq h
  simp only [sameG, h1, h3, h4, h5, h6]
  exact h2
/-- What strict graphs are. -/
theorem strict_yes {g : Gr} (h : g.strict = true) : g.Ok ∧ AndsS g.first g.ands ∧ ∀ i, i < g.ands.length → g.led.getD (g.first + i) false = true := by
  simp only [Gr.strict, Bool.and_eq_true, decide_eq_true_eq, Bool.not_eq_true'] at h
  obtain ⟨hc, hb⟩ := h
  have ok := Gr.ok_of hc
  have key : ∀ i, i < g.ands.length → g.badA i = false := fun i hi => anyB_no.1 hb i (List.mem_range.2 hi)
  have key2 : ∀ i (hi : i < g.ands.length), g.ands[i].2 < g.ands[i].1 ∧ 1 < g.ands[i].2 ∧ g.ands[i].1.toNat / 2 ≠ g.ands[i].2.toNat / 2 ∧ g.led.getD (g.first + i) false = true ∧ g.ands[i] ∉ g.ands.take i := by
    intro i hi
    have := key i hi
    unfold Gr.badA at this
    rw [List.getD_eq_getElem?_getD, List.getElem?_eq_getElem hi, Option.getD_some] at this
    simp only [Bool.or_eq_false_iff, decide_eq_false_iff_not, Bool.not_eq_false'] at this
    obtain ⟨⟨⟨⟨t1, t2⟩, t3⟩, t4⟩, t5⟩ := this
    exact ⟨by omega, by omega, t3, t4, t5⟩
  refine ⟨ok, ⟨fun i hi => ?_, ?_⟩, fun i hi => (key2 i hi).2.2.2.1⟩
  · obtain ⟨k1, k2, k3, k4, k5⟩ := key2 i hi
    have := ok.ands i hi
    refine ⟨g.ands[i].1.toNat, g.ands[i].2.toNat, ?_, by omega, by omega, k3, by omega⟩
    refine Prod.ext ?_ ?_ <;> simp only <;> omega
  · rw [List.nodup_iff_pairwise_ne, List.pairwise_iff_getElem]
    intro i j hi hj hij he
    apply (key2 j hj).2.2.2.2
    rw [← he]
    exact List.mem_iff_getElem.2 ⟨i, by rw [List.length_take]; omega, by rw [List.getElem_take]⟩
theorem normal_self {g : Gr} (h : g.strict = true) : sameG g.normal g = true := by
  obtain ⟨ok, hs, hl⟩ := strict_yes h
  have e1 : g.nor1 = g.mk2 (g.ands, ids (g.first + g.ands.length)) := by
    unfold Gr.nor1
    have := normS_self hs g.ands.length 0 (by omega)
    simp only [List.drop_zero, List.take_zero, Nat.add_zero] at this
    rw [this]
  have e2 : sameG g.nor2 g = true := by
    have : g.nor2 = g.mk2 (g.ands, ids (g.first + g.ands.length)) := by
      unfold Gr.nor2
      have := closS_self hs hl g.ands.length 0 (by omega)
      simp only [List.drop_zero, List.take_zero, Nat.add_zero] at this
      rw [this]
    rw [this]; exact mk2_self ok
  have e3 : g.normal = g.nor1.nor2 := by unfold Gr.normal; rw [if_pos (Gr.check_of ok)]
  rw [e3]
  have e4 : sameG g.nor1 g = true := by rw [e1]; exact mk2_self ok
  exact sameG_trans (sameG_led e4).2.2.2.2.2 e2
end Go.Proofs.Ytdmedcdloeljeaa
/- Graphs: which numbers are led to; what the second pass of Normal makes. No program in sight. -/
namespace Go.Proofs.Ytdmedcdloeljeaa
open Go.AM Go.Proofs
set_option linter.unusedSimpArgs false
set_option linter.unusedVariables false

/-! ### Led -/
theorem getD_setT (v : List Bool) (k n : Nat) : (v.set k true).getD n false = true ↔ v.getD n false = true ∨ (n = k ∧ k < v.length) := by
  rw [List.getD_eq_getElem?_getD, List.getD_eq_getElem?_getD, List.getElem?_set]
  by_cases h : k = n
  · subst h
    by_cases h2 : k < v.length
    · simp [h2]
    · simp [h2]
  · have h3 : ¬ n = k := fun e => h e.symm
    simp [h, h3]
theorem markL_iff : ∀ (l : List Int) (v : List Bool) (n : Nat), (markL l v).getD n false = true ↔ v.getD n false = true ∨ (n < v.length ∧ ∃ a ∈ l, a.toNat / 2 = n)
  | [], v, n => by simp [markL]
  | a :: l, v, n => by
    rw [markL, markL_iff l, getD_setT, List.length_set]
    constructor
    · rintro ((h | ⟨rfl, h⟩) | ⟨h, b, hb, e⟩)
      · exact .inl h
      · exact .inr ⟨h, a, by simp, rfl⟩
      · exact .inr ⟨h, b, by simp [hb], e⟩
    · rintro (h | ⟨h, b, hb, e⟩)
      · exact .inl (.inl h)
      · rcases List.mem_cons.1 hb with rfl | hb
        · exact .inl (.inr ⟨e.symm, by omega⟩)
        · exact .inr ⟨h, b, hb, e⟩
theorem backM_P {ands : List (Int × Int)} {first : Nat} (P : Nat → Prop) : ∀ (i : Nat) (v : List Bool), (∀ n, v.getD n false = true → P n) →
    (∀ j, j < i → P (first + j) → P ((ands.getD j (0, 0)).1.toNat / 2) ∧ P ((ands.getD j (0, 0)).2.toNat / 2)) → ∀ n, (backM ands first i v).getD n false = true → P n
  | 0, v, hv, _ => hv
  | i + 1, v, hv, hs => by
    rw [backM]
    refine backM_P P i _ (fun n hn => ?_) (fun j hj => hs j (by omega))
    split at hn
    · rename_i h
      have := hs i (by omega) (hv _ h)
      rw [getD_setT, getD_setT] at hn
      rcases hn with (hn | ⟨rfl, _⟩) | ⟨rfl, _⟩
      · exact hv n hn
      · exact this.1
      · exact this.2
    · exact hv n hn
theorem backM_mono {ands : List (Int × Int)} {first : Nat} : ∀ (i : Nat) (v : List Bool) (n : Nat), v.getD n false = true → (backM ands first i v).getD n false = true
  | 0, v, n, h => h
  | i + 1, v, n, h => by
    rw [backM]
    refine backM_mono i _ n ?_
    split
    · rw [getD_setT, getD_setT]; exact .inl (.inl h)
    · exact h
theorem backM_keep {ands : List (Int × Int)} {first : Nat} : ∀ (i : Nat) (v : List Bool) (n : Nat), first + i ≤ n + 1 → (∀ j, j < i → (ands.getD j (0, 0)).1.toNat / 2 < first + j ∧ (ands.getD j (0, 0)).2.toNat / 2 < first + j) →
    ((backM ands first i v).getD n false = true ↔ v.getD n false = true)
  | 0, v, n, _, _ => Iff.rfl
  | i + 1, v, n, h, hw => by
    have h0 := hw i (by omega)
    rw [backM, backM_keep i _ n (by omega) (fun j hj => hw j (by omega))]
    split
    · rw [getD_setT, getD_setT]
      constructor
      · rintro ((h2 | ⟨e, _⟩) | ⟨e, _⟩)
        · exact h2
        · omega
        · omega
      · exact fun h2 => .inl (.inl h2)
    · exact Iff.rfl
theorem backM_closed {ands : List (Int × Int)} {first : Nat} : ∀ (i : Nat) (v : List Bool), (∀ j, j < i → (ands.getD j (0, 0)).1.toNat / 2 < first + j ∧ (ands.getD j (0, 0)).2.toNat / 2 < first + j) → first + i ≤ v.length →
    ∀ j, j < i → (backM ands first i v).getD (first + j) false = true → (backM ands first i v).getD ((ands.getD j (0, 0)).1.toNat / 2) false = true ∧ (backM ands first i v).getD ((ands.getD j (0, 0)).2.toNat / 2) false = true
  | 0, v, _, _ => fun j hj => by omega
  | i + 1, v, hw, hl => by
    intro j hj
    have h0 := hw i (by omega)
    rw [backM]
    by_cases hji : j < i
    · exact backM_closed i _ (fun j hj => hw j (by omega)) (by split <;> (try simp only [List.length_set]) <;> omega) j hji
    · have e : j = i := by omega
      subst e
      rw [backM_keep j _ (first + j) (by omega) (fun j hj => hw j (by omega))]
      intro h
      split at h
      · rename_i h2
        rw [if_pos h2]
        refine ⟨backM_mono _ _ _ ?_, backM_mono _ _ _ ?_⟩
        · rw [getD_setT, getD_setT]; exact .inl (.inr ⟨rfl, by omega⟩)
        · rw [getD_setT]; exact .inr ⟨rfl, by rw [List.length_set]; omega⟩
      · rename_i h2
        exact absurd h h2
theorem getD_at {l : List (Int × Int)} {i : Nat} (h : i < l.length) : l.getD i (0, 0) = l[i] := by
  rw [List.getD_eq_getElem?_getD, List.getElem?_eq_getElem h]; rfl
theorem Gr.Ok.half {g : Gr} (ok : g.Ok) : ∀ j, j < g.ands.length → (g.ands.getD j (0, 0)).1.toNat / 2 < g.first + j ∧ (g.ands.getD j (0, 0)).2.toNat / 2 < g.first + j := by
  intro j hj
  have := ok.ands j hj
  rw [getD_at hj]
  omega
theorem led_root {g : Gr} (ok : g.Ok) {a : Int} (h : a ∈ g.next ++ g.outs) : g.led.getD (a.toNat / 2) false = true := by
  unfold Gr.led
  refine backM_mono _ _ _ ((markL_iff _ _ _).2 (.inr ⟨?_, a, h, rfl⟩))
  have hl : g.lits = 2 * g.all := rfl
  rw [List.length_replicate]
  rcases List.mem_append.1 h with h | h
  · have := ok.next a h; omega
  · have := ok.outs a h; omega
theorem led_closed {g : Gr} (ok : g.Ok) {i : Nat} (hi : i < g.ands.length) (h : g.led.getD (g.first + i) false = true) : g.led.getD (g.ands[i].1.toNat / 2) false = true ∧ g.led.getD (g.ands[i].2.toNat / 2) false = true := by
  have := backM_closed (ands := g.ands) (first := g.first) g.ands.length (markL (g.next ++ g.outs) (List.replicate g.all false)) ok.half (by rw [markL_len, List.length_replicate]; exact Nat.le_refl _) i hi h
  rw [getD_at hi] at this
  exact this
theorem led_min {g : Gr} (P : Nat → Prop) (h1 : ∀ a ∈ g.next ++ g.outs, P (a.toNat / 2)) (h2 : ∀ i (hi : i < g.ands.length), P (g.first + i) → P (g.ands[i].1.toNat / 2) ∧ P (g.ands[i].2.toNat / 2)) :
    ∀ n, g.led.getD n false = true → P n := by
  refine backM_P P _ _ (fun n hn => ?_) (fun j hj => ?_)
  · rcases (markL_iff _ _ _).1 hn with h | ⟨_, a, ha, rfl⟩
    · rw [List.getD_eq_getElem?_getD, List.getElem?_replicate] at h
      split at h <;> simp at h
    · exact h1 a ha
  · rw [getD_at hj]; exact h2 j hj
end Go.Proofs.Ytdmedcdloeljeaa
/- Graphs: the second pass of Normal numbers anew what is led to; what comes of Normal is strict. No program in sight. -/
namespace Go.Proofs.Ytdmedcdloeljeaa
open Go.AM Go.Proofs
set_option linter.unusedSimpArgs false
set_option linter.unusedVariables false

theorem bec_eq {to : List Nat} {a : Nat} (h : to.getD (a / 2) 0 % 2 = 0) : bec to a = to.getD (a / 2) 0 + a % 2 := by
  unfold bec
  rcases (show a % 2 = 0 ∨ a % 2 = 1 by omega) with h2 | h2
  · rw [h2, Nat.xor_zero]; rfl
  · rw [h2, xor1_nat, if_pos h]
theorem bec_half (to : List Nat) (a : Nat) : bec to a / 2 = to.getD (a / 2) 0 / 2 := by
  unfold bec
  rcases (show a % 2 = 0 ∨ a % 2 = 1 by omega) with h2 | h2
  · rw [h2, Nat.xor_zero]
  · rw [h2, xor1_nat]; split <;> omega
theorem getD_push {to : List Nat} {c n : Nat} (h : n < to.length) : (to ++ [c]).getD n 0 = to.getD n 0 := by
  rw [List.getD_eq_getElem?_getD, List.getD_eq_getElem?_getD, List.getElem?_append_left h]
theorem getD_new {to : List Nat} {c n : Nat} (h : n = to.length) : (to ++ [c]).getD n 0 = c := by
  subst h
  rw [List.getD_eq_getElem?_getD]; simp
theorem bec_push {to : List Nat} {c a : Nat} (h : a / 2 < to.length) : bec (to ++ [c]) a = bec to a := by
  unfold bec; rw [getD_push h]

section
variable (first : Nat) (led : List Bool) (ands : List (Int × Int))
/-- Numbers that stay. -/
def Live (n : Nat) : Prop := n < first ∨ led.getD n false = true
/-- An and, as it has become. -/
abbrev newA (to : List Nat) (p : Int × Int) : Int × Int := ((bec to p.1.toNat : Nat), (bec to p.2.toNat : Nat))
/-- What the second pass keeps true. -/
structure CloI (i : Nat) (l : List (Int × Int)) (to : List Nat) : Prop where
  len : to.length = first + i
  low : ∀ n, n < first → to.getD n 0 = 2 * n
  at_ : ∀ k (hk : k < ands.length), k < i → led.getD (first + k) false = true → ∃ j, j < l.length ∧ to.getD (first + k) 0 = 2 * (first + j) ∧ l[j]? = some (newA to ands[k])
  onto : ∀ j, j < l.length → ∃ k, k < i ∧ led.getD (first + k) false = true ∧ to.getD (first + k) 0 = 2 * (first + j)
  mono : ∀ m n, m < n → n < first + i → Live first led m → Live first led n → to.getD m 0 < to.getD n 0
variable {first led ands}
theorem CloI.ev {i : Nat} {l : List (Int × Int)} {to : List Nat} (h : CloI first led ands i l to) (hi : i ≤ ands.length) {n : Nat} (hn : n < first + i) (hl : Live first led n) : to.getD n 0 % 2 = 0 ∧ to.getD n 0 < 2 * (first + l.length) := by
  by_cases h1 : n < first
  · rw [h.low n h1]; omega
  · rcases hl with h2 | h2
    · omega
    · obtain ⟨j, hj, e, _⟩ := h.at_ (n - first) (by omega) (by omega) (by rw [show first + (n - first) = n by omega]; exact h2)
      rw [show first + (n - first) = n by omega] at e
      omega
theorem CloI.inj {i : Nat} {l : List (Int × Int)} {to : List Nat} (h : CloI first led ands i l to) (hi : i ≤ ands.length) {a b : Nat} (ha : a / 2 < first + i) (hb : b / 2 < first + i) (la : Live first led (a / 2)) (lb : Live first led (b / 2)) (e : bec to a = bec to b) : a = b := by
  have e1 := h.ev hi ha la
  have e2 := h.ev hi hb lb
  rw [bec_eq e1.1, bec_eq e2.1] at e
  rcases Nat.lt_trichotomy (a / 2) (b / 2) with h1 | h1 | h1
  · have := h.mono _ _ h1 hb la lb; omega
  · omega
  · have := h.mono _ _ h1 ha lb la; omega
/-- What ands ask of the led ones. -/
structure LedOk (first : Nat) (led : List Bool) (ands : List (Int × Int)) : Prop where
  h1 : 1 ≤ first
  s : AndsS first ands
  c : ∀ i (hi : i < ands.length), led.getD (first + i) false = true → led.getD (ands[i].1.toNat / 2) false = true ∧ led.getD (ands[i].2.toNat / 2) false = true
theorem CloI.new {i : Nat} {l : List (Int × Int)} {to : List Nat} (L : LedOk first led ands) (h : CloI first led ands i l to) (hi : i < ands.length) (hl : led.getD (first + i) false = true) :
    andG first l (bec to ands[i].1.toNat) (bec to ands[i].2.toNat) = (l ++ [newA to ands[i]], 2 * (first + l.length)) ∧ ands[i].1.toNat / 2 < first + i ∧ ands[i].2.toNat / 2 < first + i := by
  obtain ⟨p, q, e, s1, s2, s3, s4⟩ := L.s.at_ i hi
  obtain ⟨c1, c2⟩ := L.c i hi hl
  have hp : ands[i].1.toNat = p := by rw [e]; rfl
  have hq : ands[i].2.toNat = q := by rw [e]; rfl
  unfold newA
  rw [hp] at c1; rw [hq] at c2; rw [hp, hq]
  have e1 := h.ev (by omega) (n := p / 2) (by omega) (.inr c1)
  have e2 := h.ev (by omega) (n := q / 2) (by omega) (.inr c2)
  have m1 := h.mono (q / 2) (p / 2) (by omega) (by omega) (.inr c2) (.inr c1)
  have m0 := h.mono 0 (q / 2) (by omega) (by omega) (.inl (by have := L.h1; omega)) (.inr c2)
  have b1 := bec_eq e1.1
  have b2 := bec_eq e2.1
  refine ⟨andG_new (by omega) (by omega) (by omega) ?_, by omega, by omega⟩
  intro hm
  obtain ⟨j, hj, ej⟩ := List.mem_iff_getElem.1 hm
  obtain ⟨k, hk, lk, tk⟩ := h.onto j hj
  obtain ⟨j2, hj2, tj2, ej2⟩ := h.at_ k (by omega) hk lk
  have hjj : j2 = j := by omega
  subst hjj
  rw [List.getElem?_eq_getElem hj2, ej] at ej2
  simp only [newA, Option.some.injEq, Prod.mk.injEq] at ej2
  obtain ⟨p2, q2, e', t1, t2, t3, t4⟩ := L.s.at_ k (by omega)
  obtain ⟨d1, d2⟩ := L.c k (by omega) lk
  rw [e'] at ej2 d1 d2
  simp only [Int.toNat_natCast] at ej2 d1 d2
  have x1 := h.inj (by omega) (a := p) (b := p2) (by omega) (by omega) (.inr c1) (.inr d1) (by omega)
  have x2 := h.inj (by omega) (a := q) (b := q2) (by omega) (by omega) (.inr c2) (.inr d2) (by omega)
  subst x1 x2
  exact nodup_take L.s.nd hi (List.mem_iff_getElem.2 ⟨k, by rw [List.length_take]; omega, by rw [List.getElem_take, e', e]⟩)
theorem CloI.push {i : Nat} {l : List (Int × Int)} {to : List Nat} (L : LedOk first led ands) (h : CloI first led ands i l to) (hi : i < ands.length) (hl : led.getD (first + i) false = true) :
    CloI first led ands (i + 1) (l ++ [newA to ands[i]]) (to ++ [2 * (first + l.length)]) := by
  obtain ⟨_, n1, n2⟩ := h.new L hi hl
  have hlen := h.len
  refine ⟨by simp; omega, fun n hn => by rw [getD_push (by omega)]; exact h.low n hn, fun k hk hki lk => ?_, fun j hj => ?_, fun m n hmn hn lm ln => ?_⟩
  · by_cases hk2 : k < i
    · obtain ⟨j, hj, e1, e2⟩ := h.at_ k hk hk2 lk
      obtain ⟨p2, q2, e', t1, t2, t3, t4⟩ := L.s.at_ k hk
      refine ⟨j, by simp; omega, by rw [getD_push (by omega)]; exact e1, ?_⟩
      rw [List.getElem?_append_left hj, e2]
      unfold newA
      rw [e']
      simp only [Int.toNat_natCast]
      rw [bec_push (by omega), bec_push (by omega)]
    · have e : k = i := by omega
      subst e
      refine ⟨l.length, by simp, getD_new (by omega), ?_⟩
      unfold newA
      rw [bec_push (by omega), bec_push (by omega)]
      simp
  · by_cases hj2 : j < l.length
    · obtain ⟨k, hk, lk, e⟩ := h.onto j hj2
      exact ⟨k, by omega, lk, by rw [getD_push (by omega)]; exact e⟩
    · have e : j = l.length := by simp at hj; omega
      subst e
      exact ⟨i, by omega, hl, getD_new (by omega)⟩
  · rw [getD_push (n := m) (by omega)]
    by_cases hn2 : n < first + i
    · rw [getD_push (by omega)]; exact h.mono m n hmn hn2 lm ln
    · rw [getD_new (by omega)]
      exact (h.ev (by omega) (by omega) lm).2
theorem CloI.skip {i : Nat} {l : List (Int × Int)} {to : List Nat} (L : LedOk first led ands) (h : CloI first led ands i l to) (hi : i < ands.length) (hl : ¬ led.getD (first + i) false = true) (c : Nat) : CloI first led ands (i + 1) l (to ++ [c]) := by
  have hlen := h.len
  refine ⟨by simp; omega, fun n hn => by rw [getD_push (by omega)]; exact h.low n hn, fun k hk hki lk => ?_, fun j hj => ?_, fun m n hmn hn lm ln => ?_⟩
  · have hk2 : k < i := by
      rcases Nat.lt_or_ge k i with h3 | h3
      · exact h3
      · have e : k = i := by omega
        subst e; exact absurd lk hl
    obtain ⟨j, hj, e1, e2⟩ := h.at_ k hk hk2 lk
    obtain ⟨p2, q2, e', t1, t2, t3, t4⟩ := L.s.at_ k hk
    refine ⟨j, hj, by rw [getD_push (by omega)]; exact e1, ?_⟩
    rw [e2]
    unfold newA
    rw [e']
    simp only [Int.toNat_natCast]
    rw [bec_push (by omega), bec_push (by omega)]
  · obtain ⟨k, hk, lk, e⟩ := h.onto j hj
    exact ⟨k, by omega, lk, by rw [getD_push (by omega)]; exact e⟩
  · have hn2 : n < first + i := by
      rcases Nat.lt_or_ge n (first + i) with h3 | h3
      · exact h3
      · have e : n = first + i := by omega
        subst e
        rcases ln with h4 | h4
        · omega
        · exact absurd h4 hl
    rw [getD_push (n := m) (by omega), getD_push (by omega)]; exact h.mono m n hmn hn2 lm ln
theorem CloI.zero : CloI first led ands 0 [] (ids first) := by
  have hg : ∀ n, n < first → (ids first).getD n 0 = 2 * n := fun n hn => by
    rw [List.getD_eq_getElem?_getD, List.getElem?_eq_getElem (by simpa using hn)]; simp [ids]
  refine ⟨by simp, hg, fun k hk h => by omega, fun j hj => by simp at hj, fun m n hmn hn _ _ => ?_⟩
  rw [hg m (by omega), hg n (by omega)]; omega
theorem closS_inv (L : LedOk first led ands) : ∀ n i l to, i + n = ands.length → CloI first led ands i l to → CloI first led ands ands.length (closS first led (ands.drop i) i l to).1 (closS first led (ands.drop i) i l to).2
  | 0, i, l, to, hi, h => by
    have : i = ands.length := by omega
    subst this
    rw [List.drop_length, closS]; exact h
  | n + 1, i, l, to, hi, h => by
    have h1 : i < ands.length := by omega
    rw [List.drop_eq_getElem_cons h1, closS]
    split
    · rename_i hl
      rw [(h.new L h1 hl).1]
      exact closS_inv L n (i + 1) _ _ (by omega) (h.push L h1 hl)
    · rename_i hl
      exact closS_inv L n (i + 1) _ _ (by omega) (h.skip L h1 hl 0)
end
theorem Gr.ledOk {x : Gr} (ok : x.Ok) (s : AndsS x.first x.ands) : LedOk x.first x.led x.ands := ⟨by unfold Gr.first; omega, s, fun i hi h => led_closed ok hi h⟩
/-- What Normal's second pass ends with. -/
theorem Gr.cloI {x : Gr} (ok : x.Ok) (s : AndsS x.first x.ands) : CloI x.first x.led x.ands x.ands.length (closS x.first x.led x.ands 0 [] (ids x.first)).1 (closS x.first x.led x.ands 0 [] (ids x.first)).2 := by
  have := closS_inv (Gr.ledOk ok s) x.ands.length 0 [] (ids x.first) (by omega) CloI.zero
  rw [List.drop_zero] at this
  exact this
theorem mk2_first (g : Gr) (r : List (Int × Int) × List Nat) : (g.mk2 r).first = g.first := by simp [Gr.first, Gr.mk2]
theorem mem_mk2 {g : Gr} {r : List (Int × Int) × List Nat} {a : Int} (h : a ∈ g.next ++ g.outs) : ((bec r.2 a.toNat : Nat) : Int) ∈ (g.mk2 r).next ++ (g.mk2 r).outs := by
  simp only [Gr.mk2, List.mem_append, List.mem_map, becs] at h ⊢
  rcases h with h | h
  · exact .inl ⟨_, ⟨a, h, rfl⟩, rfl⟩
  · exact .inr ⟨_, ⟨a, h, rfl⟩, rfl⟩
theorem nor2_led {x : Gr} (ok : x.Ok) (s : AndsS x.first x.ands) : ∀ j, j < x.nor2.ands.length → x.nor2.led.getD (x.first + j) false = true := by
  have I := Gr.cloI ok s
  have ok2 := (nor2_ok ok).1
  have key : ∀ n, x.led.getD n false = true → x.led.getD n false = true ∧ x.nor2.led.getD ((closS x.first x.led x.ands 0 [] (ids x.first)).2.getD n 0 / 2) false = true := by
    refine led_min _ (fun a ha => ⟨led_root ok ha, ?_⟩) (fun i hi h => ?_)
    · have := led_root ok2 (mem_mk2 (r := closS x.first x.led x.ands 0 [] (ids x.first)) ha)
      rw [Int.toNat_natCast, bec_half] at this
      exact this
    · obtain ⟨h1, h2⟩ := h
      obtain ⟨j, hj, e1, e2⟩ := I.at_ i hi hi h1
      have hc := led_closed ok hi h1
      have hj2 : j < x.nor2.ands.length := hj
      have e3 : x.nor2.ands[j] = newA (closS x.first x.led x.ands 0 [] (ids x.first)).2 x.ands[i] := by
        have : x.nor2.ands[j]? = some (newA (closS x.first x.led x.ands 0 [] (ids x.first)).2 x.ands[i]) := e2
        rw [List.getElem?_eq_getElem hj2] at this
        exact Option.some.inj this
      rw [e1, show 2 * (x.first + j) / 2 = x.first + j by omega] at h2
      have h4 := led_closed ok2 hj2 (by rw [show x.nor2.first = x.first from mk2_first _ _]; exact h2)
      rw [e3] at h4
      simp only [newA, Int.toNat_natCast, bec_half] at h4
      exact ⟨⟨hc.1, h4.1⟩, hc.2, h4.2⟩
  intro j hj
  obtain ⟨k, hk, lk, e⟩ := I.onto j hj
  have := (key _ lk).2
  rw [e, show 2 * (x.first + j) / 2 = x.first + j by omega] at this
  exact this
theorem strict_of {g : Gr} (ok : g.Ok) (s : AndsS g.first g.ands) (h : ∀ i, i < g.ands.length → g.led.getD (g.first + i) false = true) : g.strict = true := by
  simp only [Gr.strict, Bool.and_eq_true, decide_eq_true_eq, Bool.not_eq_true']
  refine ⟨Gr.check_of ok, anyB_no.2 fun i hi => ?_⟩
  have hi := List.mem_range.1 hi
  obtain ⟨p, q, e, s1, s2, s3, s4⟩ := s.at_ i hi
  have hn := nodup_take s.nd hi
  have hh := h i hi
  unfold Gr.badA
  rw [getD_at hi, hh]
  rw [e] at hn ⊢
  simp [hn]
  omega
/-- What comes of Normal is strict. -/
theorem normal_strict {g : Gr} (h : g.check = 0) : g.normal.strict = true ∧ g.normal.check = 0 ∧ g.normal.ands.length ≤ g.ands.length := by
  have ok := Gr.ok_of h
  obtain ⟨o1, s1, l1⟩ := nor1_ok ok
  have hf : g.nor1.first = g.first := mk2_first _ _
  obtain ⟨o2, s2, l2⟩ := nor2_ok o1
  have e : g.normal = g.nor1.nor2 := by unfold Gr.normal; rw [if_pos h]
  rw [e]
  have hf2 : g.nor1.nor2.first = g.nor1.first := mk2_first _ _
  refine ⟨strict_of o2 (by rw [hf2]; exact s2) ?_, Gr.check_of o2, by omega⟩
  rw [hf2]
  exact nor2_led o1 (by rw [hf]; exact s1)
end Go.Proofs.Ytdmedcdloeljeaa
/- Graphs: Normal does what the graph does. No program in sight. -/
namespace Go.Proofs.Ytdmedcdloeljeaa
open Go.AM Go.Proofs
set_option linter.unusedSimpArgs false
set_option linter.unusedVariables false

theorem bec_val (w : List Bool) (to : List Nat) (a : Nat) : litV w (bec to a) = (litV w (to.getD (a / 2) 0) != decide (a % 2 = 1)) := by
  unfold bec
  rcases (show a % 2 = 0 ∨ a % 2 = 1 by omega) with h2 | h2
  · rw [h2, Nat.xor_zero]; simp
  · rw [h2, litV_not]; simp
theorem litV_even (v : List Bool) (n : Nat) : litV v (2 * n) = v.getD n false := by
  unfold litV
  rw [show 2 * n / 2 = n by omega, show 2 * n % 2 = 0 by omega]; simp
theorem getDB_push {v : List Bool} {c : Bool} {n : Nat} (h : n < v.length) : (v ++ [c]).getD n false = v.getD n false := by
  rw [List.getD_eq_getElem?_getD, List.getD_eq_getElem?_getD, List.getElem?_append_left h]
theorem getDB_new {v : List Bool} {c : Bool} {n : Nat} (h : n = v.length) : (v ++ [c]).getD n false = c := by
  subst h
  rw [List.getD_eq_getElem?_getD]; simp
theorem AndsS.wf {first : Nat} {l : List (Int × Int)} (h : AndsS first l) : WfA first l := by
  intro i hi
  obtain ⟨p, q, e, s1, s2, s3, s4⟩ := h.at_ i hi
  rw [e]; simp only; omega
/-- The first pass keeps all values. -/
theorem normS_val {first : Nat} {v0 : List Bool} (hv : v0.length = first) (hz : litV v0 0 = false) (h1 : 1 ≤ first) : ∀ (ps l : List (Int × Int)) (to : List Nat) (V : List Bool), WfA first l → ToOk first l to → V.length = to.length →
    (∀ n, n < to.length → litV (valsA l v0) (to.getD n 0) = V.getD n false) → (∀ i (h : i < ps.length), ps[i].1.toNat / 2 < to.length + i ∧ ps[i].2.toNat / 2 < to.length + i) →
    ∀ n, n < to.length + ps.length → litV (valsA (normS first ps l to).1 v0) ((normS first ps l to).2.getD n 0) = (valsA ps V).getD n false
  | [], l, to, V, _, _, hl, hh, _ => hh
  | p :: ps, l, to, V, hw, ht, hl, hh, hp => by
    have h0 := hp 0 (by simp)
    simp only [List.getElem_cons_zero, Nat.add_zero] at h0
    have ha := bec_lt ht.lt h0.1
    have hb := bec_lt ht.lt h0.2
    obtain ⟨hlt, hge⟩ := andG_lt ha hb h1
    have hval := andG_val hv hz h1 hw ha hb
    have b1 : litV (valsA l v0) (bec to p.1.toNat) = litV V p.1.toNat := by rw [bec_val, hh _ h0.1]; rfl
    have b2 : litV (valsA l v0) (bec to p.2.toNat) = litV V p.2.toNat := by rw [bec_val, hh _ h0.2]; rfl
    rw [b1, b2] at hval
    intro n hn
    rw [normS, valsA]
    refine normS_val hv hz h1 ps _ _ _ (hw.and ha hb) ⟨fun z hz => by
      rcases List.mem_append.1 hz with hz | hz
      · have := ht.lt z hz; omega
      · simp at hz; omega⟩ (by simp [hl]) (fun n hn => ?_) (fun i hi => by
      have := hp (i + 1) (by simpa using hi)
      simp only [List.getElem_cons_succ] at this
      simp; omega) n (by rw [List.length_cons] at hn; simp; omega)
    by_cases hn2 : n < to.length
    · rw [getD_push hn2, getDB_push (by omega), ← hh n hn2]
      refine andG_old hv ?_
      refine ht.lt _ ?_
      rw [List.getD_eq_getElem?_getD, List.getElem?_eq_getElem hn2]
      exact List.getElem_mem hn2
    · have e : n = to.length := by simp at hn; omega
      rw [getD_new e, getDB_new (by omega), hval]
/-- The second pass keeps the values of what stays. -/
theorem clo_val {x : Gr} (ok : x.Ok) (s : AndsS x.first x.ands) {v0 : List Bool} (hv : v0.length = x.first) : ∀ N n, n < N → n < x.first + x.ands.length → Live x.first x.led n →
    litV (valsA x.nor2.ands v0) ((closS x.first x.led x.ands 0 [] (ids x.first)).2.getD n 0) = (valsA x.ands v0).getD n false := by
  have I := Gr.cloI ok s
  have ok2 := (nor2_ok ok).1
  have w2 := ok2.ands
  rw [show x.nor2.first = x.first from mk2_first _ _] at w2
  intro N
  induction N with
  | zero => intro n hn; omega
  | succ N ih =>
    intro n hn hn2 hl
    by_cases h1 : n < x.first
    · rw [I.low n h1, valsA_lit _ (by omega), litV_even]
      obtain ⟨e, he⟩ := valsA_pre x.ands v0
      rw [he, List.getD_eq_getElem?_getD, List.getD_eq_getElem?_getD, List.getElem?_append_left (by omega)]
    · rcases hl with h2 | h2
      · omega
      · have hk : n - x.first < x.ands.length := by omega
        have en : x.first + (n - x.first) = n := by omega
        obtain ⟨j, hj, e1, e2⟩ := I.at_ (n - x.first) hk hk (by rw [en]; exact h2)
        rw [en] at e1
        have hj2 : j < x.nor2.ands.length := hj
        have e3 : x.nor2.ands[j] = newA (closS x.first x.led x.ands 0 [] (ids x.first)).2 x.ands[n - x.first] := by
          have : x.nor2.ands[j]? = some (newA (closS x.first x.led x.ands 0 [] (ids x.first)).2 x.ands[n - x.first]) := e2
          rw [List.getElem?_eq_getElem hj2] at this
          exact Option.some.inj this
        have hw := w2 j hj2
        have hx := ok.ands (n - x.first) hk
        obtain ⟨c1, c2⟩ := led_closed ok hk (by rw [en]; exact h2)
        have va := valsA_and (v := v0) hj2 (by omega) (by omega)
        have vb := valsA_and (v := v0) hk (by omega) (by omega)
        rw [hv] at va vb
        rw [e1, va, e3]
        simp only [newA, Int.toNat_natCast]
        rw [bec_val, bec_val, ih _ (by omega) (by omega) (.inr c1), ih _ (by omega) (by omega) (.inr c2)]
        rw [en, litV_even] at vb
        rw [vb]
        rfl
/-- A builder's graph does what the graph does. -/
theorem mk2_step {g : Gr} {r : List (Int × Int) × List Nat} (ok : g.Ok) (ok2 : (g.mk2 r).Ok) {state ins : List Bool}
    (h : g.valuesE state ins = 0 → ∀ a ∈ g.next ++ g.outs, litV (valsA r.1 (false :: (ins ++ state))) (bec r.2 a.toNat) = litV (g.vals state ins) a.toNat) :
    (g.mk2 r).valuesE state ins = g.valuesE state ins ∧ (g.mk2 r).stepO state ins = g.stepO state ins ∧ (g.mk2 r).stepN state ins = g.stepN state ins := by
  have hE : (g.mk2 r).valuesE state ins = g.valuesE state ins := by
    unfold Gr.valuesE
    rw [Gr.check_of ok, Gr.check_of ok2]
    have h1 : (g.mk2 r).next.length = g.next.length := by simp [Gr.mk2]
    have : (g.mk2 r).fits state ins = g.fits state ins := by unfold Gr.fits; rw [h1]; rfl
    rw [this]
  refine ⟨hE, ?_, ?_⟩
  · unfold Gr.stepO
    rw [hE]
    split
    · rename_i h0
      have hh := h h0
      unfold litsV Gr.mk2 becs Gr.vals
      simp only [List.map_map]
      refine List.map_congr_left fun a ha => ?_
      exact hh a (List.mem_append_right _ ha)
    · rfl
  · unfold Gr.stepN
    rw [hE]
    split
    · rename_i h0
      have hh := h h0
      unfold litsV Gr.mk2 becs Gr.vals
      simp only [List.map_map]
      refine List.map_congr_left fun a ha => ?_
      exact hh a (List.mem_append_left _ ha)
    · rfl
theorem v0_len {g : Gr} {state ins : List Bool} (h : g.valuesE state ins = 0) : (false :: (ins ++ state)).length = g.first := by
  obtain ⟨ok, d1, d2⟩ := Gr.ok_E h
  have := ok.ins
  simp [Gr.first]; omega
theorem lit_ok {g : Gr} (ok : g.Ok) {a : Int} (h : a ∈ g.next ++ g.outs) : a.toNat / 2 < g.first + g.ands.length := by
  have hl : g.lits = 2 * (g.first + g.ands.length) := rfl
  rcases List.mem_append.1 h with h | h
  · have := ok.next a h; omega
  · have := ok.outs a h; omega
theorem nor1_step {g : Gr} (ok : g.Ok) (state ins : List Bool) : g.nor1.valuesE state ins = g.valuesE state ins ∧ g.nor1.stepO state ins = g.stepO state ins ∧ g.nor1.stepN state ins = g.stepN state ins := by
  refine mk2_step ok (nor1_ok ok).1 (fun hE a ha => ?_)
  have hv := v0_len hE
  have hi : ∀ n, n < g.first → (ids g.first).getD n 0 = 2 * n := fun n hn => by
    rw [List.getD_eq_getElem?_getD, List.getElem?_eq_getElem (by simpa using hn)]; simp [ids]
  have := normS_val hv (by simp [litV]) (by unfold Gr.first; omega) g.ands [] (ids g.first) (false :: (ins ++ state)) (fun i hi => by simp at hi) (ids_ok _) (by rw [hv]; simp)
    (fun n hn => by rw [ids_len] at hn; rw [hi n hn, valsA, litV_even]) (ands_lt ok) (a.toNat / 2) (by rw [ids_len]; exact lit_ok ok ha)
  rw [bec_val, this]
  rfl
theorem nor2_step {g : Gr} (ok : g.Ok) (s : AndsS g.first g.ands) (state ins : List Bool) : g.nor2.valuesE state ins = g.valuesE state ins ∧ g.nor2.stepO state ins = g.stepO state ins ∧ g.nor2.stepN state ins = g.stepN state ins := by
  refine mk2_step ok (nor2_ok ok).1 (fun hE a ha => ?_)
  have := clo_val ok s (v0_len hE) (a.toNat / 2 + 1) (a.toNat / 2) (by omega) (lit_ok ok ha) (.inr (led_root ok ha))
  rw [bec_val]
  have e : g.nor2.ands = (closS g.first g.led g.ands 0 [] (ids g.first)).1 := rfl
  rw [e] at this
  rw [this]
  rfl
theorem normal_step {g : Gr} (h : g.check = 0) (state ins : List Bool) : g.normal.valuesE state ins = g.valuesE state ins ∧ g.normal.stepO state ins = g.stepO state ins ∧ g.normal.stepN state ins = g.stepN state ins := by
  have ok := Gr.ok_of h
  obtain ⟨o1, s1, l1⟩ := nor1_ok ok
  have e : g.normal = g.nor1.nor2 := by unfold Gr.normal; rw [if_pos h]
  rw [e]
  have hf : g.nor1.first = g.first := mk2_first _ _
  obtain ⟨a1, a2, a3⟩ := nor2_step o1 (by rw [hf]; exact s1) state ins
  obtain ⟨b1, b2, b3⟩ := nor1_step ok state ins
  exact ⟨a1.trans b1, a2.trans b2, a3.trans b3⟩
/-- A graph is strict just if it is its Normal. -/
theorem strict_iff {g : Gr} (h : g.check = 0) : g.strict = sameG g.normal g := by
  cases hs : g.strict with
  | true => exact (normal_self hs).symm
  | false =>
    cases he : sameG g.normal g with
    | false => rfl
    | true =>
      have := (sameG_led he).2.2.2.2.1
      rw [(normal_strict h).1] at this
      rw [hs] at this
      exact this.symm
end Go.Proofs.Ytdmedcdloeljeaa
/- The law: AigNormal. -/
namespace Go.Proofs.Ytdmedcdloeljeaa
open Go.AM Go.Proofs
variable {Γ : Nat → Option AV}
set_option linter.unusedSimpArgs false
set_option linter.unusedVariables false

theorem normal_few {g : Gr} : g.normal.few := by
  by_cases h : g.check = 0
  · exact (Gr.ok_of (normal_strict h).2.1).few
  · unfold Gr.normal; rw [if_neg h]; exact gr0_few
theorem Gr.step_few {g : Gr} (hf : g.few) {state ins : List Bool} : (g.stepO state ins).length < 2 ^ 60 ∧ (g.stepN state ins).length < 2 ^ 60 := by
  constructor
  · unfold Gr.stepO; split
    · rw [litsV_len]; have := hf.2.2.2; omega
    · simp
  · unfold Gr.stepN; split
    · rw [litsV_len]; have := hf.1; omega
    · simp

set_option maxHeartbeats 4000000 in
set_option maxRecDepth 8000 in
theorem l_AigNormal (g : Gr) (hf : g.few) (state ins : List Bool) {ks ki : Nat} (hs : Kd 1 ks state) (hi : Kd 1 ki ins) :
    PureCon Try.prog Γ n_w09_AigNormal [eGr g, .list false ks (state.map .bool), .list false ki (ins.map .bool)] (.bool true) := by
  refine .run 60 c_w09_AigNormal (by simp) ?_
  simp
  refine .call 60 (by simp) p_w09_works ?_
  simp
  refine .call 60 (by simp) (p_w09_Few g) ?_
  simp
  refine .call 60 (by simp) (p_aig_Normal g hf) ?_
  cases hF : g.fewB with
  | false => simp; exact .back (by simp)
  | true =>
    by_cases h1 : 60 < state.length
    · simp [h1]; exact .back (by simp)
    · by_cases h2 : 60 < ins.length
      · simp [h1, h2]; exact .back (by simp)
      · by_cases hc : g.check = 0
        · have hnf := normal_few (g := g)
          obtain ⟨n1, n2, n3⟩ := normal_strict hc
          obtain ⟨m1, m2, m3⟩ := normal_step hc state ins
          have hN := p_aig_Normal (Γ := Γ) g.normal hnf
          rw [n2] at hN
          have hS1 := p_aig_Step (Γ := Γ) g hf state ins hs hi (by omega) (by omega)
          have hS2 := p_aig_Step (Γ := Γ) g.normal hnf state ins hs hi (by omega) (by omega)
          rw [m1, m2, m3] at hS2
          have hst := p_aig_Strict (Γ := Γ) g.normal hnf
          rw [n1] at hst
          have hsm := p_aig_Same (Γ := Γ) g.normal.normal g.normal normal_few
          rw [normal_self n1] at hsm
          have hst2 := p_aig_Strict (Γ := Γ) g hf
          have hsm2 := p_aig_Same (Γ := Γ) g.normal g hnf
          rw [← strict_iff hc] at hsm2
          obtain ⟨b1, b2⟩ := Gr.step_few hf (state := state) (ins := ins)
          simp [h1, h2, hc]
          refine .call 60 (by simp) hN ?_
          simp
          refine .call 60 (by simp) hS1 ?_
          simp
          refine .call 60 (by simp) hS2 ?_
          simp
          refine .dr 60 ?_
          simp
          refine .call (by simp) hst ?_
          simp
          refine .call (by simp) hsm ?_
          simp
          refine .call (by simp) (p_r08_Bools (g.stepO state ins) (g.stepO state ins) (ka := 1) (kb := 1) .self .self b1) ?_
          simp
          refine .call (by simp) (p_r08_Bools (g.stepN state ins) (g.stepN state ins) (ka := 1) (kb := 1) .self .self b2) ?_
          simp [n3]
          refine .call (by simp) hst2 ?_
          simp
          refine .call (by simp) hsm2 ?_
          cases g.strict <;> simp
          all_goals exact .back (by simp)
        · simp [h1, h2, hc]; exact .back (by simp)
end Go.Proofs.Ytdmedcdloeljeaa
/- Chapter 9's reference: Same, become, becomes. -/
namespace Go.Proofs.Ytdmedcdloeljeaa
open Go.AM Go.Proofs
variable {Γ : Nat → Option AV}
set_option linter.unusedSimpArgs false
set_option linter.unusedVariables false

set_option maxHeartbeats 2000000 in
set_option maxRecDepth 8000 in
theorem p_r09_Same (a b : Gr) (ha : a.few) : PureCon Try.prog Γ n_r09_Same [eGr a, eGr b] (.bool (sameG a b)) := by
  have f1 := ha.1; have f2 := ha.2.1; have f3 := ha.2.2.1; have f4 := ha.2.2.2
  refine .run 60 c_r09_Same (by simp) ?_
  unfold sameG
  by_cases h1 : a.ins = b.ins
  · have h1' := eq_true h1
    simp [h1']
    refine .call 60 (by simp) (p_r01_Ints a.next b.next a.hn b.hn (by omega)) ?_
    by_cases h2 : a.next = b.next
    · have h2' := eq_true h2
      simp [h2']
      refine .call 60 (by simp) (p_r01_Ints a.init b.init a.hi b.hi (by omega)) ?_
      by_cases h3 : a.init = b.init
      · have h3' := eq_true h3
        simp [h3']
        refine .call 60 (by simp) (p_r01_Ints a.outs b.outs a.ho b.ho (by omega)) ?_
        by_cases h4 : a.outs = b.outs
        · have h4' := eq_true h4
          by_cases h5 : a.ands.length = b.ands.length
          · have key : ∀ n i : Nat, i + n = a.ands.length → Fins Try.prog Γ (r09_Same_L1 (.ptr 0 0) (.ptr 1 0) (.int .i64 i) [cellG a, cellG b]) (.ret (.bool (decide (a.ands.drop i = b.ands.drop i)))) := by
              intro n
              induction n with
              | zero =>
                intro i hi
                refine .go 60 ?_
                have q1 : ¬ i < a.ands.length := by omega
                have q2 : a.ands.drop i = b.ands.drop i := by rw [List.drop_eq_nil_of_le (by omega), List.drop_eq_nil_of_le (by omega)]
                simp [q1, q2]
                exact .back (by simp)
              | succ n ih =>
                intro i hi
                have q1 : i < a.ands.length := by omega
                have q2 : i < b.ands.length := by omega
                have k1 := eq_true (a.ha.of q1)
                have k2 := eq_true (b.ha.of q2)
                have q4 := drop_eq q1 q2
                have q5 := eqData_pr' a.ands[i].1 a.ands[i].2 b.ands[i].1 b.ands[i].2
                refine .go 60 ?_
                by_cases q3 : a.ands[i] = b.ands[i]
                · have q6 : ((a.ands[i].1, a.ands[i].2) = (b.ands[i].1, b.ands[i].2)) = True := eq_true q3
                  have q7 : (a.ands[i] = b.ands[i]) = True := eq_true q3
                  simp (disch := omega) [q1, q2, k1, k2, q7, q4, q5, q6, -Prod.mk.injEq]
                  refine .reLoop ?_
                  have hh := ih (i + 1) (by omega)
                  simp at hh ⊢
                  exact hh
                · have q6 : ((a.ands[i].1, a.ands[i].2) = (b.ands[i].1, b.ands[i].2)) = False := eq_false q3
                  simp (disch := omega) [q1, q2, k1, k2, q3, q4, q5, q6, -Prod.mk.injEq]
                  exact .back (by simp)
            have h5' := eq_true h5
            simp [h4', h5']
            refine .inLoop ?_
            have hh := key a.ands.length 0 (by omega)
            simp at hh ⊢
            exact hh
          · have h6 : ¬ a.ands = b.ands := fun e => h5 (by rw [e])
            simp [h4', h5, h6]
            exact .back (by simp)
        · simp [h4]
          exact .back (by simp)
      · simp [h3]
        exact .back (by simp)
    · simp [h2]
      exact .back (by simp)
  · simp [h1]
    exact .back (by simp)

theorem p_r09_become (to : List Nat) (hto : ∀ x ∈ to, x < 2 ^ 40) (a : Nat) (h1 : a / 2 < to.length) (ha : (a : Int) < 2 ^ 60) : PureCon Try.prog Γ n_r09_become [.list false 1 (to.map iN), .int .i64 a] (.int .i64 (bec to a)) := by
  refine .run 60 c_r09_become (by simp) ?_
  have h3 : ((a / 2 : Nat) : Int) < to.length := by omega
  have h4 := hto _ (List.getElem_mem h1)
  have h5 : to.getD (a / 2) 0 = to[a / 2] := by rw [List.getD_eq_getElem?_getD, List.getElem?_eq_getElem h1]; rfl
  have h6 := xor1 to[a / 2] (by omega)
  unfold bec
  rw [h5]
  rcases (show a % 2 = 0 ∨ a % 2 = 1 by omega) with h2 | h2
  · have h7 : ((a : Int) % 2 = 1) = False := eq_false (by omega)
    rw [h2, Nat.xor_zero]
    simp (disch := omega) [-Int.natCast_ediv, -Int.natCast_emod, h1, h3, h2, h7]
    exact .back (by simp)
  · have h7 : ((a : Int) % 2 = 1) = True := eq_true (by omega)
    rw [h2]
    simp (disch := omega) [-Int.natCast_ediv, -Int.natCast_emod, h1, h3, h2, h6, h7]
    exact .back (by simp)

set_option maxRecDepth 8000 in
theorem p_r09_becomes (to : List Nat) (hto : ∀ x ∈ to, x < 2 ^ 40) (l : List Int) {k : Nat} (hk : Kd 1 k l) (hl : l.length < 2 ^ 40) (hlt : ∀ a ∈ l, 0 ≤ a ∧ a < 2 * to.length) (hbt : to.length < 2 ^ 40) :
    PureCon Try.prog Γ n_r09_becomes [.list false 1 (to.map iN), .list false k (l.map i64)] (.own 1 t_int ((becs to l).map iN)) := by
  refine .run 60 c_r09_becomes (by simp) ?_
  have key : ∀ n j : Nat, j + n = l.length → ∀ w, w = becs to (l.take j) → Fins Try.prog Γ (r09_becomes_L1 (.list false 1 (to.map iN)) (.list false k (l.map i64)) (.sl 1 0 w.length) (.int .i64 j)
      [.row 1 t_int [] none true false, .row 1 t_int (w.map iN) none true false]) (.ret (.own 1 t_int ((becs to l).map iN))) := by
    intro n
    induction n with
    | zero =>
      intro j hj w hw
      have q1 : ¬ j < l.length := by omega
      rw [List.take_of_length_le (by omega)] at hw
      subst hw
      refine .go 60 ?_
      simp [q1]
      exact .back (by simp)
    | succ n ih =>
      intro j hj w hw
      have q1 : j < l.length := by omega
      have q2 := eq_true (hk.of q1)
      obtain ⟨a1, a2⟩ := hlt l[j] (List.getElem_mem q1)
      obtain ⟨x, hx⟩ := Int.eq_ofNat_of_zero_le a1
      have hwl : w.length = j := by rw [hw]; simp; omega
      have hc := p_r09_become (Γ := Γ) to hto x (by omega) (by omega)
      have hh := ih (j + 1) (by omega) _ rfl
      rw [becs_take q1, ← hw, hx] at hh
      simp only [Int.toNat_natCast] at hh
      refine .go 60 ?_
      simp (disch := omega) [q1, q2, hx]
      refine .call 60 (by simp) hc ?_
      simp (disch := (first | omega | (simp; omega))) [q1, q2]
      refine .reLoop ?_
      simp
      refine .reset (i := 1) rfl (by simp) (by simp) (by simp) ?_
      simp at hh ⊢
      exact hh
  simp
  refine .inLoop ?_
  simp
  have hh := key l.length 0 (by omega) [] (by simp [becs])
  simp at hh ⊢
  exact hh
end Go.Proofs.Ytdmedcdloeljeaa
/- Chapter 9's reference: Led. -/
namespace Go.Proofs.Ytdmedcdloeljeaa
open Go.AM Go.Proofs
variable {Γ : Nat → Option AV}
set_option linter.unusedSimpArgs false
set_option linter.unusedVariables false

theorem getD_ands {l : List (Int × Int)} {i : Nat} (h : i < l.length) : l.getD i (0, 0) = l[i] := by
  rw [List.getD_eq_getElem?_getD, List.getElem?_eq_getElem h]; rfl
theorem markL_take {l : List Int} {i : Nat} (h : i < l.length) (v : List Bool) : markL (l.take (i + 1)) v = (markL (l.take i) v).set (l[i].toNat / 2) true := by
  rw [List.take_succ_eq_append_getElem h, markL_append]; rfl
abbrev hL (g : Gr) (v : List Bool) : List Ob := [cellG g, .row 1 t_bool [] none true false, .row 1 t_bool (v.map .bool) none true false]
set_option maxHeartbeats 2000000 in
set_option maxRecDepth 8000 in
theorem f_rled1 (g : Gr) (ok : g.Ok) : ∀ c : Nat, c ≤ g.ands.length → ∀ v : List Bool, v.length = g.all → Fins Try.prog Γ (r09_Led_L1 (.ptr 0 0) (.sl 2 0 g.all) (.int .i64 ((c : Int) - 1)) (hL g v)) (.ret (.own 1 t_bool ((backM g.ands g.first c v).map .bool))) := by
  have o1 := ok.ins
  have o3 := ok.sum
  have hall : g.all = g.first + g.ands.length := rfl
  have hfb : g.first ≤ 4001 := by unfold Gr.first; omega
  have hF := p_r09_First (Γ := Γ) g o1.1 o1.2 (by omega)
  intro c
  induction c with
  | zero =>
    intro hc v hv
    rw [backM]
    refine .go 60 ?_
    simp [hv]
    exact .back (by simp [← hv])
  | succ c ih =>
    intro hc v hv
    have q1 : c < g.ands.length := by omega
    have q2 := eq_true (g.ha.of q1)
    have q3 : ((c + 1 : Nat) : Int) - 1 = (c : Int) := by omega
    have q4 : g.first + c < v.length := by omega
    have q5 : (g.first : Int) + c = ((g.first + c : Nat) : Int) := by simp
    have q6 : g.first + c < g.all := by omega
    obtain ⟨⟨a1, a2⟩, a3, a4⟩ := ok.ands c q1
    rw [q3, backM, getD_ands q1]
    have hg : v.getD (g.first + c) false = v[g.first + c] := by rw [List.getD_eq_getElem?_getD, List.getElem?_eq_getElem q4]; rfl
    rw [hg]
    obtain ⟨x, hx⟩ := Int.eq_ofNat_of_zero_le a1
    obtain ⟨y, hy⟩ := Int.eq_ofNat_of_zero_le a3
    have hxl : x / 2 < g.all := by omega
    have hyl : y / 2 < g.all := by omega
    have rx : (x : Int) / 2 = ((x / 2 : Nat) : Int) := by omega
    have ry : (y : Int) / 2 = ((y / 2 : Nat) : Int) := by omega
    have hv1 : ((v.map AV.bool).set (x / 2) (.bool true))[y / 2]? = some (.bool ((v.set (x / 2) true).getD (y / 2) false)) := by
      rw [show AV.bool true = (AV.bool) true from rfl, ← List.map_set, List.getElem?_map, List.getElem?_eq_getElem (by simp; omega), List.getD_eq_getElem?_getD, List.getElem?_eq_getElem (by simp; omega)]; rfl
    refine .go 60 ?_
    simp
    refine .call 60 (by simp) hF ?_
    cases hb : v[g.first + c] with
    | true =>
      have hh := ih (by omega) ((v.set (x / 2) true).set (y / 2) true) (by simp [hv])
      simp (disch := omega) [-Int.natCast_add, -Int.natCast_ediv, q5, q6, q1, q2, hv, hb, hx, hy, hxl, hyl, rx, ry, hv1]
      refine .reLoop ?_
      simp [hL] at hh ⊢
      exact hh
    | false =>
      have hh := ih (by omega) v hv
      simp (disch := omega) [-Int.natCast_add, q5, q6, q1, q2, hv, hb]
      refine .reLoop ?_
      simp at hh ⊢
      exact hh
set_option maxHeartbeats 2000000 in
set_option maxRecDepth 8000 in
theorem p_r09_Led (g : Gr) (ok : g.Ok) : PureCon Try.prog Γ n_r09_Led [eGr g] (.own 1 t_bool (g.led.map .bool)) := by
  have o1 := ok.ins
  have o3 := ok.sum
  have o4 := ok.outsL
  have hlit : g.lits = 2 * g.all := rfl
  have hall : g.all = g.first + g.ands.length := rfl
  have hfb : g.first ≤ 4001 := by unfold Gr.first; omega
  have key10 : ∀ n j : Nat, j + n = g.outs.length → ∀ v : List Bool, v = markL (g.outs.take j) (markL g.next (List.replicate g.all false)) → Fins Try.prog Γ (r09_Led_L10 (.ptr 0 0) (.sl 2 0 g.all) (.int .i64 j) (hL g v)) (.ret (.own 1 t_bool (g.led.map .bool))) := by
    intro n
    induction n with
    | zero =>
      intro j hj v hv
      have q1 : ¬ j < g.outs.length := by omega
      have hvl : v.length = g.all := by rw [hv, markL_len, markL_len, List.length_replicate]
      have hh := f_rled1 (Γ := Γ) g ok g.ands.length (Nat.le_refl _) v hvl
      have he : g.led = backM g.ands g.first g.ands.length v := by
        rw [hv, List.take_of_length_le (by omega), ← markL_append]; rfl
      rw [he]
      refine .go 60 ?_
      simp (disch := omega) [q1]
      refine .inLoop ?_
      simp
      simp [hL] at hh ⊢
      exact hh
    | succ n ih =>
      intro j hj v hv
      have q1 : j < g.outs.length := by omega
      have q2 := eq_true (g.ho.of q1)
      have hvl : v.length = g.all := by rw [hv, markL_len, markL_len, List.length_replicate]
      obtain ⟨a1, a2⟩ := ok.outs g.outs[j] (List.getElem_mem q1)
      obtain ⟨x, hx⟩ := Int.eq_ofNat_of_zero_le a1
      have hxl : x / 2 < g.all := by omega
      have rx : (x : Int) / 2 = ((x / 2 : Nat) : Int) := by omega
      have hh := ih (j + 1) (by omega) _ rfl
      rw [markL_take q1, ← hv, hx] at hh
      simp only [Int.toNat_natCast] at hh
      refine .go 60 ?_
      simp (disch := omega) [-Int.natCast_ediv, q1, q2, hvl, hx, hxl, rx]
      refine .reLoop ?_
      simp [hL] at hh ⊢
      exact hh
  have key15 : ∀ n j : Nat, j + n = g.next.length → ∀ v : List Bool, v = markL (g.next.take j) (List.replicate g.all false) → Fins Try.prog Γ (r09_Led_L15 (.ptr 0 0) (.sl 2 0 g.all) (.int .i64 j) (hL g v)) (.ret (.own 1 t_bool (g.led.map .bool))) := by
    intro n
    induction n with
    | zero =>
      intro j hj v hv
      have q1 : ¬ j < g.next.length := by omega
      rw [List.take_of_length_le (by omega)] at hv
      have hh := key10 g.outs.length 0 (by omega) v (by rw [hv]; rfl)
      refine .go 60 ?_
      simp (disch := omega) [q1]
      refine .inLoop ?_
      simp
      simp [hL] at hh ⊢
      exact hh
    | succ n ih =>
      intro j hj v hv
      have q1 : j < g.next.length := by omega
      have q2 := eq_true (g.hn.of q1)
      have hvl : v.length = g.all := by rw [hv, markL_len, List.length_replicate]
      obtain ⟨a1, a2⟩ := ok.next g.next[j] (List.getElem_mem q1)
      obtain ⟨x, hx⟩ := Int.eq_ofNat_of_zero_le a1
      have hxl : x / 2 < g.all := by omega
      have rx : (x : Int) / 2 = ((x / 2 : Nat) : Int) := by omega
      have hh := ih (j + 1) (by omega) _ rfl
      rw [markL_take q1, ← hv, hx] at hh
      simp only [Int.toNat_natCast] at hh
      refine .go 60 ?_
      simp (disch := omega) [-Int.natCast_ediv, q1, q2, hvl, hx, hxl, rx]
      refine .reLoop ?_
      simp [hL] at hh ⊢
      exact hh
  refine .run 60 c_r09_Led (by simp) ?_
  simp
  refine .dr 60 ?_
  simp
  refine .call (by simp) (p_r09_First g o1.1 o1.2 (by omega)) ?_
  have e0 : (g.first : Int) + g.ands.length = (g.all : Int) := by rw [hall]; simp
  simp (disch := omega) [e0]
  refine .inLoop ?_
  have hh := key15 g.next.length 0 (by omega) (List.replicate g.all false) rfl
  simp [hL] at hh ⊢
  exact hh
end Go.Proofs.Ytdmedcdloeljeaa
/- Chapter 9's reference: Strict. -/
namespace Go.Proofs.Ytdmedcdloeljeaa
open Go.AM Go.Proofs
variable {Γ : Nat → Option AV}
set_option linter.unusedSimpArgs false
set_option linter.unusedVariables false

set_option maxHeartbeats 4000000 in
set_option maxRecDepth 8000 in
theorem p_r09_Strict (g : Gr) (hf : g.few) : PureCon Try.prog Γ n_r09_Strict [eGr g] (.bool g.strict) := by
  refine .run 60 c_r09_Strict (by simp) ?_
  simp
  refine .call 60 (by simp) (p_r09_Check g hf) ?_
  unfold Gr.strict
  by_cases hc : g.check = 0
  · have ok := Gr.ok_of hc
    have o1 := ok.ins
    have o3 := ok.sum
    have hfb : g.first ≤ 8001 := by unfold Gr.first; omega
    have hfirst := p_r09_First (Γ := Γ) g o1.1 o1.2 (by omega)
    have hll := led_len g
    simp [hc]
    refine .call 60 (by simp) (p_r09_Led g ok) ?_
    have key : ∀ n i : Nat, i + n = g.ands.length → Fins Try.prog Γ (r09_Strict_L1 (.ptr 0 0) (.sl 1 0 g.led.length) (.int .i64 i) [cellG g, .row 1 t_bool (g.led.map .bool) none true false]) (.ret (.bool (!anyB g.badA ((List.range g.ands.length).drop i)))) := by
      intro n
      induction n with
      | zero =>
        intro i hi
        have q1 : ¬ i < g.ands.length := by omega
        rw [List.drop_eq_nil_of_le (by simp; omega)]
        refine .go 60 ?_
        simp [q1]
        exact .back (by simp)
      | succ n ih =>
        intro i hi
        have q1 : i < g.ands.length := by omega
        have q2 := eq_true (g.ha.of q1)
        obtain ⟨⟨b1, b2⟩, b3, b4⟩ := ok.ands i q1
        obtain ⟨x, hx⟩ := Int.eq_ofNat_of_zero_le b1
        obtain ⟨y, hy⟩ := Int.eq_ofNat_of_zero_le b3
        have hh := ih (i + 1) (by omega)
        have q3 : g.first + i < g.led.length := by rw [hll]; unfold Gr.all; omega
        have e1 : (g.first : Int) + i = ((g.first + i : Nat) : Int) := by omega
        have hget : g.ands.getD i (0, 0) = ((x : Int), (y : Int)) := by
          rw [List.getD_eq_getElem?_getD, List.getElem?_eq_getElem q1]
          exact Prod.ext hx hy
        rw [range_drop q1, anyB_cons]
        have hbad : g.badA i = (decide (x ≤ y) || decide (y ≤ 1) || decide (x / 2 = y / 2) || !g.led[g.first + i] || decide (((x : Int), (y : Int)) ∈ g.ands.take i)) := by
          unfold Gr.badA
          rw [hget, List.getD_eq_getElem?_getD, List.getElem?_eq_getElem q3]
          simp only [Int.toNat_natCast, Option.getD_some]
          congr 4 <;> (apply decide_eq_decide.2; omega)
        rw [hbad]
        have inner : ∀ m k : Nat, k + m = i → Fins Try.prog Γ (r09_Strict_L3 (.ptr 0 0) (.sl 1 0 g.led.length) (.int .i64 i) (.int .i64 k) [cellG g, .row 1 t_bool (g.led.map .bool) none true false]) (.ret (.bool (!(decide (((x : Int), (y : Int)) ∈ (g.ands.take i).drop k) || anyB g.badA ((List.range g.ands.length).drop (i + 1)))))) := by
          intro m
          induction m with
          | zero =>
            intro k hk
            have p1 : ¬ k < i := by omega
            rw [List.drop_eq_nil_of_le (by rw [List.length_take]; omega)]
            refine .go 60 ?_
            simp (disch := omega) [p1]
            refine .reLoop ?_
            simp at hh ⊢
            exact hh
          | succ m ihm =>
            intro k hk
            have p1 : k < i := by omega
            have p2 : k < g.ands.length := by omega
            have h2 := ihm (k + 1) (by omega)
            have p3 : k < (g.ands.take i).length := by rw [List.length_take]; omega
            have h5 := eqData_pr' g.ands[k].1 g.ands[k].2 x y
            rw [List.drop_eq_getElem_cons p3, List.getElem_take]
            refine .go 60 ?_
            by_cases h3 : g.ands[k] = ((x : Int), (y : Int))
            · have h6 : ((g.ands[k].1, g.ands[k].2) = ((x : Int), (y : Int))) = True := eq_true h3
              have h7 : (((x : Int), (y : Int)) ∈ g.ands[k] :: (g.ands.take i).drop (k + 1)) = True := eq_true (by rw [h3]; exact List.mem_cons_self)
              simp (disch := omega) [p1, p2, q1, q2, hx, hy, h5, h6, h7, -Prod.mk.injEq, -List.mem_cons]
              exact .back (by simp)
            · have h6 : ((g.ands[k].1, g.ands[k].2) = ((x : Int), (y : Int))) = False := eq_false h3
              have h7 : (((x : Int), (y : Int)) ∈ g.ands[k] :: (g.ands.take i).drop (k + 1)) = (((x : Int), (y : Int)) ∈ (g.ands.take i).drop (k + 1)) := by
                rw [List.mem_cons]
                exact propext ⟨fun h => h.resolve_left (fun e => h3 e.symm), .inr⟩
              simp (disch := omega) [p1, p2, q1, q2, hx, hy, h5, h6, h7, -Prod.mk.injEq, -List.mem_cons]
              refine .reLoop ?_
              simp at h2 ⊢
              exact h2
        have hin := inner i 0 (by omega)
        rw [List.drop_zero] at hin
        refine .go 120 ?_
        by_cases c1 : x ≤ y
        · simp (disch := omega) [q1, q2, c1, hx, hy]
          exact .back (by simp)
        · by_cases c2 : y ≤ 1
          · have c2' : ((y : Int) ≤ 1) = True := eq_true (by omega)
            simp (disch := omega) [q1, q2, c1, c2, c2', hx, hy]
            exact .back (by simp)
          · have c2' : ((y : Int) ≤ 1) = False := eq_false (by omega)
            by_cases c3 : x / 2 = y / 2
            · have c3' : ((x : Int) / 2 = (y : Int) / 2) = True := eq_true (by omega)
              simp (disch := omega) [q1, q2, c1, c2, c2', c3, c3', hx, hy, -Int.natCast_ediv, -Int.natCast_emod]
              exact .back (by simp)
            · have c3' : ((x : Int) / 2 = (y : Int) / 2) = False := eq_false (by omega)
              simp (disch := omega) [q1, q2, c1, c2, c2', c3, c3', hx, hy, -Int.natCast_ediv, -Int.natCast_emod]
              refine .call 60 (by simp) hfirst ?_
              by_cases c4 : g.led[g.first + i] = true
              · simp (disch := omega) [c1, c2, c2', c3, c3', c4, e1, q2, q3, hx, hy, -Int.natCast_add]
                refine .inLoop ?_
                simp at hin ⊢
                exact hin
              · simp (disch := omega) [c1, c2, c2', c3, c3', c4, e1, q2, q3, hx, hy, -Int.natCast_add]
                exact .back (by simp)
    simp
    refine .inLoop ?_
    have hh := key g.ands.length 0 (by omega)
    simp at hh ⊢
    exact hh
  · simp [hc]
    exact .back (by simp)
end Go.Proofs.Ytdmedcdloeljeaa
/- Chapter 9's reference: and. -/
namespace Go.Proofs.Ytdmedcdloeljeaa
open Go.AM Go.Proofs
variable {Γ : Nat → Option AV}
set_option linter.unusedSimpArgs false
set_option linter.unusedVariables false

abbrev eMade (r : List (Int × Int) × Nat) : AV := .agg [.list false 2 (r.1.map ePr), .int .i64 (r.2 : Nat)]
theorem half_eq {p q : Nat} (h : q < p) : (p ^^^ 1 = q) ↔ p / 2 = q / 2 := by
  rw [xor1_nat]; split <;> omega
set_option maxHeartbeats 2000000 in
set_option maxRecDepth 8000 in
theorem p_r09_andGe (l : List (Int × Int)) (hl : l.length < 2 ^ 20) (first : Nat) (hfi : first < 2 ^ 20) (a b : Nat) (ha : a < 2 ^ 30) (hab : b ≤ a) :
    PureCon Try.prog Γ n_r09_and [.list false 2 (l.map ePr), .int .i64 first, .int .i64 a, .int .i64 b] (eMade (andG first l a b)) := by
  have h0 : ¬ a < b := by omega
  refine .run 120 c_r09_and (by simp) ?_
  have hM : max a b = a := Nat.max_eq_left hab
  have hm : min a b = b := Nat.min_eq_right hab
  by_cases k1 : b = 0 ∨ (a ≠ b ∧ a / 2 = b / 2)
  · have hk : andG first l a b = (l, 0) := by
      unfold andG andK
      rw [hM, hm, if_pos]
      rcases k1 with h | ⟨h1, h2⟩
      · exact .inl h
      · exact .inr ((half_eq (by omega)).2 h2)
    rw [hk]
    by_cases q1 : b = 0
    · subst q1
      simp (disch := omega) [h0]
      exact .back (by simp)
    · have q2 := k1.resolve_left q1
      have q3 : ((a : Int) / 2 = (b : Int) / 2) = True := eq_true (by omega)
      simp (disch := omega) [h0, q1, q2.1, q2.2, q3, -Int.natCast_ediv]
      exact .back (by simp)
  · rw [not_or, not_and] at k1
    obtain ⟨q1, q2⟩ := k1
    by_cases k2 : b = 1 ∨ a = b
    · have hk : andG first l a b = (l, a) := by
        unfold andG andK
        rw [hM, hm, if_neg, if_pos k2.symm.symm]
        rw [not_or]
        refine ⟨q1, fun e => ?_⟩
        rcases Nat.lt_or_ge b a with h | h
        · exact q2 (by omega) ((half_eq h).1 e)
        · have : a = b := by omega
          subst this
          rw [xor1_nat] at e; split at e <;> omega
      rw [hk]
      by_cases q3 : a = b
      · subst q3
        by_cases q4 : a = 1
        · subst q4
          simp (disch := omega) [h0, q1, -Int.natCast_ediv]
          exact .back (by simp)
        · have q4' : ((a : Int) = 1) = False := eq_false (by omega)
          simp (disch := omega) [h0, q1, q4, q4', -Int.natCast_ediv]
          exact .back (by simp)
      · have q4 : b = 1 := by omega
        subst q4
        have q5 := q2 q3
        have q6 : ((a : Int) / 2 = 0) = False := eq_false (by omega)
        have q7 : ((a : Int) = 1) = False := eq_false (by omega)
        have q8 : (a < 1) = False := eq_false (by omega)
        have q9 : ((a : Int) < 1) = False := eq_false (by omega)
        simp (disch := omega) [h0, q1, q3, q5, q6, q7, q8, q9, -Int.natCast_ediv]
        exact .back (by simp)
    · rw [not_or] at k2
      obtain ⟨q3, q4⟩ := k2
      have q5 := q2 q4
      have q6 : ((a : Int) / 2 = (b : Int) / 2) = False := eq_false (by omega)
      have q7 : ((b : Int) = 1) = False := eq_false (by omega)
      simp (disch := omega) [h0, q1, q3, q4, q5, q6, q7, -Int.natCast_ediv]
      have hG : andG first l a b = match idxP (((a : Nat) : Int), ((b : Nat) : Int)) l 0 with
          | some i => (l, 2 * (first + i))
          | none => (l ++ [(((a : Nat) : Int), ((b : Nat) : Int))], 2 * (first + l.length)) := by
        unfold andG
        have hk : andK a b = none := by
          unfold andK
          rw [if_neg, if_neg (by rw [not_or]; exact ⟨q3, q4⟩)]
          rw [not_or]
          exact ⟨q1, fun e => q5 ((half_eq (by omega)).1 e)⟩
        rw [hM, hm, hk]
        rfl
      have key : ∀ n i : Nat, i + n = l.length → Fins Try.prog Γ (r09_and_L3 (.list false 2 (l.map ePr)) (.int .i64 first) (.int .i64 a) (.int .i64 b) (.ptr 0 0) (.int .i64 i) [.cells [.sl 1 0 0, .int .i64 0], .row 2 t_2_int_2 [] none true false])
          (.ret (eMade (match idxP (((a : Nat) : Int), ((b : Nat) : Int)) (l.drop i) i with
          | some i => (l, 2 * (first + i))
          | none => (l ++ [(((a : Nat) : Int), ((b : Nat) : Int))], 2 * (first + l.length))))) := by
        intro n
        induction n with
        | zero =>
          intro i hi
          have p1 : ¬ i < l.length := by omega
          rw [List.drop_eq_nil_of_le (by omega), idxP]
          refine .go 60 ?_
          by_cases e : l = []
          · subst e
            simp (disch := (first | omega | (simp; omega))) [p1]
            exact .back (by simp)
          · simp (disch := (first | omega | (simp; omega))) [p1, e]
            exact .back (by simp; rw [List.take_of_length_le (by simp)])
        | succ n ih =>
          intro i hi
          have p1 : i < l.length := by omega
          have h5 := eqData_pr' l[i].1 l[i].2 a b
          have hh := ih (i + 1) (by omega)
          rw [List.drop_eq_getElem_cons p1, idxP]
          refine .go 60 ?_
          by_cases h3 : l[i] = ((a : Int), (b : Int))
          · have h6 : ((l[i].1, l[i].2) = ((a : Int), (b : Int))) = True := eq_true h3
            rw [if_pos h3]
            simp (disch := omega) [p1, h5, h6, -Prod.mk.injEq]
            exact .back (by simp)
          · have h6 : ((l[i].1, l[i].2) = ((a : Int), (b : Int))) = False := eq_false h3
            rw [if_neg h3]
            simp (disch := omega) [p1, h5, h6, -Prod.mk.injEq]
            refine .reLoop ?_
            simp at hh ⊢
            exact hh
      rw [hG]
      refine .inLoop ?_
      have hh := key l.length 0 (by omega)
      simp at hh ⊢
      exact hh
set_option maxRecDepth 8000 in
theorem p_r09_and (l : List (Int × Int)) (hl : l.length < 2 ^ 20) (first : Nat) (hfi : first < 2 ^ 20) (a b : Nat) (ha : a < 2 ^ 30) (hb : b < 2 ^ 30) :
    PureCon Try.prog Γ n_r09_and [.list false 2 (l.map ePr), .int .i64 first, .int .i64 a, .int .i64 b] (eMade (andG first l a b)) := by
  by_cases h : a < b
  · have hc := p_r09_andGe (Γ := Γ) l hl first hfi b a hb (by omega)
    rw [andG_comm]
    refine .run 60 c_r09_and (by simp) ?_
    simp [h]
    refine .call 60 (by simp) hc ?_
    simp
    exact .back (by simp)
  · exact p_r09_andGe l hl first hfi a b ha (by omega)
end Go.Proofs.Ytdmedcdloeljeaa
/- Chapter 9's reference: what is closed, as a function; it is the program's. No program in sight. -/
namespace Go.Proofs.Ytdmedcdloeljeaa
open Go.AM Go.Proofs
set_option linter.unusedSimpArgs false
set_option linter.unusedVariables false

/-- The reference's second pass: it appends. -/
def closR (first : Nat) (led : List Bool) : List (Int × Int) → Nat → List (Int × Int) → List Nat → List (Int × Int) × List Nat
  | [], _, l, to => (l, to)
  | p :: ps, i, l, to =>
    if led.getD (first + i) false = true then closR first led ps (i + 1) (l ++ [newA (to ++ [2 * (first + l.length)]) p]) (to ++ [2 * (first + l.length)])
    else closR first led ps (i + 1) l (to ++ [2 * (first + l.length)])
def Gr.closed (x : Gr) : Gr := x.mk2 (closR x.first x.led x.ands 0 [] (ids x.first))
/-- The same on what stays. -/
def Agree (first : Nat) (led : List Bool) (to2 to : List Nat) : Prop := to2.length = to.length ∧ ∀ n, n < to.length → Live first led n → to2.getD n 0 = to.getD n 0
theorem bec_agree {first : Nat} {led : List Bool} {to2 to : List Nat} (h : Agree first led to2 to) {a : Nat} (ha : a / 2 < to.length) (hl : Live first led (a / 2)) : bec to2 a = bec to a := by
  unfold bec; rw [h.2 _ ha hl]
theorem Agree.push {first : Nat} {led : List Bool} {to2 to : List Nat} (h : Agree first led to2 to) {c d : Nat} (hc : Live first led to.length → c = d) : Agree first led (to2 ++ [c]) (to ++ [d]) := by
  have h1 := h.1
  refine ⟨by simp [h.1], fun n hn hl => ?_⟩
  by_cases h2 : n < to.length
  · rw [getD_push (by omega), getD_push h2, h.2 n h2 hl]
  · have e : n = to.length := by simp at hn; omega
    rw [getD_new (by omega), getD_new e]
    subst e
    exact hc hl
theorem closR_eq {first : Nat} {led : List Bool} {ands : List (Int × Int)} (L : LedOk first led ands) : ∀ n i l to to2, i + n = ands.length → CloI first led ands i l to → Agree first led to2 to →
    (closR first led (ands.drop i) i l to2).1 = (closS first led (ands.drop i) i l to).1 ∧ Agree first led (closR first led (ands.drop i) i l to2).2 (closS first led (ands.drop i) i l to).2
  | 0, i, l, to, to2, hi, h, ha => by
    have : i = ands.length := by omega
    subst this
    rw [List.drop_length, closS, closR]; exact ⟨rfl, ha⟩
  | n + 1, i, l, to, to2, hi, h, ha => by
    have h1 : i < ands.length := by omega
    have hlen := h.len
    rw [List.drop_eq_getElem_cons h1, closS, closR]
    by_cases hl : led.getD (first + i) false = true
    · rw [if_pos hl, if_pos hl]
      obtain ⟨e, n1, n2⟩ := h.new L h1 hl
      obtain ⟨c1, c2⟩ := L.c i h1 hl
      have h1' := ha.1
      have en : newA (to2 ++ [2 * (first + l.length)]) ands[i] = newA to ands[i] := by
        unfold newA
        rw [bec_push (by omega), bec_push (by omega), bec_agree ha (by omega) (.inr c1), bec_agree ha (by omega) (.inr c2)]
      rw [e, en]
      exact closR_eq L n (i + 1) _ _ _ (by omega) (h.push L h1 hl) (ha.push fun _ => rfl)
    · rw [if_neg hl, if_neg hl]
      refine closR_eq L n (i + 1) _ _ _ (by omega) (h.skip L h1 hl 0) (ha.push fun h2 => ?_)
      exfalso
      rw [hlen] at h2
      rcases h2 with h2 | h2
      · omega
      · exact hl h2
theorem closed_eq {x : Gr} (ok : x.Ok) (s : AndsS x.first x.ands) : sameG x.nor2 x.closed = true := by
  have h := closR_eq (Gr.ledOk ok s) x.ands.length 0 [] (ids x.first) (ids x.first) (by omega) CloI.zero ⟨rfl, fun _ _ _ => rfl⟩
  rw [List.drop_zero] at h
  have I := Gr.cloI ok s
  have hb : ∀ a ∈ x.next ++ x.outs, bec (closR x.first x.led x.ands 0 [] (ids x.first)).2 a.toNat = bec (closS x.first x.led x.ands 0 [] (ids x.first)).2 a.toNat := fun a ha =>
    bec_agree h.2 (by rw [I.len]; exact lit_ok ok ha) (.inr (led_root ok ha))
  have e1 : becs (closR x.first x.led x.ands 0 [] (ids x.first)).2 x.next = becs (closS x.first x.led x.ands 0 [] (ids x.first)).2 x.next :=
    List.map_congr_left fun a ha => hb a (List.mem_append_left _ ha)
  have e2 : becs (closR x.first x.led x.ands 0 [] (ids x.first)).2 x.outs = becs (closS x.first x.led x.ands 0 [] (ids x.first)).2 x.outs :=
    List.map_congr_left fun a ha => hb a (List.mem_append_right _ ha)
  simp only [sameG, Gr.nor2, Gr.closed, Gr.mk2, e1, e2, h.1, decide_true, Bool.and_self]
end Go.Proofs.Ytdmedcdloeljeaa
/- Chapter 9's reference: closed. -/
namespace Go.Proofs.Ytdmedcdloeljeaa
open Go.AM Go.Proofs
variable {Γ : Nat → Option AV}
set_option linter.unusedSimpArgs false
set_option linter.unusedVariables false

/-- The same, as it lies in memory. -/
def Gr.closedK (x : Gr) : Gr := ⟨x.ins, x.closed.next, x.init, x.closed.ands, x.closed.outs, 1, x.ki, if x.closed.ands = [] then 0 else 2, 1, .self, x.hi, by split; · rename_i h; rw [h]; exact .nil
                                                                                                                                                              · exact .self, .self⟩
theorem closedK_same (x : Gr) : sameG x.closedK x.closed = true := by simp [sameG, Gr.closedK, Gr.closed, Gr.mk2]
abbrev hX (x : Gr) (to : List Nat) (av : AV) (tl : List Ob) : List Ob := cellG x :: .cells [.int .i64 0, .sl 2 0 0, .sl 3 0 0, .sl 4 0 0, .sl 5 0 0] :: .row 1 t_int [] none true false :: .row 1 t_int [] none true false :: .row 2 t_2_int_2 [] none true false :: .row 1 t_int [] none true false ::
  .row 1 t_bool (x.led.map .bool) none true false :: .row 1 t_int (to.map iN) none true false :: .cells [.int .i64 x.ins, .list true 0 [], .list false x.ki (x.init.map i64), av, .list true 0 []] ::
  .row 1 t_int [] none true false :: .row 1 t_int [] none true false :: .row 2 t_2_int_2 [] none true false :: .row 1 t_int [] none true false :: tl

set_option maxHeartbeats 4000000 in
set_option maxRecDepth 8000 in
/-- From the second loop on, where an and is there. -/
theorem f_clB (x : Gr) (ok : x.Ok) : ∀ n i : Nat, i + n = x.ands.length → ∀ l to, l ≠ [] → l.length ≤ i → to.length = x.first + i → (∀ z ∈ to, z < 2 ^ 20) → x.closed = x.mk2 (closR x.first x.led (x.ands.drop i) i l to) →
    Fins Try.prog Γ (r09_closed_L3 (.ptr 0 0) (.ptr 1 0) (.sl 6 0 x.led.length) (.sl 7 0 to.length) (.ptr 8 0) (.int .i64 i) (hX x to (.sl 13 0 l.length) [.row 2 t_2_int_2 (l.map ePr) none true false])) (.ret (eGr x.closedK)) := by
  have o1 := ok.ins
  have o3 := ok.sum
  have o4 := ok.outsL
  have hfb : x.first ≤ 4001 := by unfold Gr.first; omega
  have hF := p_r09_First (Γ := Γ) x o1.1 o1.2 (by omega)
  have hll := led_len x
  have hall : x.all = x.first + x.ands.length := rfl
  intro n
  induction n with
  | zero =>
    intro i hi l to hl hli hto hz hc
    have q1 : ¬ i < x.ands.length := by omega
    rw [List.drop_eq_nil_of_le (by omega), closR] at hc
    have b1 := p_r09_becomes (Γ := Γ) to (fun z h => by have := hz z h; omega) x.next x.hn (by omega) (fun a ha => by have := ok.next a ha; have : x.lits = 2 * x.all := rfl; omega) (by omega)
    have b2 := p_r09_becomes (Γ := Γ) to (fun z h => by have := hz z h; omega) x.outs x.ho (by omega) (fun a ha => by have := ok.outs a ha; have : x.lits = 2 * x.all := rfl; omega) (by omega)
    refine .go 120 ?_
    simp [q1]
    refine .call 120 (by simp) b1 ?_
    simp
    refine .call 120 (by simp) b2 ?_
    simp
    have r1 : x.closed.next = (becs to x.next).map fun n : Nat => (n : Int) := by rw [hc]; rfl
    have r2 : x.closed.outs = (becs to x.outs).map fun n : Nat => (n : Int) := by rw [hc]; rfl
    have r3 : x.closed.ands = l := by rw [hc]; rfl
    have r4 : eGr x.closedK = .agg [.int .i64 x.ins, .list false 1 ((becs to x.next).map iN), .list false x.ki (x.init.map i64), .list false 2 (l.map ePr), .list false 1 ((becs to x.outs).map iN)] := by
      unfold Gr.closedK eGr
      simp only [r1, r2, r3, hl, if_false, List.map_map]
      rfl
    rw [r4]
    exact .back (by simp <;> (constructor <;> rw [List.take_of_length_le (by simp)]))
  | succ n ih =>
    intro i hi l to hl hli hto hz hc
    have q1 : i < x.ands.length := by omega
    have q2 := eq_true (x.ha.of q1)
    obtain ⟨⟨a1, a2⟩, a3, a4⟩ := ok.ands i q1
    obtain ⟨p, hp⟩ := Int.eq_ofNat_of_zero_le a1
    obtain ⟨q, hq⟩ := Int.eq_ofNat_of_zero_le a3
    have q3 : x.first + i < x.led.length := by rw [hll]; omega
    have e1 : (x.first : Int) + i = ((x.first + i : Nat) : Int) := by omega
    have hz2 : ∀ z ∈ to ++ [2 * (x.first + l.length)], z < 2 ^ 20 := fun z h => by
      rcases List.mem_append.1 h with h | h
      · exact hz z h
      · simp at h; omega
    have c1 := p_r09_become (Γ := Γ) (to ++ [2 * (x.first + l.length)]) (fun z h => by have := hz2 z h; omega) p (by simp; omega) (by omega)
    have c2 := p_r09_become (Γ := Γ) (to ++ [2 * (x.first + l.length)]) (fun z h => by have := hz2 z h; omega) q (by simp; omega) (by omega)
    rw [List.drop_eq_getElem_cons q1, closR, List.getD_eq_getElem?_getD, List.getElem?_eq_getElem q3] at hc
    simp only [Option.getD_some] at hc
    refine .go 120 ?_
    simp (disch := omega) [q1]
    refine .dr 120 ?_
    simp
    refine .call (by simp) hF ?_
    simp (disch := omega)
    refine .call 120 (by simp) hF ?_
    have e2 : 2 * ((x.first : Int) + l.length) = ((2 * (x.first + l.length) : Nat) : Int) := by omega
    cases hb : x.led[x.first + i] with
    | false =>
      rw [hb, if_neg (by simp)] at hc
      have hh := ih (i + 1) (by omega) l (to ++ [2 * (x.first + l.length)]) hl (by omega) (by simp; omega) hz2 hc
      simp (disch := omega) [e1, q3, hb, -Int.natCast_add]
      refine .reLoop ?_
      simp
      refine .reset (i := 7) rfl (by simp) (by simp) (by simp) ?_
      simp [hX] at hh ⊢
      exact hh
    | true =>
      rw [hb, if_pos rfl] at hc
      have hh := ih (i + 1) (by omega) _ (to ++ [2 * (x.first + l.length)]) (by simp) (by simp; omega) (by simp; omega) hz2 hc
      simp (disch := omega) [e1, q3, hb, -Int.natCast_add]
      refine .dr 120 ?_
      simp (disch := omega) [q1, q2, hp]
      refine .call (by simp; rw [List.take_of_length_le (by simp)]; simp [iN]) c1 ?_
      simp (disch := omega) [q1, q2, hq]
      refine .call (by simp; rw [List.take_of_length_le (by simp)]; simp [iN]) c2 ?_
      have en : newA (to ++ [2 * (x.first + l.length)]) x.ands[i] = (((bec (to ++ [2 * (x.first + l.length)]) p : Nat) : Int), ((bec (to ++ [2 * (x.first + l.length)]) q : Nat) : Int)) := by simp [newA, hp, hq]
      rw [en] at hh
      simp (disch := (first | omega | (simp; omega)))
      refine .reLoop ?_
      simp
      refine .reset (i := 7) rfl (by simp) (by simp) (by simp) ?_
      refine .reset (i := 13) rfl (by simp) (by simp) (by simp) ?_
      simp [hX] at hh ⊢
      exact hh
set_option maxHeartbeats 4000000 in
set_option maxRecDepth 8000 in
/-- So, where none is there yet. -/
theorem f_clA (x : Gr) (ok : x.Ok) : ∀ n i : Nat, i + n = x.ands.length → ∀ to, to.length = x.first + i → (∀ z ∈ to, z < 2 ^ 20) → x.closed = x.mk2 (closR x.first x.led (x.ands.drop i) i [] to) →
    Fins Try.prog Γ (r09_closed_L3 (.ptr 0 0) (.ptr 1 0) (.sl 6 0 x.led.length) (.sl 7 0 to.length) (.ptr 8 0) (.int .i64 i) (hX x to (.list true 0 []) [])) (.ret (eGr x.closedK)) := by
  have o1 := ok.ins
  have o3 := ok.sum
  have o4 := ok.outsL
  have hfb : x.first ≤ 4001 := by unfold Gr.first; omega
  have hF := p_r09_First (Γ := Γ) x o1.1 o1.2 (by omega)
  have hll := led_len x
  have hall : x.all = x.first + x.ands.length := rfl
  intro n
  induction n with
  | zero =>
    intro i hi to hto hz hc
    have q1 : ¬ i < x.ands.length := by omega
    rw [List.drop_eq_nil_of_le (by omega), closR] at hc
    have b1 := p_r09_becomes (Γ := Γ) to (fun z h => by have := hz z h; omega) x.next x.hn (by omega) (fun a ha => by have := ok.next a ha; have : x.lits = 2 * x.all := rfl; omega) (by omega)
    have b2 := p_r09_becomes (Γ := Γ) to (fun z h => by have := hz z h; omega) x.outs x.ho (by omega) (fun a ha => by have := ok.outs a ha; have : x.lits = 2 * x.all := rfl; omega) (by omega)
    refine .go 120 ?_
    simp [q1]
    refine .call 120 (by simp) b1 ?_
    simp
    refine .call 120 (by simp) b2 ?_
    simp
    have r1 : x.closed.next = (becs to x.next).map fun n : Nat => (n : Int) := by rw [hc]; rfl
    have r2 : x.closed.outs = (becs to x.outs).map fun n : Nat => (n : Int) := by rw [hc]; rfl
    have r3 : x.closed.ands = [] := by rw [hc]; rfl
    have r4 : eGr x.closedK = .agg [.int .i64 x.ins, .list false 1 ((becs to x.next).map iN), .list false x.ki (x.init.map i64), .list false 0 [], .list false 1 ((becs to x.outs).map iN)] := by
      unfold Gr.closedK eGr
      simp only [r1, r2, r3, if_true, List.map_map]
      rfl
    rw [r4]
    exact .back (by simp <;> (constructor <;> rw [List.take_of_length_le (by simp)]))
  | succ n ih =>
    intro i hi to hto hz hc
    have q1 : i < x.ands.length := by omega
    have q2 := eq_true (x.ha.of q1)
    obtain ⟨⟨a1, a2⟩, a3, a4⟩ := ok.ands i q1
    obtain ⟨p, hp⟩ := Int.eq_ofNat_of_zero_le a1
    obtain ⟨q, hq⟩ := Int.eq_ofNat_of_zero_le a3
    have q3 : x.first + i < x.led.length := by rw [hll]; omega
    have e1 : (x.first : Int) + i = ((x.first + i : Nat) : Int) := by omega
    have hz2 : ∀ z ∈ to ++ [2 * (x.first + ([] : List (Int × Int)).length)], z < 2 ^ 20 := fun z h => by
      rcases List.mem_append.1 h with h | h
      · exact hz z h
      · simp at h; omega
    have c1 := p_r09_become (Γ := Γ) (to ++ [2 * (x.first + ([] : List (Int × Int)).length)]) (fun z h => by have := hz2 z h; omega) p (by simp; omega) (by omega)
    have c2 := p_r09_become (Γ := Γ) (to ++ [2 * (x.first + ([] : List (Int × Int)).length)]) (fun z h => by have := hz2 z h; omega) q (by simp; omega) (by omega)
    rw [List.drop_eq_getElem_cons q1, closR, List.getD_eq_getElem?_getD, List.getElem?_eq_getElem q3] at hc
    simp only [Option.getD_some] at hc
    refine .go 120 ?_
    simp (disch := omega) [q1]
    refine .dr 120 ?_
    simp
    refine .call (by simp) hF ?_
    simp (disch := omega)
    refine .call 120 (by simp) hF ?_
    have e2 : 2 * ((x.first : Int) + ([] : List (Int × Int)).length) = ((2 * (x.first + ([] : List (Int × Int)).length) : Nat) : Int) := by omega
    cases hb : x.led[x.first + i] with
    | false =>
      rw [hb, if_neg (by simp)] at hc
      have hh := ih (i + 1) (by omega) (to ++ [2 * (x.first + ([] : List (Int × Int)).length)]) (by simp; omega) hz2 hc
      simp (disch := omega) [e1, q3, hb, -Int.natCast_add]
      refine .reLoop ?_
      simp
      refine .reset (i := 7) rfl (by simp) (by simp) (by simp) ?_
      simp [hX] at hh ⊢
      exact hh
    | true =>
      rw [hb, if_pos rfl] at hc
      have hh := f_clB (Γ := Γ) x ok n (i + 1) (by omega) _ (to ++ [2 * (x.first + ([] : List (Int × Int)).length)]) (by simp) (by simp) (by simp; omega) hz2 hc
      simp (disch := omega) [e1, q3, hb, -Int.natCast_add]
      refine .dr 120 ?_
      simp (disch := omega) [q1, q2, hp]
      refine .call (by simp; rw [List.take_of_length_le (by simp)]; simp [iN]) c1 ?_
      simp (disch := omega) [q1, q2, hq]
      refine .call (by simp; rw [List.take_of_length_le (by simp)]; simp [iN]) c2 ?_
      have en : newA (to ++ [2 * (x.first + ([] : List (Int × Int)).length)]) x.ands[i] = (((bec (to ++ [2 * (x.first + ([] : List (Int × Int)).length)]) p : Nat) : Int), ((bec (to ++ [2 * (x.first + ([] : List (Int × Int)).length)]) q : Nat) : Int)) := by simp [newA, hp, hq]
      rw [en] at hh
      simp (disch := (first | omega | (simp; omega)))
      refine .reLoop ?_
      simp
      refine .reset (i := 7) rfl (by simp) (by simp) (by simp) ?_
      simp [hX] at hh ⊢
      exact hh
set_option maxHeartbeats 2000000 in
set_option maxRecDepth 8000 in
theorem p_r09_closed (x : Gr) (ok : x.Ok) : PureCon Try.prog Γ n_r09_closed [eGr x] (eGr x.closedK) := by
  have o1 := ok.ins
  have o3 := ok.sum
  have o4 := ok.outsL
  have hfb : x.first ≤ 4001 := by unfold Gr.first; omega
  have hF := p_r09_First (Γ := Γ) x o1.1 o1.2 (by omega)
  have key : ∀ n j : Nat, j + n = x.first → Fins Try.prog Γ (r09_closed_L11 (.ptr 0 0) (.ptr 1 0) (.sl 6 0 x.led.length) (.sl 7 0 (ids j).length) (.ptr 8 0) (.int .i64 j) (hX x (ids j) (.list true 0 []) [])) (.ret (eGr x.closedK)) := by
    intro n
    induction n with
    | zero =>
      intro j hj
      have e : j = x.first := by omega
      subst e
      have hh := f_clA (Γ := Γ) x ok x.ands.length 0 (by omega) (ids x.first) (by simp) (fun z hz => by simp [ids] at hz; omega) (by rw [List.drop_zero]; rfl)
      refine .go 60 ?_
      simp
      refine .call 60 (by simp) hF ?_
      simp
      refine .inLoop ?_
      simp
      simp [hX] at hh ⊢
      exact hh
    | succ n ih =>
      intro j hj
      have q1 : j < x.first := by omega
      have hh := ih (j + 1) (by omega)
      rw [ids_succ] at hh
      refine .go 60 ?_
      simp
      refine .call 60 (by simp) hF ?_
      simp (disch := (first | omega | (simp; omega))) [q1]
      refine .reLoop ?_
      simp
      refine .reset (i := 7) rfl (by simp) (by simp) (by simp) ?_
      simp [hX] at hh ⊢
      exact hh
  refine .run 120 c_r09_closed (by simp) ?_
  simp
  refine .call 120 (by simp) (p_r09_Led x ok) ?_
  simp
  refine .inLoop ?_
  have hh := key x.first 0 (by omega)
  simp [hX, ids] at hh ⊢
  exact hh
end Go.Proofs.Ytdmedcdloeljeaa
/- Chapter 9's reference: Normal. -/
namespace Go.Proofs.Ytdmedcdloeljeaa
open Go.AM Go.Proofs
variable {Γ : Nat → Option AV}
set_option linter.unusedSimpArgs false
set_option linter.unusedVariables false

/-- What the first pass ends with, as it lies in memory. -/
def Gr.nor1K (g : Gr) : Gr := ⟨g.ins, g.nor1.next, g.init, g.nor1.ands, g.nor1.outs, 1, g.ki, 2, 1, .self, g.hi, .self, .self⟩
theorem nor1K_same (g : Gr) : sameG g.nor1 g.nor1K = true := by simp [sameG, Gr.nor1K, Gr.nor1, Gr.mk2]
theorem nor1K_ok {g : Gr} (ok : g.Ok) : g.nor1K.Ok := Gr.ok_of (by rw [← (sameG_led (nor1K_same g)).2.1]; exact Gr.check_of (nor1_ok ok).1)
abbrev hN (g : Gr) (to : List Nat) : List Ob := [cellG g, .cells [.int .i64 0, .sl 2 0 0, .sl 3 0 0, .sl 4 0 0, .sl 5 0 0], .row 1 t_int [] none true false, .row 1 t_int [] none true false, .row 2 t_2_int_2 [] none true false, .row 1 t_int [] none true false,
  .row 1 t_int (to.map iN) none true false]

set_option maxHeartbeats 4000000 in
set_option maxRecDepth 8000 in
theorem f_rnB (g : Gr) (ok : g.Ok) : ∀ n i : Nat, i + n = g.ands.length → ∀ l to, l.length ≤ i → to.length = g.first + i → ToOk g.first l to → g.nor1 = g.mk2 (normS g.first (g.ands.drop i) l to) →
    Fins Try.prog Γ (r09_Normal_L1 (.ptr 0 0) (.ptr 1 0) (.sl 6 0 to.length) (.list false 2 (l.map ePr)) (.int .i64 i) (hN g to)) (.ret (.tup [eGr g.nor1K.closedK, .int .i64 0])) := by
  have o1 := ok.ins
  have o3 := ok.sum
  have o4 := ok.outsL
  have hfb : g.first ≤ 4001 := by unfold Gr.first; omega
  have hF := p_r09_First (Γ := Γ) g o1.1 o1.2 (by omega)
  have hall : g.all = g.first + g.ands.length := rfl
  have hlits : g.lits = 2 * g.all := rfl
  intro n
  induction n with
  | zero =>
    intro i hi l to hli hto hz hc
    have q1 : ¬ i < g.ands.length := by omega
    rw [List.drop_eq_nil_of_le (by omega), normS] at hc
    have b1 := p_r09_becomes (Γ := Γ) to (fun z h => by have := hz.lt z h; omega) g.next g.hn (by omega) (fun a ha => by have := ok.next a ha; omega) (by omega)
    have b2 := p_r09_becomes (Γ := Γ) to (fun z h => by have := hz.lt z h; omega) g.outs g.ho (by omega) (fun a ha => by have := ok.outs a ha; omega) (by omega)
    have b3 := p_r09_closed (Γ := Γ) g.nor1K (nor1K_ok ok)
    have r1 : g.nor1.next = (becs to g.next).map fun n : Nat => (n : Int) := by rw [hc]; rfl
    have r2 : g.nor1.outs = (becs to g.outs).map fun n : Nat => (n : Int) := by rw [hc]; rfl
    have r3 : g.nor1.ands = l := by rw [hc]; rfl
    have r4 : eGr g.nor1K = .agg [.int .i64 g.ins, .list false 1 ((becs to g.next).map iN), .list false g.ki (g.init.map i64), .list false 2 (l.map ePr), .list false 1 ((becs to g.outs).map iN)] := by
      unfold Gr.nor1K eGr
      simp only [r1, r2, r3, List.map_map]
      rfl
    rw [r4] at b3
    refine .go 120 ?_
    simp [q1]
    refine .dr 120 ?_
    simp
    refine .call (by simp) b1 ?_
    simp
    refine .call (by simp) b2 ?_
    simp
    refine .call (by simp <;> (constructor <;> rw [List.take_of_length_le (by simp)])) b3 ?_
    generalize g.nor1K.closedK = Y at *
    by_cases hE : Y.next = [] ∧ Y.init = [] ∧ Y.ands = [] ∧ Y.outs = []
    · obtain ⟨y1, y2, y3, y4⟩ := hE
      simp [y1, y2, y3, y4]
      exact .back (by simp [y1, y2, y3, y4])
    · simp [hE]
      exact .back (by simp)
  | succ n ih =>
    intro i hi l to hli hto hz hc
    have q1 : i < g.ands.length := by omega
    have q2 := eq_true (g.ha.of q1)
    obtain ⟨⟨a1, a2⟩, a3, a4⟩ := ok.ands i q1
    rw [List.drop_eq_getElem_cons q1, normS] at hc
    obtain ⟨p, hp⟩ := Int.eq_ofNat_of_zero_le a1
    obtain ⟨q, hq⟩ := Int.eq_ofNat_of_zero_le a3
    rw [hp, hq] at hc
    simp only [Int.toNat_natCast] at hc
    have c1 := p_r09_become (Γ := Γ) to (fun z h => by have := hz.lt z h; omega) p (by omega) (by omega)
    have c2 := p_r09_become (Γ := Γ) to (fun z h => by have := hz.lt z h; omega) q (by omega) (by omega)
    have ha := bec_lt hz.lt (a := p) (by omega)
    have hb := bec_lt hz.lt (a := q) (by omega)
    obtain ⟨hlt, hge⟩ := andG_lt ha hb (by unfold Gr.first; omega)
    have hal := andG_len g.first l (bec to p) (bec to q)
    have c3 := p_r09_and (Γ := Γ) l (by omega) g.first (by omega) (bec to p) (bec to q) (by omega) (by omega)
    have hh := ih (i + 1) (by omega) _ _ (by omega) (by simp; omega) ⟨fun z hz2 => by
      rcases List.mem_append.1 hz2 with hz2 | hz2
      · have := hz.lt z hz2; omega
      · simp at hz2; omega⟩ hc
    generalize andG g.first l (bec to p) (bec to q) = R at *
    refine .go 120 ?_
    simp (disch := omega) [q1]
    refine .dr 120 ?_
    simp
    refine .quiet hF (by simp) (by simp) ?_
    simp (disch := omega) [q1, q2, hp]
    refine .quiet c1 (by simp) (by simp) ?_
    simp (disch := omega) [q1, q2, hq]
    refine .quiet c2 (by simp) (by simp) ?_
    simp (disch := omega)
    refine .quiet c3 (by simp) (by simp) ?_
    simp (disch := (first | omega | (simp; omega)))
    refine .reLoop ?_
    simp
    refine .drop 7 rfl (by simp) (by simp) (by simp) ?_
    refine .reset (i := 6) rfl (by simp) (by simp) (by simp) ?_
    simp [hN] at hh ⊢
    exact hh
set_option maxHeartbeats 2000000 in
set_option maxRecDepth 8000 in
theorem p_r09_Normal (g : Gr) (hf : g.few) : ∃ b : Gr, sameG g.normal b = true ∧ PureCon Try.prog Γ n_r09_Normal [eGr g] (.tup [eGr b, .int .i64 g.check]) := by
  by_cases hc : g.check = 0
  · have ok := Gr.ok_of hc
    have o1 := ok.ins
    have o3 := ok.sum
    have o4 := ok.outsL
    have hfb : g.first ≤ 4001 := by unfold Gr.first; omega
    have hF := p_r09_First (Γ := Γ) g o1.1 o1.2 (by omega)
    refine ⟨g.nor1K.closedK, ?_, ?_⟩
    · have e : g.normal = g.nor1.nor2 := by unfold Gr.normal; rw [if_pos hc]
      obtain ⟨k1, k2, k3⟩ := nor1_ok ok
      have hs := nor1K_same g
      obtain ⟨g1, g2, g3, g4, g5⟩ := sameG_eq hs
      obtain ⟨l1, l2, l3, l4, l5, l6⟩ := sameG_led hs
      rw [e]
      refine sameG_trans l6 (sameG_trans (closed_eq (nor1K_ok ok) ?_) ?_)
      · rw [← l3, ← g4, show g.nor1.first = g.first from mk2_first _ _]; exact k2
      · obtain ⟨h1, h2, h3, h4, h5⟩ := sameG_eq (closedK_same g.nor1K)
        simp [sameG, h1, h2, h3, h4, h5]
    · have key : ∀ n j : Nat, j + n = g.first → Fins Try.prog Γ (r09_Normal_L9 (.ptr 0 0) (.ptr 1 0) (.sl 6 0 (ids j).length) (.sl 7 0 0) (.int .i64 j) (hN g (ids j) ++ [.row 2 t_2_int_2 [] none true false])) (.ret (.tup [eGr g.nor1K.closedK, .int .i64 0])) := by
        intro n
        induction n with
        | zero =>
          intro j hj
          have e : j = g.first := by omega
          subst e
          have hh := f_rnB (Γ := Γ) g ok g.ands.length 0 (by omega) [] (ids g.first) (by simp) (by simp) (ids_ok _) (by rw [List.drop_zero]; rfl)
          refine .go 60 ?_
          simp
          refine .call 60 (by simp) hF ?_
          simp
          refine .inLoop ?_
          simp
          refine .trees [6] ?_
          simp
          refine .drop 7 rfl (by simp) (by simp) (by simp) ?_
          simp [hN] at hh ⊢
          exact hh
        | succ n ih =>
          intro j hj
          have q1 : j < g.first := by omega
          have hh := ih (j + 1) (by omega)
          rw [ids_succ] at hh
          refine .go 60 ?_
          simp
          refine .call 60 (by simp) hF ?_
          simp (disch := (first | omega | (simp; omega))) [q1]
          refine .reLoop ?_
          simp
          refine .reset (i := 6) rfl (by simp) (by simp) (by simp) ?_
          simp [hN] at hh ⊢
          exact hh
      refine .run 120 c_r09_Normal (by simp) ?_
      simp
      refine .call 120 (by simp) (p_r09_Check g hf) ?_
      simp [hc]
      refine .inLoop ?_
      have hh := key g.first 0 (by omega)
      simp [hN, ids] at hh ⊢
      exact hh
  · refine ⟨gr0, ?_, ?_⟩
    · unfold Gr.normal; rw [if_neg hc]; exact sameG_refl _
    · refine .run 120 c_r09_Normal (by simp) ?_
      simp
      refine .call 120 (by simp) (p_r09_Check g hf) ?_
      simp [hc, gr0]
      exact .back (by simp [hc])
end Go.Proofs.Ytdmedcdloeljeaa
/- The law: AigTells. -/
namespace Go.Proofs.Ytdmedcdloeljeaa
open Go.AM Go.Proofs
variable {Γ : Nat → Option AV}
set_option linter.unusedSimpArgs false
set_option linter.unusedVariables false

set_option maxHeartbeats 4000000 in
set_option maxRecDepth 8000 in
theorem l_AigTells (g o : Gr) : PureCon Try.prog Γ n_w09_AigTells [eGr g, eGr o] (.bool true) := by
  refine .run 120 c_w09_AigTells (by simp) ?_
  simp
  refine .call 120 (by simp) p_w09_works ?_
  simp
  refine .call 120 (by simp) (p_w09_Few g) ?_
  cases hF : g.fewB with
  | false => simp; exact .back (by simp)
  | true =>
    simp
    refine .call 120 (by simp) (p_w09_Few o) ?_
    cases hG : o.fewB with
    | false => simp; exact .back (by simp)
    | true =>
      have hf := Gr.fewB_few hF
      obtain ⟨b, hb, cN⟩ := p_r09_Normal (Γ := Γ) g hf
      simp
      refine .call 120 (by simp) (p_aig_Normal g hf) ?_
      simp
      refine .call 120 (by simp) cN ?_
      simp
      refine .call 120 (by simp) (p_r09_Check g hf) ?_
      simp
      refine .call 120 (by simp) (p_r09_Strict g hf) ?_
      simp
      have cS := p_r09_Same (Γ := Γ) g.normal b normal_few
      rw [hb] at cS
      refine .call 120 (by simp) cS ?_
      simp
      refine .call 120 (by simp) (p_r09_Same g o hf) ?_
      simp
      refine .call 120 (by simp) (p_aig_Check g hf) ?_
      simp
      refine .call 120 (by simp) (p_aig_Strict g hf) ?_
      simp
      refine .call 120 (by simp) (p_aig_Same g o hf) ?_
      simp
      exact .back (by simp)
end Go.Proofs.Ytdmedcdloeljeaa
/- AigTells: the law returns true, and it reads as it did. -/
namespace Go.Proofs.Ytdmedcdloeljeaa
open Go.AM Go.Proofs Go.ChangeShapes Go.WideShapes Go.ChangeAt Go.RowKit

set_option maxRecDepth 100000 in
theorem aigTells_lifted (os : Os) (started : os.Started) (H : Type) (enc : TypeId × Value → H) :
    ReturnsInHanded {} Try.checked os n_w09_AigTells .any (Rows.aigTellsSpec.pre6 enc Try.prog Try.f3 Rows.aigTellsRow.domain false) (Rows.aigTellsSpec.post enc Try.prog Try.f3 false true false false) := by
  refine returnsInHanded_of_change_shaped (C := Try.checked) own started (by kernel_rfl) Try.func3
    (ChangeSpec.witness6 (enc := enc) (C := Try.checked) false ⟨#[], #[.agg #[.int .i64 0, .slice none 0 0, .slice none 0 0, .slice none 0 0, .slice none 0 0], .agg #[.int .i64 0, .slice none 0 0, .slice none 0 0, .slice none 0 0, .slice none 0 0]], []⟩ 8 (by kernel_rfl) (by kernel_rfl) (by kernel_rfl) (by kernel_rfl)) ?_
  intro W base args ds gs before hval hW _ _ hsh _
  refine law_callsQ Down.any (Γ := ΓW) (shs := [(true, shGr), (true, shGr)]) laid mapsR (tb := 4) (by kernel_rfl) Try.underlying4 (of_decide_eq_true (by kernel_rfl)) (by kernel_rfl) rfl ?_ ΓW_ok ?_ hval hW (fun _ _ => trivial)
  · intro ds hds
    match ds, hds with
    | [d1, d2], _ => exact ⟨rfl, rfl, rfl⟩
  · intro xs has
    simp only [IsArgs] at has
    obtain ⟨_, _, rfl, h1, _, _, _, rfl, h2, _, rfl⟩ := has
    obtain ⟨a1, l1, l1f⟩ := dec_gr h1
    obtain ⟨a2, l2, l2f⟩ := dec_gr h2
    simp only [mkA, l1, l2]
    exact l_AigTells a1 a2

theorem aigTells_holds : Rows.AigTellsSaid :=
  OpenClaim.holds_of_wide 3 Try.f3 rfl rfl rfl rfl rfl rfl rfl ⟨rfl, rfl, rfl, rfl, rfl⟩ rfl rfl rfl rfl rfl (by kernel_rfl) Try.func3 (by kernel_rfl)
    (of_decide_eq_true (by kernel_rfl)) (by unfold Func.isWrapper; first | (rw [if_pos (by decide +kernel)]; kernel_rfl) | (rw [if_neg (by decide +kernel)]; exact ⟨rfl, rfl⟩))
    (fun os started H enc _ => aigTells_lifted os started H enc)
#print axioms aigTells_holds
end Go.Proofs.Ytdmedcdloeljeaa
