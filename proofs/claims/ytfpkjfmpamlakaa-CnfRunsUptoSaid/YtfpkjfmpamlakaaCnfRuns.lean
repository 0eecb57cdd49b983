/- The law: CnfBegins. -/
import Derived.Test.YtfpkjfmpamlakaaF
import Derived.Test.YtfpkjfmpamlakaaT
set_option linter.unusedSimpArgs false
set_option linter.unusedVariables false
namespace Go.Proofs.Ytfpkjfmpamlakaa
open Go.AM Go.Proofs
variable {Γ : Nat → Option AV}
set_option linter.unusedSimpArgs false
set_option linter.unusedVariables false

theorem Bu.steps_more (g : Gr) : ∀ (n : Nat) (b : Bu), ∃ c l, (Bu.steps g n b).cls = b.cls ++ c ∧ (Bu.steps g n b).lits = b.lits ++ l
  | 0, b => ⟨[], [], by simp [Bu.steps], by simp [Bu.steps]⟩
  | n + 1, b => by
    obtain ⟨c, l, h1, h2⟩ := Bu.steps_more g n (b.step g)
    rw [Bu.steps, h1, h2]
    exact ⟨clsA (b.row1 g) (b.v + g.ins.toNat) g.ands 0 ++ c, [b.row g] ++ l, by simp [Bu.step], by simp [Bu.step]⟩
theorem canC_less {g : Gr} {begin : List Int} {k n : Nat} (h : canC g begin k = 0) (hn : n ≤ k) : canC g begin n = 0 := by
  obtain ⟨h1, h2, h3, h4, h5, h6⟩ := canC_ok h
  have ok := Gr.ok_of h1
  have o1 := ok.ins
  have h7 : anyB iniB begin = false := by
    rw [anyB_no]; intro a ha; have := h3 a ha; simp [iniB]; omega
  have h8 : (n : Int) * (g.ins + g.ands.length) ≤ k * (g.ins + g.ands.length) := Int.mul_le_mul_of_nonneg_right (by omega) (by omega)
  unfold manyC at h6
  have h9 : ¬ (20000 < manyC g begin n) := by unfold manyC; omega
  unfold canC
  rw [if_neg (by simp [h1]), if_neg (by simp [h2, h7]), if_neg (by rw [not_or, not_or]; exact ⟨by omega, by omega, h9⟩)]
/-- What is said of fewer steps. -/
theorem unN_less {g : Gr} {begin : List Int} {k n : Nat} (h : canC g begin k = 0) (hn : n ≤ k) :
    lls (unN g begin n).cls = lls ((unN g begin k).cls.take (unN g begin n).cls.length) ∧ (unN g begin n).cls.length ≤ (unN g begin k).cls.length ∧ (unN g begin n).vars ≤ (unN g begin k).vars ∧
    ∀ t (h1 : t < (unN g begin n).lits.length) (h2 : t < (unN g begin k).lits.length), t < n → (unN g begin n).lits[t].l = (unN g begin k).lits[t].l := by
  have h0 := canC_less h hn
  obtain ⟨a1, a2, a3, a4, a5, a6⟩ := unN_sizes h
  obtain ⟨b1, b2, b3, b4, b5, b6⟩ := unN_sizes h0
  have e : unN g begin n = (Bu.steps g n (bu0 begin)).cn g := by unfold unN; rw [if_pos h0]; rfl
  have e' : unN g begin k = (Bu.steps g (k - n) (Bu.steps g n (bu0 begin))).cn g := by
    unfold unN; rw [if_pos h, ← Bu.steps_add, Int.toNat_natCast, show n + (k - n) = k by omega]
  obtain ⟨c, l, h1, h2⟩ := Bu.steps_more g (k - n) (Bu.steps g n (bu0 begin))
  have hl : (Bu.steps g n (bu0 begin)).lits.length = n := by rw [Bu.steps_lits]; simp [bu0]
  have m1 := Nat.mul_le_mul_right (3 * g.ands.length) hn
  have m2 := Nat.mul_le_mul_right (g.ins.toNat + g.ands.length) hn
  refine ⟨?_, by omega, by rw [a3, b3]; omega, ?_⟩
  · rw [e, e']
    simp [Bu.cn, h1, lls]
  · intro t t1 t2 ht
    have t3 : t < (Bu.steps g n (bu0 begin)).lits.length := by omega
    have g1 : (unN g begin n).lits[t] = mkR (Bu.steps g n (bu0 begin)).lits[t] := by
      have : (unN g begin n).lits = ((Bu.steps g n (bu0 begin)).lits ++ [(Bu.steps g n (bu0 begin)).last g]).map mkR := by rw [e]; rfl
      simp only [this, List.getElem_map]
      rw [List.getElem_append_left t3]
    have g2 : (unN g begin k).lits[t] = mkR (Bu.steps g n (bu0 begin)).lits[t] := by
      have : (unN g begin k).lits = (((Bu.steps g n (bu0 begin)).lits ++ l) ++ [(Bu.steps g (k - n) (Bu.steps g n (bu0 begin))).last g]).map mkR := by rw [e', ← h2]; rfl
      simp only [this, List.getElem_map]
      rw [List.getElem_append_left (by rw [List.length_append]; omega), List.getElem_append_left t3]
    rw [g1, g2]

set_option maxRecDepth 8000 in
theorem r_bg2 (u w : Cn) (n : Nat) (hnw : n ≤ w.lits.length) (hnu : n ≤ u.lits.length) (hlen : ∀ r ∈ w.lits, r.l.length < 2 ^ 40) (hn : n < 2 ^ 40)
    (heq : ∀ t (h1 : t < w.lits.length) (h2 : t < u.lits.length), t < n → w.lits[t].l = u.lits[t].l) (x9 : AV) (b0 r1 r2 : Ob) (t : List Ob) :
    ∀ m i : Nat, i + m = n → AM.Reach Try.prog Γ (w19_CnfBegins_L2 x9 (.ptr 1 0) (.int .i64 n) (.ptr 4 0) (.int .i64 i) (b0 :: cellsC u :: r1 :: r2 :: cellsC w :: t))
      (w19_CnfBegins_E2 x9 (.ptr 1 0) (.ptr 4 0) (b0 :: cellsC u :: r1 :: r2 :: cellsC w :: t)) := by
  intro m
  induction m with
  | zero =>
    intro i hi
    obtain rfl : i = n := by omega
    refine .goS 60 ?_
    simp
    exact .exit rfl rfl
  | succ m ih =>
    intro i hi
    have q1 : i < n := by omega
    have q1w : i < w.lits.length := by omega
    have q1u : i < u.lits.length := by omega
    have q2 := eq_true (u.hl.of q1u)
    have q3 := eq_true (w.hl.of q1w)
    have hh := ih (i + 1) (by omega)
    refine .goS 60 ?_
    simp (disch := omega) [q1, q1w, q1u, q2, q3]
    refine .drS 60 ?_
    simp (disch := omega) [q1w, q1u, q2, q3]
    refine .call (by simp) (p_r01_Ints w.lits[i].l u.lits[i].l w.lits[i].hk u.lits[i].hk (by have := hlen _ (List.getElem_mem q1w); omega)) ?_
    simp (disch := omega) [heq i q1w q1u q1]
    refine .reLoop ?_
    simp at hh ⊢
    exact hh

set_option maxRecDepth 8000 in
theorem l_CnfBegins (g : Gr) (hf : g.few) (begin : List Int) {kb : Nat} (hb : Kd 1 kb begin) (hl : begin.length < 2 ^ 40) (k : Int) (less : Nat) (hle : less < 256) :
    PureCon Try.prog Γ n_w19_CnfBegins [eGr g, .list false kb (begin.map i64), .int .i64 k, .int .u8 less] (.bool true) := by
  refine .run 60 c_w19_CnfBegins (by simp) ?_
  simp
  refine .call 120 (by simp) p_w19_works ?_
  simp
  refine .call 120 (by simp) (p_w19_small g begin (kb := kb) k) ?_
  simp
  refine .call 120 (by simp) (p_cnf_Unroll g hf begin hb hl k) ?_
  by_cases hc : canC g begin k = 0
  · cases hs : smallB g begin.length k with
    | false =>
      simp [hc]
      exact .back (by simp)
    | true =>
      obtain ⟨h1, h2, h3, h4, h5, h6⟩ := canC_ok hc
      obtain ⟨kk, rfl⟩ := Int.eq_ofNat_of_zero_le h4
      have hn : less % (kk + 1) ≤ kk := by have := Nat.mod_lt less (show 0 < kk + 1 by omega); omega
      have hrem : binI .rem .i64 (less : Int) ((kk : Int) + 1) = some ((less % (kk + 1) : Nat) : Int) := by
        have e1 : ¬ ((kk : Int) + 1 = 0) := by omega
        simp only [binI, e1, if_false]
        rw [show ((kk : Int) + 1) = ((kk + 1 : Nat) : Int) by omega, Int.ofNat_tmod]
      have hun := p_cnf_Unroll (Γ := Γ) g hf begin hb hl (less % (kk + 1) : Nat)
      obtain ⟨u1, u2, u3, u4, u5, u6⟩ := unN_sizes hc
      have hsm := smallB_yes hs
      have hsh := fun k => unN_short (g := g) (begin := begin) (k := k)
      generalize less % (kk + 1) = nn at *
      have hcn := canC_less hc hn
      obtain ⟨w1, w2, w3, w4, w5, w6⟩ := unN_sizes hcn
      obtain ⟨d1, d2, d3, d4⟩ := unN_less hc hn
      have hshw := hsh nn
      rw [hcn] at hun
      simp (disch := omega) [hc, hrem]
      refine .call 120 (by simp) hun ?_
      generalize unN g begin kk = u at *
      generalize unN g begin nn = w at *
      have e5 : (w.lits.length : Int) = nn + 1 := by omega
      have e6 : ¬ (u.cls.length < w.cls.length) := by omega
      have hall : g.all ≤ 12001 := by have := (Gr.ok_of h1).sum; have := (Gr.ok_of h1).ins; unfold Gr.all Gr.first; omega
      simp (disch := omega) [e5, e6]
      refine .inLoop ?_
      have k2 := r_bg2 (Γ := Γ) u w nn (by omega) (by omega) (fun r hr => by have := (w2 r hr).1; omega) (by omega) d4 (.bool true) (boxG g) (.row 1 t_api_Clause_2 [] none true false) (.row 1 t_int_3 [] none true false) [.row 1 t_api_Clause_2 [] none true false, .row 1 t_int_3 [] none true false] nn 0 (by omega)
      simp at k2 ⊢
      refine .reach k2 ?_
      have q5 := eq_true (u.hc.of (i := 0) (by omega))
      have q6 := eq_true d2
      have hfw : FewR w.cls := ⟨by rw [w4]; have := Nat.mul_le_mul (show nn ≤ 6 by omega) (show 3 * g.ands.length ≤ 180 by omega); omega, fun r hr => by have := hshw r hr; omega⟩
      refine .go 60 ?_
      simp (disch := omega) [q5, q6, ← List.map_take]
      refine .dr 60 ?_
      simp (disch := omega) [q5, q6, ← List.map_take]
      refine .call (by simp) (p_r19_Clauses w.cls (u.cls.take w.cls.length) (ka := w.kc) (kb := u.kc) w.hc (by rcases u.hc with h | h; exact .inl h; exact .inr (by simp [h])) hfw) ?_
      simp (disch := omega) [d1, d3]
      exact .back (by simp)
  · have e0 : unN g begin k = cn0 := by unfold unN; rw [if_neg hc]
    cases hs : smallB g begin.length k <;> simp [hc, e0, cn0] <;> exact .back (by simp)
end Go.Proofs.Ytfpkjfmpamlakaa
/- The values of a run hold the clauses. No program in sight. -/
namespace Go.Proofs.Ytfpkjfmpamlakaa
open Go.AM Go.Proofs
set_option linter.unusedSimpArgs false
set_option linter.unusedVariables false

theorem Bu.steps_more' (g : Gr) : ∀ (n : Nat) (b : Bu), ∃ c l, (Bu.steps g n b).cls = b.cls ++ c ∧ (Bu.steps g n b).lits = b.lits ++ l
  | 0, b => ⟨[], [], by simp [Bu.steps], by simp [Bu.steps]⟩
  | n + 1, b => by
    obtain ⟨c, l, h1, h2⟩ := Bu.steps_more' g n (b.step g)
    rw [Bu.steps, h1, h2]
    exact ⟨clsA (b.row1 g) (b.v + g.ins.toNat) g.ands 0 ++ c, [b.row g] ++ l, by simp [Bu.step], by simp [Bu.step]⟩
/-- A row says what values say: under out. -/
structure Says (out : List Bool) (row : List Int) (vals : List Bool) : Prop where
  len : vals.length = row.length
  at_ : ∀ i (h : i < row.length), holdsV out row[i] = vals[i]'(by omega)
theorem holdsV_ext {out more : List Bool} {a : Int} (h0 : a ≠ 0) (h1 : -(out.length : Int) ≤ a) (h2 : a ≤ out.length) : holdsV (out ++ more) a = holdsV out a := by
  unfold holdsV
  split
  · rw [List.getD_eq_getElem?_getD, List.getD_eq_getElem?_getD, List.getElem?_append_left (by omega)]
  · rw [List.getD_eq_getElem?_getD, List.getD_eq_getElem?_getD, List.getElem?_append_left (by omega)]
theorem holdsV_neg {out : List Bool} {a : Int} (h0 : a ≠ 0) : holdsV out (-a) = !holdsV out a := by
  unfold holdsV
  by_cases h : a < 0
  · rw [if_neg (show ¬ -a < 0 by omega), if_pos h, Bool.not_not]
  · rw [if_pos (show -a < 0 by omega), if_neg h]
    rw [show (-(-a) - 1) = a - 1 by omega]
theorem holdsV_at {out : List Bool} {n : Nat} (h : n < out.length) : holdsV out ((n + 1 : Nat) : Int) = out[n] := by
  unfold holdsV
  rw [if_neg (by omega), show (((n + 1 : Nat) : Int) - 1).toNat = n by omega, List.getD_eq_getElem?_getD, List.getElem?_eq_getElem h]; rfl
theorem says_lit {out : List Bool} {row : List Int} {vals : List Bool} (h : Says out row vals) {B : Nat} (hz : Nz row) (hl : Low B row) (hB : B < 2 ^ 40) {a : Nat} (ha : a / 2 < row.length) :
    holdsV out (inR row a) = litV vals a := by
  have h1 := h.at_ (a / 2) ha
  have h2 := hl _ (List.getElem_mem ha)
  have h3 := hz _ (List.getElem_mem ha)
  have hl' := h.len
  unfold inR litV
  rw [getD_atI ha, List.getD_eq_getElem?_getD, List.getElem?_eq_getElem (show a / 2 < vals.length by omega)]
  by_cases hp : a % 2 = 1
  · rw [if_pos hp, wrap64 (by omega) (by omega), holdsV_neg h3, h1]; simp [hp]
  · rw [if_neg hp, h1]; simp [hp]
theorem says_ext {out more : List Bool} {row : List Int} {vals : List Bool} (h : Says out row vals) (hz : Nz row) (hl : Low out.length row) : Says (out ++ more) row vals :=
  ⟨h.len, fun i hi => by
    have h2 := hl _ (List.getElem_mem hi)
    rw [holdsV_ext (hz _ (List.getElem_mem hi)) h2.1 h2.2]; exact h.at_ i hi⟩
def clauseH (out : List Bool) (c : List Int) : Bool := anyB (holdsV out) c
theorem clause_ext {out more : List Bool} {c : List Int} (h : LitsOk out.length c) : clauseH (out ++ more) c = clauseH out c := by
  unfold clauseH
  induction c with
  | nil => rfl
  | cons a c ih =>
    have ha := h a (List.mem_cons_self ..)
    rw [anyB_cons, anyB_cons, ih (fun x hx => h x (List.mem_cons_of_mem _ hx)), holdsV_ext ha.1 ha.2.1 ha.2.2]
theorem valsA_pre : ∀ (l : List (Int × Int)) (v : List Bool), valsA l v = v ++ (valsA l v).drop v.length
  | [], v => by simp [valsA]
  | p :: ps, v => by
    rw [valsA]
    generalize (litV v p.1.toNat && litV v p.2.toNat) = x
    have h := valsA_pre ps (v ++ [x])
    rw [h, List.append_assoc, List.drop_append_of_le_length (Nat.le_refl _), List.drop_length, List.nil_append]
/-- One and more: what is said stays said; and its clauses hold. -/
theorem says_ands {row : List Int} {n1 : Nat} (hz : Nz row) (hl : Low n1 row) (out : List Bool) (ho : out.length = n1) : ∀ (ps : List (Int × Int)) (i : Nat) (v w : List Bool), n1 + i + ps.length < 2 ^ 40 →
    (∀ j (hj : j < ps.length), ps[j].1.toNat / 2 < row.length + i + j ∧ ps[j].2.toNat / 2 < row.length + i + j) → w.length = i → Says (out ++ w) (rowA row n1 i) v →
    Says (out ++ (w ++ (valsA ps v).drop v.length)) (rowA row n1 (i + ps.length)) (valsA ps v) ∧ ∀ c ∈ clsA row n1 ps i, clauseH (out ++ (w ++ (valsA ps v).drop v.length)) c = true
  | [], i, v, w, hB, hp, hw, hs => by
    refine ⟨?_, fun c hc => by simp [clsA] at hc⟩
    simpa [valsA] using hs
  | p :: ps, i, v, w, hB, hp, hw, hs => by
    rw [List.length_cons] at hB
    have h0 := hp 0 (by simp)
    simp only [List.getElem_cons_zero, Nat.add_zero] at h0
    have hlr := low_rowA hl i
    have hzr := nz_rowA hz n1 i
    have hln := rowA_len row n1 i
    have hvl : v.length = row.length + i := by rw [hs.len, hln]
    have y1 := says_lit hs hzr hlr (by omega) (a := p.1.toNat) (by omega)
    have y2 := says_lit hs hzr hlr (by omega) (a := p.2.toNat) (by omega)
    generalize hx : (litV v p.1.toNat && litV v p.2.toNat) = x
    have hs2 : Says (out ++ (w ++ [x])) (rowA row n1 (i + 1)) (v ++ [x]) := by
      refine ⟨by rw [rowA_len, List.length_append, hvl]; simp; omega, fun j hj => ?_⟩
      rw [rowA_len] at hj
      have e1 := rowA_succ row n1 i
      by_cases hji : j < row.length + i
      · have e2 : (rowA row n1 (i + 1))[j]'(by rw [rowA_len]; omega) = (rowA row n1 i)[j]'(by rw [rowA_len]; omega) := by
          simp only [e1]; rw [List.getElem_append_left]
        rw [e2, List.getElem_append_left (by omega), ← List.append_assoc]
        have h2 := hlr _ (List.getElem_mem (show j < (rowA row n1 i).length by omega))
        rw [holdsV_ext (hzr _ (List.getElem_mem _)) (by rw [List.length_append]; omega) (by rw [List.length_append]; omega)]
        exact hs.at_ j (by omega)
      · obtain rfl : j = row.length + i := by omega
        have e2 : (rowA row n1 (i + 1))[row.length + i]'(by rw [rowA_len]; omega) = ((n1 + i + 1 : Nat) : Int) := by
          simp only [e1]; rw [List.getElem_append_right (by omega)]; simp [hln]; omega
        rw [e2, holdsV_at (by simp; omega)]
        simp only [← List.append_assoc]
        rw [List.getElem_append_right (by simp; omega), List.getElem_append_right (by omega)]
        simp
    obtain ⟨g1, g2⟩ := says_ands hz hl out ho ps (i + 1) (v ++ [x]) (w ++ [x]) (by omega) (fun j hj => by have := hp (j + 1) (by simpa using hj); simp only [List.getElem_cons_succ] at this; omega) (by simp [hw]) hs2
    have hpre := valsA_pre ps (v ++ [x])
    have ev : valsA (p :: ps) v = valsA ps (v ++ [x]) := by rw [valsA, hx]
    have ed : (valsA ps (v ++ [x])).drop v.length = x :: (valsA ps (v ++ [x])).drop (v ++ [x]).length := by
      conv => lhs; rw [hpre]
      rw [List.drop_append_of_le_length (by simp), List.drop_append_of_le_length (Nat.le_refl _)]
      simp
    have eo : out ++ (w ++ (valsA ps (v ++ [x])).drop v.length) = out ++ (w ++ [x] ++ (valsA ps (v ++ [x])).drop (v ++ [x]).length) := by rw [ed]; simp
    rw [ev, eo, List.length_cons, show i + (ps.length + 1) = i + 1 + ps.length by omega]
    refine ⟨g1, fun c hc => ?_⟩
    rw [clsA] at hc
    rcases List.mem_append.1 hc with hc | hc
    · have x1 := inR_low hlr (by omega) (a := p.1.toNat) (by omega)
      have x2 := inR_low hlr (by omega) (a := p.2.toNat) (by omega)
      have z1 := nz_inR hzr hlr (by omega) (a := p.1.toNat) (by omega)
      have z2 := nz_inR hzr hlr (by omega) (a := p.2.toNat) (by omega)
      have t1 : holdsV (out ++ (w ++ [x])) (inR (rowA row n1 i) p.1.toNat) = litV v p.1.toNat := by
        rw [← List.append_assoc, holdsV_ext z1 (by rw [List.length_append]; omega) (by rw [List.length_append]; omega)]; exact y1
      have t2 : holdsV (out ++ (w ++ [x])) (inR (rowA row n1 i) p.2.toNat) = litV v p.2.toNat := by
        rw [← List.append_assoc, holdsV_ext z2 (by rw [List.length_append]; omega) (by rw [List.length_append]; omega)]; exact y2
      have t3 : holdsV (out ++ (w ++ [x])) ((n1 + 1 + i : Nat) : Int) = x := by
        rw [show n1 + 1 + i = (n1 + i) + 1 by omega, holdsV_at (by simp; omega)]
        simp only [← List.append_assoc]
        rw [List.getElem_append_right (by simp; omega)]
        simp
      have hlen : (out ++ (w ++ [x])).length = n1 + i + 1 := by simp; omega
      rw [show out ++ (w ++ [x] ++ (valsA ps (v ++ [x])).drop (v ++ [x]).length) = (out ++ (w ++ [x])) ++ (valsA ps (v ++ [x])).drop (v ++ [x]).length by simp]
      simp only [cl3, List.mem_cons, List.not_mem_nil, or_false] at hc
      generalize inR (rowA row n1 i) p.1.toNat = a at *
      generalize inR (rowA row n1 i) p.2.toNat = b at *
      have nv : ((n1 + 1 + i : Nat) : Int) ≠ 0 := by omega
      rcases hc with rfl | rfl | rfl
      · rw [clause_ext (by intro q hq; simp only [List.mem_cons, List.not_mem_nil, or_false] at hq; rcases hq with rfl | rfl <;> omega)]
        simp only [clauseH, anyB_cons, anyB_nil, holdsV_neg nv, t1, t3]
        rw [← hx]
        cases litV v p.1.toNat <;> cases litV v p.2.toNat <;> rfl
      · rw [clause_ext (by intro q hq; simp only [List.mem_cons, List.not_mem_nil, or_false] at hq; rcases hq with rfl | rfl <;> omega)]
        simp only [clauseH, anyB_cons, anyB_nil, holdsV_neg nv, t2, t3]
        rw [← hx]
        cases litV v p.1.toNat <;> cases litV v p.2.toNat <;> rfl
      · rw [clause_ext (by intro q hq; simp only [List.mem_cons, List.not_mem_nil, or_false] at hq; rcases hq with rfl | rfl | rfl <;> omega)]
        simp only [clauseH, anyB_cons, anyB_nil, holdsV_neg z1, holdsV_neg z2, t1, t2, t3]
        rw [← hx]
        cases litV v p.1.toNat <;> cases litV v p.2.toNat <;> rfl
    · exact g2 c hc

theorem says_row1 {out x state : List Bool} {lat : List Int} {ni : Nat} (hni : ni = x.length) (h : Says out lat state) (hz : Nz lat) (hl : Low out.length lat) (h1 : holdsV out 1 = true) (hv : 1 ≤ out.length) :
    Says (out ++ x) (insRow out.length ni ni lat) (false :: (x ++ state)) := by
  subst hni
  have e : insRow out.length x.length x.length lat = -1 :: ((List.range x.length).map (fun j => ((out.length + 1 + j : Nat) : Int)) ++ lat) := by simp [insRow]
  refine ⟨by rw [insRow_len (Nat.le_refl _), List.length_cons, List.length_append, h.len]; omega, fun j hj => ?_⟩
  rw [insRow_len (Nat.le_refl _)] at hj
  simp only [e]
  cases j with
  | zero =>
    simp only [List.getElem_cons_zero]
    have h2 := holdsV_neg (out := out ++ x) (a := 1) (by omega)
    rw [h2, holdsV_ext (by omega) (by omega) (by omega), h1]; rfl
  | succ j =>
    simp only [List.getElem_cons_succ]
    by_cases hjx : j < x.length
    · rw [List.getElem_append_left (by simpa using hjx), List.getElem_append_left hjx]
      simp only [List.getElem_map, List.getElem_range]
      rw [show out.length + 1 + j = (out.length + j) + 1 by omega, holdsV_at (by simp; omega), List.getElem_append_right (by omega)]
      simp
    · rw [List.getElem_append_right (by simp; omega), List.getElem_append_right (by omega)]
      simp only [List.length_map, List.length_range]
      have hj2 : j - x.length < lat.length := by omega
      have h2 := hl _ (List.getElem_mem hj2)
      rw [holdsV_ext (hz _ (List.getElem_mem hj2)) h2.1 h2.2]
      exact h.at_ _ hj2

/-- What a run has come to. -/
structure RunInv (g : Gr) (b : Bu) (n : Nat) (state out : List Bool) : Prop where
  ok : b.Ok g n
  nz : Nz b.lat
  lits : ∀ c ∈ b.cls, LitsOk b.v c
  len : out.length = b.v
  says : Says out b.lat state
  cls : ∀ c ∈ b.cls, clauseH out c = true
  one : holdsV out 1 = true
theorem RunInv.row {g : Gr} {b : Bu} {n : Nat} {state out x : List Bool} (h : RunInv g b (n + 1) state out) (hE : g.valuesE state x = 0) :
    Says (stepV g state x out) (b.row g) (g.vals state x) ∧ ∀ c ∈ clsA (b.row1 g) (b.v + g.ins.toNat) g.ands 0, clauseH (stepV g state x out) c = true := by
  obtain ⟨ok, d1, d2⟩ := Gr.ok_E hE
  have o1 := ok.ins
  have hv := h.ok.hv
  rw [Nat.succ_mul] at hv
  have hni : g.ins.toNat = x.length := by omega
  have hr1 := Bu.row1_len ok h.ok.lat
  have hlow1 : Low (b.v + g.ins.toNat) (b.row1 g) := low_insRow h.ok.low h.ok.v1
  have hnz1 : Nz (b.row1 g) := nz_insRow h.nz
  have hs1 := says_row1 (x := x) (ni := g.ins.toNat) hni h.says h.nz (by rw [h.len]; exact h.ok.low) h.one (by rw [h.len]; exact h.ok.v1)
  rw [h.len] at hs1
  have key := says_ands hnz1 hlow1 (out ++ x) (by rw [List.length_append, h.len, hni]) g.ands 0 (false :: (x ++ state)) [] (by omega) (fun j hj => by have := ok.ands j hj; rw [hr1]; omega) rfl (by
    rw [rowA_zero, List.append_nil]; exact hs1)
  have e1 : (false :: (x ++ state)).length = g.first := by simp [Gr.first, hni, d1]; omega
  have e2 : stepV g state x out = out ++ x ++ ([] ++ (valsA g.ands (false :: (x ++ state))).drop (false :: (x ++ state)).length) := by rw [e1]; simp [stepV, Gr.vals]
  rw [e2]
  rw [Nat.zero_add] at key
  exact key
theorem RunInv.step {g : Gr} {b : Bu} {n : Nat} {state out x : List Bool} (h : RunInv g b (n + 1) state out) (hE : g.valuesE state x = 0) :
    RunInv g (b.step g) n (g.stepN state x) (stepV g state x out) := by
  obtain ⟨ok, d1, d2⟩ := Gr.ok_E hE
  obtain ⟨k1, k2⟩ := h.row hE
  have o1 := ok.ins
  have hv := h.ok.hv
  rw [Nat.succ_mul] at hv
  have hr1 := Bu.row1_len ok h.ok.lat
  have hlow1 : Low (b.v + g.ins.toNat) (b.row1 g) := low_insRow h.ok.low h.ok.v1
  have hnz1 : Nz (b.row1 g) := nz_insRow h.nz
  have hrl : (b.row g).length = g.all := by unfold Bu.row; rw [rowA_len, hr1]; rfl
  have hok := h.ok.step ok
  have hst := Bu.steps_ok ok 1 b ⟨h.ok.v1, h.ok.lat, h.ok.low, by omega, by have := h.ok.hc; rw [Nat.succ_mul] at this; omega, by have := h.ok.hl; omega⟩ h.nz h.lits
  have hlen : (stepV g state x out).length = (b.step g).v := by
    simp only [stepV, Bu.step, List.length_append, List.length_drop, Gr.vals_len, h.len, Gr.first]; omega
  have hext : ∃ more, stepV g state x out = out ++ more := ⟨_, rfl⟩
  refine ⟨hok, hst.1, hst.2, hlen, ?_, ?_, ?_⟩
  · have hn : g.stepN state x = litsV (g.vals state x) g.next := by unfold Gr.stepN; rw [if_pos hE]
    rw [hn]
    refine ⟨by simp [Bu.step], fun i hi => ?_⟩
    simp only [Bu.step, litsR_len] at hi
    simp only [Bu.step, litsR, litsV, List.getElem_map]
    have h3 := ok.next _ (List.getElem_mem hi)
    have h4 : g.lits = 2 * g.all := rfl
    exact says_lit k1 (nz_rowA hnz1 _ _) (low_rowA hlow1 _) (by omega) (by rw [hrl]; omega)
  · intro c hc
    simp only [Bu.step, List.mem_append] at hc
    rcases hc with hc | hc
    · obtain ⟨more, e⟩ := hext
      rw [e, clause_ext (by rw [h.len]; exact h.lits c hc)]
      exact h.cls c hc
    · exact k2 c hc
  · obtain ⟨more, e⟩ := hext
    have := h.ok.v1
    rw [e, holdsV_ext (by omega) (by rw [h.len]; omega) (by rw [h.len]; omega)]
    exact h.one
theorem says_latB : ∀ (begin : List Int) (state l pre : List Bool), begV begin state = some l → begin.length = state.length → (∀ a ∈ begin, 0 ≤ a ∧ a ≤ 2) → 1 ≤ pre.length → holdsV pre 1 = true →
    Says (pre ++ l) (latB pre.length begin) state ∧ l.length = cnt2 begin
  | [], [], l, pre, h, _, _, _, _ => by
    simp [begV] at h; subst h
    exact ⟨⟨by simp [latB], fun i hi => by simp [latB] at hi⟩, rfl⟩
  | b :: bs, s :: ss, l, pre, h, hl, hb, hp, h1 => by
    have hb0 := hb b (List.mem_cons_self ..)
    have hbs := fun a ha => hb a (List.mem_cons_of_mem _ ha)
    rw [begV] at h
    by_cases h2 : b = 2
    · rw [if_pos h2] at h
      rw [Option.map_eq_some_iff] at h
      obtain ⟨l', hl', rfl⟩ := h
      have h3 : holdsV (pre ++ [s]) 1 = true := by rw [holdsV_ext (by omega) (by omega) (by omega)]; exact h1
      obtain ⟨i1, i2⟩ := says_latB bs ss l' (pre ++ [s]) hl' (by simpa using hl) hbs (by simp) h3
      have e : pre ++ s :: l' = pre ++ [s] ++ l' := by simp
      rw [latB, if_pos h2, e, cnt2, if_pos h2]
      have e2 : (pre ++ [s]).length = pre.length + 1 := by simp
      rw [e2] at i1
      refine ⟨⟨by simp [i1.len], fun j hj => ?_⟩, by simp [i2]; omega⟩
      cases j with
      | zero =>
        simp only [List.getElem_cons_zero]
        rw [holdsV_ext (by omega) (by omega) (by simp), holdsV_at (by simp)]
        simp
      | succ j => simp only [List.getElem_cons_succ]; exact i1.at_ j (by simpa using hj)
    · rw [if_neg h2] at h
      by_cases h3 : decide (b = 1) = s
      · rw [if_pos h3] at h
        obtain ⟨i1, i2⟩ := says_latB bs ss l pre h (by simpa using hl) hbs hp h1
        rw [latB, if_neg h2, cnt2, if_neg h2]
        refine ⟨⟨by simp [i1.len], fun j hj => ?_⟩, by simp [i2]⟩
        cases j with
        | zero =>
          simp only [List.getElem_cons_zero]
          have hone : holdsV (pre ++ l) 1 = true := by rw [holdsV_ext (by omega) (by omega) (by omega)]; exact h1
          rcases (show b = 0 ∨ b = 1 by omega) with rfl | rfl
          · have := holdsV_neg (out := pre ++ l) (a := 1) (by omega)
            rw [show (2 * (0 : Int) - 1) = -1 by omega, this, hone, ← h3]; rfl
          · rw [show (2 * (1 : Int) - 1) = 1 by omega, hone, ← h3]; rfl
        | succ j => simp only [List.getElem_cons_succ]; exact i1.at_ j (by simpa using hj)
      · rw [if_neg h3] at h; simp at h
  | [], s :: ss, l, pre, _, hl, _, _, _ => by simp at hl
  | b :: bs, [], l, pre, _, hl, _, _, _ => by simp at hl
theorem runInv0 {g : Gr} {begin : List Int} {k : Nat} {state l : List Bool} (hc : canC g begin k = 0) (hs : state.length = g.next.length) (h : begV begin state = some l) :
    RunInv g (bu0 begin) k state (true :: l) := by
  obtain ⟨h1, h2, h3, h4, h5, h6⟩ := canC_ok hc
  obtain ⟨a1, a2⟩ := says_latB begin state l [true] h (by omega) h3 (by simp) rfl
  refine ⟨bu0_ok hc, nz_latB _ _, ?_, by simp [bu0, a2]; omega, a1, ?_, by simp [holdsV]⟩
  · intro c hc
    simp only [bu0, List.mem_singleton] at hc
    subst hc
    intro a ha
    simp only [List.mem_singleton] at ha
    subst ha
    simp only [bu0]; omega
  · intro c hc
    simp only [bu0, List.mem_singleton] at hc
    subst hc
    simp [clauseH, anyB_cons, holdsV]
/-- A whole run. -/
theorem run_holds {g : Gr} : ∀ (seq : List (List Bool)) (b : Bu) (state out v : List Bool), RunInv g b seq.length state out → runV g state seq out = (v, 0) →
    ∃ last, RunInv g (Bu.steps g seq.length b) 0 last v
  | [], b, state, out, v, h, hr => by
    simp only [runV, Prod.mk.injEq, and_true] at hr
    subst hr
    exact ⟨state, h⟩
  | x :: xs, b, state, out, v, h, hr => by
    rw [runV] at hr
    by_cases hE : g.valuesE state x = 0
    · rw [if_pos hE] at hr
      exact run_holds xs (b.step g) _ _ v (h.step hE) hr
    · rw [if_neg hE] at hr
      simp only [Prod.mk.injEq] at hr
      exact absurd hr.2 hE
theorem run_ext {g : Gr} : ∀ (seq : List (List Bool)) (state out v : List Bool), runV g state seq out = (v, 0) → ∃ more, v = out ++ more
  | [], state, out, v, h => by
    simp only [runV, Prod.mk.injEq, and_true] at h
    exact ⟨[], by simp [h]⟩
  | x :: xs, state, out, v, h => by
    rw [runV] at h
    by_cases hE : g.valuesE state x = 0
    · rw [if_pos hE] at h
      obtain ⟨more, hm⟩ := run_ext xs _ _ v h
      exact ⟨_, by rw [hm, stepV, List.append_assoc]⟩
    · rw [if_neg hE] at h
      simp only [Prod.mk.injEq] at h
      exact absurd h.2 hE
/-- The literals of a step's row, under a whole run's values. -/
theorem run_row {g : Gr} {b : Bu} {n : Nat} {state out x v more : List Bool} (h : RunInv g b (n + 1) state out) (hE : g.valuesE state x = 0) (hv : v = stepV g state x out ++ more) : Says v (b.row g) (g.vals state x) := by
  obtain ⟨ok, _, _⟩ := Gr.ok_E hE
  have hs := h.step hE
  have hnz1 : Nz (b.row1 g) := nz_insRow h.nz
  have hlow1 : Low (b.v + g.ins.toNat) (b.row1 g) := low_insRow h.ok.low h.ok.v1
  rw [hv]
  refine says_ext (h.row hE).1 (nz_rowA hnz1 _ _) ?_
  rw [hs.len]
  exact low_rowA hlow1 _
/-- A step's row stands in its place among all rows. -/
theorem lits_at {g : Gr} {begin : List Int} {k t : Nat} (hc : canC g begin k = 0) (ht : t < k) (h : t < (unN g begin k).lits.length) : (unN g begin k).lits[t].l = (Bu.steps g t (bu0 begin)).row g := by
  have e : unN g begin k = (Bu.steps g (k - t - 1) ((Bu.steps g t (bu0 begin)).step g)).cn g := by
    unfold unN
    rw [if_pos hc, Int.toNat_natCast]
    have : k = t + ((k - t - 1) + 1) := by omega
    conv => lhs; rw [this, Bu.steps_add]
    rfl
  obtain ⟨c, l, h1, h2⟩ := Bu.steps_more' g (k - t - 1) ((Bu.steps g t (bu0 begin)).step g)
  have hl : (Bu.steps g t (bu0 begin)).lits.length = t := by rw [Bu.steps_lits]; simp [bu0]
  have e2 : (unN g begin k).lits = ((((Bu.steps g t (bu0 begin)).lits ++ [(Bu.steps g t (bu0 begin)).row g]) ++ l) ++ [(Bu.steps g (k - t - 1) ((Bu.steps g t (bu0 begin)).step g)).last g]).map mkR := by
    rw [e]; simp only [Bu.cn]; rw [h2]; rfl
  simp only [e2, List.getElem_map]
  rw [List.getElem_append_left (by simp; omega), List.getElem_append_left (by simp; omega), List.getElem_append_right (by omega)]
  simp [hl]
theorem Bu.ok_at {g : Gr} (ok : g.Ok) : ∀ (t n : Nat) (b : Bu), b.Ok g (t + n) → (Bu.steps g t b).Ok g n
  | 0, n, b, h => by rw [Nat.zero_add] at h; exact h
  | t + 1, n, b, h => Bu.ok_at ok t n (b.step g) (Bu.Ok.step ok (by rwa [show t + n + 1 = t + 1 + n by omega]))
theorem litC_even {u : Cn} {t n : Nat} (h1 : t < u.lits.length) (h2 : n < u.lits[t].l.length) : litC u t (2 * n) = u.lits[t].l[n] := by
  unfold litC
  have e := lls_at h1
  rw [if_neg (by rw [Int.toNat_natCast, e]; omega), Int.toNat_natCast, e]
  unfold inR
  rw [if_neg (by omega), show (2 * (n : Int)).toNat / 2 = n by omega, getD_atI h2]
theorem row_facts {g : Gr} {begin : List Int} {k t : Nat} (hc : canC g begin k = 0) (ht : t < k) :
    Nz ((Bu.steps g t (bu0 begin)).row g) ∧ Low (Bu.steps g k (bu0 begin)).v ((Bu.steps g t (bu0 begin)).row g) := by
  have ok := Gr.ok_of (canC_ok hc).1
  have h0 := bu0_ok hc
  have h1 : (Bu.steps g t (bu0 begin)).Ok g (k - t) := Bu.ok_at ok t (k - t) _ (by rwa [show t + (k - t) = k by omega])
  have hz : Nz (Bu.steps g t (bu0 begin)).lat := (Bu.steps_ok ok t (bu0 begin) ⟨h0.v1, h0.lat, h0.low, by have := h0.hv; have := Nat.mul_le_mul_right (g.ins.toNat + g.ands.length) (Nat.le_of_lt ht); omega, by have := h0.hc; have := Nat.mul_le_mul_right (3 * g.ands.length) (Nat.le_of_lt ht); omega, by have := h0.hl; omega⟩ (nz_latB _ _) (by
    intro c hc
    simp only [bu0, List.mem_singleton] at hc
    subst hc
    intro a ha
    simp only [List.mem_singleton] at ha
    subst ha
    simp only [bu0]; omega)).1
  refine ⟨nz_rowA (nz_insRow hz) _ _, ?_⟩
  have hlow1 : Low ((Bu.steps g t (bu0 begin)).v + g.ins.toNat) ((Bu.steps g t (bu0 begin)).row1 g) := low_insRow h1.low h1.v1
  refine (low_rowA hlow1 _).mono ?_
  rw [Bu.steps_v, Bu.steps_v]
  have := Nat.mul_le_mul_right (g.ins.toNat + g.ands.length) (show t + 1 ≤ k by omega)
  rw [Nat.succ_mul] at this
  omega
theorem unN_eq {g : Gr} {begin : List Int} {k : Nat} (hc : canC g begin k = 0) : unN g begin k = (Bu.steps g k (bu0 begin)).cn g := by
  unfold unN; rw [if_pos hc]; rfl
/-- The literals of a step's row, asked one by one. -/
theorem lit_ok {g : Gr} {begin : List Int} {k : Nat} {v : List Bool} (hc : canC g begin k = 0) (hv : (v.length : Int) = (unN g begin k).vars) (t : Nat) (ht : t < k) (x : List Bool) (hs : Says v ((Bu.steps g t (bu0 begin)).row g) x) (n : Nat) (hn : n < x.length) :
    litC (unN g begin k) t (2 * n) ≠ 0 ∧ -(v.length : Int) ≤ litC (unN g begin k) t (2 * n) ∧ litC (unN g begin k) t (2 * n) ≤ v.length ∧ holdsV v (litC (unN g begin k) t (2 * n)) = x[n] := by
  obtain ⟨u1, _⟩ := unN_sizes hc
  have ht2 : t < (unN g begin k).lits.length := by omega
  have e := lits_at hc ht ht2
  have hlen := hs.len
  have hn2 : n < (unN g begin k).lits[t].l.length := by rw [e]; omega
  have hvl : v.length = (Bu.steps g k (bu0 begin)).v := by rw [unN_eq hc] at hv; simp only [Bu.cn] at hv; omega
  obtain ⟨z1, z2⟩ := row_facts (g := g) (begin := begin) hc ht
  have hn3 : n < ((Bu.steps g t (bu0 begin)).row g).length := by omega
  have e2 : litC (unN g begin k) t (2 * n) = ((Bu.steps g t (bu0 begin)).row g)[n] := by rw [litC_even ht2 hn2]; simp only [e]
  rw [e2]
  have h2 := z2 _ (List.getElem_mem hn3)
  exact ⟨z1 _ (List.getElem_mem hn3), by omega, by omega, hs.at_ n hn3⟩
/-- The last row. -/
theorem lits_last {g : Gr} {begin : List Int} {k : Nat} (hc : canC g begin k = 0) (h : k < (unN g begin k).lits.length) : (unN g begin k).lits[k].l = (Bu.steps g k (bu0 begin)).last g := by
  have hl : (Bu.steps g k (bu0 begin)).lits.length = k := by rw [Bu.steps_lits]; simp [bu0]
  have e2 : (unN g begin k).lits = ((Bu.steps g k (bu0 begin)).lits ++ [(Bu.steps g k (bu0 begin)).last g]).map mkR := by rw [unN_eq hc]; rfl
  simp only [e2, List.getElem_map]
  rw [List.getElem_append_right (by omega)]
  simp [hl]
theorem lit_last {g : Gr} {begin : List Int} {k : Nat} {v last : List Bool} (hc : canC g begin k = 0) (h : RunInv g (Bu.steps g k (bu0 begin)) 0 last v) (n : Nat) (hn : n < last.length) :
    litC (unN g begin k) k (2 * (1 + g.ins + n)) ≠ 0 ∧ -(v.length : Int) ≤ litC (unN g begin k) k (2 * (1 + g.ins + n)) ∧ litC (unN g begin k) k (2 * (1 + g.ins + n)) ≤ v.length ∧ holdsV v (litC (unN g begin k) k (2 * (1 + g.ins + n))) = last[n] := by
  obtain ⟨u1, _⟩ := unN_sizes hc
  have ok := Gr.ok_of (canC_ok hc).1
  have o1 := ok.ins
  have ht2 : k < (unN g begin k).lits.length := by omega
  have e := lits_last hc ht2
  have hlen := h.says.len
  have hn3 : n < (Bu.steps g k (bu0 begin)).lat.length := by omega
  have hll : ((Bu.steps g k (bu0 begin)).last g).length = 1 + g.ins.toNat + (Bu.steps g k (bu0 begin)).lat.length + g.ands.length := by
    unfold Bu.last; rw [List.length_append, insRow_len (Nat.zero_le _), List.length_replicate]
  have hn2 : 1 + g.ins.toNat + n < (unN g begin k).lits[k].l.length := by rw [e, hll]; omega
  have e0 : (2 * (1 + g.ins + (n : Int))) = 2 * ((1 + g.ins.toNat + n : Nat) : Int) := by omega
  have e2 : litC (unN g begin k) k (2 * (1 + g.ins + n)) = (Bu.steps g k (bu0 begin)).lat[n] := by
    rw [e0, litC_even ht2 hn2]
    simp only [e]
    unfold Bu.last
    rw [List.getElem_append_left (by rw [insRow_len (Nat.zero_le _)]; omega)]
    simp only [insRow_zero]
    have e3 : 1 + g.ins.toNat + n = (g.ins.toNat + n) + 1 := by omega
    simp only [e3, List.getElem_cons_succ]
    rw [List.getElem_append_right (by simp)]
    simp
  rw [e2]
  have h2 := h.ok.low _ (List.getElem_mem hn3)
  have h3 := h.len
  exact ⟨h.nz _ (List.getElem_mem hn3), by omega, by omega, h.says.at_ n hn3⟩
end Go.Proofs.Ytfpkjfmpamlakaa
/- The law: CnfRuns. (Under way: the loops are missing.) -/
namespace Go.Proofs.Ytfpkjfmpamlakaa
open Go.AM Go.Proofs
variable {Γ : Nat → Option AV}
set_option linter.unusedSimpArgs false
set_option linter.unusedVariables false

/-- All the clauses of a run hold. -/
theorem run_true {g : Gr} {begin : List Int} {state v : List Bool} {seq : List (List Bool)} (h : valC g begin state seq = (v, 0)) :
    canC g begin seq.length = 0 ∧ (∃ l, begV begin state = some l ∧ state.length = g.next.length ∧ runV g state seq (true :: l) = (v, 0)) ∧
    (v.length : Int) = (unN g begin seq.length).vars ∧ checkC (unN g begin seq.length).cls v.length = checkC (unN g begin seq.length).cls (unN g begin seq.length).vars ∧ anyB (failR v) (unN g begin seq.length).cls = false := by
  unfold valC at h
  split at h
  · simp at h; omega
  rename_i hc
  have hc := Decidable.not_not.1 hc
  split at h
  · simp at h
  rename_i hs
  have hs := Decidable.not_not.1 hs
  split at h
  · simp at h
  rename_i l hl
  obtain ⟨last, hr⟩ := run_holds seq (bu0 begin) state (true :: l) v (runInv0 hc hs hl) h
  have e : unN g begin seq.length = (Bu.steps g seq.length (bu0 begin)).cn g := by unfold unN; rw [if_pos hc]; rfl
  have hv : (v.length : Int) = (unN g begin seq.length).vars := by rw [e]; simp [Bu.cn, hr.len]
  refine ⟨hc, ⟨l, hl, hs, h⟩, hv, by rw [hv], ?_⟩
  rw [anyB_no]
  intro r hr2
  rw [e] at hr2
  simp only [Bu.cn, List.mem_map] at hr2
  obtain ⟨c, hc2, rfl⟩ := hr2
  have := hr.cls c hc2
  simp only [failR]
  unfold clauseH at this
  rw [this]; rfl

set_option maxRecDepth 8000 in
theorem r_rn13 (u : Cn) (hu : u.few) (v x : List Bool) (hv : v.length < 2 ^ 40) (hx : x.length < 2 ^ 40) (t : Nat)
    (hlit : ∀ n (h : n < x.length), litC u t (2 * n) ≠ 0 ∧ -(v.length : Int) ≤ litC u t (2 * n) ∧ litC u t (2 * n) ≤ v.length ∧ holdsV v (litC u t (2 * n)) = x[n])
    (x3 x4 x9 x17 : AV) (b0 : Ob) (tl : List Ob) (r : Nat) (hr : (b0 :: .row 1 t_bool (v.map .bool) none true false :: cellsC u :: tl)[r]? = some (.row 1 t_bool (x.map .bool) none true false)) :
    ∀ n i : Nat, i + n = x.length → AM.Reach Try.prog Γ (w19_CnfRuns_L13 x3 x4 x9 (.sl 1 0 v.length) (.ptr 2 0) x17 (.int .i64 t) (.sl r 0 x.length) (.int .i64 i) (b0 :: .row 1 t_bool (v.map .bool) none true false :: cellsC u :: tl))
      (w19_CnfRuns_E13 x3 x4 x9 (.sl 1 0 v.length) (.ptr 2 0) x17 (.int .i64 t) (b0 :: .row 1 t_bool (v.map .bool) none true false :: cellsC u :: tl)) := by
  intro n
  induction n with
  | zero =>
    intro i hi
    obtain rfl : i = x.length := by omega
    refine .goS 60 ?_
    simp
    exact .exit rfl rfl
  | succ n ih =>
    intro i hi
    have q1 : i < x.length := by omega
    obtain ⟨l1, l2, l3, l4⟩ := hlit i q1
    have hh := ih (i + 1) (by omega)
    refine .goS 60 ?_
    simp (disch := omega) [q1, hr]
    refine .drS 60 ?_
    simp (disch := omega) [q1, hr]
    refine .call (by simp) (p_cnf_Lit u hu t (2 * i) (by omega)) ?_
    simp
    refine .call (by simp) (p_r19_Holds (litC u t (2 * i)) v (k := 1) .self l1 l2 l3 hv) ?_
    simp (disch := omega) [q1, hr, l4]
    refine .reLoop ?_
    simp at hh ⊢
    exact hh
set_option maxRecDepth 8000 in
theorem f_rn9 (g : Gr) (hf : g.few) (begin : List Int) (u : Cn) (hu : u.few) (v : List Bool) (hv : v.length < 2 ^ 40) (seq : List RowB) {kq : Nat} (hk : Kd 1 kq seq) (hq : seq.length < 2 ^ 40) (hrow : ∀ r ∈ seq, r.l.length < 2 ^ 30)
    (hlit : ∀ t (h : t < seq.length) (x : List Bool), Says v ((Bu.steps g t (bu0 begin)).row g) x → x.length = g.all → ∀ n (h : n < x.length), litC u t (2 * n) ≠ 0 ∧ -(v.length : Int) ≤ litC u t (2 * n) ∧ litC u t (2 * n) ≤ v.length ∧ holdsV v (litC u t (2 * n)) = x[n]) :
    ∀ n i : Nat, i + n = seq.length → ∀ (state out : List Bool) (junk : List Ob), RunInv g (Bu.steps g i (bu0 begin)) n state out → runV g state ((seq.drop i).map RowB.l) out = (v, 0) → state.length < 2 ^ 40 →
      ∃ last junk', RunInv g (Bu.steps g seq.length (bu0 begin)) 0 last v ∧ AM.Reach Try.prog Γ
        (w19_CnfRuns_L9 (.list false kq (seq.map eRowB)) (.ptr 0 0) (.bool true) (.sl 1 0 v.length) (.ptr 2 0) (.sl (junk.length + 5) 0 state.length) (.int .i64 i)
          (boxG g :: .row 1 t_bool (v.map .bool) none true false :: cellsC u :: .row 1 t_api_Clause_2 [] none true false :: .row 1 t_int_3 [] none true false :: (junk ++ [.row 1 t_bool (state.map .bool) none true false])))
        (w19_CnfRuns_E9 (.list false kq (seq.map eRowB)) (.ptr 0 0) (.bool true) (.sl 1 0 v.length) (.ptr 2 0) (.sl (junk'.length + 5) 0 last.length)
          (boxG g :: .row 1 t_bool (v.map .bool) none true false :: cellsC u :: .row 1 t_api_Clause_2 [] none true false :: .row 1 t_int_3 [] none true false :: (junk' ++ [.row 1 t_bool (last.map .bool) none true false]))) := by
  intro n
  induction n with
  | zero =>
    intro i hi state out junk hr hrun hs
    obtain rfl : i = seq.length := by omega
    rw [List.drop_length] at hrun
    simp only [List.map_nil, runV, Prod.mk.injEq, and_true] at hrun
    subst hrun
    refine ⟨state, junk, hr, ?_⟩
    refine .goS 60 ?_
    simp
    exact .exit rfl rfl
  | succ n ih =>
    intro i hi state out junk hr hrun hs
    have q1 : i < seq.length := by omega
    have q2 := eq_true (hk.of q1)
    obtain ⟨hx1, hx2⟩ := And.intro (hrow _ (List.getElem_mem q1)) seq[i].hk
    rw [List.drop_eq_getElem_cons q1, List.map_cons, runV] at hrun
    have hE : g.valuesE state seq[i].l = 0 := by
      by_cases hE : g.valuesE state seq[i].l = 0
      · exact hE
      · rw [if_neg hE] at hrun; simp only [Prod.mk.injEq] at hrun; exact absurd hrun.2 hE
    rw [if_pos hE] at hrun
    obtain ⟨more, hm⟩ := run_ext _ _ _ _ hrun
    have hsays := run_row hr hE hm
    obtain ⟨ok, d1, d2⟩ := Gr.ok_E hE
    have hvl := g.vals_len state seq[i].l
    have hnl := Gr.stepN_len hE
    have o1 := ok.ins
    have o3 := ok.sum
    have hall : (g.vals state seq[i].l).length = g.all := by rw [hvl]; unfold Gr.all Gr.first; omega
    have hl13 := hlit i q1 _ hsays hall
    have hst : Bu.steps g (i + 1) (bu0 begin) = (Bu.steps g i (bu0 begin)).step g := by rw [Bu.steps_add]; rfl
    obtain ⟨last, junk', g1, g2⟩ := ih (i + 1) (by omega) (g.stepN state seq[i].l) (stepV g state seq[i].l out) (junk ++ [.row 1 t_bool (state.map .bool) none true false, .row 1 t_bool ((g.vals state seq[i].l).map .bool) none true false, .row 1 t_bool ((g.stepO state seq[i].l).map .bool) none true false]) (by rw [hst]; exact hr.step hE) hrun (by omega)
    refine ⟨last, junk', g1, ?_⟩
    refine .goS 60 ?_
    simp [q1, q2]
    refine .drS 60 ?_
    simp [q1, q2]
    refine .call (by simp) (p_aig_Values g hf state seq[i].l (ks := 1) (ki := seq[i].k) .self hx2 hs (by omega)) ?_
    simp [hE, Gr.values]
    refine .inLoop ?_
    have k13 := r_rn13 (Γ := Γ) u hu v (g.vals state seq[i].l) hv (by omega) i hl13 (.list false kq (seq.map eRowB)) (.ptr 0 0) (.bool true) (.sl (junk.length + 5) 0 state.length) (boxG g)
      (.row 1 t_api_Clause_2 [] none true false :: .row 1 t_int_3 [] none true false :: (junk ++ [.row 1 t_bool (state.map .bool) none true false, .row 1 t_bool ((g.vals state seq[i].l).map .bool) none true false])) (junk.length + 6) (by simp) (g.vals state seq[i].l).length 0 (by omega)
    simp at k13 ⊢
    refine .trans k13 ?_
    refine .goS 60 ?_
    simp [q1, q2]
    refine .drS 60 ?_
    simp [q1, q2]
    refine .call (by simp) (p_aig_Step g hf state seq[i].l (ks := 1) (ki := seq[i].k) .self hx2 hs (by omega)) ?_
    simp (disch := omega)
    refine .reLoop ?_
    simp at g2 ⊢
    exact g2
set_option maxRecDepth 8000 in
theorem f_rn9a (g : Gr) (hf : g.few) (begin : List Int) (u : Cn) (hu : u.few) (v : List Bool) (hv : v.length < 2 ^ 40) (seq : List RowB) {kq : Nat} (hk : Kd 1 kq seq) (hq : seq.length < 2 ^ 40) (hrow : ∀ r ∈ seq, r.l.length < 2 ^ 30)
    (hlit : ∀ t (h : t < seq.length) (x : List Bool), Says v ((Bu.steps g t (bu0 begin)).row g) x → x.length = g.all → ∀ n (h : n < x.length), litC u t (2 * n) ≠ 0 ∧ -(v.length : Int) ≤ litC u t (2 * n) ∧ litC u t (2 * n) ≤ v.length ∧ holdsV v (litC u t (2 * n)) = x[n])
    (state out : List Bool) {ks : Nat} (hks : Kd 1 ks state) (hr : RunInv g (bu0 begin) seq.length state out) (hrun : runV g state (seq.map RowB.l) out = (v, 0)) (hs : state.length < 2 ^ 40) :
      ∃ last, RunInv g (Bu.steps g seq.length (bu0 begin)) 0 last v ∧ ((last = state ∧ AM.Reach Try.prog Γ
        (w19_CnfRuns_L9 (.list false kq (seq.map eRowB)) (.ptr 0 0) (.bool true) (.sl 1 0 v.length) (.ptr 2 0) (.list false ks (state.map .bool)) (.int .i64 0) [boxG g, .row 1 t_bool (v.map .bool) none true false, cellsC u, .row 1 t_api_Clause_2 [] none true false, .row 1 t_int_3 [] none true false])
        (w19_CnfRuns_E9 (.list false kq (seq.map eRowB)) (.ptr 0 0) (.bool true) (.sl 1 0 v.length) (.ptr 2 0) (.list false ks (state.map .bool)) [boxG g, .row 1 t_bool (v.map .bool) none true false, cellsC u, .row 1 t_api_Clause_2 [] none true false, .row 1 t_int_3 [] none true false])) ∨ ∃ junk', AM.Reach Try.prog Γ
        (w19_CnfRuns_L9 (.list false kq (seq.map eRowB)) (.ptr 0 0) (.bool true) (.sl 1 0 v.length) (.ptr 2 0) (.list false ks (state.map .bool)) (.int .i64 0) [boxG g, .row 1 t_bool (v.map .bool) none true false, cellsC u, .row 1 t_api_Clause_2 [] none true false, .row 1 t_int_3 [] none true false])
        (w19_CnfRuns_E9 (.list false kq (seq.map eRowB)) (.ptr 0 0) (.bool true) (.sl 1 0 v.length) (.ptr 2 0) (.sl (junk'.length + 5) 0 last.length)
          (boxG g :: .row 1 t_bool (v.map .bool) none true false :: cellsC u :: .row 1 t_api_Clause_2 [] none true false :: .row 1 t_int_3 [] none true false :: (junk' ++ [.row 1 t_bool (last.map .bool) none true false])))) := by
  by_cases q0 : seq.length = 0
  · have := List.length_eq_zero_iff.1 q0
    subst this
    simp only [List.map_nil, runV, Prod.mk.injEq, and_true] at hrun
    subst hrun
    refine ⟨state, hr, .inl ⟨rfl, ?_⟩⟩
    refine .goS 60 ?_
    simp
    exact .exit rfl rfl
  · have hq0 : 0 < seq.length := by omega
    have q1 : 0 < seq.length := by omega
    have q2 := eq_true (hk.of q1)
    obtain ⟨hx1, hx2⟩ := And.intro (hrow _ (List.getElem_mem q1)) seq[0].hk
    have e0 : seq = seq[0] :: seq.drop 1 := by have := List.drop_eq_getElem_cons q1; rwa [List.drop_zero] at this
    conv at hrun => lhs; rw [e0, List.map_cons, runV]
    have hE : g.valuesE state seq[0].l = 0 := by
      by_cases hE : g.valuesE state seq[0].l = 0
      · exact hE
      · rw [if_neg hE] at hrun; simp only [Prod.mk.injEq] at hrun; exact absurd hrun.2 hE
    rw [if_pos hE] at hrun
    obtain ⟨more, hm⟩ := run_ext _ _ _ _ hrun
    have hr : RunInv g (bu0 begin) ((seq.length - 1) + 1) state out := by rw [show seq.length - 1 + 1 = seq.length by omega]; exact hr
    have hsays := run_row hr hE hm
    obtain ⟨ok, d1, d2⟩ := Gr.ok_E hE
    have hvl := g.vals_len state seq[0].l
    have hnl := Gr.stepN_len hE
    have o1 := ok.ins
    have o3 := ok.sum
    have hall : (g.vals state seq[0].l).length = g.all := by rw [hvl]; unfold Gr.all Gr.first; omega
    have hl13 := hlit 0 q1 _ hsays hall
    have hst : Bu.steps g 1 (bu0 begin) = (bu0 begin).step g := rfl
    obtain ⟨last, junk', g1, g2⟩ := f_rn9 (Γ := Γ) g hf begin u hu v hv seq hk hq hrow hlit (seq.length - 1) 1 (by omega) (g.stepN state seq[0].l) (stepV g state seq[0].l out) [.row 1 t_bool ((g.vals state seq[0].l).map .bool) none true false, .row 1 t_bool ((g.stepO state seq[0].l).map .bool) none true false] (by rw [hst]; exact hr.step hE) hrun (by omega)
    refine ⟨last, g1, .inr ⟨junk', ?_⟩⟩
    refine .goS 60 ?_
    simp [q1, q2]
    refine .drS 60 ?_
    simp [q1, q2]
    refine .call (by simp) (p_aig_Values g hf state seq[0].l (ks := ks) (ki := seq[0].k) hks hx2 hs (by omega)) ?_
    simp [hE, Gr.values]
    refine .inLoop ?_
    have k13 := r_rn13 (Γ := Γ) u hu v (g.vals state seq[0].l) hv (by omega) 0 hl13 (.list false kq (seq.map eRowB)) (.ptr 0 0) (.bool true) (.list false ks (state.map .bool)) (boxG g)
      [.row 1 t_api_Clause_2 [] none true false, .row 1 t_int_3 [] none true false, .row 1 t_bool ((g.vals state seq[0].l).map .bool) none true false] 5 (by simp) (g.vals state seq[0].l).length 0 (by omega)
    simp at k13 ⊢
    refine .trans k13 ?_
    refine .goS 60 ?_
    simp [q1, q2]
    refine .drS 60 ?_
    simp [q1, q2]
    refine .call (by simp) (p_aig_Step g hf state seq[0].l (ks := ks) (ki := seq[0].k) hks hx2 hs (by omega)) ?_
    simp (disch := omega)
    refine .reLoop ?_
    simp at g2 ⊢
    exact g2

set_option maxRecDepth 8000 in
theorem r_rn1a (g : Gr) (hni : 0 ≤ g.ins ∧ g.ins ≤ 4000) (u : Cn) (hu : u.few) (v x : List Bool) (hv : v.length < 2 ^ 40) (hx : x.length < 2 ^ 40) (seq : List RowB) (hq : seq.length < 2 ^ 40) {kq : Nat} {ks : Nat} (hks : Kd 1 ks x)
    (hlit : ∀ n (h : n < x.length), litC u seq.length (2 * (1 + g.ins + n)) ≠ 0 ∧ -(v.length : Int) ≤ litC u seq.length (2 * (1 + g.ins + n)) ∧ litC u seq.length (2 * (1 + g.ins + n)) ≤ v.length ∧ holdsV v (litC u seq.length (2 * (1 + g.ins + n))) = x[n]) (tl : List Ob) :
    ∀ n i : Nat, i + n = x.length → AM.Reach Try.prog Γ (w19_CnfRuns_L1 (.list false kq (seq.map eRowB)) (.ptr 0 0) (.bool true) (.sl 1 0 v.length) (.ptr 2 0) (.list false ks (x.map .bool)) (.int .i64 i) (boxG g :: .row 1 t_bool (v.map .bool) none true false :: cellsC u :: tl))
      (w19_CnfRuns_E1 (.bool true) (boxG g :: .row 1 t_bool (v.map .bool) none true false :: cellsC u :: tl)) := by
  intro n
  induction n with
  | zero =>
    intro i hi
    obtain rfl : i = x.length := by omega
    refine .goS 60 ?_
    simp
    exact .exit rfl rfl
  | succ n ih =>
    intro i hi
    have q1 : i < x.length := by omega
    have q2 := eq_true (hks.of q1)
    obtain ⟨l1, l2, l3, l4⟩ := hlit i q1
    have hh := ih (i + 1) (by omega)
    refine .goS 60 ?_
    simp (disch := omega) [q1, q2]
    refine .drS 60 ?_
    simp (disch := omega) [q1, q2]
    refine .call (by simp) (p_cnf_Lit u hu seq.length (2 * (1 + g.ins + i)) (by omega)) ?_
    simp
    refine .call (by simp) (p_r19_Holds (litC u seq.length (2 * (1 + g.ins + i))) v (k := 1) .self l1 l2 l3 hv) ?_
    simp (disch := omega) [q1, q2, l4]
    refine .reLoop ?_
    simp at hh ⊢
    exact hh

set_option maxRecDepth 8000 in
theorem r_rn1b (g : Gr) (hni : 0 ≤ g.ins ∧ g.ins ≤ 4000) (u : Cn) (hu : u.few) (v x : List Bool) (hv : v.length < 2 ^ 40) (hx : x.length < 2 ^ 40) (seq : List RowB) (hq : seq.length < 2 ^ 40) {kq : Nat} 
    (hlit : ∀ n (h : n < x.length), litC u seq.length (2 * (1 + g.ins + n)) ≠ 0 ∧ -(v.length : Int) ≤ litC u seq.length (2 * (1 + g.ins + n)) ∧ litC u seq.length (2 * (1 + g.ins + n)) ≤ v.length ∧ holdsV v (litC u seq.length (2 * (1 + g.ins + n))) = x[n]) (tl : List Ob) :
    ∀ n i : Nat, i + n = x.length → AM.Reach Try.prog Γ (w19_CnfRuns_L1 (.list false kq (seq.map eRowB)) (.ptr 0 0) (.bool true) (.sl 1 0 v.length) (.ptr 2 0) (.sl (tl.length + 5) 0 x.length) (.int .i64 i) (boxG g :: .row 1 t_bool (v.map .bool) none true false :: cellsC u :: .row 1 t_api_Clause_2 [] none true false :: .row 1 t_int_3 [] none true false :: (tl ++ [.row 1 t_bool (x.map .bool) none true false])))
      (w19_CnfRuns_E1 (.bool true) (boxG g :: .row 1 t_bool (v.map .bool) none true false :: cellsC u :: .row 1 t_api_Clause_2 [] none true false :: .row 1 t_int_3 [] none true false :: (tl ++ [.row 1 t_bool (x.map .bool) none true false]))) := by
  intro n
  induction n with
  | zero =>
    intro i hi
    obtain rfl : i = x.length := by omega
    refine .goS 60 ?_
    simp
    exact .exit rfl rfl
  | succ n ih =>
    intro i hi
    have q1 : i < x.length := by omega
    have q2 : True := trivial
    obtain ⟨l1, l2, l3, l4⟩ := hlit i q1
    have hh := ih (i + 1) (by omega)
    refine .goS 60 ?_
    simp (disch := omega) [q1, q2]
    refine .drS 60 ?_
    simp (disch := omega) [q1, q2]
    refine .call (by simp) (p_cnf_Lit u hu seq.length (2 * (1 + g.ins + i)) (by omega)) ?_
    simp
    refine .call (by simp) (p_r19_Holds (litC u seq.length (2 * (1 + g.ins + i))) v (k := 1) .self l1 l2 l3 hv) ?_
    simp (disch := omega) [q1, q2, l4]
    refine .reLoop ?_
    simp at hh ⊢
    exact hh

theorem runV_no (g : Gr) : ∀ (seq : List (List Bool)) (state out : List Bool), (runV g state seq out).2 ≠ 0 → (runV g state seq out).1 = []
  | [], state, out, h => absurd rfl h
  | x :: xs, state, out, h => by
    rw [runV] at h ⊢
    by_cases hE : g.valuesE state x = 0
    · rw [if_pos hE] at h ⊢; exact runV_no g xs _ _ h
    · rw [if_neg hE]
theorem valC_no {g : Gr} {begin : List Int} {state : List Bool} {seq : List (List Bool)} (h : (valC g begin state seq).2 ≠ 0) : (valC g begin state seq).1 = [] := by
  unfold valC at h ⊢
  split
  · rfl
  · rename_i h1
    rw [if_neg h1] at h
    split
    · rfl
    · rename_i h2
      rw [if_neg h2] at h
      split
      · rfl
      · rename_i l hl
        rw [hl] at h
        exact runV_no g _ _ _ h
set_option maxRecDepth 8000 in
theorem l_CnfRuns (g : Gr) (hf : g.few) (begin : List Int) {kb : Nat} (hb : Kd 1 kb begin) (hl : begin.length < 2 ^ 40) (state : List Bool) {ks : Nat} (hs : Kd 1 ks state) (hls : state.length < 2 ^ 40)
    (seq : List RowB) {kq : Nat} (hk : Kd 1 kq seq) (hq : seq.length < 2 ^ 40) (hrow : ∀ r ∈ seq, r.l.length < 2 ^ 30) :
    PureCon Try.prog Γ n_w19_CnfRuns [eGr g, .list false kb (begin.map i64), .list false ks (state.map .bool), .list false kq (seq.map eRowB)] (.bool true) := by
  have hv := p_cnf_Values (Γ := Γ) g hf begin hb hl state hs hls seq hk hq hrow
  have hlk : ∃ z : Bool, z = (smallB g begin.length seq.length && fewX (longB 60) 6 seq) := ⟨_, rfl⟩
  refine .run 60 c_w19_CnfRuns (by simp) ?_
  simp
  refine .call 120 (by simp) p_w19_works ?_
  simp
  refine .call 120 (by simp) (p_w19_small g begin (kb := kb) seq.length) ?_
  cases h1 : smallB g begin.length seq.length with
  | false =>
    simp
    refine .call 120 (by simp) hv ?_
    simp
    exact .back (by simp)
  | true =>
    simp
    refine .call 120 (by simp) (p_w08_Rows seq hk 6 (by omega)) ?_
    cases h2 : fewX (longB 60) 6 seq with
    | false =>
      simp
      refine .call 120 (by simp) hv ?_
      simp
      exact .back (by simp)
    | true =>
      simp
      refine .call 120 (by simp) hv ?_
      have hno := valC_no (g := g) (begin := begin) (state := state) (seq := seq.map RowB.l)
      obtain ⟨v, e, hve⟩ : ∃ v e, valC g begin state (seq.map RowB.l) = (v, e) := ⟨_, _, rfl⟩
      rw [hve] at hno ⊢
      by_cases h3 : 60 < state.length
      · simp [h3]
        exact .back (by simp)
      · by_cases h4 : e = 0
        · subst h4
          obtain ⟨c1, ⟨l, c2, c3, c4⟩, c5, c6, c7⟩ := run_true hve
          rw [List.length_map] at c1 c5 c6 c7
          have hun := p_cnf_Unroll (Γ := Γ) g hf begin hb hl seq.length
          rw [c1] at hun
          obtain ⟨u1, u2, u3, u4, u5, u6⟩ := unN_sizes c1
          have hsm := smallB_yes h1
          have hsh := unN_short (g := g) (begin := begin) (k := seq.length)
          simp [h3]
          refine .call 120 (by simp) hun ?_
          generalize hu : unN g begin seq.length = u at *
          have hk6 := (fewX_yes h2).1
          have hm := Nat.mul_le_mul hk6 (show 3 * g.ands.length ≤ 180 by omega)
          have e8 : checkC u.cls u.vars = 0 := checkC_none (by omega) u5 (by rw [u4]; omega) u6
          have hfu : FewR u.cls := ⟨by rw [u4]; omega, fun r hr => by have := hsh r hr; omega⟩
          rw [e8] at c6
          have ht : trueC u.cls v = true := by unfold trueC; rw [if_pos c6, c7]; rfl
          simp
          refine .call 120 (by simp) (p_cnf_True u.cls hfu v (k := u.kc) (kv := 1) u.hc .self (by omega)) ?_
          simp [ht, c6, ← c5]
          refine .inLoop ?_
          have hcu : canC g begin seq.length = 0 := c1
          have hr0 := runInv0 (g := g) (begin := begin) (k := seq.length) c1 c3 c2
          have hg3 := canC_ok c1
          have okg := Gr.ok_of hg3.1
          have hfu2 : u.few := ⟨hfu, ⟨by omega, fun r hr => by have := (u2 r hr).1; have := okg.sum; unfold Gr.all Gr.first at *; have := okg.ins; omega⟩⟩
          obtain ⟨last, k1, k2⟩ := f_rn9a (Γ := Γ) g hf begin u hfu2 v (by omega) seq hk (by omega) hrow (fun t ht x hx _ n hn => by
            have := lit_ok (g := g) (begin := begin) (k := seq.length) (v := v) c1 (by rw [hu]; exact c5) t ht x hx n hn
            rw [hu] at this
            exact this) state (true :: l) hs hr0 c4 hls
          have hlast : last.length < 2 ^ 40 := by have := k1.says.len; have := k1.ok.lat; omega
          have hl1 : ∀ n (h : n < last.length), litC u seq.length (2 * (1 + g.ins + n)) ≠ 0 ∧ -(v.length : Int) ≤ litC u seq.length (2 * (1 + g.ins + n)) ∧ litC u seq.length (2 * (1 + g.ins + n)) ≤ v.length ∧ holdsV v (litC u seq.length (2 * (1 + g.ins + n))) = last[n] := by
            intro n hn
            have := lit_last (g := g) (begin := begin) (k := seq.length) (v := v) c1 k1 n hn
            rw [hu] at this
            exact this
          have hni : 0 ≤ g.ins ∧ g.ins ≤ 4000 := by have := okg.ins; have := okg.sum; omega
          rcases k2 with ⟨rfl, k2⟩ | ⟨junk', k2⟩
          · simp at k2 ⊢
            rw [c5]
            refine .reach k2 ?_
            refine .go 60 ?_
            simp
            refine .inLoop ?_
            have k3 := r_rn1a (Γ := Γ) (kq := kq) g hni u hfu2 v last (by omega) hlast seq (by omega) hs hl1 [.row 1 t_api_Clause_2 [] none true false, .row 1 t_int_3 [] none true false] last.length 0 (by omega)
            simp at k3 ⊢
            refine .reach k3 ?_
            refine .go 60 ?_
            simp
            exact .back (by simp)
          · simp at k2 ⊢
            rw [c5]
            refine .reach k2 ?_
            refine .go 60 ?_
            simp
            refine .inLoop ?_
            have k3 := r_rn1b (Γ := Γ) (kq := kq) g hni u hfu2 v last (by omega) hlast seq (by omega) hl1 junk' last.length 0 (by omega)
            simp at k3 ⊢
            refine .reach k3 ?_
            refine .go 60 ?_
            simp
            exact .back (by simp)
        · have hv0 : v = [] := hno h4
          subst hv0
          simp [h3, h4]
          exact .back (by simp)
end Go.Proofs.Ytfpkjfmpamlakaa
/- CnfRuns, where what it reads is of small bulk: the law returns true, and it reads as it did. -/
namespace Go.Proofs.Ytfpkjfmpamlakaa
open Go.AM Go.Proofs Go.ChangeShapes Go.WideShapes Go.ChangeAt Go.RowKit

set_option maxRecDepth 100000 in
theorem cnfRuns_lifted (os : Os) (started : os.Started) (H : Type) (enc : TypeId × Value → H) (F : Stop.Interp) :
    ReturnsInHanded {} Try.checked os n_w19_CnfRuns .any ((Rows.OpenSpec.upto Rows.cnfRunsSpec).pre6 enc Try.prog Try.f5 Rows.cnfRunsUptoRow.domain false) (((Rows.OpenSpec.upto Rows.cnfRunsSpec).at F).post enc Try.prog Try.f5 false true false false) := by
  refine returnsInHanded_of_cond (C := Try.checked) (s := Rows.OpenSpec.upto Rows.cnfRunsSpec) (k := Rows.uptoSmall) rfl own started (by kernel_rfl) Try.func5
    (OpenSpec.witness (enc := enc) (C := Try.checked) (s := Rows.OpenSpec.upto Rows.cnfRunsSpec) (k := Rows.uptoSmall) rfl false ⟨#[], #[.agg #[.int .i64 0, .slice none 0 0, .slice none 0 0, .slice none 0 0, .slice none 0 0], .slice none 0 0, .slice none 0 0, .slice none 0 0], []⟩ 8 (by kernel_rfl) (by kernel_rfl) (by kernel_rfl)
      (x := ([.agg [.lit (.int .i64 0), .nil, .nil, .nil, .nil], .nil, .nil, .nil], [], [])) (by kernel_rfl) rfl (by kernel_rfl)) ?_
  intro W base args ds gs before hval hW _ hk _
  refine law_callsQ downU (Γ := ΓW) (shs := [(true, shGr), (false, shIs), (false, shBs), (false, shBss)]) laid mapsR (tb := 4) (by kernel_rfl) Try.underlying4 (of_decide_eq_true (by kernel_rfl)) (by kernel_rfl) rfl ?_ ΓW_ok ?_ hval hW (small_of hk)
  · intro ds hds
    match ds, hds with
    | [d1, d2, d3, d4], _ => exact ⟨rfl, rfl, rfl⟩
  · intro xs has
    simp only [IsArgs] at has
    obtain ⟨_, _, rfl, h1, _, _, _, rfl, h2, _, _, _, rfl, h3, _, _, _, rfl, h4, _, rfl⟩ := has
    obtain ⟨a1, l1, l1f⟩ := dec_gr h1
    obtain ⟨a2, rfl, l2⟩ := dec_ints h2
    obtain ⟨a3, rfl, l3⟩ := dec_bools h3
    obtain ⟨a4, rfl, l4, l4b⟩ := dec_rowsB h4
    simp only [mkA, l1]
    exact l_CnfRuns a1 (l1f (by decide)) a2 .self (by omega) a3 .self (by omega) a4 .self (by omega) (fun r hr => by have := l4b r hr; omega)

theorem cnfRuns_holds : Rows.CnfRunsUptoSaid :=
  OpenClaim.holds_of_cond 5 Try.f5 rfl rfl rfl rfl rfl rfl rfl ⟨rfl, rfl, rfl, rfl, rfl⟩ rfl rfl rfl rfl rfl (by kernel_rfl) Try.func5 (by kernel_rfl)
    (of_decide_eq_true (by kernel_rfl)) (by unfold Func.isWrapper; first | (rw [if_pos (by decide +kernel)]; kernel_rfl) | (rw [if_neg (by decide +kernel)]; exact ⟨rfl, rfl⟩))
    (fun os started H enc _ F => cnfRuns_lifted os started H enc F)
#print axioms cnfRuns_holds
end Go.Proofs.Ytfpkjfmpamlakaa
