/- The values of a run hold the clauses. No program in sight. -/
import Derived.Test.YtfpkjfmpamlakaaF
import Derived.Test.YtfpkjfmpamlakaaT
set_option linter.unusedSimpArgs false
set_option linter.unusedVariables false
namespace Go.Proofs.Ytfpkjfmpamlakaa
open Go.AM Go.Proofs
set_option linter.unusedSimpArgs false
set_option linter.unusedVariables false

theorem Bu.steps_more' (g : Gr) : ∀ (n : Nat) (b : Bu), ∃ c l, (Bu.steps g n b).cls = b.cls ++ c ∧ (Bu.steps g n b).lits = b.lits ++ l
  | 0, b => ⟨[], [], by simp [Bu.steps], by simp [Bu.steps]⟩
  | n + 1, b => by
    obtain ⟨c, l, h1, h2⟩ := Bu.steps_more' g n (b.step g)
    rw [Bu.steps, h1, h2]
    exact ⟨clsA (b.row1 g) (b.v + g.ins.toNat) g.ands 0 ++ c, [b.row g] ++ l, by simp [Bu.step], by simp [Bu.step]⟩
/-- A row says what values say: under out. -/
structure Says (out : List Bool) (row : List Int) (vals : List Bool) : Prop where
  len : vals.length = row.length
  at_ : ∀ i (h : i < row.length), holdsV out row[i] = vals[i]'(by omega)
theorem holdsV_ext {out more : List Bool} {a : Int} (h0 : a ≠ 0) (h1 : -(out.length : Int) ≤ a) (h2 : a ≤ out.length) : holdsV (out ++ more) a = holdsV out a := by
  unfold holdsV
  split
  · rw [List.getD_eq_getElem?_getD, List.getD_eq_getElem?_getD, List.getElem?_append_left (by omega)]
  · rw [List.getD_eq_getElem?_getD, List.getD_eq_getElem?_getD, List.getElem?_append_left (by omega)]
theorem holdsV_neg {out : List Bool} {a : Int} (h0 : a ≠ 0) : holdsV out (-a) = !holdsV out a := by
  unfold holdsV
  by_cases h : a < 0
  · rw [if_neg (show ¬ -a < 0 by omega), if_pos h, Bool.not_not]
  · rw [if_pos (show -a < 0 by omega), if_neg h]
    rw [show (-(-a) - 1) = a - 1 by omega]
theorem holdsV_at {out : List Bool} {n : Nat} (h : n < out.length) : holdsV out ((n + 1 : Nat) : Int) = out[n] := by
  unfold holdsV
  rw [if_neg (by omega), show (((n + 1 : Nat) : Int) - 1).toNat = n by omega, List.getD_eq_getElem?_getD, List.getElem?_eq_getElem h]; rfl
theorem says_lit {out : List Bool} {row : List Int} {vals : List Bool} (h : Says out row vals) {B : Nat} (hz : Nz row) (hl : Low B row) (hB : B < 2 ^ 40) {a : Nat} (ha : a / 2 < row.length) :
    holdsV out (inR row a) = litV vals a := by
  have h1 := h.at_ (a / 2) ha
  have h2 := hl _ (List.getElem_mem ha)
  have h3 := hz _ (List.getElem_mem ha)
  have hl' := h.len
  unfold inR litV
  rw [getD_atI ha, List.getD_eq_getElem?_getD, List.getElem?_eq_getElem (show a / 2 < vals.length by omega)]
  by_cases hp : a % 2 = 1
  · rw [if_pos hp, wrap64 (by omega) (by omega), holdsV_neg h3, h1]; simp [hp]
  · rw [if_neg hp, h1]; simp [hp]
theorem says_ext {out more : List Bool} {row : List Int} {vals : List Bool} (h : Says out row vals) (hz : Nz row) (hl : Low out.length row) : Says (out ++ more) row vals :=
  ⟨h.len, fun i hi => by
    have h2 := hl _ (List.getElem_mem hi)
    rw [holdsV_ext (hz _ (List.getElem_mem hi)) h2.1 h2.2]; exact h.at_ i hi⟩
def clauseH (out : List Bool) (c : List Int) : Bool := anyB (holdsV out) c
theorem clause_ext {out more : List Bool} {c : List Int} (h : LitsOk out.length c) : clauseH (out ++ more) c = clauseH out c := by
  unfold clauseH
  induction c with
  | nil => rfl
  | cons a c ih =>
    have ha := h a (List.mem_cons_self ..)
    rw [anyB_cons, anyB_cons, ih (fun x hx => h x (List.mem_cons_of_mem _ hx)), holdsV_ext ha.1 ha.2.1 ha.2.2]
theorem valsA_pre : ∀ (l : List (Int × Int)) (v : List Bool), valsA l v = v ++ (valsA l v).drop v.length
  | [], v => by simp [valsA]
  | p :: ps, v => by
    rw [valsA]
    generalize (litV v p.1.toNat && litV v p.2.toNat) = x
    have h := valsA_pre ps (v ++ [x])
    rw [h, List.append_assoc, List.drop_append_of_le_length (Nat.le_refl _), List.drop_length, List.nil_append]
/-- One and more: what is said stays said; and its clauses hold. -/
theorem says_ands {row : List Int} {n1 : Nat} (hz : Nz row) (hl : Low n1 row) (out : List Bool) (ho : out.length = n1) : ∀ (ps : List (Int × Int)) (i : Nat) (v w : List Bool), n1 + i + ps.length < 2 ^ 40 →
    (∀ j (hj : j < ps.length), ps[j].1.toNat / 2 < row.length + i + j ∧ ps[j].2.toNat / 2 < row.length + i + j) → w.length = i → Says (out ++ w) (rowA row n1 i) v →
    Says (out ++ (w ++ (valsA ps v).drop v.length)) (rowA row n1 (i + ps.length)) (valsA ps v) ∧ ∀ c ∈ clsA row n1 ps i, clauseH (out ++ (w ++ (valsA ps v).drop v.length)) c = true
  | [], i, v, w, hB, hp, hw, hs => by
    refine ⟨?_, fun c hc => by simp [clsA] at hc⟩
    simpa [valsA] using hs
  | p :: ps, i, v, w, hB, hp, hw, hs => by
    rw [List.length_cons] at hB
    have h0 := hp 0 (by simp)
    simp only [List.getElem_cons_zero, Nat.add_zero] at h0
    have hlr := low_rowA hl i
    have hzr := nz_rowA hz n1 i
    have hln := rowA_len row n1 i
    have hvl : v.length = row.length + i := by rw [hs.len, hln]
    have y1 := says_lit hs hzr hlr (by omega) (a := p.1.toNat) (by omega)
    have y2 := says_lit hs hzr hlr (by omega) (a := p.2.toNat) (by omega)
    generalize hx : (litV v p.1.toNat && litV v p.2.toNat) = x
    have hs2 : Says (out ++ (w ++ [x])) (rowA row n1 (i + 1)) (v ++ [x]) := by
      refine ⟨by rw [rowA_len, List.length_append, hvl]; simp; omega, fun j hj => ?_⟩
      rw [rowA_len] at hj
      have e1 := rowA_succ row n1 i
      by_cases hji : j < row.length + i
      · have e2 : (rowA row n1 (i + 1))[j]'(by rw [rowA_len]; omega) = (rowA row n1 i)[j]'(by rw [rowA_len]; omega) := by
          simp only [e1]; rw [List.getElem_append_left]
        rw [e2, List.getElem_append_left (by omega), ← List.append_assoc]
        have h2 := hlr _ (List.getElem_mem (show j < (rowA row n1 i).length by omega))
        rw [holdsV_ext (hzr _ (List.getElem_mem _)) (by rw [List.length_append]; omega) (by rw [List.length_append]; omega)]
        exact hs.at_ j (by omega)
      · obtain rfl : j = row.length + i := by omega
        have e2 : (rowA row n1 (i + 1))[row.length + i]'(by rw [rowA_len]; omega) = ((n1 + i + 1 : Nat) : Int) := by
          simp only [e1]; rw [List.getElem_append_right (by omega)]; simp [hln]; omega
        rw [e2, holdsV_at (by simp; omega)]
        simp only [← List.append_assoc]
        rw [List.getElem_append_right (by simp; omega), List.getElem_append_right (by omega)]
        simp
    obtain ⟨g1, g2⟩ := says_ands hz hl out ho ps (i + 1) (v ++ [x]) (w ++ [x]) (by omega) (fun j hj => by have := hp (j + 1) (by simpa using hj); simp only [List.getElem_cons_succ] at this; omega) (by simp [hw]) hs2
    have hpre := valsA_pre ps (v ++ [x])
    have ev : valsA (p :: ps) v = valsA ps (v ++ [x]) := by rw [valsA, hx]
    have ed : (valsA ps (v ++ [x])).drop v.length = x :: (valsA ps (v ++ [x])).drop (v ++ [x]).length := by
      conv => lhs; rw [hpre]
      rw [List.drop_append_of_le_length (by simp), List.drop_append_of_le_length (Nat.le_refl _)]
      simp
    have eo : out ++ (w ++ (valsA ps (v ++ [x])).drop v.length) = out ++ (w ++ [x] ++ (valsA ps (v ++ [x])).drop (v ++ [x]).length) := by rw [ed]; simp
    rw [ev, eo, List.length_cons, show i + (ps.length + 1) = i + 1 + ps.length by omega]
    refine ⟨g1, fun c hc => ?_⟩
    rw [clsA] at hc
    rcases List.mem_append.1 hc with hc | hc
    · have x1 := inR_low hlr (by omega) (a := p.1.toNat) (by omega)
      have x2 := inR_low hlr (by omega) (a := p.2.toNat) (by omega)
      have z1 := nz_inR hzr hlr (by omega) (a := p.1.toNat) (by omega)
      have z2 := nz_inR hzr hlr (by omega) (a := p.2.toNat) (by omega)
      have t1 : holdsV (out ++ (w ++ [x])) (inR (rowA row n1 i) p.1.toNat) = litV v p.1.toNat := by
        rw [← List.append_assoc, holdsV_ext z1 (by rw [List.length_append]; omega) (by rw [List.length_append]; omega)]; exact y1
      have t2 : holdsV (out ++ (w ++ [x])) (inR (rowA row n1 i) p.2.toNat) = litV v p.2.toNat := by
        rw [← List.append_assoc, holdsV_ext z2 (by rw [List.length_append]; omega) (by rw [List.length_append]; omega)]; exact y2
      have t3 : holdsV (out ++ (w ++ [x])) ((n1 + 1 + i : Nat) : Int) = x := by
        rw [show n1 + 1 + i = (n1 + i) + 1 by omega, holdsV_at (by simp; omega)]
        simp only [← List.append_assoc]
        rw [List.getElem_append_right (by simp; omega)]
        simp
      have hlen : (out ++ (w ++ [x])).length = n1 + i + 1 := by simp; omega
      rw [show out ++ (w ++ [x] ++ (valsA ps (v ++ [x])).drop (v ++ [x]).length) = (out ++ (w ++ [x])) ++ (valsA ps (v ++ [x])).drop (v ++ [x]).length by simp]
      simp only [cl3, List.mem_cons, List.not_mem_nil, or_false] at hc
      generalize inR (rowA row n1 i) p.1.toNat = a at *
      generalize inR (rowA row n1 i) p.2.toNat = b at *
      have nv : ((n1 + 1 + i : Nat) : Int) ≠ 0 := by omega
      rcases hc with rfl | rfl | rfl
      · rw [clause_ext (by intro q hq; simp only [List.mem_cons, List.not_mem_nil, or_false] at hq; rcases hq with rfl | rfl <;> omega)]
        simp only [clauseH, anyB_cons, anyB_nil, holdsV_neg nv, t1, t3]
        rw [← hx]
        cases litV v p.1.toNat <;> cases litV v p.2.toNat <;> rfl
      · rw [clause_ext (by intro q hq; simp only [List.mem_cons, List.not_mem_nil, or_false] at hq; rcases hq with rfl | rfl <;> omega)]
        simp only [clauseH, anyB_cons, anyB_nil, holdsV_neg nv, t2, t3]
        rw [← hx]
        cases litV v p.1.toNat <;> cases litV v p.2.toNat <;> rfl
      · rw [clause_ext (by intro q hq; simp only [List.mem_cons, List.not_mem_nil, or_false] at hq; rcases hq with rfl | rfl | rfl <;> omega)]
        simp only [clauseH, anyB_cons, anyB_nil, holdsV_neg z1, holdsV_neg z2, t1, t2, t3]
        rw [← hx]
        cases litV v p.1.toNat <;> cases litV v p.2.toNat <;> rfl
    · exact g2 c hc

theorem says_row1 {out x state : List Bool} {lat : List Int} {ni : Nat} (hni : ni = x.length) (h : Says out lat state) (hz : Nz lat) (hl : Low out.length lat) (h1 : holdsV out 1 = true) (hv : 1 ≤ out.length) :
    Says (out ++ x) (insRow out.length ni ni lat) (false :: (x ++ state)) := by
  subst hni
  have e : insRow out.length x.length x.length lat = -1 :: ((List.range x.length).map (fun j => ((out.length + 1 + j : Nat) : Int)) ++ lat) := by simp [insRow]
  refine ⟨by rw [insRow_len (Nat.le_refl _), List.length_cons, List.length_append, h.len]; omega, fun j hj => ?_⟩
  rw [insRow_len (Nat.le_refl _)] at hj
  simp only [e]
  cases j with
  | zero =>
    simp only [List.getElem_cons_zero]
    have h2 := holdsV_neg (out := out ++ x) (a := 1) (by omega)
    rw [h2, holdsV_ext (by omega) (by omega) (by omega), h1]; rfl
  | succ j =>
    simp only [List.getElem_cons_succ]
    by_cases hjx : j < x.length
    · rw [List.getElem_append_left (by simpa using hjx), List.getElem_append_left hjx]
      simp only [List.getElem_map, List.getElem_range]
      rw [show out.length + 1 + j = (out.length + j) + 1 by omega, holdsV_at (by simp; omega), List.getElem_append_right (by omega)]
      simp
    · rw [List.getElem_append_right (by simp; omega), List.getElem_append_right (by omega)]
      simp only [List.length_map, List.length_range]
      have hj2 : j - x.length < lat.length := by omega
      have h2 := hl _ (List.getElem_mem hj2)
      rw [holdsV_ext (hz _ (List.getElem_mem hj2)) h2.1 h2.2]
      exact h.at_ _ hj2

/-- What a run has come to. -/
structure RunInv (g : Gr) (b : Bu) (n : Nat) (state out : List Bool) : Prop where
  ok : b.Ok g n
  nz : Nz b.lat
  lits : ∀ c ∈ b.cls, LitsOk b.v c
  len : out.length = b.v
  says : Says out b.lat state
  cls : ∀ c ∈ b.cls, clauseH out c = true
  one : holdsV out 1 = true
theorem RunInv.row {g : Gr} {b : Bu} {n : Nat} {state out x : List Bool} (h : RunInv g b (n + 1) state out) (hE : g.valuesE state x = 0) :
    Says (stepV g state x out) (b.row g) (g.vals state x) ∧ ∀ c ∈ clsA (b.row1 g) (b.v + g.ins.toNat) g.ands 0, clauseH (stepV g state x out) c = true := by
  obtain ⟨ok, d1, d2⟩ := Gr.ok_E hE
  have o1 := ok.ins
  have hv := h.ok.hv
  rw [Nat.succ_mul] at hv
  have hni : g.ins.toNat = x.length := by omega
  have hr1 := Bu.row1_len ok h.ok.lat
  have hlow1 : Low (b.v + g.ins.toNat) (b.row1 g) := low_insRow h.ok.low h.ok.v1
  have hnz1 : Nz (b.row1 g) := nz_insRow h.nz
  have hs1 := says_row1 (x := x) (ni := g.ins.toNat) hni h.says h.nz (by rw [h.len]; exact h.ok.low) h.one (by rw [h.len]; exact h.ok.v1)
  rw [h.len] at hs1
  have key := says_ands hnz1 hlow1 (out ++ x) (by rw [List.length_append, h.len, hni]) g.ands 0 (false :: (x ++ state)) [] (by omega) (fun j hj => by have := ok.ands j hj; rw [hr1]; omega) rfl (by
    rw [rowA_zero, List.append_nil]; exact hs1)
  have e1 : (false :: (x ++ state)).length = g.first := by simp [Gr.first, hni, d1]; omega
  have e2 : stepV g state x out = out ++ x ++ ([] ++ (valsA g.ands (false :: (x ++ state))).drop (false :: (x ++ state)).length) := by rw [e1]; simp [stepV, Gr.vals]
  rw [e2]
  rw [Nat.zero_add] at key
  exact key
theorem RunInv.step {g : Gr} {b : Bu} {n : Nat} {state out x : List Bool} (h : RunInv g b (n + 1) state out) (hE : g.valuesE state x = 0) :
    RunInv g (b.step g) n (g.stepN state x) (stepV g state x out) := by
  obtain ⟨ok, d1, d2⟩ := Gr.ok_E hE
  obtain ⟨k1, k2⟩ := h.row hE
  have o1 := ok.ins
  have hv := h.ok.hv
  rw [Nat.succ_mul] at hv
  have hr1 := Bu.row1_len ok h.ok.lat
  have hlow1 : Low (b.v + g.ins.toNat) (b.row1 g) := low_insRow h.ok.low h.ok.v1
  have hnz1 : Nz (b.row1 g) := nz_insRow h.nz
  have hrl : (b.row g).length = g.all := by unfold Bu.row; rw [rowA_len, hr1]; rfl
  have hok := h.ok.step ok
  have hst := Bu.steps_ok ok 1 b ⟨h.ok.v1, h.ok.lat, h.ok.low, by omega, by have := h.ok.hc; rw [Nat.succ_mul] at this; omega, by have := h.ok.hl; omega⟩ h.nz h.lits
  have hlen : (stepV g state x out).length = (b.step g).v := by
    simp only [stepV, Bu.step, List.length_append, List.length_drop, Gr.vals_len, h.len, Gr.first]; omega
  have hext : ∃ more, stepV g state x out = out ++ more := ⟨_, rfl⟩
  refine ⟨hok, hst.1, hst.2, hlen, ?_, ?_, ?_⟩
  · have hn : g.stepN state x = litsV (g.vals state x) g.next := by unfold Gr.stepN; rw [if_pos hE]
    rw [hn]
    refine ⟨by simp [Bu.step], fun i hi => ?_⟩
    simp only [Bu.step, litsR_len] at hi
    simp only [Bu.step, litsR, litsV, List.getElem_map]
    have h3 := ok.next _ (List.getElem_mem hi)
    have h4 : g.lits = 2 * g.all := rfl
    exact says_lit k1 (nz_rowA hnz1 _ _) (low_rowA hlow1 _) (by omega) (by rw [hrl]; omega)
  · intro c hc
    simp only [Bu.step, List.mem_append] at hc
    rcases hc with hc | hc
    · obtain ⟨more, e⟩ := hext
      rw [e, clause_ext (by rw [h.len]; exact h.lits c hc)]
      exact h.cls c hc
    · exact k2 c hc
  · obtain ⟨more, e⟩ := hext
    have := h.ok.v1
    rw [e, holdsV_ext (by omega) (by rw [h.len]; omega) (by rw [h.len]; omega)]
    exact h.one
theorem says_latB : ∀ (begin : List Int) (state l pre : List Bool), begV begin state = some l → begin.length = state.length → (∀ a ∈ begin, 0 ≤ a ∧ a ≤ 2) → 1 ≤ pre.length → holdsV pre 1 = true →
    Says (pre ++ l) (latB pre.length begin) state ∧ l.length = cnt2 begin
  | [], [], l, pre, h, _, _, _, _ => by
    simp [begV] at h; subst h
    exact ⟨⟨by simp [latB], fun i hi => by simp [latB] at hi⟩, rfl⟩
  | b :: bs, s :: ss, l, pre, h, hl, hb, hp, h1 => by
    have hb0 := hb b (List.mem_cons_self ..)
    have hbs := fun a ha => hb a (List.mem_cons_of_mem _ ha)
    rw [begV] at h
    by_cases h2 : b = 2
    · rw [if_pos h2] at h
      rw [Option.map_eq_some_iff] at h
      obtain ⟨l', hl', rfl⟩ := h
      have h3 : holdsV (pre ++ [s]) 1 = true := by rw [holdsV_ext (by omega) (by omega) (by omega)]; exact h1
      obtain ⟨i1, i2⟩ := says_latB bs ss l' (pre ++ [s]) hl' (by simpa using hl) hbs (by simp) h3
      have e : pre ++ s :: l' = pre ++ [s] ++ l' := by simp
      rw [latB, if_pos h2, e, cnt2, if_pos h2]
      have e2 : (pre ++ [s]).length = pre.length + 1 := by simp
      rw [e2] at i1
      refine ⟨⟨by simp [i1.len], fun j hj => ?_⟩, by simp [i2]; omega⟩
      cases j with
      | zero =>
        simp only [List.getElem_cons_zero]
        rw [holdsV_ext (by omega) (by omega) (by simp), holdsV_at (by simp)]
        simp
      | succ j => simp only [List.getElem_cons_succ]; exact i1.at_ j (by simpa using hj)
    · rw [if_neg h2] at h
      by_cases h3 : decide (b = 1) = s
      · rw [if_pos h3] at h
        obtain ⟨i1, i2⟩ := says_latB bs ss l pre h (by simpa using hl) hbs hp h1
        rw [latB, if_neg h2, cnt2, if_neg h2]
        refine ⟨⟨by simp [i1.len], fun j hj => ?_⟩, by simp [i2]⟩
        cases j with
        | zero =>
          simp only [List.getElem_cons_zero]
          have hone : holdsV (pre ++ l) 1 = true := by rw [holdsV_ext (by omega) (by omega) (by omega)]; exact h1
          rcases (show b = 0 ∨ b = 1 by omega) with rfl | rfl
          · have := holdsV_neg (out := pre ++ l) (a := 1) (by omega)
            rw [show (2 * (0 : Int) - 1) = -1 by omega, this, hone, ← h3]; rfl
          · rw [show (2 * (1 : Int) - 1) = 1 by omega, hone, ← h3]; rfl
        | succ j => simp only [List.getElem_cons_succ]; exact i1.at_ j (by simpa using hj)
      · rw [if_neg h3] at h; simp at h
  | [], s :: ss, l, pre, _, hl, _, _, _ => by simp at hl
  | b :: bs, [], l, pre, _, hl, _, _, _ => by simp at hl
theorem runInv0 {g : Gr} {begin : List Int} {k : Nat} {state l : List Bool} (hc : canC g begin k = 0) (hs : state.length = g.next.length) (h : begV begin state = some l) :
    RunInv g (bu0 begin) k state (true :: l) := by
  obtain ⟨h1, h2, h3, h4, h5, h6⟩ := canC_ok hc
  obtain ⟨a1, a2⟩ := says_latB begin state l [true] h (by omega) h3 (by simp) rfl
  refine ⟨bu0_ok hc, nz_latB _ _, ?_, by simp [bu0, a2]; omega, a1, ?_, by simp [holdsV]⟩
  · intro c hc
    simp only [bu0, List.mem_singleton] at hc
    subst hc
    intro a ha
    simp only [List.mem_singleton] at ha
    subst ha
    simp only [bu0]; omega
  · intro c hc
    simp only [bu0, List.mem_singleton] at hc
    subst hc
    simp [clauseH, anyB_cons, holdsV]
/-- A whole run. -/
theorem run_holds {g : Gr} : ∀ (seq : List (List Bool)) (b : Bu) (state out v : List Bool), RunInv g b seq.length state out → runV g state seq out = (v, 0) →
    ∃ last, RunInv g (Bu.steps g seq.length b) 0 last v
  | [], b, state, out, v, h, hr => by
    simp only [runV, Prod.mk.injEq, and_true] at hr
    subst hr
    exact ⟨state, h⟩
  | x :: xs, b, state, out, v, h, hr => by
    rw [runV] at hr
    by_cases hE : g.valuesE state x = 0
    · rw [if_pos hE] at hr
      exact run_holds xs (b.step g) _ _ v (h.step hE) hr
    · rw [if_neg hE] at hr
      simp only [Prod.mk.injEq] at hr
      exact absurd hr.2 hE
theorem run_ext {g : Gr} : ∀ (seq : List (List Bool)) (state out v : List Bool), runV g state seq out = (v, 0) → ∃ more, v = out ++ more
  | [], state, out, v, h => by
    simp only [runV, Prod.mk.injEq, and_true] at h
    exact ⟨[], by simp [h]⟩
  | x :: xs, state, out, v, h => by
    rw [runV] at h
    by_cases hE : g.valuesE state x = 0
    · rw [if_pos hE] at h
      obtain ⟨more, hm⟩ := run_ext xs _ _ v h
      exact ⟨_, by rw [hm, stepV, List.append_assoc]⟩
    · rw [if_neg hE] at h
      simp only [Prod.mk.injEq] at h
      exact absurd h.2 hE
/-- The literals of a step's row, under a whole run's values. -/
theorem run_row {g : Gr} {b : Bu} {n : Nat} {state out x v more : List Bool} (h : RunInv g b (n + 1) state out) (hE : g.valuesE state x = 0) (hv : v = stepV g state x out ++ more) : Says v (b.row g) (g.vals state x) := by
  obtain ⟨ok, _, _⟩ := Gr.ok_E hE
  have hs := h.step hE
  have hnz1 : Nz (b.row1 g) := nz_insRow h.nz
  have hlow1 : Low (b.v + g.ins.toNat) (b.row1 g) := low_insRow h.ok.low h.ok.v1
  rw [hv]
  refine says_ext (h.row hE).1 (nz_rowA hnz1 _ _) ?_
  rw [hs.len]
  exact low_rowA hlow1 _
/-- A step's row stands in its place among all rows. -/
theorem lits_at {g : Gr} {begin : List Int} {k t : Nat} (hc : canC g begin k = 0) (ht : t < k) (h : t < (unN g begin k).lits.length) : (unN g begin k).lits[t].l = (Bu.steps g t (bu0 begin)).row g := by
  have e : unN g begin k = (Bu.steps g (k - t - 1) ((Bu.steps g t (bu0 begin)).step g)).cn g := by
    unfold unN
    rw [if_pos hc, Int.toNat_natCast]
    have : k = t + ((k - t - 1) + 1) := by omega
    conv => lhs; rw [this, Bu.steps_add]
    rfl
  obtain ⟨c, l, h1, h2⟩ := Bu.steps_more' g (k - t - 1) ((Bu.steps g t (bu0 begin)).step g)
  have hl : (Bu.steps g t (bu0 begin)).lits.length = t := by rw [Bu.steps_lits]; simp [bu0]
  have e2 : (unN g begin k).lits = ((((Bu.steps g t (bu0 begin)).lits ++ [(Bu.steps g t (bu0 begin)).row g]) ++ l) ++ [(Bu.steps g (k - t - 1) ((Bu.steps g t (bu0 begin)).step g)).last g]).map mkR := by
    rw [e]; simp only [Bu.cn]; rw [h2]; rfl
  simp only [e2, List.getElem_map]
  rw [List.getElem_append_left (by simp; omega), List.getElem_append_left (by simp; omega), List.getElem_append_right (by omega)]
  simp [hl]
theorem Bu.ok_at {g : Gr} (ok : g.Ok) : ∀ (t n : Nat) (b : Bu), b.Ok g (t + n) → (Bu.steps g t b).Ok g n
  | 0, n, b, h => by rw [Nat.zero_add] at h; exact h
  | t + 1, n, b, h => Bu.ok_at ok t n (b.step g) (Bu.Ok.step ok (by rwa [show t + n + 1 = t + 1 + n by omega]))
theorem litC_even {u : Cn} {t n : Nat} (h1 : t < u.lits.length) (h2 : n < u.lits[t].l.length) : litC u t (2 * n) = u.lits[t].l[n] := by
  unfold litC
  have e := lls_at h1
  rw [if_neg (by rw [Int.toNat_natCast, e]; omega), Int.toNat_natCast, e]
  unfold inR
  rw [if_neg (by omega), show (2 * (n : Int)).toNat / 2 = n by omega, getD_atI h2]
theorem row_facts {g : Gr} {begin : List Int} {k t : Nat} (hc : canC g begin k = 0) (ht : t < k) :
    Nz ((Bu.steps g t (bu0 begin)).row g) ∧ Low (Bu.steps g k (bu0 begin)).v ((Bu.steps g t (bu0 begin)).row g) := by
  have ok := Gr.ok_of (canC_ok hc).1
  have h0 := bu0_ok hc
  have h1 : (Bu.steps g t (bu0 begin)).Ok g (k - t) := Bu.ok_at ok t (k - t) _ (by rwa [show t + (k - t) = k by omega])
  have hz : Nz (Bu.steps g t (bu0 begin)).lat := (Bu.steps_ok ok t (bu0 begin) ⟨h0.v1, h0.lat, h0.low, by have := h0.hv; have := Nat.mul_le_mul_right (g.ins.toNat + g.ands.length) (Nat.le_of_lt ht); omega, by have := h0.hc; have := Nat.mul_le_mul_right (3 * g.ands.length) (Nat.le_of_lt ht); omega, by have := h0.hl; omega⟩ (nz_latB _ _) (by
    intro c hc
    simp only [bu0, List.mem_singleton] at hc
    subst hc
    intro a ha
    simp only [List.mem_singleton] at ha
    subst ha
    simp only [bu0]; omega)).1
  refine ⟨nz_rowA (nz_insRow hz) _ _, ?_⟩
  have hlow1 : Low ((Bu.steps g t (bu0 begin)).v + g.ins.toNat) ((Bu.steps g t (bu0 begin)).row1 g) := low_insRow h1.low h1.v1
  refine (low_rowA hlow1 _).mono ?_
  rw [Bu.steps_v, Bu.steps_v]
  have := Nat.mul_le_mul_right (g.ins.toNat + g.ands.length) (show t + 1 ≤ k by omega)
  rw [Nat.succ_mul] at this
  omega
theorem unN_eq {g : Gr} {begin : List Int} {k : Nat} (hc : canC g begin k = 0) : unN g begin k = (Bu.steps g k (bu0 begin)).cn g := by
  unfold unN; rw [if_pos hc]; rfl
/-- The literals of a step's row, asked one by one. -/
theorem lit_ok {g : Gr} {begin : List Int} {k : Nat} {v : List Bool} (hc : canC g begin k = 0) (hv : (v.length : Int) = (unN g begin k).vars) (t : Nat) (ht : t < k) (x : List Bool) (hs : Says v ((Bu.steps g t (bu0 begin)).row g) x) (n : Nat) (hn : n < x.length) :
    litC (unN g begin k) t (2 * n) ≠ 0 ∧ -(v.length : Int) ≤ litC (unN g begin k) t (2 * n) ∧ litC (unN g begin k) t (2 * n) ≤ v.length ∧ holdsV v (litC (unN g begin k) t (2 * n)) = x[n] := by
  obtain ⟨u1, _⟩ := unN_sizes hc
  have ht2 : t < (unN g begin k).lits.length := by omega
  have e := lits_at hc ht ht2
  have hlen := hs.len
  have hn2 : n < (unN g begin k).lits[t].l.length := by rw [e]; omega
  have hvl : v.length = (Bu.steps g k (bu0 begin)).v := by rw [unN_eq hc] at hv; simp only [Bu.cn] at hv; omega
  obtain ⟨z1, z2⟩ := row_facts (g := g) (begin := begin) hc ht
  have hn3 : n < ((Bu.steps g t (bu0 begin)).row g).length := by omega
  have e2 : litC (unN g begin k) t (2 * n) = ((Bu.steps g t (bu0 begin)).row g)[n] := by rw [litC_even ht2 hn2]; simp only [e]
  rw [e2]
  have h2 := z2 _ (List.getElem_mem hn3)
  exact ⟨z1 _ (List.getElem_mem hn3), by omega, by omega, hs.at_ n hn3⟩
/-- The last row. -/
theorem lits_last {g : Gr} {begin : List Int} {k : Nat} (hc : canC g begin k = 0) (h : k < (unN g begin k).lits.length) : (unN g begin k).lits[k].l = (Bu.steps g k (bu0 begin)).last g := by
  have hl : (Bu.steps g k (bu0 begin)).lits.length = k := by rw [Bu.steps_lits]; simp [bu0]
  have e2 : (unN g begin k).lits = ((Bu.steps g k (bu0 begin)).lits ++ [(Bu.steps g k (bu0 begin)).last g]).map mkR := by rw [unN_eq hc]; rfl
  simp only [e2, List.getElem_map]
  rw [List.getElem_append_right (by omega)]
  simp [hl]
theorem lit_last {g : Gr} {begin : List Int} {k : Nat} {v last : List Bool} (hc : canC g begin k = 0) (h : RunInv g (Bu.steps g k (bu0 begin)) 0 last v) (n : Nat) (hn : n < last.length) :
    litC (unN g begin k) k (2 * (1 + g.ins + n)) ≠ 0 ∧ -(v.length : Int) ≤ litC (unN g begin k) k (2 * (1 + g.ins + n)) ∧ litC (unN g begin k) k (2 * (1 + g.ins + n)) ≤ v.length ∧ holdsV v (litC (unN g begin k) k (2 * (1 + g.ins + n))) = last[n] := by
  obtain ⟨u1, _⟩ := unN_sizes hc
  have ok := Gr.ok_of (canC_ok hc).1
  have o1 := ok.ins
  have ht2 : k < (unN g begin k).lits.length := by omega
  have e := lits_last hc ht2
  have hlen := h.says.len
  have hn3 : n < (Bu.steps g k (bu0 begin)).lat.length := by omega
  have hll : ((Bu.steps g k (bu0 begin)).last g).length = 1 + g.ins.toNat + (Bu.steps g k (bu0 begin)).lat.length + g.ands.length := by
    unfold Bu.last; rw [List.length_append, insRow_len (Nat.zero_le _), List.length_replicate]
  have hn2 : 1 + g.ins.toNat + n < (unN g begin k).lits[k].l.length := by rw [e, hll]; omega
  have e0 : (2 * (1 + g.ins + (n : Int))) = 2 * ((1 + g.ins.toNat + n : Nat) : Int) := by omega
  have e2 : litC (unN g begin k) k (2 * (1 + g.ins + n)) = (Bu.steps g k (bu0 begin)).lat[n] := by
    rw [e0, litC_even ht2 hn2]
    simp only [e]
    unfold Bu.last
    rw [List.getElem_append_left (by rw [insRow_len (Nat.zero_le _)]; omega)]
    simp only [insRow_zero]
    have e3 : 1 + g.ins.toNat + n = (g.ins.toNat + n) + 1 := by omega
    simp only [e3, List.getElem_cons_succ]
    rw [List.getElem_append_right (by simp)]
    simp
  rw [e2]
  have h2 := h.ok.low _ (List.getElem_mem hn3)
  have h3 := h.len
  exact ⟨h.nz _ (List.getElem_mem hn3), by omega, by omega, h.says.at_ n hn3⟩
end Go.Proofs.Ytfpkjfmpamlakaa
/- Only the values of a run hold the clauses. No program in sight. -/
namespace Go.Proofs.Ytfpkjfmpamlakaa
open Go.AM Go.Proofs
set_option linter.unusedSimpArgs false
set_option linter.unusedVariables false

theorem holdsV_take {v : List Bool} {m : Nat} {a : Int} (hm : m ≤ v.length) (h0 : a ≠ 0) (h1 : -(m : Int) ≤ a) (h2 : a ≤ m) : holdsV (v.take m) a = holdsV v a := by
  have hl : (v.take m).length = m := by rw [List.length_take]; omega
  conv => rhs; rw [← List.take_append_drop m v]
  rw [holdsV_ext h0 (by omega) (by omega)]

theorem clsA_uniq {row : List Int} {n1 : Nat} (hz : Nz row) (hl : Low n1 row) (v w : List Bool) : ∀ (ps : List (Int × Int)) (i : Nat), n1 + i + ps.length < 2 ^ 40 →
    (∀ j (hj : j < ps.length), ps[j].1.toNat / 2 < row.length + i + j ∧ ps[j].2.toNat / 2 < row.length + i + j) →
    n1 + i + ps.length ≤ v.length → n1 + i + ps.length ≤ w.length → v.take (n1 + i) = w.take (n1 + i) →
    (∀ c ∈ clsA row n1 ps i, clauseH v c = true) → (∀ c ∈ clsA row n1 ps i, clauseH w c = true) → v.take (n1 + i + ps.length) = w.take (n1 + i + ps.length)
  | [], i, _, _, _, _, h, _, _ => by simpa using h
  | p :: ps, i, hB, hp, hv, hw, h, cv, cw => by
    rw [List.length_cons] at hB hv hw ⊢
    have h0 := hp 0 (by simp)
    simp only [List.getElem_cons_zero, Nat.add_zero] at h0
    have hlr := low_rowA hl i
    have hzr := nz_rowA hz n1 i
    have hln := rowA_len row n1 i
    have x1 := inR_low hlr (by omega) (a := p.1.toNat) (by omega)
    have x2 := inR_low hlr (by omega) (a := p.2.toNat) (by omega)
    have z1 := nz_inR hzr hlr (by omega) (a := p.1.toNat) (by omega)
    have z2 := nz_inR hzr hlr (by omega) (a := p.2.toNat) (by omega)
    have key : ∀ u : List Bool, (∀ c ∈ clsA row n1 (p :: ps) i, clauseH u c = true) → n1 + i + 1 ≤ u.length →
        u[n1 + i]? = some (holdsV u (inR (rowA row n1 i) p.1.toNat) && holdsV u (inR (rowA row n1 i) p.2.toNat)) := by
      intro u hu hlen
      have nv : ((n1 + 1 + i : Nat) : Int) ≠ 0 := by omega
      have e := holdsV_at (out := u) (n := n1 + i) (by omega)
      rw [show n1 + i + 1 = n1 + 1 + i by omega] at e
      have c1 := hu [-((n1 + 1 + i : Nat) : Int), inR (rowA row n1 i) p.1.toNat] (by rw [clsA]; simp [cl3])
      have c2 := hu [-((n1 + 1 + i : Nat) : Int), inR (rowA row n1 i) p.2.toNat] (by rw [clsA]; simp [cl3])
      have c3 := hu [((n1 + 1 + i : Nat) : Int), -inR (rowA row n1 i) p.1.toNat, -inR (rowA row n1 i) p.2.toNat] (by rw [clsA]; simp [cl3])
      simp only [clauseH, anyB_cons, anyB_nil, holdsV_neg nv, holdsV_neg z1, holdsV_neg z2] at c1 c2 c3
      rw [List.getElem?_eq_getElem (by omega), ← e]
      generalize holdsV u ((n1 + 1 + i : Nat) : Int) = q at *
      generalize holdsV u (inR (rowA row n1 i) p.1.toNat) = a at *
      generalize holdsV u (inR (rowA row n1 i) p.2.toNat) = b at *
      cases q <;> cases a <;> cases b <;> simp_all
    have ha : holdsV v (inR (rowA row n1 i) p.1.toNat) = holdsV w (inR (rowA row n1 i) p.1.toNat) := by
      rw [← holdsV_take (m := n1 + i) (by omega) z1 (by omega) (by omega), h, holdsV_take (by omega) z1 (by omega) (by omega)]
    have hb : holdsV v (inR (rowA row n1 i) p.2.toNat) = holdsV w (inR (rowA row n1 i) p.2.toNat) := by
      rw [← holdsV_take (m := n1 + i) (by omega) z2 (by omega) (by omega), h, holdsV_take (by omega) z2 (by omega) (by omega)]
    have hn : v.take (n1 + (i + 1)) = w.take (n1 + (i + 1)) := by
      rw [← Nat.add_assoc, List.take_add_one, List.take_add_one, h, key v cv (by omega), key w cw (by omega), ha, hb]
    have := clsA_uniq hz hl v w ps (i + 1) (by omega) (fun j hj => by have := hp (j + 1) (by simpa using hj); simp only [List.getElem_cons_succ] at this; omega) (by omega) (by omega) hn
      (fun c hc => cv c (by rw [clsA]; exact List.mem_append_right _ hc)) (fun c hc => cw c (by rw [clsA]; exact List.mem_append_right _ hc))
    rw [show n1 + i + (ps.length + 1) = n1 + (i + 1) + ps.length by omega]
    exact this

/-- The inputs of each step, as values tell them. -/
def insS (g : Gr) (v : List Bool) : Nat → Nat → List (List Bool)
  | _, 0 => []
  | p, n + 1 => (v.drop p).take g.ins.toNat :: insS g v (p + g.ins.toNat + g.ands.length) n
theorem insS_len (g : Gr) (v : List Bool) : ∀ (n p : Nat), (insS g v p n).length = n
  | 0, _ => rfl
  | n + 1, p => by rw [insS, List.length_cons, insS_len g v n]
theorem insS_succ (g : Gr) (v : List Bool) : ∀ (n p : Nat), insS g v p (n + 1) = insS g v p n ++ [(v.drop (p + n * (g.ins.toNat + g.ands.length))).take g.ins.toNat]
  | 0, p => by simp [insS]
  | n + 1, p => by
    rw [insS, insS_succ g v n, insS, List.cons_append]
    congr 5
    rw [Nat.succ_mul]; omega

theorem only_step {g : Gr} {b : Bu} {n : Nat} {state out v : List Bool} (hg : g.check = 0) (h : RunInv g b (n + 1) state out) (ho : out = v.take b.v) (hv : (b.step g).v ≤ v.length)
    (hc : ∀ c ∈ clsA (b.row1 g) (b.v + g.ins.toNat) g.ands 0, clauseH v c = true) :
    g.valuesE state ((v.drop b.v).take g.ins.toNat) = 0 ∧ stepV g state ((v.drop b.v).take g.ins.toNat) out = v.take (b.step g).v := by
  have ok := Gr.ok_of hg
  have o1 := ok.ins
  have hbv : (b.step g).v = b.v + g.ins.toNat + g.ands.length := rfl
  have hx : ((v.drop b.v).take g.ins.toNat).length = g.ins.toNat := by rw [List.length_take, List.length_drop]; omega
  have hE : g.valuesE state ((v.drop b.v).take g.ins.toNat) = 0 := by
    unfold Gr.valuesE
    rw [if_neg (by omega), if_pos]
    have := h.says.len
    have := h.ok.lat
    simp only [Gr.fits, hx, Bool.and_eq_true, decide_eq_true_eq]
    omega
  refine ⟨hE, ?_⟩
  obtain ⟨k1, k2⟩ := h.row hE
  have hlen := (h.step hE).len
  have hhv := h.ok.hv
  rw [Nat.succ_mul] at hhv
  have hr1 := Bu.row1_len ok h.ok.lat
  have hlow1 : Low (b.v + g.ins.toNat) (b.row1 g) := low_insRow h.ok.low h.ok.v1
  have hnz1 : Nz (b.row1 g) := nz_insRow h.nz
  generalize hX : (v.drop b.v).take g.ins.toNat = x at *
  have e1 : (stepV g state x out).take (b.v + g.ins.toNat) = v.take (b.v + g.ins.toNat) := by
    have e2 : b.v + g.ins.toNat = (out ++ x).length := by rw [List.length_append, h.len, hx]
    have e3 : stepV g state x out = (out ++ x) ++ (g.vals state x).drop g.first := by simp [stepV]
    rw [e3, e2, List.take_left, ← e2, List.take_add, hX, ← ho]
  have := clsA_uniq hnz1 hlow1 (stepV g state x out) v g.ands 0 (by omega) (fun j hj => by have := ok.ands j hj; rw [hr1]; omega) (by omega) (by omega) (by simpa using e1) k2 hc
  rw [Nat.add_zero, ← hbv] at this
  rw [← this, List.take_of_length_le (by omega)]

theorem only_run {g : Gr} (hg : g.check = 0) (v : List Bool) : ∀ (n : Nat) (b : Bu) (state out : List Bool), RunInv g b n state out → out = v.take b.v → v.length = (Bu.steps g n b).v → (∀ c ∈ (Bu.steps g n b).cls, clauseH v c = true) →
    runV g state (insS g v b.v n) out = (v, 0)
  | 0, b, state, out, h, ho, hv, hc => by
    simp only [Bu.steps] at hv
    rw [insS, runV, ho, List.take_of_length_le (by omega)]
  | n + 1, b, state, out, h, ho, hv, hc => by
    rw [Bu.steps] at hv hc
    have hle : (b.step g).v ≤ v.length := by rw [hv, Bu.steps_v]; omega
    obtain ⟨c, l, h1, h2⟩ := Bu.steps_more' g n (b.step g)
    obtain ⟨e1, e2⟩ := only_step hg h ho hle (fun c' hc' => hc c' (by rw [h1]; exact List.mem_append_left _ (List.mem_append_right _ hc')))
    rw [insS, runV, if_pos e1, e2]
    have := only_run hg v n (b.step g) _ _ (h.step e1) e2 hv hc
    rw [e2] at this
    exact this

theorem begV_only : ∀ (begin : List Int) (p : Nat) (v : List Bool), holdsV v 1 = true → (∀ a ∈ begin, 0 ≤ a ∧ a ≤ 2) → 1 ≤ p → p + cnt2 begin ≤ v.length →
    begV begin ((latB p begin).map (holdsV v)) = some ((v.drop p).take (cnt2 begin))
  | [], p, v, _, _, _, _ => by simp [latB, begV, cnt2]
  | b :: bs, p, v, h1, hb, hp, hl => by
    have hb0 := hb b (List.mem_cons_self ..)
    have hbs := fun a ha => hb a (List.mem_cons_of_mem _ ha)
    rw [cnt2] at hl
    by_cases h2 : b = 2
    · rw [if_pos h2] at hl
      have ih := begV_only bs (p + 1) v h1 hbs (by omega) (by omega)
      rw [latB, if_pos h2, List.map_cons, begV, if_pos h2, ih, holdsV_at (by omega), cnt2, if_pos h2, Nat.add_comm 1, List.drop_eq_getElem_cons (show p < v.length by omega)]
      rfl
    · rw [if_neg h2] at hl
      have ih := begV_only bs p v h1 hbs (by omega) (by omega)
      rw [latB, if_neg h2, List.map_cons, begV, if_neg h2, if_pos, ih, cnt2, if_neg h2, Nat.zero_add]
      rcases (show b = 0 ∨ b = 1 by omega) with rfl | rfl
      · have := holdsV_neg (out := v) (a := 1) (by omega)
        rw [show (2 * (0 : Int) - 1) = -1 by omega, this, h1]; rfl
      · rw [show (2 * (1 : Int) - 1) = 1 by omega, h1]; rfl

theorem only_all {g : Gr} {begin : List Int} {k : Nat} {v : List Bool} (hc : canC g begin k = 0) (hv : (v.length : Int) = (unN g begin k).vars) (hcl : ∀ r ∈ (unN g begin k).cls, clauseH v r.l = true) :
    valC g begin ((latB 1 begin).map (holdsV v)) (insS g v (1 + cnt2 begin) k) = (v, 0) := by
  obtain ⟨h1, h2, h3, h4, h5, h6⟩ := canC_ok hc
  rw [unN_eq hc] at hv hcl
  have hv' : v.length = (Bu.steps g k (bu0 begin)).v := by simp only [Bu.cn] at hv; omega
  have hcl' : ∀ c ∈ (Bu.steps g k (bu0 begin)).cls, clauseH v c = true := fun c hc => hcl (mkR c) (by simp only [Bu.cn]; exact List.mem_map_of_mem hc)
  have hb0 : (bu0 begin).v = 1 + cnt2 begin := rfl
  have hle : 1 + cnt2 begin ≤ v.length := by rw [hv', Bu.steps_v]; omega
  obtain ⟨c, l, e1, e2⟩ := Bu.steps_more' g k (bu0 begin)
  have hone : holdsV v 1 = true := by
    have := hcl' [1] (by rw [e1]; simp [bu0])
    simpa [clauseH, anyB_cons] using this
  have hbeg := begV_only begin 1 v hone h3 (by omega) hle
  have hs : ((latB 1 begin).map (holdsV v)).length = g.next.length := by rw [List.length_map, latB_len]; exact h2
  have hr := runInv0 (k := k) hc hs hbeg
  have ht : (true :: (v.drop 1).take (cnt2 begin)) = v.take (bu0 begin).v := by
    rw [hb0]
    cases v with
    | nil => simp at hle
    | cons a v =>
      have ha : a = true := by simpa [holdsV] using hone
      rw [ha, Nat.add_comm, List.take_succ_cons, List.drop_succ_cons, List.drop_zero]
  unfold valC
  rw [insS_len, if_neg (by omega), if_neg (by omega), hbeg]
  simp only
  rw [ht] at hr ⊢
  exact only_run h1 v k (bu0 begin) _ _ hr rfl hv' hcl'

theorem says_self (v : List Bool) (r : List Int) : Says v r (r.map (holdsV v)) := ⟨by simp, fun i hi => by simp⟩
theorem only_inv0 {g : Gr} {begin : List Int} {k : Nat} {v : List Bool} (hc : canC g begin k = 0) (hv : (v.length : Int) = (unN g begin k).vars) (hcl : ∀ r ∈ (unN g begin k).cls, clauseH v r.l = true) :
    RunInv g (bu0 begin) k ((latB 1 begin).map (holdsV v)) (v.take (bu0 begin).v) ∧ (bu0 begin).v ≤ v.length := by
  obtain ⟨h1, h2, h3, h4, h5, h6⟩ := canC_ok hc
  rw [unN_eq hc] at hv hcl
  have hv' : v.length = (Bu.steps g k (bu0 begin)).v := by simp only [Bu.cn] at hv; omega
  have hcl' : ∀ c ∈ (Bu.steps g k (bu0 begin)).cls, clauseH v c = true := fun c hc => hcl (mkR c) (by simp only [Bu.cn]; exact List.mem_map_of_mem hc)
  have hb0 : (bu0 begin).v = 1 + cnt2 begin := rfl
  have hle : 1 + cnt2 begin ≤ v.length := by rw [hv', Bu.steps_v]; omega
  obtain ⟨c, l, e1, e2⟩ := Bu.steps_more' g k (bu0 begin)
  have hone : holdsV v 1 = true := by
    have := hcl' [1] (by rw [e1]; simp [bu0])
    simpa [clauseH, anyB_cons] using this
  have hbeg := begV_only begin 1 v hone h3 (by omega) hle
  have hs : ((latB 1 begin).map (holdsV v)).length = g.next.length := by rw [List.length_map, latB_len]; exact h2
  have hr := runInv0 (k := k) hc hs hbeg
  refine ⟨?_, by rw [hb0]; exact hle⟩
  have ht : (true :: (v.drop 1).take (cnt2 begin)) = v.take (bu0 begin).v := by
    rw [hb0]
    cases v with
    | nil => simp at hle
    | cons a v =>
      have ha : a = true := by simpa [holdsV] using hone
      rw [ha, Nat.add_comm, List.take_succ_cons, List.drop_succ_cons, List.drop_zero]
  rwa [ht] at hr
theorem lit_inp {g : Gr} {begin : List Int} {k : Nat} {v : List Bool} (hc : canC g begin k = 0) (hv : (v.length : Int) = (unN g begin k).vars) (t : Nat) (ht : t < k) (i : Nat) (hi : i < g.ins.toNat) :
    litC (unN g begin k) t (2 * (1 + i)) ≠ 0 ∧ -(v.length : Int) ≤ litC (unN g begin k) t (2 * (1 + i)) ∧ litC (unN g begin k) t (2 * (1 + i)) ≤ v.length ∧
      ∃ h : (1 + cnt2 begin + t * (g.ins.toNat + g.ands.length)) + i < v.length, holdsV v (litC (unN g begin k) t (2 * (1 + i))) = v[(1 + cnt2 begin + t * (g.ins.toNat + g.ands.length)) + i] := by
  obtain ⟨h1, h2, h3, h4, h5, h6⟩ := canC_ok hc
  have ok := Gr.ok_of h1
  have hlat : (Bu.steps g t (bu0 begin)).lat.length = g.next.length := Bu.steps_lat g t _ (by simp [bu0, latB_len]; exact h2)
  have hr1 := Bu.row1_len ok hlat
  have hrl : ((Bu.steps g t (bu0 begin)).row g).length = g.all := by unfold Bu.row; rw [rowA_len, hr1]; rfl
  have hall : g.all = 1 + g.ins.toNat + g.next.length + g.ands.length := rfl
  obtain ⟨a1, a2, a3, a4⟩ := lit_ok hc hv t ht _ (says_self v _) (1 + i) (by rw [List.length_map, hrl]; omega)
  rw [show (2 * ((1 + i : Nat) : Int)) = 2 * (1 + (i : Int)) by omega] at a1 a2 a3 a4
  refine ⟨a1, a2, a3, ?_⟩
  have hbv : (Bu.steps g t (bu0 begin)).v = 1 + cnt2 begin + t * (g.ins.toNat + g.ands.length) := by rw [Bu.steps_v]; rfl
  have hvl : v.length = 1 + cnt2 begin + k * (g.ins.toNat + g.ands.length) := by rw [unN_eq hc] at hv; simp only [Bu.cn] at hv; rw [Bu.steps_v] at hv; simp only [bu0] at hv; omega
  have hm := Nat.mul_le_mul_right (g.ins.toNat + g.ands.length) (show t + 1 ≤ k by omega)
  rw [Nat.succ_mul] at hm
  have hlt : (1 + cnt2 begin + t * (g.ins.toNat + g.ands.length)) + i < v.length := by omega
  refine ⟨hlt, ?_⟩
  rw [a4, List.getElem_map]
  have e : ((Bu.steps g t (bu0 begin)).row g)[1 + i]'(by rw [hrl]; omega) = (((1 + cnt2 begin + t * (g.ins.toNat + g.ands.length)) + i + 1 : Nat) : Int) := by
    simp only [Bu.row, rowA, Bu.row1, insRow, hbv]
    rw [List.getElem_append_left (by simp; omega)]
    simp only [show 1 + i = i + 1 by omega, List.getElem_cons_succ]
    rw [List.getElem_append_left (by simp; omega)]
    simp
    omega
  rw [e, holdsV_at hlt]
theorem lit_state {g : Gr} {begin : List Int} {k : Nat} {v : List Bool} (hc : canC g begin k = 0) (hv : (v.length : Int) = (unN g begin k).vars) (hcl : ∀ r ∈ (unN g begin k).cls, clauseH v r.l = true) (i : Nat) (hi : i < ((latB 1 begin).map (holdsV v)).length) :
    litC (unN g begin k) 0 (2 * (1 + g.ins + i)) ≠ 0 ∧ -(v.length : Int) ≤ litC (unN g begin k) 0 (2 * (1 + g.ins + i)) ∧ litC (unN g begin k) 0 (2 * (1 + g.ins + i)) ≤ v.length ∧
      holdsV v (litC (unN g begin k) 0 (2 * (1 + g.ins + i))) = ((latB 1 begin).map (holdsV v))[i] := by
  obtain ⟨h1, h2, h3, h4, h5, h6⟩ := canC_ok hc
  have ok := Gr.ok_of h1
  have o1 := ok.ins
  obtain ⟨r0, r1⟩ := only_inv0 hc hv hcl
  cases k with
  | zero =>
    have hvl : v.length = (bu0 begin).v := by rw [unN_eq hc] at hv; simp only [Bu.cn] at hv; simpa [Bu.steps] using hv
    rw [← hvl, List.take_length] at r0
    exact lit_last hc (k := 0) r0 i hi
  | succ k =>
    have hlat : (latB 1 begin).length = g.next.length := by rw [latB_len]; exact h2
    have hr1 := Bu.row1_len ok (b := bu0 begin) (by simpa [bu0] using hlat)
    have hrl : ((bu0 begin).row g).length = g.all := by unfold Bu.row; rw [rowA_len, hr1]; rfl
    have hall : g.all = 1 + g.ins.toNat + g.next.length + g.ands.length := rfl
    rw [List.length_map] at hi
    obtain ⟨a1, a2, a3, a4⟩ := lit_ok hc hv 0 (by omega) _ (says_self v _) (1 + g.ins.toNat + i) (by rw [List.length_map]; simp only [Bu.steps]; rw [hrl]; omega)
    rw [show (2 * ((1 + g.ins.toNat + i : Nat) : Int)) = 2 * (1 + g.ins + (i : Int)) by omega] at a1 a2 a3 a4
    refine ⟨a1, a2, a3, ?_⟩
    simp only [Int.natCast_zero] at a4
    rw [a4, List.getElem_map, List.getElem_map]
    congr 1
    simp only [Bu.steps, Bu.row, rowA, Bu.row1, insRow, bu0]
    rw [List.getElem_append_left (by simp; omega)]
    simp only [show 1 + g.ins.toNat + i = (g.ins.toNat + i) + 1 by omega, List.getElem_cons_succ]
    rw [List.getElem_append_right (by simp)]
    simp
end Go.Proofs.Ytfpkjfmpamlakaa
/- The law: CnfOnly. -/
namespace Go.Proofs.Ytfpkjfmpamlakaa
open Go.AM Go.Proofs
variable {Γ : Nat → Option AV}
set_option linter.unusedSimpArgs false
set_option linter.unusedVariables false

abbrev hO (g : Gr) (u : Cn) (st : List Bool) (sq : List (List Bool)) : List Ob :=
  [boxG g, cellsC u, .row 1 t_api_Clause_2 [] none true false, .row 1 t_int_3 [] none true false, .row 1 t_bool (st.map .bool) none true false, .row 1 t_bool_2 (sq.map fun r => eRowB ⟨false, 1, r, .self⟩) none true false]

set_option maxRecDepth 8000 in
theorem r_on5 (g : Gr) (hg : 0 ≤ g.ins) (u : Cn) (hu : u.few) (v : List Bool) {kv : Nat} (hkv : Kd 1 kv v) (hv : v.length < 2 ^ 40) (st : List Bool) (sq : List (List Bool)) (t : Nat) (ht : t < u.lits.length) (hrow : g.ins.toNat ≤ u.lits[t].l.length) (p : Nat)
    (hlit : ∀ i, i < g.ins.toNat → litC u t (2 * (1 + i)) ≠ 0 ∧ -(v.length : Int) ≤ litC u t (2 * (1 + i)) ∧ litC u t (2 * (1 + i)) ≤ v.length ∧ ∃ h : p + i < v.length, holdsV v (litC u t (2 * (1 + i))) = v[p + i]) (hgi : g.ins ≤ 4000) (begin : List Int) (kb : Nat) (k : Int) :
    ∀ n i : Nat, i + n = g.ins.toNat → ∀ w, w = ((v.drop p).take g.ins.toNat).take i → AM.Reach Try.prog Γ
      (w19_CnfOnly_L5 (.list false kb (begin.map i64)) (.int .i64 k) (.list false kv (v.map .bool)) (.ptr 0 0) (.bool true) (.ptr 1 0) (.sl 4 0 st.length) (.sl 5 0 sq.length) (.int .i64 t) (.sl 6 0 w.length) (.int .i64 i) (hO g u st sq ++ [.row 1 t_bool (w.map .bool) none true false]))
      (w19_CnfOnly_E5 (.list false kb (begin.map i64)) (.int .i64 k) (.list false kv (v.map .bool)) (.ptr 0 0) (.bool true) (.ptr 1 0) (.sl 4 0 st.length) (.sl 5 0 sq.length) (.int .i64 t) (.sl 6 0 ((v.drop p).take g.ins.toNat).length) (hO g u st sq ++ [.row 1 t_bool (((v.drop p).take g.ins.toNat).map .bool) none true false])) := by
  intro n
  induction n with
  | zero =>
    intro i hi w hw
    rw [List.take_of_length_le (by rw [List.length_take]; omega)] at hw
    subst hw
    have q1 : ¬ (i : Int) < g.ins := by omega
    refine .goS 60 ?_
    simp [q1]
    exact .exit rfl rfl
  | succ n ih =>
    intro i hi w hw
    have q1 : (i : Int) < g.ins := by omega
    have q2 : i < u.lits[t].l.length := by omega
    obtain ⟨l1, l2, l3, l5, l4⟩ := hlit i (by omega)
    have hl : i < ((v.drop p).take g.ins.toNat).length := by rw [List.length_take, List.length_drop]; omega
    have hh := ih (i + 1) (by omega) (w ++ [v[p + i]]) (by rw [hw, List.take_succ_eq_append_getElem hl]; congr 2; simp [List.getElem_take, List.getElem_drop])
    have hwl : w.length < 2 ^ 40 := by rw [hw, List.length_take]; omega
    have q3 := eq_true (u.hl.of ht)
    refine .goS 60 ?_
    simp (disch := omega) [q1, q2, q3, ht]
    refine .callS 60 (by simp) (p_cnf_Lit u hu t (2 * (1 + i)) (by omega)) ?_
    simp
    refine .callS 60 (by simp) (p_r19_Holds (litC u t (2 * (1 + i))) v (k := kv) hkv l1 l2 l3 hv) ?_
    simp (disch := omega) [l4]
    refine .reLoop ?_
    simp
    refine .resetTo (i := 6) rfl (by simp) (by simp) (by simp) ?_
    simp at hh ⊢
    exact hh

set_option maxRecDepth 8000 in
theorem f_on2 (g : Gr) (hf : g.few) (hg : 0 ≤ g.ins) (hgi : g.ins ≤ 4000) (begin : List Int) {kb : Nat} (hb : Kd 1 kb begin) (hbl : begin.length < 2 ^ 40) (u : Cn) (hu : u.few) (v : List Bool) {kv : Nat} (hkv : Kd 1 kv v) (hv : v.length < 2 ^ 40) (st : List Bool) (hst : st.length < 2 ^ 40)
    (k : Nat) (hk : k < 2 ^ 20) (hul : u.lits.length = k + 1) (hrow : ∀ r ∈ u.lits, g.ins.toNat ≤ r.l.length) (p : Nat)
    (hlit : ∀ t, t < k → ∀ i, i < g.ins.toNat → litC u t (2 * (1 + i)) ≠ 0 ∧ -(v.length : Int) ≤ litC u t (2 * (1 + i)) ∧ litC u t (2 * (1 + i)) ≤ v.length ∧ ∃ h : (p + t * (g.ins.toNat + g.ands.length)) + i < v.length, holdsV v (litC u t (2 * (1 + i))) = v[(p + t * (g.ins.toNat + g.ands.length)) + i])
    (hval : valC g begin st (insS g v p k) = (v, 0)) :
    ∀ n t : Nat, t + n = k → ∀ sq, sq = insS g v p t → Fins Try.prog Γ
      (w19_CnfOnly_L2 (.list false kb (begin.map i64)) (.int .i64 k) (.list false kv (v.map .bool)) (.ptr 0 0) (.bool true) (.ptr 1 0) (.sl 4 0 st.length) (.sl 5 0 sq.length) (.int .i64 t) (hO g u st sq)) (.ret (.bool true)) := by
  intro n
  induction n with
  | zero =>
    intro t ht sq hsq
    obtain rfl : t = k := by omega
    have hsl : sq.length = t := by rw [hsq, insS_len]
    have cv := p_cnf_Values (Γ := Γ) g hf begin hb hbl st (ks := 1) .self hst (sq.map fun r => ⟨false, 1, r, .self⟩) (kq := 1) .self (by rw [List.length_map]; omega) (by
      intro r hr
      obtain ⟨l, hl, rfl⟩ := List.mem_map.1 hr
      have hmem : ∀ (n p : Nat) (l : List Bool), l ∈ insS g v p n → l.length < 2 ^ 30 := by
        intro n
        induction n with
        | zero => intro p l h; simp [insS] at h
        | succ n ih =>
          intro p l h
          rw [insS, List.mem_cons] at h
          rcases h with rfl | h
          · rw [List.length_take]; omega
          · exact ih _ _ h
      rw [hsq] at hl
      exact hmem _ _ _ hl)
    have e2 : (sq.map fun r => (⟨false, 1, r, .self⟩ : RowB)).map RowB.l = sq := by simp [Function.comp_def]
    rw [e2, hsq, hval] at cv
    rw [← hsq] at cv
    refine .go 60 ?_
    simp
    refine .call 60 (by simp) cv ?_
    simp
    refine .call 60 (by simp) (p_r08_Bools v v (ka := 1) .self hkv (by omega)) ?_
    simp
    exact .back (by simp)
  | succ n ih =>
    intro t ht sq hsq
    have q1 : t < k := by omega
    have q2 : t < u.lits.length := by omega
    have q3 := eq_true (u.hl.of q2)
    have q4 : ((t : Int) < (k : Int) + 1) = True := eq_true (by omega)
    have hsl : sq.length = t := by rw [hsq, insS_len]
    have hh := ih (t + 1) (by omega) (sq ++ [(v.drop (p + t * (g.ins.toNat + g.ands.length))).take g.ins.toNat]) (by rw [insS_succ, hsq])
    have h5 := r_on5 (Γ := Γ) g hg u hu v hkv hv st sq t q2 (hrow _ (List.getElem_mem q2)) (p + t * (g.ins.toNat + g.ands.length)) (hlit t q1) hgi begin kb k g.ins.toNat 0 (by omega) [] (by simp)
    generalize (v.drop (p + t * (g.ins.toNat + g.ands.length))).take g.ins.toNat = x at *
    refine .go 60 ?_
    simp (disch := omega) [q1, q2, q3, hul, q4]
    refine .inLoop ?_
    simp
    simp at h5
    refine .reach h5 ?_
    refine .trees [19] ?_
    simp
    refine .drop 6 rfl (by simp) (by simp) (by simp) ?_
    refine .go 60 ?_
    simp (disch := omega)
    refine .reLoop ?_
    simp
    refine .reset (i := 5) rfl (by simp) (by simp) (by simp) ?_
    simp [hO] at hh ⊢
    exact hh

set_option maxRecDepth 8000 in
theorem f_on14 (g : Gr) (hf : g.few) (hg : 0 ≤ g.ins) (hgi : g.ins ≤ 4000) (begin : List Int) {kb : Nat} (hb : Kd 1 kb begin) (hbl : begin.length < 2 ^ 20) (u : Cn) (hu : u.few) (v : List Bool) {kv : Nat} (hkv : Kd 1 kv v) (hv : v.length < 2 ^ 40)
    (k : Nat) (hk : k < 2 ^ 20) (hul : u.lits.length = k + 1) (hrow : ∀ r ∈ u.lits, g.ins.toNat ≤ r.l.length) (p : Nat)
    (hlit : ∀ t, t < k → ∀ i, i < g.ins.toNat → litC u t (2 * (1 + i)) ≠ 0 ∧ -(v.length : Int) ≤ litC u t (2 * (1 + i)) ∧ litC u t (2 * (1 + i)) ≤ v.length ∧ ∃ h : (p + t * (g.ins.toNat + g.ands.length)) + i < v.length, holdsV v (litC u t (2 * (1 + i))) = v[(p + t * (g.ins.toNat + g.ands.length)) + i])
    (all : List Bool) (hal : all.length = begin.length) (hval : valC g begin all (insS g v p k) = (v, 0))
    (hls : ∀ i (h : i < all.length), litC u 0 (2 * (1 + g.ins + i)) ≠ 0 ∧ -(v.length : Int) ≤ litC u 0 (2 * (1 + g.ins + i)) ∧ litC u 0 (2 * (1 + g.ins + i)) ≤ v.length ∧ holdsV v (litC u 0 (2 * (1 + g.ins + i))) = all[i]) :
    ∀ n i : Nat, i + n = begin.length → ∀ st, st = all.take i → Fins Try.prog Γ
      (w19_CnfOnly_L14 (.list false kb (begin.map i64)) (.int .i64 k) (.list false kv (v.map .bool)) (.ptr 0 0) (.bool true) (.ptr 1 0) (.sl 4 0 st.length) (.sl 5 0 0) (.int .i64 i) (hO g u st [])) (.ret (.bool true)) := by
  intro n
  induction n with
  | zero =>
    intro i hi st hst
    obtain rfl : i = begin.length := by omega
    rw [← hal, List.take_length] at hst
    subst hst
    have hh := f_on2 (Γ := Γ) g hf hg hgi begin hb (by omega) u hu v hkv hv st (by omega) k hk hul hrow p hlit hval k 0 (by omega) [] rfl
    refine .go 60 ?_
    simp
    refine .inLoop ?_
    simp [hO] at hh ⊢
    exact hh
  | succ n ih =>
    intro i hi st hst
    have q1 : i < begin.length := by omega
    have q2 : i < all.length := by omega
    obtain ⟨l1, l2, l3, l4⟩ := hls i q2
    have hh := ih (i + 1) (by omega) (st ++ [all[i]]) (by rw [hst, List.take_succ_eq_append_getElem q2])
    have hsl : st.length < 2 ^ 40 := by rw [hst, List.length_take]; omega
    refine .go 60 ?_
    simp (disch := omega) [q1]
    refine .call 60 (by simp) (p_cnf_Lit u hu 0 (2 * (1 + g.ins + i)) (by omega)) ?_
    simp
    refine .call 60 (by simp) (p_r19_Holds (litC u 0 (2 * (1 + g.ins + i))) v (k := kv) hkv l1 l2 l3 hv) ?_
    simp (disch := omega) [l4]
    refine .reLoop ?_
    simp
    refine .reset (i := 4) rfl (by simp) (by simp) (by simp) ?_
    simp [hO] at hh ⊢
    exact hh

set_option maxRecDepth 8000 in
theorem l_CnfOnly (g : Gr) (hf : g.few) (begin : List Int) {kb : Nat} (hb : Kd 1 kb begin) (hl : begin.length < 2 ^ 40) (k : Int) (v : List Bool) {kv : Nat} (hkv : Kd 1 kv v) (hv : v.length < 2 ^ 40) :
    PureCon Try.prog Γ n_w19_CnfOnly [eGr g, .list false kb (begin.map i64), .int .i64 k, .list false kv (v.map .bool)] (.bool true) := by
  refine .run 60 c_w19_CnfOnly (by simp) ?_
  simp
  refine .call 120 (by simp) p_w19_works ?_
  simp
  refine .call 120 (by simp) (p_w19_small g begin (kb := kb) k) ?_
  simp
  refine .call 120 (by simp) (p_cnf_Unroll (Γ := Γ) g hf begin hb hl k) ?_
  cases h1 : smallB g begin.length k with
  | false => simp; exact .back (by simp)
  | true =>
    by_cases hc : canC g begin k = 0
    · by_cases h2 : (v.length : Int) = (unN g begin k).vars
      · obtain ⟨_, hbl, _, hk0, hk1, _⟩ := canC_ok hc
        have okg := Gr.ok_of (canC_ok hc).1
        obtain ⟨kn, rfl⟩ := Int.eq_ofNat_of_zero_le hk0
        obtain ⟨u1, u2, u3, u4, u5, u6⟩ := unN_sizes hc
        have hsm := smallB_yes h1
        have hsh := unN_short (g := g) (begin := begin) (k := kn)
        have hcl := fun h => only_all (g := g) (begin := begin) (k := kn) (v := v) hc h2 h
        have hin := fun t ht i hi => lit_inp (g := g) (begin := begin) (k := kn) (v := v) hc h2 t ht i hi
        have hst := fun h i hi => lit_state (g := g) (begin := begin) (k := kn) (v := v) hc h2 h i hi
        generalize hu : unN g begin kn = u at *
        have hm := Nat.mul_le_mul (show kn ≤ 40 by omega) (show 3 * g.ands.length ≤ 180 by omega)
        have e8 : checkC u.cls u.vars = 0 := checkC_none (by omega) u5 (by rw [u4]; omega) u6
        have hfu : FewR u.cls := ⟨by rw [u4]; omega, fun r hr => by have := hsh r hr; omega⟩
        have hfu2 : u.few := ⟨hfu, ⟨by omega, fun r hr => by have := (u2 r hr).1; have := okg.sum; unfold Gr.all Gr.first at *; have := okg.ins; omega⟩⟩
        have hct := p_cnf_True (Γ := Γ) u.cls hfu v (k := u.kc) (kv := kv) u.hc hkv (by omega)
        rw [h2, e8] at hct
        have ht : trueC u.cls v = !anyB (failR v) u.cls := by unfold trueC; rw [if_pos (by rw [h2]; exact e8)]
        simp [hc, h2]
        refine .call 120 (by simp) hct ?_
        cases h3 : trueC u.cls v with
        | false => simp; exact .back (by simp)
        | true =>
          have hcla : ∀ r ∈ u.cls, clauseH v r.l = true := by
            rw [ht] at h3
            have h4 : anyB (failR v) u.cls = false := by simpa using h3
            rw [anyB_no] at h4
            intro r hr
            have := h4 r hr
            simp only [failR] at this
            unfold clauseH
            simpa using this
          have o1 := okg.ins
          have o3 := okg.sum
          have hh := f_on14 (Γ := Γ) g hf o1.1 (by omega) begin hb (by omega) u hfu2 v hkv hv kn (by omega) u1 (fun r hr => by have := (u2 r hr).1; unfold Gr.all Gr.first at this; omega) (1 + cnt2 begin)
            hin ((latB 1 begin).map (holdsV v)) (by rw [List.length_map, latB_len]) (hcl hcla) (hst hcla) begin.length 0 (by omega) [] rfl
          simp
          refine .inLoop ?_
          simp [hO] at hh ⊢
          exact hh
      · simp [hc, h2]; exact .back (by simp)
    · simp [hc]; exact .back (by simp)
end Go.Proofs.Ytfpkjfmpamlakaa
/- CnfOnly, where what it reads is of small bulk: the law returns true, and it reads as it did. -/
namespace Go.Proofs.Ytfpkjfmpamlakaa
open Go.AM Go.Proofs Go.ChangeShapes Go.WideShapes Go.ChangeAt Go.RowKit

set_option maxRecDepth 100000 in
theorem cnfOnly_lifted (os : Os) (started : os.Started) (H : Type) (enc : TypeId × Value → H) (F : Stop.Interp) :
    ReturnsInHanded {} Try.checked os n_w19_CnfOnly .any ((Rows.OpenSpec.upto Rows.cnfOnlySpec).pre6 enc Try.prog Try.f6 Rows.cnfOnlyUptoRow.domain false) (((Rows.OpenSpec.upto Rows.cnfOnlySpec).at F).post enc Try.prog Try.f6 false true false false) := by
  refine returnsInHanded_of_cond (C := Try.checked) (s := Rows.OpenSpec.upto Rows.cnfOnlySpec) (k := Rows.uptoSmall) rfl own started (by kernel_rfl) Try.func6
    (OpenSpec.witness (enc := enc) (C := Try.checked) (s := Rows.OpenSpec.upto Rows.cnfOnlySpec) (k := Rows.uptoSmall) rfl false ⟨#[], #[.agg #[.int .i64 0, .slice none 0 0, .slice none 0 0, .slice none 0 0, .slice none 0 0], .slice none 0 0, .int .i64 0, .slice none 0 0], []⟩ 8 (by kernel_rfl) (by kernel_rfl) (by kernel_rfl)
      (x := ([.agg [.lit (.int .i64 0), .nil, .nil, .nil, .nil], .nil, .lit (.int .i64 0), .nil], [], [])) (by kernel_rfl) rfl (by kernel_rfl)) ?_
  intro W base args ds gs before hval hW _ hk _
  refine law_callsQ downU (Γ := ΓW) (shs := [(true, shGr), (false, shIs), (false, shI), (false, shBs)]) laid mapsR (tb := 4) (by kernel_rfl) Try.underlying4 (of_decide_eq_true (by kernel_rfl)) (by kernel_rfl) rfl ?_ ΓW_ok ?_ hval hW (small_of hk)
  · intro ds hds
    match ds, hds with
    | [d1, d2, d3, d4], _ => exact ⟨rfl, rfl, rfl⟩
  · intro xs has
    simp only [IsArgs] at has
    obtain ⟨_, _, rfl, h1, _, _, _, rfl, h2, _, _, _, rfl, h3, _, _, _, rfl, h4, _, rfl⟩ := has
    obtain ⟨a1, l1, l1f⟩ := dec_gr h1
    obtain ⟨a2, rfl, l2⟩ := dec_ints h2
    obtain ⟨a3, rfl, l3⟩ := dec_int h3
    obtain ⟨a4, rfl, l4⟩ := dec_bools h4
    simp only [mkA, l1]
    exact l_CnfOnly a1 (l1f (by decide)) a2 .self (by omega) a3 a4 .self (by omega)

theorem cnfOnly_holds : Rows.CnfOnlyUptoSaid :=
  OpenClaim.holds_of_cond 6 Try.f6 rfl rfl rfl rfl rfl rfl rfl ⟨rfl, rfl, rfl, rfl, rfl⟩ rfl rfl rfl rfl rfl (by kernel_rfl) Try.func6 (by kernel_rfl)
    (of_decide_eq_true (by kernel_rfl)) (by unfold Func.isWrapper; first | (rw [if_pos (by decide +kernel)]; kernel_rfl) | (rw [if_neg (by decide +kernel)]; exact ⟨rfl, rfl⟩))
    (fun os started H enc _ F => cnfOnly_lifted os started H enc F)
#print axioms cnfOnly_holds
end Go.Proofs.Ytfpkjfmpamlakaa
