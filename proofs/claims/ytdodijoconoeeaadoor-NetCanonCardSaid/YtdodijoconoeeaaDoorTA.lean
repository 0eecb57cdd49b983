/- NetCanon: canon twice is canon. -/
import Derived.Test.YtdodijoconoeeaaDoorF
import Derived.Test.YtdodijoconoeeaaDoorT
set_option linter.unusedSimpArgs false
set_option linter.unusedVariables false
namespace Go.Proofs.YtdodijoconoeeaaDoor
open Go.AM Go.Proofs
variable {Γ : Nat → Option AV}
set_option linter.unusedSimpArgs false
set_option linter.unusedVariables false

theorem canonF_is (g : Gt) : ∀ (f : Nat) (o op : Int), canonF g f o = some op → o ≤ op ∧ op < o + f ∧ hasB op g.ins.length = true ∧ (rowsP op g.ins.length).2 = g.off ∧ (rowsP op g.ins.length).1 = g.rows
  | 0, o, op, h => by cases h
  | f + 1, o, op, h => by
    rw [canonF] at h
    split at h
    · rename_i h1
      obtain rfl := Option.some.inj h
      exact ⟨by omega, by omega, h1⟩
    · have := canonF_is g f (o + 1) op h
      exact ⟨by omega, by omega, this.2.2⟩
theorem oneOp_ne {op : Int} (h : op ≠ 10) : oneOp op ≠ 10 := by
  unfold oneOp
  split
  · decide
  · split
    · decide
    · exact h
theorem oneOp_again (op : Int) : oneOp (oneOp op) = oneOp op := by
  unfold oneOp
  split
  · decide
  · split
    · decide
    · rfl
theorem opB_one {op : Int} (h : opB op 1 = true) : oneOp op = op := by
  unfold opB at h
  unfold oneOp
  split at h
  · simp at h
  · rw [if_neg (by omega), if_neg (by omega)]
theorem has_op {op : Int} {n : Nat} (h : op ≠ 10) : hasB op n = opB op n := by unfold hasB; rw [if_neg h]
theorem canon_name (g : Gt) : (canonG g).name = g.name ∧ (canonG g).ins = g.ins := by
  unfold canonG
  split
  · split <;> exact ⟨rfl, rfl⟩
  · split <;> exact ⟨rfl, rfl⟩
theorem canon_again (g : Gt) : sameG (canonG (canonG g)) (canonG g) = true := by
  unfold sameG
  rw [decide_eq_true_eq]
  by_cases h : g.op = 10
  · cases hc : canonF g 10 0 with
    | none =>
      have e : canonG g = g := by unfold canonG; rw [if_neg (by simpa using h), hc]
      rw [e, e]
    | some op =>
      have e : canonG g = ⟨g.name, op, g.ins, [], false, g.ki, 0, g.hi, .nil⟩ := by unfold canonG; rw [if_neg (by simpa using h), hc]
      obtain ⟨h1, h2, h3, h4⟩ := canonF_is g 10 0 op hc
      have h5 : op ≠ 10 := by omega
      rw [e]
      unfold canonG
      rw [if_pos h5]
      split
      · rename_i h6
        simp only [oneB, Bool.and_eq_true, decide_eq_true_eq] at h6
        rw [has_op h5, h6.1] at h3
        have := opB_one h3
        simp [Gt.key, this]
      · rfl
  · by_cases h1 : oneB g = true
    · have e : canonG g = { g with op := oneOp g.op } := by unfold canonG; rw [if_pos h, if_pos h1]
      rw [e]
      have h2 : oneB { g with op := oneOp g.op } = true := h1
      unfold canonG
      rw [if_pos (oneOp_ne h), if_pos h2]
      simp [Gt.key, oneOp_again]
    · have e : canonG g = g := by unfold canonG; rw [if_pos h, if_neg h1]
      rw [e, e]
theorem canon_gate {g : Gt} (hg : gateB g = true) : gateB (canonG g) = true := by
  by_cases h : g.op = 10
  · cases hc : canonF g 10 0 with
    | none =>
      have e : canonG g = g := by unfold canonG; rw [if_neg (by simpa using h), hc]
      rw [e]; exact hg
    | some op =>
      have e : canonG g = ⟨g.name, op, g.ins, [], false, g.ki, 0, g.hi, .nil⟩ := by unfold canonG; rw [if_neg (by simpa using h), hc]
      obtain ⟨h1, h2, h3, h4⟩ := canonF_is g 10 0 op hc
      have h5 : op ≠ 10 := by omega
      rw [has_op h5] at h3
      rw [e]
      unfold gateB
      simp [h5, h3]
  · by_cases h1 : oneB g = true
    · have e : canonG g = { g with op := oneOp g.op } := by unfold canonG; rw [if_pos h, if_pos h1]
      rw [e]
      have h2 := h1
      simp only [oneB, Bool.and_eq_true, decide_eq_true_eq] at h2
      unfold gateB at hg ⊢
      rw [if_neg h, Bool.and_eq_true] at hg
      have h3 := hg.2
      rw [h2.1] at h3
      have h4 := opB_one h3
      simp only [h4]
      rw [if_neg h, Bool.and_eq_true]
      exact hg
    · have e : canonG g = g := by unfold canonG; rw [if_pos h, if_neg h1]
      rw [e]; exact hg
/-- A gate of one of Ins. -/
def oneG (g : Gt) : Gt := ⟨g.name, g.op, [[97]], [], false, 1, 0, .self, .nil⟩
theorem canon_one (g : Gt) (h1 : 2 ≤ g.op) (h2 : g.op ≤ 9) : gateB (canonG (oneG g)) = true := by
  have hb : oneB (oneG g) = true := rfl
  have hne : (oneG g).op ≠ 10 := by show g.op ≠ 10; omega
  have e : canonG (oneG g) = { oneG g with op := oneOp g.op } := by unfold canonG; rw [if_pos hne, if_pos hb]; rfl
  rw [e]
  have hc : g.op = 2 ∨ g.op = 3 ∨ g.op = 4 ∨ g.op = 5 ∨ g.op = 6 ∨ g.op = 7 ∨ g.op = 8 ∨ g.op = 9 := by omega
  rcases hc with h | h | h | h | h | h | h | h <;> rw [h] <;> rfl
theorem canon_few {g : Gt} (hg : GtFew g) : GtFew (canonG g) := by
  obtain ⟨a, b, c, d, e⟩ := hg
  unfold canonG
  split
  · split <;> exact ⟨a, b, c, d, e⟩
  · split
    · exact ⟨a, b, by simp, d, by simp⟩
    · exact ⟨a, b, c, d, e⟩
theorem one_few {g : Gt} (hg : GtFew g) : GtFew (oneG g) := ⟨hg.1, by simp [oneG], by simp [oneG], by simp [oneG], by simp [oneG]⟩

set_option maxRecDepth 8000 in
theorem l_NetCanon (hΓ : InsG Γ) (g : Gt) : PureCon Tryd.prog Γ n_w06_NetCanon [eGt g] (.bool true) := by
  refine .run 120 c_w06_NetCanon (by simp) ?_
  simp
  refine .call 120 (by simp) (p_works hΓ) ?_
  simp
  refine .call 120 (by simp) (p_FewGate g) ?_
  cases hc : fewG g with
  | false =>
    simp
    exact .back (by simp)
  | true =>
    have fg := few_gate hc
    have fx := canon_few fg
    obtain ⟨n1, n2⟩ := canon_name g
    have k1 := p_Canon hΓ g fg
    have k2 := p_Canon hΓ (canonG g) fx
    have k3 := p_r06_SameGate (Γ := Γ) (canonG (canonG g)) (canonG g) (canon_few fx)
    rw [canon_again] at k3
    have k4 := p_r01_Texts (Γ := Γ) (canonG g).ins g.ins (canonG g).hi g.hi (by have := fx.2.1; omega)
    rw [n2, decide_eq_true rfl] at k4
    have k5 := p_Gate hΓ g fg
    have k6 := p_Gate hΓ (canonG g) fx
    have k7 := p_Canon hΓ (oneG g) (one_few fg)
    have k8 := p_Gate hΓ (canonG (oneG g)) (canon_few (one_few fg))
    have hgi : gateB g = true → gateB (canonG g) = true := canon_gate
    have hone : 2 ≤ g.op → g.op ≤ 9 → gateB (canonG (oneG g)) = true := canon_one g
    generalize canonG (oneG g) = y at k7 k8 hone
    generalize canonG g = x at *
    simp
    refine .call 120 (by simp) k1 ?_
    simp
    refine .dr 120 ?_
    simp
    refine DRC.call (by simp) k2 ?_
    simp
    refine DRC.call (by simp) k3 ?_
    simp
    by_cases o1 : 2 ≤ g.op
    · by_cases o2 : g.op ≤ 9
      · have ho := hone o1 o2
        rw [ho] at k8
        simp [o1, o2]
        refine .call 120 (by simp [n2]) k4 ?_
        simp [n1]
        refine .call 120 (by simp) k5 ?_
        cases hgb : gateB g with
        | true =>
          rw [hgi hgb] at k6
          simp
          refine .call 120 (by simp [n1]) k6 ?_
          simp
          refine .call 120 (by simp [oneG]) k7 ?_
          simp
          refine .call 120 (by simp) k8 ?_
          simp
          exact .back (by simp)
        | false =>
          simp
          refine .call 120 (by simp [oneG]) k7 ?_
          simp
          refine .call 120 (by simp) k8 ?_
          simp
          exact .back (by simp)
      · simp [o1, o2]
        refine .call 120 (by simp [n2]) k4 ?_
        simp [n1]
        refine .call 120 (by simp) k5 ?_
        cases hgb : gateB g with
        | true =>
          rw [hgi hgb] at k6
          simp
          refine .call 120 (by simp [n1]) k6 ?_
          simp
          exact .back (by simp)
        | false =>
          simp
          exact .back (by simp)
    · simp [o1]
      refine .call 120 (by simp [n2]) k4 ?_
      simp [n1]
      refine .call 120 (by simp) k5 ?_
      cases hgb : gateB g with
      | true =>
        rw [hgi hgb] at k6
        simp
        refine .call 120 (by simp [n1]) k6 ?_
        simp
        exact .back (by simp)
      | false =>
        simp
        exact .back (by simp)
end Go.Proofs.YtdodijoconoeeaaDoor
/- NetCanon: for every input the law returns true, and each argument reads as it did; the package's variables start as the program's text lays them. -/
namespace Go.Proofs.YtdodijoconoeeaaDoor
open Go.AM Go.Proofs Go.ChangeShapes Go.WideShapes Go.ChangeAt Go.RowKit

theorem netCanon_reads (os : Os) {H : Type} (enc : TypeId × Value → H) : ∃ ds places, DataW.whole enc Tryd.prog ((startW os).forCall (fun _ _ => 0) ⟨#[], #[.agg #[.string ⟨#[]⟩, .int .i64 0, .slice none 0 0, .slice none 0 0, .bool false]], []⟩).memory Tryd.f4.params.toList Rows.netCanonSpec.vars false (#[.agg #[.string ⟨#[]⟩, .int .i64 0, .slice none 0 0, .slice none 0 0, .bool false]] : Array Value).toList 8 = some (ds, [], places) :=
  ⟨[.agg [.lit (.string []), .lit (.int .i64 0), .nil, .nil, .lit (.bool false)]], [], by kernel_rfl⟩

set_option maxRecDepth 100000 in
theorem netCanon_lifted (os : Os) (started : os.Started) (H : Type) (enc : TypeId × Value → H) (F : Stop.Interp) :
    ReturnsInHanded {} Tryd.checked os 4 .any ((OpenSpec.ofChange Rows.netCanonSpec).preRow enc Tryd.prog Tryd.f4 Rows.netCanonRow.domain false Rows.netCanonRow.laid) (((OpenSpec.ofChange Rows.netCanonSpec).at F).post enc Tryd.prog Tryd.f4 false true false false) := by
  obtain ⟨ds, places, hx⟩ := netCanon_reads os enc
  refine returnsInHanded_of_row (C := Tryd.checked) (s := OpenSpec.ofChange Rows.netCanonSpec) own started (by kernel_rfl) Tryd.func4
    (witness_row_at (enc := enc) (C := Tryd.checked) false (startW os) #[.agg #[.string ⟨#[]⟩, .int .i64 0, .slice none 0 0, .slice none 0 0, .bool false]] rfl (by kernel_rfl) (by kernel_rfl) (by kernel_rfl)
      (OpenSpec.preRow_of_cond 8 hx (by kernel_rfl) (fun k hk => by cases hk) (by kernel_rfl) (door_met os _))) ?_
  intro W base args ds gs before hval hW _ _ _ hL hsh _
  obtain ⟨Γ, hΓ, hok⟩ := ins_laid hL
  refine law_callsQ Down.any (Γ := Γ) (shs := [(true, shGt)]) laid mapsR (tb := 4) (by kernel_rfl) u4 (of_decide_eq_true (by kernel_rfl)) (by kernel_rfl) rfl ?_ hok ?_ hval hW (fun _ _ => trivial)
  · intro ds hds
    match ds, hds with
    | [d1], _ => exact ⟨rfl, rfl, rfl⟩
  · intro xs has
    simp only [IsArgs] at has
    obtain ⟨_, _, rfl, h1, _, rfl⟩ := has
    obtain ⟨a1, l1⟩ := dec_gt h1
    simp only [mkA, l1]
    exact l_NetCanon hΓ a1

theorem netCanon_said : Rows.NetCanonSaid :=
  OpenClaim.holds_of_cond 4 Tryd.f4 rfl rfl rfl rfl rfl rfl rfl ⟨rfl, rfl, rfl, rfl, rfl⟩ rfl rfl rfl rfl rfl (by kernel_rfl) Tryd.func4 (by kernel_rfl)
    (of_decide_eq_true (by kernel_rfl)) (by unfold Func.isWrapper; first | (rw [if_pos (by decide +kernel)]; kernel_rfl) | (rw [if_neg (by decide +kernel)]; exact ⟨rfl, rfl⟩))
    (fun os started H enc _ F => by rw [OpenClaim.pre_eq_preRow]; exact netCanon_lifted os started H enc F)

theorem netCanon_plain (f : FuncId) (fn : Func) (hf : Tryd.pinned.checked.prog.funcNamed "patchbay/patchbaylaw06.NetCanon" = some f) (hfn : Tryd.pinned.checked.prog.funcs[f]? = some fn) :
    true = Tryd.pinned.checked.prog.looks [] ∧ ∀ (j : Nat) t, fn.params[j]? = some t → Tryd.pinned.checked.prog.wantsStandIn t = false := by
  obtain rfl : f = 4 := Option.some.inj ((show Tryd.prog.funcNamed "patchbay/patchbaylaw06.NetCanon" = some 4 by kernel_rfl).symm.trans hf) |>.symm
  obtain rfl : fn = Tryd.f4 := (Option.some.inj (Tryd.func4.symm.trans hfn)).symm
  refine ⟨by kernel_rfl, fun j t ht => ?_⟩
  have h1 : (Tryd.f4.params.toList.all fun t => !Tryd.prog.wantsStandIn t) = true := by kernel_rfl
  have h2 := List.all_eq_true.1 h1 t (by simpa using Array.mem_of_getElem? ht)
  revert h2
  show (!Tryd.prog.wantsStandIn t) = true → Tryd.prog.wantsStandIn t = false
  cases Tryd.prog.wantsStandIn t <;> intro h <;> first | rfl | cases h

theorem netCanon_holds : Rows.NetCanonCardSaid :=
  Claim7.holds_tied_plain_at .later [] _ _ _ _ netCanon_said (fun _ h => by cases h) (by kernel_rfl) (fun _ h => by cases h) netCanon_row_tie rfl ⟨rfl, rfl⟩ (by kernel_rfl) rfl netCanon_plain (by kernel_rfl)
#print axioms netCanon_holds
end Go.Proofs.YtdodijoconoeeaaDoor
