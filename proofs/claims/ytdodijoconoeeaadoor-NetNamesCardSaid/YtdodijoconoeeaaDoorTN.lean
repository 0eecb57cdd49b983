/- NetNames: of a netlist that may be each net is at its place, and each name that is used is a net. -/
import Derived.Test.YtdodijoconoeeaaDoorF
import Derived.Test.YtdodijoconoeeaaDoorT
set_option linter.unusedSimpArgs false
set_option linter.unusedVariables false
namespace Go.Proofs.YtdodijoconoeeaaDoor
open Go.AM Go.Proofs
variable {Γ : Nat → Option AV}
set_option linter.unusedSimpArgs false
set_option linter.unusedVariables false

/-! ### What Check tells -/
theorem findU_is (N : List Bs) : ∀ l : List Bs, ((findU N l).1 = 6 ∧ (findU N l).2 ∉ N) ∨ (findU N l = (0, []) ∧ ∀ s ∈ l, s ∈ N)
  | [] => .inr ⟨rfl, fun s hs => by cases hs⟩
  | a :: l => by
    rw [findU]
    by_cases h : a ∈ N
    · rw [if_pos h]
      rcases findU_is N l with h1 | ⟨h1, h2⟩
      · exact .inl h1
      · refine .inr ⟨h1, fun s hs => ?_⟩
        rcases List.mem_cons.1 hs with rfl | hs
        · exact h
        · exact h2 s hs
    · rw [if_neg h]; exact .inl ⟨rfl, h⟩
theorem findG_is (r : Int × Bs) : ∀ l : List Gt, findG r l = r ∧ (∀ g ∈ l, gateB g = true) ∨ (findG r l).1 = 1
  | [] => .inl ⟨rfl, fun g hg => by cases hg⟩
  | g :: l => by
    rw [findG]
    by_cases h : gateB g = true
    · rw [if_pos h]
      rcases findG_is r l with ⟨h1, h2⟩ | h1
      · refine .inl ⟨h1, fun x hx => ?_⟩
        rcases List.mem_cons.1 hx with rfl | hx
        · exact h
        · exact h2 x hx
      · exact .inr h1
    · rw [if_neg h]; exact .inr rfl
theorem findL_is (r : Int × Bs) : ∀ l : List Lt, findL r l = r ∧ (∀ q ∈ l, initOk q = true) ∨ (findL r l).1 = 1
  | [] => .inl ⟨rfl, fun g hg => by cases hg⟩
  | g :: l => by
    rw [findL]
    by_cases h : initOk g = true
    · rw [if_pos h]
      rcases findL_is r l with ⟨h1, h2⟩ | h1
      · refine .inl ⟨h1, fun x hx => ?_⟩
        rcases List.mem_cons.1 hx with rfl | hx
        · exact h
        · exact h2 x hx
      · exact .inr h1
    · rw [if_neg h]; exact .inr rfl
theorem findN_is (r : Int × Bs) : ∀ l : List Bs, findN r l = r ∧ (∀ s ∈ l, nameB s = true) ∨ (findN r l).1 = 4
  | [] => .inl ⟨rfl, fun g hg => by cases hg⟩
  | g :: l => by
    rw [findN]
    by_cases h : nameB g = true
    · rw [if_pos h]
      rcases findN_is r l with ⟨h1, h2⟩ | h1
      · refine .inl ⟨h1, fun x hx => ?_⟩
        rcases List.mem_cons.1 hx with rfl | hx
        · exact h
        · exact h2 x hx
      · exact .inr h1
    · rw [if_neg h]; exact .inr rfl
theorem twO_is (t : Option Bs) (r : Int × Bs) : (t = none ∧ twO t r = r) ∨ (twO t r).1 = 5 := by
  cases t with
  | none => exact .inl ⟨rfl, rfl⟩
  | some s => exact .inr rfl
/-- A netlist that may be. -/
structure CtOk (c : Ct) : Prop where
  lim : limC c = false
  names : ∀ s ∈ toldC c, nameB s = true
  nets : twiceL (netsC c) = none
  outs : twiceL c.outputs = none
  init : ∀ q ∈ c.latches, initOk q = true
  gates : ∀ g ∈ c.gates, gateB g = true
  used : ∀ s ∈ usedC c, s ∈ netsC c
theorem check_is (c : Ct) : ((checkC c).1 ≠ 0 ∧ ((checkC c).1 = 6 → (checkC c).2 ∉ netsC c)) ∨ (checkC c = (0, []) ∧ CtOk c) := by
  unfold checkC
  cases hl : limC c with
  | true => exact .inl ⟨by simp, by simp⟩
  | false =>
    rw [if_neg (by simp)]
    rcases findN_is (twO (twiceL (netsC c)) (twO (twiceL c.outputs) (findL (findG (findU (netsC c) (usedC c)) c.gates) c.latches))) (toldC c) with ⟨e1, h1⟩ | h1
    · rw [e1]
      rcases twO_is (twiceL (netsC c)) (twO (twiceL c.outputs) (findL (findG (findU (netsC c) (usedC c)) c.gates) c.latches)) with ⟨h2, e2⟩ | h2
      · rw [e2]
        rcases twO_is (twiceL c.outputs) (findL (findG (findU (netsC c) (usedC c)) c.gates) c.latches) with ⟨h3, e3⟩ | h3
        · rw [e3]
          rcases findL_is (findG (findU (netsC c) (usedC c)) c.gates) c.latches with ⟨e4, h4⟩ | h4
          · rw [e4]
            rcases findG_is (findU (netsC c) (usedC c)) c.gates with ⟨e5, h5⟩ | h5
            · rw [e5]
              rcases findU_is (netsC c) (usedC c) with ⟨h6, h7⟩ | ⟨e6, h6⟩
              · exact .inl ⟨by rw [h6]; decide, fun _ => h7⟩
              · exact .inr ⟨e6, ⟨hl, h1, h2, h3, h4, h5, h6⟩⟩
            · exact .inl ⟨by rw [h5]; decide, fun h => by rw [h5] at h; cases h⟩
          · exact .inl ⟨by rw [h4]; decide, fun h => by rw [h4] at h; cases h⟩
        · exact .inl ⟨by rw [h3]; decide, fun h => by rw [h3] at h; cases h⟩
      · exact .inl ⟨by rw [h2]; decide, fun h => by rw [h2] at h; cases h⟩
    · exact .inl ⟨by rw [h1]; decide, fun h => by rw [h1] at h; cases h⟩
theorem twiceS_nodup : ∀ (l seen : List Bs), twiceS seen l = none → l.Nodup ∧ ∀ s ∈ l, s ∉ seen
  | [], seen, _ => ⟨List.nodup_nil, fun s hs => by cases hs⟩
  | a :: l, seen, h => by
    rw [twiceS] at h
    by_cases hm : a ∈ seen
    · rw [if_pos hm] at h; cases h
    · rw [if_neg hm] at h
      obtain ⟨h1, h2⟩ := twiceS_nodup l _ h
      refine ⟨List.nodup_cons.2 ⟨fun ha => h2 a ha (by simp), h1⟩, fun s hs => ?_⟩
      rcases List.mem_cons.1 hs with rfl | hs
      · exact hm
      · exact fun hs2 => h2 s hs (by simp [hs2])
theorem CtOk.nodup {c : Ct} (h : CtOk c) : (netsC c).Nodup := (twiceS_nodup _ _ h.nets).1
theorem idxS_no (s : Bs) : ∀ (l : List Bs) (i : Nat), s ∉ l → idxS s l i = -1
  | [], i, _ => rfl
  | a :: l, i, h => by
    simp only [List.mem_cons, not_or] at h
    rw [idxS, if_neg h.1, idxS_no s l (i + 1) h.2]
theorem idxS_at : ∀ (l : List Bs) (k i : Nat), l.Nodup → (h : k < l.length) → idxS l[k] l i = ((i + k : Nat) : Int)
  | a :: l, 0, i, hn, h => by simp [idxS]
  | a :: l, k + 1, i, hn, h => by
    have h2 : k < l.length := by simpa using h
    have hn2 := List.nodup_cons.1 hn
    have hne : ¬ l[k] = a := fun e => hn2.1 (by rw [← e]; exact List.getElem_mem h2)
    rw [List.getElem_cons_succ, idxS, if_neg hne, idxS_at l k (i + 1) hn2.2 h2]
    congr 1
    omega
theorem place_at {c : Ct} (h : CtOk c) {k : Nat} (hk : k < (netsC c).length) : placeC c (netsC c)[k] = (k : Int) := by
  have := idxS_at (netsC c) k 0 h.nodup hk
  rw [Nat.zero_add] at this
  exact this
theorem place_ge {c : Ct} {s : Bs} (h : s ∈ netsC c) : 0 ≤ placeC c s := by
  have h1 := idxS_has s (netsC c) 0
  have h2 : (netsC c).contains s = true := by simpa using h
  rw [h2] at h1
  exact of_decide_eq_true h1
theorem place_no {c : Ct} {s : Bs} (h : s ∉ netsC c) : placeC c s = -1 := idxS_no s _ 0 h
theorem used_out {c : Ct} {s : Bs} (h : s ∈ c.outputs) : s ∈ usedC c := by simp [usedC, h]
theorem used_in {c : Ct} {g : Gt} (hg : g ∈ c.gates) {s : Bs} (h : s ∈ g.ins) : s ∈ usedC c := by
  simp only [usedC, usedG, List.mem_append, List.mem_flatMap]
  exact .inr ⟨g, hg, h⟩

set_option maxRecDepth 8000 in
theorem l_NetNames (hΓ : InsG Γ) (c : Ct) : PureCon Tryd.prog Γ n_w06_NetNames [eCt c] (.bool true) := by
  refine .run 90 c_w06_NetNames (by simp) ?_
  simp
  refine .call 90 (by simp) (p_works hΓ) ?_
  simp
  refine .call 90 (by simp) (p_Few c) ?_
  cases hc : fewC c with
  | false =>
    simp
    exact .back (by simp)
  | true =>
    have fc := few_net hc
    have hN := nets_le fc
    have b0 := fc.1
    have b1 := fc.2.1
    have b3 := fc.2.2.1
    have b4 := fc.2.2.2.1
    have hC := p_Check hΓ c fc
    simp
    rcases check_is c with ⟨h1, h2⟩ | ⟨h1, ok⟩
    · generalize checkC c = r at hC h1 h2
      obtain ⟨e, s⟩ := r
      simp only at h1 h2
      refine .call 90 (by simp) hC ?_
      simp
      refine .call 90 (by simp) (p_Nets c fc) ?_
      by_cases he : e = 6
      · subst he
        have hp := p_Place (Γ := Γ) c fc s
        rw [place_no (h2 rfl)] at hp
        simp
        refine .call 90 (by simp) hp ?_
        simp
        exact .back (by simp)
      · simp [h1, he]
        exact .back (by simp)
    · rw [h1] at hC
      have hlen : (netsC c).length = c.inputs.length + c.latches.length + c.gates.length := by simp [netsC]; omega
      have hl := ok.lim
      simp only [limC, Bool.or_eq_false_iff, decide_eq_false_iff_not] at hl
      have g1 : ∀ n i : Nat, i + n = c.gates.length → Fins Tryd.prog Γ (w06_NetNames_L1 (.ptr 0 0) (.bool true) (.str []) (.list false 1 ((netsC c).map .str)) (.int .i64 i) (c0H c)) (.ret (.bool true)) := by
        intro n
        induction n with
        | zero =>
          intro i hi
          have q1 : ¬ i < c.gates.length := by omega
          have e1 : ((netsC c).length : Int) = (c.inputs.length : Int) + c.latches.length + c.gates.length := by omega
          have e2 : ((c.inputs.length : Int) + c.latches.length + c.gates.length ≤ 200) = True := eq_true (by omega)
          refine .go 90 ?_
          simp (disch := omega) [q1, e1, e2]
          exact .back (by simp)
        | succ n ih =>
          intro i hi
          have q1 : i < c.gates.length := by omega
          have q2 := eq_true (c.hG.of q1)
          have hh := ih (i + 1) (by omega)
          have hfew := (fc.2.2.2.2.1 _ (List.getElem_mem q1)).2.1
          have g3 : ∀ m k : Nat, k + m = c.gates[i].ins.length → Fins Tryd.prog Γ (w06_NetNames_L3 (.ptr 0 0) (.bool true) (.str []) (.list false 1 ((netsC c).map .str)) (.int .i64 i) (.int .i64 k) (c0H c)) (.ret (.bool true)) := by
            intro m
            induction m with
            | zero =>
              intro k hk
              have p1 : ¬ k < c.gates[i].ins.length := by omega
              refine .go 90 ?_
              simp (disch := omega) [q1, q2, p1]
              refine .reLoop ?_
              simp at hh ⊢
              exact hh
            | succ m ihm =>
              intro k hk
              have p1 : k < c.gates[i].ins.length := by omega
              have p2 := eq_true (c.gates[i].hi.of p1)
              have h3 := ihm (k + 1) (by omega)
              have hp := p_Place (Γ := Γ) c fc c.gates[i].ins[k]
              have hge := place_ge (ok.used _ (used_in (List.getElem_mem q1) (List.getElem_mem p1)))
              have hlt : (placeC c c.gates[i].ins[k] < 0) = False := eq_false (by omega)
              refine .go 90 ?_
              simp [q1, q2, p1, p2]
              refine .dr 90 ?_
              simp [q1, q2, p1, p2]
              refine DRC.call (by simp) hp ?_
              simp (disch := omega) [hlt]
              refine .reLoop ?_
              simp at h3 ⊢
              exact h3
          have h3 := g3 c.gates[i].ins.length 0 (by omega)
          refine .go 90 ?_
          simp [q1]
          refine .inLoop ?_
          simp at h3 ⊢
          exact h3
      have g2 : ∀ n i : Nat, i + n = c.outputs.length → Fins Tryd.prog Γ (w06_NetNames_L14 (.ptr 0 0) (.bool true) (.str []) (.list false 1 ((netsC c).map .str)) (.int .i64 i) (c0H c)) (.ret (.bool true)) := by
        intro n
        induction n with
        | zero =>
          intro i hi
          have q1 : ¬ i < c.outputs.length := by omega
          have hh := g1 c.gates.length 0 (by omega)
          refine .go 90 ?_
          simp [q1]
          refine .inLoop ?_
          simp at hh ⊢
          exact hh
        | succ n ih =>
          intro i hi
          have q1 : i < c.outputs.length := by omega
          have q2 := eq_true (c.hO.of q1)
          have hh := ih (i + 1) (by omega)
          have hp := p_Place (Γ := Γ) c fc c.outputs[i]
          have hge := place_ge (ok.used _ (used_out (List.getElem_mem q1)))
          have hlt : (placeC c c.outputs[i] < 0) = False := eq_false (by omega)
          refine .go 90 ?_
          simp [q1, q2]
          refine .dr 90 ?_
          simp [q1, q2]
          refine DRC.call (by simp) hp ?_
          simp (disch := omega) [hlt]
          refine .reLoop ?_
          simp at hh ⊢
          exact hh
      have g0 : ∀ n i : Nat, i + n = (netsC c).length → Fins Tryd.prog Γ (w06_NetNames_L22 (.ptr 0 0) (.bool true) (.str []) (.list false 1 ((netsC c).map .str)) (.int .i64 i) (c0H c)) (.ret (.bool true)) := by
        intro n
        induction n with
        | zero =>
          intro i hi
          have q1 : ¬ i < (netsC c).length := by omega
          have hh := g2 c.outputs.length 0 (by omega)
          refine .go 90 ?_
          simp [q1]
          refine .inLoop ?_
          simp at hh ⊢
          exact hh
        | succ n ih =>
          intro i hi
          have q1 : i < (netsC c).length := by omega
          have hh := ih (i + 1) (by omega)
          have hp := p_Place (Γ := Γ) c fc (netsC c)[i]
          rw [place_at ok q1] at hp
          refine .go 90 ?_
          simp [q1]
          refine .dr 90 ?_
          simp [q1]
          refine DRC.call (by simp) hp ?_
          simp (disch := omega)
          refine .reLoop ?_
          simp at hh ⊢
          exact hh
      have hh := g0 (netsC c).length 0 (by omega)
      refine .call 90 (by simp) hC ?_
      simp
      refine .call 1 (by simp) (p_Nets c fc) ?_
      simp
      refine .trees [26] ?_
      simp
      refine .drop 1 rfl (by simp) (by simp) (by simp) ?_
      refine .go 60 ?_
      simp
      refine .inLoop ?_
      simp at hh ⊢
      exact hh
end Go.Proofs.YtdodijoconoeeaaDoor
/- NetNames: for every input the law returns true, and each argument reads as it did; the package's variables start as the program's text lays them. -/
namespace Go.Proofs.YtdodijoconoeeaaDoor
open Go.AM Go.Proofs Go.ChangeShapes Go.WideShapes Go.ChangeAt Go.RowKit

theorem netNames_reads (os : Os) {H : Type} (enc : TypeId × Value → H) : ∃ ds places, DataW.whole enc Tryd.prog ((startW os).forCall (fun _ _ => 0) ⟨#[], #[.agg #[.slice none 0 0, .slice none 0 0, .slice none 0 0, .slice none 0 0]], []⟩).memory Tryd.f6.params.toList Rows.netNamesSpec.vars false (#[.agg #[.slice none 0 0, .slice none 0 0, .slice none 0 0, .slice none 0 0]] : Array Value).toList 8 = some (ds, [], places) :=
  ⟨[.agg [.nil, .nil, .nil, .nil]], [], by kernel_rfl⟩

set_option maxRecDepth 100000 in
theorem netNames_lifted (os : Os) (started : os.Started) (H : Type) (enc : TypeId × Value → H) (F : Stop.Interp) :
    ReturnsInHanded {} Tryd.checked os 6 .any ((OpenSpec.ofChange Rows.netNamesSpec).preRow enc Tryd.prog Tryd.f6 Rows.netNamesRow.domain false Rows.netNamesRow.laid) (((OpenSpec.ofChange Rows.netNamesSpec).at F).post enc Tryd.prog Tryd.f6 false true false false) := by
  obtain ⟨ds, places, hx⟩ := netNames_reads os enc
  refine returnsInHanded_of_row (C := Tryd.checked) (s := OpenSpec.ofChange Rows.netNamesSpec) own started (by kernel_rfl) Tryd.func6
    (witness_row_at (enc := enc) (C := Tryd.checked) false (startW os) #[.agg #[.slice none 0 0, .slice none 0 0, .slice none 0 0, .slice none 0 0]] rfl (by kernel_rfl) (by kernel_rfl) (by kernel_rfl)
      (OpenSpec.preRow_of_cond 8 hx (by kernel_rfl) (fun k hk => by cases hk) (by kernel_rfl) (door_met os _))) ?_
  intro W base args ds gs before hval hW _ _ _ hL hsh _
  obtain ⟨Γ, hΓ, hok⟩ := ins_laid hL
  refine law_callsQ Down.any (Γ := Γ) (shs := [(true, shCt)]) laid mapsR (tb := 4) (by kernel_rfl) u4 (of_decide_eq_true (by kernel_rfl)) (by kernel_rfl) rfl ?_ hok ?_ hval hW (fun _ _ => trivial)
  · intro ds hds
    match ds, hds with
    | [d1], _ => exact ⟨rfl, rfl, rfl⟩
  · intro xs has
    simp only [IsArgs] at has
    obtain ⟨_, _, rfl, h1, _, rfl⟩ := has
    obtain ⟨a1, l1⟩ := dec_ct h1
    simp only [mkA, l1]
    exact l_NetNames hΓ a1

theorem netNames_said : Rows.NetNamesSaid :=
  OpenClaim.holds_of_cond 6 Tryd.f6 rfl rfl rfl rfl rfl rfl rfl ⟨rfl, rfl, rfl, rfl, rfl⟩ rfl rfl rfl rfl rfl (by kernel_rfl) Tryd.func6 (by kernel_rfl)
    (of_decide_eq_true (by kernel_rfl)) (by unfold Func.isWrapper; first | (rw [if_pos (by decide +kernel)]; kernel_rfl) | (rw [if_neg (by decide +kernel)]; exact ⟨rfl, rfl⟩))
    (fun os started H enc _ F => by rw [OpenClaim.pre_eq_preRow]; exact netNames_lifted os started H enc F)

theorem netNames_plain (f : FuncId) (fn : Func) (hf : Tryd.pinned.checked.prog.funcNamed "patchbay/patchbaylaw06.NetNames" = some f) (hfn : Tryd.pinned.checked.prog.funcs[f]? = some fn) :
    true = Tryd.pinned.checked.prog.looks [] ∧ ∀ (j : Nat) t, fn.params[j]? = some t → Tryd.pinned.checked.prog.wantsStandIn t = false := by
  obtain rfl : f = 6 := Option.some.inj ((show Tryd.prog.funcNamed "patchbay/patchbaylaw06.NetNames" = some 6 by kernel_rfl).symm.trans hf) |>.symm
  obtain rfl : fn = Tryd.f6 := (Option.some.inj (Tryd.func6.symm.trans hfn)).symm
  refine ⟨by kernel_rfl, fun j t ht => ?_⟩
  have h1 : (Tryd.f6.params.toList.all fun t => !Tryd.prog.wantsStandIn t) = true := by kernel_rfl
  have h2 := List.all_eq_true.1 h1 t (by simpa using Array.mem_of_getElem? ht)
  revert h2
  show (!Tryd.prog.wantsStandIn t) = true → Tryd.prog.wantsStandIn t = false
  cases Tryd.prog.wantsStandIn t <;> intro h <;> first | rfl | cases h

theorem netNames_holds : Rows.NetNamesCardSaid :=
  Claim7.holds_tied_plain_at .later [] _ _ _ _ netNames_said (fun _ h => by cases h) (by kernel_rfl) (fun _ h => by cases h) netNames_row_tie rfl ⟨rfl, rfl⟩ (by kernel_rfl) rfl netNames_plain (by kernel_rfl)
#print axioms netNames_holds
end Go.Proofs.YtdodijoconoeeaaDoor
