/- The abstract machine: each step of a frame that runs. -/
import Derived.Test.YthnplnkddbbojaaDoorAMb
import Derived.Orders
import Derived.ProofKit
import Derived.OpenShut
import Derived.JoinedCond
import Derived.ChangeStays
import Derived.ChangeBears
import Derived.ChangeCalls
namespace Go.AM
open Go.RowKit

section
variable {P : Program} {Γ : Nat → Option AV} {N : Env} {g0 : G} {f0 : FuncId} {cs0 : List Frame} {g : G} {h : List Ob} {w : World} {f : Fr} {up : List Fr} {tmps : Array Value} {todo : List Item} {ds : List Deferred} {kd : CallKind} {ro : Option Nat} {fs : List Frame}

theorem not_defer {o : Oper} {ao : AO} (hc : cop P o = some ao) {t : List AV} (h1 : ∀ k as, aop P Γ t h ao ≠ .dfr k as) (h2 : aop P Γ t h ao ≠ .bad) : ∀ c, o.op ≠ .defer c := by
  intro c hoc
  unfold cop at hc
  rw [hoc] at hc
  simp only at hc
  split at hc
  · simp only [Option.some.injEq] at hc
    subst hc
    simp only [aop] at h1 h2
    split at h1
    · exact h1 _ _ rfl
    · rename_i hne
      split at h2
      · rename_i h3; exact hne _ _ _ h3
      · exact h2 rfl
  · simp at hc

theorem storeA_len {sz : Nat} {p x : AV} {h' : List Ob} (hs : storeA h sz p x = some h') : h.length ≤ h'.length := by
  revert hs
  simp only [storeA]
  repeat' split
  all_goals (first
    | (intro hs; simp only [Option.some.injEq] at hs; subst hs; simp)
    | (intro hs; simp at hs))
def lenOk (h : List Ob) : R → Prop
  | .val _ h' | .skip h' => h.length ≤ h'.length
  | _ => True
theorem appendA_len {k : Nat} {E : TypeId} {b : Nat} {x : AV} {ys : List AV} {fl : Bool} : lenOk h (appendA h k E b x ys fl) := by
  simp only [appendA]
  repeat' split
  all_goals simp [lenOk]
theorem partsIn_len : ∀ {ps ps' : List (Nat × AV)} {h h' : List Ob}, partsIn h ps = some (ps', h') → h'.length = h.length
  | [], _, _, _, hp => by simp only [partsIn, Option.some.injEq, Prod.mk.injEq] at hp; rw [hp.2]
  | (i, v) :: r, _, h, h', hp => by
    simp only [partsIn] at hp
    split at hp
    · split at hp
      · rename_i h2
        simp only [Option.some.injEq, Prod.mk.injEq] at hp
        obtain ⟨_, rfl⟩ := hp
        rw [partsIn_len h2, share_length]
      · simp at hp
    · simp at hp
theorem callM_len {ty : TypeId} {name : String} {v : AV} {args : List AV} : lenOk h (callM P Γ h ty name v args) := by
  simp only [callM]
  repeat' split
  all_goals simp [lenOk]
theorem aop_len {t : List AV} {o : AO} : lenOk h (aop P Γ t h o) := by
  cases o <;> simp only [aop]
  all_goals (repeat' split)
  all_goals first
    | exact appendA_len
    | exact callM_len
    | trivial
    | (simp [lenOk, share_length]; done)
    | (simp only [lenOk]; exact storeA_len (by assumption))
    | (simp only [lenOk]; have := partsIn_len (by assumption); simp; omega)

theorem V_un : V g h (.tup []) Go.undef := by simp only [V, VL]; exact ⟨[], rfl, rfl⟩

theorem kind_norm (hk : KR g h f.kind kd ro) (hn : ∀ l, f.kind ≠ .round l) : ro = none := by
  cases hk2 : f.kind with
  | norm => rw [hk2] at hk; exact hk.2
  | dfr => rw [hk2] at hk; exact hk.2
  | round l => exact absurd hk2 (hn l)

theorem setAll_VL : ∀ {ps : List Nat} {as t : List AV} {us : List Value} {tmps : Array Value}, VL g h t tmps.toList → VL g h as us → as.length = ps.length →
    VL g h (setAll t ps as) ((ps.zip us).foldl (fun (tmps : Array Value) (x : Nat × Value) => tmps.setIfInBounds x.1 x.2) tmps).toList
  | [], _, _, _, _, ht, _, _ => by simpa [setAll] using ht
  | p :: ps, [], _, _, _, _, _, hl => by simp at hl
  | p :: ps, a :: as, t, us, tmps, ht, ha, hl => by
    simp only [VL] at ha
    obtain ⟨u, us', rfl, h1, h2⟩ := ha
    simp only [setAll, List.zip_cons_cons, List.foldl_cons]
    exact setAll_VL (by rw [Array.toList_setIfInBounds]; exact VL_set p ht h1) h2 (by simpa using hl)

theorem goR_sound {o : AG} {os : List AG} {k : List It} {ops : Array Oper} {i : Nat} {rest : List Nat} {k' : List Item}
    (S : St P Γ N g0 f0 g h w f up tmps (.inRegion ops (i :: rest) :: k') ds kd ro fs) (hits : f.its = .ops (o :: os) :: k) (hmd : f.md = .run) (hw : wantedA f.t o.guard = some true) :
    ∃ m', Steps P (lone (mkF f.fn tmps (.inRegion ops (i :: rest) :: k') ds kd ro) (fs ++ cs0) w) m' ∧ Sim P Γ N g0 f0 cs0 (goR P f up h o os k (aop P Γ f.t h o.op)) m' := by
  have hI := S.its
  rw [hits] at hI
  simp only [IR] at hI
  obtain ⟨hO, hk⟩ := hI
  cases hO with
  | cons h1 hO =>
  have hI2 : IR P g h (.ops os :: k) (.inRegion ops rest :: k') := ⟨hO, hk⟩
  obtain ⟨op, hop, hcag⟩ := h1
  obtain ⟨hw1, hcop, hdst⟩ := wanted_sound hcag S.t hw
  have hs : Snd P Γ N g h w (⟨tmps, ds⟩ : Act).eval op (aop P Γ f.t h o.op) := aop_sound (a := ⟨tmps, ds⟩) S.H S.t hcop
  have hnd := fun x y => not_defer (Γ := Γ) (h := h) (t := f.t) hcop x y
  revert hs hnd
  cases hr : aop P Γ f.t h o.op with
  | val v h' =>
    intro hs hnd
    obtain ⟨g', w', nx, h2, h3, h4, u, rfl, h6⟩ := hs
    have hlen : h.length ≤ h'.length := by have := aop_len (P := P) (Γ := Γ) (h := h) (t := f.t) (o := o.op); rw [hr] at this; exact this
    refine ⟨_, .one (st_value hop hw1 (Or.inr (hnd (by simp) (by simp))) h2), ?_⟩
    have S1 := S.mono h3 h4 hlen
    rw [← hdst]
    refine St.sim (f := { f with its := .ops os :: k, t := setD f.t o.dst v }) ⟨S1.H, S1.M, ?_, put_VL S1.t h6, S1.ds, S1.kind, S1.is, S1.b, S1.z, S1.s⟩ (by rw [hmd]; rfl)
    have := S1.its
    rw [hits] at this
    exact ⟨hO, this.2⟩
  | skip h' =>
    intro hs hnd
    obtain ⟨g', w', nx, h2, h3, h4, h6⟩ := hs
    simp only at h6
    subst h6
    have hlen : h.length ≤ h'.length := by have := aop_len (P := P) (Γ := Γ) (h := h) (t := f.t) (o := o.op); rw [hr] at this; exact this
    refine ⟨_, .one (st_skipped hop hw1 (Or.inr (hnd (by simp) (by simp))) h2), ?_⟩
    have S1 := S.mono h3 h4 hlen
    rw [← hdst]
    refine St.sim (f := { f with its := .ops os :: k, t := setD f.t o.dst (.tup []) }) ⟨S1.H, S1.M, ?_, put_VL S1.t V_un, S1.ds, S1.kind, S1.is, S1.b, S1.z, S1.s⟩ (by rw [hmd]; rfl)
    have := S1.its
    rw [hits] at this
    exact ⟨hO, this.2⟩
  | pan v =>
    intro hs hnd
    obtain ⟨u, h2, h3⟩ := hs
    refine ⟨_, .one (st_panic hop hw1 (Or.inr (hnd (by simp) (by simp))) h2), ?_⟩
    exact St.sim (f := { f with md := .pan v false }) ⟨S.H, S.M, S.its, S.t, S.ds, S.kind, S.is, S.b, S.z, S.s⟩ ⟨u, rfl, h3⟩
  | call c args =>
    intro hs hnd
    simp only [goR]
    by_cases hb : hasBody P c = true
    · rw [if_pos hb]
      obtain ⟨us, h2, h3⟩ := hs hb
      refine ⟨_, .one (st_enter hop hw1 (Or.inr (hnd (by simp) (by simp))) h2), ?_⟩
      exact ⟨g, w, us.toArray, _ :: fs, rfl, S.H, S.M, h3, hb, S.sr (by rw [hmd]; rfl), by simp⟩
    · rw [if_neg hb]
      exact ⟨_, .refl _ _, by trivial⟩
  | rcv =>
    intro hs hnd
    simp only [goR]
    have hk0 := S.kind
    have S0 : ∀ v up' fs', V g h v (.nilIface) → up' = up → fs' = fs → True := fun _ _ _ _ _ _ => trivial
    cases hkd : f.kind with
    | round l =>
      simp only [recov, hkd]
      exact ⟨_, .refl _ _, by trivial⟩
    | norm =>
      rw [hkd] at hk0
      obtain ⟨rfl, rfl⟩ := hk0
      simp only [recov, hkd]
      refine ⟨_, .one (st_recover hop hw1 hs (Or.inr ⟨by simp [tryRecover, mkF], rfl, rfl⟩)), ?_⟩
      rw [← hdst]
      exact St.sim (f := ⟨f.md, f.fn, .ops os :: k, setD f.t o.dst .nili, f.ds, .norm, f.base⟩) ⟨S.H, S.M, hI2, put_VL S.t (by simp [V]), S.ds, ⟨rfl, rfl⟩, S.is, S.b, fun e => by have := S.z e; exact ⟨this.1, rfl⟩, S.s⟩ (by rw [hmd]; rfl)
    | dfr =>
      rw [hkd] at hk0
      obtain ⟨rfl, rfl⟩ := hk0
      simp only [recov, hkd]
      cases up with
      | nil => have := (S.z rfl).2; rw [hkd] at this; cases this
      | cons c rest2 =>
        have hs0 := S.s
        obtain ⟨fr, fs', rfl, h1, h2, h3, h4, h5⟩ := hs0
        simp only
        have hdone : ∀ (hno : tryRecover (mkF f.fn tmps (.inRegion ops (i :: rest) :: k') ds .deferred none) (fr :: fs' ++ cs0) = none),
            ∃ m', Steps P (lone (mkF f.fn tmps (.inRegion ops (i :: rest) :: k') ds .deferred none) (fr :: fs' ++ cs0) w) m' ∧
              Sim P Γ N g0 f0 cs0 (.fr ⟨f.md, f.fn, .ops os :: k, setD f.t o.dst .nili, f.ds, .dfr, f.base⟩ (c :: rest2) h) m' := by
          intro hno
          refine ⟨_, .one (st_recover hop hw1 hs (Or.inr ⟨hno, rfl, rfl⟩)), ?_⟩
          rw [← hdst]
          exact St.sim (f := ⟨f.md, f.fn, .ops os :: k, setD f.t o.dst .nili, f.ds, .dfr, f.base⟩) ⟨S.H, S.M, hI2, put_VL S.t (by simp [V]), S.ds, ⟨rfl, rfl⟩, S.is, S.b, fun e => by simp at e, S.s⟩ (by rw [hmd]; rfl)
        have hcm := h1.md
        cases hm : c.md with
        | run =>
          rw [hm] at hcm
          simp only [MR] at hcm
          exact hdone (by simp [tryRecover, mkF, hcm])
        | ret =>
          rw [hm] at hcm
          simp only [MR] at hcm
          exact hdone (by simp [tryRecover, mkF, hcm])
        | pan v rc =>
          rw [hm] at hcm
          simp only [MR] at hcm
          obtain ⟨u, hcm, hvu⟩ := hcm
          cases rc with
          | true => exact hdone (by simp [tryRecover, mkF, hcm])
          | false =>
            simp only
            refine ⟨_, .one (st_recover hop hw1 hs (Or.inl (by simp only [tryRecover, mkF, hcm, List.cons_append]; rfl))), ?_⟩
            rw [← hdst]
            refine St.sim (f := ⟨f.md, f.fn, .ops os :: k, setD f.t o.dst v, f.ds, .dfr, f.base⟩) (fs := { fr with mode := .panicking [{ v := u, recovered := true }] } :: fs') ⟨S.H, S.M, hI2, put_VL S.t hvu, S.ds, ⟨rfl, rfl⟩, S.is, S.b, fun e => by simp at e, ?_⟩ (by rw [hmd]; rfl)
            refine ⟨_, fs', rfl, ⟨⟨u, rfl, hvu⟩, h1.fn, h1.its, h1.t, h1.ds, h1.kind, h1.is⟩, ?_, h3, h4, h5⟩
            simp only [belF, hm, belMd] at h2 ⊢
            exact h2
  | dfr c args =>
    intro hs hnd
    obtain ⟨d, h2, h3⟩ := hs
    simp only [goR]
    have hk0 := S.kind
    cases hkd : f.kind with
    | round l => exact ⟨_, .refl _ _, by trivial⟩
    | norm =>
      rw [hkd] at hk0
      obtain ⟨rfl, rfl⟩ := hk0
      refine ⟨_, .one (st_defer hop hw1 h2), ?_⟩
      rw [← hdst]
      exact St.sim (f := ⟨f.md, f.fn, .ops os :: k, setD f.t o.dst (.tup []), .call c args :: f.ds, .norm, f.base⟩) ⟨S.H, S.M, hI2, put_VL S.t V_un, .cons h3 S.ds, ⟨rfl, rfl⟩, S.is, S.b, fun e => by have := S.z e; rw [hkd] at this; exact this, S.s⟩ (by rw [hmd]; rfl)
    | dfr =>
      rw [hkd] at hk0
      obtain ⟨rfl, rfl⟩ := hk0
      refine ⟨_, .one (st_defer hop hw1 h2), ?_⟩
      rw [← hdst]
      exact St.sim (f := ⟨f.md, f.fn, .ops os :: k, setD f.t o.dst (.tup []), .call c args :: f.ds, .dfr, f.base⟩) ⟨S.H, S.M, hI2, put_VL S.t V_un, .cons h3 S.ds, ⟨rfl, rfl⟩, S.is, S.b, fun e => by have := S.z e; rw [hkd] at this; exact this, S.s⟩ (by rw [hmd]; rfl)
  | yield l args =>
    intro hs hnd
    obtain ⟨b, us, h2, h3, h4⟩ := hs
    simp only [goR]
    simp only [V] at h3
    obtain ⟨⟨st, pj, fn, t, ps, p, q, hi⟩, b', sz, hρ, hbb⟩ := h3
    simp only [Value.func.injEq, Fn.yield.injEq] at hbb
    obtain ⟨rfl, _⟩ := hbb
    simp only [hi]
    by_cases hal : args.length = ps.length
    · rw [if_pos hal]
      obtain ⟨L, hL1, hL2, hL3, hL4, hL5, hL6, hL7, hL8, hL9, _⟩ := loop_at S.H hρ hi
      have hsz : us.toArray.size = L.params.size := by
        have := VL_length h4
        simp only [List.size_toArray, this, hal, ← hL6, Array.length_toList]
      rw [run_yield hL1 hsz] at h2
      refine ⟨_, .one (st_round hop hw1 (Or.inr (hnd (by simp) (by simp))) h2), ?_⟩
      have S2 : St P Γ N g0 f0 g h w { md := .run, fn := L.fn, its := [.code p, .beginRound, .code q], t := setAll t ps args, ds := [], kind := .round l, base := h.length } (f :: up)
          ((L.params.zip us.toArray).foldl (fun tmps (t, a) => tmps.setIfInBounds t a) L.tmps) [.code L.assign, .beginRound, .code L.body] [] .normal (some b)
          (mkF f.fn tmps (.inRegion ops (i :: rest) :: k') ds kd ro :: fs) := by
        refine ⟨S.H, S.M, ⟨hL7, hL8, trivial⟩, ?_, .nil, ⟨rfl, b, rfl, ⟨_, _, _, _, _, _, _, hi⟩, sz, hρ⟩, by rw [hL4]; exact hL9, Nat.le_refl _, by simp, S.sr (by rw [hmd]; rfl)⟩
        have := setAll_VL (us := us) (tmps := L.tmps) hL5 h4 hal
        rw [← hL6] at this ⊢
        rw [← Array.foldl_toList, Array.toList_zip]
        exact this
      subst hL4
      exact S2.sim (md := .run) rfl
    · rw [if_neg hal]
      exact ⟨_, .refl _ _, by trivial⟩
  | either => intro _ _; exact ⟨_, .refl _ _, by trivial⟩
  | bad => intro _ _; exact ⟨_, .refl _ _, by trivial⟩
end
end Go.AM
/- The abstract machine: each step is right. -/
namespace Go.AM
open Go.RowKit

section
variable {P : Program} {Γ : Nat → Option AV} {N : Env} {g0 : G} {f0 : FuncId} {cs0 : List Frame} {g : G} {h : List Ob} {w : World} {f : Fr} {up : List Fr} {tmps : Array Value} {todo : List Item} {ds : List Deferred} {kd : CallKind} {ro : Option Nat} {fs : List Frame}

/-- A frame that runs, with others things to come. -/
theorem St.go (S : St P Γ N g0 f0 g h w f up tmps todo ds kd ro fs) (hmd : f.md = .run) {its : List It} {todo' : List Item} {t : List AV} {tmps' : Array Value} (h1 : IR P g h its todo') (h2 : VL g h t tmps'.toList) :
    Sim P Γ N g0 f0 cs0 (.fr { f with its := its, t := t } up h) (lone (mkF f.fn tmps' todo' ds kd ro) (fs ++ cs0) w) :=
  St.sim (f := { f with its := its, t := t }) ⟨S.H, S.M, h1, h2, S.ds, S.kind, S.is, S.b, S.z, S.s⟩ (by rw [hmd]; rfl)

theorem range_enter {x : Operand} {gg : FuncId} {us vs : List Value} {l : Nat} {a : Act} (hx : a.eval x = .func (.func gg) us.toArray vs.toArray) (hb : hasBody P gg = true) (w : World) :
    ((do let d ← resolve a.eval { callee := .value x, args := #[.const (.func (.yield l) #[] #[])], argTypes := #[] } 0; invoke d.target d.args) : Sem Next).run P w = .ok (.enter gg (us ++ .func (.yield l) #[] #[] :: vs).toArray) w := by
  simp only [resolve, Sem.run_bind, hx, Deferred.ofValue, Sem.run_pure, Result.andThen_ok, invoke, run_callFunc hb]
  congr 2
  apply Array.ext'
  simp [Act.eval]

theorem rangeFunc_sound (S : St P Γ N g0 f0 g h w f up tmps todo ds kd ro fs) (hmd : f.md = .run) {x : AX} {ps : List Nat} {m : List Bool} {a b : ACode} {k : List It} (hits : f.its = .code (.rangeFunc x ps m a b) :: k) :
    ∃ m', Steps P (lone (mkF f.fn tmps todo ds kd ro) (fs ++ cs0) w) m' ∧ Sim P Γ N g0 f0 cs0 (stepRun P Γ f up h (.code (.rangeFunc x ps m a b) :: k)) m' := by
  have hI := S.its
  obtain ⟨fmd, ffn, fits, ft, fds, fk, fb⟩ := f
  simp only at hits hmd hI
  subst hits hmd
  cases todo with
  | nil => simp only [IR] at hI
  | cons im k' =>
  cases im <;> simp only [IR] at hI
  rename_i c
  obtain ⟨hC, hk⟩ := hI
  cases c <;> simp only [CR] at hC
  rename_i fx qs ca cb
  obtain ⟨rfl, rfl, hCa, hCb⟩ := hC
  have hx := V_ax (a := ⟨tmps, ds⟩) S.t fx
  simp only [stepRun]
  split
  · rename_i gg fs' cs' hv
    rw [hv] at hx
    simp only [V] at hx
    obtain ⟨us, vs, hxe, h1, h2⟩ := hx
    by_cases hb : hasBody P gg = true
    · rw [if_neg (by simp [hb])]
      have hk0 := S.kind
      cases fk with
      | round l =>
        obtain ⟨rfl, b0, rfl, hL⟩ := hk0
        obtain ⟨⟨st, pj, fn, t, ps', p, q, hi⟩, sz, hρ⟩ := hL
        obtain ⟨L, hL1, _⟩ := loop_at S.H hρ hi
        obtain ⟨g', H', x', hLR⟩ := push_loop S.H L.defers (VL_mask m S.t) hCa hCb S.is
        have S1 := S.mono H' x' (by simp)
        refine ⟨_, .one (st_range (run_enterLoop_inner hL1 ffn tmps qs ca cb) (range_enter hxe hb _)), ?_⟩
        have hI3 : IR P g' (h ++ [.loop .ready .none ffn (maskT m ft) qs.toList a b]) (.inRange h.length :: k) (.inRangeFunc w.heap.size :: k') := ⟨hLR, IR_mono x' (IR_bel hk) hk⟩
        refine ⟨g', _, _, _ :: fs, rfl, H', S1.M, ?_, hb, St.sr (f := ⟨_, ffn, .inRange h.length :: k, ft, fds, _, fb⟩) (ds := [] ++ ds) ⟨S1.H, S1.M, hI3, S1.t, S1.ds, (by have := S1.kind; exact this), S1.is, S1.b, S1.z, S1.s⟩ rfl, by simp⟩
        refine VL_append (VL_mono x' (VL_bel h1) h1) ?_
        simp only [VL]
        exact ⟨_, _, rfl, LR_V hLR, VL_mono x' (VL_bel h2) h2⟩
      | norm | dfr =>
        obtain ⟨rfl, rfl⟩ := hk0
        obtain ⟨g1, H1, x1, hD⟩ := push_dfr S.H
        have S1 := S.mono H1 x1 (by simp)
        obtain ⟨g', H', x', hLR⟩ := push_loop S1.H w.heap.size (VL_mask m S1.t) hCa hCb S1.is
        have S2 := S1.mono H' x' (by simp)
        have hxx : Ext h.length g h g' _ := x1.trans (x'.mono (by simp))
        have hD' : DR g' _ (.mark h.length) _ := DR_mono x' (by simp) hD
        refine ⟨_, .one (st_range (run_enterLoop_outer ffn tmps qs ca cb) (range_enter hxe hb _)), ?_⟩
        simp only [List.append_assoc, List.cons_append, List.nil_append, List.length_append, List.length_cons, List.length_nil] at H' x' hLR S2 hxx hD'
        have hI3 : IR P g' (h ++ [.dfr true, .loop .ready .none ffn (maskT m ft) qs.toList a b]) (.inRange (h.length + 1) :: k) (.inRangeFunc (w.heap.size + 1) :: k') := ⟨by simpa using hLR, IR_mono hxx (IR_bel hk) hk⟩
        refine ⟨g', _, _, _ :: fs, rfl, H', S2.M, ?_, hb, St.sr (f := ⟨_, ffn, .inRange (h.length + 1) :: k, ft, .mark h.length :: fds, _, fb⟩) ⟨S2.H, S2.M, hI3, S2.t, .cons hD' S2.ds, (by have := S2.kind; exact this), S2.is, S2.b, S2.z, S2.s⟩ rfl, by simp⟩
        refine VL_append (VL_mono hxx (VL_bel h1) h1) ?_
        simp only [VL]
        refine ⟨_, _, rfl, ?_, VL_mono hxx (VL_bel h2) h2⟩
        have := LR_V hLR
        simpa using this
    · rw [if_pos (by simpa using hb)]
      exact ⟨_, .refl _ _, by trivial⟩
  · exact ⟨_, .refl _ _, by trivial⟩

theorem run_sound (S : St P Γ N g0 f0 g h w f up tmps todo ds kd ro fs) (hmd : f.md = .run) :
    ∃ m', Steps P (lone (mkF f.fn tmps todo ds kd ro) (fs ++ cs0) w) m' ∧ Sim P Γ N g0 f0 cs0 (stepRun P Γ f up h f.its) m' := by
  have hI := S.its
  cases hits : f.its with
  | nil =>
    rw [hits] at hI
    cases todo with
    | nil => simp only [stepRun]; exact leave_sound S rfl
    | cons im k' => simp only [IR] at hI
  | cons it k =>
    rw [hits] at hI
    cases todo with
    | nil => cases it <;> simp only [IR] at hI
    | cons im k' =>
    cases it with
    | code a =>
      cases im <;> simp only [IR] at hI
      rename_i c
      obtain ⟨hC, hk⟩ := hI
      cases a with
      | skip =>
        cases c <;> simp only [CR] at hC
        · exact ⟨_, .one st_skip, S.go hmd hk S.t⟩
        · exact ⟨_, .one st_label, S.go hmd hk S.t⟩
      | reg gs =>
        cases c <;> try (simp only [CR] at hC; done)
        rename_i id ops draw
        cases draw <;> simp only [CR] at hC
        · exact ⟨_, .one st_region, S.go hmd (its := .ops gs :: k) ⟨ops_all hC, hk⟩ S.t⟩
      | dreg l gs => exact ⟨_, .refl _ _, by trivial⟩
      | seq a b =>
        cases c <;> simp only [CR] at hC
        exact ⟨_, .one st_seq, S.go hmd (its := .code a :: .code b :: k) ⟨hC.1, hC.2, hk⟩ S.t⟩
      | cond x a b =>
        cases c <;> simp only [CR] at hC
        rename_i y ca cb
        obtain ⟨rfl, hCa, hCb⟩ := hC
        have hx := V_ax (a := ⟨tmps, ds⟩) S.t y
        simp only [stepRun]
        split
        · rename_i v hv
          rw [hv] at hx
          refine ⟨_, .one (st_cond (V_bool hx)), S.go hmd (its := .code (if v then a else b) :: k) ⟨?_, hk⟩ S.t⟩
          cases v
          · exact hCb
          · exact hCa
        · exact ⟨_, .refl _ _, by trivial⟩
      | block id m a =>
        cases c <;> simp only [CR] at hC
        obtain ⟨rfl, hC⟩ := hC
        exact ⟨_, .one st_block, S.go hmd (its := .code a :: .inBlock _ m :: k) ⟨hC, rfl, hk⟩ S.t⟩
      | loop m a =>
        cases c <;> simp only [CR] at hC
        exact ⟨_, .one st_loop, S.go hmd (its := .code a :: .inLoop m a :: k) ⟨hC, hC, hk⟩ (VL_mask m S.t)⟩
      | rangeFunc x ps m a b => exact rangeFunc_sound S hmd hits
      | exit id =>
        cases c <;> simp only [CR] at hC
        subst hC
        rename_i id
        have he := exit_sound (id := id) hk
        simp only [stepRun]
        split
        · rename_i q m hq
          rw [hq] at he
          obtain ⟨q', hq', hIq⟩ := he
          exact ⟨_, .one (st_exit hq'), S.go hmd hIq (VL_mask m S.t)⟩
        · rename_i hq
          rw [hq] at he
          exact leave_sound S ⟨k', rfl, he⟩
      | ret =>
        cases c <;> simp only [CR] at hC
        simp only [stepRun]
        exact leave_sound S ⟨k', rfl⟩
      | bad => exact ⟨_, .refl _ _, by trivial⟩
    | inBlock i m =>
      cases im <;> simp only [IR] at hI
      exact ⟨_, .one st_inBlock, S.go hmd hI.2 (VL_mask m S.t)⟩
    | inLoop m a =>
      cases im <;> simp only [IR] at hI
      exact ⟨_, .one st_inLoop, S.go hmd (its := .code a :: .inLoop m a :: k) ⟨hI.1, hI.1, hI.2⟩ (VL_mask m S.t)⟩
    | ops os =>
      cases im <;> simp only [IR] at hI
      rename_i ops todo
      cases os with
      | nil =>
        cases hI.1
        exact ⟨_, .one st_regionEnd, S.go hmd hI.2 S.t⟩
      | cons o os =>
        cases todo with
        | nil => cases hI.1
        | cons i rest =>
          simp only [stepRun]
          split
          · rename_i hw
            exact goR_sound S hits hmd hw
          · rename_i hw
            cases hI.1 with
            | cons h1 hO =>
            obtain ⟨op, hop, hcag⟩ := h1
            obtain ⟨hw1, hcop, hdst⟩ := wanted_sound hcag S.t hw
            refine ⟨_, .one (st_opSkip hop hw1), ?_⟩
            rw [← hdst]
            exact S.go hmd (its := .ops os :: k) ⟨hO, hI.2⟩ (put_VL S.t V_un)
          · exact ⟨_, .refl _ _, by trivial⟩
    | inRange l => exact ⟨_, .refl _ _, by trivial⟩
    | endRange l =>
      cases im <;> simp only [IR] at hI
      rename_i b
      obtain ⟨⟨hl, sz, hρ⟩, hk⟩ := hI
      simp only [stepRun]
      split
      · rename_i st j fn t ps p q hi
        obtain ⟨L, hL1, hL2, hL3, hL4, hL5, hL6, hL7, hL8, hL9, hset⟩ := loop_at S.H hρ hi
        by_cases hst : st = .busy
        · rw [if_pos hst]; exact ⟨_, .refl _ _, by trivial⟩
        · rw [if_neg hst]
          obtain ⟨H', x⟩ := hset .exhausted j L.pending hL3
          have S1 := S.mono H' x (by simp)
          have hk1 := IR_mono x (IR_bel hk) hk
          refine ⟨_, .one (st_endRange (run_endLoop hL1 (by rw [hL2]; exact hst))), S1.go hmd ?_ S1.t⟩
          cases j with
          | none => simp only [JR] at hL3; rw [hL3]; exact hk1
          | ret => simp only [JR] at hL3; rw [hL3]; exact ⟨trivial, hk1⟩
          | exit id => simp only [JR] at hL3; rw [hL3]; exact ⟨rfl, hk1⟩
      · exact ⟨_, .refl _ _, by trivial⟩
    | beginRound =>
      cases im <;> simp only [IR] at hI
      simp only [stepRun]
      split
      · rename_i l hkd
        have hk0 := S.kind
        rw [hkd] at hk0
        obtain ⟨rfl, b, rfl, hl, sz, hρ⟩ := hk0
        split
        · rename_i j fn t ps p q hi
          obtain ⟨L, hL1, hL2, hL3, hL4, hL5, hL6, hL7, hL8, hL9, hset⟩ := loop_at S.H hρ hi
          obtain ⟨H', x⟩ := hset .busy j L.pending hL3
          have S1 := S.mono H' x (by simp)
          have hk1 := IR_mono x (IR_bel hI) hI
          exact ⟨_, .one (st_beginRound (run_beginRound hL1 hL2)), S1.go hmd hk1 S1.t⟩
        · exact ⟨_, .refl _ _, by trivial⟩
      · exact ⟨_, .refl _ _, by trivial⟩
end
end Go.AM
/- The abstract machine: frames are left and entered; each step is right. -/
namespace Go.AM
open Go.RowKit

section
variable {P : Program} {Γ : Nat → Option AV} {N : Env} {g0 : G} {f0 : FuncId} {cs0 : List Frame} {g : G} {h : List Ob} {w : World} {f : Fr} {up : List Fr} {tmps : Array Value} {todo : List Item} {ds : List Deferred} {kd : CallKind} {ro : Option Nat} {fs : List Frame}

theorem result_sound (H : Inv P Γ N g h w) {t : List AV} (ht : VL g h t tmps.toList) {r : ResultVar} {a : ARes} (hc : cres P r = some a) {v : AV} (hv : resultA Γ t h a = some v) :
    ∃ u, (match r with | .tmp t => pure (tmps.getD t undef) | .cell a t => do loadVar t (← asAddr (tmps.getD a undef)) : Sem Value).run P w = .ok u w ∧ V g h v u := by
  cases r with
  | tmp i =>
    simp only [cres, Option.some.injEq] at hc
    subst hc
    simp only [resultA, Option.some.injEq] at hv
    subst hv
    exact ⟨_, rfl, by have := VL_get i ht; simpa using this⟩
  | cell i ty =>
    simp only [cres, Option.bind_eq_bind] at hc
    cases ha : tAgg P ty with
    | none => simp [ha] at hc
    | some ag =>
      cases hs : tSize P ty with
      | none => simp [ha, hs] at hc
      | some sz =>
        simp [ha, hs] at hc
        subst hc
        simp only [resultA] at hv
        have hp := VL_get i ht
        obtain ⟨ad, u, h1, h2, h3⟩ := loadA_sound H ha hs hp hv
        refine ⟨u, ?_, h3⟩
        have h4 : tmps.getD i undef = .pointer (some ad) := by rw [← h1]; simp
        have has : (asAddr (.pointer (some ad))).run P w = .ok ad w := rfl
        simp only [h4, Sem.run_bind, has, Result.andThen_ok, h2]

theorem resultsL_sound (H : Inv P Γ N g h w) {t : List AV} (ht : VL g h t tmps.toList) : ∀ {rs : List ResultVar} {as : List ARes}, rs.mapM (cres P) = some as → ∀ {vs : List AV}, resultsL Γ t h as = some vs →
    ∃ us, (rs.mapM (m := Sem) fun | .tmp t => pure (tmps.getD t undef) | .cell a t => do loadVar t (← asAddr (tmps.getD a undef))).run P w = .ok us w ∧ VL g h vs us
  | [], as, hc, vs, hv => by
    simp at hc; subst hc
    simp only [resultsL, Option.some.injEq] at hv
    subst hv
    exact ⟨[], by simp, by simp [VL]⟩
  | r :: rs, as, hc, vs, hv => by
    rw [List.mapM_cons] at hc
    cases ha : cres P r with
    | none => simp [ha] at hc
    | some a =>
      cases hl : rs.mapM (cres P) with
      | none => simp [ha, hl] at hc
      | some as' =>
        simp [ha, hl] at hc
        subst hc
        simp only [resultsL] at hv
        split at hv
        · rename_i v vs' h1 h2
          simp only [Option.some.injEq] at hv
          subst hv
          obtain ⟨u, h3, h4⟩ := result_sound H ht ha h1
          obtain ⟨us, h5, h6⟩ := resultsL_sound H ht hl h2
          refine ⟨u :: us, ?_, by simp only [VL]; exact ⟨_, _, rfl, h4, h6⟩⟩
          simp only [List.mapM_cons, Sem.run_bind, h3, h5, Result.andThen_ok, Sem.run_pure]
        · simp at hv

theorem results_sound (H : Inv P Γ N g h w) {t : List AV} (ht : VL g h t tmps.toList) {fn : Func} {as : List ARes} (hc : fn.results.toList.mapM (cres P) = some as) {v : AV} (hv : resultsA Γ t h as = some v) :
    ∃ u, (results fn tmps).run P w = .ok u w ∧ V g h v u := by
  unfold resultsA at hv
  cases hl : resultsL Γ t h as with
  | none => simp [hl] at hv
  | some vs =>
    obtain ⟨us, h1, h2⟩ := resultsL_sound H ht hc hl
    rw [hl] at hv
    have h3 : ∀ x, (if hx : us.toArray.size = 1 then us.toArray[0] else .tuple us.toArray) = x → (results fn tmps).run P w = .ok x w := by
      intro x hx
      subst hx
      simp only [results, Array.mapM_eq_mapM_toList, Sem.run_bind, Sem.run_map, Sem.run_pure]
      exact congrArg (fun (r : Result (List Value)) => (r.andThen fun a w' => Result.ok a.toArray w').andThen fun a w' => Result.ok (if h : a.size = 1 then a[0] else Value.tuple a) w') h1
    cases vs with
    | nil =>
      simp only [Option.some.injEq] at hv
      subst hv
      simp only [VL] at h2
      subst h2
      exact ⟨_, h3 _ rfl, by simp only [V, VL]; exact ⟨[], rfl, rfl⟩⟩
    | cons a vs =>
      cases vs with
      | nil =>
        simp only [Option.some.injEq] at hv
        subst hv
        simp only [VL] at h2
        obtain ⟨u, _, rfl, h4, rfl⟩ := h2
        exact ⟨u, h3 _ rfl, h4⟩
      | cons b vs =>
        simp only [Option.some.injEq] at hv
        subst hv
        have hlen := VL_length h2
        refine ⟨.tuple us.toArray, h3 _ ?_, by simp only [V]; exact ⟨us, rfl, h2⟩⟩
        rw [dif_neg (by simp [hlen])]

theorem cfun_spec {c : FuncId} {F : AFun} (hc : cfun P c = some F) : ∃ fn b, P.funcs[c]? = some fn ∧ fn.body = some b ∧ CR P b F.body ∧ F.nt = fn.ntmps ∧ fn.results.toList.mapM (cres P) = some F.res := by
  simp only [cfun, Option.bind_eq_bind] at hc
  cases hf : P.funcs[c]? with
  | none => simp [hf] at hc
  | some fn =>
    cases hb : fn.body with
    | none => simp [hf, hb] at hc
    | some b =>
      cases hr : fn.results.toList.mapM (cres P) with
      | none => simp [hf, hb, hr] at hc
      | some rs =>
        simp [hf, hb, hr] at hc
        subst hc
        exact ⟨fn, b, rfl, hb, CR_masks P _ _ _ _ _ _ (CR_ccode P b), rfl, hr⟩

theorem VL_grow {as : List AV} {us : Array Value} {n : Nat} (h1 : VL g h as us.toList) : VL g h (as ++ List.replicate (n - as.length) .undef) (us ++ Array.replicate (n - us.size) undef).toList := by
  have := VL_length h1
  simp only [Array.length_toList] at this
  rw [Array.toList_append, Array.toList_replicate, this]
  exact VL_append h1 (VL_undef _ _ (by simp))

theorem enter_mkF {c : FuncId} {fn : Func} {b : Code} (hf : P.funcs[c]? = some fn) (hb : fn.body = some b) (us : Array Value) (k : CallKind) :
    Frame.enter P c us k = mkF c (us ++ Array.replicate (fn.ntmps - us.size) undef) [.code b] [] k none := by
  simp [Frame.enter, mkF, hf, hb]

theorem enter_St (H : Inv P Γ N g h w) (hM : ∀ b o v, g0.M b o = some v → g.M b o = some v) {c : FuncId} {F : AFun} (hc : cfun P c = some F) {as : List AV} {us : Array Value} (ha : VL g h as us.toList) {kind : FK} {k : CallKind} (hk : KR g h kind k none)
    (hz : up = [] → c = f0 ∧ kind = .norm) (hs : SR P g h f0 h.length up fs) : Sim P Γ N g0 f0 cs0 (.fr (enter c F as kind h) up h) (lone (Frame.enter P c us k) (fs ++ cs0) w) := by
  obtain ⟨fn, b, hf, hb, hC, hn, _⟩ := cfun_spec hc
  rw [enter_mkF hf hb]
  have hI : IR P g h [.code F.body] [.code b] := ⟨hC, trivial⟩
  refine St.sim (f := enter c F as kind h) ⟨H, hM, hI, ?_, .nil, hk, ⟨fn, hf⟩, Nat.le_refl _, hz, hs⟩ rfl
  simp only [enter, hn]
  exact VL_grow ha

theorem out_sound (S : St P Γ N g0 f0 g h w f up tmps todo ds kd ro fs) {md : FrameMode} (hm : MR g h f.md md) (hne : f.md ≠ .run) :
    ∃ m', Steps P (lone (mkF f.fn tmps todo ds kd ro md) (fs ++ cs0) w) m' ∧ Sim P Γ N g0 f0 cs0 (stepOut P Γ f up h) m' := by
  obtain ⟨fmd, ffn, fits, ft, fds, fk, fb⟩ := f
  simp only at hm hne
  have hmd : md ≠ .run := by
    cases fmd <;> simp only [MR] at hm
    · exact absurd rfl hne
    · rw [hm]; simp
    · obtain ⟨_, hm, _⟩ := hm; rw [hm]; simp
  have hds := S.ds
  simp only at hds
  cases hds with
  | cons h1 h2 =>
    rename_i d d' fds ds
    cases d with
    | mark i =>
      simp only [stepOut]
      split
      · rename_i hi
        obtain ⟨_, b, sz, hρ, rfl⟩ := h1
        have hb := S.H.ob i _ hi b sz 0 hρ
        simp only [if_true] at hb
        have hk : sameKind (.dfr true) (.dfr false) := trivial
        have hE := Ext.set_kind (g := g) hi hk
        have H' : Inv P Γ N g (h.set i (.dfr false)) (w.putObj b (.deferred none)) := Inv.setO S.H hi hρ hk (by
          intro b' sz' st'' hb'
          rw [hρ] at hb'
          simp only [Option.some.injEq, Prod.mk.injEq] at hb'
          obtain ⟨rfl, _⟩ := hb'
          exact setW_same _ (S.H.own i b _ hρ).2)
        have S1 := S.mono H' hE (by simp)
        refine ⟨_, .one (st_mark hmd (run_takeDeferred hb)), ?_⟩
        have hd1 := S1.ds
        cases hd1 with
        | cons _ hd2 =>
        refine St.sim (f := ⟨fmd, ffn, fits, ft, fds, fk, fb⟩) ⟨S1.H, S1.M, S1.its, S1.t, hd2, S1.kind, S1.is, S1.b, S1.z, S1.s⟩ (MR_mono hE ?_ hm)
        cases fmd <;> simp only [MR, belMd] at hm ⊢
        obtain ⟨_, _, hm⟩ := hm
        exact V_bel hm
      · exact ⟨_, .refl _ _, by trivial⟩
    | call c args =>
      simp only [stepOut]
      by_cases hb : hasBody P c = true
      · rw [if_neg (by simp [hb])]
        split
        · rename_i F hF
          obtain ⟨cap, ht, ha⟩ := h1
          have hinv : (invoke d'.target d'.args).run P w = .ok (.enter c (d'.args ++ cap)) w := by
            rw [ht]
            simp only [invoke, run_callFunc hb]
          refine ⟨_, .one (st_call hmd (by rw [ht]; simp) (by rw [ht]; simp) hinv), ?_⟩
          refine enter_St (up := ⟨fmd, ffn, fits, ft, fds, fk, fb⟩ :: up) (fs := mkF ffn tmps todo ds kd ro md :: fs) S.H S.M hF ha (kind := .dfr) ⟨rfl, rfl⟩ (by simp) ?_
          exact St.sr (f := ⟨fmd, ffn, fits, ft, fds, fk, fb⟩) ⟨S.H, S.M, S.its, S.t, h2, S.kind, S.is, S.b, S.z, S.s⟩ hm
        · exact ⟨_, .refl _ _, by trivial⟩
      · rw [if_pos (by simpa using hb)]
        exact ⟨_, .refl _ _, by trivial⟩
  | nil =>
    simp only [stepOut]
    obtain ⟨fn, hfn⟩ := S.is
    simp only at hfn
    cases fmd with
    | run => exact absurd rfl hne
    | pan v rc =>
      cases rc with
      | true => exact ⟨_, .refl _ _, by trivial⟩
      | false =>
        simp only [MR] at hm
        obtain ⟨u, rfl, hvu⟩ := hm
        simp only [Bool.false_eq_true, if_false]
        cases up with
        | nil =>
          have hs := S.s
          simp only [SR] at hs
          subst hs
          exact ⟨_, .refl _ _, g, w, u, _, rfl, S.H, S.M, hvu, (S.z rfl).1, rfl, rfl, fn, hfn⟩
        | cons c up =>
          have hs := S.s
          obtain ⟨fr, fs', rfl, h1, h2, h3, h4, h5⟩ := hs
          refine ⟨_, .one (st_popPan hfn), g, w, u, fr, fs', rfl, S.H, S.M, hvu, ?_⟩
          exact SR_mono (Ext.refl _ _ _) S.b ⟨fr, fs', rfl, h1, h2, h3, h4, h5⟩
    | ret =>
      simp only [MR] at hm
      subst hm
      simp only
      split
      · rename_i F hF
        split
        · rename_i v hv
          obtain ⟨fn', b, hf', hb, hC, hn, hres⟩ := cfun_spec hF
          obtain ⟨u, h1, h2⟩ := results_sound S.H S.t hres hv
          have hk0 := S.kind
          cases fk with
          | norm =>
            obtain ⟨rfl, rfl⟩ := hk0
            cases up with
            | nil =>
              have hs := S.s
              simp only [SR] at hs
              subst hs
              exact ⟨_, .refl _ _, g, w, u, _, rfl, S.H, S.M, h2, (S.z rfl).1, rfl, rfl, rfl, fn', hf', h1⟩
            | cons c up =>
              have hs := S.s
              obtain ⟨fr, fs', rfl, h3, h4, h5, h6, h7⟩ := hs
              refine ⟨_, .one (st_popRet hf' h1), back_sim S.H S.M h2 ?_⟩
              exact SR_mono (Ext.refl _ _ _) S.b ⟨fr, fs', rfl, h3, h4, h5, h6, h7⟩
          | dfr =>
            obtain ⟨rfl, rfl⟩ := hk0
            cases up with
            | nil => exact ⟨_, .refl _ _, by trivial⟩
            | cons c up =>
              have hs := S.s
              have hsr : SR P g h f0 h.length (c :: up) fs := SR_mono (Ext.refl _ _ _) S.b hs
              obtain ⟨fr, fs', rfl, h3, h4, h5, h6, h7⟩ := hsr
              simp only
              have hcm := h3.md
              obtain ⟨cmd, cfn, cits, ct, cds, ck, cb⟩ := c
              cases cmd with
              | run => exact ⟨_, .refl _ _, by trivial⟩
              | ret =>
                simp only [MR] at hcm
                exact ⟨_, .one (st_popDfr hf' h1 (Or.inr ⟨Or.inl hcm, rfl⟩)), g, w, _, fs', rfl, S.H, S.M, fr, fs', rfl, h3, h4, h5, h6, h7⟩
              | pan v2 rc =>
                simp only [MR] at hcm
                obtain ⟨u2, hcm, hvu⟩ := hcm
                cases rc with
                | false => exact ⟨_, .one (st_popDfr hf' h1 (Or.inr ⟨Or.inr ⟨_, hcm⟩, rfl⟩)), g, w, _, fs', rfl, S.H, S.M, fr, fs', rfl, h3, h4, h5, h6, h7⟩
                | true =>
                  refine ⟨_, .one (st_popDfr hf' h1 (Or.inl ⟨_, hcm, rfl⟩)), g, w, _, fs', rfl, S.H, S.M, _, fs', rfl, ⟨rfl, h3.fn, h3.its, h3.t, h3.ds, h3.kind, h3.is⟩, ?_, h5, h6, h7⟩
                  simp only [belF, belMd, Bool.and_eq_true] at h4 ⊢
                  exact ⟨h4.1, trivial⟩
          | round l => exact ⟨_, .refl _ _, by trivial⟩
        · exact ⟨_, .refl _ _, by trivial⟩
      · exact ⟨_, .refl _ _, by trivial⟩

theorem finish_sound {c c' : Fr} {v : AV} {u : Value} {fr : Frame} (hf : c.finish v = some c') (hr : FRel P g h c fr) (hv : V g h v u) : FRel P g h c' (fr.finish u) ∧ c'.base = c.base ∧ c'.fn = c.fn ∧ c'.kind = c.kind := by
  obtain ⟨cmd, cfn, cits, ct, cds, ck, cb⟩ := c
  obtain ⟨fn, tmps, todo, ds, md, kd, ro⟩ := fr
  obtain ⟨r1, r2, r3, r4, r5, r6, r7⟩ := hr
  simp only at r1 r2 r3 r4 r5 r6 r7
  subst r2
  unfold Fr.finish at hf
  simp only at hf
  split at hf
  · rename_i o os k
    simp only [Option.some.injEq] at hf
    subst hf
    cases todo with
    | nil => simp only [IR] at r3
    | cons im k' =>
    cases im <;> simp only [IR] at r3
    rename_i ops todo
    obtain ⟨r31, r32⟩ := r3
    cases r31 with
    | cons h1 hO =>
    rename_i i rest
    obtain ⟨op, hop, hcag⟩ := h1
    have hdst : o.dst = op.dst := by
      unfold cag at hcag
      cases hg : cguard ops.toList op with
      | none => simp [hg] at hcag
      | some gd =>
        cases hcop : cop P op with
        | none => simp [hg, hcop] at hcag
        | some ao => simp [hg, hcop] at hcag; rw [← hcag]
    have hfin : ({ fn := fn, tmps := tmps, todo := .inRegion ops (i :: rest) :: k', defers := ds, mode := md, kind := kd, roundOf := ro } : Frame).finish u =
        { fn := fn, tmps := put' tmps op.dst u, todo := .inRegion ops rest :: k', defers := ds, mode := md, kind := kd, roundOf := ro } := by
      simp only [Frame.finish, put', hop, Option.bind_some]
      cases op.dst <;> rfl
    rw [hfin]
    refine ⟨⟨r1, rfl, ⟨hO, r32⟩, ?_, r5, r6, r7⟩, rfl, rfl, rfl⟩
    rw [← hdst]
    exact put_VL r4 hv
  · rename_i l k
    simp only [Option.some.injEq] at hf
    subst hf
    cases todo with
    | nil => simp only [IR] at r3
    | cons im k' =>
    cases im <;> simp only [IR] at r3
    exact ⟨⟨r1, rfl, r3, r4, r5, r6, r7⟩, rfl, rfl, rfl⟩
  · simp at hf

theorem step_sound {c : Cfg} {m : Machine} (hs : Sim P Γ N g0 f0 cs0 c m) : ∃ m', Steps P m m' ∧ Sim P Γ N g0 f0 cs0 (stepA P Γ c) m' := by
  cases c with
  | fr f up h =>
    obtain ⟨g, w, tmps, todo, ds, kd, ro, md, fs, rfl, S, hm⟩ := hs.inv
    cases hmd : f.md with
    | run =>
      rw [hmd] at hm
      simp only [MR] at hm
      subst hm
      simp only [stepA, hmd]
      exact run_sound S hmd
    | ret => simp only [stepA, hmd]; exact out_sound S hm (by rw [hmd]; simp)
    | pan v rc => simp only [stepA, hmd]; exact out_sound S hm (by rw [hmd]; simp)
  | cl c args up h =>
    obtain ⟨g, w, vs, fs, rfl, H, hM, ha, hb, hsr, hz⟩ := hs
    simp only [stepA]
    split
    · rename_i F hF
      exact ⟨_, .refl _ _, enter_St H hM hF ha ⟨rfl, rfl⟩ (fun e => ⟨hz e, rfl⟩) hsr⟩
    · exact ⟨_, .refl _ _, by trivial⟩
  | back up v h =>
    cases up with
    | nil => exact ⟨_, .refl _ _, hs⟩
    | cons c up =>
      obtain ⟨g, w, u, fr, fs, rfl, H, hM, hv, hsr⟩ := hs
      simp only [stepA]
      split
      · rename_i c' hf
        obtain ⟨fr', fs', heq, h1, h2, h3, h4, h5⟩ := hsr
        cases heq
        obtain ⟨r1, r2, r3, r4⟩ := finish_sound hf h1 hv
        exact ⟨_, .refl _ _, g, w, _, fs, rfl, H, hM, _, fs, rfl, r1, FRel_bel r1, by rw [r2]; exact h3, by rw [r3, r4]; exact h4, by rw [r2]; exact h5⟩
      · exact ⟨_, .refl _ _, by trivial⟩
  | die up v h =>
    cases up with
    | nil => exact ⟨_, .refl _ _, hs⟩
    | cons c up =>
      obtain ⟨g, w, u, fr, fs, rfl, H, hM, hv, hsr⟩ := hs
      simp only [stepA]
      obtain ⟨cmd, cfn, cits, ct, cds, ck, cb⟩ := c
      cases cmd with
      | run =>
        obtain ⟨fr', fs', heq, h1, h2, h3, h4, h5⟩ := hsr
        cases heq
        have hm := h1.md
        simp only [MR] at hm
        have hfr : fr.raise [{ v := u, recovered := false }] = { fr with mode := .panicking [{ v := u, recovered := false }] } := by
          simp only [Frame.raise, hm]
        rw [hfr]
        have hR : FRel P g h ⟨.pan v false, cfn, cits, ct, cds, ck, cb⟩ { fr with mode := .panicking [{ v := u, recovered := false }] } := ⟨⟨u, rfl, hv⟩, h1.fn, h1.its, h1.t, h1.ds, h1.kind, h1.is⟩
        exact ⟨_, .refl _ _, g, w, _, fs, rfl, H, hM, _, fs, rfl, hR, FRel_bel hR, h3, h4, h5⟩
      | ret => exact ⟨_, .refl _ _, by trivial⟩
      | pan v2 rc => exact ⟨_, .refl _ _, by trivial⟩
  | bad => exact ⟨_, .refl _ _, by trivial⟩
end
end Go.AM
/- The abstract machine: functions that only look at their arguments. -/
namespace Go.AM
open Go.RowKit

/-- A result without numbers. -/
def treeR : AV → Bool
  | .own _ _ es => belL 0 es
  | a => bel 0 a
def treeRL : List AV → Bool
  | [] => true
  | a :: as => treeR a && treeRL as
def treeA : AV → Bool
  | .tup vs => treeRL vs
  | a => treeR a

/-- A function of trees: whatever the memory is, it comes to r, whatever else there is. -/
def PureCon (P : Program) (Γ : Nat → Option AV) (f : FuncId) (as : List AV) (r : AV) : Prop :=
  hasBody P f = true ∧ (belL 0 as = true → ∀ (N : Env) (g : G) (h : List Ob) (w : World) (us : List Value), Inv P Γ N g h w → VL g h as us →
    Calls P f us.toArray w fun e w' => ∃ u g', e = .returned u ∧ treeA r = true ∧ Inv P Γ N g' (h ++ (unownA h.length r).2) w' ∧ V g' (h ++ (unownA h.length r).2) (unownA h.length r).1 u ∧ (∀ i, i < h.length → g'.ρ i = g.ρ i) ∧
      (∀ b o v, g.M b o = some v → g'.M b o = some v) ∧ (∀ b, b < w.heap.size → w'.heap[b]? = w.heap[b]?))

theorem Ext.app {g g' : G} {h : List Ob} (os : List Ob) (hρ : ∀ i, i < h.length → g'.ρ i = g.ρ i) (hM : ∀ b o v, g.M b o = some v → g'.M b o = some v) (hMM : g'.MM = g.MM) : Ext h.length g h g' (h ++ os) := by
  have hget : ∀ {i x}, h[i]? = some x → (h ++ os)[i]? = some x := fun {i x} hx => by rw [List.getElem?_append_left (lt_of_get hx)]; exact hx
  have hρ' : ∀ {i}, i < h.length → ∀ x, g.ρ i = some x → g'.ρ i = some x := fun hi x hx => by rw [hρ _ hi]; exact hx
  exact ⟨hM, fun _ _ x => by rw [hMM]; exact x, fun i vs hn hi => ⟨⟨_, hget hi⟩, hρ' hn⟩, fun i es fl hn hi => ⟨⟨_, _, hget hi⟩, hρ' hn⟩, fun i s p hn hi => ⟨⟨_, _, hget hi⟩, hρ' hn⟩,
    fun i st j fn t ps a b hn hi => ⟨⟨_, _, hget hi⟩, hρ' hn⟩, fun i l hn hi => ⟨⟨_, hget hi⟩, hρ' hn⟩,
    fun i k E es gr fl sh hn hi => ⟨_, _, _, _, _, hget hi, Nat.le_refl _, fun _ _ _ hk => ⟨hk, rfl, hρ' hn⟩⟩⟩

/-! ### Values that lie in no memory that others may see -/

mutual
theorem V_noM {g g' : G} {h h' : List Ob} : ∀ {a : AV} {v : Value}, bel 0 a = true → noM a = true → V g h a v → V g' h' a v
  | .undef, _, _, _, _ => by simp [V]
  | .bool _, _, _, _, hv => by simpa only [V] using hv
  | .int _ _, _, _, _, hv => by simpa only [V] using hv
  | .str _, _, _, _, hv => by simpa only [V] using hv
  | .nilp, _, _, _, hv => by simpa only [V] using hv
  | .nilm, _, _, _, hv => by simpa only [V] using hv
  | .nilf, _, _, _, hv => by simpa only [V] using hv
  | .nili, _, _, _, hv => by simpa only [V] using hv
  | .gptr _ _, _, _, _, hv => by simpa only [V] using hv
  | .list full k es, v, _, hn, hv => by
    simp only [noM, List.isEmpty_iff] at hn
    subst hn
    simp only [V] at hv ⊢
    obtain ⟨hk, a, cap, rfl, hf, hc, _⟩ := hv
    exact ⟨hk, a, cap, rfl, hf, hc, Or.inl (by simp)⟩
  | .own _ _ _, _, _, _, hv => by simp only [V] at hv
  | .sl _ _ _, _, hb, _, _ | .ptr _ _, _, hb, _, _ | .mp _, _, hb, _, _ | .it _, _, hb, _, _ | .yld _, _, hb, _, _ => by simp [bel] at hb
  | .eptr a _ _ _, _, hb, hn, hv => by
    simp only [V] at hv ⊢
    simp only [bel] at hb
    simp only [noM] at hn
    obtain ⟨u, b, o, h1, h2, h4, rfl⟩ := hv
    exact ⟨u, b, o, V_noM hb hn h1, h2, h4, rfl⟩
  | .kmp _ _, _, _, hn, _ => by simp [noM] at hn
  | .agg cs, _, hb, hn, hv => by
    simp only [V] at hv ⊢
    simp only [bel] at hb
    simp only [noM] at hn
    obtain ⟨vs, rfl, h1⟩ := hv
    exact ⟨vs, rfl, VL_noM hb hn h1⟩
  | .tup cs, _, hb, hn, hv => by
    simp only [V] at hv ⊢
    simp only [bel] at hb
    simp only [noM] at hn
    obtain ⟨vs, rfl, h1⟩ := hv
    exact ⟨vs, rfl, VL_noM hb hn h1⟩
  | .fn f a b, _, hb, hn, hv => by
    simp only [V] at hv ⊢
    simp only [bel, Bool.and_eq_true] at hb
    simp only [noM, Bool.and_eq_true] at hn
    obtain ⟨xs, ys, rfl, h1, h2⟩ := hv
    exact ⟨xs, ys, rfl, VL_noM hb.1 hn.1 h1, VL_noM hb.2 hn.2 h2⟩
  | .ifc t a, _, hb, hn, hv => by
    simp only [V] at hv ⊢
    simp only [bel] at hb
    simp only [noM] at hn
    obtain ⟨y, rfl, h1⟩ := hv
    exact ⟨y, rfl, V_noM hb hn h1⟩
theorem VL_noM {g g' : G} {h h' : List Ob} : ∀ {as : List AV} {vs : List Value}, belL 0 as = true → noML as = true → VL g h as vs → VL g' h' as vs
  | [], _, _, _, hv => by simpa only [VL] using hv
  | a :: as, _, hb, hn, hv => by
    simp only [VL] at hv ⊢
    simp only [belL, Bool.and_eq_true] at hb
    simp only [noML, Bool.and_eq_true] at hn
    obtain ⟨v, vs', rfl, h1, h2⟩ := hv
    exact ⟨v, vs', rfl, V_noM hb.1 hn.1 h1, VL_noM hb.2 hn.2 h2⟩
end
theorem VE_noM {g g' : G} {h h' : List Ob} : ∀ {as : List AV} {vs : List Value}, belL 0 as = true → noML as = true → VE g h as vs → VE g' h' as vs
  | [], _, _, _, hv => by simpa only [VE] using hv
  | a :: as, _, hb, hn, hv => by
    simp only [VE] at hv ⊢
    simp only [belL, Bool.and_eq_true] at hb
    simp only [noML, Bool.and_eq_true] at hn
    obtain ⟨v, vs', h1, rfl, h2⟩ := hv
    exact ⟨v, vs', V_noM hb.1 hn.1 h1, rfl, VE_noM hb.2 hn.2 h2⟩

/-! ### New rows of a result -/

theorem unown_new (n : Nat) (a : AV) : ∀ o ∈ (unown n a).2, ∃ k E es, o = .row k E es none true false := by
  cases a <;> simp [unown]
theorem unownL_new : ∀ (as : List AV) (n : Nat), ∀ o ∈ (unownL n as).2, ∃ k E es, o = .row k E es none true false
  | [], _ => by simp [unownL]
  | a :: as, n => by
    simp only [unownL, List.mem_append]
    rintro o (h | h)
    · exact unown_new n a o h
    · exact unownL_new as _ o h
theorem unownA_new (n : Nat) (a : AV) : ∀ o ∈ (unownA n a).2, ∃ k E es, o = .row k E es none true false := by
  cases a
  case tup vs => exact unownL_new vs n
  all_goals exact unown_new n _

/-- Each row of a result without memory is of elements without memory. -/
theorem unown_noM (n : Nat) {a : AV} (hn : noM a = true) : ∀ k E es g fl sh, Ob.row k E es g fl sh ∈ (unown n a).2 → noML es = true := by
  intro k E es g fl sh h
  cases a <;> simp [unown] at h
  obtain ⟨_, _, rfl, _⟩ := h
  simpa only [noM] using hn
theorem unownL_noM : ∀ {as : List AV} (n : Nat), noML as = true → ∀ k E es g fl sh, Ob.row k E es g fl sh ∈ (unownL n as).2 → noML es = true
  | [], _, _ => by simp [unownL]
  | a :: as, n, hn => by
    simp only [noML, Bool.and_eq_true] at hn
    simp only [unownL, List.mem_append]
    rintro k E es g fl sh (h | h)
    · exact unown_noM n hn.1 _ _ _ _ _ _ h
    · exact unownL_noM _ hn.2 _ _ _ _ _ _ h
theorem unownA_noM (n : Nat) {a : AV} (hn : noM a = true) : ∀ k E es g fl sh, Ob.row k E es g fl sh ∈ (unownA n a).2 → noML es = true := by
  cases a
  case tup vs => exact unownL_noM n (by simpa only [noM] using hn)
  all_goals exact unown_noM n hn

section
variable {P : Program} {Γ : Nat → Option AV} {N : Env} {g : G} {h : List Ob} {w : World}

/-- Slices of rows that are there. -/
theorem V_newsl {g g' : G} {h h' : List Ob} {n off : Nat} {u : Value} {i : Nat} (hv : V g h (.sl i off n) u) (hi : h'[i]? = h[i]?) (hρ : g'.ρ i = g.ρ i) : V g' h' (.sl i off n) u := by
  simp only [V] at hv ⊢
  obtain ⟨k, E, es, gr, fl, sh, h1, h2⟩ := hv
  refine ⟨k, E, es, gr, fl, sh, by rw [hi]; exact h1, ?_⟩
  rw [hρ]
  exact h2

theorem unown_V {g g' : G} {h1 h os : List Ob} (hl : h1.length = h.length) (hρ : g'.ρ = g.ρ) {n : Nat} (hn : h.length ≤ n) {a : AV} (hm : noM a = true) (ht : treeR a = true) {u : Value} (hv : V g (h1 ++ os) (unown n a).1 u) : V g' (h ++ os) (unown n a).1 u := by
  by_cases ho : ∃ k E es, a = .own k E es
  · obtain ⟨k, E, es, rfl⟩ := ho
    simp only [unown] at hv ⊢
    refine V_newsl hv ?_ (by rw [hρ])
    rw [List.getElem?_append_right (by omega), List.getElem?_append_right (by omega), hl]
  · have h2 : (unown n a).1 = a := by cases a <;> first | rfl | exact absurd ⟨_, _, _, rfl⟩ ho
    have h3 : treeR a = bel 0 a := by cases a <;> first | rfl | exact absurd ⟨_, _, _, rfl⟩ ho
    rw [h2] at hv ⊢
    rw [h3] at ht
    exact V_noM ht hm hv
theorem unownL_V {g g' : G} {h1 h os : List Ob} (hl : h1.length = h.length) (hρ : g'.ρ = g.ρ) : ∀ {as : List AV} {n : Nat} (_ : h.length ≤ n) (_ : noML as = true) (_ : treeRL as = true) {us : List Value}, VL g (h1 ++ os) (unownL n as).1 us → VL g' (h ++ os) (unownL n as).1 us
  | [], _, _, _, _, _, hv => by simpa only [unownL, VL] using hv
  | a :: as, n, hn, hm, ht, us, hv => by
    simp only [noML, Bool.and_eq_true] at hm
    simp only [treeRL, Bool.and_eq_true] at ht
    simp only [unownL, VL] at hv ⊢
    obtain ⟨u, us', rfl, h2, h3⟩ := hv
    exact ⟨u, us', rfl, unown_V hl hρ hn hm.1 ht.1 h2, unownL_V hl hρ (by omega) hm.2 ht.2 h3⟩
theorem unownA_V {g g' : G} {h1 h os : List Ob} (hl : h1.length = h.length) (hρ : g'.ρ = g.ρ) {a : AV} (hm : noM a = true) (ht : treeA a = true) {u : Value} (hv : V g (h1 ++ os) (unownA h.length a).1 u) : V g' (h ++ os) (unownA h.length a).1 u := by
  by_cases ho : ∃ vs, a = .tup vs
  · obtain ⟨vs, rfl⟩ := ho
    simp only [unownA, V] at hv ⊢
    obtain ⟨us, rfl, h2⟩ := hv
    exact ⟨us, rfl, unownL_V hl hρ (Nat.le_refl _) (by simpa only [noM] using hm) (by simpa only [treeA] using ht) h2⟩
  · have h2 : unownA h.length a = unown h.length a := by cases a <;> first | rfl | exact absurd ⟨_, rfl⟩ ho
    have h3 : treeA a = treeR a := by cases a <;> first | rfl | exact absurd ⟨_, rfl⟩ ho
    rw [h2] at hv ⊢
    rw [h3] at ht
    exact unown_V hl hρ (Nat.le_refl _) hm ht hv

/-- Whatever was shared for a call whose result lies in no memory is shared no more. -/
theorem Inv.unshare (H : Inv P Γ N g h w) {g' : G} {h1 os : List Ob} {w' : World} (hl : h1.length = h.length) (hρ : ∀ i, i < h.length → g'.ρ i = g.ρ i) (H' : Inv P Γ N g' (h1 ++ os) w') (hM : ∀ b o v, g.M b o = some v → g'.M b o = some v)
    (hw : ∀ b, b < w.heap.size → w'.heap[b]? = w.heap[b]?) (hos : ∀ o ∈ os, ∃ k E es, o = .row k E es none true false ∧ noML es = true) :
    Inv P Γ N { ρ := g'.ρ, M := g.M, MM := g.MM } (h ++ os) w' ∧ Ext h.length g h { ρ := g'.ρ, M := g.M, MM := g.MM } (h ++ os) := by
  have hE : Ext h.length g h { ρ := g'.ρ, M := g.M, MM := g.MM } (h ++ os) := Ext.app os hρ (fun _ _ _ x => x) rfl
  refine ⟨⟨H'.os, H'.tape, H'.output, H'.keep, H'.own, H'.inj, ?_, ?_, ?_, ?_, ?_, ?_, H.mK, H.mmE⟩, hE⟩
  · intro i hi
    refine H'.dom i ?_
    rw [List.length_append] at hi ⊢
    omega
  · intro b o v hv
    have h0 := H.mem b o v hv
    rw [cell?_congr (hw b (Go.block_lt_of_cell h0))]
    exact h0
  · intro b es ck hb
    refine H'.mm b es ck ?_
    rw [H'.mmE, ← H.mmE]
    exact hb
  · intro i b sz st o v hi hv
    by_cases hil : i < h.length
    · simp only at hi
      rw [hρ i hil] at hi
      obtain ⟨k, E, es, gr, fl, h3, h4⟩ := H.mown i b sz st o v hi hv
      exact ⟨k, E, es, gr, fl, by rw [List.getElem?_append_left hil]; exact h3, h4⟩
    · obtain ⟨k, E, es, gr, fl, h3, h4⟩ := H'.mown i b sz st o v hi (hM _ _ _ hv)
      rw [List.getElem?_append_right (by omega)] at h3
      obtain ⟨_, _, _, h5, _⟩ := hos _ (List.mem_of_getElem? h3)
      cases h5
  · intro i o hi
    by_cases hil : i < h.length
    · rw [List.getElem?_append_left hil] at hi
      exact OV_mono hE (hρ i hil) (fun b y hb => hw b (H.own i b y hb).2) (H.ob i o hi)
    · rw [List.getElem?_append_right (by omega)] at hi
      have h2 := H'.ob i o (by rw [List.getElem?_append_right (by omega), hl]; exact hi)
      obtain ⟨k, E, es, rfl, hn⟩ := hos o (List.mem_of_getElem? hi)
      simp only [OV] at h2 ⊢
      obtain ⟨h3, h4, h5, h6, h7⟩ := h2
      refine ⟨h3, h4, h5, h6, ?_⟩
      cases hr : g'.ρ i with
      | none => rw [hr] at h7; exact h7
      | some x =>
        rw [hr] at h7
        obtain ⟨b, sz, st⟩ := x
        simp only at h7 ⊢
        obtain ⟨h8, c, E', fz, vs, h9, h10, h11, h12, h13⟩ := h7
        refine ⟨h8, c, E', fz, vs, h9, h10, h11, ?_, h13⟩
        simp only [Option.getD_none, List.drop_zero] at h12 ⊢
        exact VE_noM (okList_bel (h5 (by trivial))) hn h12
  · intro n a hn
    obtain ⟨h2, vs, h3, h4⟩ := H.glob n a hn
    exact ⟨h2, vs, VL_mono hE (VL_bel h3) h3, h4⟩

theorem pure_sound {g0 : G} {f0 : FuncId} {cs0 : List Frame} {c : FuncId} {args as : List AV} {r : AV} {up : List Fr} {m : Machine} (hP : PureCon P Γ c as r) (hv : viewL h args = some as) (hs : Sim P Γ N g0 f0 cs0 (.cl c args up h) m) :
    ∃ m', Steps P m m' ∧ Sim P Γ N g0 f0 cs0 (.back up (unownA h.length r).1 (afterPure h args r)) m' := by
  obtain ⟨g, w, vs, fs, rfl, H, hM, ha, hb, hsr, hz⟩ := hs
  obtain ⟨g1, hρ1, hMM1, hM1, H1, x1, hc1⟩ := share_sound (rowsOfL args) H
  have hV1 := VL_view H x1 hc1 ha hv
  have hbel := viewL_bel H ha hv
  have hlen := share_length (rowsOfL args) h
  obtain ⟨e, w', fr, hR, hsteps, hfn, hleave⟩ := hP.2 hbel N g1 (share (rowsOfL args) h) w vs.toList H1 hV1 (fs ++ cs0)
  obtain ⟨u, g', rfl, hT, H', hV', hρ', hM', hw'⟩ := hR
  · rw [hlen] at H' hV' hρ'
    have hρ2 : ∀ i, i < h.length → g'.ρ i = g.ρ i := fun i hi => by rw [hρ' i hi, hρ1]
    obtain ⟨g2, H2, x2, hV2⟩ : ∃ g2, Inv P Γ N g2 (afterPure h args r) w' ∧ Ext h.length g h g2 (afterPure h args r) ∧ V g2 (afterPure h args r) (unownA h.length r).1 u := by
      unfold afterPure
      by_cases hn : noM r = true
      · rw [if_pos hn]
        obtain ⟨H2, x2⟩ := Inv.unshare H hlen hρ2 H' (fun b o v hv => hM' _ _ _ (hM1 _ _ _ hv)) hw' (by
          intro o ho
          obtain ⟨k, E, es, rfl⟩ := unownA_new _ _ o ho
          exact ⟨k, E, es, rfl, unownA_noM _ hn _ _ _ _ _ _ ho⟩)
        exact ⟨_, H2, x2, unownA_V (g := g') (g' := { ρ := g'.ρ, M := g.M, MM := g.MM }) hlen rfl hn hT hV'⟩
      · rw [if_neg hn]
        refine ⟨g', H', ?_, hV'⟩
        refine x1.trans ?_
        have := Ext.app (g := g1) (g' := g') (h := share (rowsOfL args) h) (unownA h.length r).2 (by rw [hlen]; exact hρ') hM' (by rw [H'.mmE, H1.mmE])
        rwa [hlen] at this
    have hlen2 : h.length ≤ (afterPure h args r).length := by
      unfold afterPure
      split <;> simp [hlen]
    have hM2 : ∀ b o v, g0.M b o = some v → g2.M b o = some v := fun b o v hv => x2.M _ _ _ (hM _ _ _ hv)
    have hsteps' : Steps P (lone (Frame.enter P c vs .normal) (fs ++ cs0) w) (lone fr (fs ++ cs0) w') := hsteps
    cases up with
    | nil =>
      simp only [SR] at hsr
      subst hsr
      exact ⟨_, hsteps', g2, w', u, fr, rfl, H2, hM2, hV2, by rw [hfn]; exact hz rfl, hleave⟩
    | cons d up =>
      obtain ⟨fr', fs', rfl, h3⟩ := hsr
      refine ⟨_, hsteps'.trans (.one (step_leave_returned hleave)), back_sim H2 hM2 hV2 ?_⟩
      exact SR_mono x2 hlen2 ⟨fr', fs', rfl, h3⟩

/-- A function of trees that panics: whatever the memory is. -/
def DieCon (P : Program) (Γ : Nat → Option AV) (f : FuncId) (as : List AV) (v : AV) : Prop :=
  hasBody P f = true ∧ bel 0 v = true ∧ noM v = true ∧ (belL 0 as = true → ∀ (N : Env) (g : G) (h : List Ob) (w : World) (us : List Value), Inv P Γ N g h w → VL g h as us →
    Calls P f us.toArray w fun e w' => ∃ u g', e = .panicked [{ v := u, recovered := false }] ∧ Inv P Γ N g' h w' ∧ V g' h v u ∧ (∀ i, i < h.length → g'.ρ i = g.ρ i) ∧
      (∀ b o v, g.M b o = some v → g'.M b o = some v) ∧ (∀ b, b < w.heap.size → w'.heap[b]? = w.heap[b]?))

theorem die_sound {g0 : G} {f0 : FuncId} {cs0 : List Frame} {c : FuncId} {args as : List AV} {v : AV} {up : List Fr} {m : Machine} (hP : DieCon P Γ c as v) (hv : viewL h args = some as) (hs : Sim P Γ N g0 f0 cs0 (.cl c args up h) m) :
    ∃ m', Steps P m m' ∧ Sim P Γ N g0 f0 cs0 (.die up v h) m' := by
  obtain ⟨g, w, vs, fs, rfl, H, hM, ha, hb, hsr, hz⟩ := hs
  obtain ⟨g1, hρ1, hMM1, hM1, H1, x1, hc1⟩ := share_sound (rowsOfL args) H
  have hV1 := VL_view H x1 hc1 ha hv
  have hbel := viewL_bel H ha hv
  have hlen := share_length (rowsOfL args) h
  obtain ⟨_, hbv, hnv, hP⟩ := hP
  obtain ⟨e, w', fr, hR, hsteps, hfn, hleave⟩ := hP hbel N g1 (share (rowsOfL args) h) w vs.toList H1 hV1 (fs ++ cs0)
  obtain ⟨u, g', rfl, H', hV', hρ', hM', hw'⟩ := hR
  rw [hlen] at hρ'
  have hρ2 : ∀ i, i < h.length → g'.ρ i = g.ρ i := fun i hi => by rw [hρ' i hi, hρ1]
  obtain ⟨H2, x2⟩ := Inv.unshare (os := []) H hlen hρ2 (by simpa using H') (fun b o v hv => hM' _ _ _ (hM1 _ _ _ hv)) hw' (by simp)
  rw [List.append_nil] at H2 x2
  have hV2 := V_noM (g' := { ρ := g'.ρ, M := g.M, MM := g.MM }) (h' := h) hbv hnv hV'
  have hM2 : ∀ b o v, g0.M b o = some v → g.M b o = some v := hM
  have hsteps' : Steps P (lone (Frame.enter P c vs .normal) (fs ++ cs0) w) (lone fr (fs ++ cs0) w') := hsteps
  cases up with
  | nil =>
    simp only [SR] at hsr
    subst hsr
    exact ⟨_, hsteps', _, w', u, fr, rfl, H2, hM2, hV2, by rw [hfn]; exact hz rfl, hleave⟩
  | cons d up =>
    obtain ⟨fr', fs', rfl, h3⟩ := hsr
    exact ⟨_, hsteps'.trans (.one (step_leave_panicked hleave)), _, w', u, fr', fs', rfl, H2, hM2, hV2, SR_mono x2 (Nat.le_refl _) ⟨fr', fs', rfl, h3⟩⟩
end
end Go.AM
/- The abstract machine: regions whose order is open: what each operation looks at. -/
namespace Go.AM
open Go.RowKit

section
variable {P : Program} {Γ : Nat → Option AV}

theorem ax_congr {t t' : List AV} {x : AX} (h : ∀ s ∈ axSlots x, t.getD s .undef = t'.getD s .undef) : ax t x = ax t' x := by
  cases x <;> simp only [ax]
  exact h _ (by simp [axSlots])

theorem bound_congr {t t' : List AV} {d : Nat} {x : Option AX} (h : ∀ s ∈ (x.map axSlots).getD [], t.getD s .undef = t'.getD s .undef) : bound t d x = bound t' d x := by
  cases x with
  | none => rfl
  | some x =>
    simp only [bound]
    rw [ax_congr (x := x) (by simpa using h)]

theorem map_ax_congr {t t' : List AV} {xs : List AX} (h : ∀ s ∈ xs.flatMap axSlots, t.getD s .undef = t'.getD s .undef) : xs.map (ax t) = xs.map (ax t') :=
  List.map_congr_left fun x hx => ax_congr fun s hs => h s (List.mem_flatMap.2 ⟨x, hx, hs⟩)

/-- An operation looks at no slots but its own. -/
theorem aop_congr {t t' : List AV} {h : List Ob} {o : AO} (hs : ∀ s ∈ aoSlots o, t.getD s .undef = t'.getD s .undef) : aop P Γ t h o = aop P Γ t' h o := by
  cases o
  case build z ps =>
    have : (ps.map fun p => (p.1, p.2.1, ax t p.2.2)) = ps.map fun p => (p.1, p.2.1, ax t' p.2.2) :=
      List.map_congr_left fun x hx => by rw [ax_congr fun s h => hs s (List.mem_flatMap.2 ⟨x, hx, h⟩)]
    simp only [aop, this]
  case lit k zs ps =>
    have : (ps.map fun p => (p.1, ax t p.2)) = ps.map fun p => (p.1, ax t' p.2) :=
      List.map_congr_left fun x hx => by rw [ax_congr fun s h => hs s (List.mem_flatMap.2 ⟨x, hx, h⟩)]
    simp only [aop, this]
  case mkFunc f a b =>
    simp only [aoSlots, List.mem_append] at hs
    simp only [aop, map_ax_congr fun s h => hs s (Or.inl h), map_ax_congr fun s h => hs s (Or.inr h)]
  case min xs => simp only [aop, map_ax_congr (xs := xs) hs]
  case max xs => simp only [aop, map_ax_congr (xs := xs) hs]
  case call f xs =>
    simp only [aoSlots, List.mem_append] at hs
    simp only [aop, ax_congr fun s h => hs s (Or.inl h), map_ax_congr fun s h => hs s (Or.inr h)]
  case defer f xs =>
    simp only [aoSlots, List.mem_append] at hs
    simp only [aop, ax_congr fun s h => hs s (Or.inl h), map_ax_congr fun s h => hs s (Or.inr h)]
  case invoke x nm xs =>
    simp only [aoSlots, List.mem_append] at hs
    simp only [aop, ax_congr fun s h => hs s (Or.inl h), map_ax_congr fun s h => hs s (Or.inr h)]
  case sliceStr x lo hi =>
    simp only [aoSlots, List.mem_append] at hs
    have e2 := fun d => bound_congr (d := d) fun s h => hs s (Or.inl (Or.inr h))
    have e3 := fun d => bound_congr (d := d) fun s h => hs s (Or.inr h)
    simp only [aop, ax_congr fun s h => hs s (Or.inl (Or.inl h)), e2, e3]
  case slice k x lo hi =>
    simp only [aoSlots, List.mem_append] at hs
    have e2 := fun d => bound_congr (d := d) fun s h => hs s (Or.inl (Or.inr h))
    have e3 := fun d => bound_congr (d := d) fun s h => hs s (Or.inr h)
    simp only [aop, ax_congr fun s h => hs s (Or.inl (Or.inl h)), e2, e3]
  case slice3 k x lo hi mx =>
    simp only [aoSlots, List.mem_append] at hs
    have e1 : ax t x = ax t' x := ax_congr fun s h => hs s (Or.inl (Or.inl (Or.inl h)))
    have e2 := fun d => bound_congr (d := d) fun s h => hs s (Or.inl (Or.inl (Or.inr h)))
    have e3 : ax t hi = ax t' hi := ax_congr fun s h => hs s (Or.inl (Or.inr h))
    have e4 : ax t mx = ax t' mx := ax_congr fun s h => hs s (Or.inr h)
    have e5 := fun d => bound_congr (t := t) (t' := t') (d := d) (x := some hi) fun s h => hs s (Or.inl (Or.inr (by simpa using h)))
    have e6 := fun d => bound_congr (t := t) (t' := t') (d := d) (x := some mx) fun s h => hs s (Or.inr (by simpa using h))
    simp only [aop, e1, e2, e3, e4, e5, e6]
  case pick c a b =>
    simp only [aoSlots, List.mem_append] at hs
    have e1 : ax t c = ax t' c := ax_congr fun s h => hs s (Or.inl (Or.inl h))
    have e2 : ax t a = ax t' a := ax_congr fun s h => hs s (Or.inl (Or.inr h))
    have e3 : ax t b = ax t' b := ax_congr fun s h => hs s (Or.inr h)
    simp only [aop, e1, e2, e3]
  case upd e c a b =>
    simp only [aoSlots, List.mem_append] at hs
    have e1 : ax t c = ax t' c := ax_congr fun s h => hs s (Or.inl (Or.inl h))
    have e2 : ax t a = ax t' a := ax_congr fun s h => hs s (Or.inl (Or.inr h))
    have e3 : ax t b = ax t' b := ax_congr fun s h => hs s (Or.inr h)
    simp only [aop, e1, e2, e3]
  all_goals first
    | rfl
    | (simp only [aoSlots] at hs; simp only [aop, ax_congr hs]; done)
    | (simp only [aoSlots, List.mem_append] at hs
       simp only [aop, ax_congr fun s h => hs s (Or.inl h), ax_congr fun s h => hs s (Or.inr h)]; done)

theorem wanted_congr {t t' : List AV} {gd : Option (Nat × Bool)} (hs : ∀ s ∈ (gd.map fun x => [x.1]).getD [], t.getD s .undef = t'.getD s .undef) : wantedA t gd = wantedA t' gd := by
  cases gd with
  | none => rfl
  | some x =>
    obtain ⟨j, b⟩ := x
    simp only [wantedA]
    rw [hs j (by simp)]

/-- The same with other objects. -/
def R.on (h : List Ob) : R → R
  | .val v _ => .val v h
  | .skip _ => .skip h
  | r => r

theorem aop_plain {t : List AV} {o : AO} (h0 : aoClass o = 0) (h h2 : List Ob) : aop P Γ t h2 o = (aop P Γ t h o).on h2 := by
  cases o <;> simp only [aoClass, reduceCtorEq] at h0 <;> simp only [aop]
  all_goals (repeat' split)
  all_goals first
    | rfl
    | simp_all [R.on]

theorem aop_reads {t : List AV} {o : AO} (h1 : aoClass o = 1) {h h' : List Ob} {v : AV} : (aop P Γ t h o = .val v h' → h' = h) ∧ (aop P Γ t h o ≠ .skip h') ∧ ∀ f as, aop P Γ t h o ≠ .call f as := by
  cases o <;> simp [aoClass] at h1 <;> simp only [aop]
  all_goals (repeat' split)
  all_goals simp
  all_goals (intros; simp_all)
end
end Go.AM
/- The abstract machine: regions whose order is open: what is done in the text's order. -/
namespace Go.AM
open Go.RowKit

section
variable {P : Program} {Γ : Nat → Option AV}

def OneStep (P : Program) (Γ : Nat → Option AV) (obls : List Obl) (o : AG) (t : List AV) (h : List Ob) (v : AV) (h' : List Ob) : Prop :=
  (wantedA t o.guard = some false ∧ v = .tup [] ∧ h' = h) ∨
  (wantedA t o.guard = some true ∧ (aop P Γ t h o.op = .val v h' ∨ (aop P Γ t h o.op = .skip h' ∧ v = .tup []) ∨ ∃ f as, aop P Γ t h o.op = .call f as ∧ hasBody P f = true ∧ ⟨f, as, h, v, h'⟩ ∈ obls))

theorem OneStep.mono {obls obls' : List Obl} {o : AG} {t : List AV} {h h' : List Ob} {v : AV} (hs : ∀ x ∈ obls, x ∈ obls') : OneStep P Γ obls o t h v h' → OneStep P Γ obls' o t h v h' := by
  rintro (h1 | ⟨h1, h2 | h2 | ⟨f, as, h2, h3, h4⟩⟩)
  · exact Or.inl h1
  · exact Or.inr ⟨h1, Or.inl h2⟩
  · exact Or.inr ⟨h1, Or.inr (Or.inl h2)⟩
  · exact Or.inr ⟨h1, Or.inr (Or.inr ⟨f, as, h2, h3, hs _ h4⟩)⟩

/-- Who writes no memory leaves it. -/
theorem aop_still {t : List AV} {o : AO} (h2 : aoClass o ≠ 2) {h h' : List Ob} {v : AV} : (aop P Γ t h o = .val v h' → h' = h) ∧ (aop P Γ t h o = .skip h' → h' = h) ∧ ∀ f as, aop P Γ t h o ≠ .call f as := by
  cases o <;> simp [aoClass] at h2 <;> simp only [aop]
  all_goals (repeat' split)
  all_goals simp
  all_goals (intros; simp_all)

/-- What is known of one operation. -/
def Known (P : Program) (Γ : Nat → Option AV) (obls : List Obl) (hs hs0 : List (List Ob)) (l : Bool) (o : AG) (t t' : List AV) (h h' : List Ob) (v : AV) : Prop :=
  t' = setD t o.dst v ∧ OneStep P Γ obls o t h v h' ∧ (ecl l o.op ≠ 2 → h' = h) ∧ (h' ∈ hs ∨ h' = h) ∧
    (l = true → ecl l o.op = 1 → wantedA t o.guard = some true → ∀ g ∈ hs0, aop P Γ t g o.op = .val v g ∨ ∃ f as, aop P Γ t g o.op = .call f as ∧ hasBody P f = true ∧ ⟨f, as, g, v, g⟩ ∈ obls)

theorem Known.mono {obls obls' : List Obl} {hs hs' hs0 : List (List Ob)} {l : Bool} {o : AG} {t t' : List AV} {h h' : List Ob} {v : AV} (h1 : ∀ x ∈ obls, x ∈ obls') (h2 : ∀ x ∈ hs, x ∈ hs') (hk : Known P Γ obls hs hs0 l o t t' h h' v) :
    Known P Γ obls' hs' hs0 l o t t' h h' v := ⟨hk.1, hk.2.1.mono h1, hk.2.2.1, hk.2.2.2.1.imp (h2 _) id, fun a b c g hg => (hk.2.2.2.2 a b c g hg).imp id fun ⟨f, as, e1, e2, e3⟩ => ⟨f, as, e1, e2, h1 _ e3⟩⟩

theorem shift {ops : List AG} {o : AG} {t : List AV} {h : List Ob} {obls : List Obl} {hs hs0 : List (List Ob)} {l : List Bool} {t1 t' : List AV} {h1 h' : List Ob} {v0 : AV} (hk0 : Known P Γ obls hs hs0 (l.getD 0 true) o t t1 h h1 v0)
    (hr : ∃ (T : Nat → List AV) (H : Nat → List Ob) (v : Nat → AV), T 0 = t1 ∧ H 0 = h1 ∧ T ops.length = t' ∧ H ops.length = h' ∧ ∀ i x, ops[i]? = some x → Known P Γ obls hs hs0 (l.tail.getD i true) x (T i) (T (i + 1)) (H i) (H (i + 1)) (v i)) :
    ∃ (T : Nat → List AV) (H : Nat → List Ob) (v : Nat → AV), T 0 = t ∧ H 0 = h ∧ T (o :: ops).length = t' ∧ H (o :: ops).length = h' ∧ ∀ i x, (o :: ops)[i]? = some x → Known P Γ obls hs hs0 (l.getD i true) x (T i) (T (i + 1)) (H i) (H (i + 1)) (v i) := by
  obtain ⟨T, H, v, h2, h3, h4, h5, h6⟩ := hr
  refine ⟨fun i => match i with | 0 => t | i + 1 => T i, fun i => match i with | 0 => h | i + 1 => H i, fun i => match i with | 0 => v0 | i + 1 => v i, rfl, rfl, h4, h5, ?_⟩
  intro i x hx
  cases i with
  | zero =>
    simp at hx
    subst hx
    simp only [h2, h3]
    exact hk0
  | succ i =>
    have := h6 i x (by simpa using hx)
    have hl : l.tail.getD i true = l.getD (i + 1) true := by cases l <;> simp
    rw [hl] at this
    exact this

theorem isCall_no {t : List AV} {o : AO} (hc : isCall o = true) {h h' : List Ob} {v : AV} : aop P Γ t h o ≠ .val v h' ∧ aop P Γ t h o ≠ .skip h' := by
  cases o <;> simp [isCall] at hc <;> simp only [aop, callM]
  all_goals constructor
  all_goals (repeat' split)
  all_goals simp
theorem isCall_yes {t : List AV} {o : AO} {h : List Ob} {f : FuncId} {as : List AV} (ha : aop P Γ t h o = .call f as) : isCall o = true := by
  by_cases h2 : aoClass o = 2
  · cases hq : isCall o with
    | true => rfl
    | false =>
      exfalso
      revert ha
      cases o <;> simp [aoClass] at h2 <;> simp [isCall] at hq <;> simp only [aop, appendA]
      all_goals (repeat' split)
      all_goals simp
  · exact absurd ha ((aop_still (v := .undef) (h' := []) h2).2.2 _ _)
theorem ecl_no {q : Bool} {o : AO} (h : isCall o = false) : ecl q o = aoClass o := by simp [ecl, h]

theorem runD_seq {hs0 : List (List Ob)} {obls0 : List Obl} : ∀ {ops : List AG} {orc : List (AV × List Ob)} {l : List Bool} {t : List AV} {h : List Ob} {t' : List AV} {h' : List Ob} {obls : List Obl} {hs : List (List Ob)},
    runD P Γ orc ops t h = some (t', h', obls, hs) → (∀ x ∈ obls, x ∈ obls0) → calm P Γ obls0 hs0 l orc ops t h →
    ∃ (T : Nat → List AV) (H : Nat → List Ob) (v : Nat → AV), T 0 = t ∧ H 0 = h ∧ T ops.length = t' ∧ H ops.length = h' ∧ ∀ i x, ops[i]? = some x → Known P Γ obls0 hs hs0 (l.getD i true) x (T i) (T (i + 1)) (H i) (H (i + 1)) (v i)
  | [], orc, l, t, h, t', h', obls, hs, hr, hob, hc => by
    simp only [runD, Option.some.injEq, Prod.mk.injEq] at hr
    obtain ⟨rfl, rfl, rfl, rfl⟩ := hr
    exact ⟨fun _ => t, fun _ => h, fun _ => .undef, rfl, rfl, rfl, rfl, by simp⟩
  | o :: ops, orc, l, t, h, t', h', obls, hs, hr, hob, hc => by
    have hhead : l.headD true = l.getD 0 true := by cases l <;> rfl
    simp only [runD] at hr
    simp only [calm] at hc
    cases hw : wantedA t o.guard with
    | none => simp [hw] at hr
    | some b =>
      cases b with
      | false =>
        simp only [hw] at hr hc
        exact shift ⟨rfl, Or.inl ⟨hw, rfl, rfl⟩, fun _ => rfl, Or.inr rfl, fun _ _ h => by rw [hw] at h; cases h⟩ (runD_seq hr hob hc)
      | true =>
        simp only [hw] at hr hc
        cases ha : aop P Γ t h o.op with
        | val v h1 =>
          simp only [ha, Option.map_eq_some_iff] at hr hc
          obtain ⟨⟨t2, h2, ob2, hs2⟩, hr1, hr2⟩ := hr
          simp only [Prod.mk.injEq] at hr2
          obtain ⟨rfl, rfl, rfl, rfl⟩ := hr2
          have hsub : ∀ x ∈ hs2, x ∈ (if aoClass o.op = 2 then h1 :: hs2 else hs2) := fun x hx => by split <;> simp [hx]
          have hnc : isCall o.op = false := by
            cases hq : isCall o.op with
            | false => rfl
            | true => exact absurd ha (isCall_no hq).1
          refine shift (t1 := setD t o.dst v) (h1 := h1) ⟨rfl, Or.inr ⟨hw, Or.inl ha⟩, fun h2 => (aop_still (by rwa [ecl_no hnc] at h2)).1 ha, ?_, fun hl h1c _ g hg => Or.inl (hc.1 (by rw [hhead]; exact hl) (by rwa [ecl_no hnc] at h1c) g hg)⟩ ?_
          · by_cases h2 : aoClass o.op = 2
            · left; simp [h2]
            · right; exact (aop_still h2).1 ha
          · obtain ⟨T, H, vv, q1, q2, q3, q4, q5⟩ := runD_seq hr1 hob hc.2
            exact ⟨T, H, vv, q1, q2, q3, q4, fun i x hx => (q5 i x hx).mono (fun _ h => h) hsub⟩
        | skip h1 =>
          simp only [ha, Option.map_eq_some_iff] at hr hc
          obtain ⟨⟨t2, h2, ob2, hs2⟩, hr1, hr2⟩ := hr
          simp only [Prod.mk.injEq] at hr2
          obtain ⟨rfl, rfl, rfl, rfl⟩ := hr2
          have hsub : ∀ x ∈ hs2, x ∈ (if aoClass o.op = 2 then h1 :: hs2 else hs2) := fun x hx => by split <;> simp [hx]
          have hnc : isCall o.op = false := by
            cases hq : isCall o.op with
            | false => rfl
            | true => exact absurd ha (isCall_no (v := .undef) hq).2
          refine shift (t1 := setD t o.dst (.tup [])) (h1 := h1) ⟨rfl, Or.inr ⟨hw, Or.inr (Or.inl ⟨ha, rfl⟩)⟩, fun h2 => (aop_still (v := .undef) (by rwa [ecl_no hnc] at h2)).2.1 ha, ?_, fun _ h1c => absurd ha (aop_reads (v := .undef) (by rwa [ecl_no hnc] at h1c)).2.1⟩ ?_
          · by_cases h2 : aoClass o.op = 2
            · left; simp [h2]
            · right; exact (aop_still (v := .undef) h2).2.1 ha
          · obtain ⟨T, H, vv, q1, q2, q3, q4, q5⟩ := runD_seq hr1 hob hc
            exact ⟨T, H, vv, q1, q2, q3, q4, fun i x hx => (q5 i x hx).mono (fun _ h => h) hsub⟩
        | call f as =>
          simp only [ha] at hr hc
          by_cases hb : hasBody P f = true
          · rw [if_neg (by simp [hb])] at hr
            cases orc with
            | nil => simp at hr
            | cons q orc =>
              obtain ⟨v, h1⟩ := q
              simp only [Option.map_eq_some_iff] at hr hc
              obtain ⟨⟨t2, h2, ob2, hs2⟩, hr1, hr2⟩ := hr
              simp only [Prod.mk.injEq] at hr2
              obtain ⟨rfl, rfl, rfl, rfl⟩ := hr2
              have hic := isCall_yes ha
              refine shift (t1 := setD t o.dst v) (h1 := h1) ⟨rfl, Or.inr ⟨hw, Or.inr (Or.inr ⟨f, as, ha, hb, hob _ (by simp)⟩)⟩, fun h2 => ?_, Or.inl (by simp), fun hl _ _ g hg => Or.inr ⟨f, as, ((hc.1 (by rw [hhead]; exact hl)).2 g hg).1, hb, ((hc.1 (by rw [hhead]; exact hl)).2 g hg).2⟩⟩ ?_
              · cases hq : l.getD 0 true with
                | true => exact (hc.1 (by rw [hhead]; exact hq)).1
                | false =>
                  exfalso
                  apply h2
                  rw [hq]
                  revert hic
                  cases o.op <;> simp [isCall, ecl, aoClass]
              obtain ⟨T, H, vv, q1, q2, q3, q4, q5⟩ := runD_seq hr1 (fun x hx => hob x (List.mem_cons_of_mem _ hx)) hc.2
              exact ⟨T, H, vv, q1, q2, q3, q4, fun i x hx => (q5 i x hx).mono (fun _ h => h) (fun _ h => List.mem_cons_of_mem _ h)⟩
          · rw [if_pos (by simpa using hb)] at hr
            simp at hr
        | pan v => simp [ha] at hr
        | rcv => simp [ha] at hr
        | dfr f as => simp [ha] at hr
        | yield l as => simp [ha] at hr
        | either => simp [ha] at hr
        | bad => simp [ha] at hr
end

/-! ### Which operations come ahead -/

theorem foldl_bits {α : Type} (p : α → Bool) (on : α → Nat) (g : α → Nat) : ∀ (l : List α) (s j : Nat), (l.foldl (fun s e => if p e then s ||| 2 ^ on e ||| g e else s) s).testBit j = true →
    s.testBit j = true ∨ ∃ e ∈ l, p e = true ∧ (on e = j ∨ (g e).testBit j = true)
  | [], s, j, h => Or.inl h
  | e :: l, s, j, h => by
    rw [List.foldl_cons] at h
    rcases foldl_bits p on g l _ j h with h1 | ⟨e', he, h1⟩
    · by_cases hp : p e = true
      · rw [if_pos hp] at h1
        simp only [Nat.testBit_or, Bool.or_eq_true] at h1
        rcases h1 with (h1 | h1) | h1
        · exact Or.inl h1
        · rw [Nat.testBit_two_pow] at h1
          exact Or.inr ⟨e, by simp, hp, Or.inl (by simpa using h1)⟩
        · exact Or.inr ⟨e, by simp, hp, Or.inr h1⟩
      · rw [if_neg hp] at h1
        exact Or.inl h1
    · exact Or.inr ⟨e', List.mem_cons_of_mem _ he, h1⟩

def bstep (acc : Array Nat) (o : Oper) : Array Nat := acc.push (o.after.foldl (fun s e => if Region.binds .any e then s ||| 2 ^ e.on ||| acc.getD e.on 0 else s) 0)

theorem bfold_spec (j : Nat) : ∀ (os : List Oper) (acc : Array Nat), acc.size ≤ (os.foldl bstep acc).size ∧ (∀ i, i < acc.size → (os.foldl bstep acc).getD i 0 = acc.getD i 0) ∧
    ∀ k o, os[k]? = some o → ((os.foldl bstep acc).getD (acc.size + k) 0).testBit j = true → ∃ e ∈ o.after.toList, Region.binds .any e = true ∧ (e.on = j ∨ (e.on < acc.size + k ∧ ((os.foldl bstep acc).getD e.on 0).testBit j = true))
  | [], acc => ⟨Nat.le_refl _, fun _ _ => rfl, by simp⟩
  | o :: os, acc => by
    obtain ⟨h1, h2, h3⟩ := bfold_spec j os (bstep acc o)
    have hsz : (bstep acc o).size = acc.size + 1 := by simp [bstep]
    rw [List.foldl_cons]
    rw [hsz] at h1 h2 h3
    refine ⟨by omega, ?_, ?_⟩
    · intro i hi
      rw [h2 i (by omega)]
      simp only [bstep, Array.getD_eq_getD_getElem?]
      rw [Array.getElem?_push_lt hi]
      simp [hi]
    · intro k x hx hb
      cases k with
      | zero =>
        simp at hx
        subst hx
        rw [Nat.add_zero, h2 _ (by omega)] at hb
        have he : (bstep acc o).getD acc.size 0 = o.after.foldl (fun s e => if Region.binds .any e then s ||| 2 ^ e.on ||| acc.getD e.on 0 else s) 0 := by
          simp [bstep, Array.getD_eq_getD_getElem?]
        rw [he, ← Array.foldl_toList] at hb
        rcases foldl_bits (Region.binds .any) (·.on) (fun e => acc.getD e.on 0) _ _ _ hb with hb | ⟨e, he, hp, hb⟩
        · simp at hb
        · refine ⟨e, he, hp, hb.imp id fun hb => ?_⟩
          have hlt : e.on < acc.size := by
            rcases Nat.lt_or_ge e.on acc.size with h4 | h4
            · exact h4
            · simp [Array.getD_eq_getD_getElem?, Array.getElem?_eq_none h4] at hb
          refine ⟨by omega, ?_⟩
          rw [h2 _ (by omega)]
          simp only [bstep, Array.getD_eq_getD_getElem?]
          rw [Array.getElem?_push_lt hlt]
          simpa [Array.getD_eq_getD_getElem?, hlt] using hb
      | succ k =>
        have := h3 k x (by simpa using hx) (by rw [show acc.size + 1 + k = acc.size + (k + 1) by omega]; exact hb)
        obtain ⟨e, he, hp, hb⟩ := this
        exact ⟨e, he, hp, hb.imp id fun hb => ⟨by omega, hb.2⟩⟩

theorem before_spec {ops : Array Oper} {i j : Nat} {o : Oper} (ho : ops[i]? = some o) (hb : ((Region.before ops).getD i 0).testBit j = true) :
    ∃ e ∈ o.after.toList, Region.binds .any e = true ∧ (e.on = j ∨ (e.on < i ∧ ((Region.before ops).getD e.on 0).testBit j = true)) := by
  have hbe : Region.before ops = ops.toList.foldl bstep #[] := by
    rw [Array.foldl_toList]; rfl
  obtain ⟨_, _, h3⟩ := bfold_spec j ops.toList #[]
  rw [hbe] at hb ⊢
  have := h3 i o (by simpa using ho) (by simpa using hb)
  simpa using this
end Go.AM
/- The abstract machine: regions whose order is open: whatever the order. -/
namespace Go.AM
open Go.RowKit

theorem setD_get {t : List AV} {d : Option Nat} {v : AV} (s : Nat) : (setD t d v).getD s .undef = if d = some s ∧ s < t.length then v else t.getD s .undef := by
  cases d with
  | none => simp [setD]
  | some d =>
    simp only [setD, List.getD_eq_getElem?_getD, List.getElem?_set, Option.some.injEq]
    by_cases h : d = s
    · subst h
      by_cases h2 : d < t.length
      · simp [h2]
      · simp [h2]
    · simp [h]
theorem setD_len {t : List AV} {d : Option Nat} {v : AV} : (setD t d v).length = t.length := by cases d <;> simp [setD]

theorem ext_getD {t t' : List AV} (hl : t.length = t'.length) (h : ∀ s, t.getD s .undef = t'.getD s .undef) : t = t' := by
  refine List.ext_getElem hl fun i h1 h2 => ?_
  have := h i
  rw [List.getD_eq_getElem?_getD, List.getD_eq_getElem?_getD, List.getElem?_eq_getElem h1, List.getElem?_eq_getElem h2] at this
  simpa using this

/-- How many of the first n are not listed. -/
def left (n : Nat) (listed : Array Bool) : Nat := ((List.range n).filter fun i => !listed.getD i true).length

theorem left_set {n : Nat} {listed : Array Bool} {i : Nat} (hi : i < n) (hn : listed.getD i true = false) : left n (listed.setIfInBounds i true) + 1 = left n listed := by
  have hsz : i < listed.size := by
    rcases Nat.lt_or_ge i listed.size with h | h
    · exact h
    · simp [Array.getD_eq_getD_getElem?, Array.getElem?_eq_none h] at hn
  have h1 : ((List.range n).filter fun j => !(listed.setIfInBounds i true).getD j true) = ((List.range n).filter fun j => !listed.getD j true).erase i := by
    rw [List.Nodup.erase_eq_filter (List.Pairwise.filter _ List.nodup_range), List.filter_filter]
    congr 1
    funext j
    simp only [Array.getD_eq_getD_getElem?, Array.getElem?_setIfInBounds]
    by_cases hj : i = j
    · subst hj; simp [hsz]
    · simp [hj, Ne.symm hj, bne_iff_ne]
  have hm : i ∈ (List.range n).filter fun j => !listed.getD j true := by simp only [List.mem_filter, List.mem_range, hn, Bool.not_false, and_true]; exact hi
  unfold left
  rw [h1, List.length_erase_of_mem hm]
  have := List.length_pos_of_mem hm
  omega

theorem mem_left {n i : Nat} {listed : Array Bool} (hi : i < n) (hn : listed.getD i true = false) : i ∈ (List.range n).filter fun j => !listed.getD j true := by
  simp only [List.mem_filter, List.mem_range, hn, Bool.not_false, and_true]; exact hi
theorem left_zero {n : Nat} {listed : Array Bool} (h : left n listed = 0) : ∀ i, i < n → listed.getD i true = true := by
  intro i hi
  have h1 := List.length_eq_zero_iff.1 h
  cases hb : listed.getD i true with
  | true => rfl
  | false =>
    have := mem_left hi hb
    rw [h1] at this
    simp at this

section
variable {P : Program} {Γ : Nat → Option AV}

/-- What is known of a region: its operations; what they did in the text's order. -/
structure Reg (P : Program) (Γ : Nat → Option AV) (ops : Array Oper) (gs : List AG) (obls : List Obl) (h0 : List Ob) (hs : List (List Ob)) (T : Nat → List AV) (H : Nat → List Ob) (v : Nat → AV) : Prop where
  len : gs.length = ops.size
  ok : orderOk ops gs = true
  ed : edgesOk ops = true
  H0 : H 0 = h0
  k : ∀ i x, gs[i]? = some x → Known P Γ obls hs (h0 :: hs) ((looseL ops gs).getD i true) x (T i) (T (i + 1)) (H i) (H (i + 1)) (v i)

variable {ops : Array Oper} {gs : List AG} {obls : List Obl} {h0 : List Ob} {hs : List (List Ob)} {T : Nat → List AV} {H : Nat → List Ob} {v : Nat → AV}

def anc (ops : Array Oper) (j i : Nat) : Bool := ((Region.before ops).getD i 0).testBit j

/-- An operation's kind in its region. -/
def kdOp (ops : Array Oper) (gs : List AG) (i : Nat) (x : AG) : Nat := ecl ((looseL ops gs).getD i true) x.op
theorem kdOp_eq {i : Nat} {x : AG} (hx : gs[i]? = some x) : kdOp ops gs i x = ecl (quietAt (Region.before ops) gs i) x.op := by
  have hl : (looseL ops gs).getD i true = looseAt (Region.before ops) gs i := by simp [looseL, List.getD_eq_getElem?_getD, lt_of_get hx]
  unfold kdOp
  rw [hl]
  cases hc : isCall x.op with
  | false => rw [ecl_no hc, ecl_no hc]
  | true => simp [looseAt, hx, hc]
theorem Reg.pair (R : Reg P Γ ops gs obls h0 hs T H v) {i j : Nat} {gi gj : AG} (hi : gs[i]? = some gi) (hj : gs[j]? = some gj) (hji : j < i) : pairOk (quietAt (Region.before ops) gs i) (quietAt (Region.before ops) gs j) gi gj (anc ops j i) = true := by
  have h1 := R.ok
  simp only [orderOk, List.all_eq_true, List.mem_range] at h1
  have h2 := h1 i (lt_of_get hi)
  rw [hi] at h2
  simp only [Bool.and_eq_true, List.all_eq_true, List.mem_range] at h2
  have h3 := h2.2 j hji
  rw [hj] at h3
  exact h3

/-- Listed: with whatever comes ahead. -/
def Closed (ops : Array Oper) (listed : Array Bool) : Prop := ∀ i o, ops[i]? = some o → listed.getD i true = true → ∀ e ∈ o.after.toList, Region.binds .any e = true → listed.getD e.on false = true

theorem listed_anc {listed : Array Bool} (hc : Closed ops listed) : ∀ (n i j : Nat), i ≤ n → (∃ o, ops[i]? = some o ∧ ∀ e ∈ o.after.toList, Region.binds .any e = true → listed.getD e.on false = true) → anc ops j i = true → listed.getD j false = true := by
  intro n
  induction n with
  | zero =>
    intro i j hi ⟨o, ho, hl⟩ ha
    obtain ⟨e, he, hp, hb⟩ := before_spec ho ha
    rcases hb with rfl | ⟨hlt, _⟩
    · exact hl e he hp
    · omega
  | succ n ih =>
    intro i j hi ⟨o, ho, hl⟩ ha
    obtain ⟨e, he, hp, hb⟩ := before_spec ho ha
    rcases hb with rfl | ⟨hlt, hb⟩
    · exact hl e he hp
    · have hle := hl e he hp
      have hon : e.on < ops.size := by
        have := lt_of_get (l := ops.toList) (i := i) (a := o) (by simpa using ho)
        simp at this
        omega
      obtain ⟨o2, ho2⟩ : ∃ o2, ops[e.on]? = some o2 := ⟨_, Array.getElem?_eq_getElem hon⟩
      refine ih e.on j (by omega) ⟨o2, ho2, ?_⟩ hb
      refine hc e.on o2 ho2 ?_
      rw [Array.getD_eq_getD_getElem?] at hle ⊢
      cases hq : listed[e.on]? with
      | none => rfl
      | some b => rw [hq] at hle; simpa using hle

/-- Slots in the text's order. -/
theorem Reg.slots (R : Reg P Γ ops gs obls h0 hs T H v) : ∀ i, i ≤ gs.length → (T i).length = (T 0).length ∧
    (∀ j x s, j < i → gs[j]? = some x → x.dst = some s → s < (T 0).length → (T i).getD s .undef = v j) ∧
    (∀ s, (∀ j x, j < i → gs[j]? = some x → x.dst ≠ some s) → (T i).getD s .undef = (T 0).getD s .undef)
  | 0, _ => ⟨rfl, fun _ _ _ h => by omega, fun _ _ => rfl⟩
  | i + 1, hi => by
    obtain ⟨h1, h2, h3⟩ := R.slots i (by omega)
    obtain ⟨x, hx⟩ : ∃ x, gs[i]? = some x := ⟨_, List.getElem?_eq_getElem (by omega)⟩
    have hT := (R.k i x hx).1
    refine ⟨by rw [hT, setD_len, h1], ?_, ?_⟩
    · intro j y s hj hy hd hs
      rw [hT, setD_get]
      by_cases hji : j = i
      · subst hji
        rw [hx] at hy
        cases hy
        rw [if_pos ⟨hd, by omega⟩]
      · have hp := R.pair hx hy (by omega)
        simp only [pairOk, Bool.and_eq_true, Bool.or_eq_true] at hp
        have hne : x.dst ≠ some s := by
          intro hxs
          rcases hp.1 with h4 | h4
          · rw [hxs] at h4; simp at h4
          · rw [hxs, hd] at h4; simp at h4
        rw [if_neg (fun h => hne h.1)]
        exact h2 j y s (by omega) hy hd hs
    · intro s hn
      rw [hT, setD_get, if_neg (fun h => hn i x (by omega) hx h.1)]
      exact h3 s fun j y hj => hn j y (by omega)

theorem Reg.heap_same (R : Reg P Γ ops gs obls h0 hs T H v) {a : Nat} : ∀ n, a + n ≤ gs.length → (∀ j x, a ≤ j → j < a + n → gs[j]? = some x → kdOp ops gs j x ≠ 2) → H (a + n) = H a
  | 0, _, _ => rfl
  | n + 1, hl, hn => by
    obtain ⟨x, hx⟩ : ∃ x, gs[a + n]? = some x := ⟨_, List.getElem?_eq_getElem (by omega)⟩
    rw [show a + (n + 1) = a + n + 1 by omega, (R.k _ x hx).2.2.1 (hn _ x (by omega) (by omega) hx)]
    exact R.heap_same n (by omega) fun j y h1 h2 => hn j y h1 (by omega)

theorem Reg.heap_in (R : Reg P Γ ops gs obls h0 hs T H v) : ∀ n, n ≤ gs.length → H n ∈ h0 :: hs
  | 0, _ => by rw [R.H0]; simp
  | n + 1, hl => by
    obtain ⟨x, hx⟩ : ∃ x, gs[n]? = some x := ⟨_, List.getElem?_eq_getElem (by omega)⟩
    rcases (R.k n x hx).2.2.2.1 with h | h
    · exact List.mem_cons_of_mem _ h
    · rw [h]; exact R.heap_in n (by omega)

/-- How far a region has come, in whatever order. -/
structure Far (ops : Array Oper) (gs : List AG) (T : Nat → List AV) (H : Nat → List Ob) (v : Nat → AV) (listed : Array Bool) (tD : List AV) (hD : List Ob) : Prop where
  sz : listed.size = ops.size
  cl : Closed ops listed
  tl : tD.length = (T 0).length
  w : ∀ j x s, gs[j]? = some x → listed.getD j true = true → x.dst = some s → s < (T 0).length → tD.getD s .undef = v j
  n : ∀ s, (∀ j x, gs[j]? = some x → listed.getD j true = true → x.dst ≠ some s) → tD.getD s .undef = (T 0).getD s .undef
  h : ∃ c, c ≤ gs.length ∧ hD = H c ∧ (∀ j x, j < c → gs[j]? = some x → kdOp ops gs j x = 2 → listed.getD j true = true) ∧ (∀ j x, c ≤ j → gs[j]? = some x → kdOp ops gs j x = 2 → listed.getD j true = false)

theorem getD_lt {listed : Array Bool} {i : Nat} (hi : i < listed.size) (d d' : Bool) : listed.getD i d = listed.getD i d' := by
  simp [Array.getD_eq_getD_getElem?, hi]

theorem order_step (R : Reg P Γ ops gs obls h0 hs T H v) {listed : Array Bool} {tD : List AV} {hD : List Ob} (F : Far ops gs T H v listed tD hD) {i : Nat} {op : Oper} {x : AG} (hi : i < ops.size) (hn : listed.getD i true = false) (ho : ops[i]? = some op)
    (hr : ∀ e ∈ op.after.toList, Region.binds .any e = true → listed.getD e.on false = true) (hx : gs[i]? = some x) :
    ∃ hD', Far ops gs T H v (listed.setIfInBounds i true) (setD tD x.dst (v i)) hD' ∧ OneStep P Γ obls x tD hD (v i) hD' := by
  have hil : i < gs.length := lt_of_get hx
  have hk := R.k i x hx
  have hbefore : ∀ j, anc ops j i = true → listed.getD j false = true := fun j => listed_anc F.cl i i j (Nat.le_refl _) ⟨op, ho, hr⟩
  have htrue : ∀ j, listed.getD j false = true → listed.getD j true = true := by
    intro j hj
    rw [Array.getD_eq_getD_getElem?] at hj ⊢
    cases hq : listed[j]? with
    | none => rfl
    | some b => rw [hq] at hj; simpa using hj
  have hfalse : ∀ j, listed.getD j true = false → listed.getD j false = true → False := fun j h1 h2 => by
    have := htrue j h2
    rw [h1] at this
    cases this
  have hbehind : ∀ j, j < ops.size → anc ops i j = true → listed.getD j true = false := by
    intro j hj ha
    cases hq : listed.getD j true with
    | false => rfl
    | true =>
      exfalso
      have ho2 : ops[j]? = some ops[j] := Array.getElem?_eq_getElem hj
      exact hfalse i hn (listed_anc F.cl j j i (Nat.le_refl _) ⟨_, ho2, F.cl j _ ho2 hq⟩ ha)
  have hlen := R.len
  obtain ⟨hTl, hTw, hTn⟩ := R.slots i (by omega)
  -- what is looked at
  have hslots : ∀ s ∈ agSlots x, tD.getD s .undef = (T i).getD s .undef := by
    intro s hs
    by_cases hsl : s < (T 0).length
    · by_cases hw : ∃ (j : Nat) (y : AG), gs[j]? = some y ∧ y.dst = some s
      · obtain ⟨j, y, hy, hyd⟩ := hw
        have hjl : j < gs.length := lt_of_get hy
        -- no other writes it
        have huniq : ∀ j2 y2, gs[j2]? = some y2 → y2.dst = some s → j2 = j := by
          intro j2 y2 hy2 hd2
          rcases Nat.lt_trichotomy j2 j with h1 | h1 | h1
          · have hp := R.pair hy hy2 h1
            simp only [pairOk, Bool.and_eq_true, Bool.or_eq_true] at hp
            rcases hp.1 with h4 | h4
            · rw [hyd] at h4; simp at h4
            · rw [hyd, hd2] at h4; simp at h4
          · exact h1
          · have hp := R.pair hy2 hy h1
            simp only [pairOk, Bool.and_eq_true, Bool.or_eq_true] at hp
            rcases hp.1 with h4 | h4
            · rw [hd2] at h4; simp at h4
            · rw [hyd, hd2] at h4; simp at h4
        rcases Nat.lt_trichotomy j i with h1 | h1 | h1
        · have hp := R.pair hx hy h1
          simp only [pairOk, Bool.and_eq_true, Bool.or_eq_true] at hp
          have ha : anc ops j i = true := by
            rcases hp.2 with h4 | h4
            · exact h4
            · rw [hyd] at h4
              simp only [Bool.not_eq_true', List.contains_eq_mem, decide_eq_false_iff_not] at h4
              exact absurd hs h4.1.1
          rw [F.w j y s hy (htrue j (hbefore j ha)) hyd hsl, hTw j y s h1 hy hyd hsl]
        · subst h1
          rw [hTn s (fun j2 y2 hj2 hy2 hd2 => by have := huniq j2 y2 hy2 hd2; omega), F.n s]
          intro j2 y2 hy2 hl2 hd2
          have := huniq j2 y2 hy2 hd2
          subst this
          rw [hn] at hl2
          cases hl2
        · have hp := R.pair hy hx h1
          simp only [pairOk, Bool.and_eq_true, Bool.or_eq_true] at hp
          have ha : anc ops i j = true := by
            rcases hp.2 with h4 | h4
            · exact h4
            · rw [hyd] at h4
              simp only [Bool.not_eq_true', List.contains_eq_mem, decide_eq_false_iff_not] at h4
              exact absurd hs h4.1.2
          rw [hTn s (fun j2 y2 hj2 hy2 hd2 => by have := huniq j2 y2 hy2 hd2; omega), F.n s]
          intro j2 y2 hy2 hl2 hd2
          have := huniq j2 y2 hy2 hd2
          subst this
          rw [hbehind j2 (by omega) ha] at hl2
          cases hl2
      · have hnw : ∀ (j : Nat) (y : AG), gs[j]? = some y → y.dst ≠ some s := fun j y hy hd => hw ⟨j, y, hy, hd⟩
        rw [hTn s fun j y _ hy => hnw j y hy, F.n s fun j y hy _ => hnw j y hy]
    · rw [List.getD_eq_getElem?_getD, List.getD_eq_getElem?_getD, List.getElem?_eq_none (by rw [F.tl]; omega), List.getElem?_eq_none (by omega)]
  have hwant : wantedA tD x.guard = wantedA (T i) x.guard := wanted_congr fun s hs => hslots s (by simp only [agSlots, List.mem_append]; exact Or.inl hs)
  have haop : ∀ h, aop P Γ tD h x.op = aop P Γ (T i) h x.op := fun h => aop_congr fun s hs => hslots s (by simp only [agSlots, List.mem_append]; exact Or.inr hs)
  -- who writes memory: one after the other
  have hcls : ∀ j y, j < i → gs[j]? = some y → kdOp ops gs j y = 2 → kdOp ops gs i x = 2 → anc ops j i = true := by
    intro j y h1 hy hc1 hc2
    have hp := R.pair hx hy h1
    simp only [pairOk, Bool.and_eq_true, Bool.or_eq_true] at hp
    rcases hp.2 with h4 | h4
    · exact h4
    · have h5 := h4.2
      rw [← kdOp_eq hx, ← kdOp_eq hy, hc1, hc2] at h5
      simp at h5
  have hcls2 : ∀ j y, i < j → gs[j]? = some y → kdOp ops gs j y = 2 → kdOp ops gs i x = 2 → anc ops i j = true := by
    intro j y h1 hy hc1 hc2
    have hp := R.pair hy hx h1
    simp only [pairOk, Bool.and_eq_true, Bool.or_eq_true] at hp
    rcases hp.2 with h4 | h4
    · exact h4
    · have h5 := h4.2
      rw [← kdOp_eq hx, ← kdOp_eq hy, hc1, hc2] at h5
      simp at h5
  obtain ⟨c, hcl, hDc, hc1, hc2⟩ := F.h
  have hset : ∀ j, (listed.setIfInBounds i true).getD j true = if j = i then true else listed.getD j true := by
    intro j
    simp only [Array.getD_eq_getD_getElem?, Array.getElem?_setIfInBounds]
    by_cases hj : j = i
    · subst hj; simp; split <;> simp
    · rw [if_neg (fun e => hj e.symm), if_neg hj]
  have hsetf : ∀ j, listed.getD j false = true → (listed.setIfInBounds i true).getD j false = true := by
    intro j h
    simp only [Array.getD_eq_getD_getElem?, Array.getElem?_setIfInBounds] at h ⊢
    by_cases hj : i = j
    · subst hj
      by_cases h2 : i < listed.size
      · simp [h2]
      · rw [Array.getElem?_eq_none (by omega)] at h; simp at h
    · rw [if_neg hj]; exact h
  have hfar : ∀ hD', (∃ c, c ≤ gs.length ∧ hD' = H c ∧ (∀ j x, j < c → gs[j]? = some x → kdOp ops gs j x = 2 → (listed.setIfInBounds i true).getD j true = true) ∧ (∀ j x, c ≤ j → gs[j]? = some x → kdOp ops gs j x = 2 → (listed.setIfInBounds i true).getD j true = false)) →
      Far ops gs T H v (listed.setIfInBounds i true) (setD tD x.dst (v i)) hD' := by
    intro hD' hh
    refine ⟨by simp [F.sz], ?_, by rw [setD_len, F.tl], ?_, ?_, hh⟩
    · intro j o hj hl e he hp
      rw [hset] at hl
      by_cases hji : j = i
      · subst hji
        rw [ho] at hj
        cases hj
        exact hsetf _ (hr e he hp)
      · rw [if_neg hji] at hl
        exact hsetf _ (F.cl j o hj hl e he hp)
    · intro j y s hy hl hd hs
      rw [hset] at hl
      rw [setD_get]
      by_cases hji : j = i
      · subst hji
        rw [hx] at hy
        cases hy
        rw [if_pos ⟨hd, by rw [F.tl]; exact hs⟩]
      · rw [if_neg hji] at hl
        have hne : x.dst ≠ some s := by
          intro hxs
          rcases Nat.lt_or_gt_of_ne hji with h1 | h1
          · have hp := R.pair hx hy h1
            simp only [pairOk, Bool.and_eq_true, Bool.or_eq_true] at hp
            rcases hp.1 with h4 | h4
            · rw [hxs] at h4; simp at h4
            · rw [hxs, hd] at h4; simp at h4
          · have hp := R.pair hy hx h1
            simp only [pairOk, Bool.and_eq_true, Bool.or_eq_true] at hp
            rcases hp.1 with h4 | h4
            · rw [hd] at h4; simp at h4
            · rw [hxs, hd] at h4; simp at h4
        rw [if_neg (fun h => hne h.1)]
        exact F.w j y s hy hl hd hs
    · intro s hns
      rw [setD_get, if_neg (fun h => hns i x hx (by rw [hset, if_pos rfl]) h.1)]
      refine F.n s fun j y hy hl => hns j y hy ?_
      rw [hset]; split
      · rfl
      · exact hl
  by_cases h2 : kdOp ops gs i x = 2
  · -- it may write
    have hci : c ≤ i := by
      rcases Nat.lt_or_ge i c with h1 | h1
      · have := hc1 i x h1 hx h2
        rw [hn] at this
        cases this
      · exact h1
    have hH : H i = H c := by
      have := R.heap_same (a := c) (i - c) (by omega) (by
        intro j y h3 h4 hy hc3
        have h5 := htrue j (hbefore j (hcls j y (by omega) hy hc3 h2))
        rw [hc2 j y h3 hy hc3] at h5
        cases h5)
      rwa [show c + (i - c) = i by omega] at this
    refine ⟨H (i + 1), hfar _ ⟨i + 1, by omega, rfl, ?_, ?_⟩, ?_⟩
    · intro j y h3 hy hc3
      rw [hset]
      by_cases hji : j = i
      · rw [if_pos hji]
      · rw [if_neg hji]; exact htrue j (hbefore j (hcls j y (by omega) hy hc3 h2))
    · intro j y h3 hy hc3
      rw [hset, if_neg (by omega)]
      have hjl := lt_of_get hy
      exact hbehind j (by omega) (hcls2 j y (by omega) hy hc3 h2)
    · have hone := hk.2.1
      rw [hDc, ← hH]
      unfold OneStep at hone ⊢
      rw [hwant, haop]
      exact hone
  · -- it leaves memory as it is
    refine ⟨hD, hfar _ ⟨c, hcl, hDc, ?_, ?_⟩, ?_⟩
    · intro j y h3 hy hc3
      rw [hset]; split
      · rfl
      · exact hc1 j y h3 hy hc3
    · intro j y h3 hy hc3
      rw [hset, if_neg]
      · exact hc2 j y h3 hy hc3
      · rintro rfl
        rw [hx] at hy
        cases hy
        exact h2 hc3
    · have hHi := hk.2.2.1 h2
      have hone := hk.2.1
      rw [hHi] at hone
      unfold OneStep at hone ⊢
      rw [hwant, haop]
      rcases hone with ⟨h3, h4, _⟩ | ⟨h3, h4⟩
      · exact Or.inl ⟨h3, h4, rfl⟩
      · refine Or.inr ⟨h3, ?_⟩
        cases hic : isCall x.op with
        | true =>
        have hq : (looseL ops gs).getD i true = true := by
          cases hq : (looseL ops gs).getD i true with
          | true => rfl
          | false =>
            exfalso
            apply h2
            unfold kdOp
            rw [hq]
            revert hic
            cases x.op <;> simp [isCall, ecl, aoClass]
        have h1 : ecl ((looseL ops gs).getD i true) x.op = 1 := by rw [hq]; simp [ecl, hic]
        rcases hk.2.2.2.2 hq h1 h3 hD (by rw [hDc]; exact R.heap_in c hcl) with h5 | ⟨f, as, h5, h6, h7⟩
        · exact Or.inl h5
        · exact Or.inr (Or.inr ⟨f, as, h5, h6, h7⟩)
        | false =>
        have h2' : aoClass x.op ≠ 2 := by unfold kdOp at h2; rwa [ecl_no hic] at h2
        have hcl3 : aoClass x.op = 0 ∨ aoClass x.op = 1 := by
          have h5 := R.ok
          simp only [orderOk, List.all_eq_true, List.mem_range] at h5
          have h6 := h5 i hil
          rw [hx] at h6
          simp only [Bool.and_eq_true, bne_iff_ne, ne_eq] at h6
          have h7 := h6.1
          revert h2' h7
          cases x.op <;> simp [aoClass]
        rcases hcl3 with h0 | h1
        · have hp := aop_plain (P := P) (Γ := Γ) (t := T i) h0 (H i) hD
          rcases h4 with h4 | ⟨h4, h5⟩ | ⟨f, as, h4, h5, h6⟩
          · rw [h4] at hp; exact Or.inl hp
          · rw [h4] at hp; exact Or.inr (Or.inl ⟨hp, h5⟩)
          · exact absurd h4 ((aop_still (v := .undef) (h' := []) h2').2.2 _ _)
        · rcases h4 with h4 | ⟨h4, h5⟩ | ⟨f, as, h4, h5, h6⟩
          · by_cases hl : (looseL ops gs).getD i true = true
            · rcases hk.2.2.2.2 hl (by rw [ecl_no hic]; exact h1) h3 hD (by rw [hDc]; exact R.heap_in c hcl) with h5 | ⟨f, as, h5, h6, h7⟩
              · exact Or.inl h5
              · exact Or.inr (Or.inr ⟨f, as, h5, h6, h7⟩)
            · have hll : looseAt (Region.before ops) gs i = false := by
                have : (looseL ops gs).getD i true = looseAt (Region.before ops) gs i := by
                  simp [looseL, List.getD_eq_getElem?_getD, hil]
                rw [this] at hl
                simpa using hl
              simp only [looseAt, hx, hic, Bool.false_eq_true, if_false, h1, beq_self_eq_true, Bool.true_and, List.any_eq_false, List.mem_range] at hll
              have hcmp : ∀ j y, gs[j]? = some y → kdOp ops gs j y = 2 → (if j < i then anc ops j i else anc ops i j) = true := by
                intro j y hy hc3
                have h5 := hll j (lt_of_get hy)
                rw [hy] at h5
                rw [kdOp_eq hy] at hc3
                simp only [hc3, beq_self_eq_true, Bool.true_and, Bool.not_eq_true', Bool.not_eq_false] at h5
                exact h5
              have hH : hD = H i := by
                rw [hDc]
                rcases Nat.le_total c i with h5 | h5
                · have := R.heap_same (a := c) (i - c) (by omega) (by
                    intro j y h6 h7 hy hc3
                    have h8 := hcmp j y hy hc3
                    rw [if_pos (by omega)] at h8
                    have h9 := htrue j (hbefore j h8)
                    rw [hc2 j y h6 hy hc3] at h9
                    cases h9)
                  rw [show c + (i - c) = i by omega] at this
                  exact this.symm
                · have := R.heap_same (a := i) (c - i) (by omega) (by
                    intro j y h6 h7 hy hc3
                    have h8 := hcmp j y hy hc3
                    rw [if_neg (by omega)] at h8
                    have hjl := lt_of_get hy
                    have h9 := hbehind j (by omega) h8
                    rw [hc1 j y (by omega) hy hc3] at h9
                    cases h9)
                  rw [show i + (c - i) = c by omega] at this
                  exact this
              left
              rw [hH]
              exact h4
          · exact absurd h4 (aop_reads (v := .undef) h1).2.1
          · exact absurd h4 ((aop_reads (v := .undef) (h' := []) h1).2.2 _ _)

variable {Rl : Cfg → Cfg → Prop}

theorem rl_step (htr : ∀ a b c, Rl a b → Rl b c → Rl a c) (hst : ∀ c, Rl c (stepA P Γ c)) (hob : ∀ o ∈ obls, ∀ up, Rl (.cl o.f o.args up o.h) (.back up o.v o.h')) {f : Fr} (hmd : f.md = .run) {up : List Fr} {k : List It} {x : AG} {os : List AG} {t : List AV} {h h' : List Ob} {u : AV}
    (ho : OneStep P Γ obls x t h u h') : Rl (.fr { f with its := .ops (x :: os) :: k, t := t } up h) (.fr { f with its := .ops os :: k, t := setD t x.dst u } up h') := by
  obtain ⟨fmd, ffn, fits, ft, fds, fk, fb⟩ := f
  simp only at hmd
  subst hmd
  have h0 := hst (.fr { md := .run, fn := ffn, its := .ops (x :: os) :: k, t := t, ds := fds, kind := fk, base := fb } up h)
  simp only [stepA, stepRun] at h0
  rcases ho with ⟨h1, rfl, rfl⟩ | ⟨h1, h2 | ⟨h2, rfl⟩ | ⟨c, as, h2, h3, h4⟩⟩
  · rw [h1] at h0
    exact h0
  · rw [h1] at h0
    simp only [h2, goR] at h0
    exact h0
  · rw [h1] at h0
    simp only [h2, goR] at h0
    exact h0
  · rw [h1] at h0
    simp only [h2, goR, h3, if_true] at h0
    refine htr _ _ _ h0 (htr _ _ _ (hob _ h4 _) ?_)
    have h5 := hst (.back ({ md := .run, fn := ffn, its := .ops (x :: os) :: k, t := t, ds := fds, kind := fk, base := fb } :: up) u h')
    simp only [stepA, Fr.finish] at h5
    exact h5

theorem order_go (R : Reg P Γ ops gs obls h0 hs T H v) (htr : ∀ a b c, Rl a b → Rl b c → Rl a c) (hst : ∀ c, Rl c (stepA P Γ c)) (hob : ∀ o ∈ obls, ∀ up, Rl (.cl o.f o.args up o.h) (.back up o.v o.h')) {f : Fr} (hmd : f.md = .run) {up : List Fr} {k : List It} :
    ∀ (fuel n : Nat) (listed : Array Bool) (tD : List AV) (hD : List Ob), Far ops gs T H v listed tD hD → left ops.size listed = fuel →
      Rl (.fr { f with its := .ops ((Region.linearise.go .any ops fuel n listed []).map fun i => gs.getD i default) :: k, t := tD } up hD) (.fr { f with its := k, t := T gs.length } up (H gs.length)) := by
  intro fuel
  induction fuel with
  | zero =>
    intro n listed tD hD F hl
    have hall := left_zero hl
    have hlen := R.len
    obtain ⟨hTl, hTw, hTn⟩ := R.slots gs.length (Nat.le_refl _)
    have ht : tD = T gs.length := by
      refine ext_getD (by rw [F.tl, hTl]) fun s => ?_
      by_cases hw : ∃ (j : Nat) (y : AG), gs[j]? = some y ∧ y.dst = some s
      · obtain ⟨j, y, hy, hd⟩ := hw
        have hjl := lt_of_get hy
        by_cases hsl : s < (T 0).length
        · rw [F.w j y s hy (hall j (by omega)) hd hsl, hTw j y s hjl hy hd hsl]
        · rw [List.getD_eq_getElem?_getD, List.getD_eq_getElem?_getD, List.getElem?_eq_none (by rw [F.tl]; omega), List.getElem?_eq_none (by omega)]
      · have hnw : ∀ (j : Nat) (y : AG), gs[j]? = some y → y.dst ≠ some s := fun j y hy hd => hw ⟨j, y, hy, hd⟩
        rw [hTn s fun j y _ hy => hnw j y hy, F.n s fun j y hy _ => hnw j y hy]
    obtain ⟨c, hcl, hDc, hc1, hc2⟩ := F.h
    have hh : hD = H gs.length := by
      rw [hDc]
      have := R.heap_same (a := c) (gs.length - c) (by omega) (by
        intro j y h3 h4 hy hc3
        have h5 := hc2 j y h3 hy hc3
        rw [hall j (by omega)] at h5
        cases h5)
      rw [show c + (gs.length - c) = gs.length by omega] at this
      exact this.symm
    subst ht hh
    obtain ⟨fmd, ffn, fits, ft, fds, fk, fb⟩ := f
    simp only at hmd
    subst hmd
    have h0 := hst (.fr { md := .run, fn := ffn, its := .ops [] :: k, t := T gs.length, ds := fds, kind := fk, base := fb } up (H gs.length))
    simp only [stepA, stepRun] at h0
    simp only [Region.linearise.go, List.reverse_nil, List.map_nil]
    exact h0
  | succ fuel ih =>
    intro n listed tD hD F hl
    have hlen := R.len
    have hne : 0 < ((List.range ops.size).filter fun i => !listed.getD i true && ((ops[i]?).map (·.after.all fun e => !Region.binds .any e || listed.getD e.on false)).getD false).length := by
      -- the first that is not listed
      have hex : ∃ i, i < ops.size ∧ listed.getD i true = false := by
        unfold left at hl
        obtain ⟨i, hi⟩ := List.exists_mem_of_length_pos (l := (List.range ops.size).filter fun i => !listed.getD i true) (by omega)
        simp only [List.mem_filter, List.mem_range, Bool.not_eq_true'] at hi
        exact ⟨i, hi⟩
      have hmin : ∀ m i, i ≤ m → i < ops.size → listed.getD i true = false → ∃ i, i < ops.size ∧ listed.getD i true = false ∧ ∀ j, j < i → listed.getD j true = true := by
        intro m
        induction m with
        | zero => intro i h1 h2 h3; exact ⟨i, h2, h3, fun j hj => by omega⟩
        | succ m ihm =>
          intro i h1 h2 h3
          by_cases h4 : ∃ j, j < i ∧ listed.getD j true = false
          · obtain ⟨j, h5, h6⟩ := h4
            exact ihm j (by omega) (by omega) h6
          · refine ⟨i, h2, h3, fun j hj => ?_⟩
            cases hq : listed.getD j true with
            | true => rfl
            | false => exact absurd ⟨j, hj, hq⟩ h4
      obtain ⟨i0, h1, h2⟩ := hex
      obtain ⟨i, h3, h4, h5⟩ := hmin i0 i0 (Nat.le_refl _) h1 h2
      refine List.length_pos_of_mem (a := i) ?_
      simp only [List.mem_filter, List.mem_range, h4, Bool.not_false, Bool.true_and, Array.getElem?_eq_getElem h3, Option.map_some, Option.getD_some]
      refine ⟨h3, ?_⟩
      rw [← Array.all_toList, List.all_eq_true]
      intro e he
      cases hb : Region.binds .any e with
      | false => rfl
      | true =>
        simp only [Bool.not_true, Bool.false_or]
        have hed := R.ed
        simp only [edgesOk, List.all_eq_true] at hed
        have h6 := hed (ops[i], i) (by rw [List.mem_zipIdx_iff_getElem?]; simp [h3])
        rw [← Array.all_toList, List.all_eq_true] at h6
        have h7 := h6 e he
        rw [hb] at h7
        simp only [Bool.not_true, Bool.false_or, decide_eq_true_eq] at h7
        rw [getD_lt (by rw [F.sz]; omega) false true]
        exact h5 _ h7
    simp only [Region.linearise.go]
    generalize hrs : ((List.range ops.size).filter fun i => !listed.getD i true && ((ops[i]?).map (·.after.all fun e => !Region.binds .any e || listed.getD e.on false)).getD false) = rs at hne ⊢
    have hlt : n % rs.length < rs.length := Nat.mod_lt _ hne
    rw [List.getElem?_eq_getElem hlt]
    generalize hri : rs[n % rs.length] = i
    have him : i ∈ rs := by rw [← hri]; exact List.getElem_mem hlt
    rw [← hrs] at him
    simp only [List.mem_filter, List.mem_range, Bool.and_eq_true, Bool.not_eq_true'] at him
    obtain ⟨h1, h2, h3⟩ := him
    rw [Array.getElem?_eq_getElem h1] at h3
    simp only [Option.map_some, Option.getD_some] at h3
    rw [← Array.all_toList, List.all_eq_true] at h3
    obtain ⟨x, hx⟩ : ∃ x, gs[i]? = some x := ⟨_, List.getElem?_eq_getElem (by omega)⟩
    obtain ⟨hD', F', hone⟩ := order_step R F h1 h2 (Array.getElem?_eq_getElem h1) (fun e he hb => by
      have := h3 e he
      rw [hb] at this
      simpa using this) hx
    simp only
    rw [linearise_go_acc, List.reverse_singleton, List.singleton_append, List.map_cons]
    rw [show gs.getD i default = x by rw [List.getD_eq_getElem?_getD, hx]; rfl]
    refine htr _ _ _ (rl_step htr hst hob hmd hone) (ih _ _ _ _ F' ?_)
    have := left_set h1 h2
    omega
end
end Go.AM
/- The abstract machine: what may be forgotten. -/
namespace Go.AM
open Go.RowKit

section
variable {P : Program} {Γ : Nat → Option AV} {N : Env} {g : G} {h : List Ob} {w : World}

theorem belM_spec {n : Nat} : ∀ {es : List (AV × AV)}, belM n es = true → belL n (es.map (·.1)) = true ∧ belL n (es.map (·.2)) = true
  | [], _ => ⟨rfl, rfl⟩
  | (a, b) :: es, h => by
    simp only [belM, Bool.and_eq_true] at h
    obtain ⟨h1, h2⟩ := belM_spec h.2
    simp only [List.map_cons, belL, Bool.and_eq_true]
    exact ⟨⟨h.1.1, h1⟩, ⟨h.1.2, h2⟩⟩

theorem belL_drop {n : Nat} : ∀ {es : List AV} (k : Nat), belL n es = true → belL n (es.drop k) = true
  | [], _, _ => by simp [belL]
  | a :: es, 0, h => by simpa using h
  | a :: es, k + 1, h => by
    simp only [belL, Bool.and_eq_true] at h
    simpa using belL_drop k h.2

theorem row_bel {n k : Nat} {es : List AV} {fl : Bool} (hfl : fl = true → okList es k = true) (hb : (fl || belL n es) = true) : belL n es = true := by
  cases fl with
  | true => exact okList_bel (hfl rfl)
  | false => simpa using hb

theorem OV_keep {n : Nat} {g' : G} {h' : List Ob} (x : Ext n g h g' h') {i : Nat} {o : Ob} (hρ : g'.ρ i = g.ρ i) (hb : belO n o = true) (ho : OV P g h w i o) : OV P g' h' w i o := by
  cases o with
  | gone => trivial
  | cells vs =>
    intro b sz st hb'
    rw [hρ] at hb'
    obtain ⟨c, E, fz, h1, h2, h3⟩ := ho b sz st hb'
    exact ⟨c, E, fz, h1, h2, VL_mono x (by simpa only [belO] using hb) h3⟩
  | row k E es gr fl sh =>
    simp only [OV] at ho ⊢
    obtain ⟨h1, h2, h3, h4, h5⟩ := ho
    refine ⟨h1, h2, h3, h4, ?_⟩
    rw [hρ]
    cases hr : g.ρ i with
    | none => rw [hr] at h5; exact h5
    | some y =>
      obtain ⟨b, sz, st⟩ := y
      rw [hr] at h5
      simp only at h5 ⊢
      obtain ⟨h6, c, E', fz, vs, h7, h8, h9, h10, h11⟩ := h5
      exact ⟨h6, c, E', fz, vs, h7, h8, h9, VE_mono x (belL_drop _ (row_bel h3 (by simpa only [belO] using hb))) h10, h11⟩
  | map es fl =>
    obtain ⟨h1, h3⟩ := ho
    refine ⟨h1, fun b sz st hb' => ?_⟩
    rw [hρ] at hb'
    obtain ⟨ents, ck, h4, h5, h6⟩ := h3 b sz st hb'
    obtain ⟨q1, q2⟩ := belM_spec (by simpa only [belO] using hb)
    exact ⟨ents, ck, h4, VL_mono x q1 h5, VL_mono x q2 h6⟩
  | siter s p =>
    intro b sz st hb'
    rw [hρ] at hb'
    exact ho b sz st hb'
  | loop st j fn t ps a b =>
    intro bk sz sta hb'
    rw [hρ] at hb'
    obtain ⟨L, h1, h2, h3, h4, h5, h6⟩ := ho bk sz sta hb'
    exact ⟨L, h1, h2, h3, h4, VL_mono x (by simpa only [belO] using hb) h5, h6⟩
  | dfr live =>
    intro b sz st hb'
    rw [hρ] at hb'
    exact ho b sz st hb'

theorem belH_get {n : Nat} : ∀ {h : List Ob} {i : Nat} {o : Ob}, belH n h = true → h[i]? = some o → belO n o = true
  | [], _, _, _, hi => by simp at hi
  | a :: h, 0, o, hb, hi => by
    simp only [belH, Bool.and_eq_true] at hb
    simp at hi; subst hi; exact hb.1
  | a :: h, i + 1, o, hb, hi => by
    simp only [belH, Bool.and_eq_true] at hb
    exact belH_get hb.2 (by simpa using hi)

/-- Objects at the end that nothing speaks of go. -/
theorem Inv.drop (H : Inv P Γ N g h w) {n : Nat} (hb : belH n (h.take n) = true) :
    Inv P Γ N { g with ρ := fun i => if i < n then g.ρ i else none } (h.take n) w ∧ Ext n g h { g with ρ := fun i => if i < n then g.ρ i else none } (h.take n) := by
  have hget : ∀ {i x}, i < n → h[i]? = some x → (h.take n)[i]? = some x := fun {i x} hi hx => by rw [List.getElem?_take_of_lt hi]; exact hx
  have hρ : ∀ {i}, i < n → ∀ x, g.ρ i = some x → (if i < n then g.ρ i else none) = some x := fun hi x hx => by rw [if_pos hi]; exact hx
  have hE : Ext n g h { g with ρ := fun i => if i < n then g.ρ i else none } (h.take n) :=
    ⟨fun _ _ _ x => x, fun _ _ x => x, fun i vs hn hi => ⟨⟨_, hget hn hi⟩, hρ hn⟩, fun i es fl hn hi => ⟨⟨_, _, hget hn hi⟩, hρ hn⟩, fun i s p hn hi => ⟨⟨_, _, hget hn hi⟩, hρ hn⟩,
    fun i st j fn t ps a b hn hi => ⟨⟨_, _, hget hn hi⟩, hρ hn⟩, fun i l hn hi => ⟨⟨_, hget hn hi⟩, hρ hn⟩,
    fun i k E es gr fl sh hn hi => ⟨_, _, _, _, _, hget hn hi, Nat.le_refl _, fun _ _ _ hk => ⟨hk, rfl, hρ hn⟩⟩⟩
  have hsub : ∀ {i b x}, (if i < n then g.ρ i else none) = some (b, x) → i < n ∧ g.ρ i = some (b, x) := by
    intro i b x hi
    by_cases h1 : i < n
    · rw [if_pos h1] at hi; exact ⟨h1, hi⟩
    · rw [if_neg h1] at hi; cases hi
  refine ⟨⟨H.os, H.tape, H.output, H.keep, fun i b x hi => H.own i b x (hsub hi).2, fun i j b x y hi hj => H.inj i j b x y (hsub hi).2 (hsub hj).2, ?_, H.mem, ?_, ?_, ?_, ?_, H.mK, H.mmE⟩, hE⟩
  · intro i hi
    simp only
    by_cases h1 : i < n
    · rw [if_pos h1]
      refine H.dom i ?_
      rw [List.length_take] at hi
      omega
    · rw [if_neg h1]
  · intro b es ck hb
    obtain ⟨h1, h2⟩ := H.mm b es ck hb
    exact ⟨h1, fun i x hi => h2 i x (hsub hi).2⟩
  · intro i b sz st o v hi hv
    obtain ⟨h1, h2⟩ := hsub hi
    obtain ⟨k, E, es, gr, fl, h3, h4⟩ := H.mown i b sz st o v h2 hv
    exact ⟨k, E, es, gr, fl, hget h1 h3, h4⟩
  · intro i o hi
    have hin : i < n := by
      have := lt_of_get hi
      rw [List.length_take] at this
      omega
    have hi2 : h[i]? = some o := by rw [List.getElem?_take_of_lt hin] at hi; exact hi
    exact OV_keep hE (by simp only; rw [if_pos hin]) (belH_get hb hi) (H.ob i o hi2)
  · intro m a hm
    obtain ⟨h1, vs, h2, h3⟩ := H.glob m a hm
    exact ⟨h1, vs, VL_mono (hE.mono (Nat.zero_le _)) h1 h2, h3⟩

/-! ### A row whose old slices are gone -/

variable {i : Nat} {k : Nat} {E : TypeId} {es : List AV} {fl sh : Bool}

theorem Ext.zero {g g' : G} {h h' : List Ob} (hM : ∀ b o v, g.M b o = some v → g'.M b o = some v) (hMM : ∀ b x, g.MM b = some x → g'.MM b = some x) : Ext 0 g h g' h' :=
  ⟨hM, hMM, fun _ _ h => by omega, fun _ _ _ h => by omega, fun _ _ _ h => by omega, fun _ _ _ _ _ _ _ _ h => by omega, fun _ _ h => by omega, fun _ _ _ _ _ _ _ h => by omega⟩

mutual
theorem V_reset (hi : h[i]? = some (.row k E es (some 0) fl sh)) : ∀ {a : AV} {v : Value}, vld i es.length a = true → V g h a v → V g (h.set i (.row k E es none fl sh)) a v
  | .undef, _, _, _ => by simp [V]
  | .bool _, _, _, hv | .int _ _, _, _, hv | .str _, _, _, hv | .nilp, _, _, hv | .nilm, _, _, hv | .nilf, _, _, hv | .nili, _, _, hv | .gptr _ _, _, _, hv => by simpa only [V] using hv
  | .own _ _ _, _, _, hv => by simp only [V] at hv
  | .list full k es, v, _, hv => by
    have h0 : bel 0 (.list full k es) = true := by
      simp only [V] at hv
      simp only [bel]
      exact okList_bel hv.1
    exact V_mono (Ext.zero (fun _ _ _ x => x) (fun _ _ x => x)) h0 hv
  | .kmp ks us, v, hb, hv => V_mono (Ext.zero (fun _ _ _ x => x) (fun _ _ x => x)) (by simpa only [bel, vld] using hb) hv
  | .sl j off n, v, hb, hv => by
    simp only [V] at hv ⊢
    by_cases hji : j = i
    · subst hji
      simp only [vld, beq_self_eq_true, Bool.not_true, Bool.false_or, beq_iff_eq] at hb
      obtain ⟨k', E', es', gr', fl', sh', h1, h2, a, cap, h3, h4, h5, h6⟩ := hv
      rw [hi] at h1
      simp only [Option.some.injEq, Ob.row.injEq] at h1
      obtain ⟨rfl, rfl, rfl, rfl, rfl, rfl⟩ := h1
      exact ⟨_, _, _, none, _, _, List.getElem?_set_self (lt_of_get hi), h2, a, cap, h3, h4, h5, fun _ => h6 (by simp [okSl, hb])⟩
    · obtain ⟨k', E', es', gr', fl', sh', h1, h2⟩ := hv
      exact ⟨k', E', es', gr', fl', sh', by rw [List.getElem?_set_ne (fun e => hji e.symm)]; exact h1, h2⟩
  | .eptr a _ _ _, v, hb, hv => by
    simp only [V] at hv ⊢
    simp only [vld] at hb
    obtain ⟨u, b, o, h1, h2, h4, rfl⟩ := hv
    exact ⟨u, b, o, V_reset hi hb h1, h2, h4, rfl⟩
  | .ptr j off, v, _, hv => by
    simp only [V] at hv ⊢
    obtain ⟨⟨vs, hj⟩, h2⟩ := hv
    exact ⟨⟨vs, by rw [List.getElem?_set_ne (by rintro rfl; rw [hi] at hj; cases hj)]; exact hj⟩, h2⟩
  | .mp j, v, _, hv => by
    simp only [V] at hv ⊢
    obtain ⟨⟨x, y, hj⟩, h2⟩ := hv
    exact ⟨⟨x, y, by rw [List.getElem?_set_ne (by rintro rfl; rw [hi] at hj; cases hj)]; exact hj⟩, h2⟩
  | .it j, v, _, hv => by
    simp only [V] at hv ⊢
    obtain ⟨⟨x, y, hj⟩, h2⟩ := hv
    exact ⟨⟨x, y, by rw [List.getElem?_set_ne (by rintro rfl; rw [hi] at hj; cases hj)]; exact hj⟩, h2⟩
  | .yld j, v, _, hv => by
    simp only [V] at hv ⊢
    obtain ⟨⟨x1, x2, x3, x4, x5, x6, x7, hj⟩, h2⟩ := hv
    exact ⟨⟨x1, x2, x3, x4, x5, x6, x7, by rw [List.getElem?_set_ne (by rintro rfl; rw [hi] at hj; cases hj)]; exact hj⟩, h2⟩
  | .agg cs, v, hb, hv => by
    simp only [V] at hv ⊢
    simp only [vld] at hb
    obtain ⟨vs, rfl, h1⟩ := hv
    exact ⟨vs, rfl, VL_reset hi hb h1⟩
  | .tup cs, v, hb, hv => by
    simp only [V] at hv ⊢
    simp only [vld] at hb
    obtain ⟨vs, rfl, h1⟩ := hv
    exact ⟨vs, rfl, VL_reset hi hb h1⟩
  | .fn f a b, v, hb, hv => by
    simp only [V] at hv ⊢
    simp only [vld, Bool.and_eq_true] at hb
    obtain ⟨xs, ys, rfl, h1, h2⟩ := hv
    exact ⟨xs, ys, rfl, VL_reset hi hb.1 h1, VL_reset hi hb.2 h2⟩
  | .ifc t a, v, hb, hv => by
    simp only [V] at hv ⊢
    simp only [vld] at hb
    obtain ⟨y, rfl, h1⟩ := hv
    exact ⟨y, rfl, V_reset hi hb h1⟩
theorem VL_reset (hi : h[i]? = some (.row k E es (some 0) fl sh)) : ∀ {as : List AV} {vs : List Value}, vldL i es.length as = true → VL g h as vs → VL g (h.set i (.row k E es none fl sh)) as vs
  | [], _, _, hv => by simpa only [VL] using hv
  | a :: as, _, hb, hv => by
    simp only [VL] at hv ⊢
    simp only [vldL, Bool.and_eq_true] at hb
    obtain ⟨v, vs', rfl, h1, h2⟩ := hv
    exact ⟨v, vs', rfl, V_reset hi hb.1 h1, VL_reset hi hb.2 h2⟩
end
theorem VE_reset (hi : h[i]? = some (.row k E es (some 0) fl sh)) : ∀ {as : List AV} {vs : List Value}, vldL i es.length as = true → VE g h as vs → VE g (h.set i (.row k E es none fl sh)) as vs
  | [], _, _, hv => by simpa only [VE] using hv
  | a :: as, _, hb, hv => by
    simp only [VE] at hv ⊢
    simp only [vldL, Bool.and_eq_true] at hb
    obtain ⟨v, vs', h1, rfl, h2⟩ := hv
    exact ⟨v, vs', V_reset hi hb.1 h1, rfl, VE_reset hi hb.2 h2⟩

theorem vldL_drop {m : Nat} : ∀ {es : List AV} (k : Nat), vldL i m es = true → vldL i m (es.drop k) = true
  | [], _, _ => by simp [vldL]
  | a :: es, 0, h => by simpa using h
  | a :: es, k + 1, h => by
    simp only [vldL, Bool.and_eq_true] at h
    simpa using vldL_drop k h.2
theorem vldM_spec {m : Nat} : ∀ {es : List (AV × AV)}, vldM i m es = true → vldL i m (es.map (·.1)) = true ∧ vldL i m (es.map (·.2)) = true
  | [], _ => ⟨rfl, rfl⟩
  | (a, b) :: es, h => by
    simp only [vldM, Bool.and_eq_true] at h
    obtain ⟨h1, h2⟩ := vldM_spec h.2
    simp only [List.map_cons, vldL, Bool.and_eq_true]
    exact ⟨⟨h.1.1, h1⟩, ⟨h.1.2, h2⟩⟩
theorem vldH_get {m : Nat} : ∀ {h : List Ob} {j : Nat} {o : Ob}, vldH i m h = true → h[j]? = some o → vldO i m o = true
  | [], _, _, _, hi => by simp at hi
  | a :: h, 0, o, hb, hi => by
    simp only [vldH, Bool.and_eq_true] at hb
    simp at hi; subst hi; exact hb.1
  | a :: h, j + 1, o, hb, hi => by
    simp only [vldH, Bool.and_eq_true] at hb
    exact vldH_get hb.2 (by simpa using hi)

theorem Inv.reset (H : Inv P Γ N g h w) (hi : h[i]? = some (.row k E es (some 0) fl sh)) (hv : vldH i es.length h = true) : Inv P Γ N g (h.set i (.row k E es none fl sh)) w := by
  have hE0 : Ext 0 g h g (h.set i (.row k E es none fl sh)) := Ext.zero (fun _ _ _ x => x) (fun _ _ x => x)
  refine ⟨H.os, H.tape, H.output, H.keep, H.own, H.inj, fun j hj => H.dom j (by simpa using hj), H.mem, H.mm, ?_, ?_, ?_, H.mK, H.mmE⟩
  · intro j b sz st o v hj hM
    obtain ⟨k', E', es', gr, fl', h3, h4⟩ := H.mown j b sz st o v hj hM
    by_cases hji : j = i
    · subst hji
      rw [hi] at h3
      simp only [Option.some.injEq, Ob.row.injEq] at h3
      obtain ⟨rfl, rfl, rfl, rfl, rfl, rfl⟩ := h3
      exact ⟨_, _, _, none, _, List.getElem?_set_self (lt_of_get hi), h4⟩
    · exact ⟨k', E', es', gr, fl', by rw [List.getElem?_set_ne (fun e => hji e.symm)]; exact h3, h4⟩
  · intro j o hj
    by_cases hji : j = i
    · subst hji
      rw [List.getElem?_set_self (lt_of_get hi)] at hj
      simp only [Option.some.injEq] at hj
      subst hj
      have ho := H.ob j _ hi
      have hvo := vldH_get hv hi
      simp only [vldO] at hvo
      simp only [OV] at ho ⊢
      obtain ⟨h1, h2, h3, h4, h5⟩ := ho
      refine ⟨h1, h2, h3, by simp, ?_⟩
      cases hr : g.ρ j with
      | none => rw [hr] at h5; exact h5
      | some y =>
        obtain ⟨b, sz, st⟩ := y
        rw [hr] at h5
        simp only at h5 ⊢
        obtain ⟨h6, c, E', fz, vs, h7, h8, h9, h10, h11⟩ := h5
        refine ⟨h6, c, E', fz, vs, h7, h8, h9, ?_, h11⟩
        simp only [Option.getD_some, Option.getD_none, List.drop_zero] at h10 ⊢
        cases fl with
        | true => exact VE_mono hE0 (okList_bel (h3 rfl)) h10
        | false => exact VE_reset hi (by simpa using hvo) h10
    · rw [List.getElem?_set_ne (fun e => hji e.symm)] at hj
      have ho := H.ob j o hj
      have hvo := vldH_get hv hj
      cases o with
      | gone => trivial
      | cells vs =>
        intro b sz st hb'
        obtain ⟨c, E, fz, h1, h2, h3⟩ := ho b sz st hb'
        exact ⟨c, E, fz, h1, h2, VL_reset hi (by simpa only [vldO] using hvo) h3⟩
      | row k2 E2 es2 gr2 fl2 sh2 =>
        simp only [vldO] at hvo
        simp only [OV] at ho ⊢
        obtain ⟨h1, h2, h3, h4, h5⟩ := ho
        refine ⟨h1, h2, h3, h4, ?_⟩
        cases hr : g.ρ j with
        | none => rw [hr] at h5; exact h5
        | some y =>
          obtain ⟨b, sz, st⟩ := y
          rw [hr] at h5
          simp only at h5 ⊢
          obtain ⟨h6, c, E', fz, vs, h7, h8, h9, h10, h11⟩ := h5
          refine ⟨h6, c, E', fz, vs, h7, h8, h9, ?_, h11⟩
          cases fl2 with
          | true => exact VE_mono hE0 (belL_drop _ (okList_bel (h3 rfl))) h10
          | false => exact VE_reset hi (vldL_drop _ (by simpa using hvo)) h10
      | map es fl =>
        obtain ⟨h1, h3⟩ := ho
        refine ⟨h1, fun b sz st hb' => ?_⟩
        obtain ⟨ents, ck, h4, h5, h6⟩ := h3 b sz st hb'
        obtain ⟨q1, q2⟩ := vldM_spec (by simpa only [vldO] using hvo)
        exact ⟨ents, ck, h4, VL_reset hi q1 h5, VL_reset hi q2 h6⟩
      | siter s p => exact ho
      | loop st q fn t ps a b =>
        intro bk sz sta hb'
        obtain ⟨L, h1, h2, h3, h4, h5, h6⟩ := ho bk sz sta hb'
        exact ⟨L, h1, h2, h3, h4, VL_reset hi (by simpa only [vldO] using hvo) h5, h6⟩
      | dfr live => exact ho
  · intro n a hn
    obtain ⟨h1, vs, h2, h3⟩ := H.glob n a hn
    exact ⟨h1, vs, VL_mono hE0 h1 h2, h3⟩

/-- What lies ahead of the row is as it was. -/
theorem Ext.reset {n : Nat} (hn : n ≤ i) (o : Ob) : Ext n g h g (h.set i o) := by
  have hget : ∀ {j x}, j < n → h[j]? = some x → (h.set i o)[j]? = some x := fun {j x} hj hx => by rw [List.getElem?_set_ne (by omega)]; exact hx
  exact ⟨fun _ _ _ x => x, fun _ _ x => x, fun i vs hn hi => ⟨⟨_, hget hn hi⟩, fun _ x => x⟩, fun i es fl hn hi => ⟨⟨_, _, hget hn hi⟩, fun _ x => x⟩, fun i s p hn hi => ⟨⟨_, _, hget hn hi⟩, fun _ x => x⟩,
    fun i st j fn t ps a b hn hi => ⟨⟨_, _, hget hn hi⟩, fun _ x => x⟩, fun i l hn hi => ⟨⟨_, hget hn hi⟩, fun _ x => x⟩,
    fun i k E es gr fl sh hn hi => ⟨_, _, _, _, _, hget hn hi, Nat.le_refl _, fun _ _ _ hk => ⟨hk, rfl, fun _ x => x⟩⟩⟩
end
end Go.AM
/- The abstract machine: rows of slices whose slices turn no more; literals that are rows of their own. -/
namespace Go.AM
open Go.RowKit

theorem share_at {j : Nat} : ∀ (is : List Nat) (h : List Ob), j ∉ is → (share is h)[j]? = h[j]?
  | [], _, _ => rfl
  | i :: is, h, hj => by
    simp only [List.mem_cons, not_or] at hj
    simp only [share]
    have hne : ¬ i = j := fun e => hj.1 e.symm
    rw [share_at is _ hj.2, List.getElem?_modify]
    simp [hne]

section
variable {P : Program} {Γ : Nat → Option AV} {N : Env} {g : G} {h : List Ob} {w : World}

theorem view_one {a a' : AV} (hv : view h a = some a') (ho : a.one = true) : a'.one = true := by
  cases a with
  | agg _ | tup _ | undef | own _ _ _ => simp [AV.one] at ho
  | list f k es => simp only [view, Option.some.injEq] at hv; subst hv; rfl
  | sl i o n => simp only [view, Option.map_eq_some_iff] at hv; obtain ⟨p, _, rfl⟩ := hv; rfl
  | ptr _ _ | mp _ | it _ | yld _ | eptr _ _ _ _ => simp [view] at hv
  | kmp _ _ => simp only [view] at hv; split at hv <;> simp at hv; subst hv; rfl
  | fn f x y => simp only [view] at hv; split at hv <;> simp at hv; subst hv; rfl
  | ifc t x => simp only [view, Option.map_eq_some_iff] at hv; obtain ⟨y, _, rfl⟩ := hv; rfl
  | _ => simp only [view, Option.some.injEq] at hv; subst hv; rfl
theorem viewL_one : ∀ {as as' : List AV}, viewL h as = some as' → as'.length = as.length ∧ (allOne as = true → allOne as' = true)
  | [], as', hv => by simp only [viewL, Option.some.injEq] at hv; subst hv; exact ⟨rfl, id⟩
  | a :: as, as', hv => by
    simp only [viewL] at hv
    split at hv
    · rename_i a1 as1 h1 h2
      simp only [Option.some.injEq] at hv
      subst hv
      obtain ⟨h3, h4⟩ := viewL_one h2
      refine ⟨by simp [h3], fun ho => ?_⟩
      simp only [allOne, Bool.and_eq_true] at ho ⊢
      exact ⟨view_one h1 ho.1, h4 ho.2⟩
    · cases hv
theorem view_cells {a a' : AV} (hv : view h a = some a') (ho : allOne a.cells = true) : a'.cells.length = a.cells.length ∧ allOne a'.cells = true := by
  by_cases ha : ∃ cs, a = .agg cs
  · obtain ⟨cs, rfl⟩ := ha
    simp only [view, Option.map_eq_some_iff] at hv
    obtain ⟨cs', h1, rfl⟩ := hv
    obtain ⟨h2, h3⟩ := viewL_one h1
    exact ⟨h2, h3 ho⟩
  · have hc : a.cells = [a] := by cases a <;> first | rfl | exact absurd ⟨_, rfl⟩ ha
    rw [hc] at ho
    simp only [allOne, Bool.and_true] at ho
    have h1 := view_one hv ho
    have hc' : a'.cells = [a'] := by cases a' <;> first | rfl | simp [AV.one] at h1
    rw [hc, hc']
    exact ⟨rfl, by simp [allOne, h1]⟩
theorem bel_cells {n : Nat} {a : AV} (h : bel n a = true) : belL n a.cells = true := by
  cases a <;> simp_all [AV.cells, bel, belL]

theorem VE_view (H : Inv P Γ N g h w) {g' : G} {h' : List Ob} (x : Ext h.length g h g' h') : ∀ {as as' : List AV} {us : List Value}, (∀ i ∈ rowsOfL as, Cov g' h w g i) → VE g h as us → viewL h as = some as' → VE g' h' as' us
  | [], as', us, _, hv, ha => by
    simp only [viewL, Option.some.injEq] at ha
    subst ha
    simpa only [VE] using hv
  | a :: as, as', us, hc, hv, ha => by
    simp only [viewL] at ha
    split at ha
    · rename_i a1 as1 h1 h2
      simp only [Option.some.injEq] at ha
      subst ha
      simp only [VE] at hv ⊢
      obtain ⟨u, us', h3, rfl, h4⟩ := hv
      simp only [rowsOfL, List.mem_append] at hc
      exact ⟨u, us', V_view H x (fun i hi => hc i (Or.inl hi)) h3 h1, rfl, VE_view H x (fun i hi => hc i (Or.inr hi)) h4 h2⟩
    · cases ha
theorem VE_ok (H : Inv P Γ N g h w) {k : Nat} : ∀ {as as' : List AV} {us : List Value}, AllK k as → VE g h as us → viewL h as = some as' → okList as' k = true
  | [], as', us, _, _, ha => by simp only [viewL, Option.some.injEq] at ha; subst ha; rfl
  | a :: as, as', us, hK, hv, ha => by
    simp only [viewL] at ha
    split at ha
    · rename_i a1 as1 h1 h2
      simp only [Option.some.injEq] at ha
      subst ha
      simp only [VE] at hv
      obtain ⟨u, us', h3, rfl, h4⟩ := hv
      obtain ⟨hk1, hk2⟩ := hK a (by simp)
      obtain ⟨h5, h6⟩ := view_cells h1 hk2
      simp only [okList, Bool.and_eq_true, decide_eq_true_eq]
      exact ⟨⟨⟨by omega, h6⟩, bel_cells (view_bel H h3 h1)⟩, VE_ok H (fun e he => hK e (List.mem_cons_of_mem _ he)) h4 h2⟩
    · cases ha

theorem okSl_len {es es' : List AV} (h : es'.length = es.length) (gr : Option Nat) (off n : Nat) : okSl es' gr off n = okSl es gr off n := by
  unfold okSl; rw [h]

/-- A row's slices are looked at as trees from now on. -/
theorem Inv.freeze (H : Inv P Γ N g h w) {i k : Nat} {E : TypeId} {es es' : List AV} {gr : Option Nat} {fl sh : Bool} (hi : h[i]? = some (.row k E es gr fl sh)) (hg : gr.getD 0 = 0)
    (hv : viewL h es = some es') (hn : (rowsOfL es).contains i = false) :
    ∃ g', Inv P Γ N g' ((share (rowsOfL es) h).set i (.row k E es' gr true sh)) w ∧ Ext h.length g h g' ((share (rowsOfL es) h).set i (.row k E es' gr true sh)) := by
  obtain ⟨g1, hρ1, hMM1, hM1, H1, hE1, hC1⟩ := share_sound (rowsOfL es) H
  have hni : i ∉ rowsOfL es := by simpa using hn
  have hi1 : (share (rowsOfL es) h)[i]? = some (.row k E es gr fl sh) := by rw [share_at _ _ hni]; exact hi
  have hlen := (viewL_one hv).1
  have hil1 := lt_of_get hi1
  have hob := H.ob i _ hi
  simp only [OV] at hob
  obtain ⟨hk0, hK, hfl, hgl, hb⟩ := hob
  have hE2 : Ext (share (rowsOfL es) h).length g1 (share (rowsOfL es) h) g1 ((share (rowsOfL es) h).set i (.row k E es' gr true sh)) := by
    have := Ext.set_row (E' := E) (es' := es') (gr' := gr) (fl' := true) (sh' := sh) (ρ' := g1.ρ i) hi1 (by omega) (fun off m hom hok => ⟨by rw [← okSl_len hlen]; exact hok, hlen, fun _ x => x⟩)
    rwa [upd_self] at this
  have hokall : es' = [] ∨ (∃ us, VE g h es us) := by
    cases hρ : g.ρ i with
    | none =>
      rw [hρ] at hb
      simp only at hb
      subst hb
      simp only [viewL, Option.some.injEq] at hv
      exact Or.inl hv.symm
    | some y =>
      obtain ⟨b, sz, st⟩ := y
      rw [hρ] at hb
      obtain ⟨_, c, Ty, fz, vs, _, _, _, hVE, _⟩ := hb
      rw [hg] at hVE
      exact Or.inr ⟨vs, by simpa using hVE⟩
  have hok' : okList es' k = true := by
    rcases hokall with rfl | ⟨us, hus⟩
    · rfl
    · exact VE_ok H hK hus hv
  refine ⟨g1, ?_, ?_⟩
  · have := Inv.set (r := g1.ρ i) (w' := w) (o' := .row k E es' gr true sh) H1 hil1 (by rw [upd_self]; exact hE2) rfl rfl rfl (fun _ _ _ => rfl) (Nat.le_refl _)
      (fun b y hy => ⟨Or.inl ⟨y, hy⟩, (H1.own i b y hy).2⟩)
      (fun b y o v _ hv => H1.mem b o v hv)
      (by
        intro b sz st o v hy hv'
        obtain ⟨k2, E2, es2, gr2, fl2, h2, h3⟩ := H1.mown i b sz st o v hy hv'
        rw [hi1] at h2
        simp only [Option.some.injEq, Ob.row.injEq] at h2
        obtain ⟨rfl, rfl, rfl, rfl, rfl, rfl⟩ := h2
        exact ⟨_, _, _, _, _, rfl, by rw [hlen]; exact h3⟩)
      (by
        rw [upd_self]
        simp only [OV]
        refine ⟨hk0, okList_allK hok', fun _ => hok', by rw [hlen]; exact hgl, ?_⟩
        rw [hρ1]
        cases hρ : g.ρ i with
        | none =>
          rw [hρ] at hb
          simp only at hb ⊢
          subst hb
          simp only [viewL, Option.some.injEq] at hv
          exact hv.symm
        | some y =>
          obtain ⟨b, sz, st⟩ := y
          rw [hρ] at hb
          simp only at hb ⊢
          obtain ⟨q1, c, Ty, fz, vs, q2, q3, q4, hVE, q5⟩ := hb
          refine ⟨q1, c, Ty, fz, vs, q2, q3, q4, ?_, q5⟩
          rw [hg] at hVE ⊢
          simp only [List.drop_zero] at hVE ⊢
          have h1 := VE_view H hE1 hC1 hVE hv
          exact VE_mono hE2 (VE_bel h1) h1)
    rwa [upd_self] at this
  · have := share_length (rowsOfL es) h
    rw [this] at hE2
    exact hE1.trans hE2

/-- Only a literal is compiled to one. -/
theorem cop_lit {o : Oper} {k : Nat} {zs : List AV} {ps : List (Nat × AX)} (hc : cop P o = some (.lit k zs ps)) :
    ∃ ty n parts e z, o.op = .buildSlice ty n parts ∧ P.underlying ty = some (.slice e) ∧ tSize P e = some k ∧ 0 < k ∧ tZero P e = some z ∧ zOk k z = true ∧ n * k ≤ 2 ^ 24 ∧ zs = List.replicate n z ∧ ps = parts.toList.map fun q => (q.1, cax q.2) := by
  cases ho : o.op with
  | buildSlice ty n parts =>
    simp only [cop, ho] at hc
    cases hE : tElem P ty with
    | none => simp [hE] at hc
    | some e =>
    cases hk : tSize P e with
    | none => simp [hE, hk] at hc
    | some k2 =>
    cases hz : tZero P e with
    | none => simp [hE, hk, hz] at hc
    | some z =>
    simp only [hE, hk, hz, Option.bind_eq_bind, Option.bind_some] at hc
    split at hc
    · cases hc
    · rename_i hcond
      simp only [Option.some.injEq, AO.lit.injEq] at hc
      obtain ⟨rfl, rfl, rfl⟩ := hc
      simp only [not_or] at hcond
      obtain ⟨c1, c2, c3⟩ := hcond
      refine ⟨ty, n, parts, e, z, rfl, ?_, hk, by omega, hz, by simpa using c3, by omega, rfl, rfl⟩
      unfold tElem at hE
      split at hE <;> simp_all
  | call c =>
    exfalso
    simp only [cop, ho, ccall] at hc
    (repeat' split at hc) <;> first | (cases hc; done) | (simp [Option.bind_eq_some_iff] at hc; done) | (simp only [Option.bind_eq_bind, Option.bind_eq_some_iff, Option.map_eq_some_iff] at hc; obtain ⟨_, _, h1⟩ := hc; revert h1; simp; done) | (simp only [Option.bind_eq_bind, Option.bind_eq_some_iff] at hc; obtain ⟨_, _, _, _, _, _, _, _, h1⟩ := hc; revert h1; split <;> (try split) <;> simp; done) | skip
  | _ => exfalso; simp only [cop, ho] at hc; (repeat' split at hc) <;> first | contradiction | (cases hc; done) | (simp [Option.bind_eq_some_iff] at hc; done) | skip

/-- A literal whose slices may turn: a row of its own. -/
theorem op_litRow (H : Inv P Γ N g h w) {r : Operand → Value} {t : List AV} {o : Oper} {ty e : TypeId} {n : Nat} {ps : Array (Nat × Operand)} (ho : o.op = .buildSlice ty n ps) (hu : P.underlying ty = some (.slice e)) {k : Nat} (hk : tSize P e = some k) (hk0 : 0 < k)
    {z : AV} (hz : tZero P e = some z) (hzo : zOk k z = true) (hnk : n * k ≤ 2 ^ 24) (he : ∀ x, V g h (ax t (cax x)) (r x))
    {es : List AV} (hf : fillE k (List.replicate n z) ((ps.toList.map fun q => (q.1, cax q.2)).map fun q => (q.1, ax t q.2)) = some es) {fl : Bool} (hfl : fl = true → okList es k = true) (E : TypeId) :
    OpR P Γ N r o w g h (h ++ [.row k E es none fl false]) (some (.sl h.length 0 es.length)) := by
  obtain ⟨zv, hzr, rfl⟩ := run_zero' hz
  simp only [zOk, Bool.and_eq_true, decide_eq_true_eq] at hzo
  obtain ⟨⟨hzk, hz1⟩, hzb⟩ := hzo
  have hzk' := ofVal_size hzk
  have hF : F2 (fun (p : Nat × AV) (q : Nat × Value) => p.1 = q.1 ∧ V g h p.2 q.2) ((ps.toList.map fun q => (q.1, cax q.2)).map fun q => (q.1, ax t q.2)) (ps.map fun q => (q.1, r q.2)).toList := by
    rw [Array.toList_map, List.map_map]
    generalize ps.toList = l
    induction l with
    | nil => exact .nil
    | cons q l ih => exact .cons ⟨rfl, he q.2⟩ ih
  have hVE0 := VE_replicate (V_ofVal g h zv) n
  have hzl := zeros_list hzk' n
  let zs : Array Value := (Array.range (n * k)).map fun i => (if n * k = 0 then #[] else zv.cells)[i % (if n * k = 0 then #[] else zv.cells).size]!
  have hzs : zs.toList = (List.replicate n zv.cells.toList).flatten := by
    simp only [zs]
    by_cases hnk0 : n * k = 0
    · have : n = 0 := by
        rcases Nat.mul_eq_zero.1 hnk0 with h1 | h1
        · exact h1
        · omega
      simp [this]
    · simp only [hnk0, if_false, hzk']
      exact hzl
  obtain ⟨us, h1, h2, h3, h4⟩ := fillE_sound (zs := zs) hF hf (okList_allK (okList_replicate hzk hz1 hzb n)) (by rw [hzs]; exact hVE0)
  have hlen : es.length = n := by rw [h4, List.length_replicate]
  have husl : us.toList.length = n * k := by rw [VE_length h3 h2, hlen]
  have hrun : (Instr.buildSlice ty n (ps.map fun q => (q.1, r q.2))).run P w = .ok (.slice (some ⟨w.heap.size, 0, none⟩) n n) (w.alloc (.cells (us.toList ++ []).toArray e)) := by
    have hus : (us.toList ++ []).toArray = us := by simp
    rw [hus]
    simp only [Instr.buildSlice, Sem.run_bind, run_underlying hu, Result.andThen_ok, run_size hk]
    rw [if_neg (by omega)]
    by_cases hnk0 : n * k = 0
    · have hzs0 : zs = (Array.range (n * k)).map fun i => (#[] : Array Value)[i % (#[] : Array Value).size]! := by simp only [zs, hnk0, if_true]
      rw [hzs0] at h1
      rw [if_pos hnk0]
      simp only [Sem.run_bind, Sem.run_pure, Result.andThen_ok]
      rw [h1]
      simp [newRow]
    · have hzs0 : zs = (Array.range (n * k)).map fun i => zv.cells[i % zv.cells.size]! := by simp only [zs, hnk0, if_false]
      rw [hzs0] at h1
      rw [if_neg hnk0]
      simp only [Sem.run_bind, hzr, Sem.run_pure, Result.andThen_ok]
      rw [h1]
      simp [newRow]
  refine OpR.make (w' := w) H rfl rfl rfl rfl (sz := n * k) (by simp only [execOp, ho]; rw [Sem.run_bind, hrun]; rfl) ?_ (by simp) ?_
  · exact new_row (P := P) hk0 h3 hfl (upd_same _ _ _) (heap_new w _) (by simpa using husl.symm) (free_nil _) (VE_mono (Ext.push _ _) (VE_bel h2) h2)
  · have := new_row_V (h := h) (g' := g.upd h.length (some (w.heap.size, n * k, 0))) (k := k) (E := E) (es := es) (os := []) (fl := fl) (sh := false) (upd_same _ _ _) (cap := n) (by omega) (Nat.le_refl _)
    rw [hlen] at this ⊢
    exact this
end
end Go.AM
/- The abstract machine: what is reached; it is right. -/
namespace Go.AM
open Go.RowKit

/-- No old slice of row i is in the frame. -/
def vldMd (i m : Nat) : Md → Bool
  | .pan v _ => vld i m v
  | _ => true
def vldF (i m : Nat) (f : Fr) : Bool := vldL i m f.t && vldD i m f.ds && vldMd i m f.md

inductive Reach (P : Program) (Γ : Nat → Option AV) : Cfg → Cfg → Prop
  | refl (c : Cfg) : Reach P Γ c c
  | trans {a b c : Cfg} : Reach P Γ a b → Reach P Γ b c → Reach P Γ a c
  | step (c : Cfg) : Reach P Γ c (stepA P Γ c)
  | pure {f : FuncId} {args as : List AV} {r : AV} {up : List Fr} {h : List Ob} : viewL h args = some as → PureCon P Γ f as r → Reach P Γ (.cl f args up h) (.back up (unownA h.length r).1 (afterPure h args r))
  | pdie {f : FuncId} {args as : List AV} {v : AV} {up : List Fr} {h : List Ob} : viewL h args = some as → DieCon P Γ f as v → Reach P Γ (.cl f args up h) (.die up v h)
  | isnil {f : Fr} {up : List Fr} {h : List Ob} {o : AG} {os : List AG} {k : List It} {c : Cfg} : f.md = .run → f.its = .ops (o :: os) :: k → wantedA f.t o.guard = some true → aop P Γ f.t h o.op = .either →
      (∀ b, Reach P Γ (.fr { f with its := .ops os :: k, t := setD f.t o.dst (.bool b) } up h) c) → Reach P Γ (.fr f up h) c
  | drop {f : Fr} {up : List Fr} {h : List Ob} (n : Nat) : f.base ≤ n → belF n f = true → belH n (h.take n) = true → Reach P Γ (.fr f up h) (.fr f up (h.take n))
  | reset {f : Fr} {up : List Fr} {h : List Ob} {i k : Nat} {E : TypeId} {es : List AV} {fl sh : Bool} : f.base ≤ i → h[i]? = some (.row k E es (some 0) fl sh) → vldF i es.length f = true → vldH i es.length h = true →
      Reach P Γ (.fr f up h) (.fr f up (h.set i (.row k E es none fl sh)))
  | resetU {f : Fr} {up : List Fr} {h : List Ob} {i k : Nat} {E : TypeId} {es : List AV} {fl sh : Bool} : h[i]? = some (.row k E es (some 0) fl sh) → (f :: up).all (vldF i es.length) = true → vldH i es.length h = true →
      Reach P Γ (.fr f up h) (.fr f up (h.set i (.row k E es none fl sh)))
  | freeze {f : Fr} {up : List Fr} {h : List Ob} {i k : Nat} {E : TypeId} {es es' : List AV} {gr : Option Nat} {fl sh : Bool} : h[i]? = some (.row k E es gr fl sh) → gr.getD 0 = 0 → viewL h es = some es' → (rowsOfL es).contains i = false →
      Reach P Γ (.fr f up h) (.fr f up ((share (rowsOfL es) h).set i (.row k E es' gr true sh)))
  | litRow {f : Fr} {up : List Fr} {h : List Ob} {d : Option Nat} {gd : Option (Nat × Bool)} {k : Nat} {zs : List AV} {ps : List (Nat × AX)} {os : List AG} {k' : List It} {es : List AV} (E : TypeId) : f.md = .run → f.its = .ops (⟨d, gd, .lit k zs ps⟩ :: os) :: k' →
      wantedA f.t gd = some true → fillE k zs (ps.map fun p => (p.1, ax f.t p.2)) = some es →
      Reach P Γ (.fr f up h) (.fr { f with its := .ops os :: k', t := setD f.t d (.sl h.length 0 es.length) } up (h ++ [.row k E es none (okList es k) false]))
  | mask {f : Fr} {up : List Fr} {h : List Ob} (m : List Bool) : Reach P Γ (.fr f up h) (.fr { f with t := maskT m f.t } up h)
  | dreg {f : Fr} {up : List Fr} {h h' : List Ob} {l : List Bool} {gs : List AG} {k : List It} {orc : List (AV × List Ob)} {t' : List AV} {obls obls0 : List Obl} {hs : List (List Ob)} : f.md = .run → f.its = .code (.dreg l gs) :: k →
      runD P Γ orc gs f.t h = some (t', h', obls, hs) → (∀ o ∈ obls, o ∈ obls0) → (∀ o ∈ obls0, ∀ up, Reach P Γ (.cl o.f o.args up o.h) (.back up o.v o.h')) → calm P Γ obls0 (h :: hs) l orc gs f.t h →
      Reach P Γ (.fr f up h) (.fr { f with its := k, t := t' } up h')

section
variable {P : Program} {Γ : Nat → Option AV} {N : Env} {g0 : G} {f0 : FuncId} {cs0 : List Frame}

theorem mem_go {ops : Array Oper} : ∀ (fuel t : Nat) (listed : Array Bool) (i : Nat), i ∈ Region.linearise.go .any ops fuel t listed [] → i < ops.size
  | 0, t, listed, i, h => by simp [Region.linearise.go] at h
  | fuel + 1, t, listed, i, h => by
    simp only [Region.linearise.go] at h
    split at h
    · rename_i j hj
      rw [linearise_go_acc] at h
      simp only [List.reverse_cons, List.reverse_nil, List.nil_append, List.cons_append, List.mem_cons] at h
      rcases h with rfl | h
      · have := List.mem_of_getElem? hj
        simp only [List.mem_filter, List.mem_range] at this
        exact this.1
      · exact mem_go fuel _ _ i h
    · simp at h

theorem ops_some {ops : Array Oper} {gs : List AG} (h : ops.toList.mapM (cag P ops.toList) = some gs) : ∀ {l : List Nat}, (∀ i ∈ l, i < ops.size) → OpsR P ops (l.map fun i => gs.getD i default) l
  | [], _ => .nil
  | i :: l, hl => by
    obtain ⟨h1, h2⟩ := mapM_get h
    have hi : i < gs.length := by rw [h1]; simpa using hl i (by simp)
    obtain ⟨o, ho, hc⟩ := h2 i _ (List.getElem?_eq_getElem hi)
    refine .cons ⟨o, by simpa using ho, ?_⟩ (ops_some h fun j hj => hl j (List.mem_cons_of_mem _ hj))
    simp only [List.getD_eq_getElem?_getD, List.getElem?_eq_getElem hi]
    exact hc

def Then (P : Program) (Γ : Nat → Option AV) (N : Env) (g0 : G) (f0 : FuncId) (cs0 : List Frame) (c c' : Cfg) : Prop :=
  ∀ m, Sim P Γ N g0 f0 cs0 c m → ∃ m', Steps P m m' ∧ Sim P Γ N g0 f0 cs0 c' m'

theorem Then.trans {a b c : Cfg} (h1 : Then P Γ N g0 f0 cs0 a b) (h2 : Then P Γ N g0 f0 cs0 b c) : Then P Γ N g0 f0 cs0 a c := by
  intro m hm
  obtain ⟨m1, s1, h⟩ := h1 m hm
  obtain ⟨m2, s2, h⟩ := h2 m1 h
  exact ⟨m2, s1.trans s2, h⟩

theorem Then.step (c : Cfg) : Then P Γ N g0 f0 cs0 c (stepA P Γ c) := fun _ hm => step_sound hm

theorem FRel_reset {g : G} {h : List Ob} {i k : Nat} {E : TypeId} {es : List AV} {fl sh : Bool} {f : Fr} {fr : Frame} (hi : h[i]? = some (.row k E es (some 0) fl sh)) (hf : vldF i es.length f = true) (S : FRel P g h f fr) : FRel P g (h.set i (.row k E es none fl sh)) f fr := by
  have hmr := S.md
  simp only [vldF, Bool.and_eq_true] at hf
  have hkind : ∀ {j : Nat} {o : Ob}, h[j]? = some o → (∀ k E es gr fl sh, o ≠ Ob.row k E es gr fl sh) → (h.set i (.row k E es none fl sh))[j]? = some o := by
    intro j o hj hne
    rw [List.getElem?_set_ne]
    · exact hj
    · rintro rfl
      rw [hi] at hj
      cases hj
      exact hne _ _ _ _ _ _ rfl
  have hLR : ∀ {l b}, LR g h l b → LR g (h.set i (.row k E es none fl sh)) l b := by
    rintro l b ⟨⟨a1, a2, a3, a4, a5, a6, a7, h1⟩, h2⟩
    exact ⟨⟨a1, a2, a3, a4, a5, a6, a7, hkind h1 (by simp)⟩, h2⟩
  have hIR : ∀ {k1 : List It} {k2 : List Item}, IR P g h k1 k2 → IR P g (h.set i (.row k E es none fl sh)) k1 k2 := by
    intro k1
    induction k1 with
    | nil => intro k2 hk; cases k2 <;> simp only [IR] at hk ⊢
    | cons a k1 ih =>
      intro k2 hk
      cases k2 with
      | nil => cases a <;> simp only [IR] at hk
      | cons b k2 =>
        cases a <;> cases b <;> simp only [IR] at hk ⊢
        · exact ⟨hk.1, ih hk.2⟩
        · exact ⟨hk.1, ih hk.2⟩
        · exact ⟨hk.1, ih hk.2⟩
        · exact ⟨hk.1, ih hk.2⟩
        · exact ⟨hLR hk.1, ih hk.2⟩
        · exact ⟨hLR hk.1, ih hk.2⟩
        · exact ih hk
  have hDR : ∀ {ds1 : List ADef} {ds2 : List Deferred}, vldD i es.length ds1 = true → F2 (DR g h) ds1 ds2 → F2 (DR g (h.set i (.row k E es none fl sh))) ds1 ds2 := by
    intro ds1 ds2 hv hd
    induction hd with
    | nil => exact .nil
    | @cons a b as bs h1 _ ih =>
      cases a with
      | call c args =>
        simp only [vldD, Bool.and_eq_true] at hv
        obtain ⟨cap, q1, q2⟩ := h1
        exact .cons ⟨cap, q1, VL_reset hi hv.1 q2⟩ (ih hv.2)
      | mark l =>
        simp only [vldD] at hv
        obtain ⟨⟨q, q1⟩, q2⟩ := h1
        exact .cons ⟨⟨q, hkind q1 (by simp)⟩, q2⟩ (ih hv)
  · refine ⟨?_, S.fn, hIR S.its, VL_reset hi hf.1.1 S.t, hDR hf.1.2 S.ds, ?_, S.is⟩
    · have hv := hf.2
      cases hm2 : f.md with
      | run => rw [hm2] at hmr; exact hmr
      | ret => rw [hm2] at hmr; exact hmr
      | pan v rc =>
        rw [hm2] at hmr hv
        obtain ⟨u, q1, q2⟩ := hmr
        exact ⟨u, q1, V_reset hi (by simpa only [vldMd] using hv) q2⟩
    · have hk := S.kind
      cases hk2 : f.kind with
      | norm => rw [hk2] at hk; exact hk
      | dfr => rw [hk2] at hk; exact hk
      | round l =>
        rw [hk2] at hk
        obtain ⟨q1, b, q2, q3⟩ := hk
        exact ⟨q1, b, q2, hLR q3⟩

theorem SR_reset {g : G} {h : List Ob} {i k : Nat} {E : TypeId} {es : List AV} {fl sh : Bool} {f0 : FuncId} (hi : h[i]? = some (.row k E es (some 0) fl sh)) : ∀ {n : Nat} {l : List Fr} {fs : List Frame}, l.all (vldF i es.length) = true → SR P g h f0 n l fs → SR P g (h.set i (.row k E es none fl sh)) f0 n l fs
  | _, [], _, _, h1 => h1
  | n, f :: up, fs, hv, h1 => by
    obtain ⟨fr, fs', h2, h3, h4, h5, h6, h7⟩ := h1
    simp only [List.all_cons, Bool.and_eq_true] at hv
    exact ⟨fr, fs', h2, FRel_reset hi hv.1 h3, h4, h5, h6, SR_reset hi hv.2 h7⟩


theorem Then.dreg {f : Fr} {up : List Fr} {h h' : List Ob} {l : List Bool} {gs : List AG} {k : List It} {orc : List (AV × List Ob)} {t' : List AV} {obls obls0 : List Obl} {hs : List (List Ob)} (hmd : f.md = .run) (hits : f.its = .code (.dreg l gs) :: k)
    (hr : runD P Γ orc gs f.t h = some (t', h', obls, hs)) (hsub : ∀ o ∈ obls, o ∈ obls0) (hob : ∀ o ∈ obls0, ∀ up, Then P Γ N g0 f0 cs0 (.cl o.f o.args up o.h) (.back up o.v o.h')) (hc : calm P Γ obls0 (h :: hs) l orc gs f.t h) :
    Then P Γ N g0 f0 cs0 (.fr f up h) (.fr { f with its := k, t := t' } up h') := by
  intro m hm
  obtain ⟨g, w, tmps, todo, ds, kd, ro, md, fs, rfl, S, hmr⟩ := hm.inv
  rw [hmd] at hmr
  simp only [MR] at hmr
  subst hmr
  have hI := S.its
  rw [hits] at hI
  cases todo with
  | nil => simp only [IR] at hI
  | cons im k' =>
  cases im <;> simp only [IR] at hI
  rename_i c
  obtain ⟨hC, hk⟩ := hI
  cases c <;> try (simp only [CR] at hC; done)
  rename_i id ops draw
  cases draw <;> simp only [CR] at hC
  obtain ⟨hgs, hok, rfl⟩ := hC
  simp only [drawOk, Bool.and_eq_true] at hok
  obtain ⟨⟨hok1, hok2⟩, hok3⟩ := hok
  obtain ⟨T, H, v, hT0, hH0, hTn, hHn, hk0⟩ := runD_seq hr hsub hc
  have hlen : gs.length = ops.size := by rw [(mapM_get hgs).1]; simp
  have R : Reg P Γ ops gs obls0 h hs T H v := ⟨hlen, hok1, hok2, hH0, hk0⟩
  have hsched : ∀ x, Region.schedule (P.follows .mixedOrders) ops x = Region.linearise.go .any ops ops.size x (Array.replicate ops.size false) [] := by
    intro x
    unfold Region.schedule
    rw [if_pos (by simpa using hok3)]
    rfl
  have hgetD : ∀ i d, (Array.replicate ops.size false).getD i d = if i < ops.size then false else d := by
    intro i d
    rw [Array.getD_eq_getD_getElem?, Array.getElem?_replicate]
    split <;> rfl
  have F : Far ops gs T H v (Array.replicate ops.size false) f.t h := by
    refine ⟨by simp, ?_, by rw [hT0], ?_, fun s _ => by rw [hT0], 0, Nat.zero_le _, hH0.symm, fun _ _ h => by omega, ?_⟩
    · intro i o ho hl
      have := lt_of_get (l := ops.toList) (i := i) (a := o) (by simpa using ho)
      rw [hgetD, if_pos (by simpa using this)] at hl
      cases hl
    · intro j x s hx hl
      have := lt_of_get hx
      rw [hgetD, if_pos (by omega)] at hl
      cases hl
    · intro j x _ hx _
      have := lt_of_get hx
      rw [hgetD, if_pos (by omega)]
  have hleft : left ops.size (Array.replicate ops.size false) = ops.size := by
    unfold left
    rw [List.filter_eq_self.2, List.length_range]
    intro i hi
    rw [hgetD, if_pos (by simpa using hi)]
    rfl
  have h1 := order_go (Rl := Then P Γ N g0 f0 cs0) R (fun _ _ _ a b => a.trans b) Then.step hob hmd (up := up) (k := k) ops.size (w.tape w.drawn (.order f.fn id)) _ f.t h F hleft
  rw [hTn, hHn] at h1
  have S' : St P Γ N g0 f0 g h w.drew f up tmps (.code (.region id ops true) :: k') ds kd ro fs := ⟨S.H.world rfl rfl rfl rfl, S.M, S.its, S.t, S.ds, S.kind, S.is, S.b, S.z, S.s⟩
  have h2 : Sim P Γ N g0 f0 cs0 (.fr { f with its := .ops ((Region.linearise.go .any ops ops.size (w.tape w.drawn (.order f.fn id)) (Array.replicate ops.size false) []).map fun i => gs.getD i default) :: k, t := f.t } up h)
      (lone (mkF f.fn tmps (.inRegion ops (Region.schedule (P.follows .mixedOrders) ops (w.tape w.drawn (.order f.fn id))) :: k') ds kd ro) (fs ++ cs0) w.drew) := by
    rw [hsched]
    exact S'.go hmd (its := .ops _ :: k) ⟨ops_some hgs fun i hi => mem_go _ _ _ i hi, hk⟩ S.t
  obtain ⟨m', s', h3⟩ := h1 _ h2
  exact ⟨m', (Steps.one st_draw).trans s', h3⟩

theorem reach_sound {c c' : Cfg} (hr : Reach P Γ c c') : Then P Γ N g0 f0 cs0 c c' := by
  induction hr with
  | refl c => exact fun m hm => ⟨m, .refl _ _, hm⟩
  | trans _ _ h1 h2 => exact h1.trans h2
  | step c => exact Then.step c
  | pure hv hp => exact fun m hm => pure_sound hp hv hm
  | pdie hv hp => exact fun m hm => die_sound hp hv hm
  | @isnil f up h o os k c hmd hits hw ha _ ih =>
    intro m hm
    obtain ⟨g, w, tmps, todo, ds, kd, ro, md, fs, rfl, S, hmr⟩ := hm.inv
    rw [hmd] at hmr
    simp only [MR] at hmr
    subst hmr
    have hI := S.its
    rw [hits] at hI
    cases todo with
    | nil => simp only [IR] at hI
    | cons im k' =>
    cases im <;> simp only [IR] at hI
    rename_i ops todo
    obtain ⟨hO, hk⟩ := hI
    cases hO with
    | cons h1 hO =>
    rename_i i rest
    obtain ⟨op, hop, hcag⟩ := h1
    obtain ⟨hw1, hcop, hdst⟩ := wanted_sound hcag S.t hw
    have hs : Snd P Γ N g h w (⟨tmps, ds⟩ : Act).eval op (aop P Γ f.t h o.op) := aop_sound (a := ⟨tmps, ds⟩) S.H S.t hcop
    have hnd := fun x y => not_defer (Γ := Γ) (h := h) (t := f.t) hcop x y
    rw [ha] at hs hnd
    obtain ⟨b, g', w', nx, h2, h3, h4, u, rfl, h6⟩ := hs
    have S1 := S.mono h3 h4 (Nat.le_refl _)
    have hs1 := St.go (cs0 := cs0) S1 hmd (its := .ops os :: k) (todo' := .inRegion ops rest :: k') (t := setD f.t o.dst (.bool b)) (tmps' := put' tmps o.dst u) ⟨hO, by have := S1.its; rw [hits] at this; exact this.2⟩ (put_VL S1.t h6)
    rw [hdst] at hs1
    have hst := st_value (cs := fs ++ cs0) (fn := f.fn) (k := k') (rest := rest) (kd := kd) (ro := ro) hop hw1 (Or.inr (hnd (by simp) (by simp))) h2
    rw [← hdst] at hs1
    obtain ⟨m', s', h7⟩ := ih b _ (by rw [hdst] at hs1 ⊢; exact hs1)
    exact ⟨m', (Steps.one hst).trans s', h7⟩
  | @drop f up h n hb hf hh =>
    intro m hm
    obtain ⟨g, w, tmps, todo, ds, kd, ro, md, fs, rfl, S, hmr⟩ := hm.inv
    obtain ⟨H', x⟩ := S.H.drop hh
    have hR := FRel_mono x hf (S.rel hmr)
    refine ⟨_, .refl _ _, ?_⟩
    by_cases hn : n ≤ h.length
    · exact ⟨_, w, _, fs, rfl, H', S.M, _, fs, rfl, hR, FRel_bel hR, by rw [List.length_take, Nat.min_eq_left hn]; exact hb, S.z, SR_mono (x.mono hb) (Nat.le_refl _) S.s⟩
    · exact ⟨_, w, _, fs, rfl, H', S.M, _, fs, rfl, hR, FRel_bel hR, by rw [List.length_take, Nat.min_eq_right (by omega)]; exact S.b, S.z, SR_mono (x.mono hb) (Nat.le_refl _) S.s⟩
  | @reset f up h i k E es fl sh hb hi hf hh =>
    intro m hm
    obtain ⟨g, w, tmps, todo, ds, kd, ro, md, fs, rfl, S, hmr⟩ := hm.inv
    have H' := S.H.reset hi hh
    have x : Ext f.base g h g (h.set i (.row k E es none fl sh)) := Ext.reset hb _
    simp only [vldF, Bool.and_eq_true] at hf
    have hkind : ∀ {j : Nat} {o : Ob}, h[j]? = some o → (∀ k E es gr fl sh, o ≠ Ob.row k E es gr fl sh) → (h.set i (.row k E es none fl sh))[j]? = some o := by
      intro j o hj hne
      rw [List.getElem?_set_ne]
      · exact hj
      · rintro rfl
        rw [hi] at hj
        cases hj
        exact hne _ _ _ _ _ _ rfl
    have hLR : ∀ {l b}, LR g h l b → LR g (h.set i (.row k E es none fl sh)) l b := by
      rintro l b ⟨⟨a1, a2, a3, a4, a5, a6, a7, h1⟩, h2⟩
      exact ⟨⟨a1, a2, a3, a4, a5, a6, a7, hkind h1 (by simp)⟩, h2⟩
    have hIR : ∀ {k1 : List It} {k2 : List Item}, IR P g h k1 k2 → IR P g (h.set i (.row k E es none fl sh)) k1 k2 := by
      intro k1
      induction k1 with
      | nil => intro k2 hk; cases k2 <;> simp only [IR] at hk ⊢
      | cons a k1 ih =>
        intro k2 hk
        cases k2 with
        | nil => cases a <;> simp only [IR] at hk
        | cons b k2 =>
          cases a <;> cases b <;> simp only [IR] at hk ⊢
          · exact ⟨hk.1, ih hk.2⟩
          · exact ⟨hk.1, ih hk.2⟩
          · exact ⟨hk.1, ih hk.2⟩
          · exact ⟨hk.1, ih hk.2⟩
          · exact ⟨hLR hk.1, ih hk.2⟩
          · exact ⟨hLR hk.1, ih hk.2⟩
          · exact ih hk
    have hDR : ∀ {ds1 : List ADef} {ds2 : List Deferred}, vldD i es.length ds1 = true → F2 (DR g h) ds1 ds2 → F2 (DR g (h.set i (.row k E es none fl sh))) ds1 ds2 := by
      intro ds1 ds2 hv hd
      induction hd with
      | nil => exact .nil
      | @cons a b as bs h1 _ ih =>
        cases a with
        | call c args =>
          simp only [vldD, Bool.and_eq_true] at hv
          obtain ⟨cap, q1, q2⟩ := h1
          exact .cons ⟨cap, q1, VL_reset hi hv.1 q2⟩ (ih hv.2)
        | mark l =>
          simp only [vldD] at hv
          obtain ⟨⟨q, q1⟩, q2⟩ := h1
          exact .cons ⟨⟨q, hkind q1 (by simp)⟩, q2⟩ (ih hv)
    have hR : FRel P g (h.set i (.row k E es none fl sh)) f (mkF f.fn tmps todo ds kd ro md) := by
      refine ⟨?_, rfl, hIR S.its, VL_reset hi hf.1.1 S.t, hDR hf.1.2 S.ds, ?_, S.is⟩
      · have hv := hf.2
        cases hm2 : f.md with
        | run => rw [hm2] at hmr; exact hmr
        | ret => rw [hm2] at hmr; exact hmr
        | pan v rc =>
          rw [hm2] at hmr hv
          obtain ⟨u, q1, q2⟩ := hmr
          exact ⟨u, q1, V_reset hi (by simpa only [vldMd] using hv) q2⟩
      · have hk := S.kind
        cases hk2 : f.kind with
        | norm => rw [hk2] at hk; exact hk
        | dfr => rw [hk2] at hk; exact hk
        | round l =>
          rw [hk2] at hk
          obtain ⟨q1, b, q2, q3⟩ := hk
          exact ⟨q1, b, q2, hLR q3⟩
    exact ⟨_, .refl _ _, g, w, _, fs, rfl, H', S.M, _, fs, rfl, hR, FRel_bel hR, by rw [List.length_set]; exact S.b, S.z, SR_mono x (Nat.le_refl _) S.s⟩
  | @resetU f up h i k E es fl sh hi hf hh =>
    intro m hm
    obtain ⟨g, w, fr, fs, rfl, H, M, S⟩ := hm
    refine ⟨_, .refl _ _, g, w, fr, fs, rfl, H.reset hi hh, M, ?_⟩
    rw [List.length_set]
    exact SR_reset hi hf S
  | @freeze f up h i k E es es' gr fl sh hi hg hv hn =>
    intro m hm
    obtain ⟨g, w, fr, fs, rfl, H, M, S⟩ := hm
    obtain ⟨g', H', x⟩ := H.freeze hi hg hv hn
    exact ⟨_, .refl _ _, g', w, fr, fs, rfl, H', fun b o v hv => x.M _ _ _ (M b o v hv), SR_mono x (by simp [share_length]) S⟩
  | @litRow f up h d gd k zs ps os k' es E hmd hits hw hf =>
    intro m hm
    obtain ⟨g, w, tmps, todo, ds, kd, ro, md, fs, rfl, S, hmr⟩ := hm.inv
    rw [hmd] at hmr
    simp only [MR] at hmr
    subst hmr
    have hI := S.its
    rw [hits] at hI
    cases todo with
    | nil => simp only [IR] at hI
    | cons im k'_1 =>
    cases im <;> simp only [IR] at hI
    rename_i ops todo
    obtain ⟨hO, hk⟩ := hI
    cases hO with
    | cons h1 hO =>
    rename_i i rest
    obtain ⟨op, hop, hcag⟩ := h1
    obtain ⟨hw1, hcop, hdst⟩ := wanted_sound hcag S.t hw
    obtain ⟨ty, n, parts, e, z, q1, q2, q3, q4, q5, q6, q7, rfl, rfl⟩ := cop_lit hcop
    have hs := op_litRow (t := f.t) (fl := okList es k) S.H (r := (⟨tmps, ds⟩ : Act).eval) q1 q2 q3 q4 q5 q6 q7 (fun x => V_ax S.t x) hf id E
    obtain ⟨g', w', nx, h2, h3, h4, u, rfl, h6⟩ := hs
    have S1 := S.mono h3 h4 (by simp)
    have hs1 := St.go (cs0 := cs0) S1 hmd (its := .ops os :: k') (todo' := .inRegion ops rest :: k'_1) (t := setD f.t d (.sl h.length 0 es.length)) (tmps' := put' tmps d u) ⟨hO, by have := S1.its; rw [hits] at this; exact this.2⟩ (put_VL S1.t h6)
    have hdst' : d = op.dst := hdst
    have hst := st_value (cs := fs ++ cs0) (fn := f.fn) (k := k'_1) (rest := rest) (kd := kd) (ro := ro) hop hw1 (Or.inr (by intro c hc; rw [q1] at hc; cases hc)) h2
    rw [← hdst'] at hst
    exact ⟨_, Steps.one hst, hs1⟩
  | @mask f up h m =>
    intro mm hm
    obtain ⟨g, w, tmps, todo, ds, kd, ro, md, fs, rfl, S, hmr⟩ := hm.inv
    exact ⟨_, .refl _ _, St.sim (f := { f with t := maskT m f.t }) ⟨S.H, S.M, S.its, VL_mask m S.t, S.ds, S.kind, S.is, S.b, S.z, S.s⟩ hmr⟩
  | dreg hmd hits hr hsub _ hc ih => exact Then.dreg hmd hits hr hsub ih hc
end
end Go.AM
/- The abstract machine: a run on trees alone is a function of trees. -/
namespace Go.AM
open Go.RowKit

def ownOf (h : List Ob) (all : List Nat) : AV → Option Nat
  | .sl i off n =>
    match h[i]? with
    | some (.row _ _ es g true sh) => if okSl es g off n = true ∧ (off = 0 ∧ n = es.length ∧ sh = false ∧ all.count i = 1) then some i else none
    | _ => none
  | _ => none
def ownedL (h : List Ob) (all : List Nat) (vs : List AV) : List Nat := vs.filterMap (ownOf h all)
def shareL (h : List Ob) (all : List Nat) (vs : List AV) : List Nat := vs.flatMap fun a => if (ownOf h all a).isSome = true then [] else rowsOf a

theorem ownOf_spec {h : List Ob} {all : List Nat} {a : AV} {i : Nat} (ho : ownOf h all a = some i) :
    ∃ k E es gr, a = .sl i 0 es.length ∧ h[i]? = some (.row k E es gr true false) ∧ okSl es gr 0 es.length = true ∧ all.count i = 1 ∧ resOne h all a = some (.own k E es) := by
  unfold ownOf at ho
  split at ho
  · rename_i j off n
    split at ho
    · rename_i k E es gr sh hj
      split at ho
      · rename_i hc
        simp only [Option.some.injEq] at ho
        subst ho
        obtain ⟨h1, rfl, rfl, rfl, h5⟩ := hc
        refine ⟨k, E, es, gr, rfl, hj, h1, h5, ?_⟩
        simp [resOne, hj, h1, h5]
      · cases ho
    · cases ho
  · cases ho

theorem ownOf_none {h : List Ob} {all : List Nat} {a r : AV} (ho : ownOf h all a = none) (hr : resOne h all a = some r) : (r = a ∧ ∃ f k es, a = .list f k es) ∨ view h a = some r := by
  unfold resOne at hr
  split at hr
  · rename_i j off n
    right
    split at hr
    · rename_i k E es gr sh hj
      split at hr
      · rename_i hok
        split at hr
        · rename_i hc
          unfold ownOf at ho
          simp only [hj, hok, true_and] at ho
          rw [if_pos hc] at ho
          cases ho
        · simp only [Option.some.injEq] at hr
          subst hr
          simp [view, telems, hj, hok]
      · cases hr
    · cases hr
  · rename_i f k es
    simp only [Option.some.injEq] at hr
    exact Or.inl ⟨hr.symm, _, _, _, rfl⟩
  · exact Or.inr hr

theorem count_rows (h : List Ob) (all : List Nat) (j : Nat) : ∀ (vs : List AV), (rowsOfL vs).count j = (ownedL h all vs).count j + (shareL h all vs).count j
  | [] => by simp [rowsOfL, ownedL, shareL]
  | a :: vs => by
    have ih := count_rows h all j vs
    simp only [rowsOfL, List.count_append, ownedL, shareL, List.flatMap_cons, List.filterMap_cons] at ih ⊢
    cases ho : ownOf h all a with
    | none => simp; omega
    | some i =>
      obtain ⟨k, E, es, gr, rfl, _⟩ := ownOf_spec ho
      simp only [rowsOf, Option.isSome_some, if_true, List.count_nil, List.count_cons]
      omega

theorem view_not_own {h : List Ob} {a r : AV} (hv : view h a = some r) : ∀ k E es, r ≠ .own k E es := by
  intro k E es hr
  subst hr
  cases a <;> simp [view] at hv
  all_goals (try (split at hv <;> simp at hv))

theorem unown_plain {n : Nat} {r : AV} (hr : ∀ k E es, r ≠ .own k E es) : unown n r = (r, []) := by
  cases r <;> first | rfl | exact absurd rfl (hr _ _ _)

theorem one_plain {h : List Ob} {all : List Nat} {a r : AV} (ho : ownOf h all a = none) (hr : resOne h all a = some r) : ∀ k E es, r ≠ .own k E es := by
  rcases ownOf_none ho hr with ⟨rfl, f, k, es, rfl⟩ | hv
  · simp
  · exact view_not_own hv

theorem res_new {h : List Ob} {all : List Nat} : ∀ {vs rs : List AV}, resL h all vs = some rs → ∀ (n q : Nat) (o : Ob), (unownL n rs).2[q]? = some o →
    ∃ j k E es gr, (ownedL h all vs)[q]? = some j ∧ o = .row k E es none true false ∧ h[j]? = some (.row k E es gr true false) ∧ okSl es gr 0 es.length = true
  | [], rs, hr, n, q, o, ho => by
    simp only [resL, Option.some.injEq] at hr
    subst hr
    simp [unownL] at ho
  | a :: vs, rs, hr, n, q, o, ho => by
    simp only [resL] at hr
    split at hr
    · rename_i r rs' h1 h2
      simp only [Option.some.injEq] at hr
      subst hr
      simp only [unownL] at ho
      cases hown : ownOf h all a with
      | none =>
        rw [unown_plain (one_plain hown h1)] at ho
        simp only [List.nil_append, List.length_nil, Nat.add_zero] at ho
        simpa only [ownedL, List.filterMap_cons, hown] using res_new h2 n q o ho
      | some i =>
        obtain ⟨k, E, es, gr, rfl, h3, h4, h5, h6⟩ := ownOf_spec hown
        rw [h1] at h6
        simp only [Option.some.injEq] at h6
        subst h6
        simp only [unown, List.length_singleton, List.singleton_append] at ho
        simp only [ownedL, List.filterMap_cons, hown]
        cases q with
        | zero =>
          simp at ho
          exact ⟨i, k, E, es, gr, by simp, ho.symm, h3, h4⟩
        | succ q =>
          have := res_new h2 (n + 1) q o (by simpa using ho)
          simpa only [ownedL, List.getElem?_cons_succ] using this
    · cases hr

theorem ownedL_mem {h : List Ob} {all : List Nat} {vs : List AV} {j : Nat} (hj : j ∈ ownedL h all vs) : all.count j = 1 ∧ ∃ k E es gr, h[j]? = some (.row k E es gr true false) := by
  simp only [ownedL, List.mem_filterMap] at hj
  obtain ⟨a, _, ha⟩ := hj
  obtain ⟨k, E, es, gr, _, h2, _, h4, _⟩ := ownOf_spec ha
  exact ⟨h4, k, E, es, gr, h2⟩

theorem share_get {j : Nat} : ∀ (is : List Nat) (h : List Ob), j ∉ is → (share is h)[j]? = h[j]?
  | [], _, _ => rfl
  | i :: is, h, hn => by
    simp only [share]
    rw [share_get is _ (fun hm => hn (List.mem_cons_of_mem _ hm)), List.getElem?_modify]
    have : i ≠ j := fun e => hn (by simp [e])
    simp [this]

section
variable {P : Program} {Γ : Nat → Option AV} {N N' : Env} {g g2 g2' g3 : G} {h hh hh' h3 : List Ob} {w w2 : World}

theorem res_V (H2 : Inv P Γ N' g2 hh w2) (x : Ext hh.length g2 hh g2' hh') (x0 : Ext 0 g2' hh' g3 h3) {all : List Nat} : ∀ {vs rs : List AV} {us : List Value}, (∀ i ∈ shareL hh all vs, Cov g2' hh w2 g2 i) → VL g2 hh vs us → resL hh all vs = some rs →
    ∀ n, (∀ q o, (unownL n rs).2[q]? = some o → h3[n + q]? = some o) → (∀ q j, (ownedL hh all vs)[q]? = some j → g3.ρ (n + q) = g2.ρ j) → VL g3 h3 (unownL n rs).1 us ∧ treeRL rs = true
  | [], rs, us, _, hv, hr, n, _, _ => by
    simp only [resL, Option.some.injEq] at hr
    subst hr
    exact ⟨by simpa only [unownL, VL] using hv, rfl⟩
  | a :: vs, rs, us, hc, hv, hr, n, hos, hρ => by
    simp only [resL] at hr
    split at hr
    · rename_i r rs' h1 h2
      simp only [Option.some.injEq] at hr
      subst hr
      simp only [VL] at hv
      obtain ⟨u, us', rfl, hv1, hv2⟩ := hv
      cases hown : ownOf hh all a with
      | none =>
        have hpl := unown_plain (n := n) (one_plain hown h1)
        have hsh : ∀ i ∈ rowsOf a, Cov g2' hh w2 g2 i := fun i hi => hc i (by simp only [shareL, List.flatMap_cons, hown]; simp [hi])
        have htail := res_V H2 x x0 (vs := vs) (rs := rs') (us := us') (fun i hi => hc i (by simp only [shareL, List.flatMap_cons, List.mem_append]; exact Or.inr hi)) hv2 h2 n
          (fun q o hq => hos q o (by simp only [unownL, hpl, List.nil_append, List.length_nil, Nat.add_zero]; exact hq))
          (fun q j hq => hρ q j (by simpa only [ownedL, List.filterMap_cons, hown] using hq))
        have hone : V g3 h3 r u ∧ treeR r = true := by
          have htr : bel 0 r = true → treeR r = true := by
            intro hb
            cases r <;> first | exact hb | exact absurd rfl (one_plain hown h1 _ _ _)
          rcases ownOf_none hown h1 with ⟨rfl, f, k, es, rfl⟩ | hvw
          · have hb : bel 0 (.list f k es) = true := by
              simp only [V] at hv1
              simp only [bel]
              exact okList_bel hv1.1
            exact ⟨V_mono x0 hb (V_mono x (V_bel hv1) hv1), htr hb⟩
          · have hb := view_bel H2 hv1 hvw
            exact ⟨V_mono x0 hb (V_view H2 x hsh hv1 hvw), htr hb⟩
        simp only [unownL, hpl, List.length_nil, Nat.add_zero, VL, treeRL, Bool.and_eq_true]
        exact ⟨⟨u, us', rfl, hone.1, htail.1⟩, hone.2, htail.2⟩
      | some i =>
        obtain ⟨k, E, es, gr, rfl, h3', h4, h5, h6⟩ := ownOf_spec hown
        rw [h1] at h6
        simp only [Option.some.injEq] at h6
        subst h6
        have htail := res_V H2 x x0 (vs := vs) (rs := rs') (us := us') (fun i hi => hc i (by simp only [shareL, List.flatMap_cons, List.mem_append]; exact Or.inr hi)) hv2 h2 (n + 1)
          (fun q o hq => by
            have := hos (q + 1) o (by simpa only [unownL, unown, List.length_singleton, List.singleton_append, List.getElem?_cons_succ] using hq)
            rwa [show n + 1 + q = n + (q + 1) by omega])
          (fun q j hq => by
            have := hρ (q + 1) j (by simpa only [ownedL, List.filterMap_cons, hown, List.getElem?_cons_succ] using hq)
            rwa [show n + 1 + q = n + (q + 1) by omega])
        have hrow := hos 0 _ (by simp [unownL, unown]; rfl)
        have hr0 := hρ 0 i (by simp [ownedL, hown])
        simp only [Nat.add_zero] at hrow hr0
        have hob := H2.ob i _ h3'
        simp only [OV] at hob
        obtain ⟨_, _, hfl, _, _⟩ := hob
        simp only [unownL, unown, List.length_singleton, VL, treeRL, treeR, Bool.and_eq_true]
        refine ⟨⟨u, us', rfl, ?_, htail.1⟩, okList_bel (hfl (by trivial)), htail.2⟩
        simp only [V] at hv1 ⊢
        obtain ⟨k', E', es', gr', fl', sh', q1, q2, aa, cap, q3, q4, q5, q6⟩ := hv1
        rw [h3'] at q1
        simp only [Option.some.injEq, Ob.row.injEq] at q1
        obtain ⟨rfl, rfl, rfl, rfl, rfl, rfl⟩ := q1
        refine ⟨_, _, _, none, _, _, hrow, q2, aa, cap, q3, q4, q5, fun _ => ?_⟩
        rw [hr0]
        exact q6 h4
    · cases hr

/-- What a run on trees alone has made is laid behind what was there. -/
theorem rebuild (H : Inv P Γ N g h w) (H2 : Inv P Γ { K := fun b => w.heap[b]?, M0 := g.M, MM := g.MM, w0 := w } g2 hh w2) (hM : ∀ b o v, g.M b o = some v → g2.M b o = some v) {vs rs : List AV} {us : List Value} (hv : VL g2 hh vs us) (hr : resL hh (rowsOfL vs) vs = some rs) :
    ∃ g3, treeRL rs = true ∧ Inv P Γ N g3 (h ++ (unownL h.length rs).2) w2 ∧ VL g3 (h ++ (unownL h.length rs).2) (unownL h.length rs).1 us ∧ (∀ i, i < h.length → g3.ρ i = g.ρ i) ∧
      (∀ b o v, g.M b o = some v → g3.M b o = some v) ∧ (∀ b, b < w.heap.size → w2.heap[b]? = w.heap[b]?) := by
  obtain ⟨g2', hρ2, hMM2, hM2, H2', x, hcov⟩ := share_sound (shareL hh (rowsOfL vs) vs) H2
  have hheap : ∀ b, b < w.heap.size → w2.heap[b]? = w.heap[b]? := by
    intro b hb
    rw [H2.keep b w.heap[b] (Array.getElem?_eq_getElem hb), Array.getElem?_eq_getElem hb]
  have hbig : w.heap.size ≤ w2.heap.size := by
    rcases Nat.eq_zero_or_pos w.heap.size with h0 | h0
    · omega
    · have := hheap (w.heap.size - 1) (by omega)
      rw [Array.getElem?_eq_getElem (xs := w.heap) (by omega)] at this
      have := lt_of_get (l := w2.heap.toList) (i := w.heap.size - 1) (by simpa using this)
      simp at this
      omega
  have hnewb : ∀ i b y, g2.ρ i = some (b, y) → w.heap.size ≤ b ∧ b < w2.heap.size := by
    intro i b y hi
    obtain ⟨h1, h2⟩ := H2.own i b y hi
    refine ⟨?_, h2⟩
    rcases Nat.lt_or_ge b w.heap.size with h3 | h3
    · simp only [Array.getElem?_eq_getElem h3] at h1; cases h1
    · exact h3
  have hnd : (ownedL hh (rowsOfL vs) vs).Nodup := by
    rw [List.nodup_iff_count]
    intro j
    by_cases hj : j ∈ ownedL hh (rowsOfL vs) vs
    · have h1 := (ownedL_mem hj).1
      have h2 := count_rows hh (rowsOfL vs) j vs
      omega
    · rw [List.count_eq_zero_of_not_mem hj]; omega
  have hnsh : ∀ j ∈ ownedL hh (rowsOfL vs) vs, j ∉ shareL hh (rowsOfL vs) vs := by
    intro j hj hs
    have h1 := (ownedL_mem hj).1
    have h2 := count_rows hh (rowsOfL vs) j vs
    have h3 := List.count_pos_iff.2 hj
    have h4 := List.count_pos_iff.2 hs
    omega
  generalize hown : ownedL hh (rowsOfL vs) vs = owned at hnd hnsh
  let g3 : G := { ρ := fun i => if i < h.length then g.ρ i else (owned[i - h.length]?).bind g2.ρ, M := g2'.M, MM := g.MM }
  have hMall : ∀ b o v, g.M b o = some v → g2'.M b o = some v := fun b o v hv => hM2 _ _ _ (hM _ _ _ hv)
  have hρold : ∀ i, i < h.length → g3.ρ i = g.ρ i := fun i hi => if_pos hi
  have hρnew : ∀ q, g3.ρ (h.length + q) = (owned[q]?).bind g2.ρ := fun q => by
    show (if h.length + q < h.length then _ else _) = _
    rw [if_neg (by omega), show h.length + q - h.length = q by omega]
  have hMMeq : g2'.MM = g.MM := by rw [hMM2, H2.mmE]
  have hE : Ext h.length g h g3 (h ++ (unownL h.length rs).2) := Ext.app _ hρold hMall rfl
  have x0 : Ext 0 g2' (share (shareL hh (rowsOfL vs) vs) hh) g3 (h ++ (unownL h.length rs).2) := Ext.zero (fun _ _ _ x => x) (fun _ _ hx => by rw [← hMMeq]; exact hx)
  obtain ⟨hV3, hT⟩ := res_V H2 x x0 hcov hv hr h.length (fun q o hq => by rw [List.getElem?_append_right (by omega), show h.length + q - h.length = q by omega]; exact hq) (fun q j hq => by
    rw [hown] at hq
    rw [hρnew, hq]
    rfl)
  have hcase : ∀ {i b y}, g3.ρ i = some (b, y) → (i < h.length ∧ g.ρ i = some (b, y)) ∨ ∃ q j, i = h.length + q ∧ owned[q]? = some j ∧ g2.ρ j = some (b, y) := by
    intro i b y hi
    by_cases hil : i < h.length
    · rw [hρold i hil] at hi; exact Or.inl ⟨hil, hi⟩
    · obtain ⟨q, rfl⟩ : ∃ q, i = h.length + q := ⟨i - h.length, by omega⟩
      rw [hρnew] at hi
      cases hq : owned[q]? with
      | none => rw [hq] at hi; cases hi
      | some j => rw [hq] at hi; exact Or.inr ⟨q, j, rfl, hq, hi⟩
  refine ⟨g3, hT, ⟨H2.os.trans H.os, H2.tape.trans H.tape, H2.output.trans H.output, ?_, ?_, ?_, ?_, H2'.mem, ?_, ?_, ?_, ?_, ?_, H.mmE⟩, hV3, hρold, hMall, hheap⟩
  · intro b o hb
    exact H2.keep b o (H.keep b o hb)
  · intro i b y hi
    rcases hcase hi with ⟨_, h2⟩ | ⟨q, j, _, _, h2⟩
    · exact ⟨(H.own i b y h2).1, Nat.lt_of_lt_of_le (H.own i b y h2).2 hbig⟩
    · obtain ⟨h3, h4⟩ := hnewb j b y h2
      refine ⟨?_, h4⟩
      cases hk : N.K b with
      | none => rfl
      | some o =>
        have := H.keep b o hk
        have := lt_of_get (l := w.heap.toList) (i := b) (by simpa using this)
        simp at this
        omega
  · intro i j b y z hi hj
    rcases hcase hi with ⟨h1, h2⟩ | ⟨q, p, rfl, h2, h4⟩
    · rcases hcase hj with ⟨h5, h6⟩ | ⟨q', p', rfl, h5, h6⟩
      · exact H.inj i j b y z h2 h6
      · have := (hnewb p' b z h6).1
        have := (H.own i b y h2).2
        omega
    · rcases hcase hj with ⟨h5, h6⟩ | ⟨q', p', rfl, h5, h6⟩
      · have := (hnewb p b y h4).1
        have := (H.own j b z h6).2
        omega
      · have hp := H2.inj p p' b y z h4 h6
        subst hp
        have hq : q = q' := by
          exact (List.getElem?_inj (lt_of_get h2) hnd).1 (h2.trans h5.symm)
        rw [hq]
  · intro i hi
    rw [List.length_append] at hi
    obtain ⟨q, rfl⟩ : ∃ q, i = h.length + q := ⟨i - h.length, by omega⟩
    rw [hρnew]
    cases hq : owned[q]? with
    | none => rfl
    | some j =>
      exfalso
      -- as many rows as are owned
      have hlen : ∀ {us ws : List AV}, resL hh (rowsOfL vs) us = some ws → ∀ n, (unownL n ws).2.length = (ownedL hh (rowsOfL vs) us).length := by
        intro us
        induction us with
        | nil => intro ws hw n; simp only [resL, Option.some.injEq] at hw; subst hw; simp [unownL, ownedL]
        | cons a us ih =>
          intro ws hw n
          simp only [resL] at hw
          split at hw
          · rename_i r rs' h1 h2
            simp only [Option.some.injEq] at hw
            subst hw
            cases ho : ownOf hh (rowsOfL vs) a with
            | none =>
              simp only [unownL, unown_plain (one_plain ho h1), List.nil_append, List.length_nil, Nat.add_zero, ownedL, List.filterMap_cons, ho]
              exact ih h2 n
            | some i =>
              obtain ⟨k, E, es, gr, rfl, _, _, _, h6⟩ := ownOf_spec ho
              rw [h1] at h6
              simp only [Option.some.injEq] at h6
              subst h6
              simp only [ownedL] at ih
              simp only [unownL, unown, List.singleton_append, ownedL, List.filterMap_cons, ho, List.length_cons]
              rw [ih h2]
          · cases hw
      have := hlen hr h.length
      rw [hown] at this
      have := lt_of_get hq
      omega
  · intro b es ck hb
    have h1 : g2.MM b = some (es, ck) := by rw [H2.mmE]; exact hb
    refine ⟨(H2.mm b es ck h1).1, ?_⟩
    intro i y hi
    rcases hcase hi with ⟨_, h3⟩ | ⟨q, p, _, _, h4⟩
    · exact (H.mm b es ck hb).2 i y h3
    · exact (H2.mm b es ck h1).2 p y h4
  · intro i b sz st o v hi hv
    rcases hcase hi with ⟨h2, h3⟩ | ⟨q, p, rfl, h2, h4⟩
    · have hb := (H.own i b _ h3).2
      have h5 := H2'.mK b o v _ hv (Array.getElem?_eq_getElem hb)
      obtain ⟨k, E, es, gr, fl, h6, h7⟩ := H.mown i b sz st o v h3 h5
      exact ⟨k, E, es, gr, fl, by rw [List.getElem?_append_left (lt_of_get h6)]; exact h6, h7⟩
    · exfalso
      obtain ⟨k, E, es, gr, fl, h6, h7⟩ := H2'.mown p b sz st o v (by rw [hρ2]; exact h4) hv
      have hpm : p ∈ owned := List.mem_of_getElem? h2
      rw [share_get _ _ (hnsh p hpm)] at h6
      rw [← hown] at hpm
      obtain ⟨_, k', E', es', gr', h8⟩ := ownedL_mem hpm
      rw [h8] at h6
      cases h6
  · intro i o hi
    by_cases hil : i < h.length
    · rw [List.getElem?_append_left hil] at hi
      exact OV_mono hE (hρold i hil) (fun b y hb => hheap b (H.own i b y hb).2) (H.ob i o hi)
    · obtain ⟨q, rfl⟩ : ∃ q, i = h.length + q := ⟨i - h.length, by omega⟩
      rw [List.getElem?_append_right (by omega), show h.length + q - h.length = q by omega] at hi
      obtain ⟨j, k, E, es, gr, h2, rfl, h4, h5⟩ := res_new hr h.length q o hi
      have hob := H2.ob j _ h4
      simp only [OV] at hob ⊢
      obtain ⟨q1, q2, q3, q4, q5⟩ := hob
      refine ⟨q1, q2, q3, by simp, ?_⟩
      rw [hown] at h2
      rw [hρnew, h2]
      simp only [Option.bind_some]
      have hgr : gr.getD 0 = 0 := by
        cases gr with
        | none => rfl
        | some lo => simp only [okSl, Bool.and_eq_true, decide_eq_true_eq] at h5; simpa using h5.1
      cases hρj : g2.ρ j with
      | none => rw [hρj] at q5; exact q5
      | some y =>
        obtain ⟨b, sz, st⟩ := y
        rw [hρj, hgr] at q5
        simp only [Option.getD_none] at q5 ⊢
        obtain ⟨h6, c, E', fz, ws, h7, h8, h9, h10, h11⟩ := q5
        refine ⟨h6, c, E', fz, ws, h7, h8, h9, ?_, h11⟩
        rw [List.drop_zero] at h10 ⊢
        exact VE_mono x0 (okList_bel (q3 (by trivial))) (VE_mono (x.mono (Nat.zero_le _)) (okList_bel (q3 (by trivial))) h10)
  · intro n a hn
    obtain ⟨h1, ws, h2, h3⟩ := H.glob n a hn
    exact ⟨h1, ws, VL_mono hE (VL_bel h2) h2, fun j hj => hMall _ _ _ (h3 j hj)⟩
  · intro b o v B hv hB
    exact H.mK b o v B (H2'.mK b o v B hv (H.keep b B hB)) hB
end
end Go.AM
/- The abstract machine: contracts. -/
namespace Go.AM
open Go.RowKit

section
variable {P : Program} {Γ : Nat → Option AV}

theorem rebuildA {N : Env} {g g2 : G} {h hh : List Ob} {w w2 : World} (H : Inv P Γ N g h w) (H2 : Inv P Γ { K := fun b => w.heap[b]?, M0 := g.M, MM := g.MM, w0 := w } g2 hh w2) (hM : ∀ b o v, g.M b o = some v → g2.M b o = some v) {v r : AV} {u : Value} (hv : V g2 hh v u) (hr : resA hh v = some r) :
    ∃ g3, treeA r = true ∧ Inv P Γ N g3 (h ++ (unownA h.length r).2) w2 ∧ V g3 (h ++ (unownA h.length r).2) (unownA h.length r).1 u ∧ (∀ i, i < h.length → g3.ρ i = g.ρ i) ∧
      (∀ b o v, g.M b o = some v → g3.M b o = some v) ∧ (∀ b, b < w.heap.size → w2.heap[b]? = w.heap[b]?) := by
  by_cases ht : ∃ vs, v = .tup vs
  · obtain ⟨vs, rfl⟩ := ht
    simp only [resA, Option.map_eq_some_iff] at hr
    obtain ⟨rs, hr, rfl⟩ := hr
    simp only [V] at hv
    obtain ⟨us, rfl, hv⟩ := hv
    obtain ⟨g3, h1, h2, h3, h4⟩ := rebuild H H2 hM hv hr
    exact ⟨g3, h1, h2, by simp only [unownA, V]; exact ⟨us, rfl, h3⟩, h4⟩
  · have hr2 : resOne hh (rowsOf v) v = some r := by
      cases v <;> first | exact hr | exact absurd ⟨_, rfl⟩ ht
    have hrt : ∀ vs, r ≠ .tup vs := by
      rintro vs rfl
      cases hown : ownOf hh (rowsOf v) v with
      | some i =>
        obtain ⟨k, E, es, gr, rfl, _, _, _, h6⟩ := ownOf_spec hown
        rw [hr2] at h6
        cases h6
      | none =>
        rcases ownOf_none hown hr2 with ⟨h1, f, k, es, rfl⟩ | hvw
        · cases h1
        · cases v <;> simp [view] at hvw
          all_goals first
            | exact ht ⟨_, rfl⟩
            | (split at hvw <;> cases hvw)
    have hl : resL hh (rowsOfL [v]) [v] = some [r] := by
      simp [resL, rowsOfL, hr2]
    have hvl : VL g2 hh [v] [u] := by simp only [VL]; exact ⟨u, [], rfl, hv, rfl⟩
    obtain ⟨g3, h1, h2, h3, h4⟩ := rebuild H H2 hM hvl hl
    have hun : unownA h.length r = unown h.length r := by cases r <;> first | rfl | exact absurd rfl (hrt _)
    have htr : treeA r = treeR r := by cases r <;> first | rfl | exact absurd rfl (hrt _)
    have hol : (unownL h.length [r]).2 = (unown h.length r).2 := by simp [unownL]
    have hov : (unownL h.length [r]).1 = [(unown h.length r).1] := by simp [unownL]
    rw [hol] at h2 h3
    rw [hov] at h3
    rw [hun, htr]
    simp only [VL] at h3
    obtain ⟨u', us', h5, h6, rfl⟩ := h3
    cases h5
    refine ⟨g3, ?_, h2, h6, h4⟩
    simpa [treeRL] using h1

/-- What is reached from trees alone is a function of trees. -/
theorem PureCon.of {f : FuncId} {as : List AV} {v r : AV} {hh : List Ob} (hb : hasBody P f = true) (hr : Reach P Γ (.cl f as [] []) (.back [] v hh)) (hres : resA hh v = some r) : PureCon P Γ f as r := by
  refine ⟨hb, fun hbel N g h w us H hV cs => ?_⟩
  have hz : Ext 0 g h { ρ := fun _ => none, M := g.M, MM := g.MM } [] := Ext.zero (fun _ _ _ x => x) (fun _ _ x => x)
  have H0 : Inv P Γ { K := fun b => w.heap[b]?, M0 := g.M, MM := g.MM, w0 := w } { ρ := fun _ => none, M := g.M, MM := g.MM } [] w := by
    refine ⟨rfl, rfl, rfl, fun b o hb => hb, fun i b x hi => (by cases hi), fun i j b x y hi => (by cases hi), fun _ _ => rfl, H.mem, fun b es ck hb => ⟨(H.mm b es ck hb).1, fun i x hi => (by cases hi)⟩,
      fun i b sz st o v hi => (by cases hi), fun i o hi => (by simp at hi), ?_, fun b o v B hv _ => hv, rfl⟩
    intro n a hn
    obtain ⟨h1, vs, h2, h3⟩ := H.glob n a hn
    exact ⟨h1, vs, VL_mono hz h1 h2, h3⟩
  have hs : Sim P Γ { K := fun b => w.heap[b]?, M0 := g.M, MM := g.MM, w0 := w } { ρ := fun _ => none, M := g.M, MM := g.MM } f cs (.cl f as [] []) (lone (Frame.enter P f us.toArray .normal) ([] ++ cs) w) :=
    ⟨_, w, us.toArray, [], rfl, H0, fun _ _ _ x => x, by simpa using VL_mono hz hbel hV, hb, rfl, fun _ => rfl⟩
  obtain ⟨m', steps, g2, w2, u, fr, rfl, H2, hM, hv, hfn, hleave⟩ := reach_sound hr _ hs
  · obtain ⟨g3, h1, h2, h3, h4, h5, h6⟩ := rebuildA H H2 hM hv hres
    exact ⟨.returned u, w2, fr, ⟨u, g3, rfl, h1, h2, h3, h4, h5, h6⟩, steps, hfn, hleave⟩

/-- What panics out of trees alone. -/
theorem DieCon.of {f : FuncId} {as : List AV} {v : AV} {hh : List Ob} (hb : hasBody P f = true) (hr : Reach P Γ (.cl f as [] []) (.die [] v hh)) (hbv : bel 0 v = true) (hnv : noM v = true) : DieCon P Γ f as v := by
  refine ⟨hb, hbv, hnv, fun hbel N g h w us H hV cs => ?_⟩
  have hz : Ext 0 g h { ρ := fun _ => none, M := g.M, MM := g.MM } [] := Ext.zero (fun _ _ _ x => x) (fun _ _ x => x)
  have H0 : Inv P Γ { K := fun b => w.heap[b]?, M0 := g.M, MM := g.MM, w0 := w } { ρ := fun _ => none, M := g.M, MM := g.MM } [] w := by
    refine ⟨rfl, rfl, rfl, fun b o hb => hb, fun i b x hi => (by cases hi), fun i j b x y hi => (by cases hi), fun _ _ => rfl, H.mem, fun b es ck hb => ⟨(H.mm b es ck hb).1, fun i x hi => (by cases hi)⟩,
      fun i b sz st o v hi => (by cases hi), fun i o hi => (by simp at hi), ?_, fun b o v B hv _ => hv, rfl⟩
    intro n a hn
    obtain ⟨h1, vs, h2, h3⟩ := H.glob n a hn
    exact ⟨h1, vs, VL_mono hz h1 h2, h3⟩
  have hs : Sim P Γ { K := fun b => w.heap[b]?, M0 := g.M, MM := g.MM, w0 := w } { ρ := fun _ => none, M := g.M, MM := g.MM } f cs (.cl f as [] []) (lone (Frame.enter P f us.toArray .normal) ([] ++ cs) w) :=
    ⟨_, w, us.toArray, [], rfl, H0, fun _ _ _ x => x, by simpa using VL_mono hz hbel hV, hb, rfl, fun _ => rfl⟩
  obtain ⟨m', steps, g2, w2, u, fr, rfl, H2, hM, hv, hfn, hleave⟩ := reach_sound hr _ hs
  obtain ⟨g3, _, h2, _, h4, h5, h6⟩ := rebuild (vs := []) (rs := []) (us := []) H H2 hM (by simp [VL]) (by simp [resL])
  simp only [unownL, List.append_nil] at h2
  exact ⟨_, w2, fr, ⟨u, g3, rfl, h2, V_noM hbv hnv hv, h4, h5, h6⟩, steps, hfn, hleave⟩
end
end Go.AM
/- The abstract machine: many steps at once. -/
namespace Go.AM

def stepN (P : Program) (Γ : Nat → Option AV) : Nat → Cfg → Cfg
  | 0, c => c
  | n + 1, c => stepN P Γ n (stepA P Γ c)

theorem Reach.steps {P : Program} {Γ : Nat → Option AV} : ∀ (n : Nat) (c : Cfg), Reach P Γ c (stepN P Γ n c)
  | 0, c => .refl c
  | n + 1, c => .trans (.step c) (Reach.steps n _)

/-- A step that stays at loops, at calls and at regions whose order is open. -/
def stepS (P : Program) (Γ : Nat → Option AV) : Cfg → Cfg
  | .fr f up h => match f.md with
    | .run => match f.its with
      | .code (.loop m b) :: k => .fr { f with its := .code (.loop m b) :: k } up h
      | .inLoop m b :: k => .fr { f with its := .inLoop m b :: k } up h
      | .code (.dreg l gs) :: k => .fr { f with its := .code (.dreg l gs) :: k } up h
      | its => stepRun P Γ f up h its
    | _ => stepOut P Γ f up h
  | .cl g args up h => .cl g args up h
  | .back (c :: up) v h => match c.finish v with
    | some c' => .fr c' up h
    | none => .bad
  | .back [] v h => .back [] v h
  | .die (c :: up) v h => match c.md with
    | .run => .fr { c with md := .pan v false } up h
    | _ => .bad
  | .die [] v h => .die [] v h
  | .bad => .bad

theorem stepS_or (P : Program) (Γ : Nat → Option AV) (c : Cfg) : stepS P Γ c = c ∨ stepS P Γ c = stepA P Γ c := by
  cases c with
  | fr f up h =>
    obtain ⟨md, fn, its, t, ds, kind, base⟩ := f
    cases md with
    | run =>
      simp only [stepS, stepA]
      split <;> first | exact Or.inl rfl | exact Or.inr rfl
    | ret => exact Or.inr rfl
    | pan v rc => exact Or.inr rfl
  | cl g args up h => exact Or.inl rfl
  | back up v h => cases up <;> exact Or.inr rfl
  | die up v h => cases up <;> exact Or.inr rfl
  | bad => exact Or.inl rfl

def runS (P : Program) (Γ : Nat → Option AV) : Nat → Cfg → Cfg
  | 0, c => c
  | n + 1, c => runS P Γ n (stepS P Γ c)

theorem Reach.runS {P : Program} {Γ : Nat → Option AV} : ∀ (n : Nat) (c : Cfg), Reach P Γ c (runS P Γ n c)
  | 0, c => .refl c
  | n + 1, c => by
    refine .trans ?_ (Reach.runS n _)
    rcases stepS_or P Γ c with h | h
    · rw [h]; exact .refl c
    · rw [h]; exact .step c

/-- On with it: n steps. -/
theorem Reach.on {P : Program} {Γ : Nat → Option AV} (n : Nat) {c c' : Cfg} (h : Reach P Γ (AM.runS P Γ n c) c') : Reach P Γ c c' := .trans (Reach.runS n c) h
theorem Reach.one {P : Program} {Γ : Nat → Option AV} {c c' : Cfg} (h : Reach P Γ (stepA P Γ c) c') : Reach P Γ c c' := .trans (.step c) h

section
variable {P : Program} {Γ : Nat → Option AV} {md : Md} {fn : FuncId} {its k : List It} {t : List AV} {ds : List ADef} {kind : FK} {base : Nat} {up : List Fr} {h : List Ob}

theorem runS_zero {c : Cfg} : runS P Γ 0 c = c := rfl
theorem runS_succ {n : Nat} {c : Cfg} : runS P Γ (n + 1) c = runS P Γ n (stepS P Γ c) := rfl
end
end Go.AM
/- The abstract machine: its steps as equations. -/
namespace Go.AM

section
variable {P : Program} {Γ : Nat → Option AV} {fn : FuncId} {k : List It} {t : List AV} {ds : List ADef} {kind : FK} {base : Nat} {up : List Fr} {h : List Ob}

theorem s_skip : stepS P Γ (.fr ⟨.run, fn, .code .skip :: k, t, ds, kind, base⟩ up h) = .fr ⟨.run, fn, k, t, ds, kind, base⟩ up h := rfl
theorem s_reg {os : List AG} : stepS P Γ (.fr ⟨.run, fn, .code (.reg os) :: k, t, ds, kind, base⟩ up h) = .fr ⟨.run, fn, .ops os :: k, t, ds, kind, base⟩ up h := rfl
theorem s_seq {a b : ACode} : stepS P Γ (.fr ⟨.run, fn, .code (.seq a b) :: k, t, ds, kind, base⟩ up h) = .fr ⟨.run, fn, .code a :: .code b :: k, t, ds, kind, base⟩ up h := rfl
theorem s_cond {x : AX} {a b : ACode} : stepS P Γ (.fr ⟨.run, fn, .code (.cond x a b) :: k, t, ds, kind, base⟩ up h) = (match ax t x with
    | .bool v => .fr ⟨.run, fn, .code (if v then a else b) :: k, t, ds, kind, base⟩ up h
    | _ => .bad) := rfl
theorem s_block {id : Nat} {m : List Bool} {b : ACode} : stepS P Γ (.fr ⟨.run, fn, .code (.block id m b) :: k, t, ds, kind, base⟩ up h) = .fr ⟨.run, fn, .code b :: .inBlock id m :: k, t, ds, kind, base⟩ up h := rfl
theorem s_inBlock {id : Nat} {m : List Bool} : stepS P Γ (.fr ⟨.run, fn, .inBlock id m :: k, t, ds, kind, base⟩ up h) = .fr ⟨.run, fn, k, maskT m t, ds, kind, base⟩ up h := rfl
theorem s_exit {id : Nat} : stepS P Γ (.fr ⟨.run, fn, .code (.exit id) :: k, t, ds, kind, base⟩ up h) = (match exitA id k with
    | some (k', m) => .fr ⟨.run, fn, k', maskT m t, ds, kind, base⟩ up h
    | none => leave ⟨.run, fn, .code (.exit id) :: k, t, ds, kind, base⟩ up h (.exit id)) := rfl
theorem s_ret : stepS P Γ (.fr ⟨.run, fn, .code .ret :: k, t, ds, kind, base⟩ up h) = leave ⟨.run, fn, .code .ret :: k, t, ds, kind, base⟩ up h .ret := rfl
theorem s_end : stepS P Γ (.fr ⟨.run, fn, [], t, ds, kind, base⟩ up h) = leave ⟨.run, fn, [], t, ds, kind, base⟩ up h .none := rfl
theorem s_ops0 : stepS P Γ (.fr ⟨.run, fn, .ops [] :: k, t, ds, kind, base⟩ up h) = .fr ⟨.run, fn, k, t, ds, kind, base⟩ up h := rfl
theorem s_op {d : Option Nat} {o : AO} {os : List AG} : stepS P Γ (.fr ⟨.run, fn, .ops (⟨d, none, o⟩ :: os) :: k, t, ds, kind, base⟩ up h) =
    goR P ⟨.run, fn, .ops (⟨d, none, o⟩ :: os) :: k, t, ds, kind, base⟩ up h ⟨d, none, o⟩ os k (aop P Γ t h o) := rfl
theorem s_opg {d : Option Nat} {j : Nat} {b : Bool} {o : AO} {os : List AG} : stepS P Γ (.fr ⟨.run, fn, .ops (⟨d, some (j, b), o⟩ :: os) :: k, t, ds, kind, base⟩ up h) = (match wantedA t (some (j, b)) with
    | some true => goR P ⟨.run, fn, .ops (⟨d, some (j, b), o⟩ :: os) :: k, t, ds, kind, base⟩ up h ⟨d, some (j, b), o⟩ os k (aop P Γ t h o)
    | some false => .fr ⟨.run, fn, .ops os :: k, setD t d (.tup []), ds, kind, base⟩ up h
    | none => .bad) := rfl
theorem s_loop {m : List Bool} {b : ACode} : stepS P Γ (.fr ⟨.run, fn, .code (.loop m b) :: k, t, ds, kind, base⟩ up h) = .fr ⟨.run, fn, .code (.loop m b) :: k, t, ds, kind, base⟩ up h := rfl
theorem s_inLoop {m : List Bool} {b : ACode} : stepS P Γ (.fr ⟨.run, fn, .inLoop m b :: k, t, ds, kind, base⟩ up h) = .fr ⟨.run, fn, .inLoop m b :: k, t, ds, kind, base⟩ up h := rfl
theorem s_dreg {l : List Bool} {gs : List AG} : stepS P Γ (.fr ⟨.run, fn, .code (.dreg l gs) :: k, t, ds, kind, base⟩ up h) = .fr ⟨.run, fn, .code (.dreg l gs) :: k, t, ds, kind, base⟩ up h := rfl
theorem s_out : stepS P Γ (.fr ⟨.ret, fn, k, t, ds, kind, base⟩ up h) = stepOut P Γ ⟨.ret, fn, k, t, ds, kind, base⟩ up h := rfl
theorem s_cl {g : FuncId} {args : List AV} : stepS P Γ (.cl g args up h) = .cl g args up h := rfl
theorem s_back {c : Fr} {v : AV} : stepS P Γ (.back (c :: up) v h) = (match c.finish v with
    | some c' => .fr c' up h
    | none => .bad) := rfl
theorem s_back0 {v : AV} : stepS P Γ (.back [] v h) = .back [] v h := rfl
theorem s_fin {f : Fr} {v : AV} : (match f.its with
  | .ops (o :: os) :: k => some { f with its := .ops os :: k, t := setD f.t o.dst v }
  | .inRange l :: k => some { f with its := .endRange l :: k }
  | _ => none) = f.finish v := rfl

/-- Into a loop, or round it. -/
theorem in_loop {m : List Bool} {b : ACode} {c : Cfg} (h1 : Reach P Γ (.fr ⟨.run, fn, .code b :: .inLoop m b :: k, maskT m t, ds, kind, base⟩ up h) c) : Reach P Γ (.fr ⟨.run, fn, .code (.loop m b) :: k, t, ds, kind, base⟩ up h) c := .one h1
theorem re_loop {m : List Bool} {b : ACode} {c : Cfg} (h1 : Reach P Γ (.fr ⟨.run, fn, .code b :: .inLoop m b :: k, maskT m t, ds, kind, base⟩ up h) c) : Reach P Γ (.fr ⟨.run, fn, .inLoop m b :: k, t, ds, kind, base⟩ up h) c := .one h1
/-- A call of a function of trees. -/
theorem Reach.con {f : FuncId} {args as : List AV} {r : AV} {c : Cfg} (h1 : viewL h args = some as) (h2 : PureCon P Γ f as r) (h3 : Reach P Γ (.back up (unownA h.length r).1 (afterPure h args r)) c) : Reach P Γ (.cl f args up h) c := .trans (.pure h1 h2) h3
/-- A function's start. -/
theorem enter_eq {f : FuncId} {F : AFun} (hF : cfun P f = some F) (as : List AV) {c : Cfg} (h1 : Reach P Γ (.fr ⟨.run, f, [.code F.body], as ++ List.replicate (F.nt - as.length) .undef, [], .norm, h.length⟩ up h) c) : Reach P Γ (.cl f as up h) c := by
  refine .one ?_
  simp only [stepA, hF, enter]
  exact h1
end
end Go.AM
/- The abstract machine: what simp uses. -/
namespace Go.AM
/-- A slot. -/
def slot (t : List AV) (i : Nat) : AV := t.getD i .undef
@[simp] theorem slot_zero (a : AV) (l : List AV) : slot (a :: l) 0 = a := rfl
@[simp] theorem slot_succ (a : AV) (l : List AV) (n : Nat) : slot (a :: l) (n + 1) = slot l n := rfl
@[simp] theorem ax_t (t : List AV) (i : Nat) : ax t (.t i) = slot t i := rfl
@[simp] theorem ax_c (t : List AV) (v : AV) : ax t (.c v) = v := rfl
@[simp] theorem ax_g (t : List AV) (n : Nat) : ax t (.g n) = .gptr n 0 := rfl
@[simp] theorem ax_f (t : List AV) (n : Nat) : ax t (.f n) = .fn (.func n) [] [] := rfl
@[simp] theorem wanted_none (t : List AV) : wantedA t none = some true := rfl
@[simp] theorem wanted_some (t : List AV) (j : Nat) (b : Bool) : wantedA t (some (j, b)) = (match slot t j with
    | .bool x => some (x == b)
    | .tup [] => some false
    | _ => none) := rfl
@[simp] theorem result_tmp (Γ : Nat → Option AV) (t : List AV) (h : List Ob) (i : Nat) : resultA Γ t h (.tmp i) = some (slot t i) := rfl
@[simp] theorem result_cell (Γ : Nat → Option AV) (t : List AV) (h : List Ob) (a sz : Nat) (g : Bool) : resultA Γ t h (.cell a g sz) = loadA Γ h g sz (slot t a) := rfl

@[simp] theorem eqData_sc (s : SK) (x y : AV) : eqData (.sc s) x y = eqOne s x y := rfl
@[simp] theorem eqData_iface1 (t : TypeId) (v : AV) : eqData .iface .nili (.ifc t v) = some false := rfl
@[simp] theorem eqData_iface2 (t : TypeId) (v : AV) : eqData .iface (.ifc t v) .nili = some false := rfl
@[simp] theorem eqData_nil1 : eqData .nil .nilf .nilf = some true := rfl
@[simp] theorem eqData_nil2 (f : Fn) (a b : List AV) : eqData .nil .nilf (.fn f a b) = some false := rfl
@[simp] theorem eqData_nil3 (f : Fn) (a b : List AV) : eqData .nil (.fn f a b) .nilf = some false := rfl
attribute [simp] callM enter recov runD calm aoClass runS_zero runS_succ s_skip s_reg s_seq s_cond s_block s_inBlock s_exit s_ret s_end s_ops0 s_op s_opg s_loop s_inLoop s_dreg s_out s_cl s_back s_back0 aop setD leave stepOut resultsA resultsL loadA storeA unownL unown unownA fillA AV.cells AV.ok over partA allOne AV.one exitA maskT binI Fr.finish telems telems' elems slen okSl appendA bound viewL view resA resOne resL afterPure noM noML share shareOne rowsOf rowsOfL partsIn fillE okList bel belL byteA

@[simp] theorem cmpI_eql (a b : Int) : cmpI .eql a b = decide (a = b) := by rw [Bool.eq_iff_iff]; simp [cmpI]
@[simp] theorem cmpI_neq (a b : Int) : cmpI .neq a b = !decide (a = b) := by rw [Bool.eq_iff_iff]; simp [cmpI]
@[simp] theorem cmpI_lss (a b : Int) : cmpI .lss a b = decide (a < b) := rfl
@[simp] theorem cmpI_leq (a b : Int) : cmpI .leq a b = decide (a ≤ b) := rfl
@[simp] theorem cmpI_gtr (a b : Int) : cmpI .gtr a b = decide (b < a) := rfl
@[simp] theorem cmpI_geq (a b : Int) : cmpI .geq a b = decide (b ≤ a) := rfl
@[simp] theorem eqOne_int (k : IntKind) (a b : Int) : eqOne .int (.int k a) (.int k b) = some (decide (a = b)) := by simp only [eqOne, if_true, Option.some.injEq]; rw [Bool.eq_iff_iff]; simp
@[simp] theorem eqOne_str (a b : List UInt8) : eqOne .str (.str a) (.str b) = some (decide (a = b)) := by simp only [eqOne, Option.some.injEq]; rw [Bool.eq_iff_iff]; simp
@[simp] theorem eqOne_bool (a b : Bool) : eqOne .bool (.bool a) (.bool b) = some (decide (a = b)) := by simp only [eqOne, Option.some.injEq]; rw [Bool.eq_iff_iff]; simp

/-- A byte against a number. -/
theorem u8_lit {c d : UInt8} {m : Int} (h : (d.toNat : Int) = m) : ((c.toNat : Int) = m) ↔ c = d := by
  subst h
  rw [Int.ofNat_inj]
  exact ⟨fun e => UInt8.toNat_inj.1 e, fun e => by rw [e]⟩
@[simp] theorem u8_u8 {c d : UInt8} : ((c.toNat : Int) = (d.toNat : Int)) ↔ c = d := u8_lit rfl

theorem u8_ofInt {m : Int} (h0 : 0 ≤ m) (h1 : m < 256) : ((UInt8.ofNat m.toNat).toNat : Int) = m := by
  rw [UInt8.toNat_ofNat_of_lt' (by simp [UInt8.size]; omega)]
  omega
@[simp] theorem u8_eq_lit (c : UInt8) (m : Int) (h0 : 0 ≤ m) (h1 : m < 256) : ((c.toNat : Int) = m) ↔ c = UInt8.ofNat m.toNat := by rw [← u8_u8, u8_ofInt h0 h1]
@[simp] theorem u8_lt {c d : UInt8} : ((c.toNat : Int) < (d.toNat : Int)) ↔ c < d := by rw [Int.ofNat_lt]; exact Iff.rfl
@[simp] theorem u8_le {c d : UInt8} : ((c.toNat : Int) ≤ (d.toNat : Int)) ↔ c ≤ d := by rw [Int.ofNat_le]; exact Iff.rfl
@[simp] theorem u8_lt_lit (c : UInt8) (m : Int) (h0 : 0 ≤ m) (h1 : m < 256) : ((c.toNat : Int) < m) ↔ c < UInt8.ofNat m.toNat := by rw [← u8_lt, u8_ofInt h0 h1]
@[simp] theorem u8_le_lit (c : UInt8) (m : Int) (h0 : 0 ≤ m) (h1 : m < 256) : ((c.toNat : Int) ≤ m) ↔ c ≤ UInt8.ofNat m.toNat := by rw [← u8_le, u8_ofInt h0 h1]
@[simp] theorem u8_lit_lt (c : UInt8) (m : Int) (h0 : 0 ≤ m) (h1 : m < 256) : (m < (c.toNat : Int)) ↔ UInt8.ofNat m.toNat < c := by rw [← u8_lt, u8_ofInt h0 h1]
@[simp] theorem u8_lit_le (c : UInt8) (m : Int) (h0 : 0 ≤ m) (h1 : m < 256) : (m ≤ (c.toNat : Int)) ↔ UInt8.ofNat m.toNat ≤ c := by rw [← u8_le, u8_ofInt h0 h1]

@[simp] theorem u8_nat {c d : UInt8} : (c.toNat = d.toNat) ↔ c = d := UInt8.toNat_inj
theorem wrap64 {n : Int} (h1 : -2 ^ 62 ≤ n) (h2 : n ≤ 2 ^ 62) : IntKind.i64.wrap n = n := by
  rw [IntKind.wrap_i64]; omega
end Go.AM
/- The abstract machine: a driver for simp. It stands still at loops, at calls, and at tests that are not decided. -/
namespace Go.AM

abbrev o (d : Nat) (x : AO) : AG := ⟨some d, none, x⟩
abbrev q (x : AO) : AG := ⟨none, none, x⟩
abbrev I : Bool := true
abbrev O : Bool := false
abbrev U : AV := .undef
/-- What a frame has beside its code, slots and objects. -/
structure Cx where
  ds : List ADef
  kind : FK
  base : Nat
  up : List Fr
abbrev cx : Cx := ⟨[], .norm, 0, []⟩
/-- A place in a function's code, and the slots there. -/
abbrev atC (fn : FuncId) (its : List It) (t : List AV) (h : List Ob) (e : Cx) : Cfg := .fr ⟨.run, fn, its, t, e.ds, e.kind, e.base⟩ e.up h

/-- No operation is loose. -/
@[simp] def tight : List Bool → List AG → Bool
  | _, [] => true
  | false :: l, _ :: os => tight l os
  | _, _ => false

/-- The operations one after the other, without calls. -/
def runN (P : Program) (Γ : Nat → Option AV) : List AG → List AV → List Ob → Option (List AV × List Ob)
  | [], t, h => some (t, h)
  | o :: os, t, h =>
    match wantedA t o.guard with
    | some true => match aop P Γ t h o.op with
      | .val v h' => runN P Γ os (setD t o.dst v) h'
      | .skip h' => runN P Γ os (setD t o.dst (.tup [])) h'
      | _ => none
    | some false => runN P Γ os (setD t o.dst (.tup [])) h
    | none => none

theorem runD_of {P : Program} {Γ : Nat → Option AV} : ∀ {gs : List AG} {t : List AV} {h : List Ob} {p : List AV × List Ob}, runN P Γ gs t h = some p → ∃ hs, runD P Γ [] gs t h = some (p.1, p.2, [], hs)
  | [], t, h, p, hr => by simp only [runN, Option.some.injEq] at hr; subst hr; exact ⟨[], rfl⟩
  | o :: os, t, h, p, hr => by
    unfold runN at hr
    unfold runD
    cases hw : wantedA t o.guard with
    | none => rw [hw] at hr; cases hr
    | some b =>
      rw [hw] at hr
      cases b with
      | false =>
        simp only at hr ⊢
        exact runD_of hr
      | true =>
        simp only at hr ⊢
        cases ha : aop P Γ t h o.op with
        | val v h' =>
          rw [ha] at hr
          simp only at hr ⊢
          obtain ⟨hs, h1⟩ := runD_of hr
          exact ⟨_, by rw [h1]; rfl⟩
        | skip h' =>
          rw [ha] at hr
          simp only at hr ⊢
          obtain ⟨hs, h1⟩ := runD_of hr
          exact ⟨_, by rw [h1]; rfl⟩
        | _ => rw [ha] at hr; simp at hr

/-- What an operation comes to, and on. -/
def runR (P : Program) (Γ : Nat → Option AV) (os : List AG) (d : Option Nat) (t : List AV) : R → Option (List AV × List Ob)
  | .val v h' => runN P Γ os (setD t d v) h'
  | .skip h' => runN P Γ os (setD t d (.tup [])) h'
  | _ => none

/-- A region whose order is open, without calls, and with nothing that reads beside what writes. -/
def stayD (P : Program) (Γ : Nat → Option AV) (l : List Bool) (gs : List AG) (t : List AV) (h : List Ob) : Option (List AV × List Ob) :=
  if tight l gs = true then runN P Γ gs t h else none

def stepG (P : Program) (Γ : Nat → Option AV) (st : Bool) : Cfg → Cfg
  | .fr f up h => match f.md with
    | .run => match f.its with
      | .code (.loop m b) :: k => .fr { f with its := .code (.loop m b) :: k } up h
      | .inLoop m b :: k => .fr { f with its := .inLoop m b :: k } up h
      | .code (.dreg l gs) :: k => match stayD P Γ l gs f.t h with
        | some p => .fr { f with its := k, t := p.1 } up p.2
        | none => .fr { f with its := .code (.dreg l gs) :: k } up h
      | .code (.exit id) :: k => match exitA id k with
        | some (k', m) => if st && !m.isEmpty then .fr { f with its := .code (.exit id) :: k } up h else .fr { f with its := k', t := maskT m f.t } up h
        | none => leave f up h (.exit id)
      | its => stepRun P Γ f up h its
    | _ => stepOut P Γ f up h
  | .cl g args up h => .cl g args up h
  | .back (c :: up) v h => match c.finish v with
    | some c' => .fr c' up h
    | none => .bad
  | .back [] v h => .back [] v h
  | .die (c :: up) v h => match c.md with
    | .run => .fr { c with md := .pan v false } up h
    | _ => .bad
  | .die [] v h => .die [] v h
  | .bad => .bad

theorem calm_of {P : Program} {Γ : Nat → Option AV} {obls : List Obl} {hs : List (List Ob)} : ∀ {gs : List AG} {l : List Bool} {orc : List (AV × List Ob)} {t : List AV} {h : List Ob} {x}, tight l gs = true → runD P Γ orc gs t h = some x → calm P Γ obls hs l orc gs t h
  | [], _, _, _, _, _, _, _ => trivial
  | o :: os, [], orc, t, h, x, hl, hr => by simp [tight] at hl
  | o :: os, true :: l, orc, t, h, x, hl, hr => by simp [tight] at hl
  | o :: os, false :: l, orc, t, h, x, hl, hr => by
    simp only [tight] at hl
    unfold calm
    unfold runD at hr
    split at hr
    · split at hr
      · rename_i v h' ha
        rw [Option.map_eq_some_iff] at hr
        obtain ⟨y, hy, _⟩ := hr
        exact ⟨fun hb => (by cases hb), calm_of hl hy⟩
      · rename_i h' ha
        rw [Option.map_eq_some_iff] at hr
        obtain ⟨y, hy, _⟩ := hr
        exact calm_of hl hy
      · rename_i f args ha
        split at hr
        · cases hr
        · split at hr
          · rw [Option.map_eq_some_iff] at hr
            obtain ⟨y, hy, _⟩ := hr
            exact ⟨fun hb => (by cases hb), calm_of hl hy⟩
          · cases hr
      · cases hr
    · exact calm_of hl hr
    · cases hr

theorem Reach.stepG {P : Program} {Γ : Nat → Option AV} {st : Bool} (c : Cfg) : Reach P Γ c (AM.stepG P Γ st c) := by
  cases c with
  | fr f up h =>
    obtain ⟨md, fn, its, t, ds, kind, base⟩ := f
    cases md with
    | run =>
      simp only [AM.stepG]
      split
      · exact .refl _
      · exact .refl _
      · rename_i l gs k
        split
        · rename_i p hp
          unfold stayD at hp
          split at hp
          · rename_i ht
            obtain ⟨hs, hr⟩ := runD_of hp
            exact .dreg (f := ⟨.run, fn, .code (.dreg l gs) :: k, t, ds, kind, base⟩) rfl rfl hr (fun _ ho => ho) (by simp) (calm_of ht hr)
          · cases hp
        · exact .refl _
      · rename_i id k
        split
        · rename_i k' m he
          split
          · exact .refl _
          · refine .one ?_
            simp only [stepA, stepRun, he]
            exact .refl _
        · rename_i he
          refine .one ?_
          simp only [stepA, stepRun, he]
          exact .refl _
      · exact .step _
    | ret => exact .step _
    | pan v rc => exact .step _
  | cl g args up h => exact .refl _
  | back up v h => cases up <;> first | exact .refl _ | exact .step _
  | die up v h => cases up <;> first | exact .refl _ | exact .step _
  | bad => exact .refl _

/-- st: it stops where a loop is left. -/
def go (P : Program) (Γ : Nat → Option AV) (st : Bool) : Nat → Cfg → Cfg
  | 0, c => c
  | n + 1, c => go P Γ st n (stepG P Γ st c)

theorem Reach.goes {P : Program} {Γ : Nat → Option AV} {st : Bool} : ∀ (n : Nat) (c : Cfg), Reach P Γ c (AM.go P Γ st n c)
  | 0, c => .refl c
  | n + 1, c => .trans (.stepG c) (Reach.goes n _)
/-- On with it. -/
theorem Reach.go {P : Program} {Γ : Nat → Option AV} (n : Nat) {c c' : Cfg} (h : Reach P Γ (AM.go P Γ false n c) c') : Reach P Γ c c' := .trans (Reach.goes n c) h
/-- On with it, as far as the loop's end. -/
theorem Reach.goS {P : Program} {Γ : Nat → Option AV} (n : Nat) {c c' : Cfg} (h : Reach P Γ (AM.go P Γ true n c) c') : Reach P Γ c c' := .trans (Reach.goes n c) h

section
variable {P : Program} {Γ : Nat → Option AV} {st : Bool} {n : Nat} {fn : FuncId} {k : List It} {t : List AV} {ds : List ADef} {kind : FK} {base : Nat} {up : List Fr} {h h' : List Ob}

theorem go_stay {c : Cfg} (hc : stepG P Γ st c = c) : ∀ n, go P Γ st n c = c
  | 0 => rfl
  | n + 1 => by rw [go, hc]; exact go_stay hc n

@[simp] theorem go_skip : go P Γ st (n + 1) (.fr ⟨.run, fn, .code .skip :: k, t, ds, kind, base⟩ up h) = go P Γ st n (.fr ⟨.run, fn, k, t, ds, kind, base⟩ up h) := (rfl)
@[simp] theorem go_reg {os : List AG} : go P Γ st (n + 1) (.fr ⟨.run, fn, .code (.reg os) :: k, t, ds, kind, base⟩ up h) = go P Γ st n (.fr ⟨.run, fn, .ops os :: k, t, ds, kind, base⟩ up h) := (rfl)
@[simp] theorem go_seq {a b : ACode} : go P Γ st (n + 1) (.fr ⟨.run, fn, .code (.seq a b) :: k, t, ds, kind, base⟩ up h) = go P Γ st n (.fr ⟨.run, fn, .code a :: .code b :: k, t, ds, kind, base⟩ up h) := (rfl)
@[simp] theorem go_cond {x : AX} {a b : ACode} : go P Γ st (n + 1) (.fr ⟨.run, fn, .code (.cond x a b) :: k, t, ds, kind, base⟩ up h) = go P Γ st n (match ax t x with
    | .bool v => .fr ⟨.run, fn, .code (if v then a else b) :: k, t, ds, kind, base⟩ up h
    | _ => .bad) := (rfl)
@[simp] theorem go_block {id : Nat} {m : List Bool} {b : ACode} : go P Γ st (n + 1) (.fr ⟨.run, fn, .code (.block id m b) :: k, t, ds, kind, base⟩ up h) = go P Γ st n (.fr ⟨.run, fn, .code b :: .inBlock id m :: k, t, ds, kind, base⟩ up h) := (rfl)
@[simp] theorem go_inBlock {id : Nat} {m : List Bool} : go P Γ st (n + 1) (.fr ⟨.run, fn, .inBlock id m :: k, t, ds, kind, base⟩ up h) = go P Γ st n (.fr ⟨.run, fn, k, maskT m t, ds, kind, base⟩ up h) := (rfl)
@[simp] theorem go_exit {id : Nat} : go P Γ st (n + 1) (.fr ⟨.run, fn, .code (.exit id) :: k, t, ds, kind, base⟩ up h) = go P Γ st n (match exitA id k with
    | some (k', m) => if st && !m.isEmpty then .fr ⟨.run, fn, .code (.exit id) :: k, t, ds, kind, base⟩ up h else .fr ⟨.run, fn, k', maskT m t, ds, kind, base⟩ up h
    | none => leave ⟨.run, fn, .code (.exit id) :: k, t, ds, kind, base⟩ up h (.exit id)) := (rfl)
@[simp] theorem go_ret : go P Γ st (n + 1) (.fr ⟨.run, fn, .code .ret :: k, t, ds, kind, base⟩ up h) = go P Γ st n (leave ⟨.run, fn, .code .ret :: k, t, ds, kind, base⟩ up h .ret) := (rfl)
@[simp] theorem go_end : go P Γ st (n + 1) (.fr ⟨.run, fn, [], t, ds, kind, base⟩ up h) = go P Γ st n (leave ⟨.run, fn, [], t, ds, kind, base⟩ up h .none) := (rfl)
@[simp] theorem go_ops0 : go P Γ st (n + 1) (.fr ⟨.run, fn, .ops [] :: k, t, ds, kind, base⟩ up h) = go P Γ st n (.fr ⟨.run, fn, k, t, ds, kind, base⟩ up h) := (rfl)
@[simp] theorem go_op {d : Option Nat} {o : AO} {os : List AG} : go P Γ st (n + 1) (.fr ⟨.run, fn, .ops (⟨d, none, o⟩ :: os) :: k, t, ds, kind, base⟩ up h) =
    go P Γ st n (goR P ⟨.run, fn, .ops (⟨d, none, o⟩ :: os) :: k, t, ds, kind, base⟩ up h ⟨d, none, o⟩ os k (aop P Γ t h o)) := (rfl)
@[simp] theorem go_opg {d : Option Nat} {j : Nat} {b : Bool} {o : AO} {os : List AG} : go P Γ st (n + 1) (.fr ⟨.run, fn, .ops (⟨d, some (j, b), o⟩ :: os) :: k, t, ds, kind, base⟩ up h) = go P Γ st n (match wantedA t (some (j, b)) with
    | some true => goR P ⟨.run, fn, .ops (⟨d, some (j, b), o⟩ :: os) :: k, t, ds, kind, base⟩ up h ⟨d, some (j, b), o⟩ os k (aop P Γ t h o)
    | some false => .fr ⟨.run, fn, .ops os :: k, setD t d (.tup []), ds, kind, base⟩ up h
    | none => .bad) := (rfl)
@[simp] theorem go_loop {m : List Bool} {b : ACode} : go P Γ st n (.fr ⟨.run, fn, .code (.loop m b) :: k, t, ds, kind, base⟩ up h) = .fr ⟨.run, fn, .code (.loop m b) :: k, t, ds, kind, base⟩ up h := go_stay rfl n
@[simp] theorem go_inLoop {m : List Bool} {b : ACode} : go P Γ st n (.fr ⟨.run, fn, .inLoop m b :: k, t, ds, kind, base⟩ up h) = .fr ⟨.run, fn, .inLoop m b :: k, t, ds, kind, base⟩ up h := go_stay rfl n
@[simp] theorem go_dregs {l : List Bool} {gs : List AG} : go P Γ st (n + 1) (.fr ⟨.run, fn, .code (.dreg l gs) :: k, t, ds, kind, base⟩ up h) = (if tight l gs = true then (match runN P Γ gs t h with
    | some p => go P Γ st n (.fr ⟨.run, fn, k, p.1, ds, kind, base⟩ up p.2)
    | none => .fr ⟨.run, fn, .code (.dreg l gs) :: k, t, ds, kind, base⟩ up h) else .fr ⟨.run, fn, .code (.dreg l gs) :: k, t, ds, kind, base⟩ up h) := by
  split
  · rename_i ht
    split
    · rename_i p hr
      have hp : stayD P Γ l gs t h = some p := by simp only [stayD, ht, if_true, hr]
      simp only [go, stepG, hp]
    · rename_i hr
      refine go_stay ?_ _
      have hp : stayD P Γ l gs t h = none := by simp only [stayD, ht, if_true, hr]
      simp only [stepG, hp]
  · rename_i ht
    refine go_stay ?_ _
    have hp : stayD P Γ l gs t h = none := by simp [stayD, ht]
    simp only [stepG, hp]
@[simp] theorem runN_nil : runN P Γ [] t h = some (t, h) := (rfl)
@[simp] theorem runN_op {d : Option Nat} {o : AO} {os : List AG} : runN P Γ (⟨d, none, o⟩ :: os) t h = runR P Γ os d t (aop P Γ t h o) := (rfl)
@[simp] theorem runN_opg {d : Option Nat} {j : Nat} {b : Bool} {o : AO} {os : List AG} : runN P Γ (⟨d, some (j, b), o⟩ :: os) t h = (match wantedA t (some (j, b)) with
    | some true => runR P Γ os d t (aop P Γ t h o)
    | some false => runN P Γ os (setD t d (.tup [])) h
    | none => none) := (rfl)
@[simp] theorem runR_val {os : List AG} {d : Option Nat} {v : AV} : runR P Γ os d t (.val v h) = runN P Γ os (setD t d v) h := (rfl)
@[simp] theorem runR_skip {os : List AG} {d : Option Nat} : runR P Γ os d t (.skip h) = runN P Γ os (setD t d (.tup [])) h := (rfl)
@[simp] theorem runR_call {os : List AG} {d : Option Nat} {f : FuncId} {args : List AV} : runR P Γ os d t (.call f args) = none := (rfl)
@[simp] theorem goR_val {f : Fr} {o : AG} {os : List AG} {v : AV} : goR P f up h o os k (.val v h') = .fr ⟨f.md, f.fn, .ops os :: k, setD f.t o.dst v, f.ds, f.kind, f.base⟩ up h' := (rfl)
@[simp] theorem goR_skip {f : Fr} {o : AG} {os : List AG} : goR P f up h o os k (.skip h') = .fr ⟨f.md, f.fn, .ops os :: k, setD f.t o.dst (.tup []), f.ds, f.kind, f.base⟩ up h' := (rfl)
@[simp] theorem goR_pan {f : Fr} {o : AG} {os : List AG} {v : AV} : goR P f up h o os k (.pan v) = .fr ⟨.pan v false, f.fn, f.its, f.t, f.ds, f.kind, f.base⟩ up h := (rfl)
@[simp] theorem goR_call {f : Fr} {o : AG} {os : List AG} {g : FuncId} {args : List AV} : goR P f up h o os k (.call g args) = if hasBody P g = true then .cl g args (f :: up) h else .bad := (rfl)
@[simp] theorem goR_rcv {f : Fr} {o : AG} {os : List AG} : goR P f up h o os k .rcv = (match recov f up with
  | some (v, up') => .fr { f with its := .ops os :: k, t := setD f.t o.dst v } up' h
  | none => .bad) := (rfl)
@[simp] theorem goR_dfr {f : Fr} {o : AG} {os : List AG} {g : FuncId} {args : List AV} : goR P f up h o os k (.dfr g args) = (match f.kind with
    | .round _ => .bad
    | _ => .fr { f with its := .ops os :: k, t := setD f.t o.dst (.tup []), ds := .call g args :: f.ds } up h) := (rfl)
@[simp] theorem goR_yield {f : Fr} {o : AG} {os : List AG} {l : Nat} {args : List AV} : goR P f up h o os k (.yield l args) = (match h[l]? with
    | some (.loop _ _ fn t ps a b) =>
      if args.length = ps.length then
        .fr { md := .run, fn := fn, its := [.code a, .beginRound, .code b], t := setAll t ps args, ds := [], kind := .round l, base := h.length } (f :: up) h
      else .bad
    | _ => .bad) := (rfl)
@[simp] theorem goR_bad {f : Fr} {o : AG} {os : List AG} : goR P f up h o os k .bad = .bad := (rfl)
theorem go_dreg {l : List Bool} {gs : List AG} {p : List AV × List Ob} (hp : stayD P Γ l gs t h = some p) : go P Γ st (n + 1) (.fr ⟨.run, fn, .code (.dreg l gs) :: k, t, ds, kind, base⟩ up h) = go P Γ st n (.fr ⟨.run, fn, k, p.1, ds, kind, base⟩ up p.2) := by
  simp only [go, stepG, hp]
@[simp] theorem go_rangeFunc {x : AX} {ps : List Nat} {m : List Bool} {a b : ACode} : go P Γ st (n + 1) (.fr ⟨.run, fn, .code (.rangeFunc x ps m a b) :: k, t, ds, kind, base⟩ up h) = go P Γ st n (match ax t x with
    | .fn (.func g) fs cs => if hasBody P g = false then .bad else match kind with
      | .round _ => .cl g (fs ++ .yld h.length :: cs) (⟨.run, fn, .inRange h.length :: k, t, ds, kind, base⟩ :: up) (h ++ [.loop .ready .none fn (maskT m t) ps a b])
      | _ => .cl g (fs ++ .yld (h.length + 1) :: cs) (⟨.run, fn, .inRange (h.length + 1) :: k, t, .mark h.length :: ds, kind, base⟩ :: up) (h ++ [.dfr true, .loop .ready .none fn (maskT m t) ps a b])
    | _ => .bad) := (rfl)
@[simp] theorem go_beginRound : go P Γ st (n + 1) (.fr ⟨.run, fn, .beginRound :: k, t, ds, kind, base⟩ up h) = go P Γ st n (match kind with
    | .round l => match h[l]? with
      | some (.loop .ready j fn' t' ps a b) => .fr ⟨.run, fn, k, t, ds, kind, base⟩ up (h.set l (.loop .busy j fn' t' ps a b))
      | _ => .bad
    | _ => .bad) := (rfl)
@[simp] theorem go_endRange {l : Nat} : go P Γ st (n + 1) (.fr ⟨.run, fn, .endRange l :: k, t, ds, kind, base⟩ up h) = go P Γ st n (match h[l]? with
    | some (.loop sta j fn' t' ps a b) =>
      if sta = .busy then .bad
      else .fr ⟨.run, fn, (match j with | .none => k | .ret => .code .ret :: k | .exit id => .code (.exit id) :: k), t, ds, kind, base⟩ up (h.set l (.loop .exhausted j fn' t' ps a b))
    | _ => .bad) := (rfl)
@[simp] theorem go_out : go P Γ st (n + 1) (.fr ⟨.ret, fn, k, t, ds, kind, base⟩ up h) = go P Γ st n (stepOut P Γ ⟨.ret, fn, k, t, ds, kind, base⟩ up h) := (rfl)
@[simp] theorem go_pan {v : AV} {rc : Bool} : go P Γ st (n + 1) (.fr ⟨.pan v rc, fn, k, t, ds, kind, base⟩ up h) = go P Γ st n (stepOut P Γ ⟨.pan v rc, fn, k, t, ds, kind, base⟩ up h) := (rfl)
@[simp] theorem go_cl {g : FuncId} {args : List AV} : go P Γ st n (.cl g args up h) = .cl g args up h := go_stay rfl n
@[simp] theorem go_back {c : Fr} {v : AV} : go P Γ st (n + 1) (.back (c :: up) v h) = go P Γ st n (match c.finish v with
    | some c' => .fr c' up h
    | none => .bad) := (rfl)
@[simp] theorem go_back0 {v : AV} : go P Γ st n (.back [] v h) = .back [] v h := go_stay rfl n
@[simp] theorem go_die {c : Fr} {v : AV} : go P Γ st (n + 1) (.die (c :: up) v h) = go P Γ st n (match c.md with
    | .run => .fr { c with md := .pan v false } up h
    | _ => .bad) := (rfl)
@[simp] theorem go_die0 {v : AV} : go P Γ st n (.die [] v h) = .die [] v h := go_stay rfl n
@[simp] theorem go_bad : go P Γ st n .bad = .bad := go_stay rfl n
@[simp] theorem go_zero {c : Cfg} : go P Γ st 0 c = c := (rfl)
theorem go_ite {p : Prop} [Decidable p] {a b : Cfg} (hp : p) : go P Γ st n (if p then a else b) = go P Γ st n a := by rw [if_pos hp]
end
end Go.AM
/- The abstract machine: arguments that read as data are trees of their types' shapes. -/
namespace Go.AM
open Go.ChangeShapes Go.WideShapes Go.ChangeAt Go.RowKit

/-- Shapes of data. -/
inductive Sh where
  | bool | str
  | int (k : IntKind)
  | list (k : Nat) (ag : Bool) (e : Sh)
  | parts (l : List Sh)

/-- One value out of cells. -/
def mkA : Bool → List AV → AV
  | true, cs => .agg cs
  | false, [c] => c
  | false, _ => .undef

mutual
/-- Cells of a shape. -/
def IsSh : Sh → List AV → Prop
  | .bool, cs => ∃ b, cs = [.bool b]
  | .str, cs => ∃ s : List UInt8, cs = [.str s] ∧ s.length ≤ 9223372036854775807
  | .int k, cs => ∃ n, cs = [.int k n] ∧ k.min ≤ n ∧ n ≤ k.max
  | .list k ag e, cs => ∃ xs : List (List AV), cs = [.list false k (xs.map (mkA ag))] ∧ xs.length ≤ 9223372036854775807 ∧ ∀ x ∈ xs, IsSh e x ∧ x.length = k
  | .parts l, cs => IsShL l cs
def IsShL : List Sh → List AV → Prop
  | [], cs => cs = []
  | s :: ss, cs => ∃ a b, cs = a ++ b ∧ IsSh s a ∧ IsShL ss b
end

/-- A type's shape. -/
def shT (P : Program) : Nat → TypeId → Option Sh
  | 0, _ => none
  | n + 1, t => match P.underlying t with
    | some .bool => some .bool
    | some .string => some .str
    | some (.int k) => some (.int k)
    | some (.slice e) => match shT P n e, tAgg P e with
      | some s, some ag => if P.cellsOf e = 0 ∨ (ag = false ∧ P.cellsOf e ≠ 1) then none else some (.list (P.cellsOf e) ag s)
      | _, _ => none
    | some (.struct fs) => (fs.toList.mapM fun f => shT P n f.type).map .parts
    | some (.array m e) => (shT P n e).map fun s => .parts (List.replicate m s)
    | _ => none

/-- The memory as it is. -/
def gw (w : World) : G := { ρ := fun _ => none, M := fun b o => w.cell? ⟨b, o, none⟩, MM := fun b => match w.heap[b]? with | some (.map es ck) => some (es, ck) | _ => none }

theorem IsShL_append {ss ts : List Sh} : ∀ {a b : List AV}, IsShL ss a → IsShL ts b → IsShL (ss ++ ts) (a ++ b) := by
  induction ss with
  | nil => intro a b h1 h2; simp only [IsShL] at h1; subst h1; simpa using h2
  | cons s ss ih =>
    intro a b h1 h2
    simp only [IsShL, List.cons_append] at h1 ⊢
    obtain ⟨x, y, rfl, h3, h4⟩ := h1
    exact ⟨x, y ++ b, by simp, h3, ih h4 h2⟩

section
variable {P : Program} {w : World} {H : Type} {enc : TypeId × Value → H} {sp : Nat → Bool} {T : TypeId → Prop}

/-- What is read, as a tree. -/
def Rd (w : World) (s : Sh) (cs : List Value) : Prop := ∃ as, IsSh s as ∧ VL (gw w) [] as cs ∧ allOne as = true ∧ belL 0 as = true

theorem allOne_append {as bs : List AV} (h1 : allOne as = true) (h2 : allOne bs = true) : allOne (as ++ bs) = true := by
  induction as with
  | nil => simpa using h2
  | cons a as ih => simp only [allOne, List.cons_append, Bool.and_eq_true] at h1 ⊢; exact ⟨h1.1, ih h1.2⟩
theorem belL_append' {n : Nat} {as bs : List AV} (h1 : belL n as = true) (h2 : belL n bs = true) : belL n (as ++ bs) = true := by
  induction as with
  | nil => simpa using h2
  | cons a as ih => simp only [belL, List.cons_append, Bool.and_eq_true] at h1 ⊢; exact ⟨h1.1, ih h1.2⟩

theorem mkA_cells {ag : Bool} {as : List AV} {k : Nat} (hk : as.length = k) (h1 : ag = true ∨ k = 1) (ho : allOne as = true) : (mkA ag as).cells = as := by
  cases ag with
  | true => rfl
  | false =>
    have : k = 1 := by simpa using h1
    subst this
    match as, hk with
    | [c], _ => simp [mkA]; simp [allOne] at ho; cases c <;> simp_all [AV.cells, AV.one]

theorem okList_append' {k : Nat} : ∀ {es fs : List AV}, okList es k = true → okList fs k = true → okList (es ++ fs) k = true
  | [], _, _, h2 => by simpa using h2
  | e :: es, fs, h1, h2 => by
    simp only [okList, List.cons_append, Bool.and_eq_true] at h1 ⊢
    exact ⟨h1.1, okList_append' h1.2 h2⟩

theorem parts_read {n : Nat} {r : List Value → Sh → Prop} : ∀ (ss : List Sh) (css : List (List Value)), css.length = ss.length → (∀ (i : Nat) s c, ss[i]? = some s → css[i]? = some c → Rd w s c) →
    ∃ as, IsShL ss as ∧ VL (gw w) [] as css.flatten ∧ allOne as = true ∧ belL 0 as = true
  | [], css, hl, _ => by
    have : css = [] := by simpa using hl
    subst this
    exact ⟨[], by simp [IsShL], by simp [VL], rfl, rfl⟩
  | s :: ss, css, hl, hr => by
    match css, hl with
    | c :: css, hl =>
      obtain ⟨a, h1, h2, h3, h4⟩ := hr 0 s c rfl rfl
      obtain ⟨b, h5, h6, h7, h8⟩ := parts_read (n := n) (r := r) ss css (by simpa using hl) (fun i s c hs hc => hr (i + 1) s c (by simpa using hs) (by simpa using hc))
      exact ⟨a ++ b, by simp only [IsShL]; exact ⟨a, b, rfl, h1, h5⟩, by simpa using VL_append h2 h6, allOne_append h3 h7, belL_append' h4 h8⟩

/-- Cells, cut at their parts' sizes. -/
theorem cut_flat {α : Type} : ∀ (ns : List Nat) (cs : List α), cs.length = ns.sum → ∃ css : List (List α), css.length = ns.length ∧ css.flatten = cs ∧ ∀ (i n : Nat), ns[i]? = some n → css[i]? = some ((cs.drop (ns.take i).sum).take n)
  | [], cs, h => ⟨[], rfl, by simp at h; simp [h], by simp⟩
  | n :: ns, cs, h => by
    obtain ⟨css, h1, h2, h3⟩ := cut_flat ns (cs.drop n) (by simp at h ⊢; omega)
    refine ⟨cs.take n :: css, by simp [h1], by simp [h2], ?_⟩
    intro i m hi
    cases i with
    | zero => simp at hi; subst hi; simp
    | succ i =>
      simp only [List.getElem?_cons_succ, List.take_succ_cons, List.sum_cons] at hi ⊢
      rw [h3 i m hi, List.drop_drop]

theorem rd_of (K : Kids P T) : ∀ (n : Nat) (t : TypeId) (s : Sh), T t → shT P n t = some s → ∀ (fuel : Nat) (cs : List Value) (x : DataW H × List MemPlace), DataW.trod enc P w 0 sp true fuel t cs = some x → Rd w s cs := by
  intro n
  induction n with
  | zero => intro t s _ hs; simp [shT] at hs
  | succ n ih =>
    intro t s hT hs fuel cs x hx
    unfold shT at hs
    split at hs
    · rename_i hu
      cases hs
      obtain ⟨b, rfl, _⟩ := DataW.trod_bool hu hx
      exact ⟨[.bool b], by simp [IsSh], by simp [VL, V], rfl, rfl⟩
    · rename_i hu
      cases hs
      obtain ⟨b, rfl, _, h⟩ := DataW.trod_string hu hx
      refine ⟨[.str b.data.toList], ?_, by simp [VL, V], rfl, rfl⟩
      simp only [IsSh]
      exact ⟨_, rfl, by simpa [maxLen] using h⟩
    · rename_i k hu
      cases hs
      obtain ⟨i, rfl, _, h⟩ := DataW.trod_int hu hx
      refine ⟨[.int k i], ?_, by simp [VL, V], rfl, rfl⟩
      simp only [Lit.wf, Bool.and_eq_true, decide_eq_true_eq] at h
      simp only [IsSh]
      exact ⟨i, rfl, h.1, h.2⟩
    · rename_i e hu
      split at hs
      · rename_i se ag hse hag
        split at hs
        · cases hs
        · rename_i hk
          cases hs
          have hTe := K.slice hT hu
          have hk0 : 0 < P.cellsOf e := by omega
          have hk1 : ag = true ∨ P.cellsOf e = 1 := by cases ag <;> simp_all
          rcases DataW.trod_slice hu hx with ⟨rfl, _⟩ | ⟨a, len, cap, elems, rest, m, _, rfl, _, _, hlc, hcap, hel, hget, _⟩
          · refine ⟨[.list false (P.cellsOf e) []], ?_, ?_, rfl, rfl⟩
            · simp only [IsSh]
              exact ⟨[], rfl, by simp, by simp⟩
            · simp [VL, V, okList]
          · have key : ∀ q, q ≤ len → ∃ xs : List (List AV), xs.length = q ∧ (∀ x ∈ xs, IsSh se x ∧ x.length = P.cellsOf e) ∧ okList (xs.map (mkA ag)) (P.cellsOf e) = true ∧
                ∃ vs, VE (gw w) [] (xs.map (mkA ag)) vs ∧ vs.length = q * P.cellsOf e ∧ ∀ j (hj : j < vs.length), w.cell? (a.add j) = some vs[j] := by
              intro q
              induction q with
              | zero => intro _; exact ⟨[], rfl, by simp, rfl, [], by simp [VE], by simp, by simp⟩
              | succ q ihq =>
                intro hq
                obtain ⟨xs, h1, h2, h3, vs, h4, h5, h6⟩ := ihq (by omega)
                have hg := hget q (by omega)
                obtain ⟨y, hy⟩ : ∃ y, elems[q]? = some y := ⟨elems[q]'(by omega), List.getElem?_eq_getElem (by omega)⟩
                rw [hy, Option.bind_eq_some_iff] at hg
                obtain ⟨c, hc, ht⟩ := hg
                obtain ⟨as, g1, g2, g3, g4⟩ := ih e se hTe hse _ _ _ ht
                unfold World.cells? at hc
                split at hc
                · have hcl : c.length = P.cellsOf e := by simpa using mapM_some_length hc
                  have hal : as.length = P.cellsOf e := by rw [← VL_length g2]; exact hcl
                  have hcells := mkA_cells hal hk1 g3
                  refine ⟨xs ++ [as], by simp [h1], ?_, ?_, vs ++ c, ?_, ?_, ?_⟩
                  · intro x hx
                    rcases List.mem_append.1 hx with hx | hx
                    · exact h2 x hx
                    · simp at hx; subst hx; exact ⟨g1, hal⟩
                  · rw [List.map_append]
                    refine okList_append' h3 ?_
                    simp only [List.map_cons, List.map_nil, okList, hcells, hal, g3, g4, decide_true, Bool.and_true]
                  · rw [List.map_append]
                    refine VE_append h4 ?_
                    simp only [List.map_cons, List.map_nil, VE]
                    cases ag with
                    | true => exact ⟨.agg c.toArray, [], by simp only [mkA, V]; exact ⟨c, rfl, g2⟩, by simp [Value.cells], rfl⟩
                    | false =>
                      have hk2 : P.cellsOf e = 1 := by simpa using hk1
                      match as, hal.trans hk2, c, hcl.trans hk2 with
                      | [a1], _, [c1], _ =>
                        simp only [VL] at g2
                        obtain ⟨v, _, h7, h8, h9⟩ := g2
                        subst h9
                        cases h7
                        refine ⟨c1, [], h8, ?_, rfl⟩
                        have ho : a1.one = true := by simpa [allOne] using g3
                        have : c1.cells = #[c1] := by
                          cases a1 <;> simp [AV.one] at ho <;> simp only [V] at h8 <;> first
                            | (subst h8; rfl)
                            | (obtain ⟨_, _, _, rfl, _⟩ := h8; rfl)
                            | (obtain ⟨_, _, _, _, _, rfl⟩ := h8; rfl)
                            | (obtain ⟨_, _, _, _, _, _, rfl⟩ := h8; rfl)
                            | (obtain ⟨_, _, rfl, _⟩ := h8; rfl)
                            | (obtain ⟨_, rfl, _⟩ := h8; rfl)
                            | (obtain ⟨_, _, _, _, rfl⟩ := h8; rfl)
                            | (simp [bel, belL] at g4)
                            | (exfalso; simp_all [SlV, isCells, isMap, isIter, isLoop])
                        simp [this]
                  · simp [h5, hcl]; rw [Nat.add_mul]; simp
                  · intro j hj
                    rw [List.getElem_append]
                    split
                    · rename_i hjv; exact h6 j hjv
                    · rename_i hjv
                      have h7 := mapM_some_get hc (j - vs.length) (j - vs.length) (by rw [List.length_append] at hj; rw [List.getElem?_range (by omega)])
                      rw [List.getElem?_eq_getElem (by simp at hj; omega)] at h7
                      rw [← h7]
                      congr 1
                      have hadd : (a.add (q * P.cellsOf e)).add (j - vs.length) = a.add j := by
                        unfold Addr.add
                        split <;> split <;> split <;> simp_all <;> omega
                      rw [hadd]
                · cases hc
            obtain ⟨xs, h1, h2, h3, vs, h4, h5, h6⟩ := key len (Nat.le_refl _)
            refine ⟨[.list false (P.cellsOf e) (xs.map (mkA ag))], ?_, ?_, rfl, ?_⟩
            · simp only [IsSh]
              exact ⟨xs, rfl, by simp [maxLen] at hcap; omega, h2⟩
            · simp only [VL, V]
              refine ⟨_, [], rfl, ⟨h3, some a, cap, by simp [h1], by simp, by simpa [h1] using hlc, ?_⟩, rfl⟩
              by_cases hl : len = 0
              · subst hl; left; simpa using h1
              · right
                have h0 : 0 < vs.length := by rw [h5]; exact Nat.mul_pos (by omega) hk0
                have hs := h6 0 h0
                have hsp : a.spot = none := by
                  unfold World.cell? Addr.add at hs
                  rw [if_pos rfl] at hs
                  split at hs
                  · split at hs
                    · cases hs
                    · rename_i h8; simpa using h8
                  · cases hs
                obtain ⟨b, o, sp'⟩ := a
                simp only at hsp
                subst hsp
                refine ⟨b, o, vs, rfl, h4, fun j hj => ?_⟩
                have h9 := h6 j hj
                have : (⟨b, o, none⟩ : Addr).add j = ⟨b, o + j, none⟩ := by
                  unfold Addr.add
                  split <;> simp_all
                rw [this] at h9
                exact h9
            · simp only [belL, bel, Bool.and_true]
              exact okList_bel h3
      · cases hs
    · rename_i fs hu
      rw [Option.map_eq_some_iff] at hs
      obtain ⟨ss, hss, rfl⟩ := hs
      obtain ⟨hf, hsz, hoff⟩ := K.struct hT hu
      obtain ⟨xs, m, _, _, hcl, hxl, hget⟩ := DataW.trod_struct hu hx
      obtain ⟨css, h1, h2, h3⟩ := cut_flat (fs.toList.map fun f => P.cellsOf f.type) cs (by rw [hcl, hsz])
      have hssl : ss.length = fs.toList.length := mapM_some_length hss
      obtain ⟨as, g1, g2, g3, g4⟩ := parts_read (w := w) (n := 0) (r := fun _ _ => True) ss css (by rw [h1, hssl]; simp) (by
        intro i s c hs hc
        have hi : i < fs.size := by have := lt_of_get hs; rw [hssl] at this; simpa using this
        obtain ⟨f, hfi⟩ : ∃ f, fs[i]? = some f := ⟨fs[i], by simp [hi]⟩
        have hfl : fs.toList[i]? = some f := by simpa using hfi
        have h4 := h3 i (P.cellsOf f.type) (by simp [hfi])
        rw [hc] at h4
        have h4 := Option.some.inj h4
        have h5 := hget i f hfi
        rw [hoff i f hfl] at h5
        have h6 := mapM_some_get hss i f hfl
        rw [hs] at h6
        have hxi : ∃ y, xs[i]? = some y := ⟨xs[i]'(by omega), List.getElem?_eq_getElem (by omega)⟩
        obtain ⟨y, hy⟩ := hxi
        rw [hy] at h5
        subst h4
        rw [← List.map_take]
        exact ih f.type s (hf f (List.mem_of_getElem? hfl)) h6 _ _ y h5)
      exact ⟨as, by simpa only [IsSh] using g1, by rw [h2] at g2; exact g2, g3, g4⟩
    · rename_i m e hu
      rw [Option.map_eq_some_iff] at hs
      obtain ⟨s, hs, rfl⟩ := hs
      obtain ⟨hTe, hsz⟩ := K.array hT hu
      obtain ⟨xs, q, _, _, hcl, hxl, hget⟩ := DataW.trod_array hu hx
      obtain ⟨css, h1, h2, h3⟩ := cut_flat (List.replicate m (P.cellsOf e)) cs (by rw [hcl, hsz]; simp)
      obtain ⟨as, g1, g2, g3, g4⟩ := parts_read (w := w) (n := 0) (r := fun _ _ => True) (List.replicate m s) css (by rw [h1]; simp) (by
        intro i s' c hs' hc
        have hi : i < m := by have := lt_of_get hs'; simpa using this
        rw [List.getElem?_replicate] at hs'
        simp only [hi, if_true, Option.some.injEq] at hs'
        subst hs'
        have h4 := h3 i (P.cellsOf e) (by simp [List.getElem?_replicate, hi])
        rw [hc] at h4
        have h4 := Option.some.inj h4
        have h5 := hget i hi
        obtain ⟨y, hy⟩ : ∃ y, xs[i]? = some y := ⟨xs[i]'(by omega), List.getElem?_eq_getElem (by omega)⟩
        rw [hy] at h5
        subst h4
        have he : (List.take i (List.replicate m (P.cellsOf e))).sum = i * P.cellsOf e := by simp [List.take_replicate, Nat.min_eq_left (Nat.le_of_lt hi)]
        rw [he]
        exact ih e s hTe hs _ _ y h5)
      exact ⟨as, by simpa only [IsSh] using g1, by rw [h2] at g2; exact g2, g3, g4⟩
    · cases hs
end

/-! ### Laws -/

def TS (P : Program) (t : TypeId) : Prop := t < P.types.size ∧ ∃ n, (shT P n t).isSome = true

theorem kids_TS {P : Program} (hl : laidOutB P = true) (hm : mapsRowed P = true) : Kids P (TS P) := by
  have K := kids_rows hl hm
  refine ⟨fun {t e} ht hu => ?_, fun {t e} ht hu => ?_, fun {t e n} ht hu => ?_, fun {t fs} ht hu => ?_, fun {t k e} ht hu => ?_⟩
  · obtain ⟨_, n, hn⟩ := ht
    cases n <;> simp [shT, hu] at hn
  · obtain ⟨h1, n, hn⟩ := ht
    refine ⟨K.slice h1 hu, ?_⟩
    cases n with
    | zero => simp [shT] at hn
    | succ n =>
      simp only [shT, hu] at hn
      split at hn
      · rename_i h2 _; exact ⟨n, by simp [h2]⟩
      · cases hn
  · obtain ⟨h1, m, hn⟩ := ht
    refine ⟨⟨(K.array h1 hu).1, ?_⟩, (K.array h1 hu).2⟩
    cases m with
    | zero => simp [shT] at hn
    | succ m => simp only [shT, hu, Option.isSome_map] at hn; exact ⟨m, hn⟩
  · obtain ⟨h1, n, hn⟩ := ht
    refine ⟨fun f hf => ⟨(K.struct h1 hu).1 f hf, ?_⟩, (K.struct h1 hu).2⟩
    cases n with
    | zero => simp [shT] at hn
    | succ n =>
      simp only [shT, hu, Option.isSome_map] at hn
      obtain ⟨ss, hss⟩ := Option.isSome_iff_exists.1 hn
      obtain ⟨i, hi⟩ := List.mem_iff_getElem?.1 hf
      have := mapM_some_get hss i f hi
      have hlen := mapM_some_length hss
      have hlt : i < ss.length := by rw [hlen]; exact lt_of_get hi
      exact ⟨n, by rw [this, List.getElem?_eq_getElem hlt]; rfl⟩
  · obtain ⟨_, n, hn⟩ := ht
    cases n <;> simp [shT, hu] at hn

/-- Arguments of shapes. -/
def IsArgs : List (Bool × Sh) → List AV → Prop
  | [], as => as = []
  | (ag, s) :: r, as => ∃ cs as', as = mkA ag cs :: as' ∧ IsSh s cs ∧ (ag = false → cs.length = 1) ∧ IsArgs r as'

def shP (P : Program) (t : TypeId) : Option (Bool × Sh) := match tAgg P t, shT P 12 t with
  | some ag, some s => some (ag, s)
  | _, _ => none

section
variable {P : Program} {W : World} {H : Type} {enc : TypeId × Value → H} {sp : Nat → Bool}

theorem args_of (K : Kids P (TS P)) : ∀ {ts : List TypeId} {shs : List (Bool × Sh)} {vs : List Value} {ds : List (DataW H)} {ps : List MemPlace}, (∀ t ∈ ts, t < P.types.size) → ts.mapM (shP P) = some shs →
    (∀ (j : Nat) t v, ts[j]? = some t → vs[j]? = some v → ∃ r base, Value.okWide P W r base t v) → DataW.TrodAll enc P W 0 sp true ts vs ds ps → ∃ as, IsArgs shs as ∧ VL (gw W) [] as vs
  | [], shs, vs, ds, ps, _, hs, _, hT => by
    obtain ⟨rfl, _, _⟩ := trodAll_nil hT
    simp at hs
    subst hs
    exact ⟨[], by simp [IsArgs], by simp [VL]⟩
  | t :: ts, shs, vs, ds, ps, hlt, hs, hok, hT => by
    obtain ⟨v, vs1, d, ds1, a, b, rfl, rfl, rfl, h1, h2⟩ := trodAll_cons hT
    simp only [List.mapM_cons, Option.bind_eq_bind, Option.bind_eq_some_iff, Option.pure_def, Option.some.injEq] at hs
    obtain ⟨x, hx, ys, hys, rfl⟩ := hs
    obtain ⟨as, g1, g2⟩ := args_of K (fun t ht => hlt t (List.mem_cons_of_mem _ ht)) hys (fun j t v h3 h4 => hok (j + 1) t v (by simpa using h3) (by simpa using h4)) h2
    unfold shP at hx
    split at hx
    · rename_i ag s hag hsh
      cases hx
      obtain ⟨fuel, hf⟩ := h1
      obtain ⟨cs, h3, h4, h5, h6⟩ := rd_of K 12 t s ⟨hlt t (by simp), 12, by simp [hsh]⟩ hsh _ _ _ hf
      obtain ⟨r, base, hokv⟩ := hok 0 t v rfl rfl
      cases ag with
      | true =>
        have hv : ∃ c, v = .agg c := by
          unfold tAgg at hag
          unfold Value.okWide at hokv
          cases hu : P.underlying t with
          | none => simp [hu] at hag
          | some d =>
            rw [hu] at hag hokv
            cases d <;> simp at hag <;> (obtain ⟨c, rfl, _⟩ := hokv; exact ⟨c, rfl⟩)
        obtain ⟨c, rfl⟩ := hv
        refine ⟨.agg cs :: as, by simp only [IsArgs]; exact ⟨cs, as, rfl, h3, by simp, g1⟩, ?_⟩
        simp only [VL, V]
        exact ⟨_, _, rfl, ⟨c.toList, by simp, by simpa [Value.cells] using h4⟩, g2⟩
      | false =>
        have hv : v.cells = #[v] := by
          unfold tAgg at hag
          cases v with
          | agg c =>
            exfalso
            cases fuel with
            | zero => simp [DataW.trod] at hf
            | succ n =>
            cases hu : P.underlying t with
            | none => simp [hu] at hag
            | some d =>
              rw [hu] at hag
              unfold Value.okWide at hokv
              rw [hu] at hokv
              cases d <;> simp at hag <;> simp [Cell.okWide, Cell.ok, hu] at hokv
              all_goals (unfold shT at hsh; rw [hu] at hsh; simp at hsh)
          | _ => rfl
        rw [hv] at h4
        have hlen : cs.length = 1 := by rw [← VL_length h4]; rfl
        match cs, hlen with
        | [c], _ =>
          simp only [VL] at h4
          obtain ⟨u, us, h7, h8, h9⟩ := h4
          cases h7
          refine ⟨c :: as, by simp only [IsArgs]; exact ⟨[c], as, rfl, h3, fun _ => rfl, g1⟩, ?_⟩
          simp only [VL]
          exact ⟨_, _, rfl, h8, g2⟩
    · cases hx

theorem isArgs_bel : ∀ {shs : List (Bool × Sh)} {as : List AV} {vs : List Value}, VL (gw W) [] as vs → belL 0 as = true
  | _, _, _, h => by simpa using VL_bel h

/-- What a law's contract gives. -/
theorem law_calls {f : FuncId} {fn : Func} {s : ChangeSpec} {Γ : Nat → Option AV} {tb : TypeId} {shs : List (Bool × Sh)} (hl : laidOutB P = true) (hm : mapsRowed P = true) (hres : fn.resultTypes = #[tb]) (htb : P.underlying tb = some .bool)
    (hlt : ∀ t ∈ fn.params.toList, t < P.types.size) (hsh : fn.params.toList.mapM (shP P) = some shs) (hvars : s.vars = [])
    (hspec : ∀ ds : List (DataW H), ds.length = fn.params.size → (s.fn H ds).results = [.lit (.bool true)] ∧ (s.fn H ds).args = ds ∧ (s.fn H ds).vars = [])
    (hΓ : ∀ n a, Γ n = some a → belL 0 a.cells = true ∧ ∃ vs, VL (gw W) [] a.cells vs ∧ ∀ j (hj : j < vs.length), W.cell? ⟨n, j, none⟩ = some vs[j])
    (con : ∀ as, IsArgs shs as → PureCon P Γ f as (.bool true))
    {base : Nat} {args : Array Value} {ds gs : List (DataW H)} {before : List MemPlace}
    (hval : ∀ (j : Nat) t v, fn.params[j]? = some t → args[j]? = some v → Value.okWide P W .any base t v)
    (hW : DataW.Whole enc P fn.params.toList s.vars false W args.toList ds gs before) :
    Calls P f args W fun e W' => ∃ v, e = .returned v ∧ s.post enc P fn false true false false W args v W' := by
  have K := kids_TS hl hm
  have hW' := hW
  obtain ⟨p, q, hA, hV, rfl, hfz, hnd⟩ := hW
  rw [hvars] at hV
  obtain ⟨rfl, rfl⟩ := trodVars_none hV
  obtain ⟨as, h1, h2⟩ := args_of K hlt hsh (fun j t v hj hv => ⟨_, _, hval j t v (by simpa using hj) (by simpa using hv)⟩) hA
  have hI : Inv P Γ { K := fun b => W.heap[b]?, M0 := (gw W).M, MM := (gw W).MM, w0 := W } (gw W) [] W := by
    refine ⟨rfl, rfl, rfl, fun b o hb => hb, fun i b x hi => (by cases hi), fun i j b x y hi => (by cases hi), fun _ _ => rfl, fun b o v hv => hv, ?_, fun i b sz st o v hi => (by cases hi), fun i o hi => (by simp at hi), hΓ,
      fun b o v B hv _ => hv, rfl⟩
    intro b es ck hb
    simp only [gw] at hb
    split at hb
    · rename_i es' ck' hh
      cases hb
      exact ⟨hh, fun i x hi => (by cases hi)⟩
    · cases hb
  have hC := (con as h1).2 (isArgs_bel (shs := shs) h2) _ _ [] W args.toList hI h2
  rw [Array.toArray_toList] at hC
  refine hC.mono ?_
  rintro e W' ⟨u, g', rfl, _, hI', hu, _, _, hheap⟩
  simp only [unownA, unown, V] at hu
  subst hu
  refine ⟨_, rfl, ds, [], p ++ [], [], p, [], hW', ?_, ?_, ?_, ?_, fun h => by cases h⟩
  · have hlen : ds.length = fn.params.size := by
      have := (trodAll_length hA).2
      simpa using this
    rw [List.append_nil, (hspec ds hlen).1, hres]
    exact trodAll_cons_mk (shut_bool htb _) trodAll_mk0
  · have hlen : ds.length = fn.params.size := by
      have := (trodAll_length hA).2
      simpa using this
    rw [List.append_nil, (hspec ds hlen).2.1]
    have hp : ∀ x ∈ p, x.block < W.heap.size := hA.lt
    have key : ∀ {ts : List TypeId} {vs : List Value} {ds : List (DataW H)} {ps : List MemPlace}, (∀ t ∈ ts, TS P t) → (∀ x ∈ ps, x.block < W.heap.size) → DataW.TrodAll enc P W 0 (fun _ => true) true ts vs ds ps →
        DataW.TrodAll enc P W' 0 (fun b => decide (b < W.heap.size)) true ts vs ds ps := by
      intro ts
      induction ts with
      | nil =>
        intro vs ds ps _ _ hT
        obtain ⟨rfl, rfl, rfl⟩ := trodAll_nil hT
        exact trodAll_mk0
      | cons t ts ih =>
        intro vs ds ps ht hb hT
        obtain ⟨v, vs1, d, ds1, a, b, rfl, rfl, rfl, h3, h4⟩ := trodAll_cons hT
        obtain ⟨fuel, hf⟩ := h3
        refine trodAll_cons_mk ⟨fuel, DataW.trod_stays K ?_ (by simp) (ht t (by simp)) hf ?_ ?_⟩ (ih (fun t' ht' => ht t' (List.mem_cons_of_mem _ ht')) (fun x hx => hb x (by simp [hx])) h4)
        · intro t e ht' hu
          obtain ⟨_, n, hn⟩ := ht'
          cases n with
          | zero => simp [shT] at hn
          | succ n =>
            simp only [shT, hu] at hn
            split at hn
            · split at hn
              · cases hn
              · rename_i h5; omega
            · cases hn
        · intro x hx
          have hxb := hb x (by simp [hx])
          cases x with
          | cell b o => simp only [World.sameAt, World.cell?]; rw [hheap b hxb]
          | map b => simp only [World.sameAt]; exact hheap b hxb
        · intro x hx
          have hxb := hb x (by simp [hx])
          simpa using hxb
    refine key (fun t ht => ⟨hlt t ht, ?_⟩) hp hA
    obtain ⟨i, hi⟩ := List.mem_iff_getElem?.1 ht
    have h3 := mapM_some_get hsh i t hi
    have hl3 : i < shs.length := by rw [mapM_some_length hsh]; exact lt_of_get hi
    rw [List.getElem?_eq_getElem hl3] at h3
    unfold shP at h3
    split at h3
    · rename_i h4; exact ⟨12, by simp [h4]⟩
    · cases h3
  · have hlen : ds.length = fn.params.size := by
      have := (trodAll_length hA).2
      simpa using this
    rw [List.append_nil, (hspec ds hlen).2.2, hvars]
    rfl
  · refine ⟨hI'.os, hI'.output, fun i hi => ?_⟩
    rw [hheap i hi]
    have := (World.keptBut_refl W (fun p_1 => p_1 ∈ p ++ [] ∧ (p_1 ∈ [] ∨ p_1 ∈ p ∨ p_1 ∈ []))).2.2 i hi
    exact this
end

/-- Elements, decoded. -/
theorem map_dec {α β γ : Type} {f : α → γ} {e : β → γ} : ∀ {xs : List α}, (∀ x ∈ xs, ∃ t, f x = e t) → ∃ ts : List β, xs.map f = ts.map e ∧ ts.length = xs.length
  | [], _ => ⟨[], rfl, rfl⟩
  | x :: xs, h => by
    obtain ⟨t, ht⟩ := h x (by simp)
    obtain ⟨ts, h1, h2⟩ := map_dec (xs := xs) (e := e) (fun y hy => h y (List.mem_cons_of_mem _ hy))
    exact ⟨t :: ts, by simp [ht, h1], by simp [h2]⟩
end Go.AM
/- The abstract machine: contracts of the library's functions, as functions of trees; some laws for the driver. -/
namespace Go.AM
open Go.RowKit

theorem drop_eq {α : Type} {a b : List α} {i : Nat} (h1 : i < a.length) (h2 : i < b.length) : (a.drop i = b.drop i) ↔ (a[i] = b[i] ∧ a.drop (i + 1) = b.drop (i + 1)) := by
  rw [List.drop_eq_getElem_cons h1, List.drop_eq_getElem_cons h2, List.cons.injEq]

@[simp] theorem belL_map {α : Type} (n : Nat) (f : α → AV) (l : List α) : belL n (l.map f) = l.all fun x => bel n (f x) := by
  induction l with
  | nil => rfl
  | cons a l ih => simp [belL, ih]
@[simp] theorem noML_map {α : Type} (f : α → AV) (l : List α) : noML (l.map f) = l.all fun x => noM (f x) := by
  induction l with
  | nil => rfl
  | cons a l ih => simp [noML, ih]
@[simp] theorem noML_append (a b : List AV) : noML (a ++ b) = (noML a && noML b) := by
  induction a with
  | nil => simp [noML]
  | cons x a ih => simp [noML, ih, Bool.and_assoc]
@[simp] theorem take_map {α β : Type} (f : α → β) (l : List α) : (l.map f).take l.length = l.map f := by rw [List.take_of_length_le]; simp
@[simp] theorem belL_append (n : Nat) (a b : List AV) : belL n (a ++ b) = (belL n a && belL n b) := by
  induction a with
  | nil => simp [belL]
  | cons x a ih => simp [belL, ih, Bool.and_assoc]

/-! ### Tests that hold -/
@[simp] theorem ck_bad {c : Prop} [Decidable c] {r : R} (h : c) : (if c then r else R.bad) = r := if_pos h
@[simp] theorem ck_some {c : Prop} [Decidable c] {α : Type} {x : α} (h : c) : (if c then some x else none) = some x := if_pos h
@[simp] theorem natCast_eq (a b : Nat) : ((a : Int) = (b : Int)) ↔ a = b := by omega
@[simp] theorem toNat_add {x y : Int} (h1 : 0 ≤ x) (h2 : 0 ≤ y) : (x + y).toNat = x.toNat + y.toNat := by omega
@[simp] theorem toNat_sub {x y : Int} (h2 : 0 ≤ y) : (x - y).toNat = x.toNat - y.toNat := by omega
attribute [simp] belF belD belI belK belMd belH belO belM vldF vldL vld vldD vldMd vldH vldO vldM wrap64 List.getElem?_cons_zero List.getElem?_cons_succ

@[simp] theorem reach_refl {P : Program} {Γ : Nat → Option AV} (c : Cfg) : Reach P Γ c c := .refl c

section
variable {P : Program} {Γ : Nat → Option AV}

/-- A contract that leaves the world as it is. -/
theorem PureCon.lib {f : FuncId} {as : List AV} {r : AV} (hb : hasBody P f = true) (hun : ∀ n, unownA n r = (r, [])) (ht : treeA r = true)
    (hc : ∀ (N : Env) (g : G) (h : List Ob) (w : World) (us : List Value), Inv P Γ N g h w → VL g h as us → Calls P f us.toArray w fun e w' => (∃ u, e = .returned u ∧ ∀ g h, V g h r u) ∧ w' = w) : PureCon P Γ f as r := by
  refine ⟨hb, fun _ N g h w us H hV => (hc N g h w us H hV).mono ?_⟩
  rintro e w' ⟨⟨u, rfl, hu⟩, rfl⟩
  refine ⟨u, g, rfl, ht, ?_, ?_, fun _ _ => rfl, fun _ _ _ x => x, fun _ _ => rfl⟩
  · rw [hun]; simpa using H
  · rw [hun]; exact hu _ _

theorem VL_str {g : G} {h : List Ob} {s : List UInt8} {as : List AV} {us : List Value} (hv : VL g h (.str s :: as) us) : ∃ us', us = .string ⟨s.toArray⟩ :: us' ∧ VL g h as us' := by
  simp only [VL, V] at hv
  obtain ⟨v, us', rfl, rfl, h2⟩ := hv
  exact ⟨us', rfl, h2⟩
theorem VL_int {g : G} {h : List Ob} {k : IntKind} {n : Int} {as : List AV} {us : List Value} (hv : VL g h (.int k n :: as) us) : ∃ us', us = .int k n :: us' ∧ VL g h as us' := by
  simp only [VL, V] at hv
  obtain ⟨v, us', rfl, rfl, h2⟩ := hv
  exact ⟨us', rfl, h2⟩
theorem VL_nil' {g : G} {h : List Ob} {us : List Value} (hv : VL g h [] us) : us = [] := by simpa only [VL] using hv

theorem Reach.dcon {f : FuncId} {args as : List AV} {v : AV} {up : List Fr} {h : List Ob} {c : Cfg} (h1 : viewL h args = some as) (h2 : DieCon P Γ f as v) (h3 : Reach P Γ (.die up v h) c) : Reach P Γ (.cl f args up h) c := .trans (.pdie h1 h2) h3

/-- A call of a function of trees, and on. -/
theorem Reach.call (n : Nat) {f : FuncId} {args as : List AV} {r : AV} {up : List Fr} {h : List Ob} {c : Cfg} (h1 : viewL h args = some as) (h2 : PureCon P Γ f as r) (h3 : Reach P Γ (AM.go P Γ false n (.back up (unownA h.length r).1 (afterPure h args r))) c) : Reach P Γ (.cl f args up h) c := .con h1 h2 (.go n h3)
theorem Reach.dcall (n : Nat) {f : FuncId} {args as : List AV} {v : AV} {up : List Fr} {h : List Ob} {c : Cfg} (h1 : viewL h args = some as) (h2 : DieCon P Γ f as v) (h3 : Reach P Γ (AM.go P Γ false n (.die up v h)) c) : Reach P Γ (.cl f args up h) c := .dcon h1 h2 (.go n h3)

/-- A package's variable in memory. -/
theorem Inv.glob_int {N : Env} {g : G} {h : List Ob} {w : World} (H : Inv P Γ N g h w) {n : Nat} {k : IntKind} {m : Int} (hn : Γ n = some (.int k m)) : w.cell? ⟨n, 0, none⟩ = some (.int k m) := by
  obtain ⟨_, vs, h2, h3⟩ := H.glob n _ hn
  simp only [AV.cells, VL, V] at h2
  obtain ⟨v, us', rfl, rfl, rfl⟩ := h2
  exact H.mem _ _ _ (h3 0 (by simp))

/-! ### How a call ends -/

inductive Out where
  | ret (r : AV)
  | die (v : AV)

/-- A function of trees: how it ends. -/
def Con (P : Program) (Γ : Nat → Option AV) (f : FuncId) (as : List AV) : Out → Prop
  | .ret r => PureCon P Γ f as r
  | .die v => DieCon P Γ f as v

def Fins (P : Program) (Γ : Nat → Option AV) (c : Cfg) : Out → Prop
  | .ret r => ∃ v hh, Reach P Γ c (.back [] v hh) ∧ resA hh v = some r
  | .die v => ∃ hh, Reach P Γ c (.die [] v hh) ∧ bel 0 v = true ∧ noM v = true

theorem Fins.reach {c c' : Cfg} {o : Out} (h1 : Reach P Γ c c') (h2 : Fins P Γ c' o) : Fins P Γ c o := by
  cases o with
  | ret r => obtain ⟨v, hh, h3, h4⟩ := h2; exact ⟨v, hh, h1.trans h3, h4⟩
  | die v => obtain ⟨hh, h3, h4⟩ := h2; exact ⟨hh, h1.trans h3, h4⟩
theorem Fins.go (n : Nat) {c : Cfg} {o : Out} (h : Fins P Γ (AM.go P Γ false n c) o) : Fins P Γ c o := .reach (.goes n c) h
theorem Fins.back {v r : AV} {hh : List Ob} (h : resA hh v = some r) : Fins P Γ (.back [] v hh) (.ret r) := ⟨v, hh, .refl _, h⟩
theorem Fins.die {v : AV} {hh : List Ob} (h1 : bel 0 v = true) (h2 : noM v = true) : Fins P Γ (.die [] v hh) (.die v) := ⟨hh, .refl _, h1, h2⟩
theorem Fins.goS (n : Nat) {c : Cfg} {o : Out} (h : Fins P Γ (AM.go P Γ true n c) o) : Fins P Γ c o := .reach (.goes n c) h
/-- A loop is left. -/
theorem Reach.exit {fn : FuncId} {k k' : List It} {t t' : List AV} {ds : List ADef} {kind : FK} {base : Nat} {up : List Fr} {h : List Ob} {id : Nat} {m : List Bool} (h1 : exitA id k = some (k', m)) (h2 : maskT m t = t') :
    Reach P Γ (.fr ⟨.run, fn, .code (.exit id) :: k, t, ds, kind, base⟩ up h) (.fr ⟨.run, fn, k', t', ds, kind, base⟩ up h) := by
  refine .one ?_
  simp only [stepA, stepRun, h1, h2]
  exact .refl _
theorem Reach.callS (n : Nat) {f : FuncId} {args as : List AV} {r : AV} {up : List Fr} {h : List Ob} {c : Cfg} (h1 : viewL h args = some as) (h2 : PureCon P Γ f as r) (h3 : Reach P Γ (AM.go P Γ true n (.back up (unownA h.length r).1 (afterPure h args r))) c) : Reach P Γ (.cl f args up h) c := .con h1 h2 (.goS n h3)
theorem Fins.call (n : Nat) {f : FuncId} {args as : List AV} {r : AV} {up : List Fr} {h : List Ob} {o : Out} (h1 : viewL h args = some as) (h2 : PureCon P Γ f as r) (h3 : Fins P Γ (AM.go P Γ false n (.back up (unownA h.length r).1 (afterPure h args r))) o) : Fins P Γ (.cl f args up h) o :=
  .reach (.pure h1 h2) (.go n h3)
theorem Fins.dcall (n : Nat) {f : FuncId} {args as : List AV} {v : AV} {up : List Fr} {h : List Ob} {o : Out} (h1 : viewL h args = some as) (h2 : DieCon P Γ f as v) (h3 : Fins P Γ (AM.go P Γ false n (.die up v h)) o) : Fins P Γ (.cl f args up h) o :=
  .reach (.pdie h1 h2) (.go n h3)
theorem Con.body {f : FuncId} {as : List AV} {o : Out} (h : Con P Γ f as o) : hasBody P f = true := by
  cases o with
  | ret r => exact h.1
  | die v => exact h.1

/-- A function's contract: its frame, and on. -/
theorem Con.of {f : FuncId} {F : AFun} {as : List AV} {o : Out} (n : Nat) (hF : cfun P f = some F) (hb : hasBody P f = true)
    (h : Fins P Γ (AM.go P Γ false n (.fr ⟨.run, f, [.code F.body], as ++ List.replicate (F.nt - as.length) .undef, [], .norm, 0⟩ [] [])) o) : Con P Γ f as o := by
  have h2 : Fins P Γ (.cl f as [] []) o := .reach (enter_eq hF as (.refl _)) (.go n h)
  cases o with
  | ret r => obtain ⟨v, hh, h3, h4⟩ := h2; exact PureCon.of hb h3 h4
  | die v => obtain ⟨hh, h3, h4, h5⟩ := h2; exact DieCon.of hb h3 h4 h5
theorem PureCon.run {f : FuncId} {F : AFun} {as : List AV} {r : AV} (n : Nat) (hF : cfun P f = some F) (hb : hasBody P f = true)
    (h : Fins P Γ (AM.go P Γ false n (.fr ⟨.run, f, [.code F.body], as ++ List.replicate (F.nt - as.length) .undef, [], .norm, 0⟩ [] [])) (.ret r)) : PureCon P Γ f as r := Con.of (o := .ret r) n hF hb h

/-- Objects that nobody knows any more. -/
theorem Fins.drop {f : Fr} {up : List Fr} {h h' : List Ob} {o : Out} (n : Nat) (hh : h.take n = h') (h1 : f.base ≤ n) (h2 : belF n f = true) (h3 : belH n h' = true) (h4 : Fins P Γ (.fr f up h') o) : Fins P Γ (.fr f up h) o := by
  subst hh; exact .reach (.drop n h1 h2 h3) h4
/-- A row whose slices all reach to its end, from its beginning on: as if it had never grown. -/
theorem Fins.reset {f : Fr} {up : List Fr} {h : List Ob} {o : Out} {i k : Nat} {E : TypeId} {es : List AV} {fl sh : Bool} (hi : h[i]? = some (.row k E es (some 0) fl sh)) (h1 : f.base ≤ i) (h2 : vldF i es.length f = true) (h3 : vldH i es.length h = true)
    (h4 : Fins P Γ (.fr f up (h.set i (.row k E es none fl sh))) o) : Fins P Γ (.fr f up h) o := .reach (.reset h1 hi h2 h3) h4

theorem Fins.resetU {f : Fr} {up : List Fr} {h : List Ob} {o : Out} {i k : Nat} {E : TypeId} {es : List AV} {fl sh : Bool} (hi : h[i]? = some (.row k E es (some 0) fl sh)) (h2 : (f :: up).all (vldF i es.length) = true) (h3 : vldH i es.length h = true)
    (h4 : Fins P Γ (.fr f up (h.set i (.row k E es none fl sh))) o) : Fins P Γ (.fr f up h) o := .reach (.resetU hi h2 h3) h4

section
variable {fn : FuncId} {k : List It} {t : List AV} {ds : List ADef} {kind : FK} {base : Nat} {up : List Fr} {h : List Ob} {o : Out}
/-- Into a function. -/
theorem Fins.enter (n : Nat) {g : FuncId} {F : AFun} {args : List AV} (hF : cfun P g = some F) (h1 : Fins P Γ (AM.go P Γ false n (.fr ⟨.run, g, [.code F.body], args ++ List.replicate (F.nt - args.length) .undef, [], .norm, h.length⟩ up h)) o) : Fins P Γ (.cl g args up h) o :=
  .reach (enter_eq hF args (.refl _)) (.go n h1)
/-- A region whose order is open. -/
theorem Fins.dreg {l : List Bool} {gs : List AG} {orc : List (AV × List Ob)} {t' : List AV} {h' : List Ob} {obls : List Obl} {hs : List (List Ob)} (h1 : runD P Γ orc gs t h = some (t', h', obls, hs))
    (h2 : ∀ o ∈ obls, ∀ up, Reach P Γ (.cl o.f o.args up o.h) (.back up o.v o.h')) (h3 : calm P Γ obls (h :: hs) l orc gs t h) (h4 : Fins P Γ (.fr ⟨.run, fn, k, t', ds, kind, base⟩ up h') o) :
    Fins P Γ (.fr ⟨.run, fn, .code (.dreg l gs) :: k, t, ds, kind, base⟩ up h) o := .reach (.dreg rfl rfl h1 (fun _ ho => ho) h2 h3) h4
/-- A region's run, step by step: for the driver. -/
def runT (P : Program) (Γ : Nat → Option AV) : List (AV × List Ob) → List AG → List AV → List Ob → List Obl → List (List Ob) → Option (List AV × List Ob × List Obl × List (List Ob))
  | _, [], t, h, ob, hs => some (t, h, ob, hs)
  | orc, o :: os, t, h, ob, hs =>
    match wantedA t o.guard with
    | some true =>
      match aop P Γ t h o.op with
      | .val v h' => runT P Γ orc os (setD t o.dst v) h' ob (if aoClass o.op = 2 then hs ++ [h'] else hs)
      | .skip h' => runT P Γ orc os (setD t o.dst (.tup [])) h' ob (if aoClass o.op = 2 then hs ++ [h'] else hs)
      | .call f args => if hasBody P f = false then none else match orc with
        | (v, h') :: orc => runT P Γ orc os (setD t o.dst v) h' (ob ++ [⟨f, args, h, v, h'⟩]) (hs ++ [h'])
        | [] => none
      | _ => none
    | some false => runT P Γ orc os (setD t o.dst (.tup [])) h ob hs
    | none => none
theorem runT_eq : ∀ {gs : List AG} {orc : List (AV × List Ob)} {t : List AV} {h : List Ob} {ob : List Obl} {hs : List (List Ob)}, runT P Γ orc gs t h ob hs = (runD P Γ orc gs t h).map fun r => (r.1, r.2.1, ob ++ r.2.2.1, hs ++ r.2.2.2)
  | [], _, _, _, _, _ => by simp [runT, runD]
  | o :: os, orc, t, h, ob, hs => by
    unfold runT runD
    cases hw : wantedA t o.guard with
    | none => rfl
    | some b =>
      cases b with
      | false => simp only; rw [runT_eq]
      | true =>
        simp only
        cases ha : aop P Γ t h o.op with
        | val v h' => simp only; rw [runT_eq]; by_cases hc : aoClass o.op = 2 <;> simp only [hc, if_true, if_false, Option.map_map, Function.comp_def, List.append_assoc, List.cons_append, List.nil_append]
        | skip h' => simp only; rw [runT_eq]; by_cases hc : aoClass o.op = 2 <;> simp only [hc, if_true, if_false, Option.map_map, Function.comp_def, List.append_assoc, List.cons_append, List.nil_append]
        | call f args =>
          simp only
          by_cases hb : hasBody P f = false
          · simp only [hb, if_true, Option.map_none]
          · cases orc with
            | nil => simp only [if_neg hb]; rfl
            | cons x orc =>
              obtain ⟨v, h'⟩ := x
              simp only [if_neg hb]
              rw [runT_eq]
              simp only [Option.map_map, Function.comp_def, List.append_assoc, List.cons_append, List.nil_append]
        | _ => rfl
theorem runT_run {gs : List AG} {orc : List (AV × List Ob)} {t : List AV} {h : List Ob} {x} (h1 : runT P Γ orc gs t h [] [] = some x) : runD P Γ orc gs t h = some x := by
  rw [runT_eq] at h1
  simpa using h1
/-- The same, with calls that leave memory as it is, whatever it is. -/
theorem Fins.dregq {l : List Bool} {gs : List AG} {orc : List (AV × List Ob)} {t' : List AV} {h' : List Ob} {obls : List Obl} {hs : List (List Ob)} (obls0 : List Obl) (h1 : runD P Γ orc gs t h = some (t', h', obls, hs)) (hsub : ∀ o ∈ obls, o ∈ obls0)
    (h2 : ∀ o ∈ obls0, ∀ up, Reach P Γ (.cl o.f o.args up o.h) (.back up o.v o.h')) (h3 : calm P Γ obls0 (h :: hs) l orc gs t h) (h4 : Fins P Γ (.fr ⟨.run, fn, k, t', ds, kind, base⟩ up h') o) :
    Fins P Γ (.fr ⟨.run, fn, .code (.dreg l gs) :: k, t, ds, kind, base⟩ up h) o := .reach (.dreg rfl rfl h1 hsub h2 h3) h4
theorem Fins.dregT {l : List Bool} {gs : List AG} {orc : List (AV × List Ob)} {t' : List AV} {h' : List Ob} {obls : List Obl} {hs : List (List Ob)} (obls0 : List Obl) (h1 : runT P Γ orc gs t h [] [] = some (t', h', obls, hs)) (hsub : ∀ o ∈ obls, o ∈ obls0)
    (h2 : ∀ o ∈ obls0, ∀ up, Reach P Γ (.cl o.f o.args up o.h) (.back up o.v o.h')) (h3 : calm P Γ obls0 (h :: hs) l orc gs t h) (h4 : Fins P Γ (.fr ⟨.run, fn, k, t', ds, kind, base⟩ up h') o) :
    Fins P Γ (.fr ⟨.run, fn, .code (.dreg l gs) :: k, t, ds, kind, base⟩ up h) o := .dregq obls0 (runT_run h1) hsub h2 h3 h4
/-- Into a loop, or round it. -/
theorem Fins.inLoop {m : List Bool} {b : ACode} (h1 : Fins P Γ (.fr ⟨.run, fn, .code b :: .inLoop m b :: k, maskT m t, ds, kind, base⟩ up h) o) : Fins P Γ (.fr ⟨.run, fn, .code (.loop m b) :: k, t, ds, kind, base⟩ up h) o := .reach (in_loop (.refl _)) h1
theorem Fins.reLoop {m : List Bool} {b : ACode} (h1 : Fins P Γ (.fr ⟨.run, fn, .code b :: .inLoop m b :: k, maskT m t, ds, kind, base⟩ up h) o) : Fins P Γ (.fr ⟨.run, fn, .inLoop m b :: k, t, ds, kind, base⟩ up h) o := .reach (re_loop (.refl _)) h1
end
end
end Go.AM
/- The abstract machine: regions whose order is open, with calls, step by step. -/
namespace Go.AM

section
variable {P : Program} {Γ : Nat → Option AV}

/-- A region, step by step. hs: the memories so far; Cs: what must hold of every memory. -/
def DRun (P : Program) (Γ : Nat → Option AV) (K : List AV → List Ob → Prop) : List Bool → List AG → List AV → List Ob → List (List Ob) → List (List Ob → Prop) → Prop
  | _, [], t, h, _, _ => K t h
  | l, o :: os, t, h, hs, Cs =>
    match wantedA t o.guard with
    | some true =>
      match aop P Γ t h o.op with
      | .val v h' =>
        if aoClass o.op = 2 then (∀ C ∈ Cs, C h') ∧ DRun P Γ K l.tail os (setD t o.dst v) h' (h' :: hs) Cs
        else if l.headD true = true ∧ aoClass o.op = 1 then (∀ g ∈ hs, aop P Γ t g o.op = .val v g) ∧ DRun P Γ K l.tail os (setD t o.dst v) h' hs ((fun g => aop P Γ t g o.op = .val v g) :: Cs)
        else DRun P Γ K l.tail os (setD t o.dst v) h' hs Cs
      | .skip h' => (∀ C ∈ Cs, C h') ∧ DRun P Γ K l.tail os (setD t o.dst (.tup [])) h' (h' :: hs) Cs
      | .call f args => hasBody P f = true ∧
        if l.headD true = true then ∃ (v : AV) (C : List Ob → Prop), (∀ g, C g → aop P Γ t g o.op = .call f args ∧ ∀ up, Reach P Γ (.cl f args up g) (.back up v g)) ∧ (∀ g ∈ hs, C g) ∧ DRun P Γ K l.tail os (setD t o.dst v) h hs (C :: Cs)
        else ∃ (v : AV) (h' : List Ob), (∀ up, Reach P Γ (.cl f args up h) (.back up v h')) ∧ (∀ C ∈ Cs, C h') ∧ DRun P Γ K l.tail os (setD t o.dst v) h' (h' :: hs) Cs
      | _ => False
    | some false => DRun P Γ K l.tail os (setD t o.dst (.tup [])) h hs Cs
    | none => False

/-- Memory stays where an operation only looks. -/
theorem val_same {t : List AV} {h h' : List Ob} {o : AO} {v : AV} (hv : aop P Γ t h o = .val v h') (hc : aoClass o ≠ 2) : h' = h := (aop_still (v := v) (h' := h') hc).1 hv

theorem skip_class {t : List AV} {h h' : List Ob} {o : AO} (hv : aop P Γ t h o = .skip h') : aoClass o = 2 := by
  cases o <;> first | rfl | (exfalso; simp only [aop] at hv; (repeat' split at hv) <;> simp_all; done)

theorem DRun_sound {K : List AV → List Ob → Prop} : ∀ {gs : List AG} {l : List Bool} {t : List AV} {h : List Ob} {hs0 : List (List Ob)} {Cs0 : List (List Ob → Prop)}, DRun P Γ K l gs t h hs0 Cs0 → h ∈ hs0 → (∀ C ∈ Cs0, ∀ g ∈ hs0, C g) →
    ∃ (orc : List (AV × List Ob)) (t' : List AV) (h' : List Ob) (obls : List Obl) (hs : List (List Ob)) (obls1 : List Obl), runD P Γ orc gs t h = some (t', h', obls, hs) ∧ K t' h' ∧ (∀ C ∈ Cs0, ∀ g ∈ hs, C g) ∧ (∀ o ∈ obls, o ∈ obls1) ∧ (∀ o ∈ obls1, ∀ up, Reach P Γ (.cl o.f o.args up o.h) (.back up o.v o.h')) ∧
      ∀ (HS : List (List Ob)) (obls0 : List Obl), (∀ g ∈ HS, g ∈ hs0 ∨ g ∈ hs) → (∀ o ∈ obls1, o ∈ obls0) → calm P Γ obls0 HS l orc gs t h
  | [], l, t, h, hs0, Cs0, hD, _, _ => ⟨[], t, h, [], [], [], rfl, hD, by simp, by simp, by simp, fun _ _ _ _ => trivial⟩
  | o :: os, l, t, h, hs0, Cs0, hD, hh, hC => by
    unfold DRun at hD
    unfold runD calm
    cases hw : wantedA t o.guard with
    | none => rw [hw] at hD; exact hD.elim
    | some b =>
      rw [hw] at hD
      cases b with
      | false =>
        simp only at hD ⊢
        exact DRun_sound hD hh hC
      | true =>
        simp only at hD ⊢
        cases ha : aop P Γ t h o.op with
        | val v h' =>
          rw [ha] at hD
          simp only at hD ⊢
          by_cases h2 : aoClass o.op = 2
          · rw [if_pos h2] at hD
            obtain ⟨hn, hD⟩ := hD
            obtain ⟨orc, t', h2', obls, hs, obls1, e1, e2, e3, e4, e5, e6⟩ := DRun_sound hD (by simp) (fun C hCm g hg => by
              rcases List.mem_cons.1 hg with rfl | hg
              · exact hn C hCm
              · exact hC C hCm g hg)
            refine ⟨orc, t', h2', obls, h' :: hs, obls1, by rw [e1]; simp only [Option.map_some, h2, if_true], e2, fun C hCm g hg => ?_, e4, e5, fun HS obls0 q1 q2 => ⟨fun _ h1 => (by rw [h2] at h1; cases h1), e6 HS obls0 (fun g hg => ?_) q2⟩⟩
            · rcases List.mem_cons.1 hg with rfl | hg
              · exact hn C hCm
              · exact e3 C hCm g hg
            · rcases q1 g hg with h1 | h1
              · exact Or.inl (List.mem_cons_of_mem _ h1)
              · rcases List.mem_cons.1 h1 with rfl | h1
                · exact Or.inl (by simp)
                · exact Or.inr h1
          · rw [if_neg h2] at hD
            have hhe := val_same ha h2
            by_cases h1 : l.headD true = true ∧ aoClass o.op = 1
            · rw [if_pos h1] at hD
              obtain ⟨hn, hD⟩ := hD
              subst hhe
              obtain ⟨orc, t', h2', obls, hs, obls1, e1, e2, e3, e4, e5, e6⟩ := DRun_sound hD hh (fun C hCm g hg => by
                rcases List.mem_cons.1 hCm with rfl | hCm
                · exact hn g hg
                · exact hC C hCm g hg)
              refine ⟨orc, t', h2', obls, hs, obls1, by rw [e1]; simp only [Option.map_some, h2, if_false], e2, fun C hCm g hg => e3 C (List.mem_cons_of_mem _ hCm) g hg, e4, e5, fun HS obls0 q1 q2 => ⟨fun _ _ g hg => ?_, e6 HS obls0 q1 q2⟩⟩
              rcases q1 g hg with h3 | h3
              · exact hn g h3
              · exact e3 _ List.mem_cons_self g h3
            · rw [if_neg h1] at hD
              subst hhe
              obtain ⟨orc, t', h2', obls, hs, obls1, e1, e2, e3, e4, e5, e6⟩ := DRun_sound hD hh hC
              exact ⟨orc, t', h2', obls, hs, obls1, by rw [e1]; simp only [Option.map_some, h2, if_false], e2, e3, e4, e5, fun HS obls0 q1 q2 => ⟨fun q3 q4 => absurd ⟨q3, q4⟩ h1, e6 HS obls0 q1 q2⟩⟩
        | skip h' =>
          rw [ha] at hD
          simp only at hD ⊢
          have h2 : aoClass o.op = 2 := by
            exact skip_class ha
          obtain ⟨hn, hD⟩ := hD
          obtain ⟨orc, t', h2', obls, hs, obls1, e1, e2, e3, e4, e5, e6⟩ := DRun_sound hD (by simp) (fun C hCm g hg => by
            rcases List.mem_cons.1 hg with rfl | hg
            · exact hn C hCm
            · exact hC C hCm g hg)
          refine ⟨orc, t', h2', obls, h' :: hs, obls1, by rw [e1]; simp only [Option.map_some, h2, if_true], e2, fun C hCm g hg => ?_, e4, e5, fun HS obls0 q1 q2 => e6 HS obls0 (fun g hg => ?_) q2⟩
          · rcases List.mem_cons.1 hg with rfl | hg
            · exact hn C hCm
            · exact e3 C hCm g hg
          · rcases q1 g hg with h1 | h1
            · exact Or.inl (List.mem_cons_of_mem _ h1)
            · rcases List.mem_cons.1 h1 with rfl | h1
              · exact Or.inl (by simp)
              · exact Or.inr h1
        | call f args =>
          rw [ha] at hD
          simp only at hD ⊢
          obtain ⟨hb, hD⟩ := hD
          have hb' : ¬ hasBody P f = false := by simp [hb]
          by_cases hl : l.headD true = true
          · rw [if_pos hl] at hD
            obtain ⟨v, C, hC1, hC2, hD⟩ := hD
            obtain ⟨orc, t', h2', obls, hs, obls1, e1, e2, e3, e4, e5, e6⟩ := DRun_sound hD hh (fun C' hCm g hg => by
              rcases List.mem_cons.1 hCm with rfl | hCm
              · exact hC2 g hg
              · exact hC C' hCm g hg)
            have hCall : ∀ g, g ∈ hs0 ∨ g ∈ hs → C g := fun g hg => hg.elim (hC2 g) (e3 C (by simp) g)
            refine ⟨(v, h) :: orc, t', h2', ⟨f, args, h, v, h⟩ :: obls, h :: hs, (hs0 ++ hs).map (fun g => ⟨f, args, g, v, g⟩) ++ obls1, by rw [if_neg hb']; simp only [e1, Option.map_some], e2, fun C' hCm g hg => ?_, fun ob hob => ?_, fun ob hob => ?_, fun HS obls0 q1 q2 => ⟨fun _ => ⟨rfl, fun g hg => ?_⟩, e6 HS obls0 (fun g hg => ?_) (fun ob hob => q2 ob (List.mem_append_right _ hob))⟩⟩
            · rcases List.mem_cons.1 hg with rfl | hg
              · exact hC C' hCm _ hh
              · exact e3 C' (List.mem_cons_of_mem _ hCm) g hg
            · rcases List.mem_cons.1 hob with rfl | hob
              · exact List.mem_append_left _ (List.mem_map.2 ⟨h, List.mem_append_left _ hh, rfl⟩)
              · exact List.mem_append_right _ (e4 ob hob)
            · rcases List.mem_append.1 hob with hob | hob
              · obtain ⟨g, hg, rfl⟩ := List.mem_map.1 hob
                exact (hC1 g (hCall g (List.mem_append.1 hg))).2
              · exact e5 ob hob
            · have hg' : g ∈ hs0 ∨ g ∈ hs := by
                rcases q1 g hg with h1 | h1
                · exact Or.inl h1
                · rcases List.mem_cons.1 h1 with rfl | h1
                  · exact Or.inl hh
                  · exact Or.inr h1
              exact ⟨(hC1 g (hCall g hg')).1, q2 _ (List.mem_append_left _ (List.mem_map.2 ⟨g, List.mem_append.2 hg', rfl⟩))⟩
            · rcases q1 g hg with h1 | h1
              · exact Or.inl h1
              · rcases List.mem_cons.1 h1 with rfl | h1
                · exact Or.inl hh
                · exact Or.inr h1
          · rw [if_neg hl] at hD
            obtain ⟨v, h', hR, hn, hD⟩ := hD
            obtain ⟨orc, t', h2', obls, hs, obls1, e1, e2, e3, e4, e5, e6⟩ := DRun_sound hD (by simp) (fun C hCm g hg => by
              rcases List.mem_cons.1 hg with rfl | hg
              · exact hn C hCm
              · exact hC C hCm g hg)
            refine ⟨(v, h') :: orc, t', h2', ⟨f, args, h, v, h'⟩ :: obls, h' :: hs, ⟨f, args, h, v, h'⟩ :: obls1, by rw [if_neg hb']; simp only [e1, Option.map_some], e2, fun C hCm g hg => ?_, fun ob hob => ?_, fun ob hob => ?_, fun HS obls0 q1 q2 => ⟨fun q3 => absurd q3 hl, e6 HS obls0 (fun g hg => ?_) (fun ob hob => q2 ob (List.mem_cons_of_mem _ hob))⟩⟩
            · rcases List.mem_cons.1 hg with rfl | hg
              · exact hn C hCm
              · exact e3 C hCm g hg
            · rcases List.mem_cons.1 hob with rfl | hob
              · simp
              · exact List.mem_cons_of_mem _ (e4 ob hob)
            · rcases List.mem_cons.1 hob with rfl | hob
              · exact hR
              · exact e5 ob hob
            · rcases q1 g hg with h1 | h1
              · exact Or.inl (List.mem_cons_of_mem _ h1)
              · rcases List.mem_cons.1 h1 with rfl | h1
                · exact Or.inl (by simp)
                · exact Or.inr h1
        | _ => rw [ha] at hD; exact hD.elim

/-- Behind a region. -/
structure Beh where
  fn : FuncId
  k : List It
  e : Cx
  n : Nat
def Beh.fins (P : Program) (Γ : Nat → Option AV) (b : Beh) (o : Out) (t : List AV) (h : List Ob) : Prop := Fins P Γ (AM.go P Γ false b.n (.fr ⟨.run, b.fn, b.k, t, b.e.ds, b.e.kind, b.e.base⟩ b.e.up h)) o
def Beh.reach (P : Program) (Γ : Nat → Option AV) (b : Beh) (c : Cfg) (t : List AV) (h : List Ob) : Prop := Reach P Γ (AM.go P Γ true b.n (.fr ⟨.run, b.fn, b.k, t, b.e.ds, b.e.kind, b.e.base⟩ b.e.up h)) c

variable {fn : FuncId} {k : List It} {t : List AV} {ds : List ADef} {kind : FK} {base : Nat} {up : List Fr} {h : List Ob}
theorem Reach.dr {l : List Bool} {gs : List AG} {c : Cfg} (h1 : DRun P Γ (fun t' h' => Reach P Γ (.fr ⟨.run, fn, k, t', ds, kind, base⟩ up h') c) l gs t h [h] []) :
    Reach P Γ (.fr ⟨.run, fn, .code (.dreg l gs) :: k, t, ds, kind, base⟩ up h) c := by
  obtain ⟨orc, t', h', obls, hs, obls1, e1, e2, _, e4, e5, e6⟩ := DRun_sound h1 (by simp) (by simp)
  exact .trans (.dreg (f := ⟨.run, fn, .code (.dreg l gs) :: k, t, ds, kind, base⟩) rfl rfl e1 e4 e5 (e6 (h :: hs) obls1 (fun g hg => by
    rcases List.mem_cons.1 hg with rfl | hg
    · exact Or.inl (by simp)
    · exact Or.inr hg) (fun _ ho => ho))) e2
theorem DRun_mono {K K' : List AV → List Ob → Prop} (hK : ∀ t h, K t h → K' t h) : ∀ {gs : List AG} {l : List Bool} {t : List AV} {h : List Ob} {hs : List (List Ob)} {Cs : List (List Ob → Prop)}, DRun P Γ K l gs t h hs Cs → DRun P Γ K' l gs t h hs Cs
  | [], _, _, _, _, _, h1 => hK _ _ h1
  | o :: os, l, t, h, hs, Cs, h1 => by
    unfold DRun at h1 ⊢
    split at h1
    · split at h1
      · split
        · rename_i h2; rw [if_pos h2] at h1; exact ⟨h1.1, DRun_mono hK h1.2⟩
        · rename_i h2
          rw [if_neg h2] at h1
          split
          · rename_i h3; rw [if_pos h3] at h1; exact ⟨h1.1, DRun_mono hK h1.2⟩
          · rename_i h3; rw [if_neg h3] at h1; exact DRun_mono hK h1
      · exact ⟨h1.1, DRun_mono hK h1.2⟩
      · refine ⟨h1.1, ?_⟩
        have h1 := h1.2
        split
        · rename_i h2
          rw [if_pos h2] at h1
          obtain ⟨v, C, a, b, c⟩ := h1
          exact ⟨v, C, a, b, DRun_mono hK c⟩
        · rename_i h2
          rw [if_neg h2] at h1
          obtain ⟨v, h', a, b, c⟩ := h1
          exact ⟨v, h', a, b, DRun_mono hK c⟩
      · exact h1
    · exact DRun_mono hK h1
    · exact h1
theorem Fins.dr (n : Nat) {l : List Bool} {gs : List AG} {o : Out} (h1 : DRun P Γ (Beh.fins P Γ ⟨fn, k, ⟨ds, kind, base, up⟩, n⟩ o) l gs t h [h] []) :
    Fins P Γ (.fr ⟨.run, fn, .code (.dreg l gs) :: k, t, ds, kind, base⟩ up h) o := by
  cases o with
  | ret r =>
    obtain ⟨orc, t', h', obls, hs, obls1, e1, e2, _, e4, e5, e6⟩ := DRun_sound h1 (by simp) (by simp)
    refine .reach (.dreg (f := ⟨.run, fn, .code (.dreg l gs) :: k, t, ds, kind, base⟩) rfl rfl e1 e4 e5 (e6 (h :: hs) obls1 (fun g hg => ?_) (fun _ ho => ho))) (.go n e2)
    rcases List.mem_cons.1 hg with rfl | hg
    · exact Or.inl (by simp)
    · exact Or.inr hg
  | die v =>
    obtain ⟨orc, t', h', obls, hs, obls1, e1, e2, _, e4, e5, e6⟩ := DRun_sound h1 (by simp) (by simp)
    refine .reach (.dreg (f := ⟨.run, fn, .code (.dreg l gs) :: k, t, ds, kind, base⟩) rfl rfl e1 e4 e5 (e6 (h :: hs) obls1 (fun g hg => ?_) (fun _ ho => ho))) (.go n e2)
    rcases List.mem_cons.1 hg with rfl | hg
    · exact Or.inl (by simp)
    · exact Or.inr hg
theorem Reach.drS (n : Nat) {l : List Bool} {gs : List AG} {c : Cfg} (h1 : DRun P Γ (Beh.reach P Γ ⟨fn, k, ⟨ds, kind, base, up⟩, n⟩ c) l gs t h [h] []) :
    Reach P Γ (.fr ⟨.run, fn, .code (.dreg l gs) :: k, t, ds, kind, base⟩ up h) c := .dr (DRun_mono (fun _ _ hr => Reach.goS n hr) h1)

/-! ### For simp -/
variable {K : List AV → List Ob → Prop} {l : List Bool} {b : Bool} {d : Option Nat} {a : AO} {os : List AG} {hs : List (List Ob)} {Cs : List (List Ob → Prop)} {h' : List Ob} {v : AV} {f : FuncId} {args : List AV}
/-- What an operation of a region comes to, and on. -/
def drR (P : Program) (Γ : Nat → Option AV) (K : List AV → List Ob → Prop) (b : Bool) (l : List Bool) (d : Option Nat) (a : AO) (os : List AG) (t : List AV) (h : List Ob) (hs : List (List Ob)) (Cs : List (List Ob → Prop)) : R → Prop
  | .val v h' =>
    if aoClass a = 2 then (∀ C ∈ Cs, C h') ∧ DRun P Γ K l os (setD t d v) h' (h' :: hs) Cs
    else if b = true ∧ aoClass a = 1 then (∀ g ∈ hs, aop P Γ t g a = .val v g) ∧ DRun P Γ K l os (setD t d v) h' hs ((fun g => aop P Γ t g a = .val v g) :: Cs)
    else DRun P Γ K l os (setD t d v) h' hs Cs
  | .skip h' => (∀ C ∈ Cs, C h') ∧ DRun P Γ K l os (setD t d (.tup [])) h' (h' :: hs) Cs
  | .call f args => hasBody P f = true ∧
    if b = true then ∃ (v : AV) (C : List Ob → Prop), (∀ g, C g → aop P Γ t g a = .call f args ∧ ∀ up, Reach P Γ (.cl f args up g) (.back up v g)) ∧ (∀ g ∈ hs, C g) ∧ DRun P Γ K l os (setD t d v) h hs (C :: Cs)
    else ∃ (v : AV) (h' : List Ob), (∀ up, Reach P Γ (.cl f args up h) (.back up v h')) ∧ (∀ C ∈ Cs, C h') ∧ DRun P Γ K l os (setD t d v) h' (h' :: hs) Cs
  | _ => False
/-- A call in a region. -/
structure DRC (P : Program) (Γ : Nat → Option AV) (K : List AV → List Ob → Prop) (b : Bool) (l : List Bool) (d : Option Nat) (a : AO) (os : List AG) (t : List AV) (h : List Ob) (hs : List (List Ob)) (Cs : List (List Ob → Prop)) (f : FuncId) (args : List AV) : Prop where
  is : drR P Γ K b l d a os t h hs Cs (.call f args)

@[simp] theorem DRun_fins {bh : Beh} {o : Out} : DRun P Γ (Beh.fins P Γ bh o) l [] t h hs Cs ↔ Fins P Γ (AM.go P Γ false bh.n (.fr ⟨.run, bh.fn, bh.k, t, bh.e.ds, bh.e.kind, bh.e.base⟩ bh.e.up h)) o := Iff.rfl
@[simp] theorem DRun_reach {bh : Beh} {c : Cfg} : DRun P Γ (Beh.reach P Γ bh c) l [] t h hs Cs ↔ Reach P Γ (AM.go P Γ true bh.n (.fr ⟨.run, bh.fn, bh.k, t, bh.e.ds, bh.e.kind, bh.e.base⟩ bh.e.up h)) c := Iff.rfl
@[simp] theorem DRun_op : DRun P Γ K (b :: l) (⟨d, none, a⟩ :: os) t h hs Cs ↔ drR P Γ K b l d a os t h hs Cs (aop P Γ t h a) := by
  rw [DRun]
  simp only [wanted_none]
  cases aop P Γ t h a <;> exact Iff.rfl
@[simp] theorem DRun_opg {j : Nat} {w : Bool} : DRun P Γ K (b :: l) (⟨d, some (j, w), a⟩ :: os) t h hs Cs ↔ (match wantedA t (some (j, w)) with
    | some true => drR P Γ K b l d a os t h hs Cs (aop P Γ t h a)
    | some false => DRun P Γ K l os (setD t d (.tup [])) h hs Cs
    | none => False) := by
  rw [DRun]
  cases wantedA t (some (j, w)) with
  | none => exact Iff.rfl
  | some x =>
    cases x with
    | false => exact Iff.rfl
    | true => cases aop P Γ t h a <;> exact Iff.rfl
@[simp] theorem drR_val : drR P Γ K b l d a os t h hs Cs (.val v h') ↔ if aoClass a = 2 then (∀ C ∈ Cs, C h') ∧ DRun P Γ K l os (setD t d v) h' (h' :: hs) Cs
    else if b = true ∧ aoClass a = 1 then (∀ g ∈ hs, aop P Γ t g a = .val v g) ∧ DRun P Γ K l os (setD t d v) h' hs ((fun g => aop P Γ t g a = .val v g) :: Cs)
    else DRun P Γ K l os (setD t d v) h' hs Cs := Iff.rfl
@[simp] theorem drR_skip : drR P Γ K b l d a os t h hs Cs (.skip h') ↔ (∀ C ∈ Cs, C h') ∧ DRun P Γ K l os (setD t d (.tup [])) h' (h' :: hs) Cs := Iff.rfl
@[simp] theorem drR_call : drR P Γ K b l d a os t h hs Cs (.call f args) ↔ DRC P Γ K b l d a os t h hs Cs f args := ⟨fun h1 => ⟨h1⟩, fun h1 => h1.is⟩

theorem back_eq {f : FuncId} {args as : List AV} {r : AV} {h : List Ob} (h1 : viewL h args = some as) (h2 : PureCon P Γ f as r) : ∀ up, Reach P Γ (.cl f args up h) (.back up (unownA h.length r).1 (afterPure h args r)) := fun _ => .pure h1 h2
/-- A call of a function of trees in a region. -/
theorem DRC.call {as : List AV} {r : AV} (h1 : viewL h args = some as) (h2 : PureCon P Γ f as r)
    (h3 : (∀ C ∈ Cs, C (afterPure h args r)) ∧ DRun P Γ K l os (setD t d (unownA h.length r).1) (afterPure h args r) (afterPure h args r :: hs) Cs) : DRC P Γ K false l d a os t h hs Cs f args :=
  ⟨h2.1, by rw [if_neg (by simp)]; exact ⟨_, _, back_eq h1 h2, h3.1, h3.2⟩⟩
/-- A call that leaves memory as it is, whatever it is. -/
theorem DRC.quiet {as : List AV} {r : AV} (h2 : PureCon P Γ f as r) (hr : ∀ n, unownA n r = (r, []))
    (h1 : ∀ g ∈ hs, aop P Γ t g a = .call f args ∧ viewL g args = some as ∧ afterPure g args r = g)
    (h3 : DRun P Γ K l os (setD t d r) h hs ((fun g => aop P Γ t g a = .call f args ∧ viewL g args = some as ∧ afterPure g args r = g) :: Cs)) : DRC P Γ K true l d a os t h hs Cs f args :=
  ⟨h2.1, by
    rw [if_pos rfl]
    refine ⟨r, _, fun g hg => ⟨hg.1, fun up => ?_⟩, h1, h3⟩
    have h4 := back_eq hg.2.1 h2 up
    rw [hr, hg.2.2] at h4
    exact h4⟩
/-- A call of any function in a region. -/
theorem DRC.reach {v : AV} {h' : List Ob} (hb : hasBody P f = true) (h1 : ∀ up, Reach P Γ (.cl f args up h) (.back up v h'))
    (h3 : (∀ C ∈ Cs, C h') ∧ DRun P Γ K l os (setD t d v) h' (h' :: hs) Cs) : DRC P Γ K false l d a os t h hs Cs f args :=
  ⟨hb, by rw [if_neg (by simp)]; exact ⟨_, _, h1, h3.1, h3.2⟩⟩
end
end Go.AM
