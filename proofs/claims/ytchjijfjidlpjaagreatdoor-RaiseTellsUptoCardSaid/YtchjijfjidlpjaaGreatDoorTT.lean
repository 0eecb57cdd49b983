/- RaiseTells: for every input the law returns true, and each argument reads as it did; the package's variables start as the program's text lays them. -/
import Derived.Test.YtchjijfjidlpjaaGreatDoorM
import Derived.Test.YtchjijfjidlpjaaGreatDoorN
set_option linter.unusedSimpArgs false
set_option linter.unusedVariables false
namespace Go.Proofs.YtchjijfjidlpjaaGreatDoor
open Go.AM Go.Proofs Go.ChangeShapes Go.WideShapes Go.ChangeAt Go.RowKit
theorem Sf(os:Os){H:Type}(enc:TypeId×Value->H):∃places,DataW.whole enc Tryz.prog ((E7 os).forCall (fun _ _=>0) ⟨#[],#[.agg #[.int .i64 0,.slice none 0 0,.slice none 0 0,.slice none 0 0,.slice none 0 0,.slice none 0 0,.slice none 0 0,.slice none 0 0]],[]⟩).memory Tryz.f3.params.toList Rows.raiseTellsSpec.vars false (#[.agg #[.int .i64 0,.slice none 0 0,.slice none 0 0,.slice none 0 0,.slice none 0 0,.slice none 0 0,.slice none 0 0,.slice none 0 0]]:Array Value).toList 8=some ([.agg [.agg [.lit (.int .i64 0),.nil,.nil,.nil,.nil],.nil,.nil,.nil]],[],places):=
 ⟨[],by kernel_rfl⟩
set_option maxRecDepth 100000 in
theorem R3(os:Os)(started:os.Started)(H:Type)(enc:TypeId×Value->H)(F:Stop.Interp):
 ReturnsInHanded {} Tryz.checked os 3 .any ((Rows.OpenSpec.upto Rows.raiseTellsSpec).preRow enc Tryz.prog Tryz.f3 Rows.raiseTellsUptoRow.domain false Rows.raiseTellsUptoRow.laid) (((Rows.OpenSpec.upto Rows.raiseTellsSpec).at F).post enc Tryz.prog Tryz.f3 false true false false):=by
 obtain⟨places,hx⟩:=Sf os enc
 refine returnsInHanded_of_row (C:=Tryz.checked) (s:=Rows.OpenSpec.upto Rows.raiseTellsSpec) own started (by kernel_rfl) Tryz.func3
  (witness_row_at (enc:=enc) (C:=Tryz.checked) false (E7 os) #[.agg #[.int .i64 0,.slice none 0 0,.slice none 0 0,.slice none 0 0,.slice none 0 0,.slice none 0 0,.slice none 0 0,.slice none 0 0]] rfl (by kernel_rfl) (by kernel_rfl) (by kernel_rfl)
   (OpenSpec.preRow_of_cond 8 hx (by kernel_rfl) (fun k hk=>by cases hk;kernel_rfl) (by kernel_rfl) (YM os _))) ?_
 intro W base args ds gs before hval hW _ hcond _ hL hsh _;obtain⟨Γ,hΓ,hok,hpin⟩:=XR hL;refine UJ abJ (Γ:=Γ) (shs:=[(true,NT)]) laid abF (tb:=4) (by kernel_rfl) u4 (of_decide_eq_true (by kernel_rfl)) (by kernel_rfl) rfl ?_ hok (hpin _ rfl) ?_ hval hW (XM (hcond _ rfl))
 ·intro ds hds
  match ds,hds with
  |[d1],_=>exact⟨rfl,rfl,rfl⟩
 ·intro xs has;simp only[rJ]at has;obtain⟨_,_,rfl,h1,_,rfl⟩:=has;obtain⟨a1,l1,a1b⟩:=abd h1;simp only[me,l1];exact Tu hΓ.1 hΓ.2 a1 (a1b (by decide))
theorem Sg:Rows.RaiseTellsUptoSaid:=
 OpenClaim.holds_of_cond 3 Tryz.f3 rfl rfl rfl rfl rfl rfl rfl ⟨rfl,rfl,rfl,rfl,rfl⟩ rfl rfl rfl rfl rfl (by kernel_rfl) Tryz.func3 (by kernel_rfl)
  (of_decide_eq_true (by kernel_rfl)) (by unfold Func.isWrapper;first|(rw[if_pos (by decide+kernel)];kernel_rfl)|(rw[if_neg (by decide+kernel)];exact⟨rfl,rfl⟩))
  (fun os started H enc _ F=>by rw[OpenClaim.pre_eq_preRow];exact R3 os started H enc F)
theorem Sd(f:FuncId)(fn:Func)(hf:Tryz.pinned.checked.prog.funcNamed "patchbay/patchbaylaw12.RaiseTells" =some f)(hfn:Tryz.pinned.checked.prog.funcs[f]? =some fn):
 true=Tryz.pinned.checked.prog.looks []/\∀(j:Nat) t,fn.params[j]? =some t->Tryz.pinned.checked.prog.wantsStandIn t=false:=by
 obtain rfl:f=3:=Option.some.inj ((show Tryz.prog.funcNamed "patchbay/patchbaylaw12.RaiseTells" =some 3 by kernel_rfl).symm.trans hf)|>.symm
 obtain rfl:fn=Tryz.f3:=(Option.some.inj (Tryz.func3.symm.trans hfn)).symm;refine⟨by kernel_rfl,fun j t ht=>?_⟩
 have h1:(Tryz.f3.params.toList.all fun t=>!Tryz.prog.wantsStandIn t)=true:=by kernel_rfl
 have h2:=dL.1 h1 t (by simpa using Array.mem_of_getElem? ht)
 revert h2
 show(!Tryz.prog.wantsStandIn t)=true->Tryz.prog.wantsStandIn t=false
 cases Tryz.prog.wantsStandIn t<;>intro h<;>first|rfl|cases h
theorem raiseTells_holds:Rows.RaiseTellsUptoCardSaid:=
 Claim7.holds_tied_plain_at .later [] _ _ _ _ Sg (fun _ h=>by cases h) (by kernel_rfl) (fun _ h=>by cases h) raiseTellsUpto_row_tie rfl ⟨rfl,rfl⟩ (by kernel_rfl) rfl Sd (by kernel_rfl)
#print axioms raiseTells_holds
end Go.Proofs.YtchjijfjidlpjaaGreatDoor
