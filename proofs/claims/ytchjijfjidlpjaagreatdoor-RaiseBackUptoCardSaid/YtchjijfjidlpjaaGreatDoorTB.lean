/- RaiseBack: for every input the law returns true, and each argument reads as it did; the package's variables start as the program's text lays them. -/
import Derived.Test.YtchjijfjidlpjaaGreatDoorM
set_option linter.unusedSimpArgs false
set_option linter.unusedVariables false
namespace Go.Proofs.YtchjijfjidlpjaaGreatDoor
open Go.AM Go.Proofs Go.ChangeShapes Go.WideShapes Go.ChangeAt Go.RowKit
theorem X6(os:Os){H:Type}(enc:TypeId×Value->H):∃places,DataW.whole enc Tryz.prog ((Iw os).forCall (fun _ _=>0) ⟨#[],#[.agg #[.int .i64 0,.slice none 0 0,.slice none 0 0,.slice none 0 0,.slice none 0 0,.slice none 0 0,.slice none 0 0,.slice none 0 0]],[]⟩).memory Tryz.f6.params.toList Rows.raiseBackSpec.vars false (#[.agg #[.int .i64 0,.slice none 0 0,.slice none 0 0,.slice none 0 0,.slice none 0 0,.slice none 0 0,.slice none 0 0,.slice none 0 0]]:Array Value).toList 8=some ([.agg [.agg [.lit (.int .i64 0),.nil,.nil,.nil,.nil],.nil,.nil,.nil]],[],places):=
 ⟨[],by kernel_rfl⟩
set_option maxRecDepth 100000 in
theorem XZ(os:Os)(started:os.Started)(H:Type)(enc:TypeId×Value->H)(F:Stop.Interp):
 ReturnsInHanded {} Tryz.checked os 6 .any ((Rows.OpenSpec.upto Rows.raiseBackSpec).preRow enc Tryz.prog Tryz.f6 Rows.raiseBackUptoRow.domain false Rows.raiseBackUptoRow.laid) (((Rows.OpenSpec.upto Rows.raiseBackSpec).at F).post enc Tryz.prog Tryz.f6 false true false false):=by
 obtain⟨places,hx⟩:=X6 os enc
 refine returnsInHanded_of_row (C:=Tryz.checked) (s:=Rows.OpenSpec.upto Rows.raiseBackSpec) own started (by kernel_rfl) Tryz.func6
  (witness_row_at (enc:=enc) (C:=Tryz.checked) false (Iw os) #[.agg #[.int .i64 0,.slice none 0 0,.slice none 0 0,.slice none 0 0,.slice none 0 0,.slice none 0 0,.slice none 0 0,.slice none 0 0]] rfl (by kernel_rfl) (by kernel_rfl) (by kernel_rfl)
   (OpenSpec.preRow_of_cond 8 hx (by kernel_rfl) (fun k hk=>by cases hk;kernel_rfl) (by kernel_rfl) (abN os _))) ?_
 intro W base args ds gs before hval hW _ hcond _ hL hsh _;obtain⟨Γ,hΓ,hok,hpin⟩:=abU hL;refine aaM aiM (Γ:=Γ) (shs:=[(true,Su)]) laid aix (tb:=4) (by kernel_rfl) u4 (A4 (by kernel_rfl)) (by kernel_rfl) rfl ?_ hok (hpin _ rfl) ?_ hval hW (adN (hcond _ rfl))
 ·intro ds hds
  match ds,hds with
  |[d1],_=>exact⟨rfl,rfl,rfl⟩
 ·intro xs has;simp only[tV]at has;obtain⟨_,_,rfl,h1,_,rfl⟩:=has;obtain⟨a1,l1,a1b⟩:=ahx h1;simp only[nM,l1];exact ZC hΓ.1 hΓ.2.1 hΓ.2.2 a1 (a1b (by decide))
theorem Yv:Rows.RaiseBackUptoSaid:=
 OpenClaim.holds_of_cond 6 Tryz.f6 rfl rfl rfl rfl rfl rfl rfl ⟨rfl,rfl,rfl,rfl,rfl⟩ rfl rfl rfl rfl rfl (by kernel_rfl) Tryz.func6 (by kernel_rfl)
  (A4 (by kernel_rfl)) (by unfold Func.isWrapper;first|(rw[if_pos (by decide+kernel)];kernel_rfl)|(rw[if_neg (by decide+kernel)];exact⟨rfl,rfl⟩))
  (fun os started H enc _ F=>by rw[OpenClaim.pre_eq_preRow];exact XZ os started H enc F)
theorem Yh(f:FuncId)(fn:Func)(hf:Tryz.pinned.checked.prog.funcNamed "patchbay/patchbaylaw12.RaiseBack" =some f)(hfn:Tryz.pinned.checked.prog.funcs[f]? =some fn):
 true=Tryz.pinned.checked.prog.looks []/\∀(j:Nat) t,fn.params[j]? =some t->Tryz.pinned.checked.prog.wantsStandIn t=false:=by
 obtain rfl:f=6:=Option.some.inj ((show Tryz.prog.funcNamed "patchbay/patchbaylaw12.RaiseBack" =some 6 by kernel_rfl).symm.trans hf)|>.symm
 obtain rfl:fn=Tryz.f6:=(Option.some.inj (Tryz.func6.symm.trans hfn)).symm;refine⟨by kernel_rfl,fun j t ht=>?_⟩
 have h1:(Tryz.f6.params.toList.all fun t=>!Tryz.prog.wantsStandIn t)=true:=by kernel_rfl
 have h2:=dU.1 h1 t (by simpa using Array.mem_of_getElem? ht)
 revert h2
 show(!Tryz.prog.wantsStandIn t)=true->Tryz.prog.wantsStandIn t=false
 cases Tryz.prog.wantsStandIn t<;>intro h<;>first|rfl|cases h
theorem raiseBack_holds:Rows.RaiseBackUptoCardSaid:=
 Claim7.holds_tied_plain_at .later [] _ _ _ _ Yv (fun _ h=>by cases h) (by kernel_rfl) (fun _ h=>by cases h) raiseBackUpto_row_tie rfl ⟨rfl,rfl⟩ (by kernel_rfl) rfl Yh (by kernel_rfl)
#print axioms raiseBack_holds
end Go.Proofs.YtchjijfjidlpjaaGreatDoor
