/- RaiseLowers: for every i -/
import Derived.Test.YtchjijfjidlpjaaGreatDoorM
set_option linter.unusedSimpArgs false
set_option linter.unusedVariables false
namespace Go.Proofs.YtchjijfjidlpjaaGreatDoor
open Go.AM Go.Proofs Go.ChangeShapes Go.WideShapes Go.ChangeAt Go.RowKit
theorem ZQ(os:Os){H:Type}(enc:TypeId×Value->H):∃places,DataW.whole enc Tryz.prog ((Jp os).forCall (fun _ _=>0) ⟨#[],#[.agg #[.slice none 0 0,.slice none 0 0,.slice none 0 0,.slice none 0 0],.slice none 0 0,.slice none 0 0],[]⟩).memory Tryz.f8.params.toList Rows.raiseLowersSpec.vars false (#[.agg #[.slice none 0 0,.slice none 0 0,.slice none 0 0,.slice none 0 0],.slice none 0 0,.slice none 0 0]:Array Value).toList 8=some ([.agg [.nil,.nil,.nil,.nil],.nil,.nil],[],places):=
 ⟨[],by kernel_rfl⟩
set_option maxRecDepth 100000 in
theorem ZH(os:Os)(started:os.Started)(H:Type)(enc:TypeId×Value->H)(F:Stop.Interp):
 ReturnsInHanded {} Tryz.checked os 8 .any ((Rows.OpenSpec.upto Rows.raiseLowersSpec).preRow enc Tryz.prog Tryz.f8 Rows.raiseLowersUptoRow.domain false Rows.raiseLowersUptoRow.laid) (((Rows.OpenSpec.upto Rows.raiseLowersSpec).at F).post enc Tryz.prog Tryz.f8 false true false false):=by
 obtain⟨places,hx⟩:=ZQ os enc
 refine returnsInHanded_of_row (C:=Tryz.checked) (s:=Rows.OpenSpec.upto Rows.raiseLowersSpec) own started (by kernel_rfl) Tryz.func8
  (witness_row_at (enc:=enc) (C:=Tryz.checked) false (Jp os) #[.agg #[.slice none 0 0,.slice none 0 0,.slice none 0 0,.slice none 0 0],.slice none 0 0,.slice none 0 0] rfl (by kernel_rfl) (by kernel_rfl) (by kernel_rfl)
   (OpenSpec.preRow_of_cond 8 hx (by kernel_rfl) (fun k hk=>by cases hk;kernel_rfl) (by kernel_rfl) (aeP os _))) ?_
 intro W base args ds gs before hb hW _ hv _ hL h4 _;obtain⟨Γ,hΓ,hj,hc⟩:=aeg hL;refine adp ak5 (Γ:=Γ) (shs:=[(true,TJ),(false,JX),(false,JX)]) laid akW (tb:=4) (by kernel_rfl) u4 (BD (by kernel_rfl)) (by kernel_rfl) rfl ?_ hj (hc _ rfl) ?_ hb hW (agG (hv _ rfl))
 ·intro ds hl
  match ds,hl with
  |[d1,d2,d3],_=>exact⟨rfl,rfl,rfl⟩
 ·intro xs has;simp only[ux]at has;obtain⟨_,_,rfl,h1,_,_,_,rfl,h2,_,_,_,rfl,h3,_,rfl⟩:=has;obtain⟨a1,l1,q1⟩:=aj7 h1;obtain⟨a2,rfl,ih⟩:=NM h2;obtain⟨a3,rfl,hf⟩:=NM h3;simp only[nw,l1];exact aaO hΓ.1 hΓ.2.1 hΓ.2.2 a1 q1.toL a2 a3 (by omega) (by omega) .self .self
theorem ZY:Rows.RaiseLowersUptoSaid:=
 OpenClaim.holds_of_cond 8 Tryz.f8 rfl rfl rfl rfl rfl rfl rfl ⟨rfl,rfl,rfl,rfl,rfl⟩ rfl rfl rfl rfl rfl (by kernel_rfl) Tryz.func8 (by kernel_rfl)
  (BD (by kernel_rfl)) (by unfold Func.isWrapper;first|(rw[if_pos (by decide+kernel)];kernel_rfl)|(rw[if_neg (by decide+kernel)];exact⟨rfl,rfl⟩))
  (fun os started H enc _ F=>by rw[OpenClaim.pre_eq_preRow];exact ZH os started H enc F)
theorem ZN(f:FuncId)(fn:Func)(hf:Tryz.pinned.checked.prog.funcNamed "patchbay/patchbaylaw12.RaiseLowers" =some f)(hv:Tryz.pinned.checked.prog.funcs[f]? =some fn):
 true=Tryz.pinned.checked.prog.looks []/\∀(j:Nat) t,fn.params[j]? =some t->Tryz.pinned.checked.prog.wantsStandIn t=false:=by
 obtain rfl:f=8:=Option.some.inj ((show Tryz.prog.funcNamed "patchbay/patchbaylaw12.RaiseLowers" =some 8 by kernel_rfl).symm.trans hf)|>.symm
 obtain rfl:fn=Tryz.f8:=(Option.some.inj (Tryz.func8.symm.trans hv)).symm;refine⟨by kernel_rfl,fun j t ht=>?_⟩
 have h1:(Tryz.f8.params.toList.all fun t=>!Tryz.prog.wantsStandIn t)=true:=by kernel_rfl
 have h2:=eh.1 h1 t (by simpa using Array.mem_of_getElem? ht)
 revert h2
 show(!Tryz.prog.wantsStandIn t)=true->Tryz.prog.wantsStandIn t=false
 cases Tryz.prog.wantsStandIn t<;>intro h<;>first|rfl|cases h
theorem raiseLowers_holds:Rows.RaiseLowersUptoCardSaid:=
 Claim7.holds_tied_plain_at .later [] _ _ _ _ ZY (fun _ h=>by cases h) (by kernel_rfl) (fun _ h=>by cases h) raiseLowersUpto_row_tie rfl ⟨rfl,rfl⟩ (by kernel_rfl) rfl ZN (by kernel_rfl)
#print axioms raiseLowers_holds
end Go.Proofs.YtchjijfjidlpjaaGreatDoor
