/- A list's elements' size. -/
import Derived.Test.YtfpkjfmpamlakaaAMd
import Derived.Test.YtfpkjfmpamlakaaCode
import Derived.Test.YtfpkjfmpamlakaaRows
import Derived.HandedShaped
set_option linter.unusedSimpArgs false
set_option linter.unusedVariables false
namespace Go.Proofs.Ytfpkjfmpamlakaa
open Go.AM Go.Proofs
def Kd (n k:Nat) {α:Type} (l:List α):Prop:=k=n∨l=[]
theorem Kd.of {n k:Nat} {α:Type} {l:List α} (h:Kd n k l) {i:Nat} (hi:i<l.length):k=n:=by
 rcases h with h | h
 ·exact h
 ·subst h; simp at hi
theorem Kd.self {n:Nat} {α:Type} {l:List α}:Kd n n l:=.inl rfl
theorem Kd.nil {n k:Nat} {α:Type}:Kd n k ([]:List α):=.inr rfl
@[simp] abbrev i64 (n:Int):AV:=.int .i64 n
end Go.Proofs.Ytfpkjfmpamlakaa
namespace Go.Proofs.Ytfpkjfmpamlakaa
open Go.AM Go.Proofs
variable {Γ : Nat → Option AV}
theorem p_r01_Ints (a b:List Int) {ka kb:Nat} (ha:Kd 1 ka a) (hb:Kd 1 kb b) (hs:a.length<2^60):PureCon Try.prog Γ n_r01_Ints [.list false ka (a.map i64),.list false kb (b.map i64)] (.bool (decide (a=b))):=by
 refine .run 60 c_r01_Ints (by simp) ?_
 by_cases hl:a.length=b.length
 ·have key:∀ n i:Nat,i+n=a.length→Fins Try.prog Γ (ygT (.list false ka (a.map i64)) (.list false kb (b.map i64)) (.int .i64 i) []) (.ret (.bool (decide (a.drop i=b.drop i)))):=by
   intro n
   induction n with
   | zero =>
    intro i hi;refine .go 60 ?_
    have h1:¬ i<a.length:=by omega
    have h2:a.drop i=b.drop i:=by rw [List.drop_eq_nil_of_le (by omega),List.drop_eq_nil_of_le (by omega)]
    simp [h1,h2];exact .back (by simp)
   | succ n ih =>
    intro i hi
    have h1:i<a.length:=by omega
    have h2:i<b.length:=by omega
    obtain rfl:=ha.of h1;obtain rfl:=hb.of h2;have h4:=drop_eq h1 h2;refine .go 60 ?_
    by_cases h3:a[i]=b[i]
    ·simp (disch:=omega) [h1,h2,h3,h4];refine .reLoop ?_;simpa using ih (i+1) (by omega)
    ·simp (disch:=omega) [h1,h2,h3,h4];exact .back (by simp)
  simp [hl];refine .inLoop ?_;simpa [hl] using key a.length 0 (by omega)
 ·have h2:¬ a=b:=fun e=>hl (by rw [e])
  simp [hl,h2];exact .back (by simp)
theorem p_r08_Bools (a b:List Bool) {ka kb:Nat} (ha:Kd 1 ka a) (hb:Kd 1 kb b) (hs:a.length<2^60):PureCon Try.prog Γ n_r08_Bools [.list false ka (a.map .bool),.list false kb (b.map .bool)] (.bool (decide (a=b))):=by
 refine .run 60 c_r08_Bools (by simp) ?_
 by_cases hl:a.length=b.length
 ·have key:∀ n i:Nat,i+n=a.length→Fins Try.prog Γ (yfY (.list false ka (a.map .bool)) (.list false kb (b.map .bool)) (.int .i64 i) []) (.ret (.bool (decide (a.drop i=b.drop i)))):=by
   intro n
   induction n with
   | zero =>
    intro i hi;refine .go 60 ?_
    have h1:¬ i<a.length:=by omega
    have h2:a.drop i=b.drop i:=by rw [List.drop_eq_nil_of_le (by omega),List.drop_eq_nil_of_le (by omega)]
    simp [h1,h2];exact .back (by simp)
   | succ n ih =>
    intro i hi
    have h1:i<a.length:=by omega
    have h2:i<b.length:=by omega
    obtain rfl:=ha.of h1;obtain rfl:=hb.of h2;have h4:=drop_eq h1 h2;refine .go 60 ?_
    by_cases h3:a[i]=b[i]
    ·simp (disch:=omega) [h1,h2,h3,h4];refine .reLoop ?_;simpa using ih (i+1) (by omega)
    ·simp (disch:=omega) [h1,h2,h3,h4];exact .back (by simp)
  simp [hl];refine .inLoop ?_;simpa [hl] using key a.length 0 (by omega)
 ·have h2:¬ a=b:=fun e=>hl (by rw [e])
  simp [hl,h2];exact .back (by simp)
theorem p_slices_Equal_int_int (a b:List Int) {ka kb:Nat} (ha:Kd 1 ka a) (hb:Kd 1 kb b) (hs:a.length<2^60):PureCon Try.prog Γ n_slices_Equal_int_int [.list false ka (a.map i64),.list false kb (b.map i64)] (.bool (decide (a=b))):=by
 refine .run 60 c_slices_Equal_int_int (by simp) ?_
 by_cases hl:a.length=b.length
 ·have key:∀ n i:Nat,i+n=a.length→Fins Try.prog Γ (yje (.list false ka (a.map i64)) (.list false kb (b.map i64)) (.int .i64 a.length) (.int .i64 i) []) (.ret (.bool (decide (a.drop i=b.drop i)))):=by
   intro n
   induction n with
   | zero =>
    intro i hi;refine .go 60 ?_
    have h1:¬ i<a.length:=by omega
    have h2:a.drop i=b.drop i:=by rw [List.drop_eq_nil_of_le (by omega),List.drop_eq_nil_of_le (by omega)]
    simp [h1,h2];exact .back (by simp)
   | succ n ih =>
    intro i hi
    have h1:i<a.length:=by omega
    have h2:i<b.length:=by omega
    obtain rfl:=ha.of h1;obtain rfl:=hb.of h2;have h4:=drop_eq h1 h2;refine .go 60 ?_
    by_cases h3:a[i]=b[i]
    ·simp (disch:=omega) [h1,h2,h3,h4];refine .reLoop ?_;simpa using ih (i+1) (by omega)
    ·simp (disch:=omega) [h1,h2,h3,h4];exact .back (by simp)
  simp [hl];refine .inLoop ?_;simpa [hl] using key a.length 0 (by omega)
 ·have h2:¬ a=b:=fun e=>hl (by rw [e])
  simp [hl,h2];exact .back (by simp)
end Go.Proofs.Ytfpkjfmpamlakaa
namespace Go.Proofs.Ytfpkjfmpamlakaa
open Go.AM Go.Proofs
structure RowI where
 f:Bool
 k:Nat
 l:List Int
 hk:Kd 1 k l
abbrev eRow (r:RowI):AV:=.list r.f r.k (r.l.map i64)
end Go.Proofs.Ytfpkjfmpamlakaa
namespace Go.Proofs.Ytfpkjfmpamlakaa
open Go.AM Go.Proofs
variable {Γ : Nat → Option AV}
theorem p_IndexFunc_clit {φ : List Ob→Prop} {f:FuncId} {caps:List AV} {p:Int→Bool} {l:List Int} {k:Nat} {fl:Bool} (ha:Asks Try.prog Γ φ f caps i64 p l) (hk:Kd 1 k l) (hs:l.length<2^60) {h:List Ob} (hφ : φ h) :
  ∀ up,AM.Reach Try.prog Γ (.cl n_slices_IndexFunc_api_Clause_int [.list fl k (l.map i64),.fn (.func f) [] caps] up h) (.back up (.int .i64 (idxF p l 0)) h):=by
 intro up
 have key:∀ n i:Nat,i+n=l.length→AM.Reach Try.prog Γ (yoB (.list fl k (l.map i64)) (.fn (.func f) [] caps) (.int .i64 l.length) (.int .i64 i) h ⟨[],.norm,h.length,up⟩) (.back up (.int .i64 (idxF p (l.drop i) i)) h):=by
  intro n
  induction n with
  | zero =>
   intro i hi
   have h1:¬ i<l.length:=by omega
   refine .goB 60 ?_;rw [List.drop_eq_nil_of_le (by omega)];simp [h1,idxF]
  | succ n ih =>
   intro i hi
   have h1:i<l.length:=by omega
   obtain rfl:=hk.of h1;have h2:=ha.2 l[i] (List.getElem_mem h1);rw [List.drop_eq_getElem_cons h1,idxF];have hh:=ih (i+1) (by omega);refine .goB 60 ?_;simp [h1,ha.1];refine .rcall 60 (fun up=>h2 up h hφ) ?_
   cases hp:p l[i] with
   | true=>simp (disch:=omega) [hp]
   | false =>
    simp (disch:=omega) [hp];refine .reLoop ?_;simp at hh ⊢;exact hh
 refine .enterB 60 c_slices_IndexFunc_api_Clause_int ?_;simp;refine .inLoop ?_;have hh:=key l.length 0 (by omega);simp at hh ⊢;exact hh
theorem p_ContainsFunc_clit {φ : List Ob→Prop} {f:FuncId} {caps:List AV} {p:Int→Bool} {l:List Int} {k:Nat} {fl:Bool} (ha:Asks Try.prog Γ φ f caps i64 p l) (hk:Kd 1 k l) (hs:l.length<2^60) {h:List Ob} (hφ : φ h) :
  ∀ up,AM.Reach Try.prog Γ (.cl n_slices_ContainsFunc_api_Clause_int [.list fl k (l.map i64),.fn (.func f) [] caps] up h) (.back up (.bool (anyB p l)) h):=by
 intro up;refine .enterB 60 c_slices_ContainsFunc_api_Clause_int ?_;simp;refine .rcall 60 (p_IndexFunc_clit ha hk hs hφ) ?_;have h1:=idxF_ge p l 0
 cases hp:anyB p l with
 | true=>rw [hp] at h1; simp at h1; simp [h1]
 | false =>
  rw [hp] at h1
  have h2:¬ 0≤idxF p l 0:=by rw [h1]; simp
  simp [h2]
theorem p_IndexFunc_row {φ : List Ob→Prop} {f:FuncId} {caps:List AV} {p:RowI→Bool} {l:List RowI} {k:Nat} {fl:Bool} (ha:Asks Try.prog Γ φ f caps eRow p l) (hk:Kd 1 k l) (hs:l.length<2^60) {h:List Ob} (hφ : φ h) :
  ∀ up,AM.Reach Try.prog Γ (.cl n_slices_IndexFunc_api_Clause_api_Clause [.list fl k (l.map eRow),.fn (.func f) [] caps] up h) (.back up (.int .i64 (idxF p l 0)) h):=by
 intro up
 have key:∀ n i:Nat,i+n=l.length→AM.Reach Try.prog Γ (yoQ (.list fl k (l.map eRow)) (.fn (.func f) [] caps) (.int .i64 l.length) (.int .i64 i) h ⟨[],.norm,h.length,up⟩) (.back up (.int .i64 (idxF p (l.drop i) i)) h):=by
  intro n
  induction n with
  | zero =>
   intro i hi
   have h1:¬ i<l.length:=by omega
   refine .goB 60 ?_;rw [List.drop_eq_nil_of_le (by omega)];simp [h1,idxF]
  | succ n ih =>
   intro i hi
   have h1:i<l.length:=by omega
   obtain rfl:=hk.of h1;have h2:=ha.2 l[i] (List.getElem_mem h1);rw [List.drop_eq_getElem_cons h1,idxF];have hh:=ih (i+1) (by omega);refine .goB 60 ?_;simp [h1,ha.1];refine .rcall 60 (fun up=>h2 up h hφ) ?_
   cases hp:p l[i] with
   | true=>simp (disch:=omega) [hp]
   | false =>
    simp (disch:=omega) [hp];refine .reLoop ?_;simp at hh ⊢;exact hh
 refine .enterB 60 c_slices_IndexFunc_api_Clause_api_Clause ?_;simp;refine .inLoop ?_;have hh:=key l.length 0 (by omega);simp at hh ⊢;exact hh
theorem p_ContainsFunc_row {φ : List Ob→Prop} {f:FuncId} {caps:List AV} {p:RowI→Bool} {l:List RowI} {k:Nat} {fl:Bool} (ha:Asks Try.prog Γ φ f caps eRow p l) (hk:Kd 1 k l) (hs:l.length<2^60) {h:List Ob} (hφ : φ h) :
  ∀ up,AM.Reach Try.prog Γ (.cl n_slices_ContainsFunc_api_Clause_api_Clause [.list fl k (l.map eRow),.fn (.func f) [] caps] up h) (.back up (.bool (anyB p l)) h):=by
 intro up;refine .enterB 60 c_slices_ContainsFunc_api_Clause_api_Clause ?_;simp;refine .rcall 60 (p_IndexFunc_row ha hk hs hφ) ?_;have h1:=idxF_ge p l 0
 cases hp:anyB p l with
 | true=>rw [hp] at h1; simp at h1; simp [h1]
 | false =>
  rw [hp] at h1
  have h2:¬ 0≤idxF p l 0:=by rw [h1]; simp
  simp [h2]
def oddC (vars:Nat) (a:Int):Bool:=decide (a=0)||decide (a < -vars)||decide ((vars:Int)<a)
def oddR (vars:Nat) (r:RowI):Bool:=anyB (oddC vars) r.l
def limC (n:Nat) (vars:Int):Bool:=decide (vars<0)||decide (20000<vars)||decide (100000<n)
def checkC (xs:List RowI) (vars:Int):Int:=if limC xs.length vars=true then 8 else if anyB (oddR vars.toNat) xs=true then 1 else 0
def FewR (xs:List RowI):Prop:=xs.length<2^40∧∀ r∈xs,r.l.length<2^40
theorem a_cnf_Check_1 (j:Nat) (vars:Nat) (hv:vars≤20000) (l:List Int):Asks Try.prog Γ (fun h=>h[j]? = some (.cells [.int .i64 vars])) n_cnf_Check_1 [.ptr j 0] i64 (oddC vars) l:=by
 refine ⟨by simp,fun x _ up h hφ => ?_⟩;refine .enterB 60 c_cnf_Check_1 ?_;unfold oddC
 by_cases h1:x=0
 ·simp [hφ,h1]
 by_cases h2:x < -(vars:Int)
 ·simp (disch:=omega) [hφ,h1,h2]
 by_cases h4:(vars:Int)<x
 ·simp (disch:=omega) [hφ,h1,h2,h4]
 ·simp (disch:=omega) [hφ,h1,h2,h4]
theorem a_cnf_Check_2 (i j:Nat) (vars:Nat) (hv:vars≤20000) (xs:List RowI) (hx:∀ r∈xs,r.l.length<2^40) :
  Asks Try.prog Γ (fun h=>h[i]? = some (.cells [.fn (.func n_cnf_Check_1) [] [.ptr j 0]])∧h[j]? = some (.cells [.int .i64 vars])) n_cnf_Check_2 [.ptr i 0] eRow (oddR vars) xs:=by
 refine ⟨by simp,fun x hxm up h hφ => ?_⟩;refine .enterB 60 c_cnf_Check_2 ?_;simp [hφ.1];refine .rcall 60 (p_ContainsFunc_clit (a_cnf_Check_1 j vars hv x.l) x.hk (by have:=hx x hxm; omega) hφ.2) ?_;simp [oddR]
theorem p_cnf_Check (xs:List RowI) (hf:FewR xs) (vars:Int) {k:Nat} (hk:Kd 1 k xs):PureCon Try.prog Γ n_cnf_Check [.list false k (xs.map eRow),.int .i64 vars] (.int .i64 (checkC xs vars)):=by
 refine .run 60 c_cnf_Check (by simp) ?_;unfold checkC limC
 by_cases h1:vars<0
 ·simp [h1]; exact .back (by simp)
 by_cases h2:20000<vars
 ·simp [h1,h2]; exact .back (by simp)
 by_cases h3:100000<xs.length
 ·have h3':(100000:Int)<xs.length:=by omega
  simp [h1,h2,h3,h3']; exact .back (by simp)
 have h3':¬ (100000:Int)<xs.length:=by omega
 obtain ⟨v,rfl⟩:=Int.eq_ofNat_of_zero_le (show 0≤vars by omega);simp [h1,h2,h3,h3'];refine .rcall 60 (p_ContainsFunc_row (a_cnf_Check_2 1 0 v (by omega) xs hf.2) hk (by have:=hf.1; omega) (by simp)) ?_
 by_cases hb:anyB (oddR v) xs=true
 ·simp [hb]; exact .back (by simp)
 ·simp [hb]; exact .back (by simp)
def holdsV (v:List Bool) (a:Int):Bool:=if a<0 then !(v.getD (-a - 1).toNat false) else v.getD (a - 1).toNat false
def failR (v:List Bool) (r:RowI):Bool := !anyB (holdsV v) r.l
def trueC (xs:List RowI) (v:List Bool):Bool:=if checkC xs v.length=0 then !anyB (failR v) xs else false
theorem checkC_ok {xs:List RowI} {v:Nat} (h:checkC xs v=0):v≤20000∧xs.length≤100000∧∀ r∈xs,∀ a∈r.l,a≠0 ∧ -(v:Int)≤a∧a≤v:=by
 unfold checkC limC at h
 split at h
 ·simp at h
 ·rename_i h1
  split at h
  ·simp at h
  ·rename_i h2;simp only [Bool.not_eq_true,Bool.or_eq_false_iff,decide_eq_false_iff_not] at h1;refine ⟨by omega,by omega,fun r hr a ha => ?_⟩;have h3:=anyB_no.1 (by simpa using h2) r hr;have h4:=anyB_no.1 h3 a ha;simp [oddC] at h4;omega
@[simp] theorem max_int (a b:Int):maxA (.int .i64 a) [.int .i64 b]=some (.int .i64 (max a b)):=by
 have:(if a<b then b else a)=max a b:=by split <;> omega
 simp [maxA,this]
theorem a_cnf_True_1 (i:Nat) (v:List Bool) {k:Nat} (hk:Kd 1 k v) (hv:v.length<2^40) (l:List Int) (hl:∀ a∈l,a≠0 ∧ -(v.length:Int)≤a∧a≤v.length) :
  Asks Try.prog Γ (fun h=>h[i]? = some (.cells [.list false k (v.map .bool)])) n_cnf_True_1 [.ptr i 0] i64 (holdsV v) l:=by
 refine ⟨by simp,fun a ha up h hφ => ?_⟩;obtain ⟨h0,h1,h2⟩:=hl a ha
 have hne:0<v.length:=by omega
 have hk1:=eq_true (hk.of hne);refine .enterB 60 c_cnf_True_1 ?_;unfold holdsV
 by_cases c1:a<0
 ·obtain ⟨n,hn⟩:=Int.eq_ofNat_of_zero_le (show 0 ≤ -a - 1 by omega)
  have hnl:n<v.length:=by omega
  have e1:max a (0 - a) - 1=(n:Int):=by omega
  have e2:max a (-a) - 1=(n:Int):=by omega
  have e3:¬ 0<a:=by omega
  simp (disch:=omega) [hφ,c1,hn,e1,e2,e3,hk1,hnl]
 ·obtain ⟨n,hn⟩:=Int.eq_ofNat_of_zero_le (show 0≤a - 1 by omega)
  have hnl:n<v.length:=by omega
  have e1:max a (0 - a) - 1=(n:Int):=by omega
  have e2:max a (-a) - 1=(n:Int):=by omega
  have e3:0<a:=by omega
  simp (disch:=omega) [hφ,c1,hn,e1,e2,e3,hk1,hnl]
theorem a_cnf_True_2 (i j:Nat) (v:List Bool) {k:Nat} (hk:Kd 1 k v) (hv:v.length<2^40) (xs:List RowI) (hx:∀ r∈xs,r.l.length<2^40) (hl:∀ r∈xs,∀ a∈r.l,a≠0 ∧ -(v.length:Int)≤a∧a≤v.length) :
  Asks Try.prog Γ (fun h=>h[i]? = some (.cells [.fn (.func n_cnf_True_1) [] [.ptr j 0]])∧h[j]? = some (.cells [.list false k (v.map .bool)])) n_cnf_True_2 [.ptr i 0] eRow (failR v) xs:=by
 refine ⟨by simp,fun x hxm up h hφ => ?_⟩;refine .enterB 60 c_cnf_True_2 ?_;simp [hφ.1];refine .rcall 60 (p_ContainsFunc_clit (a_cnf_True_1 j v hk hv x.l (hl x hxm)) x.hk (by have:=hx x hxm; omega) hφ.2) ?_;simp [failR]
theorem p_cnf_True (xs:List RowI) (hf:FewR xs) (v:List Bool) {k kv:Nat} (hk:Kd 1 k xs) (hkv:Kd 1 kv v) (hv:v.length<2^40) :
  PureCon Try.prog Γ n_cnf_True [.list false k (xs.map eRow),.list false kv (v.map .bool)] (.tup [.bool (trueC xs v),.int .i64 (checkC xs v.length)]):=by
 refine .run 60 c_cnf_True (by simp) ?_;have hc:=p_cnf_Check (Γ:=Γ) xs hf v.length hk;simp;refine .call 60 (by simp) hc ?_;unfold trueC
 by_cases h1:checkC xs v.length=0
 ·obtain ⟨c1,c2,c3⟩:=checkC_ok h1;simp [h1];refine .rcall 60 (p_ContainsFunc_row (a_cnf_True_2 1 0 v hkv hv xs hf.2 c3) hk (by have:=hf.1; omega) (by simp)) ?_;simp;exact .back (by simp)
 ·simp [h1];exact .back (by simp [h1])
def lls (xs:List RowI):List (List Int):=xs.map (·.l)
theorem p_slices_Equal_clit (a b:List Int) {ka kb:Nat} (ha:Kd 1 ka a) (hb:Kd 1 kb b) (hs:a.length<2^60):PureCon Try.prog Γ n_slices_Equal_api_Clause_int [.list false ka (a.map i64),.list false kb (b.map i64)] (.bool (decide (a=b))):=by
 refine .run 60 c_slices_Equal_api_Clause_int (by simp) ?_
 by_cases hl:a.length=b.length
 ·have key:∀ n i:Nat,i+n=a.length→Fins Try.prog Γ (yia (.list false ka (a.map i64)) (.list false kb (b.map i64)) (.int .i64 a.length) (.int .i64 i) []) (.ret (.bool (decide (a.drop i=b.drop i)))):=by
   intro n
   induction n with
   | zero =>
    intro i hi;refine .go 60 ?_
    have h1:¬ i<a.length:=by omega
    have h2:a.drop i=b.drop i:=by rw [List.drop_eq_nil_of_le (by omega),List.drop_eq_nil_of_le (by omega)]
    simp [h1,h2];exact .back (by simp)
   | succ n ih =>
    intro i hi
    have h1:i<a.length:=by omega
    have h2:i<b.length:=by omega
    obtain rfl:=ha.of h1;obtain rfl:=hb.of h2;have h4:=drop_eq h1 h2;refine .go 60 ?_
    by_cases h3:a[i]=b[i]
    ·simp (disch:=omega) [h1,h2,h3,h4];refine .reLoop ?_;simpa using ih (i+1) (by omega)
    ·simp (disch:=omega) [h1,h2,h3,h4];exact .back (by simp)
  simp [hl];refine .inLoop ?_;simpa [hl] using key a.length 0 (by omega)
 ·have h2:¬ a=b:=fun e=>hl (by rw [e])
  simp [hl,h2];exact .back (by simp)
theorem p_EqualFunc_clauses (a b:List RowI) {ka kb:Nat} (ha:Kd 1 ka a) (hb:Kd 1 kb b) (hs:a.length<2^60) {f:FuncId} (hf:∀ x∈a,∀ y∈b,PureCon Try.prog Γ f [.list false x.k (x.l.map i64),.list false y.k (y.l.map i64)] (.bool (decide (x.l=y.l)))) :
  PureCon Try.prog Γ n_slices_EqualFunc_api_Clause_api_Clause_api_Clause_api_Clause [.list false ka (a.map eRow),.list false kb (b.map eRow),.fn (.func f) [] []] (.bool (decide (lls a=lls b))):=by
 refine .run 60 c_slices_EqualFunc_api_Clause_api_Clause_api_Clause_api_Clause (by simp) ?_
 by_cases hl:a.length=b.length
 ·have key:∀ n i:Nat,i+n=a.length→Fins Try.prog Γ (yit (.list false kb (b.map eRow)) (.fn (.func f) [] []) (.list false ka (a.map eRow)) (.int .i64 a.length) (.int .i64 i) []) (.ret (.bool (decide ((lls a).drop i=(lls b).drop i)))):=by
   intro n
   induction n with
   | zero =>
    intro i hi;refine .go 60 ?_
    have h1:¬ i<a.length:=by omega
    have h2:(lls a).drop i=(lls b).drop i:=by rw [List.drop_eq_nil_of_le (by simp [lls]; omega),List.drop_eq_nil_of_le (by simp [lls]; omega)]
    simp [h1,h2];exact .back (by simp)
   | succ n ih =>
    intro i hi
    have h1:i<a.length:=by omega
    have h2:i<b.length:=by omega
    have q1:=eq_true (ha.of h1);have q2:=eq_true (hb.of h2);have hc:=hf a[i] (List.getElem_mem h1) b[i] (List.getElem_mem h2);have hcb:=hc.1
    have h4:((lls a).drop i=(lls b).drop i)↔(a[i].l=b[i].l∧(lls a).drop (i+1)=(lls b).drop (i+1)):=by
     rw [drop_eq (by simpa [lls] using h1) (by simpa [lls] using h2)]; simp [lls]
    have hh:=ih (i+1) (by omega);refine .go 60 ?_;simp (disch:=omega) [h1,h2,q1,q2,hcb];refine .call 60 (by simp) hc ?_
    by_cases h3:a[i].l=b[i].l
    ·simp (disch:=omega) [h3,h4];refine .reLoop ?_;simp at hh ⊢;exact hh
    ·simp (disch:=omega) [h3,h4];exact .back (by simp)
  simp [hl];refine .inLoop ?_;have hh:=key a.length 0 (by omega);simp [hl] at hh ⊢;exact hh
 ·have h2:¬ lls a=lls b:=fun e=>hl (by have:=congrArg List.length e; simpa [lls] using this)
  simp [hl,h2];exact .back (by simp)
theorem p_EqualFunc_rows (a b:List RowI) {ka kb:Nat} (ha:Kd 1 ka a) (hb:Kd 1 kb b) (hs:a.length<2^60) {f:FuncId} (hf:∀ x∈a,∀ y∈b,PureCon Try.prog Γ f [.list false x.k (x.l.map i64),.list false y.k (y.l.map i64)] (.bool (decide (x.l=y.l)))) :
  PureCon Try.prog Γ n_slices_EqualFunc_int_int_int_int [.list false ka (a.map eRow),.list false kb (b.map eRow),.fn (.func f) [] []] (.bool (decide (lls a=lls b))):=by
 refine .run 60 c_slices_EqualFunc_int_int_int_int (by simp) ?_
 by_cases hl:a.length=b.length
 ·have key:∀ n i:Nat,i+n=a.length→Fins Try.prog Γ (yiM (.list false kb (b.map eRow)) (.fn (.func f) [] []) (.list false ka (a.map eRow)) (.int .i64 a.length) (.int .i64 i) []) (.ret (.bool (decide ((lls a).drop i=(lls b).drop i)))):=by
   intro n
   induction n with
   | zero =>
    intro i hi;refine .go 60 ?_
    have h1:¬ i<a.length:=by omega
    have h2:(lls a).drop i=(lls b).drop i:=by rw [List.drop_eq_nil_of_le (by simp [lls]; omega),List.drop_eq_nil_of_le (by simp [lls]; omega)]
    simp [h1,h2];exact .back (by simp)
   | succ n ih =>
    intro i hi
    have h1:i<a.length:=by omega
    have h2:i<b.length:=by omega
    have q1:=eq_true (ha.of h1);have q2:=eq_true (hb.of h2);have hc:=hf a[i] (List.getElem_mem h1) b[i] (List.getElem_mem h2);have hcb:=hc.1
    have h4:((lls a).drop i=(lls b).drop i)↔(a[i].l=b[i].l∧(lls a).drop (i+1)=(lls b).drop (i+1)):=by
     rw [drop_eq (by simpa [lls] using h1) (by simpa [lls] using h2)]; simp [lls]
    have hh:=ih (i+1) (by omega);refine .go 60 ?_;simp (disch:=omega) [h1,h2,q1,q2,hcb];refine .call 60 (by simp) hc ?_
    by_cases h3:a[i].l=b[i].l
    ·simp (disch:=omega) [h3,h4];refine .reLoop ?_;simp at hh ⊢;exact hh
    ·simp (disch:=omega) [h3,h4];exact .back (by simp)
  simp [hl];refine .inLoop ?_;have hh:=key a.length 0 (by omega);simp [hl] at hh ⊢;exact hh
 ·have h2:¬ lls a=lls b:=fun e=>hl (by have:=congrArg List.length e; simpa [lls] using this)
  simp [hl,h2];exact .back (by simp)
theorem p_cnf_Same_1 (x y:RowI) (hx:x.l.length<2^40):PureCon Try.prog Γ n_cnf_Same_1 [.list false x.k (x.l.map i64),.list false y.k (y.l.map i64)] (.bool (decide (x.l=y.l))):=by
 refine .run 60 c_cnf_Same_1 (by simp) ?_;simp;refine .call 60 (by simp) (p_slices_Equal_clit x.l y.l x.hk y.hk (by omega)) ?_;simp;exact .back (by simp)
theorem p_r19_Clauses (a b:List RowI) {ka kb:Nat} (ha:Kd 1 ka a) (hb:Kd 1 kb b) (hs:FewR a) :
  PureCon Try.prog Γ n_r19_Clauses [.list false ka (a.map eRow),.list false kb (b.map eRow)] (.bool (decide (lls a=lls b))):=by
 have hs1:=hs.1;refine .run 60 c_r19_Clauses (by simp) ?_
 by_cases hl:a.length=b.length
 ·have key:∀ n i:Nat,i+n=a.length→Fins Try.prog Γ (yhk (.list false ka (a.map eRow)) (.list false kb (b.map eRow)) (.int .i64 i) []) (.ret (.bool (decide ((lls a).drop i=(lls b).drop i)))):=by
   intro n
   induction n with
   | zero =>
    intro i hi;refine .go 60 ?_
    have h1:¬ i<a.length:=by omega
    have h2:(lls a).drop i=(lls b).drop i:=by rw [List.drop_eq_nil_of_le (by simp [lls]; omega),List.drop_eq_nil_of_le (by simp [lls]; omega)]
    simp [h1,h2];exact .back (by simp)
   | succ n ih =>
    intro i hi
    have h1:i<a.length:=by omega
    have h2:i<b.length:=by omega
    have q1:=eq_true (ha.of h1);have q2:=eq_true (hb.of h2);have hc:=p_r01_Ints (Γ:=Γ) a[i].l b[i].l a[i].hk b[i].hk (by have:=hs.2 a[i] (List.getElem_mem h1); omega)
    have h4:((lls a).drop i=(lls b).drop i)↔(a[i].l=b[i].l∧(lls a).drop (i+1)=(lls b).drop (i+1)):=by
     rw [drop_eq (by simpa [lls] using h1) (by simpa [lls] using h2)]; simp [lls]
    have hh:=ih (i+1) (by omega);refine .go 60 ?_;simp (disch:=omega) [h1,h2,q1,q2]
    first
     | refine .call 60 (by simp) hc ?_
     | (refine .dr 60 ?_; simp (disch:=omega) [h1,h2,q1,q2]; refine .call (by simp) hc ?_)
    by_cases h3:a[i].l=b[i].l
    ·simp (disch:=omega) [h3,h4];refine .reLoop ?_;simp at hh ⊢;exact hh
    ·simp (disch:=omega) [h3,h4];exact .back (by simp)
  simp [hl];refine .inLoop ?_;have hh:=key a.length 0 (by omega);simp [hl] at hh ⊢;exact hh
 ·have h2:¬ lls a=lls b:=fun e=>hl (by have:=congrArg List.length e; simpa [lls] using this)
  simp [hl,h2];exact .back (by simp)
structure Cn where
 vars:Int
 cls:List RowI
 lits:List RowI
 kc:Nat
 kl:Nat
 hc:Kd 1 kc cls
 hl:Kd 1 kl lits
abbrev eCn (u:Cn):AV:=.agg [.int .i64 u.vars,.list false u.kc (u.cls.map eRow),.list false u.kl (u.lits.map eRow)]
def sameC (a b:Cn):Bool:=decide (a.vars=b.vars)&&decide (lls a.cls=lls b.cls)&&decide (lls a.lits=lls b.lits)
def Cn.few (u:Cn):Prop:=FewR u.cls∧FewR u.lits
theorem p_cnf_Same (a b:Cn) (ha:a.few):PureCon Try.prog Γ n_cnf_Same [eCn a,eCn b] (.bool (sameC a b)):=by
 refine .run 60 c_cnf_Same (by simp) ?_;have hc:=p_EqualFunc_clauses (Γ:=Γ) a.cls b.cls a.hc b.hc (by have:=ha.1.1; omega) (f:=n_cnf_Same_1) (fun x hx y _=>p_cnf_Same_1 x y (ha.1.2 x hx));have hl:=p_EqualFunc_rows (Γ:=Γ) a.lits b.lits a.hl b.hl (by have:=ha.2.1; omega) (f:=n_slices_Equal_int_int) (fun x hx y _=>p_slices_Equal_int_int x.l y.l x.hk y.hk (by have:=ha.2.2 x hx; omega));unfold sameC
 by_cases h1:a.vars=b.vars
 ·simp [h1];refine .call 60 (by simp) hc ?_
  by_cases h2:lls a.cls=lls b.cls
  ·simp [h2];refine .call 60 (by simp) hl ?_;simp;exact .back (by simp)
  ·simp [h2];exact .back (by simp)
 ·simp [h1];exact .back (by simp)
set_option maxRecDepth 4000 in
theorem p_r19_Same (a b:Cn) (ha:a.few):PureCon Try.prog Γ n_r19_Same [eCn a,eCn b] (.bool (sameC a b)):=by
 refine .run 60 c_r19_Same (by simp) ?_;have hc:=p_r19_Clauses (Γ:=Γ) a.cls b.cls a.hc b.hc ha.1;have hs:=ha.2.1;unfold sameC
 by_cases h1:a.vars=b.vars
 ·simp [h1];refine .call 60 (by simp) hc ?_
  by_cases h2:lls a.cls=lls b.cls
  ·simp [h2]
   by_cases hll:a.lits.length=b.lits.length
   ·have key:∀ n i:Nat,i+n=a.lits.length→Fins Try.prog Γ (ybV (.ptr 0 0) (.ptr 1 0) (.int .i64 i)
      [.cells [.int .i64 b.vars,.list false a.kc (a.cls.map eRow),.list false a.kl (a.lits.map eRow)],.cells [.int .i64 b.vars,.list false b.kc (b.cls.map eRow),.list false b.kl (b.lits.map eRow)]]) (.ret (.bool (decide ((lls a.lits).drop i=(lls b.lits).drop i)))):=by
     intro n
     induction n with
     | zero =>
      intro i hi;refine .go 60 ?_
      have q1:¬ i<a.lits.length:=by omega
      have q1':¬ i<b.lits.length:=by omega
      have q2:(lls a.lits).drop i=(lls b.lits).drop i:=by rw [List.drop_eq_nil_of_le (by simp [lls]; omega),List.drop_eq_nil_of_le (by simp [lls]; omega)]
      simp [q1,q1',q2];exact .back (by simp)
     | succ n ih =>
      intro i hi
      have q1:i<a.lits.length:=by omega
      have q1':i<b.lits.length:=by omega
      have q2:=eq_true (a.hl.of q1);have q2':=eq_true (b.hl.of q1');have hc:=p_r01_Ints (Γ:=Γ) a.lits[i].l b.lits[i].l a.lits[i].hk b.lits[i].hk (by have:=ha.2.2 a.lits[i] (List.getElem_mem q1); omega)
      have h4:((lls a.lits).drop i=(lls b.lits).drop i)↔(a.lits[i].l=b.lits[i].l∧(lls a.lits).drop (i+1)=(lls b.lits).drop (i+1)):=by
       rw [drop_eq (by simpa [lls] using q1) (by simpa [lls] using q1')]; simp [lls]
      have hh:=ih (i+1) (by omega);refine .go 60 ?_;simp (disch:=omega) [q1,q1',q2,q2']
      first
       | refine .call 60 (by simp) hc ?_
       | (refine .dr 60 ?_; simp (disch:=omega) [q1,q1',q2,q2']; refine .call (by simp) hc ?_)
      by_cases h3:a.lits[i].l=b.lits[i].l
      ·simp (disch:=omega) [h3,h4];refine .reLoop ?_;simp at hh ⊢;exact hh
      ·simp (disch:=omega) [h3,h4];exact .back (by simp)
    simp [hll];refine .inLoop ?_;have hh:=key a.lits.length 0 (by omega);simp at hh ⊢;exact hh
   ·have h3:¬ lls a.lits=lls b.lits:=fun e=>hll (by have:=congrArg List.length e; simpa [lls] using this)
    simp [hll,h3];exact .back (by simp)
  ·simp [h2];exact .back (by simp)
 ·simp [h1];exact .back (by simp)
theorem p_IndexFunc_int {φ : List Ob→Prop} {f:FuncId} {caps:List AV} {p:Int→Bool} {l:List Int} {k:Nat} {fl:Bool} (ha:Asks Try.prog Γ φ f caps i64 p l) (hk:Kd 1 k l) (hs:l.length<2^60) {h:List Ob} (hφ : φ h) :
  ∀ up,AM.Reach Try.prog Γ (.cl n_slices_IndexFunc_int_int [.list fl k (l.map i64),.fn (.func f) [] caps] up h) (.back up (.int .i64 (idxF p l 0)) h):=by
 intro up
 have key:∀ n i:Nat,i+n=l.length→AM.Reach Try.prog Γ (yqS (.list fl k (l.map i64)) (.fn (.func f) [] caps) (.int .i64 l.length) (.int .i64 i) h ⟨[],.norm,h.length,up⟩) (.back up (.int .i64 (idxF p (l.drop i) i)) h):=by
  intro n
  induction n with
  | zero =>
   intro i hi
   have h1:¬ i<l.length:=by omega
   refine .goB 60 ?_;rw [List.drop_eq_nil_of_le (by omega)];simp [h1,idxF]
  | succ n ih =>
   intro i hi
   have h1:i<l.length:=by omega
   obtain rfl:=hk.of h1;have h2:=ha.2 l[i] (List.getElem_mem h1);rw [List.drop_eq_getElem_cons h1,idxF];have hh:=ih (i+1) (by omega);refine .goB 60 ?_;simp [h1,ha.1];refine .rcall 60 (fun up=>h2 up h hφ) ?_
   cases hp:p l[i] with
   | true=>simp (disch:=omega) [hp]
   | false =>
    simp (disch:=omega) [hp];refine .reLoop ?_;simp at hh ⊢;exact hh
 refine .enterB 60 c_slices_IndexFunc_int_int ?_;simp;refine .inLoop ?_;have hh:=key l.length 0 (by omega);simp at hh ⊢;exact hh
theorem p_ContainsFunc_int {φ : List Ob→Prop} {f:FuncId} {caps:List AV} {p:Int→Bool} {l:List Int} {k:Nat} {fl:Bool} (ha:Asks Try.prog Γ φ f caps i64 p l) (hk:Kd 1 k l) (hs:l.length<2^60) {h:List Ob} (hφ : φ h) :
  ∀ up,AM.Reach Try.prog Γ (.cl n_slices_ContainsFunc_int_int [.list fl k (l.map i64),.fn (.func f) [] caps] up h) (.back up (.bool (anyB p l)) h):=by
 intro up;refine .enterB 60 c_slices_ContainsFunc_int_int ?_;simp;refine .rcall 60 (p_IndexFunc_int ha hk hs hφ) ?_;have h1:=idxF_ge p l 0
 cases hp:anyB p l with
 | true=>rw [hp] at h1; simp at h1; simp [h1]
 | false =>
  rw [hp] at h1
  have h2:¬ 0≤idxF p l 0:=by rw [h1]; simp
  simp [h2]
structure Gr where
 ins:Int
 next:List Int
 init:List Int
 ands:List (Int×Int)
 outs:List Int
 kn:Nat
 ki:Nat
 ka:Nat
 ko:Nat
 hn:Kd 1 kn next
 hi:Kd 1 ki init
 ha:Kd 2 ka ands
 ho:Kd 1 ko outs
abbrev ePr (p:Int×Int):AV:=.agg [.int .i64 p.1,.int .i64 p.2]
abbrev eGr (g:Gr):AV:=.agg [.int .i64 g.ins,.list false g.kn (g.next.map i64),.list false g.ki (g.init.map i64),.list false g.ka (g.ands.map ePr),.list false g.ko (g.outs.map i64)]
def Gr.few (g:Gr):Prop:=g.next.length<2^40∧g.init.length<2^40∧g.ands.length<2^40∧g.outs.length<2^40
def litB (n:Int) (a:Int):Bool:=decide (a<0)||decide (n≤a)
def iniB (a:Int):Bool:=decide (a<0)||decide (2<a)
def andsB:List (Int×Int)→Nat→Bool
 | [],_=>false
 | p::ps,n=>litB (2*n) p.1||litB (2*n) p.2||andsB ps (n+1)
def Gr.first (g:Gr):Nat:=1+g.ins.toNat+g.next.length
def Gr.all (g:Gr):Nat:=g.first+g.ands.length
def Gr.lits (g:Gr):Nat:=2*g.all
def Gr.lim (g:Gr):Bool:=decide (g.ins<0)||decide (4000<g.ins)||decide (4000<g.ins+g.next.length+g.ands.length)||decide (4000<g.outs.length)
def Gr.check (g:Gr):Int :=
 if g.lim=true then 8 else if (!decide (g.init.length=g.next.length)||anyB iniB g.init||anyB (litB g.lits) g.next||anyB (litB g.lits) g.outs||andsB g.ands g.first)=true then 1 else 0
theorem lim_no {g:Gr} (h:g.lim=false):0≤g.ins∧g.ins≤4000∧g.ins+g.next.length+g.ands.length≤4000∧g.outs.length≤4000:=by
 simp only [Gr.lim,Bool.or_eq_false_iff,decide_eq_false_iff_not] at h;omega
theorem p_aig_first (g:Gr) (h0:0≤g.ins) (h1:g.ins≤4000) (h2:g.next.length≤4000):PureCon Try.prog Γ n_aig_first [eGr g] (.int .i64 g.first):=by
 refine .run 60 c_aig_first (by simp) ?_
 have e1:1+g.ins+(g.next.length:Int)=(g.first:Int):=by unfold Gr.first; omega
 simp (disch:=omega) [e1];exact .back (by simp)
theorem p_r09_First (g:Gr) (h0:0≤g.ins) (h1:g.ins≤4000) (h2:g.next.length≤4000):PureCon Try.prog Γ n_r09_First [eGr g] (.int .i64 g.first):=by
 refine .run 60 c_r09_First (by simp) ?_
 have e1:1+g.ins+(g.next.length:Int)=(g.first:Int):=by unfold Gr.first; omega
 simp (disch:=omega) [e1];exact .back (by simp)
theorem p_r09_literal (a:Int) (n:Nat) (hn:n≤2^40):PureCon Try.prog Γ n_r09_literal [.int .i64 a,.int .i64 n] (.bool (!litB (2*n) a)):=by
 refine .run 60 c_r09_literal (by simp) ?_;unfold litB
 by_cases h1:0≤a
 ·have h2:¬ a<0:=by omega
  by_cases h3:a<2*n
  ·have h4:¬ 2*(n:Int)≤a:=by omega
   simp (disch:=omega) [h1,h2,h3,h4];exact .back (by simp)
  ·have h4:2*(n:Int)≤a:=by omega
   simp (disch:=omega) [h1,h2,h3,h4];exact .back (by simp)
 ·have h2:a<0:=by omega
  simp (disch:=omega) [h1,h2];exact .back (by simp)
theorem a_odd (i:Nat) (all:Nat) (l:List Int):Asks Try.prog Γ (fun h=>h[i]? = some (.cells [.int .i64 all])) n_aig_Check_1 [.ptr i 0] i64 (litB all) l:=by
 refine ⟨by simp,fun x _ up h hφ => ?_⟩;refine .enterB 60 c_aig_Check_1 ?_;unfold litB
 by_cases h1:x<0
 ·simp [hφ,h1]
 ·simp [hφ,h1]
theorem a_init (l:List Int):Asks Try.prog Γ (fun _=>True) n_aig_Check_2 [] i64 iniB l:=by
 refine ⟨by simp,fun x _ up h hφ => ?_⟩;refine .enterB 60 c_aig_Check_2 ?_;unfold iniB
 by_cases h1:x<0
 ·simp [h1]
 ·simp [h1]
theorem andsB_drop {l:List (Int×Int)} {i:Nat} (h:i<l.length) (n:Nat):andsB (l.drop i) n=(litB (2*n) l[i].1||litB (2*n) l[i].2||andsB (l.drop (i+1)) (n+1)):=by
 rw [List.drop_eq_getElem_cons h,andsB]
set_option maxRecDepth 8000 in
theorem p_aig_Check (g:Gr) (hf:g.few):PureCon Try.prog Γ n_aig_Check [eGr g] (.int .i64 g.check):=by
 obtain ⟨f1,f2,f3,f4⟩:=hf;refine .run 60 c_aig_Check (by simp) ?_;unfold Gr.check
 cases hl:g.lim with
 | true =>
  simp only [if_true];unfold Gr.lim at hl
  by_cases c1:g.ins<0
  ·simp [c1]; exact .back (by simp)
  by_cases c2:4000<g.ins
  ·simp [c1,c2]; exact .back (by simp)
  by_cases c3:4000<g.ins+g.next.length+g.ands.length
  ·simp (disch:=omega) [c1,c2,c3]; exact .back (by simp)
  have c4:(4000:Int)<g.outs.length:=by
   simp only [c1,c2,c3,decide_false,Bool.false_or,decide_eq_true_eq] at hl;omega
  simp (disch:=omega) [c1,c2,c3,c4]; exact .back (by simp)
 | false =>
  obtain ⟨l1,l2,l3,l4⟩:=lim_no hl
  have c1:¬ g.ins<0:=by omega
  have c2:¬ 4000<g.ins:=by omega
  have c3:¬ 4000<g.ins+g.next.length+g.ands.length:=by omega
  have c4:¬ (4000:Int)<g.outs.length:=by omega
  have hpf:=p_aig_first (Γ:=Γ) g l1 l2 (by omega)
  have e1:(g.first:Int)+g.ands.length=g.all:=by unfold Gr.all; omega
  have e2:2*(g.all:Int)=g.lits:=by unfold Gr.lits; omega
  have hfl:g.first≤8001:=by unfold Gr.first; omega
  have hal:g.all≤12001:=by unfold Gr.all; omega
  simp (disch:=omega) [c1,c2,c3,c4];refine .dr 60 ?_;simp;refine .quiet hpf (fun _=>rfl) (by simp) ?_;simp (disch:=omega) [e1,e2]
  by_cases d1:g.init.length=g.next.length
  ·simp [d1];refine .rcall 60 (p_ContainsFunc_int (a_init g.init) g.hi (by omega) (by trivial)) ?_
   cases d2:anyB iniB g.init with
   | true=>simp; exact .back (by simp)
   | false =>
    simp;refine .rcall 60 (p_ContainsFunc_int (a_odd 1 g.lits g.next) g.hn (by omega) (by simp)) ?_
    cases d3:anyB (litB g.lits) g.next with
    | true=>simp; exact .back (by simp)
    | false =>
     simp;refine .rcall 60 (p_ContainsFunc_int (a_odd 1 g.lits g.outs) g.ho (by omega) (by simp)) ?_
     cases d4:anyB (litB g.lits) g.outs with
     | true=>simp; exact .back (by simp)
     | false =>
      simp;refine .inLoop ?_;simp
      have key:∀ n i:Nat,i+n=g.ands.length→Fins Try.prog Γ (ynW (.ptr 0 0) (.list false g.ka (g.ands.map ePr)) (.int .i64 g.ands.length) (.int .i64 i)
        [.cells [.int .i64 g.ins,.list false g.kn (g.next.map i64),.list false g.ki (g.init.map i64),.list false g.ka (g.ands.map ePr),.list false g.ko (g.outs.map i64)],.cells [.int .i64 g.lits]]) (.ret (.int .i64 (if andsB (g.ands.drop i) (g.first+i)=true then 1 else 0))):=by
       intro n
       induction n with
       | zero =>
        intro i hi
        have q1:¬ i<g.ands.length:=by omega
        refine .go 60 ?_;rw [List.drop_eq_nil_of_le (by omega)];simp [q1,andsB];exact .back (by simp)
       | succ n ih =>
        intro i hi
        have q1:i<g.ands.length:=by omega
        have q2:=eq_true (g.ha.of q1);have hh:=ih (i+1) (by omega)
        have q3:2*((g.first:Int)+i)=((2*(g.first+i):Nat):Int):=by omega
        rw [andsB_drop q1];unfold litB;refine .go 60 ?_;simp (disch:=omega) [q1,q2];refine .call 60 (by simp) hpf ?_
        by_cases r1:g.ands[i].1<0
        ·simp (disch:=omega) [r1];exact .back (by simp)
        by_cases r2:g.ands[i].2<0
        ·simp (disch:=omega) [r1,r2];exact .back (by simp)
        by_cases r3:2*((g.first:Int)+i)≤g.ands[i].1
        ·simp (disch:=omega) [r1,r2,r3];exact .back (by simp)
        by_cases r4:2*((g.first:Int)+i)≤g.ands[i].2
        ·simp (disch:=omega) [r1,r2,r3,r4];exact .back (by simp)
        simp (disch:=omega) [r1,r2,r3,r4];refine .reLoop ?_;simp;refine .drop 2 rfl (by simp) (by simp) (by simp) ?_;simp at hh ⊢;rw [show g.first+(i+1)=g.first+i+1 by omega] at hh;exact hh
      have hh:=key g.ands.length 0 (by omega);simp at hh ⊢;exact hh
  ·simp [d1];exact .back (by simp)
set_option maxRecDepth 8000 in
theorem p_r09_Check (g:Gr) (hf:g.few):PureCon Try.prog Γ n_r09_Check [eGr g] (.int .i64 g.check):=by
 obtain ⟨f1,f2,f3,f4⟩:=hf;refine .run 60 c_r09_Check (by simp) ?_;unfold Gr.check
 cases hl:g.lim with
 | true =>
  simp only [if_true];unfold Gr.lim at hl
  by_cases c1:g.ins<0
  ·simp [c1]; exact .back (by simp)
  by_cases c2:4000<g.ins
  ·simp [c1,c2]; exact .back (by simp)
  by_cases c3:4000<g.ins+g.next.length+g.ands.length
  ·simp (disch:=omega) [c1,c2,c3]; exact .back (by simp)
  have c4:(4000:Int)<g.outs.length:=by
   simp only [c1,c2,c3,decide_false,Bool.false_or,decide_eq_true_eq] at hl;omega
  simp (disch:=omega) [c1,c2,c3,c4]; exact .back (by simp)
 | false =>
  obtain ⟨l1,l2,l3,l4⟩:=lim_no hl
  have c1:¬ g.ins<0:=by omega
  have c2:¬ 4000<g.ins:=by omega
  have c3:¬ 4000<g.ins+g.next.length+g.ands.length:=by omega
  have c4:¬ (4000:Int)<g.outs.length:=by omega
  have hpf:=p_r09_First (Γ:=Γ) g l1 l2 (by omega)
  have e1:(g.first:Int)+g.ands.length=g.all:=by unfold Gr.all; omega
  have e2:2*(g.all:Int)=g.lits:=by unfold Gr.lits; omega
  have hfl:g.first≤8001:=by unfold Gr.first; omega
  have hal:g.all≤12001:=by unfold Gr.all; omega
  simp (disch:=omega) [c1,c2,c3,c4]
  by_cases d1:g.init.length=g.next.length
  ·have keyO:∀ n i:Nat,i+n=g.outs.length→Fins Try.prog Γ (ypK (.ptr 0 0) (.int .i64 g.all) (.int .i64 i)
     [.cells [.int .i64 g.ins,.list false g.kn (g.next.map i64),.list false g.ki (g.init.map i64),.list false g.ka (g.ands.map ePr),.list false g.ko (g.outs.map i64)]]) (.ret (.int .i64 (if anyB (litB g.lits) (g.outs.drop i)=true then 1 else 0))):=by
    intro n
    induction n with
    | zero =>
     intro i hi
     have q1:¬ i<g.outs.length:=by omega
     refine .go 60 ?_;rw [anyB_end (by omega)];simp [q1];exact .back (by simp)
    | succ n ih =>
     intro i hi
     have q1:i<g.outs.length:=by omega
     have q2:=eq_true (g.ho.of q1);have hh:=ih (i+1) (by omega);have hc:=p_r09_literal (Γ:=Γ) g.outs[i] g.all (by omega);rw [e2] at hc;rw [anyB_drop q1];refine .go 60 ?_;simp (disch:=omega) [q1,q2];refine .call 60 (by simp) hc ?_
     cases hb:litB g.lits g.outs[i] with
     | true=>simp; exact .back (by simp)
     | false =>
      simp (disch:=omega);refine .reLoop ?_;simp at hh ⊢;exact hh
   have keyA:∀ n i:Nat,i+n=g.ands.length→Fins Try.prog Γ (ypM (.ptr 0 0) (.int .i64 g.all) (.int .i64 i)
     [.cells [.int .i64 g.ins,.list false g.kn (g.next.map i64),.list false g.ki (g.init.map i64),.list false g.ka (g.ands.map ePr),.list false g.ko (g.outs.map i64)]]) (.ret (.int .i64 (if (andsB (g.ands.drop i) (g.first+i)||anyB (litB g.lits) g.outs)=true then 1 else 0))):=by
    intro n
    induction n with
    | zero =>
     intro i hi
     have q1:¬ i<g.ands.length:=by omega
     have hh:=keyO g.outs.length 0 (by omega);refine .go 60 ?_;rw [List.drop_eq_nil_of_le (by omega)];simp [q1,andsB];refine .inLoop ?_;simp at hh ⊢;exact hh
    | succ n ih =>
     intro i hi
     have q1:i<g.ands.length:=by omega
     have q2:=eq_true (g.ha.of q1);have hh:=ih (i+1) (by omega);have hc1:=p_r09_literal (Γ:=Γ) g.ands[i].1 (g.first+i) (by omega);have hc2:=p_r09_literal (Γ:=Γ) g.ands[i].2 (g.first+i) (by omega);rw [andsB_drop q1];generalize litB (2*((g.first+i:Nat):Int)) g.ands[i].1=b1 at *;generalize litB (2*((g.first+i:Nat):Int)) g.ands[i].2=b2 at *;refine .go 60 ?_;simp (disch:=omega) [q1,q2];refine .call 60 (by simp) hpf ?_;simp (disch:=omega) [q1,q2];refine .call 60 (by simp) hc1 ?_
     cases b1 with
     | true=>simp; exact .back (by simp)
     | false =>
      simp (disch:=omega) [q1,q2];refine .call 60 (by simp) hc2 ?_
      cases b2 with
      | true=>simp; exact .back (by simp)
      | false =>
       simp (disch:=omega);refine .reLoop ?_;simp at hh ⊢;rw [show g.first+(i+1)=g.first+i+1 by omega] at hh;exact hh
   have keyN:∀ n i:Nat,i+n=g.next.length→Fins Try.prog Γ (ypO (.ptr 0 0) (.int .i64 g.all) (.int .i64 i)
     [.cells [.int .i64 g.ins,.list false g.kn (g.next.map i64),.list false g.ki (g.init.map i64),.list false g.ka (g.ands.map ePr),.list false g.ko (g.outs.map i64)]])
      (.ret (.int .i64 (if (anyB iniB (g.init.drop i)||anyB (litB g.lits) (g.next.drop i)||(andsB g.ands g.first||anyB (litB g.lits) g.outs))=true then 1 else 0))):=by
    intro n
    induction n with
    | zero =>
     intro i hi
     have q1:¬ i<g.next.length:=by omega
     have hh:=keyA g.ands.length 0 (by omega);refine .go 60 ?_;rw [anyB_end (by omega),anyB_end (by omega)];simp [q1];refine .inLoop ?_;simp at hh ⊢;exact hh
    | succ n ih =>
     intro i hi
     have q1:i<g.next.length:=by omega
     have q1':i<g.init.length:=by omega
     have q2:=eq_true (g.hn.of q1);have q2':=eq_true (g.hi.of q1');have hh:=ih (i+1) (by omega);have hc:=p_r09_literal (Γ:=Γ) g.next[i] g.all (by omega);rw [e2] at hc;rw [anyB_drop q1,anyB_drop q1'];refine .go 60 ?_
     by_cases r1:g.init[i]<0
     ·simp (disch:=omega) [q1,q1',q2,q2',r1,iniB]; exact .back (by simp)
     by_cases r2:2<g.init[i]
     ·simp (disch:=omega) [q1,q1',q2,q2',r1,r2,iniB]; exact .back (by simp)
     have r3:iniB g.init[i]=false:=by simp [iniB,r1,r2]
     simp (disch:=omega) [q1,q1',q2,q2',r1,r2,r3];refine .call 60 (by simp) hc ?_
     cases hb:litB g.lits g.next[i] with
     | true=>simp; exact .back (by simp)
     | false =>
      simp (disch:=omega);refine .reLoop ?_;simp at hh ⊢;exact hh
   simp [d1];refine .dr 60 ?_;simp;refine .call (by simp) hpf ?_;simp (disch:=omega) [e1];refine .inLoop ?_;simp;have hh:=keyN g.next.length 0 (by omega)
   have hb:(anyB iniB g.init||anyB (litB g.lits) g.next||(andsB g.ands g.first||anyB (litB g.lits) g.outs))=(anyB iniB g.init||anyB (litB g.lits) g.next||anyB (litB g.lits) g.outs||andsB g.ands g.first):=by
    cases andsB g.ands g.first <;> simp
   simp only [List.drop_zero,hb] at hh;simp at hh ⊢;exact hh
  ·simp [d1];exact .back (by simp)
def litV (v:List Bool) (a:Nat):Bool:=v.getD (a / 2) false != decide (a % 2=1)
theorem litV_eq {v:List Bool} {a:Nat} (h:a / 2<v.length):litV v a = !decide (v[a / 2]=decide (a % 2=1)):=by
 unfold litV;rw [List.getD_eq_getElem?_getD,List.getElem?_eq_getElem h]
 cases v[a / 2] <;> by_cases h1:a % 2=1 <;> simp [h1]
theorem p_aig_value (v:List Bool) (a:Nat) (h:a / 2<v.length) (ha:a<2^40):PureCon Try.prog Γ n_aig_value [.list false 1 (v.map .bool),.int .i64 a] (.bool (litV v a)):=by
 refine .run 60 c_aig_value (by simp) ?_;rw [litV_eq h]
 have h2:((a % 2:Nat):Int)=1↔a % 2=1:=by omega
 have h3:((a / 2:Nat):Int)<v.length:=by omega
 simp (disch:=omega) [-Int.natCast_ediv,-Int.natCast_emod,h,h2,h3];exact .back (by simp)
theorem p_r09_Lit (v:List Bool) (a:Nat) (h:a / 2<v.length) (ha:a<2^40):PureCon Try.prog Γ n_r09_Lit [.list false 1 (v.map .bool),.int .i64 a] (.bool (litV v a)):=by
 refine .run 60 c_r09_Lit (by simp) ?_;rw [litV_eq h]
 have h2:((a % 2:Nat):Int)=1↔a % 2=1:=by omega
 have h3:((a / 2:Nat):Int)<v.length:=by omega
 simp (disch:=omega) [-Int.natCast_ediv,-Int.natCast_emod,h,h2,h3];exact .back (by simp)
abbrev eCatB (x:Nat×List Bool):AV:=.list false x.1 (x.2.map AV.bool)
def catB:List (Nat×List Bool)→List Bool
 | []=>[]
 | x::xs=>x.2++catB xs
theorem catB_append (a b:List (Nat×List Bool)):catB (a++b)=catB a++catB b:=by
 induction a with
 | nil=>rfl
 | cons x a ih=>simp [catB,ih]
theorem catB_take (xs:List (Nat×List Bool)) (i:Nat) (h:i<xs.length):catB (xs.take (i+1))=catB (xs.take i)++xs[i].2:=by
 rw [List.take_succ_eq_append_getElem h,catB_append]; simp [catB]
theorem catB_le (xs:List (Nat×List Bool)) (i:Nat):(catB (xs.take i)).length≤(catB xs).length:=by
 conv=>rhs; rw [← List.take_append_drop i xs,catB_append]
 simp
set_option maxRecDepth 8000 in
theorem p_slices_Concat_bool_bool (xs:List (Nat×List Bool)) (hk:∀ x∈xs,Kd 1 x.1 x.2) (hn:xs.length<2^40) (hs:(catB xs).length<2^40) (hp:0<(catB xs).length) :
  PureCon Try.prog Γ n_slices_Concat_bool_bool [.list false 1 (xs.map eCatB)] (.own 1 t_bool ((catB xs).map AV.bool)):=by
 refine .run 60 c_slices_Concat_bool_bool (by simp) ?_
 have key2:∀ n i:Nat,i+n=xs.length→∀ m:Nat,(catB (xs.take i)).length+m=(catB xs).length →
   Fins Try.prog Γ (ymY (.sl 2 0 (catB (xs.take i)).length) (.list false 1 (xs.map eCatB)) (.int .i64 xs.length) (.int .i64 i) [.row 1 t_bool [] none true false,.row 1 t_bool [] none true false,.row 1 t_bool ((catB (xs.take i)).map AV.bool++List.replicate m (AV.bool false)) none true false])
    (.ret (.own 1 t_bool ((catB xs).map AV.bool))):=by
  intro n
  induction n with
  | zero =>
   intro i hi m hm
   have q1:¬ i<xs.length:=by omega
   have q2:xs.take i=xs:=List.take_of_length_le (by omega);rw [q2] at hm ⊢
   have hm0:m=0:=by omega
   subst hm0;refine .go 60 ?_;simp [q1];exact .back (by simp)
  | succ n ih =>
   intro i hi m hm
   have q1:i<xs.length:=by omega
   have q2:=catB_take xs i q1;have q3:=catB_le xs (i+1);rw [q2,List.length_append] at q3;have q4:=hk xs[i] (List.getElem_mem q1);have q5:xs[i].1=1∨xs[i].2=[]:=q4;have hh:=ih (i+1) (by omega) (m - xs[i].2.length) (by rw [q2,List.length_append]; omega);rw [q2] at hh
   have hd:(List.replicate m (AV.bool false)).drop xs[i].2.length=List.replicate (m - xs[i].2.length) (AV.bool false):=by simp
   refine .go 60 ?_
   by_cases q6:(catB (xs.take i)).length=(catB xs).length
   ·have q7:xs[i].2=[]:=List.length_eq_zero_iff.1 (by omega)
    have hm0:m=0:=by omega
    subst hm0;simp [q7] at hh;simp (disch:=(first | omega | (simp; omega))) [q1,q5,q7];refine .reLoop ?_;simp;exact hh
   ·simp (disch:=(first | omega | (simp; omega))) [q1,q5]
    by_cases q7:m=0
    ·omega
    ·have c1:¬ (catB (List.take i xs)).length=(catB (List.take i xs)).length+m:=by omega
     have c2:(catB (List.take i xs)).length+xs[i].snd.length≤(catB (List.take i xs)).length+m:=by omega
     simp (disch:=(first | omega | (simp; omega))) [q1,q5,c1,c2,q7];refine .reLoop ?_;have hd0:((catB (xs.take i)).map AV.bool).drop ((catB (xs.take i)).length+xs[i].2.length)=[]:=List.drop_eq_nil_of_le (by simp);simp [List.drop_append,hd,hd0] at hh ⊢;exact hh
 have key1:∀ n i:Nat,i+n=xs.length →
   Fins Try.prog Γ (yna (.list false 1 (xs.map eCatB)) (.int .i64 (catB (xs.take i)).length) (.list false 1 (xs.map eCatB)) (.int .i64 xs.length) (.int .i64 i) [.row 1 t_bool [] none true false])
    (.ret (.own 1 t_bool ((catB xs).map AV.bool))):=by
  intro n
  induction n with
  | zero =>
   intro i hi
   have q1:¬ i<xs.length:=by omega
   have q2:xs.take i=xs:=List.take_of_length_le (by omega);have q3:0<(catB xs).length:=hp;have hh:=key2 xs.length 0 (by omega) (catB xs).length (by simp [catB]);refine .go 60 ?_;rw [q2];simp [q1];refine .enter 60 c_slices_Grow_bool_bool ?_
   have q4:¬ (catB xs).length=0:=by omega
   have q5:catB xs≠[]:=fun e=>by rw [e] at hp; simp at hp
   obtain ⟨m,hm⟩:∃ m,(catB xs).length=m+1:=⟨(catB xs).length - 1,by omega⟩
   have hrep:List.replicate (catB xs).length (AV.bool false)=(AV.bool false)::List.replicate m (AV.bool false):=by rw [hm]; rfl
   simp (disch:=(first | omega | (simp; omega))) [q3,q4,q5,hrep];refine .inLoop ?_;simp [catB,hrep] at hh ⊢;exact hh
  | succ n ih =>
   intro i hi
   have q1:i<xs.length:=by omega
   have q2:=catB_take xs i q1;have q3:=catB_le xs (i+1);rw [q2,List.length_append] at q3;have hh:=ih (i+1) (by omega);rw [q2] at hh;refine .go 60 ?_
   have q4:¬ ((catB (xs.take i)).length:Int)+xs[i].2.length<0:=by omega
   simp (disch:=(first | omega | (simp; omega))) [q1,q4];refine .reLoop ?_;simp at hh ⊢;exact hh
 simp;refine .inLoop ?_;have hh:=key1 xs.length 0 (by omega);simp [catB] at hh ⊢;exact hh
theorem andsB_no {l:List (Int×Int)} {n:Nat} (h:andsB l n=false):∀ i (hi:i<l.length),(0≤l[i].1∧l[i].1<2*(n+i))∧0≤l[i].2∧l[i].2<2*(n+i):=by
 induction l generalizing n with
 | nil=>intro i hi; simp at hi
 | cons p l ih =>
  simp only [andsB,Bool.or_eq_false_iff,litB,decide_eq_false_iff_not] at h;intro i hi
  cases i with
  | zero=>simp; omega
  | succ i =>
   have:=ih h.2 i (by simpa using hi);simp at this ⊢;omega
structure Gr.Ok (g:Gr):Prop where
 ins:0≤g.ins∧g.ins≤4000
 sum:g.ins+g.next.length+g.ands.length≤4000
 outsL:g.outs.length≤4000
 same:g.init.length=g.next.length
 init:∀ a∈g.init,0≤a∧a≤2
 next:∀ a∈g.next,0≤a∧a<g.lits
 outs:∀ a∈g.outs,0≤a∧a<g.lits
 ands:∀ i (hi:i<g.ands.length),(0≤g.ands[i].1∧g.ands[i].1<2*(g.first+i))∧0≤g.ands[i].2∧g.ands[i].2<2*(g.first+i)
theorem Gr.ok_of {g:Gr} (h:g.check=0):g.Ok:=by
 unfold Gr.check at h
 split at h
 ·simp at h
 ·rename_i hl;have hl:=lim_no (by simpa using hl)
  split at h
  ·simp at h
  ·rename_i hb;simp only [Bool.not_eq_true,Bool.or_eq_false_iff,Bool.not_eq_false',decide_eq_true_eq] at hb;obtain ⟨⟨⟨⟨b1,b2⟩,b3⟩,b4⟩,b5⟩:=hb;refine ⟨⟨hl.1,hl.2.1⟩,hl.2.2.1,hl.2.2.2,b1,?_,?_,?_,andsB_no b5⟩
   ·intro a ha;have:=anyB_no.1 b2 a ha;simp [iniB] at this;omega
   ·intro a ha;have:=anyB_no.1 b3 a ha;simp [litB] at this;omega
   ·intro a ha;have:=anyB_no.1 b4 a ha;simp [litB] at this;omega
def valsA:List (Int×Int)→List Bool→List Bool
 | [],v=>v
 | p::ps,v=>valsA ps (v++[litV v p.1.toNat&&litV v p.2.toNat])
theorem valsA_len:∀ (l:List (Int×Int)) (v:List Bool),(valsA l v).length=v.length+l.length
 | [],v=>by simp [valsA]
 | p::ps,v=>by rw [valsA,valsA_len ps]; simp; omega
theorem valsA_append:∀ (a b:List (Int×Int)) (v:List Bool),valsA (a++b) v=valsA b (valsA a v)
 | [],b,v=>rfl
 | p::ps,b,v=>by rw [List.cons_append,valsA,valsA,valsA_append ps]
def Gr.vals (g:Gr) (state ins:List Bool):List Bool:=valsA g.ands (false::(ins++state))
def Gr.fits (g:Gr) (state ins:List Bool):Bool:=decide (state.length=g.next.length)&&decide ((ins.length:Int)=g.ins)
def Gr.valuesE (g:Gr) (state ins:List Bool):Int:=if g.check≠0 then g.check else if g.fits state ins=true then 0 else 11
def Gr.values (g:Gr) (state ins:List Bool):List Bool:=if g.valuesE state ins=0 then g.vals state ins else []
theorem valsA_take {g:Gr} {i:Nat} (h:i<g.ands.length) (v:List Bool):valsA (g.ands.take (i+1)) v=valsA (g.ands.take i) v++[litV (valsA (g.ands.take i) v) g.ands[i].1.toNat&&litV (valsA (g.ands.take i) v) g.ands[i].2.toNat]:=by
 rw [List.take_succ_eq_append_getElem h,valsA_append]; rfl
set_option maxRecDepth 8000 in
theorem p_aig_Values (g:Gr) (hf:g.few) (state ins:List Bool) {ks ki:Nat} (hs:Kd 1 ks state) (hi:Kd 1 ki ins) (hl1:state.length<2^40) (hl2:ins.length<2^40) :
  PureCon Try.prog Γ n_aig_Values [eGr g,.list false ks (state.map .bool),.list false ki (ins.map .bool)] (.tup [.own 1 t_bool ((g.values state ins).map .bool),.int .i64 (g.valuesE state ins)]):=by
 refine .run 60 c_aig_Values (by simp) ?_;simp;refine .call 60 (by simp) (p_aig_Check g hf) ?_;unfold Gr.values Gr.valuesE
 by_cases hc:g.check=0
 ·obtain ok:=Gr.ok_of hc;obtain ⟨o1,o2⟩:=ok.ins;have o3:=ok.sum
  by_cases d1:state.length=g.next.length
  ·by_cases d2:(ins.length:Int)=g.ins
   ·have hcat:catB [(1,[false]),(ki,ins),(ks,state)]=false::(ins++state):=by simp [catB]
    have hcc:=p_slices_Concat_bool_bool (Γ:=Γ) [(1,[false]),(ki,ins),(ks,state)] (by simp; exact ⟨.inl rfl,hi,hs⟩) (by simp) (by rw [hcat]; simp; omega) (by rw [hcat]; simp);rw [hcat] at hcc
    have hfit:g.fits state ins=true:=by simp [Gr.fits,d1,d2]
    have key:∀ n i:Nat,i+n=g.ands.length→∀ v:List Bool,v=valsA (g.ands.take i) (false::(ins++state)) →
      Fins Try.prog Γ (ygt (.sl 2 0 v.length) (.list false g.ka (g.ands.map ePr)) (.int .i64 g.ands.length) (.int .i64 i)
       [.cells [.int .i64 g.ins,.list false g.kn (g.next.map i64),.list false g.ki (g.init.map i64),.list false g.ka (g.ands.map ePr),.list false g.ko (g.outs.map i64)],.row 1 t_bool [] none true false,.row 1 t_bool (v.map .bool) none true false])
       (.ret (.tup [.own 1 t_bool ((g.vals state ins).map .bool),.int .i64 0])):=by
     intro n
     induction n with
     | zero =>
      intro i hi v hv
      have q1:¬ i<g.ands.length:=by omega
      have q2:g.ands.take i=g.ands:=List.take_of_length_le (by omega);rw [q2] at hv;have q3:g.vals state ins=v:=hv.symm;rw [q3];refine .go 60 ?_;simp [q1];exact .back (by simp)
     | succ n ih =>
      intro i hi v hv
      have q1:i<g.ands.length:=by omega
      have q2:=eq_true (g.ha.of q1)
      have hlen:v.length=g.first+i:=by
       rw [hv,valsA_len,List.length_take]; simp [Gr.first]; omega
      have hfi:g.first≤4001:=by unfold Gr.first; omega
      obtain ⟨⟨a1,a2⟩,a3,a4⟩:=ok.ands i q1;obtain ⟨x,hx⟩:=Int.eq_ofNat_of_zero_le a1;obtain ⟨y,hy⟩:=Int.eq_ofNat_of_zero_le a3;have hvx:=p_aig_value (Γ:=Γ) v x (by omega) (by omega);have hvy:=p_aig_value (Γ:=Γ) v y (by omega) (by omega);have hh:=ih (i+1) (by omega) _ rfl;rw [valsA_take q1,← hv,hx,hy] at hh;simp only [Int.toNat_natCast] at hh;refine .go 60 ?_;simp (disch:=omega) [q1,q2,hx,hy];refine .call 60 (by simp) hvx ?_
      cases b1:litV v x with
      | true =>
       simp (disch:=omega) [q1,q2,hx,hy];refine .call 60 (by simp) hvy ?_;simp (disch:=(first | omega | (simp; omega))) [q1,q2,hx,hy];refine .reLoop ?_;simp;refine .drop 3 rfl (by simp) (by simp) (by simp) ?_;refine .reset (i:=2) rfl (by simp) (by simp) (by simp) ?_;simp [b1] at hh ⊢;exact hh
      | false =>
       simp (disch:=(first | omega | (simp; omega))) [q1,q2,hx,hy];refine .reLoop ?_;simp;refine .drop 3 rfl (by simp) (by simp) (by simp) ?_;refine .reset (i:=2) rfl (by simp) (by simp) (by simp) ?_;simp [b1] at hh ⊢;exact hh
    simp [hc,d1,d2,hfit];refine .call 60 (by simp) hcc ?_;simp;refine .inLoop ?_;have hh:=key g.ands.length 0 (by omega) (false::(ins++state)) (by simp [valsA]);simp at hh ⊢;exact hh
   ·have hfit:g.fits state ins=false:=by simp [Gr.fits,d1,d2]
    simp [hc,d1,d2,hfit];exact .back (by simp)
  ·have hfit:g.fits state ins=false:=by simp [Gr.fits,d1]
   simp [hc,d1,hfit];exact .back (by simp)
 ·simp [hc];exact .back (by simp [hc])
set_option maxRecDepth 8000 in
theorem p_r09_Values (g:Gr) (hf:g.few) (state ins:List Bool) {ks ki:Nat} (hs:Kd 1 ks state) (hi:Kd 1 ki ins) (hl1:state.length<2^40) (hl2:ins.length<2^40) :
  PureCon Try.prog Γ n_r09_Values [eGr g,.list false ks (state.map .bool),.list false ki (ins.map .bool)] (.tup [.own 1 t_bool ((g.values state ins).map .bool),.int .i64 (g.valuesE state ins)]):=by
 refine .run 60 c_r09_Values (by simp) ?_;simp;unfold Gr.values Gr.valuesE
 by_cases hc:g.check=0
 ·obtain ok:=Gr.ok_of hc;obtain ⟨o1,o2⟩:=ok.ins;have o3:=ok.sum
  by_cases d1:state.length=g.next.length
  ·by_cases d2:(ins.length:Int)=g.ins
   ·have hfit:g.fits state ins=true:=by simp [Gr.fits,d1,d2]
    have key:∀ n i:Nat,i+n=g.ands.length→∀ v:List Bool,v=valsA (g.ands.take i) (false::(ins++state)) →
      Fins Try.prog Γ (ynv (.ptr 0 0) (.sl 2 0 v.length) (.int .i64 i)
       [.cells [.int .i64 g.ins,.list false g.kn (g.next.map i64),.list false g.ki (g.init.map i64),.list false g.ka (g.ands.map ePr),.list false g.ko (g.outs.map i64)],.row 1 t_bool [] none true false,.row 1 t_bool (v.map .bool) none true false])
       (.ret (.tup [.own 1 t_bool ((g.vals state ins).map .bool),.int .i64 0])):=by
     intro n
     induction n with
     | zero =>
      intro i hi v hv
      have q1:¬ i<g.ands.length:=by omega
      have q2:g.ands.take i=g.ands:=List.take_of_length_le (by omega);rw [q2] at hv;have q3:g.vals state ins=v:=hv.symm;rw [q3];refine .go 60 ?_;simp [q1];exact .back (by simp)
     | succ n ih =>
      intro i hi v hv
      have q1:i<g.ands.length:=by omega
      have q2:=eq_true (g.ha.of q1)
      have hlen:v.length=g.first+i:=by
       rw [hv,valsA_len,List.length_take]; simp [Gr.first]; omega
      have hfi:g.first≤4001:=by unfold Gr.first; omega
      obtain ⟨⟨a1,a2⟩,a3,a4⟩:=ok.ands i q1;obtain ⟨x,hx⟩:=Int.eq_ofNat_of_zero_le a1;obtain ⟨y,hy⟩:=Int.eq_ofNat_of_zero_le a3;have hvx:=p_r09_Lit (Γ:=Γ) v x (by omega) (by omega);have hvy:=p_r09_Lit (Γ:=Γ) v y (by omega) (by omega);have hh:=ih (i+1) (by omega) _ rfl;rw [valsA_take q1,← hv,hx,hy] at hh;simp only [Int.toNat_natCast] at hh;refine .go 60 ?_;simp (disch:=omega) [q1,q2,hx,hy];refine .call 60 (by simp) hvx ?_
      cases b1:litV v x with
      | true =>
       simp (disch:=omega) [q1,q2,hx,hy];refine .call 60 (by simp) hvy ?_;simp (disch:=(first | omega | (simp; omega))) [q1,q2,hx,hy];refine .reLoop ?_;simp;refine .reset (i:=2) rfl (by simp) (by simp) (by simp) ?_;simp [b1] at hh ⊢;exact hh
      | false =>
       simp (disch:=(first | omega | (simp; omega))) [q1,q2,hx,hy];refine .reLoop ?_;simp;refine .reset (i:=2) rfl (by simp) (by simp) (by simp) ?_;simp [b1] at hh ⊢;exact hh
    have hki:ki=1∨ins=[]:=hi;have hks:ks=1∨state=[]:=hs;have hh:=key g.ands.length 0 (by omega) (false::(ins++state)) (by simp [valsA]);refine .call 32 (by simp) (p_r09_Check g hf) ?_;simp [hc,d1,d2,hfit];refine .litRow 9 t_bool (es:=[.bool false]) (by simp) (by simp) ?_;simp (disch:=(first | omega | (simp; omega))) [hki,hks];refine .clrs [29,30] ?_;simp;refine .resetI (i:=2) rfl (by split <;> simp) (by simp) (by simp; omega) (by simp) ?_;refine .go 20 ?_;simp (disch:=(first | omega | (simp; omega))) [hki,hks,Nat.add_comm 1];refine .inLoop ?_;simp;refine .resetI (i:=2) rfl (by split <;> simp) (by simp) (by simp; omega) (by simp) ?_
    have e1:ins.length+1+state.length=ins.length+state.length+1:=by omega
    simp [e1,Nat.add_comm 1] at hh ⊢;exact hh
   ·have hfit:g.fits state ins=false:=by simp [Gr.fits,d1,d2]
    refine .call 60 (by simp) (p_r09_Check g hf) ?_;simp [hc,d1,d2,hfit];exact .back (by simp)
  ·have hfit:g.fits state ins=false:=by simp [Gr.fits,d1]
   refine .call 60 (by simp) (p_r09_Check g hf) ?_;simp [hc,d1,hfit];exact .back (by simp)
 ·refine .call 60 (by simp) (p_r09_Check g hf) ?_;simp [hc];exact .back (by simp [hc])
def litsV (v:List Bool) (l:List Int):List Bool:=l.map fun a=>litV v a.toNat
@[simp] theorem litsV_len (v:List Bool) (l:List Int):(litsV v l).length=l.length:=by simp [litsV]
theorem litsV_take {v:List Bool} {l:List Int} {i:Nat} (h:i<l.length):litsV v (l.take (i+1))=litsV v (l.take i)++[litV v l[i].toNat]:=by
 rw [List.take_succ_eq_append_getElem h]; simp only [litsV,List.map_append,List.map_cons,List.map_nil]
set_option maxRecDepth 8000 in
theorem r_aig_Step_1 (v:List Bool) (l:List Int) {k:Nat} (hk:Kd 1 k l) (hs:l.length<2^40) (hvl:v.length<2^38) (i r:Nat) {h:List Ob} (hi:h[i]? = some (.cells [.sl r 0 v.length])) (hr:h[r]? = some (.row 1 t_bool (v.map .bool) none true false))
  (hv:∀ m,vldH (h.length+1) m h=true) (hl:∀ a∈l,0≤a∧a<2*v.length) :
  ∀ up,AM.Reach Try.prog Γ (.cl n_aig_Step_1 [.list false k (l.map i64),.ptr i 0] up h) (.back up (.sl (h.length+1) 0 l.length) (h++[.row 1 t_bool [] none true false,.row 1 t_bool ((litsV v l).map .bool) none true false])):=by
 intro up
 have hi':∀ os,(h++os)[i]? = some (.cells [.sl r 0 v.length]):=fun os=>get_app hi os
 have hr':∀ os,(h++os)[r]? = some (.row 1 t_bool (v.map .bool) none true false):=fun os=>get_app hr os
 have key:∀ n j:Nat,j+n=l.length→∀ w,w=litsV v (l.take j)→AM.Reach Try.prog Γ (yom (.ptr i 0) (.sl (h.length+1) 0 w.length) (.list false k (l.map i64)) (.int .i64 l.length) (.int .i64 j)
   (h++[.row 1 t_bool [] none true false,.row 1 t_bool (w.map .bool) none true false]) ⟨[],.norm,h.length,up⟩) (.back up (.sl (h.length+1) 0 l.length) (h++[.row 1 t_bool [] none true false,.row 1 t_bool ((litsV v l).map .bool) none true false])):=by
  intro n
  induction n with
  | zero =>
   intro j hj w hw
   have q1:¬ j<l.length:=by omega
   rw [List.take_of_length_le (by omega)] at hw;subst hw;refine .goB 60 ?_;simp [q1]
  | succ n ih =>
   intro j hj w hw
   have q1:j<l.length:=by omega
   have q2:=eq_true (hk.of q1);obtain ⟨a1,a2⟩:=hl l[j] (List.getElem_mem q1);obtain ⟨x,hx⟩:=Int.eq_ofNat_of_zero_le a1
   have hwl:w.length=j:=by rw [hw]; simp; omega
   have hc:=p_aig_value (Γ:=Γ) v x (by omega) (by omega);have hh:=ih (j+1) (by omega) _ rfl;rw [litsV_take q1,← hw,hx] at hh;simp only [Int.toNat_natCast] at hh;refine .goB 60 ?_;simp (disch:=omega) [q1,q2,hi',hx];refine .callB 60 (by simp [hr']) hc ?_;simp (disch:=(first | omega | (simp; omega))) [q1,q2,hi',hr'];refine .reLoop ?_;simp;refine .resetTo (i:=h.length+1) (by simp; exact ⟨rfl,rfl,rfl,rfl,rfl⟩) (by simp) (by simp) (by simp [hv]) ?_;simp at hh ⊢;exact hh
 refine .enterB 60 c_aig_Step_1 ?_;simp;refine .inLoop ?_;have hh:=key l.length 0 (by omega) [] (by simp [litsV]);simp at hh ⊢;exact hh
theorem Gr.vals_len (g:Gr) (state ins:List Bool):(g.vals state ins).length=1+ins.length+state.length+g.ands.length:=by
 rw [Gr.vals,valsA_len]; simp; omega
def Gr.stepO (g:Gr) (state ins:List Bool):List Bool:=if g.valuesE state ins=0 then litsV (g.vals state ins) g.outs else []
def Gr.stepN (g:Gr) (state ins:List Bool):List Bool:=if g.valuesE state ins=0 then litsV (g.vals state ins) g.next else []
theorem Gr.ok_E {g:Gr} {state ins:List Bool} (h:g.valuesE state ins=0):g.Ok∧state.length=g.next.length∧(ins.length:Int)=g.ins:=by
 unfold Gr.valuesE at h
 by_cases hc:g.check=0
 ·refine ⟨Gr.ok_of hc,?_⟩;simp only [hc,ne_eq,not_true,if_false] at h
  by_cases hf:g.fits state ins=true
  ·simp only [Gr.fits,Bool.and_eq_true,decide_eq_true_eq] at hf;exact hf
  ·simp [hf] at h
 ·simp [hc] at h
set_option maxRecDepth 8000 in
theorem p_aig_Step (g:Gr) (hf:g.few) (state ins:List Bool) {ks ki:Nat} (hs:Kd 1 ks state) (hi:Kd 1 ki ins) (hl1:state.length<2^40) (hl2:ins.length<2^40) :
  PureCon Try.prog Γ n_aig_Step [eGr g,.list false ks (state.map .bool),.list false ki (ins.map .bool)]
   (.tup [.own 1 t_bool ((g.stepO state ins).map .bool),.own 1 t_bool ((g.stepN state ins).map .bool),.int .i64 (g.valuesE state ins)]):=by
 refine .run 60 c_aig_Step (by simp) ?_;simp;refine .call 60 (by simp) (p_aig_Values g hf state ins hs hi hl1 hl2) ?_;unfold Gr.stepO Gr.stepN Gr.values
 by_cases hE:g.valuesE state ins=0
 ·obtain ⟨ok,d1,d2⟩:=Gr.ok_E hE;have hvl:=g.vals_len state ins;obtain ⟨o1,o2⟩:=ok.ins;have o3:=ok.sum;have o4:=ok.outsL
  have hlit:g.lits=2*(g.vals state ins).length:=by rw [hvl]; simp [Gr.lits,Gr.all,Gr.first]; omega
  have hO:∀ a∈g.outs,0≤a∧a<2*(g.vals state ins).length:=fun a ha=>by have:=ok.outs a ha; omega
  have hN:∀ a∈g.next,0≤a∧a<2*(g.vals state ins).length:=fun a ha=>by have:=ok.next a ha; omega
  simp [hE];generalize g.vals state ins=v at *;refine .dr 60 ?_;simp;refine .reach (by simp) (r_aig_Step_1 v g.outs g.ho (by omega) (by omega) 4 3 (by simp) (by simp) (by simp) hO) ?_;simp;refine .reach (by simp) (r_aig_Step_1 v g.next g.hn (by omega) (by omega) 4 3 (by simp) (by simp) (by simp) hN) ?_;simp;exact .back (by simp)
 ·simp [hE];exact .back (by simp [hE])
def inR (row:List Int) (a:Nat):Int:=if a % 2=1 then IntKind.i64.wrap (-(row.getD (a / 2) 0)) else row.getD (a / 2) 0
theorem getD_atI {v:List Int} {i:Nat} (h:i<v.length):v.getD i 0=v[i]:=by
 rw [List.getD_eq_getElem?_getD,List.getElem?_eq_getElem h]; rfl
theorem p_r19_in (row:List Int) {k:Nat} (hk:Kd 1 k row) (a:Nat) (h:a / 2<row.length) (ha:(a:Int)<2^60):PureCon Try.prog Γ n_r19_in [.list false k (row.map i64),.int .i64 a] (.int .i64 (inR row a)):=by
 refine .run 60 c_r19_in (by simp) ?_;have hk1:=eq_true (hk.of h)
 have h2:((a % 2:Nat):Int)=1↔a % 2=1:=by omega
 have h3:((a / 2:Nat):Int)<row.length:=by omega
 unfold inR
 by_cases c:a % 2=1
 ·simp (disch:=omega) [-Int.natCast_ediv,-Int.natCast_emod,h,h2,h3,hk1,c,getD_atI];exact .back (by simp)
 ·simp (disch:=omega) [-Int.natCast_ediv,-Int.natCast_emod,h,h2,h3,hk1,c,getD_atI];exact .back (by simp)
def rowL (xs:List RowI) (t:Nat):List Int:=(lls xs).getD t []
def litC (u:Cn) (t lit:Int):Int :=
 if t<0∨u.lits.length≤t∨lit<0∨(rowL u.lits t.toNat).length≤lit / 2 then 0 else inR (rowL u.lits t.toNat) lit.toNat
theorem lls_at {xs:List RowI} {i:Nat} (h:i<xs.length):rowL xs i=xs[i].l:=by
 unfold rowL
 rw [List.getD_eq_getElem?_getD,List.getElem?_eq_getElem (by simpa [lls] using h)]; simp [lls]
set_option maxRecDepth 4000 in
theorem p_cnf_Lit (u:Cn) (hu:u.few) (t lit:Int) (hl:lit<2^63):PureCon Try.prog Γ n_cnf_Lit [eCn u,.int .i64 t,.int .i64 lit] (.int .i64 (litC u t lit)):=by
 refine .run 60 c_cnf_Lit (by simp) ?_;unfold litC
 by_cases c1:t<0
 ·simp [c1]; exact .back (by simp)
 obtain ⟨n,rfl⟩:=Int.eq_ofNat_of_zero_le (show 0≤t by omega)
 by_cases c2:u.lits.length≤n
 ·have c2':(u.lits.length:Int)≤n:=by omega
  simp [c1,c2,c2']; exact .back (by simp)
 have c2':¬ (u.lits.length:Int)≤n:=by omega
 have q1:n<u.lits.length:=by omega
 have q2:=eq_true (u.hl.of q1)
 by_cases c3:lit<0
 ·simp [c1,c2,c2',c3]; exact .back (by simp)
 obtain ⟨a,rfl⟩:=Int.eq_ofNat_of_zero_le (show 0≤lit by omega);have hrl:=hu.2.2 u.lits[n] (List.getElem_mem q1)
 by_cases c4:u.lits[n].l.length≤a / 2
 ·have c4':(u.lits[n].l.length:Int)≤((a / 2:Nat):Int):=by omega
  have c4'':(u.lits[n].l.length:Int)≤(a:Int) / 2:=by omega
  simp (disch:=omega) [-Int.natCast_ediv,-Int.natCast_emod,c1,c2,c2',q1,q2,c3,c4,c4',c4'',lls_at];exact .back (by simp)
 ·have c4':¬ (u.lits[n].l.length:Int)≤((a / 2:Nat):Int):=by omega
  have c4'':¬ (u.lits[n].l.length:Int)≤(a:Int) / 2:=by omega
  have h5:a / 2<u.lits[n].l.length:=by omega
  have h5':((a / 2:Nat):Int)<u.lits[n].l.length:=by omega
  have q3:=eq_true (u.lits[n].hk.of h5)
  have h2:((a % 2:Nat):Int)=1↔a % 2=1:=by omega
  simp (disch:=omega) [-Int.natCast_ediv,-Int.natCast_emod,c1,c2,c2',q1,q2,c3,c4,c4',c4'',lls_at];refine .enter 60 c_cnf_builder_lit ?_;unfold inR
  by_cases c5:a % 2=1
  ·simp (disch:=omega) [-Int.natCast_ediv,-Int.natCast_emod,q3,h2,c5,h5,h5',getD_atI];exact .back (by simp)
  ·simp (disch:=omega) [-Int.natCast_ediv,-Int.natCast_emod,q3,h2,c5,h5,h5',getD_atI];exact .back (by simp)
def manyC (g:Gr) (begin:List Int) (k:Int):Int:=1+(begin.count 2:Nat)+k*(g.ins+g.ands.length)
def canC (g:Gr) (begin:List Int) (k:Int):Int :=
 if g.check≠0 then g.check else if begin.length≠g.next.length∨anyB iniB begin=true then 1 else if k<0∨40<k∨20000<manyC g begin k then 8 else 0
theorem a_cnf_can_1 (l:List Int):Asks Try.prog Γ (fun _=>True) n_cnf_can_1 [] i64 iniB l:=by
 refine ⟨by simp,fun x _ up h hφ => ?_⟩;refine .enterB 60 c_cnf_can_1 ?_;unfold iniB
 by_cases h1:x<0
 ·simp [h1]
 ·simp [h1]
theorem mul_nat {k m:Int} (h1:0≤k) (h2:k≤40) (h3:0≤m) (h4:m≤4000):0≤k*m∧k*m≤160000:=by
 refine ⟨Int.mul_nonneg h1 h3,?_⟩
 calc k*m≤40*m:=Int.mul_le_mul_of_nonneg_right h2 h3
  _≤160000:=by omega
set_option maxRecDepth 4000 in
theorem p_r19_many (g:Gr) (ok:g.Ok) (begin:List Int) {kb:Nat} (hb:Kd 1 kb begin) (hl:begin.length≤4000) (k:Int) (hk1:0≤k) (hk2:k≤40) :
  PureCon Try.prog Γ n_r19_many [eGr g,.list false kb (begin.map i64),.int .i64 k] (.int .i64 (manyC g begin k)):=by
 obtain ⟨o1,o2⟩:=ok.ins;have o3:=ok.sum;obtain ⟨m1,m2⟩:=mul_nat hk1 hk2 (show 0≤g.ins+g.ands.length by omega) (by omega);refine .run 60 c_r19_many (by simp) ?_
 have key:∀ n i:Nat,i+n=begin.length→Fins Try.prog Γ (yqq (.list false kb (begin.map i64)) (.int .i64 k) (.ptr 0 0) (.int .i64 ((1+(begin.take i).count 2:Nat):Int)) (.int .i64 i)
   [.cells [.int .i64 g.ins,.list false g.kn (g.next.map i64),.list false g.ki (g.init.map i64),.list false g.ka (g.ands.map ePr),.list false g.ko (g.outs.map i64)]]) (.ret (.int .i64 (manyC g begin k))):=by
  intro n
  induction n with
  | zero =>
   intro i hi
   have q1:¬ i<begin.length:=by omega
   have q2:begin.count 2≤begin.length:=List.count_le_length;refine .go 60 ?_;rw [List.take_of_length_le (by omega)];unfold manyC;simp (disch:=omega) [q1];exact .back (by simp)
  | succ n ih =>
   intro i hi
   have q1:i<begin.length:=by omega
   have q2:=eq_true (hb.of q1);have q3:(begin.take i).count 2≤(begin.take i).length:=List.count_le_length;rw [List.length_take] at q3;have hh:=ih (i+1) (by omega);rw [List.take_succ_eq_append_getElem q1,List.count_append] at hh;refine .go 60 ?_
   by_cases h2:begin[i]=2
   ·simp (disch:=omega) [q1,q2,h2];refine .reLoop ?_;simp [h2,Int.add_assoc] at hh ⊢;exact hh
   ·have h3:¬ (begin[i]==2)=true:=by simpa using h2
    simp (disch:=omega) [q1,q2,h2];refine .reLoop ?_;simp [h2,h3,List.count_cons] at hh ⊢;exact hh
 simp;refine .inLoop ?_;have hh:=key begin.length 0 (by omega);simp at hh ⊢;exact hh
theorem p_r19_right (g:Gr) (begin:List Int) {kb:Nat} (hb:Kd 1 kb begin) (hl:begin.length<2^40) :
  PureCon Try.prog Γ n_r19_right [eGr g,.list false kb (begin.map i64)] (.bool (!anyB iniB begin&&decide (begin.length=g.next.length))):=by
 refine .run 60 c_r19_right (by simp) ?_
 have key:∀ n i:Nat,i+n=begin.length→Fins Try.prog Γ (yqc (.list false kb (begin.map i64)) (.ptr 0 0) (.int .i64 i)
   [.cells [.int .i64 g.ins,.list false g.kn (g.next.map i64),.list false g.ki (g.init.map i64),.list false g.ka (g.ands.map ePr),.list false g.ko (g.outs.map i64)]]) (.ret (.bool (!anyB iniB (begin.drop i)&&decide (begin.length=g.next.length)))):=by
  intro n
  induction n with
  | zero =>
   intro i hi
   have q1:¬ i<begin.length:=by omega
   refine .go 60 ?_;rw [anyB_end (by omega)];simp [q1];exact .back (by simp)
  | succ n ih =>
   intro i hi
   have q1:i<begin.length:=by omega
   have q2:=eq_true (hb.of q1);have hh:=ih (i+1) (by omega);rw [anyB_drop q1];refine .go 60 ?_
   by_cases r1:begin[i]<0
   ·simp (disch:=omega) [q1,q2,r1,iniB]; exact .back (by simp)
   by_cases r2:2<begin[i]
   ·simp (disch:=omega) [q1,q2,r1,r2,iniB]; exact .back (by simp)
   have r3:iniB begin[i]=false:=by simp [iniB,r1,r2]
   simp (disch:=omega) [q1,q2,r1,r2,r3];refine .reLoop ?_;simp at hh ⊢;exact hh
 simp;refine .inLoop ?_;have hh:=key begin.length 0 (by omega);simp at hh ⊢;exact hh
set_option maxRecDepth 4000 in
theorem p_r19_can (g:Gr) (hf:g.few) (begin:List Int) {kb:Nat} (hb:Kd 1 kb begin) (hl:begin.length<2^40) (k:Int) :
  PureCon Try.prog Γ n_r19_can [eGr g,.list false kb (begin.map i64),.int .i64 k] (.int .i64 (canC g begin k)):=by
 refine .run 60 c_r19_can (by simp) ?_;simp;refine .call 60 (by simp) (p_r09_Check g hf) ?_;unfold canC
 by_cases hc:g.check=0
 ·have ok:=Gr.ok_of hc;have o3:=ok.sum;have o1:=ok.ins;simp [hc];refine .call 60 (by simp) (p_r19_right g begin hb hl) ?_
  by_cases d1:begin.length=g.next.length
  ·by_cases d2:anyB iniB begin=true
   ·simp [d1,d2]; exact .back (by simp)
   ·by_cases d3:k<0
    ·simp [d1,d2,d3]; exact .back (by simp)
    by_cases d4:40<k
    ·simp [d1,d2,d3,d4]; exact .back (by simp)
    simp [d1,d2,d3,d4];refine .call 60 (by simp) (p_r19_many g ok begin hb (by omega) k (by omega) (by omega)) ?_
    by_cases d5:20000<manyC g begin k
    ·simp [d5]; exact .back (by simp)
    ·simp [d5]; exact .back (by simp)
  ·simp [d1]; exact .back (by simp)
 ·simp [hc];exact .back (by simp [hc])
set_option maxRecDepth 4000 in
theorem p_cnf_can (g:Gr) (hf:g.few) (begin:List Int) {kb:Nat} (hb:Kd 1 kb begin) (hl:begin.length<2^40) (k:Int) :
  PureCon Try.prog Γ n_cnf_can [eGr g,.list false kb (begin.map i64),.int .i64 k] (.int .i64 (canC g begin k)):=by
 refine .run 60 c_cnf_can (by simp) ?_;simp;refine .call 60 (by simp) (p_aig_Check g hf) ?_;unfold canC
 by_cases hc:g.check=0
 ·have ok:=Gr.ok_of hc;obtain ⟨o1,o2⟩:=ok.ins;have o3:=ok.sum
  by_cases d1:begin.length=g.next.length
  ·simp [hc,d1];refine .rcall 60 (p_ContainsFunc_int (a_cnf_can_1 begin) hb (by omega) (by trivial)) ?_
   by_cases d2:anyB iniB begin=true
   ·simp [d2]; exact .back (by simp)
   ·by_cases d3:k<0
    ·simp [d2,d3]; exact .back (by simp)
    by_cases d4:40<k
    ·simp [d2,d3,d4]; exact .back (by simp)
    obtain ⟨m1,m2⟩:=mul_nat (show 0≤k by omega) (show k≤40 by omega) (show 0≤g.ins+g.ands.length by omega) (by omega);have hin:=anyB_no.1 (show anyB iniB begin=false by simpa using d2)
    have key:∀ n i:Nat,i+n=begin.length→Fins Try.prog Γ (yjH (.int .i64 (1+k*(g.ins+g.ands.length)+((begin.take i).count 2:Nat))) (.list false kb (begin.map i64)) (.int .i64 begin.length) (.int .i64 i)
      [.cells [.int .i64 g.ins,.list false g.kn (g.next.map i64),.list false g.ki (g.init.map i64),.list false g.ka (g.ands.map ePr),.list false g.ko (g.outs.map i64)]]) (.ret (.int .i64 (if 20000<manyC g begin k then 8 else 0))):=by
     intro n
     induction n with
     | zero =>
      intro i hi
      have q1:¬ i<begin.length:=by omega
      have q3:1+k*(g.ins+g.ands.length)+((begin.count 2:Nat):Int)=manyC g begin k:=by unfold manyC; omega
      refine .go 60 ?_;rw [List.take_of_length_le (by omega),q3]
      by_cases d5:20000<manyC g begin k
      ·simp [q1,d5]; exact .back (by simp)
      ·simp [q1,d5]; exact .back (by simp)
     | succ n ih =>
      intro i hi
      have q1:i<begin.length:=by omega
      have q2:=eq_true (hb.of q1);have q3:(begin.take i).count 2≤(begin.take i).length:=List.count_le_length;rw [List.length_take] at q3;have hb3:=hin begin[i] (List.getElem_mem q1);simp [iniB] at hb3;obtain ⟨x,hx⟩:=Int.eq_ofNat_of_zero_le hb3.1;have hh:=ih (i+1) (by omega);rw [List.take_succ_eq_append_getElem q1,List.count_append,hx] at hh;refine .go 60 ?_;simp (disch:=omega) [-Int.natCast_ediv,q1,q2,hx];refine .reLoop ?_
      have e1:(List.count 2 [(x:Int)])=x / 2:=by
       have:x=0∨x=1∨x=2:=by omega
       rcases this with rfl | rfl | rfl <;> rfl
      rw [e1] at hh;simp [-Int.natCast_ediv,← Int.add_assoc] at hh ⊢;exact hh
    have hh:=key begin.length 0 (by omega);simp (disch:=omega) [d2,d3,d4];refine .inLoop ?_;simp at hh ⊢;exact hh
  ·simp [hc,d1]; exact .back (by simp)
 ·simp [hc];exact .back (by simp [hc])
abbrev eCl (c:List Int):AV:=.list false 1 (c.map i64)
section
variable {a0 a1 a2 a3 : Ob} {c0 c1 c2 c3 c4 c5 c6 c7 c8 : AV} {t : List Ob}
theorem r_fresh (v:Nat) (hv:v<2^40):∀ up,AM.Reach Try.prog Γ (.cl n_cnf_builder_fresh [.ptr 4 0] up (a0::a1::a2::a3::.cells [.int .i64 v,c1,c2,c3,c4,c5,c6,c7,c8]::t)) (.back up (.int .i64 (v+1:Nat)) (a0::a1::a2::a3::.cells [.int .i64 (v+1:Nat),c1,c2,c3,c4,c5,c6,c7,c8]::t)):=by
 intro up;refine .enterB 60 c_cnf_builder_fresh ?_;simp (disch:=omega)
theorem r_add (c:List Int) (es:List AV) (n:Nat) (hn:n=es.length) (hl:n<2^20):∀ up,AM.Reach Try.prog Γ (.cl n_cnf_builder_add [.ptr 4 0,.list true 1 (c.map i64)] up (a0::a1::a2::a3::.cells [c0,.sl 5 0 n,c2,c3,c4,c5,c6,c7,c8]::.row 1 t_api_Clause_2 es none true false::t))
  (.back up (.tup []) (a0::a1::a2::a3::.cells [c0,.sl 5 0 (n+1),c2,c3,c4,c5,c6,c7,c8]::.row 1 t_api_Clause_2 (es++[eCl c]) (some 0) true false::t)):=by
 intro up;subst hn;refine .enterB 60 c_cnf_builder_add ?_;simp (disch:=(first | omega | (simp; omega)))
theorem r_lit (row:List Int) (a:Nat) (h1:a / 2<row.length) (ha:(a:Int)<2^60) (r:Nat) {E:TypeId} {gr:Option Nat} {fl sh:Bool} (hok:okSl (row.map i64) gr 0 row.length=true)
  (hr:(a0::a1::a2::a3::.cells [c0,c1,c2,c3,c4,c5,c6,c7,.sl r 0 row.length]::t)[r]? = some (.row 1 E (row.map i64) gr fl sh)) :
  ∀ up,AM.Reach Try.prog Γ (.cl n_cnf_builder_lit [.ptr 4 0,.int .i64 a] up (a0::a1::a2::a3::.cells [c0,c1,c2,c3,c4,c5,c6,c7,.sl r 0 row.length]::t)) (.back up (.int .i64 (inR row a)) (a0::a1::a2::a3::.cells [c0,c1,c2,c3,c4,c5,c6,c7,.sl r 0 row.length]::t)):=by
 intro up
 have h2:((a % 2:Nat):Int)=1↔a % 2=1:=by omega
 have h3:((a / 2:Nat):Int)<row.length:=by omega
 refine .enterB 60 c_cnf_builder_lit ?_;unfold inR
 by_cases c5:a % 2=1
 ·simp (disch:=omega) [-Int.natCast_ediv,-Int.natCast_emod,-okSl,hok,hr,h1,h2,h3,c5,getD_atI]
 ·simp (disch:=omega) [-Int.natCast_ediv,-Int.natCast_emod,-okSl,hok,hr,h1,h2,h3,c5,getD_atI]
end
def insRow (V:Nat) (i ins:Nat) (lat:List Int):List Int := -1::((List.range i).map (fun j=>((V+1+j:Nat):Int))++(List.replicate (ins - i) 0++lat))
theorem insRow_len {V i ins:Nat} {lat:List Int} (h:i≤ins):(insRow V i ins lat).length=1+ins+lat.length:=by
 simp [insRow]; omega
theorem insRow_zero (V ins:Nat) (lat:List Int):insRow V 0 ins lat = -1::(List.replicate ins 0++lat):=by simp [insRow]
theorem insRow_set {V i ins:Nat} {lat:List Int} (h:i<ins):(insRow V i ins lat).set (1+i) ((V+1+i:Nat):Int)=insRow V (i+1) ins lat:=by
 have h1:1+i=i+1:=by omega
 have h2:ins - i=(ins - (i+1))+1:=by omega
 rw [insRow,h1,List.set_cons_succ,insRow,List.range_succ,List.map_append];congr 1;rw [List.set_append,if_neg (by simp),h2,List.replicate_succ];simp
set_option maxRecDepth 8000 in
theorem r_begin {a0 a1 a2 a3:Ob} {c0 c1 c2 c4 c5 c6 c7 c8:AV} {t:List Ob} (ins:Nat) (hi:ins≤4000) (lat:List Int) (hl:lat.length≤4000) (q:Nat) {E:TypeId} {sh:Bool}
  (hq:∀ cs os,(a0::a1::a2::a3::.cells cs::(t++os))[q]? = some (.row 1 E (lat.map i64) none true sh)) :
  ∃ gr:Option Nat,(gr=none∨gr=some 0)∧∀ up,AM.Reach Try.prog Γ (.cl n_cnf_builder_begin [.ptr 4 0,.sl q 0 lat.length] up (a0::a1::a2::a3::.cells [c0,c1,c2,.int .i64 ins,c4,c5,c6,c7,c8]::t))
   (.back up (.tup []) (a0::a1::a2::a3::.cells [c0,c1,c2,.int .i64 ins,c4,c5,c6,c7,.sl (t.length+5) 0 (1+ins+lat.length)]::(t++[.row 1 t_int ((insRow 0 0 ins lat).map i64) gr true false]))):=by
 by_cases hz:ins=0
 ·subst hz;refine ⟨if lat=[] then none else some 0,by split <;> simp,fun up => ?_⟩;refine .enterB 3 c_cnf_builder_begin ?_;simp;refine .litRowTo 60 t_int (es:=[.int .i64 (-1)]) (by simp) (by simp) ?_;simp (disch:=(first | omega | (simp; omega))) [hq];simp [insRow]
 ·refine ⟨some 0,.inr rfl,fun up => ?_⟩;refine .enterB 3 c_cnf_builder_begin ?_;simp;refine .litRowTo 60 t_int (es:=[.int .i64 (-1)]) (by simp) (by simp) ?_
  have e2:1+ins=ins+1:=by omega
  simp (disch:=(first | omega | (simp; omega))) [hq,hz,e2];simp [insRow,e2]
def rowA (row:List Int) (n1 i:Nat):List Int:=row++(List.range i).map fun j=>((n1+1+j:Nat):Int)
theorem rowA_len (row:List Int) (n1 i:Nat):(rowA row n1 i).length=row.length+i:=by simp [rowA]
theorem rowA_zero (row:List Int) (n1:Nat):rowA row n1 0=row:=by simp [rowA]
theorem rowA_succ (row:List Int) (n1 i:Nat):rowA row n1 (i+1)=rowA row n1 i++[((n1+1+i:Nat):Int)]:=by
 simp [rowA,List.range_succ]
def cl3 (v x y:Int):List (List Int):=[[-v,x],[-v,y],[v,-x,-y]]
def clsA (row:List Int) (n1:Nat):List (Int×Int)→Nat→List (List Int)
 | [],_=>[]
 | p::ps,i=>cl3 ((n1+1+i:Nat):Int) (inR (rowA row n1 i) p.1.toNat) (inR (rowA row n1 i) p.2.toNat)++clsA row n1 ps (i+1)
theorem clsA_append (row:List Int) (n1:Nat):∀ (a b:List (Int×Int)) (i:Nat),clsA row n1 (a++b) i=clsA row n1 a i++clsA row n1 b (i+a.length)
 | [],b,i=>by simp [clsA]
 | p::a,b,i=>by
  rw [List.cons_append,clsA,clsA,clsA_append row n1 a b (i+1)];simp [Nat.add_assoc,Nat.add_comm 1]
theorem clsA_take (row:List Int) (n1:Nat) {l:List (Int×Int)} {i:Nat} (h:i<l.length):clsA row n1 (l.take (i+1)) 0=clsA row n1 (l.take i) 0++cl3 ((n1+1+i:Nat):Int) (inR (rowA row n1 i) l[i].1.toNat) (inR (rowA row n1 i) l[i].2.toNat):=by
 rw [List.take_succ_eq_append_getElem h,clsA_append]
 have:0+(l.take i).length=i:=by simp; omega
 rw [this];simp [clsA]
theorem clsA_len (row:List Int) (n1:Nat):∀ (a:List (Int×Int)) (i:Nat),(clsA row n1 a i).length=3*a.length
 | [],i=>rfl
 | p::a,i=>by rw [clsA,List.length_append,clsA_len row n1 a (i+1)]; simp [cl3]; omega
def Low (B:Nat) (row:List Int):Prop:=∀ x∈row,-(B:Int)≤x∧x≤B
theorem low_rowA {row:List Int} {n1:Nat} (h:Low n1 row) (i:Nat):Low (n1+i) (rowA row n1 i):=by
 intro x hx
 rcases List.mem_append.1 hx with hx | hx
 ·have:=h x hx; omega
 ·obtain ⟨j,hj,rfl⟩:=List.mem_map.1 hx;have:=List.mem_range.1 hj;omega
theorem inR_low {B:Nat} {row:List Int} (h:Low B row) (hB:B<2^40) {a:Nat} (ha:a / 2<row.length) : -(B:Int)≤inR row a∧inR row a≤B:=by
 have h1:=h (row.getD (a / 2) 0) (by rw [getD_atI ha]; exact List.getElem_mem ha);unfold inR
 split
 ·rw [wrap64 (by omega) (by omega)]; omega
 ·exact h1
abbrev bcell (g:Gr) (V nc nl:Nat) (r:AV):Ob:=.cells [.int .i64 V,.sl 5 0 nc,.sl 6 0 nl,.int .i64 g.ins,.list false g.kn (g.next.map i64),.list false g.ki (g.init.map i64),.list false g.ka (g.ands.map ePr),.list false g.ko (g.outs.map i64),r]
section
variable {a0 a1 a2 a3 o7 : Ob} {rC rL : Ob} {junk tl : List Ob}
set_option maxRecDepth 8000 in
theorem r_step1 (g:Gr) (ni:Nat) (hni:g.ins=ni) (hi4:ni≤4000) (V:Nat) (hV:V<2^30) (nc nl:Nat) (lat:List Int) (hlat:lat.length≤4000) (up:List Fr) (base:Nat) {c:Cfg}
  (hc:AM.Reach Try.prog Γ (ykF (.ptr 4 0) (a0::a1::a2::a3::bcell g (V+ni) nc nl (.sl (junk.length+8) 0 (1+ni+lat.length))::rC::rL::o7::(junk++[.row 1 t_int ((insRow V ni ni lat).map i64) none true false])) ⟨[],.norm,base,up⟩) c) :
  ∀ n i:Nat,i+n=ni→AM.Reach Try.prog Γ (ykE (.ptr 4 0) (.int .i64 ni) (.int .i64 i) (a0::a1::a2::a3::bcell g (V+i) nc nl (.sl (junk.length+8) 0 (1+ni+lat.length))::rC::rL::o7::(junk++[.row 1 t_int ((insRow V i ni lat).map i64) none true false])) ⟨[],.norm,base,up⟩) c:=by
 intro n
 induction n with
 | zero =>
  intro i hi
  obtain rfl:i=ni:=by omega
  refine .trans ?_ hc;refine .goS 60 ?_;simp;exact .exit rfl rfl
 | succ n ih =>
  intro i hi;have hh:=ih (i+1) (by omega);have hlen:=insRow_len (V:=V) (i:=i) (ins:=ni) (lat:=lat) (by omega)
  have hset:(List.map i64 (insRow V i ni lat)).set (1+i) (.int .i64 ((V:Int)+i+1))=List.map i64 (insRow V (i+1) ni lat):=by
   rw [← insRow_set (by omega),List.map_set]; congr 2; omega
  have hil:(i:Int)<ni:=by omega
  refine .goS 60 ?_;simp [hil];refine .drS 60 ?_;simp (disch:=omega);refine .reach (by simp) (r_fresh (V+i) (by omega)) ?_;simp (disch:=(first | omega | (simp; omega))) [hlen,hset];refine .reLoop ?_;simp [← Int.add_assoc] at hh ⊢;exact hh
set_option maxRecDepth 8000 in
theorem r_step2 (g:Gr) (ok:g.Ok) (n1:Nat) (hV:n1+g.ands.length<2^30) (cls:List (List Int)) (hcl:cls.length+3*g.ands.length<2^20) (nl:Nat) (row:List Int) (hrow:row.length=g.first) (hlow:Low n1 row) (up:List Fr) (base:Nat) (hbase:base≤junk.length+9)
  (hup:∀ i m,5≤i→up.all (vldF i m)=true) (hva:∀ i m,5≤i→vldH i m [a0,a1,a2,a3,rL,o7]=true) (hj:∀ i m,vldH i m junk=true) (hb:∀ n,9≤n→belH n (a0::a1::a2::a3::rL::o7::junk)=true) {c:Cfg}
  (hc:AM.Reach Try.prog Γ (ykC (.ptr 4 0) (a0::a1::a2::a3::bcell g (n1+g.ands.length) (cls.length+3*g.ands.length) nl (.sl (junk.length+8) 0 (row.length+g.ands.length)) ::
   .row 1 t_api_Clause_2 ((cls++clsA row n1 g.ands 0).map eCl) none true false::rL::o7::(junk++[.row 1 t_int ((rowA row n1 g.ands.length).map i64) none true false])) ⟨[],.norm,base,up⟩) c) :
  ∀ n i:Nat,i+n=g.ands.length→∀ cs,cs=cls++clsA row n1 (g.ands.take i) 0→∀ rw_,rw_=rowA row n1 i→AM.Reach Try.prog Γ (ykB (.ptr 4 0) (.list false g.ka (g.ands.map ePr)) (.int .i64 g.ands.length) (.int .i64 i)
   (a0::a1::a2::a3::bcell g (n1+i) cs.length nl (.sl (junk.length+8) 0 rw_.length)::.row 1 t_api_Clause_2 (cs.map eCl) none true false::rL::o7::(junk++[.row 1 t_int (rw_.map i64) none true false])) ⟨[],.norm,base,up⟩) c:=by
 intro n
 induction n with
 | zero =>
  intro i hi cs hcs rw_ hrw
  obtain rfl:i=g.ands.length:=by omega
  rw [List.take_length] at hcs;subst hcs;subst hrw;refine .trans ?_ hc;refine .goS 60 ?_;simp [rowA_len,clsA_len];exact .exit rfl rfl
 | succ n ih =>
  intro i hi cs hcs rw_ hrw
  have q1:i<g.ands.length:=by omega
  have q2:=eq_true (g.ha.of q1);obtain ⟨⟨b1,b2⟩,b3,b4⟩:=ok.ands i q1;obtain ⟨x,hx⟩:=Int.eq_ofNat_of_zero_le b1;obtain ⟨y,hy⟩:=Int.eq_ofNat_of_zero_le b3
  have hrl:rw_.length=g.first+i:=by rw [hrw,rowA_len,hrow]
  have hcsl:cs.length=cls.length+3*i:=by rw [hcs,List.length_append,clsA_len,List.length_take]; omega
  have hlw:Low (n1+i) rw_:=by rw [hrw]; exact low_rowA hlow i
  have hxl:=inR_low hlw (by omega) (a:=x) (by omega);have hyl:=inR_low hlw (by omega) (a:=y) (by omega);have hh:=ih (i+1) (by omega) _ rfl _ rfl;rw [clsA_take row n1 q1,← List.append_assoc,← hcs,rowA_succ,← hrw,hx,hy] at hh;simp only [Int.toNat_natCast] at hh
  have hfi:g.first≤8001:=by have:=ok.ins; have:=ok.sum; unfold Gr.first; omega
  refine .goS 60 ?_;simp [q1,q2];refine .drS 0 ?_;simp (disch:=omega);refine .reach (by simp) (r_fresh (n1+i) (by omega)) ?_;simp (disch:=omega) [hx,hy];refine .reach (by simp) (r_lit rw_ x (by omega) (by omega) (junk.length+8) (E:=t_int) (gr:=none) (fl:=true) (sh:=false) (by simp) (by simp)) ?_;simp (disch:=omega) [hx,hy];refine .reach (by simp) (r_lit rw_ y (by omega) (by omega) (junk.length+8) (E:=t_int) (gr:=none) (fl:=true) (sh:=false) (by simp) (by simp)) ?_;simp (disch:=omega) [hx,hy];generalize inR rw_ x=xv at *;generalize inR rw_ y=yv at *;refine .goS 60 ?_;simp (disch:=omega)
  have e1:(((n1+1+i:Nat):Nat):Int)=(n1:Int)+i+1:=by omega
  have hres:∀ (cs':List (List Int)),∀ m,vldH 5 m (a0::a1::a2::a3::rL::o7::junk)=true:=by
   intro cs' m;have h1:=hva 5 m (by omega);have h2:=hj 5 m;simp only [vldH,Bool.and_eq_true,Bool.and_true] at h1 ⊢;exact ⟨h1.1,h1.2.1,h1.2.2.1,h1.2.2.2.1,h1.2.2.2.2.1,h1.2.2.2.2.2,h2⟩
  have hst:∀ (es:List AV) (n:Nat),n=es.length→∀ (k':List It) (t:List AV) (gd:Ob),(∀ m,vldL 5 m t=true)→(∀ m,vldO 5 m gd=true)→∀ {c':Cfg},
    AM.Reach Try.prog Γ (.fr ⟨.run,n_cnf_builder_step,k',t,[],.norm,base⟩ up (a0::a1::a2::a3::bcell g (n1+i+1) n nl (.sl (junk.length+8) 0 rw_.length)::.row 1 t_api_Clause_2 es none true false::rL::o7::(junk++[.row 1 t_int (rw_.map i64) none true false,gd]))) c' →
    AM.Reach Try.prog Γ (.fr ⟨.run,n_cnf_builder_step,k',t,[],.norm,base⟩ up (a0::a1::a2::a3::bcell g (n1+i+1) n nl (.sl (junk.length+8) 0 rw_.length)::.row 1 t_api_Clause_2 es (some 0) true false::rL::o7::(junk++[.row 1 t_int (rw_.map i64) none true false,gd]))) c':=by
   intro es n hn k' t gd ht hgd c' hc';subst hn;have h1:=hres cs es.length;refine .resetUT (i:=5) rfl (by simp [ht]) (hup 5 _ (by omega)) (by have h2:=hgd es.length; simp at h1 h2 ⊢; simp [h1,h2]) ?_;exact hc'
  have e2:n1+(i+1)=n1+i+1:=by omega
  refine .rcallM 1 0 (r_add [-((n1:Int)+i+1),xv] (cs.map eCl) cs.length (by simp) (by omega)) ?_;simp;refine hst _ (cs.length+1) (by simp) _ _ _ (by simp) (by simp) ?_;refine .goS 60 ?_;simp (disch:=omega);refine .rcallM 1 0 (r_add [-((n1:Int)+i+1),yv] (cs.map eCl++[eCl [-((n1:Int)+i+1),xv]]) (cs.length+1) (by simp) (by omega)) ?_;simp;refine hst _ (cs.length+2) (by simp) _ _ _ (by simp) (by simp) ?_;refine .goS 60 ?_;simp (disch:=omega);refine .rcallM 1 0 (r_add [(n1:Int)+i+1,-xv,-yv] (cs.map eCl++[eCl [-((n1:Int)+i+1),xv],eCl [-((n1:Int)+i+1),yv]]) (cs.length+2) (by simp) (by omega)) ?_;simp;refine hst _ (cs.length+3) (by simp) _ _ _ (by simp) (by simp) ?_;refine .goS 60 ?_;simp (disch:=(first | omega | (simp; omega)));refine .reLoop ?_;simp;have hb9:=hb (junk.length+9) (by omega)
  refine .dropTo (junk.length+9) (by simp; rfl) (by simpa using hbase) (by simp) (by simp at hb9 ⊢; simp [hb9]) ?_
  have hlen8:(List.map i64 rw_++[AV.int .i64 ((n1:Int)+i+1)]).length=rw_.length+1:=by simp
  have h1:=hva (junk.length+8) (rw_.length+1) (by omega);have h2:=hj (junk.length+8) (rw_.length+1);refine .resetUT (i:=junk.length+8) (by simp; exact ⟨rfl,rfl,rfl,rfl,rfl⟩) (by simp) (hup _ _ (by omega)) (by rw [hlen8]; simp at h1 h2 ⊢; simp [h1,h2]) ?_;simp [bcell,cl3,← Int.add_assoc,Int.add_right_comm _ (1:Int)] at hh ⊢;exact hh
end
def litsR (row:List Int) (l:List Int):List Int:=l.map fun a=>inR row a.toNat
@[simp] theorem litsR_len (row l:List Int):(litsR row l).length=l.length:=by simp [litsR]
theorem litsR_take {row l:List Int} {i:Nat} (h:i<l.length):litsR row (l.take (i+1))=litsR row (l.take i)++[inR row l[i].toNat]:=by
 rw [List.take_succ_eq_append_getElem h]; simp only [litsR,List.map_append,List.map_cons,List.map_nil]
theorem insRow_any (V ins:Nat) (lat:List Int):insRow V 0 ins lat=insRow 0 0 ins lat:=by rw [insRow_zero,insRow_zero]
theorem low_insRow {V ni:Nat} {lat:List Int} (h:Low V lat) (hV:1≤V):Low (V+ni) (insRow V ni ni lat):=by
 intro x hx;simp only [insRow,List.mem_cons,List.mem_append,List.mem_map,List.mem_range,List.mem_replicate] at hx
 rcases hx with rfl | ⟨j,hj,rfl⟩ | ⟨h1,rfl⟩ | hx
 ·omega
 ·omega
 ·omega
 ·have:=h x hx; omega
theorem low_litsR {B:Nat} {row l:List Int} (h:Low B row) (hB:B<2^40) (hl:∀ a∈l,a.toNat / 2<row.length):Low B (litsR row l):=by
 intro x hx;obtain ⟨a,ha,rfl⟩:=List.mem_map.1 hx;exact inR_low h hB (hl a ha)
theorem modify_len0 {α} (h l:List α) (f:α→α):(h++l).modify h.length f=h++l.modify 0 f:=by
 induction h with
 | nil=>rfl
 | cons a h ih=>simpa [List.modify_succ_cons] using ih
attribute [simp] modify_len0
section
variable {a0 a1 a2 a3 o7 : Ob} {rC rL : Ob} {junk tl : List Ob}
set_option maxRecDepth 8000 in
theorem r_step3 (g:Gr) (ok:g.Ok) (V nc nl:Nat) (row:List Int) (hrow:row.length=g.all) (up:List Fr)
  (hva:∀ i m,5≤i→vldH i m [a0,a1,a2,a3,rC,rL,o7]=true) (hj:∀ i m,vldH i m junk=true) {c:Cfg}
  (hc:AM.Reach Try.prog Γ (ykz (.ptr 4 0) (.sl (junk.length+9) 0 g.next.length) (a0::a1::a2::a3::bcell g V nc nl (.sl (junk.length+8) 0 row.length)::rC::rL::o7::(junk++[.row 1 t_int (row.map i64) none true true,.row 1 t_int ((litsR row g.next).map i64) none true false])) ⟨[],.norm,junk.length+9,up⟩) c) :
  ∀ n i:Nat,i+n=g.next.length→∀ w,w=litsR row (g.next.take i)→AM.Reach Try.prog Γ (yky (.ptr 4 0) (.fn (.func n_cnf_builder_lit) [.ptr 4 0] []) (.sl (junk.length+9) 0 w.length) (.list false g.kn (g.next.map i64)) (.int .i64 g.next.length) (.int .i64 i)
   (a0::a1::a2::a3::bcell g V nc nl (.sl (junk.length+8) 0 row.length)::rC::rL::o7::(junk++[.row 1 t_int (row.map i64) none true true,.row 1 t_int (w.map i64) none true false])) ⟨[],.norm,junk.length+9,up⟩) c:=by
 intro n
 induction n with
 | zero =>
  intro i hi w hw
  obtain rfl:i=g.next.length:=by omega
  rw [List.take_length] at hw;subst hw;refine .trans ?_ hc;refine .goS 60 ?_;simp;exact .exit rfl rfl
 | succ n ih =>
  intro i hi w hw
  have q1:i<g.next.length:=by omega
  have q2:=eq_true (g.hn.of q1);have o1:=ok.ins;have o3:=ok.sum;obtain ⟨b1,b2⟩:=ok.next g.next[i] (List.getElem_mem q1);obtain ⟨x,hx⟩:=Int.eq_ofNat_of_zero_le b1
  have hlits:g.lits=2*row.length:=by rw [hrow]; rfl
  have hwl:w.length=i:=by rw [hw]; simp; omega
  have hall:g.all≤12001:=by unfold Gr.all Gr.first; omega
  have hh:=ih (i+1) (by omega) _ rfl;rw [litsR_take q1,← hw,hx] at hh;simp only [Int.toNat_natCast] at hh;refine .goS 60 ?_;simp [q1,q2,hx];refine .rcallM 1 60 (r_lit row x (by omega) (by omega) (junk.length+8) (E:=t_int) (gr:=none) (fl:=true) (sh:=true) (by simp) (by simp)) ?_;simp (disch:=(first | omega | (simp; omega)));refine .reLoop ?_;simp
  have hlen8:(List.map i64 w++[AV.int .i64 (inR row x)]).length=w.length+1:=by simp
  have h1:=hva (junk.length+9) (w.length+1) (by omega);have h2:=hj (junk.length+9) (w.length+1);refine .resetTo (i:=junk.length+9) (by simp; exact ⟨rfl,rfl,rfl,rfl,rfl⟩) (by simp) (by simp) (by rw [hlen8]; simp at h1 h2 ⊢; simp [h1,h2]) ?_;simp at hh ⊢;exact hh
structure Mem5 (l:List Ob):Prop where
 v:∀ i m,5≤i→vldH i m l=true
 b:∀ n,9≤n→belH n l=true
structure Junk (l:List Ob):Prop where
 v:∀ i m,vldH i m l=true
 b:∀ n,belH n l=true
set_option maxRecDepth 8000 in
theorem r_step_aux (g:Gr) (ok:g.Ok) (ni:Nat) (hni:g.ins=ni) (V:Nat) (hV1:1≤V) (hV:V+ni+g.ands.length<2^30) (cls lits:List (List Int)) (hcl:cls.length+3*g.ands.length<2^20) (hll:lits.length<2^20)
  (lat:List Int) (hlat:lat.length=g.next.length) (hlow:Low V lat) (hj:Junk junk) (hm:Mem5 [a0,a1,a2,a3,o7]) (up:List Fr) (hup:∀ i m,5≤i→up.all (vldF i m)=true)  {c:Cfg} (hfin:c=(.back up (.tup []) (a0::a1::a2::a3::bcell g (V+ni+g.ands.length) (cls.length+3*g.ands.length) (lits.length+1) (.sl (junk.length+10) 0 (1+ni+g.next.length)) ::
    .row 1 t_api_Clause_2 ((cls++clsA (insRow V ni ni lat) (V+ni) g.ands 0).map eCl) none true false::.row 1 t_int_3 ((lits++[rowA (insRow V ni ni lat) (V+ni) g.ands.length]).map eCl) none true false::o7 ::
    (junk++[.row 1 t_int ((rowA (insRow V ni ni lat) (V+ni) g.ands.length).map i64) none true true,.row 1 t_int ((litsR (rowA (insRow V ni ni lat) (V+ni) g.ands.length) g.next).map i64) none true false,
     .row 1 t_int ((insRow 0 0 ni (litsR (rowA (insRow V ni ni lat) (V+ni) g.ands.length) g.next)).map i64) none true false])))) :
  AM.Reach Try.prog Γ (.cl n_cnf_builder_step [.ptr 4 0] up (a0::a1::a2::a3::bcell g V cls.length lits.length (.sl (junk.length+8) 0 (1+ni+lat.length))::.row 1 t_api_Clause_2 (cls.map eCl) none true false::.row 1 t_int_3 (lits.map eCl) none true false::o7 ::
    (junk++[.row 1 t_int ((insRow 0 0 ni lat).map i64) none true false]))) c:=by
 obtain ⟨o1,o2⟩:=ok.ins;have o3:=ok.sum
 have hr1:(insRow V ni ni lat).length=g.first:=by rw [insRow_len (by omega)]; unfold Gr.first; omega
 have hlow1:=low_insRow (ni:=ni) hlow hV1
 have hra:(rowA (insRow V ni ni lat) (V+ni) g.ands.length).length=g.all:=by rw [rowA_len,hr1]; rfl
 have hrl:(insRow V ni ni lat).length=1+ni+lat.length:=insRow_len (by omega);generalize hrow1:insRow V ni ni lat=row1 at *;generalize hrowF:rowA row1 (V+ni) g.ands.length=rowF at *
 have hfl:rowF.length=row1.length+g.ands.length:=by rw [← hrowF,rowA_len]
 refine .enterB 60 c_cnf_builder_step ?_;simp;refine .inLoop ?_;have k1:=r_step1 (Γ:=Γ) (a0:=a0) (a1:=a1) (a2:=a2) (a3:=a3) (rC:=.row 1 t_api_Clause_2 (cls.map eCl) none true false) (rL:=.row 1 t_int_3 (lits.map eCl) none true false) (o7:=o7) (junk:=junk) g ni hni (by omega) V (by omega) cls.length lits.length lat (by omega) up (junk.length+9) (c:=c) (hc := ?_) ni 0 (by omega)
 ·rw [insRow_any] at k1;simp [hni] at k1 ⊢;exact k1
 rw [hrow1];refine .goB 60 ?_;simp;refine .inLoop ?_
 have hva:∀ (r:Ob),(∀ i m,vldO i m r=true)→∀ i m,5≤i→vldH i m [a0,a1,a2,a3,r,o7]=true:=by
  intro r hr i m hi;have h1:=hm.v i m hi;simp only [vldH,Bool.and_eq_true,Bool.and_true] at h1 ⊢;exact ⟨h1.1,h1.2.1,h1.2.2.1,h1.2.2.2.1,hr i m,h1.2.2.2.2⟩
 have k2:=r_step2 (Γ:=Γ) (a0:=a0) (a1:=a1) (a2:=a2) (a3:=a3) (rL:=.row 1 t_int_3 (lits.map eCl) none true false) (o7:=o7) (junk:=junk) g ok (V+ni) hV cls hcl lits.length row1 hr1 hlow1 up (junk.length+9) (by omega) hup
  (hva _ (by intro i m; simp)) hj.v (by
   intro n hn;have h1:=hm.b n hn;have h2:=hj.b n;simp only [belH,Bool.and_eq_true,Bool.and_true] at h1 ⊢
   exact ⟨h1.1,h1.2.1,h1.2.2.1,h1.2.2.2.1,by simp,h1.2.2.2.2,h2⟩) (c:=c) (hc := ?_) g.ands.length 0 (by omega) cls (by simp [clsA]) row1 (rowA_zero _ _).symm
 ·simp [bcell,hrl] at k2 ⊢;exact k2
 rw [hrowF,← hfl];refine .goB 60 ?_;simp;refine .drB 0 ?_;simp (disch:=(first | omega | (simp; omega)));have h6:=hva (.row 1 t_api_Clause_2 ((cls++clsA row1 (V+ni) g.ands 0).map eCl) none true false) (by intro i m; simp) 6 (lits.length+1) (by omega);have h6j:=hj.v 6 (lits.length+1)
 have hlen6:(List.map eCl lits++[eCl rowF]).length=lits.length+1:=by simp
 refine .trans (.clrs [86] _) ?_;simp;refine .resetUT (i:=6) rfl (by simp) (hup 6 _ (by omega)) (by rw [hlen6]; simp at h6 h6j ⊢; simp [h6,h6j]) ?_;refine .goB 60 ?_;simp;refine .inLoop ?_
 have hv3:∀ i m,5≤i→vldH i m [a0,a1,a2,a3,.row 1 t_api_Clause_2 ((cls++clsA row1 (V+ni) g.ands 0).map eCl) none true false,.row 1 t_int_3 ((lits++[rowF]).map eCl) none true false,o7]=true:=by
  intro i m hi;have h1:=hm.v i m hi;simp only [vldH,Bool.and_eq_true,Bool.and_true] at h1 ⊢;exact ⟨h1.1,h1.2.1,h1.2.2.1,h1.2.2.2.1,by simp,by simp,h1.2.2.2.2⟩
 have k3:=r_step3 (Γ:=Γ) (a0:=a0) (a1:=a1) (a2:=a2) (a3:=a3) (rC:=.row 1 t_api_Clause_2 ((cls++clsA row1 (V+ni) g.ands 0).map eCl) none true false) (rL:=.row 1 t_int_3 ((lits++[rowF]).map eCl) none true false) (o7:=o7) (junk:=junk) g ok
  (V+ni+g.ands.length) (cls.length+3*g.ands.length) (lits.length+1) rowF hra up hv3 hj.v (c:=c) (hc := ?_) g.next.length 0 (by omega) [] (by simp [litsR])
 ·simp at k3 ⊢;exact k3
 subst hfin;refine .goB 60 ?_;simp [bcell]
 have hlw:(litsR rowF g.next).length=g.next.length:=by simp
 obtain ⟨gr,hgr,kb⟩:=r_begin (Γ:=Γ) (a0:=a0) (a1:=a1) (a2:=a2) (a3:=a3) (c0:=.int .i64 ↑(V+ni+g.ands.length)) (c1:=.sl 5 0 (cls.length+3*g.ands.length)) (c2:=.sl 6 0 (lits.length+1)) (c4:=.list false g.kn (g.next.map i64)) (c5:=.list false g.ki (g.init.map i64)) (c6:=.list false g.ka (g.ands.map ePr)) (c7:=.list false g.ko (g.outs.map i64)) (c8:=.sl (junk.length+8) 0 rowF.length)
  (t:=.row 1 t_api_Clause_2 ((cls++clsA row1 (V+ni) g.ands 0).map eCl) none true false::.row 1 t_int_3 ((lits++[rowF]).map eCl) none true false::o7::(junk++[.row 1 t_int (rowF.map i64) none true true,.row 1 t_int ((litsR rowF g.next).map i64) none true false])) ni (by omega) (litsR rowF g.next) (by simp; omega) (junk.length+9) (E:=t_int) (sh:=false) (by simp)
 simp [hlw] at kb;simp [hni];refine .rcallM 2 0 kb ?_;simp;refine .resetIT (i:=junk.length+10) (by simp; exact ⟨rfl,rfl,rfl,rfl,rfl⟩) hgr (by simp) (by simp) ?_ ?_
 ·have h1:=hv3 (junk.length+10) (1+(ni+g.next.length)) (by omega);have h2:=hj.v (junk.length+10) (1+(ni+g.next.length))
  have h4:(insRow 0 0 ni (litsR rowF g.next)).length=1+ni+g.next.length:=by rw [insRow_len (by omega),hlw]
  simp [h4] at h1 h2 ⊢;simp [h1,h2,Nat.add_assoc]
 refine .goB 60 ?_;simp
end
theorem _root_.Go.AM.Fins.rcallM {P:Program} (n:Nat) {f:FuncId} {args:List AV} {up:List Fr} {h:List Ob} {v:AV} {h':List Ob} {o:Out} (h1:∀ up,AM.Reach P Γ (.cl f args up h) (.back up v h')) (h2:Fins P Γ (AM.go P Γ 0 n (AM.pop (.back up v h'))) o):Fins P Γ (.cl f args up h) o:=.reach (h1 up) (.reach (.pop _) (.go n h2))
def latB:Nat→List Int→List Int
 | _,[]=>[]
 | v,b::bs=>if b=2 then ((v+1:Nat):Int)::latB (v+1) bs else (2*b - 1)::latB v bs
def cnt2:List Int→Nat
 | []=>0
 | b::bs=>(if b=2 then 1 else 0)+cnt2 bs
theorem latB_len:∀ (v:Nat) (l:List Int),(latB v l).length=l.length
 | _,[]=>rfl
 | v,b::bs=>by rw [latB]; split <;> simp [latB_len _ bs]
theorem low_latB:∀ (v:Nat) (l:List Int) (hv:1≤v),(∀ a∈l,0≤a∧a≤2)→Low (v+cnt2 l) (latB v l)
 | _,[],_,_=>fun x hx=>by simp [latB] at hx
 | v,b::bs,hv,h=>by
  have hb:=h b (List.mem_cons_self ..)
  have hbs:=fun a ha=>h a (List.mem_cons_of_mem _ ha)
  intro x hx;rw [latB] at hx;rw [cnt2]
  split at hx <;> rename_i h2
  ·rw [if_pos h2]
   rcases List.mem_cons.1 hx with rfl | hx
   ·omega
   ·have:=low_latB (v+1) bs (by omega) hbs x hx; omega
  ·rw [if_neg h2]
   rcases List.mem_cons.1 hx with rfl | hx
   ·omega
   ·have:=low_latB v bs hv hbs x hx; omega
structure Bu where
 v:Nat
 cls:List (List Int)
 lits:List (List Int)
 lat:List Int
def Bu.row1 (g:Gr) (b:Bu):List Int:=insRow b.v g.ins.toNat g.ins.toNat b.lat
def Bu.row (g:Gr) (b:Bu):List Int:=rowA (b.row1 g) (b.v+g.ins.toNat) g.ands.length
def Bu.step (g:Gr) (b:Bu):Bu:=⟨b.v+g.ins.toNat+g.ands.length,b.cls++clsA (b.row1 g) (b.v+g.ins.toNat) g.ands 0,b.lits++[b.row g],litsR (b.row g) g.next⟩
def Bu.steps (g:Gr):Nat→Bu→Bu
 | 0,b=>b
 | n+1,b=>Bu.steps g n (b.step g)
def bu0 (begin:List Int):Bu:=⟨1+cnt2 begin,[[1]],[],latB 1 begin⟩
def Bu.last (g:Gr) (b:Bu):List Int:=insRow 0 0 g.ins.toNat b.lat++List.replicate g.ands.length 0
abbrev mkR (c:List Int):RowI:=⟨false,1,c,.self⟩
def Bu.cn (g:Gr) (b:Bu):Cn:=⟨b.v,b.cls.map mkR,(b.lits++[b.last g]).map mkR,1,1,.self,.self⟩
def cn0:Cn:=⟨0,[],[],0,0,.nil,.nil⟩
def unN (g:Gr) (begin:List Int) (k:Int):Cn:=if canC g begin k=0 then (Bu.steps g k.toNat (bu0 begin)).cn g else cn0
section
variable {a0 a1 a2 a3 rC rL : Ob} {c1 c2 c3 c4 c5 c6 c7 c8 : AV}
set_option maxRecDepth 8000 in
theorem r_un8 (begin:List Int) {kb:Nat} (hb:Kd 1 kb begin) (hl:begin.length<2^40) (hw:∀ a∈begin,0≤a∧a≤2) (k:Int) (B:Nat) (hB:B<2^40)
  (hva:∀ m,vldH 7 m [a0,a1,a2,a3,.cells [.undef,c1,c2,c3,c4,c5,c6,c7,c8],rC,rL]=true) {c:Cfg}
  (full:List Int) (hc:AM.Reach Try.prog Γ (ydn (.int .i64 k) (.ptr 0 0) (.ptr 1 0) (.ptr 4 0) (.sl 7 0 begin.length) [a0,a1,a2,a3,.cells [.int .i64 B,c1,c2,c3,c4,c5,c6,c7,c8],rC,rL,.row 1 t_int (full.map i64) none true false]) c) :
  ∀ n i v:Nat,i+n=begin.length→v+cnt2 (begin.drop i)=B→∀ acc,acc.length=i→acc++latB v (begin.drop i)=full →
   AM.Reach Try.prog Γ (ydm (.int .i64 k) (.ptr 0 0) (.ptr 1 0) (.ptr 4 0) (.sl 7 0 acc.length) (.list false kb (begin.map i64)) (.int .i64 begin.length) (.int .i64 i) [a0,a1,a2,a3,.cells [.int .i64 v,c1,c2,c3,c4,c5,c6,c7,c8],rC,rL,.row 1 t_int (acc.map i64) none true false]) c:=by
 intro n
 induction n with
 | zero =>
  intro i v hi hv acc ha hf
  obtain rfl:i=begin.length:=by omega
  rw [List.drop_length] at hv hf;simp [cnt2,latB] at hv hf;subst hv hf;refine .trans ?_ hc;refine .goS 60 ?_;simp [ha];exact .exit rfl rfl
 | succ n ih =>
  intro i v hi hv acc ha hf
  have q1:i<begin.length:=by omega
  have q2:=eq_true (hb.of q1);obtain ⟨b1,b2⟩:=hw begin[i] (List.getElem_mem q1);rw [List.drop_eq_getElem_cons q1] at hv hf;rw [cnt2] at hv;rw [latB] at hf;refine .goS 60 ?_
  by_cases h2:begin[i]=2
  ·rw [if_pos h2] at hv hf;have hh:=ih (i+1) (v+1) (by omega) (by omega) (acc++[((v+1:Nat):Int)]) (by simp [ha]) (by simpa using hf);simp [q1,q2,h2];refine .rcallM 1 60 (r_fresh v (by omega)) ?_;simp (disch:=(first | omega | (simp; omega)));refine .reLoop ?_;simp
   have hlen:(List.map i64 acc++[AV.int .i64 ((v:Int)+1)]).length=acc.length+1:=by simp
   refine .resetTo (i:=7) rfl (by simp) (by simp) (by rw [hlen]; have:=hva (acc.length+1); simp at this ⊢; simp [this]) ?_;simp at hh ⊢;exact hh
  ·rw [if_neg h2] at hv hf;have hh:=ih (i+1) v (by omega) (by omega) (acc++[2*begin[i] - 1]) (by simp [ha]) (by simpa using hf);simp (disch:=(first | omega | (simp; omega))) [q1,q2,h2];refine .reLoop ?_;simp
   have hlen:(List.map i64 acc++[AV.int .i64 (2*begin[i] - 1)]).length=acc.length+1:=by simp
   refine .resetTo (i:=7) rfl (by simp) (by simp) (by rw [hlen]; have:=hva (acc.length+1); simp at this ⊢; simp [this]) ?_;simp at hh ⊢;exact hh
end
structure Bu.Ok (g:Gr) (b:Bu) (n:Nat):Prop where
 v1:1≤b.v
 lat:b.lat.length=g.next.length
 low:Low b.v b.lat
 hv:b.v+n*(g.ins.toNat+g.ands.length)<2^30
 hc:b.cls.length+n*(3*g.ands.length)<2^20
 hl:b.lits.length+n<2^20
theorem Bu.row1_len {g:Gr} (ok:g.Ok) {b:Bu} (h:b.lat.length=g.next.length):(b.row1 g).length=g.first:=by
 have:=ok.ins
 unfold Bu.row1; rw [insRow_len (by omega),h]; unfold Gr.first; omega
theorem Bu.Ok.step {g:Gr} (ok:g.Ok) {b:Bu} {n:Nat} (h:b.Ok g (n+1)):(b.step g).Ok g n:=by
 have hv:=h.hv;have hc:=h.hc;have hl:=h.hl;rw [Nat.succ_mul] at hv hc;have hr1:=Bu.row1_len ok h.lat;refine ⟨?_,?_,?_,?_,?_,?_⟩
 ·have:=h.v1; simp only [Bu.step]; omega
 ·simp [Bu.step]
 ·simp only [Bu.step];refine low_litsR ?_ (by have:n*(g.ins.toNat+g.ands.length)≥0:=Nat.zero_le _; omega) ?_
  ·exact low_rowA (low_insRow h.low h.v1) _
  ·intro a ha;have h1:=ok.next a ha
   have h2:(b.row g).length=g.all:=by unfold Bu.row; rw [rowA_len,hr1]; rfl
   rw [h2];have h3:g.lits=2*g.all:=rfl;omega
 ·simp only [Bu.step]; omega
 ·simp only [Bu.step,List.length_append,clsA_len]; omega
 ·simp only [Bu.step,List.length_append,List.length_cons,List.length_nil]; omega
theorem Bu.Ok.steps {g:Gr} (ok:g.Ok):∀ {n:Nat} {b:Bu},b.Ok g n→(Bu.steps g n b).Ok g 0
 | 0,_,h=>h
 | n+1,b,h=>Bu.Ok.steps ok (n:=n) (b:=b.step g) (Bu.Ok.step ok h)
abbrev hB (a0 a1 a2 a3 o7:Ob) (g:Gr) (b:Bu) (junk:List Ob):List Ob :=
 a0::a1::a2::a3::bcell g b.v b.cls.length b.lits.length (.sl (junk.length+8) 0 (1+g.ins.toNat+b.lat.length))::.row 1 t_api_Clause_2 (b.cls.map eCl) none true false::.row 1 t_int_3 (b.lits.map eCl) none true false::o7::(junk++[.row 1 t_int ((insRow 0 0 g.ins.toNat b.lat).map i64) none true false])
section
variable {a0 a1 a2 a3 o7 : Ob}
set_option maxRecDepth 8000 in
theorem r_un2 (g:Gr) (ok:g.Ok) (hm:Mem5 [a0,a1,a2,a3,o7]) (k:Nat) (hk:k<2^40) :
  ∀ n i:Nat,i+n=k→∀ (b:Bu) (junk:List Ob),b.Ok g n→Junk junk→∃ junk',Junk junk' ∧
   AM.Reach Try.prog Γ (ydj (.ptr 0 0) (.ptr 1 0) (.ptr 4 0) (.int .i64 k) (.int .i64 i) (hB a0 a1 a2 a3 o7 g b junk))
    (ydk (.ptr 0 0) (.ptr 1 0) (.ptr 4 0) (hB a0 a1 a2 a3 o7 g (Bu.steps g n b) junk')):=by
 intro n
 induction n with
 | zero =>
  intro i hi b junk hb hj
  obtain rfl:i=k:=by omega
  refine ⟨junk,hj,?_⟩;refine .goS 60 ?_;simp [Bu.steps];exact .exit rfl rfl
 | succ n ih =>
  intro i hi b junk hb hj;have o1:=ok.ins;have hv:=hb.hv;have hc:=hb.hc;have hl:=hb.hl;rw [Nat.succ_mul] at hv hc
  have hni:g.ins=(g.ins.toNat:Nat):=by omega
  have hj2:Junk (junk++[.row 1 t_int ((b.row g).map i64) none true true,.row 1 t_int ((litsR (b.row g) g.next).map i64) none true false]):=by
   refine ⟨fun i m => ?_,fun n => ?_⟩
   ·have:=hj.v i m; simp [this]
   ·have:=hj.b n; simp [belH_append,this]
  obtain ⟨junk',hj',hh⟩:=ih (i+1) (by omega) (b.step g) _ (hb.step ok) hj2;refine ⟨junk',hj',?_⟩
  have q1:(i:Int)<k:=by omega
  refine .goS 60 ?_;simp [q1]
  have key:=fun up hup=>r_step_aux (Γ:=Γ) (a0:=a0) (a1:=a1) (a2:=a2) (a3:=a3) (o7:=o7) g ok g.ins.toNat hni b.v hb.v1 (by omega) b.cls b.lits (by omega) (by omega) b.lat hb.lat hb.low hj hm up hup rfl
  simp at key;refine .trans (key _ ?_) ?_
  ·intro i m hi;simp
  refine .trans (.pop _) ?_;refine .goS 60 ?_;simp (disch:=omega);refine .reLoop ?_;rw [show Bu.steps g (n+1) b=Bu.steps g n (b.step g) from rfl];generalize Bu.steps g n (b.step g)=b' at *;simp [clsA_len,hb.lat,Bu.row,Bu.row1,Bu.step,hB,Nat.add_assoc] at hh ⊢;exact hh
end
theorem canC_ok {g:Gr} {begin:List Int} {k:Int} (h:canC g begin k=0):g.check=0∧begin.length=g.next.length∧(∀ a∈begin,0≤a∧a≤2)∧0≤k∧k≤40∧manyC g begin k≤20000:=by
 unfold canC at h
 split at h
 ·exact absurd h ‹_›
 split at h
 ·simp at h
 split at h
 ·simp at h
 rename_i h1 h2 h3;rw [not_or] at h2;rw [not_or,not_or] at h3;have h4:=Decidable.not_not.1 h2.1;refine ⟨Decidable.not_not.1 h1,h4,fun a ha => ?_,by omega,by omega,by omega⟩;have h5:=anyB_no.1 (Bool.eq_false_iff.2 h2.2) a ha;simp [iniB] at h5;omega
theorem cnt2_count:∀ l:List Int,cnt2 l=l.count 2
 | []=>rfl
 | b::bs=>by rw [cnt2,cnt2_count bs,List.count_cons]; split <;> simp_all <;> omega
set_option maxRecDepth 8000 in
theorem p_cnf_Unroll (g:Gr) (hf:g.few) (begin:List Int) {kb:Nat} (hb:Kd 1 kb begin) (hl:begin.length<2^40) (k:Int) :
  PureCon Try.prog Γ n_cnf_Unroll [eGr g,.list false kb (begin.map i64),.int .i64 k] (.tup [eCn (unN g begin k),.int .i64 (canC g begin k)]):=by
 refine .run 60 c_cnf_Unroll (by simp) ?_;simp;refine .call 60 (by simp) (p_cnf_can g hf begin hb hl k) ?_;simp;unfold unN
 by_cases hc:canC g begin k=0
 ·simp [hc]
  have k0:=r_fresh (Γ:=Γ) (a0:=.cells [.int .i64 g.ins,.list false g.kn (g.next.map i64),.list false g.ki (g.init.map i64),.list false g.ka (g.ands.map ePr),.list false g.ko (g.outs.map i64)])
   (a1:=.cells [.int .i64 0,.sl 2 0 0,.sl 3 0 0]) (a2:=.row 1 t_api_Clause_2 [] none true false) (a3:=.row 1 t_int_3 [] none true false)
   (c1:=.list true 0 []) (c2:=.list true 0 []) (c3:=.int .i64 g.ins) (c4:=.list false g.kn (g.next.map i64)) (c5:=.list false g.ki (g.init.map i64)) (c6:=.list false g.ka (g.ands.map ePr)) (c7:=.list false g.ko (g.outs.map i64)) (c8:=.list true 0 []) (t:=[]) 0 (by omega)
  simp at k0;refine .rcallM 0 k0 ?_;simp;refine .nilcell 4 1 1 t_api_Clause_2 rfl rfl (by omega) ?_;simp;refine .nilcell 4 2 1 t_int_3 rfl rfl (by omega) ?_;simp;refine .go 60 ?_;simp
  have k1:=r_add (Γ:=Γ) (a0:=.cells [.int .i64 g.ins,.list false g.kn (g.next.map i64),.list false g.ki (g.init.map i64),.list false g.ka (g.ands.map ePr),.list false g.ko (g.outs.map i64)])
   (a1:=.cells [.int .i64 0,.sl 2 0 0,.sl 3 0 0]) (a2:=.row 1 t_api_Clause_2 [] none true false) (a3:=.row 1 t_int_3 [] none true false)
   (c0:=.int .i64 1) (c2:=.sl 6 0 0) (c3:=.int .i64 g.ins) (c4:=.list false g.kn (g.next.map i64)) (c5:=.list false g.ki (g.init.map i64)) (c6:=.list false g.ka (g.ands.map ePr)) (c7:=.list false g.ko (g.outs.map i64)) (c8:=.list true 0 []) (t:=[.row 1 t_int_3 [] none true false]) [1] [] 0 rfl (by omega)
  simp at k1;refine .rcallM 0 k1 ?_;simp;refine .resetI (i:=5) rfl (.inr rfl) (by simp) (by simp) (by simp) ?_;refine .go 60 ?_;simp;refine .inLoop ?_;simp;obtain ⟨h1,h2,h3,h4,h5,h6⟩:=canC_ok hc;have ok:=Gr.ok_of h1;have o1:=ok.ins;have o3:=ok.sum
  have k8:=r_un8 (Γ:=Γ) (a0:=.cells [.int .i64 g.ins,.list false g.kn (g.next.map i64),.list false g.ki (g.init.map i64),.list false g.ka (g.ands.map ePr),.list false g.ko (g.outs.map i64)])
   (a1:=.cells [.int .i64 0,.sl 2 0 0,.sl 3 0 0]) (a2:=.row 1 t_api_Clause_2 [] none true false) (a3:=.row 1 t_int_3 [] none true false) (rC:=.row 1 t_api_Clause_2 [eCl [1]] none true false) (rL:=.row 1 t_int_3 [] none true false)
   (c1:=.sl 5 0 1) (c2:=.sl 6 0 0) (c3:=.int .i64 g.ins) (c4:=.list false g.kn (g.next.map i64)) (c5:=.list false g.ki (g.init.map i64)) (c6:=.list false g.ka (g.ands.map ePr)) (c7:=.list false g.ko (g.outs.map i64)) (c8:=.list true 0 []) begin hb hl h3 k (1+cnt2 begin) (by rw [cnt2_count]; have:=List.count_le_length (a:=(2:Int)) (l:=begin); omega) (by intro m; simp) _ (.refl _) begin.length 0 1 (by omega) (by simp) [] rfl (by rfl)
  simp at k8;refine .reach k8 ?_;refine .go 60 ?_;simp
  obtain ⟨gr,hgr,kb⟩:=r_begin (Γ:=Γ) (a0:=.cells [.int .i64 g.ins,.list false g.kn (g.next.map i64),.list false g.ki (g.init.map i64),.list false g.ka (g.ands.map ePr),.list false g.ko (g.outs.map i64)])
   (a1:=.cells [.int .i64 0,.sl 2 0 0,.sl 3 0 0]) (a2:=.row 1 t_api_Clause_2 [] none true false) (a3:=.row 1 t_int_3 [] none true false)
   (c0:=.int .i64 (1+cnt2 begin:Nat)) (c1:=.sl 5 0 1) (c2:=.sl 6 0 0) (c4:=.list false g.kn (g.next.map i64)) (c5:=.list false g.ki (g.init.map i64)) (c6:=.list false g.ka (g.ands.map ePr)) (c7:=.list false g.ko (g.outs.map i64)) (c8:=.list true 0 [])
   (t:=[.row 1 t_api_Clause_2 [eCl [1]] none true false,.row 1 t_int_3 [] none true false,.row 1 t_int ((latB 1 begin).map i64) none true false]) g.ins.toNat (by omega) (latB 1 begin) (by rw [latB_len]; omega) 7 (E:=t_int) (sh:=false) (by simp)
  have hni:((g.ins.toNat:Nat):Int)=g.ins:=by omega
  simp [latB_len,hni] at kb;refine .rcallM 0 kb ?_;simp;refine .resetI (i:=8) rfl hgr (by simp) (by simp) (by have h4:=insRow_len (V:=0) (i:=0) (ins:=g.ins.toNat) (lat:=latB 1 begin) (by omega); rw [latB_len] at h4; simp [h4]) ?_;refine .go 60 ?_;simp;refine .inLoop ?_;simp;obtain ⟨kk,rfl⟩:=Int.eq_ofNat_of_zero_le h4
  have hbu:(bu0 begin).Ok g kk:=by
   refine ⟨?_,?_,?_,?_,?_,?_⟩
   ·simp [bu0]
   ·simp [bu0,latB_len,h2]
   ·exact low_latB 1 begin (by omega) h3
   ·unfold manyC at h6;have hcc:=cnt2_count begin
    have e1:((g.ins.toNat+g.ands.length:Nat):Int)=g.ins+g.ands.length:=by omega
    rw [← e1,← Int.natCast_mul] at h6;simp only [bu0];omega
   ·simp only [bu0,List.length_cons,List.length_nil];have e1:kk*(3*g.ands.length)≤40*(3*4000):=Nat.mul_le_mul (by omega) (by omega);omega
   ·simp [bu0]; omega
  obtain ⟨junk',hj',k2⟩:=r_un2 (Γ:=Γ) (a0:=.cells [.int .i64 g.ins,.list false g.kn (g.next.map i64),.list false g.ki (g.init.map i64),.list false g.ka (g.ands.map ePr),.list false g.ko (g.outs.map i64)])
   (a1:=.cells [.int .i64 0,.sl 2 0 0,.sl 3 0 0]) (a2:=.row 1 t_api_Clause_2 [] none true false) (a3:=.row 1 t_int_3 [] none true false) (o7:=.row 1 t_int ((latB 1 begin).map i64) none true false)
   g ok ⟨by intro i m hi; simp; omega,by intro n hn; simp; omega⟩ kk (by omega) kk 0 (by omega) (bu0 begin) [] hbu ⟨by intro i m; rfl,by intro n; rfl⟩
  have hok:=Bu.Ok.steps ok hbu;have hbl:(bu0 begin).lat.length=begin.length:=latB_len _ _;have hb0:(bu0 begin).v=1+cnt2 begin∧(bu0 begin).cls=[[1]]∧(bu0 begin).lits=[]∧(bu0 begin).lat=latB 1 begin:=⟨rfl,rfl,rfl,rfl⟩;rw [show (kk:Int).toNat=kk from rfl];generalize Bu.steps g kk (bu0 begin)=b at *;simp [hb0,hbl,latB_len,h2,hB,← Nat.add_assoc] at k2 ⊢;refine .reach k2 ?_;unfold Bu.cn;have hl:=hok.hl;have hlat:=hok.lat;have hbl:(insRow 0 0 g.ins.toNat b.lat).length=1+g.ins.toNat+b.lat.length:=insRow_len (by omega);refine .go 60 ?_;simp;have hgz:∃ z,(g.ands=[])=z∧(z=True∨z=False):=⟨_,rfl,by by_cases hz:g.ands=[] <;> simp [hz]⟩;obtain ⟨z,hz,hzz⟩:=hgz
  have hrep:List.map i64 (insRow 0 0 g.ins.toNat b.lat)++List.replicate g.ands.length (AV.int .i64 0)=List.map i64 (b.last g):=by simp [Bu.last]
  have hlast:1+g.ins.toNat+b.lat.length+g.ands.length=(b.last g).length:=by simp [Bu.last,hbl]
  rcases hzz with rfl | rfl
  ·refine .dr 0 ?_;simp (disch:=(first | omega | (simp; omega))) [hbl,hz,hrep,hlast];refine .go 60 ?_;simp (disch:=(first | omega | (simp; omega)));exact .back (by simp; rw [List.take_of_length_le (by simp)]; rfl)
  ·refine .dr 0 ?_;simp (disch:=(first | omega | (simp; omega))) [hbl,hz,hrep,hlast];refine .go 60 ?_;simp (disch:=(first | omega | (simp; omega)));exact .back (by simp; rw [List.take_of_length_le (by simp)]; rfl)
 ·simp [hc];exact .back (by simp [cn0])
structure RowB where
 f:Bool
 k:Nat
 l:List Bool
 hk:Kd 1 k l
abbrev eRowB (r:RowB):AV:=.list r.f r.k (r.l.map .bool)
def begV:List Int→List Bool→Option (List Bool)
 | b::bs,s::ss=>if b=2 then (begV bs ss).map (s :: ·) else if decide (b=1)=s then begV bs ss else none
 | _,_=>some []
theorem begV_len:∀ {b:List Int} {s:List Bool} {l:List Bool},begV b s=some l→l.length≤s.length
 | b::bs,s::ss,l,h=>by
  rw [begV] at h
  split at h
  ·cases hr:begV bs ss with
   | none=>simp [hr] at h
   | some l' =>
    simp [hr] at h;subst h;have:=begV_len hr
    simp; omega
  ·split at h
   ·have:=begV_len h; simp; omega
   ·simp at h
 | [],_,l,h=>by simp [begV] at h; subst h; simp
 | _::_,[],l,h=>by simp [begV] at h; subst h; simp
def stepV (g:Gr) (state:List Bool) (x:List Bool) (out:List Bool):List Bool:=out++(x++(g.vals state x).drop g.first)
def runV (g:Gr):List Bool→List (List Bool)→List Bool→List Bool×Int
 | _,[],out=>(out,0)
 | state,x::xs,out=>if g.valuesE state x=0 then runV g (g.stepN state x) xs (stepV g state x out) else ([],g.valuesE state x)
def valC (g:Gr) (begin:List Int) (state:List Bool) (seq:List (List Bool)):List Bool×Int :=
 if canC g begin seq.length≠0 then ([],canC g begin seq.length)
 else if state.length≠g.next.length then ([],11)
 else match begV begin state with
  | none=>([],11)
  | some l=>runV g state seq (true::l)
abbrev eOut (p:List Bool×Int):AV:=.tup [.own 1 t_bool (p.1.map .bool),.int .i64 p.2]
abbrev boxG (g:Gr):Ob:=.cells [.int .i64 g.ins,.list false g.kn (g.next.map i64),.list false g.ki (g.init.map i64),.list false g.ka (g.ands.map ePr),.list false g.ko (g.outs.map i64)]
set_option maxRecDepth 8000 in
theorem f_val13 (g:Gr) (begin:List Int) {kb:Nat} (hb:Kd 1 kb begin) (state:List Bool) {ks:Nat} (hs:Kd 1 ks state) (hl:state.length<2^40) (hbs:begin.length=state.length) (sq:AV) (hsq:∀ m,vld 2 m sq=true) {o:Out} :
  ∀ n i:Nat,i+n=state.length→∀ acc:List Bool,acc.length≤i+1 →
   (match begV (begin.drop i) (state.drop i) with
    | none=>o=.ret (eOut ([],11))
    | some l=>Fins Try.prog Γ (yeG (.list false ks (state.map .bool)) sq (.ptr 0 0) (.sl 2 0 (acc++l).length) [boxG g,.row 1 t_bool [] none true false,.row 1 t_bool ((acc++l).map .bool) none true false]) o) →
   Fins Try.prog Γ (yeF (.list false kb (begin.map i64)) (.list false ks (state.map .bool)) sq (.ptr 0 0) (.sl 2 0 acc.length) (.list false ks (state.map .bool)) (.int .i64 state.length) (.int .i64 i)
    [boxG g,.row 1 t_bool [] none true false,.row 1 t_bool (acc.map .bool) none true false]) o:=by
 intro n
 induction n with
 | zero =>
  intro i hi acc ha hc
  obtain rfl:i=state.length:=by omega
  rw [List.drop_length,← hbs,List.drop_length] at hc;simp [begV] at hc;refine .goS 60 ?_;simp;refine .reach (.exit rfl rfl) ?_;exact hc
 | succ n ih =>
  intro i hi acc ha hc
  have q1:i<state.length:=by omega
  have q1b:i<begin.length:=by omega
  have q2:=eq_true (hs.of q1);have q2b:=eq_true (hb.of q1b);rw [List.drop_eq_getElem_cons q1,List.drop_eq_getElem_cons q1b,begV] at hc;refine .go 60 ?_
  by_cases h2:begin[i]=2
  ·rw [if_pos h2] at hc
   have hh:=ih (i+1) (by omega) (acc++[state[i]]) (by simp; omega) (by
    cases hr:begV (begin.drop (i+1)) (state.drop (i+1)) with
    | none=>rw [hr] at hc; simpa using hc
    | some l=>rw [hr] at hc; simpa using hc)
   simp (disch:=(first | omega | (simp; omega))) [q1,q1b,q2,q2b,h2];refine .reLoop ?_;simp
   have hlen:(List.map AV.bool acc++[AV.bool state[i]]).length=acc.length+1:=by simp
   refine .reset (i:=2) rfl (by simp) (by simp [hsq]) (by rw [hlen]; simp [hsq]) ?_;simp at hh ⊢;exact hh
  ·rw [if_neg h2] at hc
   by_cases h3:decide (begin[i]=1)=state[i]
   ·rw [if_pos h3] at hc;have hh:=ih (i+1) (by omega) acc (by omega) hc;simp (disch:=(first | omega | (simp; omega))) [q1,q1b,q2,q2b,h2,h3];refine .reLoop ?_;simp at hh ⊢;exact hh
   ·rw [if_neg h3] at hc;simp at hc;subst hc;simp (disch:=(first | omega | (simp; omega))) [q1,q1b,q2,q2b,h2,h3];exact .back (by simp)
theorem modify_lenk {α} (h l:List α) (k:Nat) (f:α→α):(h++l).modify (h.length+k) f=h++l.modify k f:=by
 induction h with
 | nil=>simp
 | cons a h ih =>
  have:(a::h).length+k=(h.length+k)+1:=by simp; omega
  rw [this]; simpa [List.modify_succ_cons] using ih
attribute [simp] modify_lenk
theorem Gr.stepN_len {g:Gr} {state x:List Bool} (h:g.valuesE state x=0):(g.stepN state x).length=g.next.length:=by
 unfold Gr.stepN; rw [if_pos h]; simp
theorem stepV_len {g:Gr} {state x out:List Bool} (h:g.valuesE state x=0):(stepV g state x out).length≤out.length+8000:=by
 obtain ⟨ok,d1,d2⟩:=Gr.ok_E h;have o1:=ok.ins;have o3:=ok.sum;simp [stepV,Gr.vals_len,Gr.first];omega
set_option maxRecDepth 8000 in
theorem f_val1 (g:Gr) (hf:g.few) (seq:List RowB) {kq:Nat} (hk:Kd 1 kq seq) (hl:seq.length<2^20) (hrow:∀ r∈seq,r.l.length<2^30) :
  ∀ n i:Nat,i+n=seq.length→∀ (state out:List Bool) (junk:List Ob) (z:Ob),state.length<2^40→1≤out.length→out.length+n*8000<2^39 →
   Fins Try.prog Γ (yeD (.sl (junk.length+4) 0 state.length) (.ptr 0 0) (.sl (junk.length+2) 0 out.length) (.list false kq (seq.map eRowB)) (.int .i64 seq.length) (.int .i64 i) (boxG g::.row 1 t_bool [] none true false::(junk++[.row 1 t_bool (out.map .bool) none true false,z,.row 1 t_bool (state.map .bool) none true false])))
    (.ret (eOut (runV g state ((seq.drop i).map RowB.l) out))):=by
 intro n
 induction n with
 | zero =>
  intro i hi state out junk z hs ho1 ho
  obtain rfl:i=seq.length:=by omega
  rw [List.drop_length];refine .go 60 ?_;simp [runV];exact .back (by simp)
 | succ n ih =>
  intro i hi state out junk z hs ho1 ho;rw [Nat.succ_mul] at ho
  have q1:i<seq.length:=by omega
  have q2:=eq_true (hk.of q1);rw [List.drop_eq_getElem_cons q1,List.map_cons,runV];obtain ⟨hx1,hx2⟩:=And.intro (hrow _ (List.getElem_mem q1)) seq[i].hk;refine .go 60 ?_;simp [q1,q2];refine .call 60 (by simp) (p_aig_Values g hf state seq[i].l (ks:=1) (ki:=seq[i].k) .self hx2 (by omega) (by omega)) ?_
  by_cases hE:g.valuesE state seq[i].l=0
  ·obtain ⟨ok,d1,d2⟩:=Gr.ok_E hE;obtain ⟨o1,o2⟩:=ok.ins;have o3:=ok.sum;have hni:g.ins=(seq[i].l.length:Nat):=d2.symm;have hvl:=g.vals_len state seq[i].l
   have hfst:1+seq[i].l.length+state.length=g.first:=by unfold Gr.first; omega
   rw [if_pos hE]
   have hsl:1+g.ins+(state.length:Int)=(g.first:Nat):=by omega
   have hle:=eq_true (show g.first≤(g.vals state seq[i].l).length by omega);have htk:List.take ((g.vals state seq[i].l).length - g.first) (List.map AV.bool (List.drop g.first (g.vals state seq[i].l)))=List.map AV.bool (List.drop g.first (g.vals state seq[i].l)):=List.take_of_length_le (by simp);simp (disch:=omega) [hE,Gr.values,hsl,hle,← List.map_drop,htk]
   have hcat:catB [(1,out),(seq[i].k,seq[i].l),(1,(g.vals state seq[i].l).drop g.first)]=stepV g state seq[i].l out:=by simp [catB,stepV]
   have hsv:=stepV_len (out:=out) hE
   have hso:out.length≤(stepV g state seq[i].l out).length:=by simp [stepV]
   have kc:=p_slices_Concat_bool_bool (Γ:=Γ) [(1,out),(seq[i].k,seq[i].l),(1,(g.vals state seq[i].l).drop g.first)] (by simp; exact ⟨.self,hx2,.self⟩) (by simp) (by rw [hcat]; omega) (by rw [hcat]; omega);rw [hcat] at kc;refine .call 60 (by simp) kc ?_;simp;refine .call 60 (by simp) (p_aig_Step g hf state seq[i].l (ks:=1) (ki:=seq[i].k) .self hx2 (by omega) (by omega)) ?_;simp (disch:=omega);refine .reLoop ?_;have hsn:=Gr.stepN_len hE;have hh:=ih (i+1) (by omega) (g.stepN state seq[i].l) (stepV g state seq[i].l out) (junk++[.row 1 t_bool (out.map .bool) none true true,z,.row 1 t_bool (state.map .bool) none true false,.row 1 t_bool ((g.vals state seq[i].l).map .bool) none true true]) (.row 1 t_bool ((g.stepO state seq[i].l).map .bool) none true false) (by omega) (by omega) (by omega);simp at hh ⊢;exact hh
  ·rw [if_neg hE];simp [hE,Gr.values];exact .back (by simp)
set_option maxRecDepth 8000 in
theorem f_val0 (g:Gr) (hf:g.few) (seq:List RowB) {kq:Nat} (hk:Kd 1 kq seq) (hl:seq.length<2^20) (hrow:∀ r∈seq,r.l.length<2^30)
  (state out:List Bool) {ks:Nat} (hks:Kd 1 ks state) (hs:state.length<2^40) (ho1:1≤out.length) (ho:out.length+seq.length*8000<2^39) :
   Fins Try.prog Γ (yeD (.list false ks (state.map .bool)) (.ptr 0 0) (.sl 2 0 out.length) (.list false kq (seq.map eRowB)) (.int .i64 seq.length) (.int .i64 (0:Nat)) [boxG g,.row 1 t_bool [] none true false,.row 1 t_bool (out.map .bool) none true false])
    (.ret (eOut (runV g state ((seq.drop 0).map RowB.l) out))):=by
 by_cases q0:seq.length=0
 ·have:=List.length_eq_zero_iff.1 q0;subst this;refine .go 60 ?_;simp [runV];exact .back (by simp)
 ·have hl0:0<seq.length:=by omega
  have q1:0<seq.length:=by omega
  have q2:=eq_true (hk.of q1);rw [List.drop_eq_getElem_cons q1,List.map_cons,runV];obtain ⟨hx1,hx2⟩:=And.intro (hrow _ (List.getElem_mem q1)) seq[0].hk;refine .go 60 ?_;simp [q1,q2];refine .call 60 (by simp) (p_aig_Values g hf state seq[0].l (ks:=ks) (ki:=seq[0].k) hks hx2 (by omega) (by omega)) ?_
  by_cases hE:g.valuesE state seq[0].l=0
  ·obtain ⟨ok,d1,d2⟩:=Gr.ok_E hE;obtain ⟨o1,o2⟩:=ok.ins;have o3:=ok.sum;have hni:g.ins=(seq[0].l.length:Nat):=d2.symm;have hvl:=g.vals_len state seq[0].l
   have hfst:1+seq[0].l.length+state.length=g.first:=by unfold Gr.first; omega
   rw [if_pos hE]
   have hsl:1+g.ins+(state.length:Int)=(g.first:Nat):=by omega
   have hle:=eq_true (show g.first≤(g.vals state seq[0].l).length by omega);have htk:List.take ((g.vals state seq[0].l).length - g.first) (List.map AV.bool (List.drop g.first (g.vals state seq[0].l)))=List.map AV.bool (List.drop g.first (g.vals state seq[0].l)):=List.take_of_length_le (by simp);simp (disch:=omega) [hE,Gr.values,hsl,hle,← List.map_drop,htk]
   have hcat:catB [(1,out),(seq[0].k,seq[0].l),(1,(g.vals state seq[0].l).drop g.first)]=stepV g state seq[0].l out:=by simp [catB,stepV]
   have hsv:=stepV_len (out:=out) hE
   have hso:out.length≤(stepV g state seq[0].l out).length:=by simp [stepV]
   have kc:=p_slices_Concat_bool_bool (Γ:=Γ) [(1,out),(seq[0].k,seq[0].l),(1,(g.vals state seq[0].l).drop g.first)] (by simp; exact ⟨.self,hx2,.self⟩) (by simp) (by rw [hcat]; omega) (by rw [hcat]; omega);rw [hcat] at kc;refine .call 60 (by simp) kc ?_;simp;refine .call 60 (by simp) (p_aig_Step g hf state seq[0].l (ks:=ks) (ki:=seq[0].k) hks hx2 (by omega) (by omega)) ?_;simp (disch:=omega);refine .reLoop ?_;have hsn:=Gr.stepN_len hE;have hh:=f_val1 (Γ:=Γ) g hf seq hk hl hrow (seq.length - 1) 1 (by omega) (g.stepN state seq[0].l) (stepV g state seq[0].l out) ([.row 1 t_bool (out.map .bool) none true true,.row 1 t_bool ((g.vals state seq[0].l).map .bool) none true true]) (.row 1 t_bool ((g.stepO state seq[0].l).map .bool) none true false) (by omega) (by omega) (by omega);simp at hh ⊢;exact hh
  ·rw [if_neg hE];simp [hE,Gr.values];exact .back (by simp)
set_option maxRecDepth 8000 in
theorem p_cnf_Values (g:Gr) (hf:g.few) (begin:List Int) {kb:Nat} (hb:Kd 1 kb begin) (hl:begin.length<2^40) (state:List Bool) {ks:Nat} (hs:Kd 1 ks state) (hls:state.length<2^40)
  (seq:List RowB) {kq:Nat} (hk:Kd 1 kq seq) (hq:seq.length<2^40) (hrow:∀ r∈seq,r.l.length<2^30) :
  PureCon Try.prog Γ n_cnf_Values [eGr g,.list false kb (begin.map i64),.list false ks (state.map .bool),.list false kq (seq.map eRowB)] (eOut (valC g begin state (seq.map RowB.l))):=by
 refine .run 60 c_cnf_Values (by simp) ?_;simp
 by_cases hc:canC g begin seq.length=0
 ·obtain ⟨h1,h2,h3,h4,h5,h6⟩:=canC_ok hc;have ok:=Gr.ok_of h1;have o1:=ok.ins;have o3:=ok.sum
  by_cases hn:state.length=g.next.length
  ·have e:valC g begin state (seq.map RowB.l)=(match begV begin state with
    | none=>([],11)
    | some l=>runV g state (seq.map RowB.l) (true::l)):=by simp only [valC,List.length_map,hc,hn,ne_eq,not_true,if_false]
   rw [e]
   have hnb:(state.length:Int)=begin.length:=by omega
   refine .call 23 (by simp) (p_cnf_can g hf begin hb hl seq.length) ?_;simp [hc,hnb];refine .litRow 60 t_bool (es:=[.bool true]) (by simp) (by simp) ?_;simp;refine .inLoop ?_
   have h13:=f_val13 (Γ:=Γ) g begin hb state hs hls (by omega) (.list false kq (seq.map eRowB)) (by intro m; simp) (o:=.ret (eOut (match begV begin state with
    | none=>([],11)
    | some l=>runV g state (seq.map RowB.l) (true::l)))) state.length 0 (by omega) [true] (by simp) (by
     rw [List.drop_zero,List.drop_zero]
     cases hbv:begV begin state with
     | none=>rfl
     | some l =>
      have hll:=begV_len hbv;have h0:=f_val0 (Γ:=Γ) g hf seq hk (by omega) hrow state (true::l) hs hls (by simp) (by simp; omega);simp;refine .go 60 ?_;simp;refine .inLoop ?_;simp at h0 ⊢
      exact h0)
   simp at h13 ⊢;exact h13
  ·have e:valC g begin state (seq.map RowB.l)=([],11):=by simp [valC,hc,hn]
   rw [e]
   have hnb:¬ (state.length:Int)=begin.length:=by omega
   refine .call 60 (by simp) (p_cnf_can g hf begin hb hl seq.length) ?_;simp [hc,hnb];exact .back (by simp)
 ·have e:valC g begin state (seq.map RowB.l)=([],canC g begin seq.length):=by simp [valC,hc]
  rw [e];refine .call 60 (by simp) (p_cnf_can g hf begin hb hl seq.length) ?_;simp [hc];exact .back (by simp)
@[simp] theorem lt30 (n:Nat):((30:Int)<n)=(30<n):=propext (by omega)
@[simp] theorem lt60 (n:Nat):((60:Int)<n)=(60<n):=propext (by omega)
@[simp] theorem le60 (n:Nat):((n:Int)≤60)=(n≤60):=propext (by omega)
@[simp] theorem le40 (n:Nat):((n:Int)≤40)=(n≤40):=propext (by omega)
@[simp] theorem lt61 (n:Nat):((61:Int)<n)=(61<n):=propext (by omega)
def longB (m:Nat) (r:RowB):Bool:=decide (m<r.l.length)
def fewX {α:Type} (p:α→Bool) (b:Nat) (xs:List α):Bool := !anyB p (xs.take (b+1))&&decide (xs.length≤b)
theorem fewX_yes {α:Type} {p:α→Bool} {b:Nat} {xs:List α} (h:fewX p b xs=true):xs.length≤b∧∀ x∈xs,p x=false:=by
 simp only [fewX,Bool.and_eq_true,Bool.not_eq_true',decide_eq_true_eq] at h;rw [List.take_of_length_le (by omega)] at h;exact ⟨h.2,anyB_no.1 h.1⟩
theorem anyB_take_drop {α:Type} {p:α→Bool} {xs:List α} {b i:Nat} (h:i<xs.length) (hb:i<b):anyB p ((xs.take b).drop i)=(p xs[i]||anyB p ((xs.take b).drop (i+1))):=by
 rw [anyB_drop (by rw [List.length_take]; omega),List.getElem_take]
theorem p_w08_Rows (xs:List RowB) {k:Nat} (hk:Kd 1 k xs) (b:Nat) (hb:b<2^40):PureCon Try.prog Γ n_w08_Rows [.list false k (xs.map eRowB),.int .i64 b] (.bool (fewX (longB 60) b xs)):=by
 refine .run 60 c_w08_Rows (by simp) ?_
 have key:∀ n i:Nat,i+n=b+1→Fins Try.prog Γ (ycD (.list false k (xs.map eRowB)) (.int .i64 b) (.int .i64 i) []) (.ret (.bool (!anyB (longB 60) ((xs.take (b+1)).drop i)&&decide (xs.length≤b)))):=by
  intro n
  induction n with
  | zero =>
   intro i hi
   obtain rfl:i=b+1:=by omega
   rw [anyB_end (by simp; omega)]
   have h60:¬ ((b:Int)+1)≤b:=by omega
   refine .go 60 ?_
   by_cases h:b+1<xs.length
   ·have h':(b:Int)+1<xs.length:=by omega
    simp [h,h',h60]; exact .back (by simp)
   ·have h':¬ (b:Int)+1<xs.length:=by omega
    simp [h,h',h60]; exact .back (by simp)
  | succ n ih =>
   intro i hi
   have h60:i≤b:=by omega
   by_cases h:i<xs.length
   ·have q2:=eq_true (hk.of h);rw [anyB_take_drop h (by omega),longB];refine .go 60 ?_
    by_cases hl:60<xs[i].l.length
    ·simp [h,h60,q2,hl]; exact .back (by simp)
    ·simp (disch:=omega) [h,h60,q2,hl];refine .reLoop ?_;have hh:=ih (i+1) (by omega);simp at hh ⊢;exact hh
   ·rw [anyB_end (by simp; omega)];refine .go 60 ?_
    simp [h]; exact .back (by simp)
 simp;refine .inLoop ?_;have hh:=key (b+1) 0 (by omega);simp [fewX] at hh ⊢;exact hh
def Gr.fewB (g:Gr):Bool:=(decide (g.ins≤100)||decide (4000<g.ins))&&decide (g.next.length≤40)&&decide (g.init.length≤40)&&decide (g.ands.length≤60)&&decide (g.outs.length≤60)
theorem p_w09_Few (g:Gr):PureCon Try.prog Γ n_w09_Few [eGr g] (.bool g.fewB):=by
 refine .run 60 c_w09_Few (by simp) ?_;unfold Gr.fewB
 by_cases h1:g.ins≤100 <;> by_cases h2:4000<g.ins <;> by_cases h3:g.next.length≤40 <;> by_cases h4:g.init.length≤40 <;> by_cases h5:g.ands.length≤60 <;> simp [h1,h2,h3,h4,h5] <;> exact .back (by simp)
theorem Gr.fewB_few {g:Gr} (h:g.fewB=true):g.few:=by
 simp only [Gr.fewB,Bool.and_eq_true,decide_eq_true_eq] at h
 unfold Gr.few; omega
def smallB (g:Gr) (n:Nat) (k:Int):Bool:=g.fewB&&decide (n≤60)&&(decide (g.ins≤30)||decide (4000<g.ins))&&(decide (k≤6)||decide (40<k))
theorem p_w19_small (g:Gr) (begin:List Int) {kb:Nat} (k:Int):PureCon Try.prog Γ n_w19_small [eGr g,.list false kb (begin.map i64),.int .i64 k] (.bool (smallB g begin.length k)):=by
 refine .run 60 c_w19_small (by simp) ?_;simp;refine .call 60 (by simp) (p_w09_Few g) ?_;unfold smallB
 cases h0:g.fewB <;> by_cases h1:begin.length≤60 <;> by_cases h2:g.ins≤30 <;> by_cases h3:4000<g.ins <;> by_cases h4:k≤6 <;> by_cases h5:40<k <;> simp [h1,h2,h3,h4,h5] <;> exact .back (by simp)
theorem p_w19_Of (u:Cn):PureCon Try.prog Γ n_w19_Of [eCn u] (eCn u):=by
 refine .run 60 c_w19_Of (by simp) ?_;simp;exact .back (by simp)
def gZ:Gr:=⟨0,[],[],[],[],0,0,0,0,.nil,.nil,.nil,.nil⟩
def gW:Gr:=⟨1,[6],[2],[(5,2)],[7],1,1,2,1,.self,.self,.self,.self⟩
theorem gZ_few:gZ.few:=by unfold Gr.few gZ; decide
theorem gW_few:gW.few:=by unfold Gr.few gW; decide
def Cn.fewT (u:Cn):Bool:=decide (u.cls.length<2^40)&&u.cls.all (fun r=>decide (r.l.length<2^40))&&decide (u.lits.length<2^40)&&u.lits.all (fun r=>decide (r.l.length<2^40))
theorem fewCn {u:Cn} (h:u.fewT=true):u.few:=by
 simp only [Cn.fewT,Bool.and_eq_true,decide_eq_true_eq,List.all_eq_true] at h;exact ⟨⟨h.1.1.1,h.1.1.2⟩,⟨h.1.2,h.2⟩⟩
set_option maxRecDepth 8000 in
theorem p_w19_works:PureCon Try.prog Γ n_w19_works [] (.bool true):=by
 refine .run 60 c_w19_works (by simp) ?_;simp;have k0:=p_cnf_Unroll (Γ:=Γ) gZ gZ_few [] (kb:=0) .nil (by decide) 0;have k1:=p_cnf_Unroll (Γ:=Γ) gW gW_few [2] (kb:=1) .self (by decide) 1;have k2:=p_cnf_Values (Γ:=Γ) gW gW_few [2] (kb:=1) .self (by decide) [false] (ks:=1) .self (by decide) [⟨false,1,[true],.self⟩] (kq:=1) .self (by decide) (by simp)
 have c0:canC gZ [] 0=0:=by kernel_rfl
 have c1:canC gW [2] 1=0:=by kernel_rfl
 have e2:valC gW [2] [false] ([⟨false,1,[true],.self⟩].map RowB.l)=([true,false,true,true],0):=by kernel_rfl
 rw [c0] at k0;rw [c1] at k1;rw [e2] at k2;have hw:(unN gW [2] 1).few:=fewCn (by kernel_rfl);have hz:(unN gZ [] 0).few:=fewCn (by kernel_rfl)
 have t1:trueC (unN gW [2] 1).cls [true,false,true,true]=true:=by kernel_rfl
 have t2:trueC (unN gW [2] 1).cls [true,false,true,false]=false:=by kernel_rfl
 have u1:checkC (unN gW [2] 1).cls 4=0:=by kernel_rfl
 have u2:(unN gW [2] 1).vars=4:=by kernel_rfl
 have u3:(unN gW [2] 1).cls.length=4:=by kernel_rfl
 have u4:(unN gZ [] 0).vars=1:=by kernel_rfl
 have u5:(unN gZ [] 0).cls.length=1:=by kernel_rfl
 have l1:litC (unN gW [2] 1) 0 7 = -4:=by kernel_rfl
 have l2:litC (unN gW [2] 1) 1 4=4:=by kernel_rfl
 have l3:litC (unN gW [2] 1) 2 4=0:=by kernel_rfl
 have d1:checkC (unN gW [2] 1).cls 3=1:=by kernel_rfl
 have s1:sameC (unN gW [2] 1) (unN gW [2] 1)=true:=by kernel_rfl
 have s2:sameC (unN gZ [] 0) (unN gW [2] 1)=false:=by kernel_rfl
 refine .call 120 (by simp [gZ]) k0 ?_;simp [u4,u5];refine .call 120 (by simp [gW]) k1 ?_;simp [u2,u3];refine .call 120 (by simp [gW]) k2 ?_;simp [u2,u3];refine .call 120 (by simp) (p_cnf_True (unN gW [2] 1).cls hw.1 [true,false,true,true] (k:=(unN gW [2] 1).kc) (kv:=1) (unN gW [2] 1).hc .self (by decide)) ?_;simp [t1,u1];refine .call 120 (by simp) (p_cnf_True (unN gW [2] 1).cls hw.1 [true,false,true,false] (k:=(unN gW [2] 1).kc) (kv:=1) (unN gW [2] 1).hc .self (by decide)) ?_;simp [t2,u1];have hw3:FewR [mkR [3]]:=⟨by decide,fun r hr=>by rw [List.mem_singleton.1 hr]; decide⟩
 have t3:trueC [mkR [3]] [true]=false:=by kernel_rfl
 have u7:checkC [mkR [3]] 1=1:=by kernel_rfl
 refine .call 120 (by simp) (p_cnf_True [mkR [3]] hw3 [true] (k:=1) (kv:=1) .self .self (by decide)) ?_;simp [t3,u7,u5,u3];refine .call 120 (by simp [u2]) (p_cnf_Lit (unN gW [2] 1) hw 0 7 (by decide)) ?_;simp [l1];refine .call 120 (by simp [u2]) (p_cnf_Lit (unN gW [2] 1) hw 1 4 (by decide)) ?_;simp [l2];refine .call 120 (by simp [u2]) (p_cnf_Lit (unN gW [2] 1) hw 2 4 (by decide)) ?_;simp [l3];refine .call 120 (by simp) (p_cnf_Check (unN gW [2] 1).cls hw.1 4 (unN gW [2] 1).hc) ?_;simp [u1];refine .call 120 (by simp) (p_cnf_Check (unN gW [2] 1).cls hw.1 3 (unN gW [2] 1).hc) ?_;simp [d1];refine .call 120 (by simp [u2]) (p_cnf_Same (unN gW [2] 1) (unN gW [2] 1) hw) ?_;simp [s1];refine .call 120 (by simp [u2,u4]) (p_cnf_Same (unN gZ [] 0) (unN gW [2] 1) hz) ?_;simp [s2];exact .back (by simp)
end Go.Proofs.Ytfpkjfmpamlakaa
namespace Go.Proofs.Ytfpkjfmpamlakaa
open Go.AM Go.Proofs Go.ChangeShapes Go.WideShapes Go.ChangeAt Go.RowKit
def ΓW:Nat→Option AV:=fun _=>none
theorem ΓW_ok {W:World}:∀ n a,ΓW n=some a→belL 0 a.cells=true∧∃ vs,VL (gw W) [] a.cells vs∧∀ j (hj:j<vs.length),W.cell? ⟨n,j,none⟩=some vs[j]:=by
 intro n a h
 cases h
theorem own:ownKnob Try.prog.godebug=none:=by kernel_rfl
theorem laid:laidOutB Try.prog=true:=by kernel_rfl
theorem mapsR:mapsRowed Try.prog=true:=by kernel_rfl
abbrev shI:Sh:=.int .i64
abbrev shIs:Sh:=.list 1 false (.int .i64)
abbrev shBs:Sh:=.list 1 false .bool
abbrev shBss:Sh:=.list 1 false shBs
abbrev shPs:Sh:=.list 2 true (.parts [.int .i64,.int .i64])
abbrev shGr:Sh:=.parts [shI,shIs,shIs,shPs,shIs]
theorem dec_int {B:Nat} {cs:List AV} (h:IsSh B shI cs):∃ n:Int,cs=[i64 n]∧n<2^63 ∧ -(2^63)≤n:=by
 simp only [IsSh] at h;obtain ⟨n,rfl,h1,h2⟩:=h
 have e1:IntKind.min .i64 = -(2^63):=by decide
 have e2:IntKind.max .i64=2^63 - 1:=by decide
 exact ⟨n,rfl,by omega,by omega⟩
theorem dec_ints {B:Nat} {cs:List AV} (h:IsSh B shIs cs):∃ l:List Int,cs=[.list false 1 (l.map i64)]∧l.length≤B:=by
 simp only [IsSh] at h;obtain ⟨xs,rfl,h0,h1⟩:=h
 obtain ⟨l,hl,hn⟩:=map_dec (f:=mkA false) (e:=i64) (fun x hx=>by
  obtain ⟨⟨n,rfl,_⟩,_⟩:=h1 x hx
  exact ⟨n,rfl⟩)
 exact ⟨l,by rw [hl],by omega⟩
theorem dec_bools {B:Nat} {cs:List AV} (h:IsSh B shBs cs):∃ l:List Bool,cs=[.list false 1 (l.map .bool)]∧l.length≤B:=by
 simp only [IsSh] at h;obtain ⟨xs,rfl,h0,h1⟩:=h
 obtain ⟨l,hl,hn⟩:=map_dec (f:=mkA false) (e:=AV.bool) (fun x hx=>by
  obtain ⟨⟨n,rfl⟩,_⟩:=h1 x hx
  exact ⟨n,rfl⟩)
 exact ⟨l,by rw [hl],by omega⟩
theorem map_rowsB {B:Nat}:∀ {xs:List (List AV)},(∀ x∈xs,IsSh B shBs x)→∃ l:List RowB,xs.map (mkA false)=l.map eRowB∧l.length=xs.length∧∀ r∈l,r.l.length≤B
 | [],_=>⟨[],rfl,rfl,by simp⟩
 | x::xs,h=>by
  obtain ⟨n,hn,hb⟩:=dec_bools (h x (by simp));obtain ⟨l,h1,h2,h3⟩:=map_rowsB (xs:=xs) (fun y hy=>h y (List.mem_cons_of_mem _ hy));refine ⟨⟨false,1,n,.self⟩::l,by simp [hn,h1,mkA],by simp [h2],fun r hr => ?_⟩
  rcases List.mem_cons.1 hr with rfl | hr
  ·exact hb
  ·exact h3 r hr
theorem dec_rowsB {B:Nat} {cs:List AV} (h:IsSh B shBss cs):∃ l:List RowB,cs=[.list false 1 (l.map eRowB)]∧l.length≤B∧∀ r∈l,r.l.length≤B:=by
 rw [IsSh] at h;obtain ⟨xs,rfl,h0,h1⟩:=h;obtain ⟨l,hl,hn,hb⟩:=map_rowsB (fun x hx=>(h1 x hx).1);exact ⟨l,by rw [hl],by omega,hb⟩
theorem dec_pairs {B:Nat} {cs:List AV} (h:IsSh B shPs cs):∃ l:List (Int×Int),cs=[.list false 2 (l.map ePr)]∧l.length≤B:=by
 rw [IsSh] at h;obtain ⟨xs,rfl,h0,h1⟩:=h
 obtain ⟨l,hl,hn⟩:=map_dec (f:=mkA true) (e:=ePr) (fun x hx=>by
  have h2:=(h1 x hx).1;simp only [IsSh,IsShL] at h2;obtain ⟨_,_,rfl,⟨n,rfl,_⟩,_,_,rfl,⟨m,rfl,_⟩,rfl⟩:=h2
  exact ⟨⟨n,m⟩,rfl⟩)
 exact ⟨l,by rw [hl],by omega⟩
theorem dec_gr {B:Nat} {cs:List AV} (h:IsSh B shGr cs):∃ g:Gr,AV.agg cs=eGr g∧(B<2^40→g.few):=by
 rw [IsSh] at h;simp only [IsShL] at h;obtain ⟨_,_,rfl,h1,_,_,rfl,h2,_,_,rfl,h3,_,_,rfl,h4,_,_,rfl,h5,rfl⟩:=h;obtain ⟨n,rfl,_⟩:=dec_int h1;obtain ⟨a,rfl,la⟩:=dec_ints h2;obtain ⟨b,rfl,lb⟩:=dec_ints h3;obtain ⟨c,rfl,lc⟩:=dec_pairs h4;obtain ⟨d,rfl,ld⟩:=dec_ints h5;exact ⟨⟨n,a,b,c,d,1,1,2,1,.self,.self,.self,.self⟩,rfl,fun hB=>⟨Nat.lt_of_le_of_lt la hB,Nat.lt_of_le_of_lt lb hB,Nat.lt_of_le_of_lt lc hB,Nat.lt_of_le_of_lt ld hB⟩⟩
end Go.Proofs.Ytfpkjfmpamlakaa
namespace Go.Proofs.Ytfpkjfmpamlakaa
open Go.AM Go.Proofs
variable {Γ : Nat → Option AV}
abbrev hU0 (g:Gr) (t:List Ob):List Ob:=boxG g::.cells [.int .i64 0,.sl 2 0 0,.sl 3 0 0]::.row 1 t_api_Clause_2 [] none true false::.row 1 t_int_3 [] none true false::t
abbrev hBg (g:Gr) (V:Nat) (row:List Int):List Ob:=hU0 g [boxG g,.cells [.int .i64 0,.sl 6 0 0,.sl 7 0 0],.row 1 t_api_Clause_2 [] none true false,.row 1 t_int_3 [] none true false,.row 1 t_api_Clause_2 [eCl [1]] none true false,
 .cells [.int .i64 V,.sl 8 0 1,.list true 0 []],.row 1 t_api_Clause_2 [] none true false,.row 1 t_int_3 [] none true false,.row 1 t_int (row.map i64) none true false]
set_option maxRecDepth 8000 in
theorem r_bg12 (g:Gr) (ni:Nat) (hni:g.ins=ni) (hi4:ni≤4000) (bg:AV) (hbg:∀ m,vld 12 m bg=true) (up:List Fr) {c:Cfg}
  (hc:AM.Reach Try.prog Γ (ylv bg (.ptr 5 0) (.ptr 9 0) (.sl 12 0 (1+ni)) (hBg g 1 (-1::List.replicate ni 0)) ⟨[],.norm,4,up⟩) c) :
  ∀ n i:Nat,i+n=ni→AM.Reach Try.prog Γ (ylu bg (.ptr 4 0) (.ptr 5 0) (.ptr 9 0) (.sl 12 0 (1+i)) (.int .i64 i) (hBg g 1 (-1::List.replicate i 0)) ⟨[],.norm,4,up⟩) c:=by
 intro n
 induction n with
 | zero =>
  intro i hi
  obtain rfl:i=ni:=by omega
  refine .trans ?_ hc;refine .goS 60 ?_;simp [hni];exact .exit rfl rfl
 | succ n ih =>
  intro i hi;have hh:=ih (i+1) (by omega)
  have hil:(i:Int)<ni:=by omega
  have e2:1+i=i+1:=by omega
  have e3:List.replicate i (AV.int .i64 0)++[.int .i64 0]=List.replicate (i+1) (.int .i64 0):=(List.replicate_succ' ..).symm;refine .goS 60 ?_;simp (disch:=(first | omega | (simp; omega))) [hil,hni,e2,e3];refine .reLoop ?_;simp;refine .resetTo (i:=12) rfl (by simp) (by simp [hbg]) (by simp) ?_;simp [hBg,Nat.add_assoc,Nat.add_comm 1] at hh ⊢;exact hh
set_option maxRecDepth 8000 in
theorem r_bg2 (g:Gr) (begin:List Int) {kb:Nat} (hb:Kd 1 kb begin) (hl:begin.length<2^40) (hw:∀ a∈begin,0≤a∧a≤2) (pre:List Int) (hp:pre.length<2^40) (B:Nat) (hB:B<2^40) (up:List Fr) {c:Cfg}
  (full:List Int) (hc:AM.Reach Try.prog Γ (yls (.ptr 5 0) (.ptr 9 0) (.sl 12 0 (pre++full).length) (hBg g B (pre++full)) ⟨[],.norm,4,up⟩) c) :
  ∀ n i v:Nat,i+n=begin.length→v+cnt2 (begin.drop i)=B→∀ acc,acc.length=i→acc++latB v (begin.drop i)=full→∀ row,row=pre++acc →
   AM.Reach Try.prog Γ (ylr (.list false kb (begin.map i64)) (.ptr 5 0) (.ptr 9 0) (.sl 12 0 row.length) (.int .i64 i) (hBg g v row) ⟨[],.norm,4,up⟩) c:=by
 intro n
 induction n with
 | zero =>
  intro i v hi hv acc ha hf row hr
  obtain rfl:i=begin.length:=by omega
  rw [List.drop_length] at hv hf;simp [cnt2,latB] at hv hf;subst hv hf hr;refine .trans ?_ hc;refine .goS 60 ?_;simp [ha];exact .exit rfl rfl
 | succ n ih =>
  intro i v hi hv acc ha hf row hr
  have q1:i<begin.length:=by omega
  have q2:=eq_true (hb.of q1);obtain ⟨b1,b2⟩:=hw begin[i] (List.getElem_mem q1);rw [List.drop_eq_getElem_cons q1] at hv hf;rw [cnt2] at hv;rw [latB] at hf
  have hrl:row.length=pre.length+i:=by rw [hr,List.length_append,ha]
  refine .goS 60 ?_
  by_cases h2:begin[i]=2
  ·rw [if_pos h2] at hv hf;have hh:=ih (i+1) (v+1) (by omega) (by omega) (acc++[((v+1:Nat):Int)]) (by simp [ha]) (by simpa using hf) (row++[((v+1:Nat):Int)]) (by rw [hr,List.append_assoc]);simp (disch:=(first | omega | (simp; omega))) [q1,q2,h2];refine .reLoop ?_;simp
   have hlen:(List.map i64 row++[AV.int .i64 ((v:Int)+1)]).length=row.length+1:=by simp
   refine .resetTo (i:=12) rfl (by simp) (by simp) (by rw [hlen]; simp) ?_;simp [hBg] at hh ⊢;exact hh
  ·rw [if_neg h2] at hv hf;have hh:=ih (i+1) v (by omega) (by omega) (acc++[2*begin[i] - 1]) (by simp [ha]) (by simpa using hf) (row++[2*begin[i] - 1]) (by rw [hr,List.append_assoc]);simp (disch:=(first | omega | (simp; omega))) [q1,q2,h2];refine .reLoop ?_;simp
   have hlen:(List.map i64 row++[AV.int .i64 (2*begin[i] - 1)]).length=row.length+1:=by simp
   refine .resetTo (i:=12) rfl (by simp) (by simp) (by rw [hlen]; simp) ?_;simp [hBg] at hh ⊢;exact hh
set_option maxRecDepth 8000 in
theorem r_begins (g:Gr) (ok:g.Ok) (begin:List Int) {kb:Nat} (hb:Kd 1 kb begin) (hl:begin.length<2^30) (hw:∀ a∈begin,0≤a∧a≤2) (row:List Int) (hrow:row=insRow 0 0 g.ins.toNat (latB 1 begin)) :
  ∀ up,AM.Reach Try.prog Γ (.cl n_r19_begins [eGr g,.list false kb (begin.map i64)] up (hU0 g [])) (.back up (.agg [.int .i64 ((1+cnt2 begin:Nat):Int),.sl 8 0 1,.sl 13 0 1])
   (hU0 g [boxG g,.cells [.int .i64 ((1+cnt2 begin:Nat):Int),.sl 8 0 1,.sl 13 0 1],.row 1 t_api_Clause_2 [] none true false,.row 1 t_int_3 [] none true false,.row 1 t_api_Clause_2 [eCl [1]] none true false,
    .cells [.int .i64 ((1+cnt2 begin:Nat):Int),.sl 8 0 1,.sl 13 0 1],.row 1 t_api_Clause_2 [] none true false,.row 1 t_int_3 [] none true false,.row 1 t_int (row.map i64) none true false,.row 1 t_int_3 [.sl 12 0 row.length] none false false])):=by
 intro up;have o1:=ok.ins;refine .enterB 8 c_r19_begins ?_;simp;refine .litRowTo 0 t_api_Clause_2 (es:=[.list true 1 [.int .i64 1]]) (by simp) (by simp) ?_;simp;refine .freezeTo (i:=8) (es':=[eCl [1]]) rfl rfl (by simp) (by simp) ?_;simp;refine .goB 6 ?_;simp;refine .litRowTo 60 t_int (es:=[.int .i64 (-1)]) (by simp) (by simp) ?_;simp;refine .inLoop ?_
 have hni:((g.ins.toNat:Nat):Int)=g.ins:=by omega
 have k1:=r_bg12 (Γ:=Γ) g g.ins.toNat hni.symm (by omega) (.list false kb (begin.map i64)) (by simp) up (c := ?_) ?_ g.ins.toNat 0 (by omega)
 ·simp [hBg] at k1 ⊢;exact k1
 have hp:(-1::List.replicate g.ins.toNat (0:Int)).length<2^40:=by simp; omega
 have hrow2:(-1::List.replicate g.ins.toNat (0:Int))++latB 1 begin=row:=by rw [hrow,insRow_zero]; simp
 generalize hpre:(-1::List.replicate g.ins.toNat (0:Int))=pre at *
 have hpl:pre.length=1+g.ins.toNat:=by rw [← hpre]; simp; omega
 refine .goB 60 ?_;simp;refine .inLoop ?_;have k2:=r_bg2 (Γ:=Γ) g begin hb (by omega) hw pre hp (1+cnt2 begin) (by rw [cnt2_count]; have:=List.count_le_length (a:=(2:Int)) (l:=begin); omega) up (c := ?_) (latB 1 begin) ?_ begin.length 0 1 (by omega) (by simp) [] rfl (by simp) pre (by simp)
 ·simp [hBg,hpl] at k2 ⊢;exact k2
 rw [hrow2];refine .goB 3 ?_;simp;refine .litRowTo 60 t_int_3 (es:=[.sl 12 0 row.length]) rfl rfl ?_;simp
abbrev hT (g:Gr) (uc:Ob) (gr:Option Nat) (V:Nat) (cs:List (List Int)) (lits:List AV) (fl:Bool) (grB:Option Nat) (row:List Int) (sh:Bool) (nc:Nat) (t:List Ob):List Ob :=
 hU0 g (uc::.row 1 t_api_Clause_2 (cs.map eCl) gr true false::.row 1 t_int_3 lits none fl false::.row 1 t_int (row.map i64) grB true sh::.cells [.int .i64 V,.sl 5 0 nc,.sl 6 0 lits.length]::boxG g::.cells [.int .i64 0,.sl 11 0 0,.sl 12 0 0]::.row 1 t_api_Clause_2 [] none true false::.row 1 t_int_3 [] none true false::t)
set_option maxRecDepth 8000 in
theorem r_rs25 (g:Gr) (ni:Nat) (hni:g.ins=ni) (hi4:ni≤4000) (uc:Ob) (V:Nat) (hV:V<2^30) (cs:List (List Int)) (lits:List AV) (fl:Bool) (lat:List Int) (hlat:lat.length≤4000) (last:AV) (up:List Fr) {c:Cfg}
  (hc:AM.Reach Try.prog Γ (ymy (.ptr 8 0) (.ptr 9 0) (.ptr 10 0) last (.sl 7 0 (1+ni+lat.length)) (hT g uc none (V+ni) cs lits fl none (insRow V ni ni lat) false cs.length []) ⟨[],.norm,8,up⟩) c) :
  ∀ n i:Nat,i+n=ni→AM.Reach Try.prog Γ (ymx (.ptr 8 0) (.ptr 9 0) (.ptr 10 0) last (.sl 7 0 (1+ni+lat.length)) (.int .i64 i) (hT g uc none (V+i) cs lits fl none (insRow V i ni lat) false cs.length []) ⟨[],.norm,8,up⟩) c:=by
 intro n
 induction n with
 | zero =>
  intro i hi
  obtain rfl:i=ni:=by omega
  refine .trans ?_ hc;refine .goS 60 ?_;simp [hni];exact .exit rfl rfl
 | succ n ih =>
  intro i hi;have hh:=ih (i+1) (by omega);have hlen:=insRow_len (V:=V) (i:=i) (ins:=ni) (lat:=lat) (by omega)
  have hset:(List.map i64 (insRow V i ni lat)).set (1+i) (.int .i64 ((V:Int)+i+1))=List.map i64 (insRow V (i+1) ni lat):=by
   rw [← insRow_set (by omega),List.map_set]; congr 2; omega
  have hil:(i:Int)<ni:=by omega
  refine .goS 60 ?_;simp (disch:=(first | omega | (simp; omega))) [hil,hni,hlen,hset];refine .reLoop ?_;simp [← Int.add_assoc] at hh ⊢;exact hh
set_option maxRecDepth 8000 in
theorem r_rs14 (g:Gr) (ok:g.Ok) (uc:Ob) (n1:Nat) (hV:n1+g.ands.length<2^30) (cls:List (List Int)) (hcl:cls.length+3*g.ands.length<2^20) (lits:List AV) (fl:Bool) (row:List Int) (hrow:row.length=g.first) (hlow:Low n1 row) (last:AV) (up:List Fr) {c:Cfg}
  (hc:∀ gr:Option Nat,gr=none∨gr=some 0→AM.Reach Try.prog Γ (ymv (.ptr 8 0) (.ptr 9 0) (.ptr 10 0) last (.sl 7 0 (rowA row n1 g.ands.length).length) (hT g uc gr (n1+g.ands.length) (cls++clsA row n1 g.ands 0) lits fl gr (rowA row n1 g.ands.length) false (cls++clsA row n1 g.ands 0).length []) ⟨[],.norm,8,up⟩) c) :
  ∀ n i:Nat,i+n=g.ands.length→∀ gr:Option Nat,gr=none∨gr=some 0→∀ cs,cs=cls++clsA row n1 (g.ands.take i) 0→∀ rw_,rw_=rowA row n1 i →
   AM.Reach Try.prog Γ (ymu (.ptr 8 0) (.ptr 9 0) (.ptr 10 0) last (.sl 7 0 rw_.length) (.int .i64 i) (hT g uc gr (n1+i) cs lits fl gr rw_ false cs.length []) ⟨[],.norm,8,up⟩) c:=by
 intro n
 induction n with
 | zero =>
  intro i hi gr hgr cs hcs rw_ hrw
  obtain rfl:i=g.ands.length:=by omega
  rw [List.take_length] at hcs;subst hcs;subst hrw;refine .trans ?_ (hc gr hgr);refine .goS 60 ?_;simp;exact .exit rfl rfl
 | succ n ih =>
  intro i hi gr hgr cs hcs rw_ hrw
  have q1:i<g.ands.length:=by omega
  have q2:=eq_true (g.ha.of q1);obtain ⟨⟨b1,b2⟩,b3,b4⟩:=ok.ands i q1;obtain ⟨x,hx⟩:=Int.eq_ofNat_of_zero_le b1;obtain ⟨y,hy⟩:=Int.eq_ofNat_of_zero_le b3
  have hrl:rw_.length=g.first+i:=by rw [hrw,rowA_len,hrow]
  have hcsl:cs.length=cls.length+3*i:=by rw [hcs,List.length_append,clsA_len,List.length_take]; omega
  have hlw:Low (n1+i) rw_:=by rw [hrw]; exact low_rowA hlow i
  have hxl:=inR_low hlw (by omega) (a:=x) (by omega);have hyl:=inR_low hlw (by omega) (a:=y) (by omega);have hh:=ih (i+1) (by omega) (some 0) (.inr rfl) _ rfl _ rfl;rw [clsA_take row n1 q1,← List.append_assoc,← hcs,rowA_succ,← hrw,hx,hy] at hh;simp only [Int.toNat_natCast] at hh
  have hfi:g.first≤8001:=by have:=ok.ins; have:=ok.sum; unfold Gr.first; omega
  have px:=p_r19_in (Γ:=Γ) rw_ (k:=1) .self x (by omega) (by omega);have py:=p_r19_in (Γ:=Γ) rw_ (k:=1) .self y (by omega) (by omega);generalize inR rw_ x=xv at *;generalize inR rw_ y=yv at *
  rcases hgr with rfl | rfl
  all_goals
   refine .goS 60 ?_;simp (disch:=omega) [q1,q2,hx];refine .rcallM 1 60 (fun _=>.con0 (by simp) px (by simp) (by simp) _) ?_;simp (disch:=omega) [q1,q2,hy];refine .rcallM 1 60 (fun _=>.con0 (by simp) py (by simp) (by simp) _) ?_;simp (disch:=(first | omega | (simp; omega)));refine .reLoop ?_;simp [hT,cl3,← Int.add_assoc,Int.add_right_comm _ (1:Int)] at hh ⊢;exact hh
abbrev ucell (V0 n0 m0:Nat):Ob:=.cells [.int .i64 V0,.sl 5 0 n0,.sl 6 0 m0]
set_option maxRecDepth 8000 in
theorem r_rs7 (g:Gr) (ni:Nat) (hni:g.ins=ni) (hi4:ni≤4000) (V0 n0 m0:Nat) (gr:Option Nat) (V:Nat) (cs:List (List Int)) (lits:List AV) (row:List Int) (nc:Nat) (up:List Fr) {c:Cfg}
  (hc:AM.Reach Try.prog Γ (yms (.ptr 8 0) (.ptr 9 0) (.ptr 10 0) (.sl 7 0 row.length) (.sl 13 0 (1+ni)) (hT g (ucell V0 n0 m0) gr V cs lits true gr row true nc [.row 1 t_int ((-1::List.replicate ni 0).map i64) none true false]) ⟨[],.norm,8,up⟩) c) :
  ∀ n i:Nat,i+n=ni→AM.Reach Try.prog Γ (ymr (.ptr 8 0) (.ptr 9 0) (.ptr 10 0) (.sl 7 0 row.length) (.sl 13 0 (1+i)) (.int .i64 i) (hT g (ucell V0 n0 m0) gr V cs lits true gr row true nc [.row 1 t_int ((-1::List.replicate i 0).map i64) none true false]) ⟨[],.norm,8,up⟩) c:=by
 intro n
 induction n with
 | zero =>
  intro i hi
  obtain rfl:i=ni:=by omega
  refine .trans ?_ hc;refine .goS 60 ?_;simp [hni];exact .exit rfl rfl
 | succ n ih =>
  intro i hi;have hh:=ih (i+1) (by omega)
  have hil:(i:Int)<ni:=by omega
  have e2:1+i=i+1:=by omega
  have e3:List.replicate i (AV.int .i64 0)++[.int .i64 0]=List.replicate (i+1) (.int .i64 0):=(List.replicate_succ' ..).symm;refine .goS 60 ?_;simp (disch:=(first | omega | (simp; omega))) [hil,hni,e2,e3];refine .reLoop ?_;simp;refine .resetTo (i:=13) rfl (by simp) (by simp) (by simp) ?_;simp [hT,Nat.add_assoc,Nat.add_comm 1] at hh ⊢;exact hh
set_option maxRecDepth 8000 in
theorem r_rs2 (g:Gr) (ok:g.Ok) (V0 n0 m0:Nat) (gr:Option Nat) (hgr:gr=none∨gr=some 0) (V:Nat) (cs:List (List Int)) (lits:List AV) (row:List Int) (hrow:row.length=g.all) (nc:Nat) (pre:List Int) (hp:pre.length<2^30) (up:List Fr) {c:Cfg}
  (hc:AM.Reach Try.prog Γ (ymp (.ptr 8 0) (.ptr 10 0) (.sl 13 0 (pre++litsR row g.next).length) (hT g (ucell V0 n0 m0) gr V cs lits true gr row true nc [.row 1 t_int ((pre++litsR row g.next).map i64) none true false]) ⟨[],.norm,8,up⟩) c) :
  ∀ n i:Nat,i+n=g.next.length→∀ w,w=pre++litsR row (g.next.take i)→AM.Reach Try.prog Γ (ymo (.ptr 8 0) (.ptr 9 0) (.ptr 10 0) (.sl 7 0 row.length) (.sl 13 0 w.length) (.int .i64 i)
   (hT g (ucell V0 n0 m0) gr V cs lits true gr row true nc [.row 1 t_int (w.map i64) none true false]) ⟨[],.norm,8,up⟩) c:=by
 intro n
 induction n with
 | zero =>
  intro i hi w hw
  obtain rfl:i=g.next.length:=by omega
  rw [List.take_length] at hw;subst hw;refine .trans ?_ hc;refine .goS 60 ?_;simp;exact .exit rfl rfl
 | succ n ih =>
  intro i hi w hw
  have q1:i<g.next.length:=by omega
  have q2:=eq_true (g.hn.of q1);have o1:=ok.ins;have o3:=ok.sum;obtain ⟨b1,b2⟩:=ok.next g.next[i] (List.getElem_mem q1);obtain ⟨x,hx⟩:=Int.eq_ofNat_of_zero_le b1
  have hlits:g.lits=2*row.length:=by rw [hrow]; rfl
  have hwl:w.length=pre.length+i:=by rw [hw]; simp; omega
  have hall:g.all≤12001:=by unfold Gr.all Gr.first; omega
  have hh:=ih (i+1) (by omega) _ rfl;rw [litsR_take q1,← List.append_assoc,← hw,hx] at hh;simp only [Int.toNat_natCast] at hh;have px:=p_r19_in (Γ:=Γ) row (k:=1) .self x (by omega) (by omega);generalize inR row x=xv at *
  have hlen8:(List.map i64 w++[AV.int .i64 xv]).length=w.length+1:=by simp
  rcases hgr with rfl | rfl
  all_goals
   refine .goS 60 ?_;simp [q1,q2,hx];refine .rcallM 1 60 (fun _=>.con0 (by simp) px (by simp) (by simp) _) ?_;simp (disch:=(first | omega | (simp; omega)));refine .reLoop ?_;simp;refine .resetTo (i:=13) rfl (by simp) (by simp) (by rw [hlen8]; simp) ?_;simp [hT] at hh ⊢;exact hh
set_option maxRecDepth 8000 in
theorem r_r19_step (g:Gr) (ok:g.Ok) (V0 n0 m0:Nat) (ni:Nat) (hni:g.ins=ni) (V:Nat) (hV1:1≤V) (hV:V+ni+g.ands.length<2^30) (cls lits:List (List Int)) (hcl:cls.length+3*g.ands.length<2^20) (hll:lits.length<2^20)
  (lat:List Int) (hlat:lat.length=g.next.length) (hlow:Low V lat) (up:List Fr) {c:Cfg}
  (hc:∀ gr:Option Nat,gr=none∨gr=some 0→∀ rowF,rowF=rowA (insRow V ni ni lat) (V+ni) g.ands.length→∀ cls',cls'=cls++clsA (insRow V ni ni lat) (V+ni) g.ands 0→∀ row',row'=insRow 0 0 ni (litsR rowF g.next) →
   AM.Reach Try.prog Γ (.back up (.agg [.int .i64 ((V+ni+g.ands.length:Nat):Int),.sl 5 0 cls'.length,.sl 6 0 (lits.length+2)])
    (hU0 g [ucell V0 n0 m0,.row 1 t_api_Clause_2 (cls'.map eCl) gr true false,.row 1 t_int_3 ((lits++[rowF]).map eCl++[.sl 13 0 row'.length]) (some 0) false false,.row 1 t_int (rowF.map i64) gr true true,
     .cells [.int .i64 ((V+ni+g.ands.length:Nat):Int),.sl 5 0 cls'.length,.sl 6 0 (lits.length+2)],boxG g,.cells [.int .i64 ((V+ni+g.ands.length:Nat):Int),.sl 5 0 cls'.length,.sl 6 0 (lits.length+2)],.row 1 t_api_Clause_2 [] none true false,.row 1 t_int_3 [] none true false,
     .row 1 t_int (row'.map i64) none true false,.row 1 t_int_3 [.sl 13 0 row'.length] none false false])) c) :
  AM.Reach Try.prog Γ (.cl n_r19_step [.agg [.int .i64 V,.sl 5 0 cls.length,.sl 6 0 (lits.length+1)],eGr g] up (hU0 g [ucell V0 n0 m0,.row 1 t_api_Clause_2 (cls.map eCl) none true false,.row 1 t_int_3 (lits.map eCl++[.sl 7 0 (1+ni+lat.length)]) none false false,
   .row 1 t_int ((insRow 0 0 ni lat).map i64) none true false])) c:=by
 obtain ⟨o1,o2⟩:=ok.ins;have o3:=ok.sum
 have hr1:(insRow V ni ni lat).length=g.first:=by rw [insRow_len (by omega)]; unfold Gr.first; omega
 have hlow1:=low_insRow (ni:=ni) hlow hV1
 have hra:(rowA (insRow V ni ni lat) (V+ni) g.ands.length).length=g.all:=by rw [rowA_len,hr1]; rfl
 have hrl:(insRow V ni ni lat).length=1+ni+lat.length:=insRow_len (by omega)
 have hat:(List.map eCl lits++[AV.sl 7 0 (1+ni+lat.length)])[lits.length]? = some (.sl 7 0 (1+ni+lat.length)):=by
  rw [List.getElem?_append_right (by simp)]; simp
 have hat2:∀ h,(List.map eCl lits++[AV.sl 7 0 (1+ni+lat.length)])[lits.length]'h=.sl 7 0 (1+ni+lat.length):=by
  intro h; rw [List.getElem_append_right (by simp)]; simp
 have hln:(List.map eCl lits++[AV.sl 7 0 (1+ni+lat.length)]).length=lits.length+1:=by simp
 have k25:=r_rs25 (Γ:=Γ) g ni hni (by omega) (ucell V0 n0 m0) V (by omega) cls (lits.map eCl++[.sl 7 0 (1+ni+lat.length)]) false lat (by omega) (.int .i64 lits.length) up (c:=c) ?_ ni 0 (by omega)
 ·rw [insRow_any] at k25;refine .enterB 60 c_r19_step ?_;simp (disch:=omega) [hat,hat2,hln];refine .inLoop ?_;simp [hT,hln] at k25 ⊢;exact k25
 have k14:=r_rs14 (Γ:=Γ) g ok (ucell V0 n0 m0) (V+ni) hV cls (by omega) (lits.map eCl++[.sl 7 0 (1+ni+lat.length)]) false (insRow V ni ni lat) hr1 hlow1 (.int .i64 lits.length) up (c:=c) ?_ g.ands.length 0 (by omega) none (.inl rfl) cls (by simp [clsA]) _ (rowA_zero _ _).symm
 ·refine .goB 60 ?_;simp;refine .inLoop ?_;simp [hT,hln,hrl] at k14 ⊢;exact k14
 intro gr hgr
 have hcc:=fun gr hgr=>hc gr hgr _ rfl _ rfl _ rfl
 clear hc;generalize rowA (insRow V ni ni lat) (V+ni) g.ands.length=rowF at *;generalize cls++clsA (insRow V ni ni lat) (V+ni) g.ands 0=cls' at *;have hlt:((lits.length:Int)<lits.length+1)=True:=eq_true (by omega)
 have hset:∀ y,(List.map eCl lits++[AV.sl 7 0 (1+ni+lat.length)]).set lits.length y=List.map eCl lits++[y]:=by
  intro y; rw [List.set_append,if_neg (by simp)]; simp
 have hln2:(List.map eCl lits++[eCl rowF]).length=lits.length+1:=by simp
 refine .goB 9 ?_;simp (disch:=omega) [hat,hat2,hln,hlt,hset]
 have hvm:∀ h,viewL h (lits.map eCl)=some (lits.map eCl):=fun h=>viewL_map h _ _ (fun x=>by simp [view])
 have hrm:rowsOfL (lits.map eCl)=[]:=rowsOfL_map _ _ (fun x=>by simp)
 have hp:(-1::List.replicate ni (0:Int)).length<2^30:=by simp; omega
 have k2:=fun gr hgr=>r_rs2 (Γ:=Γ) g ok V0 n0 m0 gr hgr (V+ni+g.ands.length) cls' (lits.map eCl++[eCl rowF]) rowF hra cls'.length (-1::List.replicate ni 0) hp up (c:=c)
 have hrow2:(-1::List.replicate ni (0:Int))++litsR rowF g.next=insRow 0 0 ni (litsR rowF g.next):=by rw [insRow_zero]; simp
 rw [hrow2] at k2
 have hpl:(-1::List.replicate ni (0:Int)).length=1+ni:=by simp; omega
 generalize insRow 0 0 ni (litsR rowF g.next)=row' at *
 rcases hgr with rfl | rfl
 ·refine .freezeTo (i:=6) (es':=lits.map eCl++[eCl rowF]) rfl rfl (by simp [hvm]) (by simp [hrm]) ?_;simp [hrm];refine .goB 2 ?_;simp;refine .litRowTo 60 t_int (es:=[.int .i64 (-1)]) (by simp) (by simp) ?_;simp;refine .inLoop ?_;have k7:=r_rs7 (Γ:=Γ) g ni hni (by omega) V0 n0 m0 none (V+ni+g.ands.length) cls' (lits.map eCl++[eCl rowF]) rowF cls'.length up (c:=c) ?_ ni 0 (by omega)
  ·simp [hT] at k7 ⊢;exact k7
  refine .goB 60 ?_;simp;refine .inLoop ?_;have k2:=k2 none (.inl rfl) ?_ g.next.length 0 (by omega) _ (by simp [litsR]; rfl)
  ·simp [hT,hpl] at k2 ⊢;exact k2
  refine .goB 5 ?_;simp;refine .litRowTo 60 t_int_3 (es:=[.sl 13 0 row'.length]) (by simp) (by simp) ?_;simp (disch:=(first | omega | (simp; omega)));have hcc:=hcc none (.inl rfl);simp [hT] at hcc ⊢;exact hcc
 ·refine .freezeTo (i:=6) (es':=lits.map eCl++[eCl rowF]) rfl rfl (by simp [hvm]) (by simp [hrm]) ?_;simp [hrm];refine .goB 2 ?_;simp;refine .litRowTo 60 t_int (es:=[.int .i64 (-1)]) (by simp) (by simp) ?_;simp;refine .inLoop ?_;have k7:=r_rs7 (Γ:=Γ) g ni hni (by omega) V0 n0 m0 (some 0) (V+ni+g.ands.length) cls' (lits.map eCl++[eCl rowF]) rowF cls'.length up (c:=c) ?_ ni 0 (by omega)
  ·simp [hT] at k7 ⊢;exact k7
  refine .goB 60 ?_;simp;refine .inLoop ?_;have k2:=k2 (some 0) (.inr rfl) ?_ g.next.length 0 (by omega) _ (by simp [litsR]; rfl)
  ·simp [hT,hpl] at k2 ⊢;exact k2
  refine .goB 5 ?_;simp;refine .litRowTo 60 t_int_3 (es:=[.sl 13 0 row'.length]) (by simp) (by simp) ?_;simp (disch:=(first | omega | (simp; omega)));have hcc:=hcc (some 0) (.inr rfl);simp [hT] at hcc ⊢;exact hcc
end Go.Proofs.Ytfpkjfmpamlakaa
namespace Go.Proofs.Ytfpkjfmpamlakaa
open Go.AM Go.Proofs
theorem Bu.steps_v (g:Gr):∀ (n:Nat) (b:Bu),(Bu.steps g n b).v=b.v+n*(g.ins.toNat+g.ands.length)
 | 0,b=>by simp [Bu.steps]
 | n+1,b=>by rw [Bu.steps,Bu.steps_v g n,Bu.step,Nat.succ_mul n (g.ins.toNat+g.ands.length)]; simp only; omega
theorem Bu.steps_cls (g:Gr):∀ (n:Nat) (b:Bu),(Bu.steps g n b).cls.length=b.cls.length+n*(3*g.ands.length)
 | 0,b=>by simp [Bu.steps]
 | n+1,b=>by rw [Bu.steps,Bu.steps_cls g n,Bu.step,Nat.succ_mul n (3*g.ands.length)]; simp only [List.length_append,clsA_len]; omega
theorem Bu.steps_lits (g:Gr):∀ (n:Nat) (b:Bu),(Bu.steps g n b).lits.length=b.lits.length+n
 | 0,b=>by simp [Bu.steps]
 | n+1,b=>by rw [Bu.steps,Bu.steps_lits g n,Bu.step]; simp only [List.length_append,List.length_cons,List.length_nil]; omega
theorem Bu.steps_lat (g:Gr):∀ (n:Nat) (b:Bu),b.lat.length=g.next.length→(Bu.steps g n b).lat.length=g.next.length
 | 0,b,h=>h
 | n+1,b,h=>Bu.steps_lat g n (b.step g) (by simp [Bu.step])
def FullR (g:Gr) (r:List Int):Prop:=r.length=g.all∧r.head? = some (-1)
theorem Bu.row_full {g:Gr} (ok:g.Ok) {b:Bu} (h:b.lat.length=g.next.length):FullR g (b.row g):=by
 refine ⟨by unfold Bu.row; rw [rowA_len,Bu.row1_len ok h]; rfl,?_⟩;simp [Bu.row,rowA,Bu.row1,insRow]
theorem Bu.last_full {g:Gr} (ok:g.Ok) {b:Bu} (h:b.lat.length=g.next.length):FullR g (b.last g):=by
 have:=ok.ins;refine ⟨?_,by simp [Bu.last,insRow]⟩;simp only [Bu.last,List.length_append,List.length_replicate];rw [insRow_len (by omega),h]
 unfold Gr.all Gr.first; omega
theorem Bu.steps_full {g:Gr} (ok:g.Ok):∀ (n:Nat) (b:Bu),b.lat.length=g.next.length→(∀ r∈b.lits,FullR g r)→∀ r∈(Bu.steps g n b).lits,FullR g r
 | 0,b,_,h=>h
 | n + 1, b, hl, h => Bu.steps_full ok n (b.step g) (by simp [Bu.step]) (by
     intro r hr;simp only [Bu.step,List.mem_append,List.mem_singleton] at hr
     rcases hr with hr | rfl
     ·exact h r hr
     ·exact Bu.row_full ok hl)
def Nz (l:List Int):Prop:=∀ x∈l,x≠0
theorem nz_inR {B:Nat} {row:List Int} (h:Nz row) (hl:Low B row) (hB:B<2^40) {a:Nat} (ha:a / 2<row.length):inR row a≠0:=by
 have h0:=h (row.getD (a / 2) 0) (by rw [getD_atI ha]; exact List.getElem_mem ha);have h1:=hl (row.getD (a / 2) 0) (by rw [getD_atI ha]; exact List.getElem_mem ha);unfold inR
 split
 ·rw [wrap64 (by omega) (by omega)]; omega
 ·exact h0
theorem nz_rowA {row:List Int} (h:Nz row) (n1 i:Nat):Nz (rowA row n1 i):=by
 intro x hx
 rcases List.mem_append.1 hx with hx | hx
 ·exact h x hx
 ·obtain ⟨j,hj,rfl⟩:=List.mem_map.1 hx; omega
def LitsOk (v:Nat) (c:List Int):Prop:=∀ a∈c,a≠0 ∧ -(v:Int)≤a∧a≤v
theorem LitsOk.mono {v w:Nat} {c:List Int} (h:LitsOk v c) (hw:v≤w):LitsOk w c:=fun a ha=>by have:=h a ha; omega
theorem clsA_ok {row:List Int} {n1:Nat} (hz:Nz row) (hl:Low n1 row):∀ (ps:List (Int×Int)) (i:Nat),n1+i+ps.length<2^40 →
  (∀ j (hj:j<ps.length),ps[j].1.toNat / 2<row.length+i+j∧ps[j].2.toNat / 2<row.length+i+j)→∀ c∈clsA row n1 ps i,LitsOk (n1+i+ps.length) c
 | [],i,_,_=>fun c hc=>by simp [clsA] at hc
 | p::ps,i,hB,hp=>by
  intro c hc;rw [List.length_cons] at hB;have h0:=hp 0 (by simp);simp only [List.getElem_cons_zero,Nat.add_zero] at h0;have hlr:=low_rowA hl i;have hzr:=nz_rowA hz n1 i;have hln:=rowA_len row n1 i;have x1:=inR_low hlr (by omega) (a:=p.1.toNat) (by omega);have x2:=inR_low hlr (by omega) (a:=p.2.toNat) (by omega);have z1:=nz_inR hzr hlr (by omega) (a:=p.1.toNat) (by omega);have z2:=nz_inR hzr hlr (by omega) (a:=p.2.toNat) (by omega);rw [clsA] at hc;rw [List.length_cons]
  rcases List.mem_append.1 hc with hc | hc
  ·simp only [cl3,List.mem_cons,List.not_mem_nil,or_false] at hc
   rcases hc with rfl | rfl | rfl <;> intro a ha <;> simp only [List.mem_cons,List.not_mem_nil,or_false] at ha
   ·rcases ha with rfl | rfl <;> omega
   ·rcases ha with rfl | rfl <;> omega
   ·rcases ha with rfl | rfl | rfl <;> omega
  ·have:=clsA_ok hz hl ps (i+1) (by omega) (fun j hj=>by have:=hp (j+1) (by simpa using hj); simp only [List.getElem_cons_succ] at this; omega) c hc;exact this.mono (by omega)
theorem nz_insRow {V ni:Nat} {lat:List Int} (h:Nz lat):Nz (insRow V ni ni lat):=by
 intro x hx;simp only [insRow,List.mem_cons,List.mem_append,List.mem_map,List.mem_range,List.mem_replicate] at hx
 rcases hx with rfl | ⟨j,hj,rfl⟩ | ⟨h1,rfl⟩ | hx
 ·omega
 ·omega
 ·omega
 ·exact h x hx
theorem nz_litsR {B:Nat} {row l:List Int} (h:Nz row) (hr:Low B row) (hB:B<2^40) (hl:∀ a∈l,a.toNat / 2<row.length):Nz (litsR row l):=by
 intro x hx;obtain ⟨a,ha,rfl⟩:=List.mem_map.1 hx;exact nz_inR h hr hB (hl a ha)
theorem nz_latB:∀ (v:Nat) (l:List Int),Nz (latB v l)
 | _,[]=>fun x hx=>by simp [latB] at hx
 | v,b::bs=>by
  intro x hx;rw [latB] at hx
  split at hx
  ·rcases List.mem_cons.1 hx with rfl | hx
   ·omega
   ·exact nz_latB _ bs x hx
  ·rcases List.mem_cons.1 hx with rfl | hx
   ·omega
   ·exact nz_latB _ bs x hx
theorem Bu.steps_ok {g:Gr} (ok:g.Ok):∀ (n:Nat) (b:Bu),b.Ok g n→Nz b.lat→(∀ c∈b.cls,LitsOk b.v c)→Nz (Bu.steps g n b).lat∧∀ c∈(Bu.steps g n b).cls,LitsOk (Bu.steps g n b).v c
 | 0,b,_,h1,h2=>⟨h1,h2⟩
 | n+1,b,hb,h1,h2=>by
  have hv:=hb.hv;rw [Nat.succ_mul] at hv;have hr1:=Bu.row1_len ok hb.lat;have hlow1:Low (b.v+g.ins.toNat) (b.row1 g):=low_insRow hb.low hb.v1;have hnz1:Nz (b.row1 g):=nz_insRow h1
  have hrl:(b.row g).length=g.all:=by unfold Bu.row; rw [rowA_len,hr1]; rfl
  refine Bu.steps_ok ok n (b.step g) (hb.step ok) ?_ ?_
  ·simp only [Bu.step];refine nz_litsR (nz_rowA hnz1 _ _) (low_rowA hlow1 _) (by omega) (fun a ha => ?_);have h3:=ok.next a ha;have h4:g.lits=2*g.all:=rfl
   have h5:a.toNat / 2<g.all:=by omega
   rw [← hrl] at h5;exact h5
  ·intro c hc;simp only [Bu.step,List.mem_append] at hc ⊢
   rcases hc with hc | hc
   ·exact (h2 c hc).mono (by omega)
   ·have:=clsA_ok hnz1 hlow1 g.ands 0 (by omega) (fun j hj=>by have:=ok.ands j hj; rw [hr1]; omega) c hc;simpa using this
theorem bu0_ok {g:Gr} {begin:List Int} {k:Nat} (h:canC g begin k=0):(bu0 begin).Ok g k:=by
 obtain ⟨h1,h2,h3,h4,h5,h6⟩:=canC_ok h;have ok:=Gr.ok_of h1;have o1:=ok.ins;have o3:=ok.sum;refine ⟨?_,?_,?_,?_,?_,?_⟩
 ·simp [bu0]
 ·simp [bu0,latB_len,h2]
 ·exact low_latB 1 begin (by omega) h3
 ·unfold manyC at h6;have hcc:=cnt2_count begin
  have e1:((g.ins.toNat+g.ands.length:Nat):Int)=g.ins+g.ands.length:=by omega
  rw [← e1,← Int.natCast_mul] at h6;simp only [bu0];omega
 ·simp only [bu0,List.length_cons,List.length_nil];have e1:k*(3*g.ands.length)≤40*(3*4000):=Nat.mul_le_mul (by omega) (by omega);omega
 ·simp [bu0]; omega
theorem unN_sizes {g:Gr} {begin:List Int} {k:Nat} (h:canC g begin k=0) :
  (unN g begin k).lits.length=k+1∧(∀ r∈(unN g begin k).lits,FullR g r.l)∧(unN g begin k).vars=((1+begin.count 2+k*(g.ins.toNat+g.ands.length):Nat):Int) ∧
  (unN g begin k).cls.length=1+k*(3*g.ands.length)∧(unN g begin k).vars≤20000∧∀ r∈(unN g begin k).cls,LitsOk (unN g begin k).vars.toNat r.l:=by
 obtain ⟨h1,h2,h3,h4,h5,h6⟩:=canC_ok h;have ok:=Gr.ok_of h1;have o1:=ok.ins;have hb:=bu0_ok h
 have e:unN g begin k=(Bu.steps g k (bu0 begin)).cn g:=by unfold unN; rw [if_pos h]; rfl
 rw [e];have hlat:(Bu.steps g k (bu0 begin)).lat.length=g.next.length:=Bu.steps_lat g k _ hb.lat
 have hv:(Bu.steps g k (bu0 begin)).v=1+begin.count 2+k*(g.ins.toNat+g.ands.length):=by rw [Bu.steps_v]; simp [bu0,cnt2_count]
 refine ⟨?_,?_,?_,?_,?_,?_⟩
 ·simp [Bu.cn,Bu.steps_lits,bu0]
 ·intro r hr;simp only [Bu.cn,List.mem_map,List.mem_append,List.mem_singleton] at hr;obtain ⟨c,hc,rfl⟩:=hr
  rcases hc with hc | rfl
  ·exact Bu.steps_full ok k (bu0 begin) hb.lat (by simp [bu0]) c hc
  ·exact Bu.last_full ok hlat
 ·simp only [Bu.cn,hv]
 ·simp [Bu.cn,Bu.steps_cls,bu0]
 ·simp only [Bu.cn,hv];unfold manyC at h6
  have e1:((g.ins.toNat+g.ands.length:Nat):Int)=g.ins+g.ands.length:=by omega
  rw [← e1,← Int.natCast_mul] at h6;omega
 ·intro r hr;simp only [Bu.cn,List.mem_map] at hr;obtain ⟨c,hc,rfl⟩:=hr
  exact (Bu.steps_ok ok k (bu0 begin) hb (nz_latB _ _) (by
   intro c hc;simp only [bu0,List.mem_singleton] at hc;subst hc;intro a ha;simp only [List.mem_singleton] at ha;subst ha
   simp only [bu0]; omega)).2 c hc
end Go.Proofs.Ytfpkjfmpamlakaa
namespace Go.Proofs.Ytfpkjfmpamlakaa
open Go.AM Go.Proofs
variable {Γ : Nat → Option AV}
theorem okL_app (n:Nat) (τ:List Nat) (a b:List AV):okL n τ (a++b)=(okL n τ a&&okL n τ b):=by
 induction a with
 | nil=>simp [okL]
 | cons x a ih=>simp [okL,ih,Bool.and_assoc]
theorem rnL_app (n:Nat) (τ:List Nat) (a b:List AV):rnL n τ (a++b)=rnL n τ a++rnL n τ b:=by
 induction a with
 | nil=>simp [rnL]
 | cons x a ih=>simp [rnL,ih]
theorem okL_eCl (n:Nat) (τ:List Nat) (l:List (List Int)):okL n τ (l.map eCl)=true:=by
 induction l with
 | nil=>rfl
 | cons x l ih=>simp [okL,okA,ih]
theorem rnL_eCl (n:Nat) (τ:List Nat) (l:List (List Int)):rnL n τ (l.map eCl)=l.map eCl:=by
 induction l with
 | nil=>rfl
 | cons x l ih=>simp [rnL,rnA,ih]
theorem vldL_app (i m:Nat) (a b:List AV):vldL i m (a++b)=(vldL i m a&&vldL i m b):=by
 induction a with
 | nil=>simp [vldL]
 | cons x a ih=>simp [vldL,ih,Bool.and_assoc]
theorem vldL_eCl (i m:Nat) (l:List (List Int)):vldL i m (l.map eCl)=true:=by
 induction l with
 | nil=>rfl
 | cons x l ih=>simp [vldL,vld,ih]
abbrev hUn (g:Gr) (b:Bu):List Ob:=hU0 g [ucell b.v b.cls.length (b.lits.length+1),.row 1 t_api_Clause_2 (b.cls.map eCl) none true false,.row 1 t_int_3 (b.lits.map eCl++[.sl 7 0 (1+g.ins.toNat+b.lat.length)]) none false false,
 .row 1 t_int ((insRow 0 0 g.ins.toNat b.lat).map i64) none true false]
set_option maxRecDepth 8000 in
theorem r_ru6 (g:Gr) (ok:g.Ok) (k:Nat) (hk:k<2^40) {c:Cfg}:∀ n i:Nat,i+n=k→∀ b:Bu,b.Ok g n →
  AM.Reach Try.prog Γ (ydO (.int .i64 k) (.ptr 0 0) (.ptr 1 0) (.ptr 4 0) (hUn g (Bu.steps g n b))) c →
  AM.Reach Try.prog Γ (ydN (.int .i64 k) (.ptr 0 0) (.ptr 1 0) (.ptr 4 0) (.int .i64 i) (hUn g b)) c:=by
 intro n
 induction n with
 | zero =>
  intro i hi b hb hc
  obtain rfl:i=k:=by omega
  refine .trans ?_ hc;refine .goS 60 ?_;simp [Bu.steps];exact .exit rfl rfl
 | succ n ih =>
  intro i hi b hb hc;have o1:=ok.ins;have hv:=hb.hv;have hcl:=hb.hc;have hl:=hb.hl;rw [Nat.succ_mul] at hv hcl
  have hni:g.ins=(g.ins.toNat:Nat):=by omega
  have hh:=ih (i+1) (by omega) (b.step g) (hb.step ok) hc
  have q1:(i:Int)<k:=by omega
  refine .goS 60 ?_;simp [q1];refine r_r19_step (Γ:=Γ) g ok b.v b.cls.length (b.lits.length+1) g.ins.toNat hni b.v hb.v1 (by omega) b.cls b.lits (by omega) (by omega) b.lat hb.lat hb.low _ (fun gr hgr rowF hF cls' hC row' hR => ?_);refine .trans (.pop _) ?_;refine .goS 60 ?_;simp (disch:=omega);refine .reLoop ?_;simp;refine .gcTo 4 [0,1,2,9] (by simp [okL_app,okL_eCl]) (by decide) ?_;simp [rnL_app,rnL_eCl]
  have hgr2:gr.getD 0=0:=by rcases hgr with rfl | rfl <;> rfl
  refine .resetIT (i:=5) rfl hgr (by simp) (by simp) (by simp [vldL_app,vldL_eCl]) ?_;refine .resetTo (i:=6) rfl (by simp) (by simp) (by simp [vldL_app,vldL_eCl]) ?_;simp
  have e1:b.step g=⟨b.v+g.ins.toNat+g.ands.length,cls',b.lits++[rowF],litsR rowF g.next⟩:=by
   simp only [Bu.step,Bu.row,Bu.row1,hC,hF]
  rw [e1] at hh
  have hrl:row'.length=1+g.ins.toNat+g.next.length:=by rw [hR,insRow_len (by omega)]; simp
  simp [hUn,hU0,ucell,hrl,← hR] at hh ⊢;exact hh
abbrev hUl (g:Gr) (V:Nat) (cls lits:List (List Int)) (row:List Int):List Ob:=hU0 g [ucell V cls.length (lits.length+1),.row 1 t_api_Clause_2 (cls.map eCl) none true false,.row 1 t_int_3 (lits.map eCl++[.sl 7 0 row.length]) none false false,.row 1 t_int (row.map i64) none true false]
set_option maxRecDepth 8000 in
theorem r_ru1 (g:Gr) (V:Nat) (cls lits:List (List Int)) (hll:lits.length<2^30) (row0:List Int) (hr:row0.length+g.ands.length<2^30) {c:Cfg}
  (hc:AM.Reach Try.prog Γ (ydL (.ptr 1 0) (.ptr 4 0) (hUl g V cls lits (row0++List.replicate g.ands.length 0))) c):∀ n i:Nat,i+n=g.ands.length→∀ row,row=row0++List.replicate i 0 →
  AM.Reach Try.prog Γ (ydK (.int .i64 lits.length) (.ptr 0 0) (.ptr 1 0) (.ptr 4 0) (.int .i64 i) (hUl g V cls lits row)) c:=by
 intro n
 induction n with
 | zero =>
  intro i hi row hrow
  obtain rfl:i=g.ands.length:=by omega
  subst hrow;refine .trans ?_ hc;refine .goS 60 ?_;simp;exact .exit rfl rfl
 | succ n ih =>
  intro i hi row hrow
  have q1:i<g.ands.length:=by omega
  have hh:=ih (i+1) (by omega) (row++[0]) (by rw [hrow,List.replicate_succ',List.append_assoc])
  have hrl:row.length=row0.length+i:=by rw [hrow]; simp
  have hat:∀ y:AV,(List.map eCl lits++[y])[lits.length]? = some y:=by
   intro y; rw [List.getElem?_append_right (by simp)]; simp
  have hat2:∀ y h,(List.map eCl lits++[y])[lits.length]'h=y:=by
   intro y h; rw [List.getElem_append_right (by simp)]; simp
  have hln:∀ y:AV,(List.map eCl lits++[y]).length=lits.length+1:=by intro y; simp
  have hlt:((lits.length:Int)<lits.length+1)=True:=eq_true (by omega)
  have hset:∀ x y,(List.map eCl lits++[x]).set lits.length y=List.map eCl lits++[y]:=by
   intro x y; rw [List.set_append,if_neg (by simp)]; simp
  have hlen:(List.map i64 row++[AV.int .i64 0]).length=row.length+1:=by simp
  refine .goS 60 ?_;simp [q1];refine .drS 60 ?_;simp (disch:=(first | omega | (simp; omega))) [hat,hat2,hln,hlt,hset];refine .reLoop ?_;simp;refine .resetTo (i:=7) rfl (by simp) (by simp) (by rw [hlen]; simp [vldL_app,vldL_eCl]) ?_;simp [hUl] at hh ⊢;exact hh
set_option maxRecDepth 8000 in
theorem p_r19_Unroll (g:Gr) (hf:g.few) (begin:List Int) {kb:Nat} (hb:Kd 1 kb begin) (hl:begin.length<2^40) (k:Int) :
  PureCon Try.prog Γ n_r19_Unroll [eGr g,.list false kb (begin.map i64),.int .i64 k] (.tup [eCn (unN g begin k),.int .i64 (canC g begin k)]):=by
 refine .run 60 c_r19_Unroll (by simp) ?_;simp;refine .call 60 (by simp) (p_r19_can g hf begin hb hl k) ?_;simp;unfold unN
 by_cases hc:canC g begin k=0
 ·simp [hc];obtain ⟨h1,h2,h3,h4,h5,h6⟩:=canC_ok hc;have ok:=Gr.ok_of h1;have o1:=ok.ins;have o3:=ok.sum;obtain ⟨kk,rfl⟩:=Int.eq_ofNat_of_zero_le h4;have kb:=r_begins (Γ:=Γ) g ok begin hb (by omega) h3 _ rfl;simp [hU0] at kb;refine .rcall 60 kb ?_;simp;refine .inLoop ?_;simp;refine .gc 4 [10,4,9,8] (by simp) (by decide) ?_;simp
  have hbu:(bu0 begin).Ok g kk:=by
   refine ⟨?_,?_,?_,?_,?_,?_⟩
   ·simp [bu0]
   ·simp [bu0,latB_len,h2]
   ·exact low_latB 1 begin (by omega) h3
   ·unfold manyC at h6;have hcc:=cnt2_count begin
    have e1:((g.ins.toNat+g.ands.length:Nat):Int)=g.ins+g.ands.length:=by omega
    rw [← e1,← Int.natCast_mul] at h6;simp only [bu0];omega
   ·simp only [bu0,List.length_cons,List.length_nil];have e1:kk*(3*g.ands.length)≤40*(3*4000):=Nat.mul_le_mul (by omega) (by omega);omega
   ·simp [bu0]; omega
  have k6:=r_ru6 (Γ:=Γ) g ok kk (by omega) kk 0 (by omega) (bu0 begin) hbu (.refl _);have hok:=Bu.Ok.steps ok hbu;have hbl:(bu0 begin).lat.length=begin.length:=latB_len _ _;have hb0:(bu0 begin).v=1+cnt2 begin∧(bu0 begin).cls=[[1]]∧(bu0 begin).lits=[]∧(bu0 begin).lat=latB 1 begin:=⟨rfl,rfl,rfl,rfl⟩
  have hil:(insRow 0 0 g.ins.toNat (latB 1 begin)).length=1+g.ins.toNat+begin.length:=by rw [insRow_len (by omega),latB_len]
  have hll:=Bu.steps_lits g kk (bu0 begin);generalize Bu.steps g kk (bu0 begin)=b at *;have hl:=hok.hl;have hlat:=hok.lat;have hbl2:(insRow 0 0 g.ins.toNat b.lat).length=1+g.ins.toNat+b.lat.length:=insRow_len (by omega);have k1:=r_ru1 (Γ:=Γ) g b.v b.cls b.lits (by omega) (insRow 0 0 g.ins.toNat b.lat) (by omega) (.refl _) g.ands.length 0 (by omega) (insRow 0 0 g.ins.toNat b.lat) (by simp);rw [show b.lits.length=kk by rw [hll,hb0.2.2.1]; simp] at k1
  have hlast:insRow 0 0 g.ins.toNat b.lat++List.replicate g.ands.length 0=b.last g:=by simp [Bu.last]
  rw [hlast] at k1;simp [hb0,hbl,hil,latB_len,hUn,hU0,ucell] at k6 ⊢;refine .reach k6 ?_;refine .go 60 ?_;simp;refine .inLoop ?_;simp [hUl,hU0,ucell,hbl2] at k1 ⊢;refine .reach k1 ?_
  have hvm:∀ h,viewL h (b.lits.map eCl)=some (b.lits.map eCl):=fun h=>viewL_map h _ _ (fun x=>by simp [view])
  have hrm:rowsOfL (b.lits.map eCl)=[]:=rowsOfL_map _ _ (fun x=>by simp);refine .freeze (i:=6) (es':=b.lits.map eCl++[eCl (b.last g)]) rfl rfl (by simp [hvm]) (by simp [hrm]) ?_;simp [hrm];unfold Bu.cn;refine .go 60 ?_;simp;exact .back (by simp; rw [List.take_of_length_le (by simp)]; rfl)
 ·simp [hc];exact .back (by simp [cn0])
end Go.Proofs.Ytfpkjfmpamlakaa
