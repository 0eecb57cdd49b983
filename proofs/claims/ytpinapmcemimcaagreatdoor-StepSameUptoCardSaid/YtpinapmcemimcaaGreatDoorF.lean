/- A list's elements' size. -/
import Derived.Test.YtpinapmcemimcaaGreatDoorAMd
import Derived.Test.YtpinapmcemimcaaGreatDoorCode
import Derived.Shelf.Strings.SlTrimAscii
import Derived.Test.YtpinapmcemimcaaGreatDoorShelf
import Derived.Laws.RangeString
import Derived.Laws.RangeAny
set_option linter.unusedSimpArgs false
set_option linter.unusedVariables false
namespace Go.Proofs.YtpinapmcemimcaaGreatDoor
open Go.AM Go.Proofs
def Kd (n k:Nat) {α:Type} (l:List α):Prop:=k=n∨l=[]
theorem Kd.of {n k:Nat} {α:Type} {l:List α} (h:Kd n k l) {i:Nat} (hi:i<l.length):k=n:=by
 rcases h with h | h
 ·exact h
 ·subst h; simp at hi
theorem Kd.self {n:Nat} {α:Type} {l:List α}:Kd n n l:=.inl rfl
theorem Kd.nil {n k:Nat} {α:Type}:Kd n k ([]:List α):=.inr rfl
@[simp] abbrev i64 (n:Int):AV:=.int .i64 n
end Go.Proofs.YtpinapmcemimcaaGreatDoor
namespace Go.Proofs.YtpinapmcemimcaaGreatDoor
open Go.AM Go.Proofs
variable {Γ : Nat → Option AV}
abbrev Bs:=List UInt8
structure Lt where
 name:Bs
 next:Bs
 init:Int
 deriving DecidableEq
abbrev eLt (q:Lt):AV:=.agg [.str q.name,.str q.next,.int .i64 q.init]
structure Gt where
 name:Bs
 op:Int
 ins:List Bs
 rows:List Bs
 off:Bool
 ki:Nat
 kr:Nat
 hi:Kd 1 ki ins
 hr:Kd 1 kr rows
abbrev eGt (g:Gt):AV:=.agg [.str g.name,.int .i64 g.op,.list false g.ki (g.ins.map .str),.list false g.kr (g.rows.map .str),.bool g.off]
structure Ct where
 inputs:List Bs
 outputs:List Bs
 latches:List Lt
 gates:List Gt
 kI:Nat
 kO:Nat
 kL:Nat
 kG:Nat
 hI:Kd 1 kI inputs
 hO:Kd 1 kO outputs
 hL:Kd 3 kL latches
 hG:Kd 5 kG gates
abbrev eCt (c:Ct):AV:=.agg [.list false c.kI (c.inputs.map .str),.list false c.kO (c.outputs.map .str),.list false c.kL (c.latches.map eLt),.list false c.kG (c.gates.map eGt)]
def GtFew (g:Gt):Prop:=g.name.length<2^40∧g.ins.length<2^10∧g.rows.length<2^10∧(∀ s∈g.ins,s.length<2^40)∧∀ s∈g.rows,s.length<2^40
def CtFew (c:Ct):Prop:=c.inputs.length<2^10∧c.outputs.length<2^10∧c.latches.length<2^10∧c.gates.length<2^10∧(∀ g∈c.gates,GtFew g) ∧
 (∀ s∈c.inputs,s.length<2^40)∧(∀ s∈c.outputs,s.length<2^40)∧∀ q∈c.latches,q.name.length<2^40∧q.next.length<2^40
theorem grow1 {α β:Type} (a:List β) (f:α→β) (l:List α) {i:Nat} (h:i<l.length):a++(l.drop i).map f=a++[f l[i]]++(l.drop (i+1)).map f:=by
 rw [List.drop_eq_getElem_cons h,List.map_cons,List.append_assoc]; rfl
def netsC (c:Ct):List Bs:=c.inputs++c.latches.map (·.name)++c.gates.map (·.name)
def sgn:Bs:=[48,49,45]
def sgnC (c:UInt8):Bool:=decide (c=48)||(decide (c=49)||decide (c=45))
def rowB (n:Nat) (s:Bs):Bool:=s.all sgnC&&decide (s.length=n)
theorem sgn_has (c:UInt8):sgn.contains c=sgnC c:=by
 revert c
 rw [show (∀ c:UInt8,sgn.contains c=sgnC c)↔∀ n:Fin 256,sgn.contains (UInt8.ofNat n)=sgnC (UInt8.ofNat n) from
  ⟨fun h n=>h _,fun h c=>by have:=h ⟨c.toNat,c.toNat_lt⟩; simpa using this⟩]
 decide +kernel
theorem dropWhile_all {α:Type} {p:α→Bool}:∀ {l:List α},l.dropWhile p=[]↔∀ x∈l,p x=true
 | []=>by simp
 | a::l=>by
  rw [List.dropWhile_cons]
  cases h:p a with
  | true=>simp [dropWhile_all (l:=l),h]
  | false=>simp [h]
theorem dropWhile_nil {α:Type} (p:α→Bool) (l:List α) (h:∀ x∈l.dropWhile p,p x=true):l.dropWhile p=[]:=by
 cases hd:l.dropWhile p with
 | nil=>rfl
 | cons a t =>
  have h1:=List.head_dropWhile_not p (l:=l) (by rw [hd]; simp);simp only [hd,List.head_cons] at h1;rw [h a (by rw [hd]; simp)] at h1
  cases h1
theorem trim_nil (s:Bs):(Lib.trimS s sgn=[])↔s.all sgnC=true:=by
 have e:(fun c=>sgn.contains c)=sgnC:=funext sgn_has;unfold Lib.trimS Lib.trimLeftS Lib.trimRightS;rw [e];constructor
 ·intro h
  have h1:=dropWhile_nil sgnC s.reverse fun x hx=>by
   have:=dropWhile_all.1 h x (by simpa using hx);exact this
  have h2:=dropWhile_all.1 h1;rw [List.all_eq_true];intro x hx;exact h2 x (by simpa using hx)
 ·intro h
  have h1:s.reverse.dropWhile sgnC=[]:=dropWhile_all.2 fun x hx=>List.all_eq_true.1 h x (by simpa using hx)
  rw [h1];rfl
theorem p_Trim (s:Bs) (hs:s.length<2^40):PureCon Tryz.prog Γ n_strings_Trim [.str s,.str sgn] (.str (Lib.trimS s sgn)):=by
 refine PureCon.libB (by simp) (fun _=>rfl) rfl fun N g h w us _ hV => ?_
 obtain ⟨us,rfl,h1⟩:=VL_str hV;obtain ⟨us,rfl,h2⟩:=VL_str h1;obtain rfl:=VL_nil' h2;refine (Any.strings_Trim_laid Tryz.lays160 (by kernel_rfl) ⟨s.toArray⟩ ⟨sgn.toArray⟩ w (by simp [ByteArray.size]; omega) (by decide) (ascii_of_all (by decide))).mono ?_
 rintro e' w' ⟨rfl,hB⟩
 exact ⟨⟨_,rfl,fun _ _=>by simp [V]⟩,hB⟩
theorem p_row (s:Bs) (n:Nat) (hs:s.length<2^40):PureCon Tryz.prog Γ n_net_row [.str s,.int .i64 n] (.bool (rowB n s)):=by
 refine .run 60 c_net_row (by simp) ?_;unfold rowB
 by_cases h:s.length=n
 ·have h':(s.length:Int)=n:=by omega
  have hT:=p_Trim (Γ:=Γ) s hs;unfold sgn at hT
  have h2:decide (Lib.trimS s [48,49,45]=[])=s.all sgnC:=by
   rw [Bool.eq_iff_iff,decide_eq_true_iff]; exact trim_nil s
  simp [h,h'];refine .call 60 (by simp) hT ?_;simp [h2];exact .back (by simp [h2,h])
 ·have h':¬ (s.length:Int)=n:=by omega
  simp [h,h'];exact .back (by simp [h])
end Go.Proofs.YtpinapmcemimcaaGreatDoor
namespace Go.Proofs.YtpinapmcemimcaaGreatDoor
abbrev gIns:Nat:=0
end Go.Proofs.YtpinapmcemimcaaGreatDoor
namespace Go.Proofs.YtpinapmcemimcaaGreatDoor
open Go.AM Go.Proofs
variable {Γ : Nat → Option AV}
theorem p_IndexFunc_str {φ : List Ob→Prop} {f:FuncId} {caps:List AV} {p:(List UInt8)→Bool} {l:List (List UInt8)} {k:Nat} {fl:Bool} (ha:Asks Tryz.prog Γ φ f caps AV.str p l) (hk:Kd 1 k l) (hs:l.length<2^60) {h:List Ob} (hφ : φ h) :
  ∀ up,AM.Reach Tryz.prog Γ (.cl n_slices_IndexFunc_string_string [.list fl k (l.map AV.str),.fn (.func f) [] caps] up h) (.back up (.int .i64 (idxF p l 0)) h):=by
 intro up
 have key:∀ n i:Nat,i+n=l.length→AM.Reach Tryz.prog Γ (ysV (.list fl k (l.map AV.str)) (.fn (.func f) [] caps) (.int .i64 l.length) (.int .i64 i) h ⟨[],.norm,h.length,up⟩) (.back up (.int .i64 (idxF p (l.drop i) i)) h):=by
  intro n
  induction n with
  | zero =>
   intro i hi
   have h1:¬ i<l.length:=by omega
   refine .goB 60 ?_;rw [List.drop_eq_nil_of_le (by omega)];simp [h1,idxF]
  | succ n ih =>
   intro i hi
   have h1:i<l.length:=by omega
   obtain rfl:=hk.of h1;have h2:=ha.2 l[i] (List.getElem_mem h1);rw [List.drop_eq_getElem_cons h1,idxF];have hh:=ih (i+1) (by omega);refine .goB 60 ?_;simp [h1,ha.1];refine .rcall 60 (fun up=>h2 up h hφ) ?_
   cases hp:p l[i] with
   | true=>simp (disch:=omega) [hp]
   | false =>
    simp (disch:=omega) [hp];refine .reLoop ?_;simp at hh ⊢;exact hh
 refine .enterB 60 c_slices_IndexFunc_string_string ?_;simp;refine .inLoop ?_;have hh:=key l.length 0 (by omega);simp at hh ⊢;exact hh
theorem p_ContainsFunc_str {φ : List Ob→Prop} {f:FuncId} {caps:List AV} {p:(List UInt8)→Bool} {l:List (List UInt8)} {k:Nat} {fl:Bool} (ha:Asks Tryz.prog Γ φ f caps AV.str p l) (hk:Kd 1 k l) (hs:l.length<2^60) {h:List Ob} (hφ : φ h) :
  ∀ up,AM.Reach Tryz.prog Γ (.cl n_slices_ContainsFunc_string_string [.list fl k (l.map AV.str),.fn (.func f) [] caps] up h) (.back up (.bool (anyB p l)) h):=by
 intro up;refine .enterB 60 c_slices_ContainsFunc_string_string ?_;simp;refine .rcall 60 (p_IndexFunc_str ha hk hs hφ) ?_;have h1:=idxF_ge p l 0
 cases hp:anyB p l with
 | true=>rw [hp] at h1; simp at h1; simp [h1]
 | false =>
  rw [hp] at h1
  have h2:¬ 0≤idxF p l 0:=by rw [h1]; simp
  simp [h2]
abbrev p2 (a b:Int):AV:=.agg [.int .i64 a,.int .i64 b]
def insO (n:Int):Option AV:=if 4≤n∧n≤9 then some (p2 2 8) else if n=0∨n=1 then some (p2 0 0) else if n=2∨n=3 then some (p2 1 1) else if n=10 then some (p2 0 8) else none
def InsG (Γ:Nat→Option AV):Prop:=∃ ks vs,Γ gIns=some (.kmp ks vs)∧∀ n:Int,findIn (.sc .int) (.int .i64 n) (ks.zip vs)=some (insO n)
def opB (op:Int) (n:Nat):Bool:=if 4≤op∧op≤9 then decide (2≤n∧n≤8) else if op=0∨op=1 then decide (n=0) else if op=2∨op=3 then decide (n=1) else false
def hasB (op:Int) (n:Nat):Bool:=if op=10 then decide (n≤8) else opB op n
def gateB (g:Gt):Bool :=
 if g.op=10 then decide (g.ins.length≤8)&&(decide (g.rows.length≤128) && !anyB (fun s => !rowB g.ins.length s) g.rows) else !(decide (0<g.rows.length)||g.off)&&opB g.op g.ins.length
theorem has_some {ks vs:List AV} (hG:Γ gIns=some (.kmp ks vs)) {op a b:Int} (hF:findIn (.sc .int) (.int .i64 op) (ks.zip vs)=some (some (p2 a b))) (n:Int):PureCon Tryz.prog Γ n_net_has [.int .i64 op,.int .i64 n] (.bool (decide (a≤n)&&decide (n≤b))):=by
 simp only [gIns] at hG;refine .run 60 c_net_has (by simp) ?_
 by_cases h:a≤n
 ·simp [hG,hF,h,isKey,allDatum,isDatum];exact .back (by simp)
 ·simp [hG,hF,h,isKey,allDatum,isDatum];exact .back (by simp)
theorem has_none {ks vs:List AV} (hG:Γ gIns=some (.kmp ks vs)) {op:Int} (hF:findIn (.sc .int) (.int .i64 op) (ks.zip vs)=some none) (n:Int):PureCon Tryz.prog Γ n_net_has [.int .i64 op,.int .i64 n] (.bool false):=by
 simp only [gIns] at hG;refine .run 60 c_net_has (by simp) ?_;simp [hG,hF,isKey,allDatum,isDatum];exact .back (by simp)
theorem p_has (hΓ:InsG Γ) (op:Int) (n:Nat):PureCon Tryz.prog Γ n_net_has [.int .i64 op,.int .i64 n] (.bool (hasB op n)):=by
 obtain ⟨ks,vs,hG,hF⟩:=hΓ;have h1:=hF op;unfold insO at h1
 by_cases a:4≤op∧op≤9
 ·rw [if_pos a] at h1
  have e:hasB op n=(decide ((2:Int)≤n)&&decide ((n:Int)≤8)):=by
   unfold hasB opB;rw [if_neg (by omega),if_pos a,Bool.eq_iff_iff]
   simp only [Bool.and_eq_true,decide_eq_true_eq]; omega
  rw [e];exact has_some hG h1 n
 ·rw [if_neg a] at h1
  by_cases b:op=0∨op=1
  ·rw [if_pos b] at h1
   have e:hasB op n=(decide ((0:Int)≤n)&&decide ((n:Int)≤0)):=by
    unfold hasB opB;rw [if_neg (by omega),if_neg a,if_pos b,Bool.eq_iff_iff]
    simp only [Bool.and_eq_true,decide_eq_true_eq]; omega
   rw [e];exact has_some hG h1 n
  ·rw [if_neg b] at h1
   by_cases c:op=2∨op=3
   ·rw [if_pos c] at h1
    have e:hasB op n=(decide ((1:Int)≤n)&&decide ((n:Int)≤1)):=by
     unfold hasB opB;rw [if_neg (by omega),if_neg a,if_neg b,if_pos c,Bool.eq_iff_iff]
     simp only [Bool.and_eq_true,decide_eq_true_eq]; omega
    rw [e];exact has_some hG h1 n
   ·rw [if_neg c] at h1
    by_cases d:op=10
    ·rw [if_pos d] at h1
     have e:hasB op n=(decide ((0:Int)≤n)&&decide ((n:Int)≤8)):=by
      unfold hasB;rw [if_pos d,Bool.eq_iff_iff]
      simp only [Bool.and_eq_true,decide_eq_true_eq]; omega
     rw [e];exact has_some hG h1 n
    ·rw [if_neg d] at h1
     have e:hasB op n=false:=by
      unfold hasB opB;rw [if_neg d,if_neg a,if_neg b,if_neg c]
     rw [e];exact has_none hG h1 n
theorem a_oddRow (g:Gt) (i:Nat) (hg:GtFew g):Asks Tryz.prog Γ (fun h=>h[i]? = some (.cells (AV.cells (eGt g)))) n_net_Gate_1 [.ptr i 0] AV.str (fun s => !rowB g.ins.length s) g.rows:=by
 refine ⟨by simp,fun s hs up h hφ => ?_⟩;refine .enterB 60 c_net_Gate_1 ?_;simp [hφ];refine .callB 60 (by simp) (p_row s g.ins.length (hg.2.2.2.2 s hs)) ?_;simp
theorem p_Gate (hΓ:InsG Γ) (g:Gt) (hg:GtFew g):PureCon Tryz.prog Γ n_net_Gate [eGt g] (.bool (gateB g)):=by
 have b1:=hg.2.1;have b2:=hg.2.2.1;refine .run 60 c_net_Gate (by simp) ?_;unfold gateB;have hH:=p_has hΓ g.op g.ins.length;have hC:=p_ContainsFunc_str (Γ:=Γ) (fl:=false) (a_oddRow g 0 hg) g.hr (by omega) (h:=[.cells (AV.cells (eGt g))]) rfl
 by_cases ho:g.op=10
 ·simp [ho];rw [ho] at hH;refine .call 60 (by simp) hH ?_;have e:((g.ins.length:Int)≤8)=(g.ins.length≤8):=propext (by omega);have e2:((g.rows.length:Int)≤128)=(g.rows.length≤128):=propext (by omega)
  by_cases h1:g.ins.length≤8
  ·by_cases h2:g.rows.length≤128
   ·simp [hasB,h1,h2,e2];simp [ho] at hC;refine .rcall 60 hC ?_;simp;exact .back (by simp)
   ·simp [hasB,h1,h2,e2];exact .back (by simp)
  ·simp [hasB,h1];exact .back (by simp)
 ·simp only [if_neg ho]
  by_cases h1:0<g.rows.length
  ·have e:((0:Int)<g.rows.length)=True:=eq_true (by omega);simp [ho,h1,e];exact .back (by simp)
  ·have e:((0:Int)<g.rows.length)=False:=eq_false (by omega)
   cases h2:g.off with
   | true =>
    simp [ho,h1,h2,e];exact .back (by simp)
   | false =>
    have h0:g.rows=[]:=List.length_eq_zero_iff.1 (by omega);simp [ho,h0,h2];refine .call 60 (by simp) hH ?_
    cases h3:opB g.op g.ins.length with
    | false =>
     simp [hasB,ho,h3];exact .back (by simp)
    | true =>
     simp [hasB,ho,h3];simp only [h0,h2,AV.cells,List.map_nil] at hC;refine .rcall 60 hC ?_;simp [anyB_nil];exact .back (by simp)
def cntB:List Bool→Nat
 | []=>0
 | v::l=>(if v=true then 1 else 0)+cntB l
theorem p_step_count (l:List Bool) {k:Nat} (hk:Kd 1 k l) (hl:l.length<2^40):PureCon Tryz.prog Γ n_step_count [.list false k (l.map .bool)] (.int .i64 (cntB l)):=by
 have key:∀ n i:Nat,i+n=l.length→∀ a:Nat,a+n<2^41→Fins Tryz.prog Γ (ysC (.int .i64 a) (.list false k (l.map .bool)) (.int .i64 l.length) (.int .i64 i) []) (.ret (.int .i64 (a+cntB (l.drop i):Nat))):=by
  intro n
  induction n with
  | zero =>
   intro i hi a ha
   have q1:¬ i<l.length:=by omega
   rw [List.drop_eq_nil_of_le (by omega),cntB];refine .go 60 ?_;simp [q1];exact .back (by simp)
  | succ n ih =>
   intro i hi a ha
   have q1:i<l.length:=by omega
   have q2:=eq_true (hk.of q1);rw [List.drop_eq_getElem_cons q1,cntB];refine .go 60 ?_
   cases h3:l[i] with
   | true =>
    have hh:=ih (i+1) (by omega) (a+1) (by omega);simp (disch:=omega) [q1,q2,h3];refine .reLoop ?_;simp [q2,← Int.add_assoc] at hh ⊢;exact hh
   | false =>
    have hh:=ih (i+1) (by omega) a (by omega);simp (disch:=omega) [q1,q2,h3];refine .reLoop ?_;simp [q2] at hh ⊢;exact hh
 refine .run 60 c_step_count (by simp) ?_;simp;refine .inLoop ?_;have hh:=key l.length 0 (by omega) 0 (by omega);simp at hh ⊢;exact hh
def fitsS:Bs→List Bool→Bool
 | c::s,v::l=>(decide (c=45)||decide (decide (c=49)=v))&&fitsS s l
 | _,_=>true
theorem p_fits (s:Bs) (l:List Bool) {k:Nat} (hk:Kd 1 k l) (hl:l.length=s.length) (hs:s.length<2^40):PureCon Tryz.prog Γ n_step_fits [.str s,.list false k (l.map .bool)] (.bool (fitsS s l)):=by
 have key:∀ n i:Nat,i+n=l.length→Fins Tryz.prog Γ (ylG (.str s) (.list false k (l.map .bool)) (.int .i64 l.length) (.int .i64 i) []) (.ret (.bool (fitsS (s.drop i) (l.drop i)))):=by
  intro n
  induction n with
  | zero =>
   intro i hi
   have q1:¬ i<l.length:=by omega
   rw [List.drop_eq_nil_of_le (by omega),List.drop_eq_nil_of_le (by omega)];refine .go 60 ?_;simp [q1,fitsS];exact .back (by simp)
  | succ n ih =>
   intro i hi
   have q1:i<l.length:=by omega
   have q3:i<s.length:=by omega
   have q2:=eq_true (hk.of q1);have hh:=ih (i+1) (by omega);rw [List.drop_eq_getElem_cons q1,List.drop_eq_getElem_cons q3,fitsS];refine .go 60 ?_
   by_cases a:s[i]=45
   ·simp (disch:=omega) [q1,q2,q3,a];refine .reLoop ?_;simp [q2] at hh ⊢;exact hh
   ·by_cases b:s[i]=49
    ·cases c:l[i] with
     | true =>
      simp (disch:=omega) [q1,q2,q3,b,c];refine .reLoop ?_;simp [q2] at hh ⊢;exact hh
     | false =>
      simp (disch:=omega) [q1,q2,q3,b,c];exact .back (by simp)
    ·cases c:l[i] with
     | true =>
      simp (disch:=omega) [q1,q2,q3,a,b,c];exact .back (by simp [a,b])
     | false =>
      simp (disch:=omega) [q1,q2,q3,a,b,c];refine .reLoop ?_;simp [q2] at hh ⊢;exact hh
 refine .run 60 c_step_fits (by simp) ?_;simp;refine .inLoop ?_;have hh:=key l.length 0 (by omega);simp at hh ⊢;exact hh
def opV (op:Int) (l:List Bool):Bool:=if op=0∨op=1 then false else if op=2∨op=3∨op=4∨op=5 then decide (cntB l=l.length) else if op=6∨op=7 then decide (0<cntB l) else decide (cntB l % 2=1)
def opT (op:Int):Bool:=decide (op=1∨op=3∨op=5∨op=7∨op=9)
def opF (op:Int):AV:=if op=0∨op=1 then .fn (.func n_step_of_1) [] [] else if op=2∨op=3∨op=4∨op=5 then .fn (.func n_step_of_2) [] [] else if op=6∨op=7 then .fn (.func n_step_of_3) [] [] else if op=8∨op=9 then .fn (.func n_step_of_4) [] [] else .nilf
theorem op_cases {op:Int} (h0:0≤op) (h1:op≤10):op=0∨op=1∨op=2∨op=3∨op=4∨op=5∨op=6∨op=7∨op=8∨op=9∨op=10:=by omega
set_option maxRecDepth 8000 in
theorem p_step_of (op:Int) (h0:0≤op) (h1:op≤10):PureCon Tryz.prog Γ n_step_of [.int .i64 op] (.agg [opF op,.bool (opT op)]):=by
 refine .run 200 c_step_of (by simp) ?_
 rcases op_cases h0 h1 with rfl | rfl | rfl | rfl | rfl | rfl | rfl | rfl | rfl | rfl | rfl
 all_goals
  simp;exact .back (by simp [opF,opT])
theorem p_of_1 (l:List Bool) {k:Nat} (hk:Kd 1 k l):PureCon Tryz.prog Γ n_step_of_1 [.list false k (l.map .bool)] (.bool false):=by
 refine .run 60 c_step_of_1 (by simp) ?_;simp;exact .back (by simp)
theorem p_of_2 (l:List Bool) {k:Nat} (hk:Kd 1 k l) (hl:l.length<2^40):PureCon Tryz.prog Γ n_step_of_2 [.list false k (l.map .bool)] (.bool (decide (cntB l=l.length))):=by
 have e:((cntB l:Int)=l.length)=(cntB l=l.length):=propext (by omega);refine .run 60 c_step_of_2 (by simp) ?_;simp;refine .call 60 (by simp) (p_step_count l hk hl) ?_;simp [e];exact .back (by simp)
theorem p_of_3 (l:List Bool) {k:Nat} (hk:Kd 1 k l) (hl:l.length<2^40):PureCon Tryz.prog Γ n_step_of_3 [.list false k (l.map .bool)] (.bool (decide (0<cntB l))):=by
 refine .run 60 c_step_of_3 (by simp) ?_;simp;refine .call 60 (by simp) (p_step_count l hk hl) ?_;simp;exact .back (by simp)
theorem p_of_4 (l:List Bool) {k:Nat} (hk:Kd 1 k l) (hl:l.length<2^40):PureCon Tryz.prog Γ n_step_of_4 [.list false k (l.map .bool)] (.bool (decide (cntB l % 2=1))):=by
 refine .run 60 c_step_of_4 (by simp) ?_;simp;refine .call 60 (by simp) (p_step_count l hk hl) ?_;have e2:((cntB l:Int) % 2=1)=(cntB l % 2=1):=propext (by omega);simp [e2];exact .back (by simp)
def gateOk (g:Gt) (ins:List Bool):Bool:=gateB g&&decide (ins.length=g.ins.length)
def gateR (g:Gt) (ins:List Bool):Bool:=if g.op=10 then !decide (anyB (fun s=>fitsS s ins) g.rows=g.off) else !decide (opV g.op ins=opT g.op)
def gateV (g:Gt) (ins:List Bool):Bool:=gateOk g ins&&gateR g ins
def gateE (g:Gt) (ins:List Bool):Int:=if gateOk g ins=true then 0 else 1
theorem a_fits (g:Gt) (ins:List Bool) {k:Nat} (hk:Kd 1 k ins) (i:Nat) (hl:∀ s∈g.rows,ins.length=s.length∧s.length<2^40):Asks Tryz.prog Γ (fun h=>h[i]? = some (.cells [.list false k (ins.map .bool)])) n_step_Gate_1_1 [.ptr i 0] AV.str (fun s=>fitsS s ins) g.rows:=by
 refine ⟨by simp,fun s hs up h hφ => ?_⟩;have hf:=p_fits (Γ:=Γ) s ins hk (hl s hs).1 (hl s hs).2;refine .enterB 60 c_step_Gate_1_1 ?_;simp [hφ];refine .callB 60 (by simp) hf ?_;simp
theorem r_gate1 (g:Gt) (hg:GtFew g) (ins:List Bool) {k:Nat} (hk:Kd 1 k ins) (j:Nat) (hl:∀ s∈g.rows,ins.length=s.length∧s.length<2^40) {h:List Ob} (hj:h[j]? = some (.cells (AV.cells (eGt g)))):∀ up,AM.Reach Tryz.prog Γ (.cl n_step_Gate_1 [.list false k (ins.map .bool),.ptr j 0] up h) (.back up (.bool (anyB (fun s=>fitsS s ins) g.rows)) (h++[.cells [.list false k (ins.map .bool)]])):=by
 intro up
 have hget:=fun os=>get_app hj os
 have hC:=p_ContainsFunc_str (Γ:=Γ) (fl:=false) (a_fits g ins hk h.length hl) g.hr (by have:=hg.2.2.1; omega) (h:=h++[.cells [.list false k (ins.map .bool)]]) (by simp);refine .enterB 60 c_step_Gate_1 ?_;simp [hget];refine .rcall 60 hC ?_;simp
set_option maxRecDepth 8000 in
theorem p_step_Gate (hΓ:InsG Γ) (g:Gt) (hg:GtFew g) (ins:List Bool) {k:Nat} (hk:Kd 1 k ins) (hli:ins.length<2^40):PureCon Tryz.prog Γ n_step_Gate [eGt g,.list false k (ins.map .bool)] (.tup [.bool (gateV g ins),.int .i64 (gateE g ins)]):=by
 have kG:=p_Gate hΓ g hg;have e:((ins.length:Int)=g.ins.length)=(ins.length=g.ins.length):=propext (by omega);unfold gateV gateE gateOk;refine .run 200 c_step_Gate (by simp) ?_;simp;refine .call 200 (by simp) kG ?_
 cases hb:gateB g with
 | false =>
  simp;exact .back (by simp)
 | true =>
  by_cases hn:ins.length=g.ins.length
  ·have hop:0≤g.op∧g.op≤10:=by
    unfold gateB opB at hb
    by_cases h10:g.op=10
    ·omega
    ·rw [if_neg h10] at hb;simp only [Bool.and_eq_true] at hb;have hb2:=hb.2
     split at hb2
     ·omega
     ·split at hb2
      ·omega
      ·split at hb2
       ·omega
       ·cases hb2
   have kO:=p_step_of (Γ:=Γ) g.op hop.1 hop.2
   by_cases h10:g.op=10
   ·have hrow:∀ s∈g.rows,ins.length=s.length∧s.length<2^40:=fun s hs=>by
     unfold gateB at hb;rw [if_pos h10] at hb;simp only [Bool.and_eq_true,Bool.not_eq_true'] at hb;have:=anyB_no.1 hb.2.2 s hs;simp only [Bool.not_eq_false',rowB,Bool.and_eq_true,decide_eq_true_eq] at this;exact ⟨by omega,hg.2.2.2.2 s hs⟩
    have hR:=fun (h:List Ob) hj=>r_gate1 (Γ:=Γ) g hg ins hk 0 hrow (h:=h) hj
    have e10:opF 10=.nilf:=rfl;have e11:opT 10=false:=rfl;rw [h10,e10,e11] at kO;simp [hn,e,h10];refine .call 200 (by simp) kO ?_;simp [gateR,h10];refine .dr 200 ?_;simp;refine .reach (by simp) (hR _ (by simp [h10])) ?_;simp;exact .back (by simp)
   ·obtain ⟨f,e1,hbf,hpf⟩:∃ f,opF g.op=.fn (.func f) [] []∧hasBody Tryz.prog f=true∧PureCon Tryz.prog Γ f [.list false k (ins.map .bool)] (.bool (opV g.op ins)):=by
     rcases op_cases hop.1 hop.2 with c | c | c | c | c | c | c | c | c | c | c
     ·rw [c]; exact ⟨_,rfl,by simp,p_of_1 ins hk⟩
     ·rw [c]; exact ⟨_,rfl,by simp,p_of_1 ins hk⟩
     ·rw [c]; exact ⟨_,rfl,by simp,p_of_2 ins hk hli⟩
     ·rw [c]; exact ⟨_,rfl,by simp,p_of_2 ins hk hli⟩
     ·rw [c]; exact ⟨_,rfl,by simp,p_of_2 ins hk hli⟩
     ·rw [c]; exact ⟨_,rfl,by simp,p_of_2 ins hk hli⟩
     ·rw [c]; exact ⟨_,rfl,by simp,p_of_3 ins hk hli⟩
     ·rw [c]; exact ⟨_,rfl,by simp,p_of_3 ins hk hli⟩
     ·rw [c]; exact ⟨_,rfl,by simp,p_of_4 ins hk hli⟩
     ·rw [c]; exact ⟨_,rfl,by simp,p_of_4 ins hk hli⟩
     ·exact absurd c h10
    rw [e1] at kO;simp [hn,e,h10,gateR];refine .call 200 (by simp) kO ?_;simp [h10,hbf];refine .dr 200 ?_;simp [hbf];refine .call (by simp) hpf ?_;simp;exact .back (by simp)
  ·simp [hn,e];exact .back (by simp)
theorem p_slices_Clone_string_string (l:List (List UInt8)) {k:Nat} (hk:Kd 1 k l) (hl:l.length<2^40):PureCon Tryz.prog Γ n_slices_Clone_string_string [.list false k (l.map AV.str)] (.own 1 t_string (l.map AV.str)):=by
 refine .run 60 c_slices_Clone_string_string (by simp) ?_
 cases l with
 | nil =>
  simp;refine .either 0 (by simp) (fun b => ?_)
  cases b
  ·refine .go 9 ?_;simp;refine .nilslot 2 1 t_string rfl (by omega) ?_;refine .go 60 ?_;simp;exact .back (by simp)
  ·refine .go 60 ?_;simp;exact .back (by simp)
 | cons x xs =>
  have hk0:k=1:=by
   rcases hk with h | h
   ·exact h
   ·cases h
  subst hk0;simp at hl;simp (disch:=(first | omega | (simp; omega)));exact .back (by simp)
theorem f_netsG (c:Ct) (hc:CtFew c):∀ n i:Nat,i+n=c.gates.length→∀ l:List Bs,l.length+n<2^40 →
  Fins Tryz.prog Γ (yvk (.sl 2 0 l.length) (.list false c.kG (c.gates.map eGt)) (.int .i64 c.gates.length) (.int .i64 i) [.cells (AV.cells (eCt c)),.row 1 t_string [] none true false,.row 1 t_string (l.map .str) none true false]) (.ret (.own 1 t_string ((l++(c.gates.drop i).map (·.name)).map .str))):=by
 have hG:=c.hG;have hl:=hc.2.2.2.1;intro n
 induction n with
 | zero =>
  intro i hi l hL
  have q1:¬ i<c.gates.length:=by omega
  rw [List.drop_eq_nil_of_le (by omega)];refine .go 60 ?_;simp [q1];exact .back (by simp)
 | succ n ih =>
  intro i hi l hL
  have q1:i<c.gates.length:=by omega
  have q2:=hG.of q1;have hh:=ih (i+1) (by omega) (l++[c.gates[i].name]) (by simp; omega);have e:l++(c.gates.drop i).map (·.name)=l++[c.gates[i].name]++(c.gates.drop (i+1)).map (·.name):=grow1 l (·.name) _ q1;rw [e];refine .go 60 ?_;simp (disch:=omega) [q1,q2];refine .reLoop ?_;simp;refine .drop 3 rfl (by simp) (by simp) (by simp) ?_;refine .reset (i:=2) rfl (by simp) (by simp) (by simp) ?_;simp [q2] at hh ⊢;exact hh
theorem f_netsL (c:Ct) (hc:CtFew c):∀ n i:Nat,i+n=c.latches.length→∀ l:List Bs,l.length+n<2^39 →
  Fins Tryz.prog Γ (yvm (.ptr 0 0) (.sl 2 0 l.length) (.list false c.kL (c.latches.map eLt)) (.int .i64 c.latches.length) (.int .i64 i) [.cells (AV.cells (eCt c)),.row 1 t_string [] none true false,.row 1 t_string (l.map .str) none true false]) (.ret (.own 1 t_string ((l++(c.latches.drop i).map (·.name)++c.gates.map (·.name)).map .str))):=by
 have hG:=c.hL;have hl:=hc.2.2.1;have hl2:=hc.2.2.2.1;intro n
 induction n with
 | zero =>
  intro i hi l hL
  have q1:¬ i<c.latches.length:=by omega
  have hh:=f_netsG (Γ:=Γ) c hc c.gates.length 0 (by omega) l (by omega);rw [List.drop_eq_nil_of_le (by omega)];refine .go 60 ?_;simp [q1];refine .inLoop ?_;simp at hh ⊢;exact hh
 | succ n ih =>
  intro i hi l hL
  have q1:i<c.latches.length:=by omega
  have q2:=hG.of q1;have hh:=ih (i+1) (by omega) (l++[c.latches[i].name]) (by simp; omega);have e:l++(c.latches.drop i).map (·.name)=l++[c.latches[i].name]++(c.latches.drop (i+1)).map (·.name):=grow1 l (·.name) _ q1;rw [e];refine .go 60 ?_;simp (disch:=omega) [q1,q2];refine .reLoop ?_;simp;refine .drop 3 rfl (by simp) (by simp) (by simp) ?_;refine .reset (i:=2) rfl (by simp) (by simp) (by simp) ?_;simp [q2] at hh ⊢;exact hh
theorem p_Nets (c:Ct) (hc:CtFew c):PureCon Tryz.prog Γ n_net_Nets [eCt c] (.own 1 t_string ((netsC c).map .str)):=by
 have h1:=hc.1;have h2:=hc.2.2.1;refine .run 60 c_net_Nets (by simp) ?_;simp;refine .call 60 (by simp) (p_slices_Clone_string_string c.inputs c.hI (by omega)) ?_;simp;refine .inLoop ?_;have hh:=f_netsL (Γ:=Γ) c hc c.latches.length 0 (by omega) c.inputs (by omega);simp [netsC] at hh ⊢;exact hh
abbrev eCatS (x:Nat×List (List UInt8)):AV:=.list false x.1 (x.2.map AV.str)
def catS:List (Nat×List (List UInt8))→List (List UInt8)
 | []=>[]
 | x::xs=>x.2++catS xs
theorem catS_append (a b:List (Nat×List (List UInt8))):catS (a++b)=catS a++catS b:=by
 induction a with
 | nil=>rfl
 | cons x a ih=>simp [catS,ih]
theorem catS_take (xs:List (Nat×List (List UInt8))) (i:Nat) (h:i<xs.length):catS (xs.take (i+1))=catS (xs.take i)++xs[i].2:=by
 rw [List.take_succ_eq_append_getElem h,catS_append]; simp [catS]
theorem catS_le (xs:List (Nat×List (List UInt8))) (i:Nat):(catS (xs.take i)).length≤(catS xs).length:=by
 conv=>rhs; rw [← List.take_append_drop i xs,catS_append]
 simp
set_option maxRecDepth 8000 in
theorem p_slices_Concat_string_string (xs:List (Nat×List (List UInt8))) (hk:∀ x∈xs,Kd 1 x.1 x.2) (hn:xs.length<2^40) (hs:(catS xs).length<2^40) (hp:0<(catS xs).length) :
  PureCon Tryz.prog Γ n_slices_Concat_string_string [.list false 1 (xs.map eCatS)] (.own 1 t_string ((catS xs).map AV.str)):=by
 refine .run 60 c_slices_Concat_string_string (by simp) ?_
 have key2:∀ n i:Nat,i+n=xs.length→∀ m:Nat,(catS (xs.take i)).length+m=(catS xs).length →
   Fins Tryz.prog Γ (yFj (.sl 2 0 (catS (xs.take i)).length) (.list false 1 (xs.map eCatS)) (.int .i64 xs.length) (.int .i64 i) [.row 1 t_string [] none true false,.row 1 t_string [] none true false,.row 1 t_string ((catS (xs.take i)).map AV.str++List.replicate m (AV.str [])) none true false])
    (.ret (.own 1 t_string ((catS xs).map AV.str))):=by
  intro n
  induction n with
  | zero =>
   intro i hi m hm
   have q1:¬ i<xs.length:=by omega
   have q2:xs.take i=xs:=List.take_of_length_le (by omega);rw [q2] at hm ⊢
   have hm0:m=0:=by omega
   subst hm0;refine .go 60 ?_;simp [q1];exact .back (by simp)
  | succ n ih =>
   intro i hi m hm
   have q1:i<xs.length:=by omega
   have q2:=catS_take xs i q1;have q3:=catS_le xs (i+1);rw [q2,List.length_append] at q3;have q4:=hk xs[i] (List.getElem_mem q1);have q5:xs[i].1=1∨xs[i].2=[]:=q4;have hh:=ih (i+1) (by omega) (m - xs[i].2.length) (by rw [q2,List.length_append]; omega);rw [q2] at hh
   have hd:(List.replicate m (AV.str [])).drop xs[i].2.length=List.replicate (m - xs[i].2.length) (AV.str []):=by simp
   refine .go 60 ?_
   by_cases q6:(catS (xs.take i)).length=(catS xs).length
   ·have q7:xs[i].2=[]:=List.length_eq_zero_iff.1 (by omega)
    have hm0:m=0:=by omega
    subst hm0;simp [q7] at hh;simp (disch:=(first | omega | (simp; omega))) [q1,q5,q7];refine .reLoop ?_;simp;exact hh
   ·simp (disch:=(first | omega | (simp; omega))) [q1,q5]
    by_cases q7:m=0
    ·omega
    ·have c1:¬ (catS (List.take i xs)).length=(catS (List.take i xs)).length+m:=by omega
     have c2:(catS (List.take i xs)).length+xs[i].snd.length≤(catS (List.take i xs)).length+m:=by omega
     simp (disch:=(first | omega | (simp; omega))) [q1,q5,c1,c2,q7];refine .reLoop ?_;have hd0:((catS (xs.take i)).map AV.str).drop ((catS (xs.take i)).length+xs[i].2.length)=[]:=List.drop_eq_nil_of_le (by simp);simp [List.drop_append,hd,hd0] at hh ⊢;exact hh
 have key1:∀ n i:Nat,i+n=xs.length →
   Fins Tryz.prog Γ (yFl (.list false 1 (xs.map eCatS)) (.int .i64 (catS (xs.take i)).length) (.list false 1 (xs.map eCatS)) (.int .i64 xs.length) (.int .i64 i) [.row 1 t_string [] none true false])
    (.ret (.own 1 t_string ((catS xs).map AV.str))):=by
  intro n
  induction n with
  | zero =>
   intro i hi
   have q1:¬ i<xs.length:=by omega
   have q2:xs.take i=xs:=List.take_of_length_le (by omega);have q3:0<(catS xs).length:=hp;have hh:=key2 xs.length 0 (by omega) (catS xs).length (by simp [catS]);refine .go 60 ?_;rw [q2];simp [q1];refine .enter 60 c_slices_Grow_string_string ?_
   have q4:¬ (catS xs).length=0:=by omega
   have q5:catS xs≠[]:=fun e=>by rw [e] at hp; simp at hp
   obtain ⟨m,hm⟩:∃ m,(catS xs).length=m+1:=⟨(catS xs).length - 1,by omega⟩
   have hrep:List.replicate (catS xs).length (AV.str [])=(AV.str [])::List.replicate m (AV.str []):=by rw [hm]; rfl
   simp (disch:=(first | omega | (simp; omega))) [q3,q4,q5,hrep];refine .inLoop ?_;simp [catS,hrep] at hh ⊢;exact hh
  | succ n ih =>
   intro i hi
   have q1:i<xs.length:=by omega
   have q2:=catS_take xs i q1;have q3:=catS_le xs (i+1);rw [q2,List.length_append] at q3;have hh:=ih (i+1) (by omega);rw [q2] at hh;refine .go 60 ?_
   have q4:¬ ((catS (xs.take i)).length:Int)+xs[i].2.length<0:=by omega
   simp (disch:=(first | omega | (simp; omega))) [q1,q4];refine .reLoop ?_;simp at hh ⊢;exact hh
 simp;refine .inLoop ?_;have hh:=key1 xs.length 0 (by omega);simp [catS] at hh ⊢;exact hh
set_option maxRecDepth 8000 in
theorem p_slices_Concat_string_string_nil (xs:List (Nat×List (List UInt8))) (hx:∀ x∈xs,x.2=[]) (hn:xs.length<2^40) :
  PureCon Tryz.prog Γ n_slices_Concat_string_string [.list false 1 (xs.map eCatS)] (.own 1 t_string []):=by
 refine .run 60 c_slices_Concat_string_string (by simp) ?_
 have key2:∀ n i:Nat,i+n=xs.length→Fins Tryz.prog Γ (yFj (.list true 0 []) (.list false 1 (xs.map eCatS)) (.int .i64 xs.length) (.int .i64 i) [.row 1 t_string [] none true false,.row 1 t_string [] none true false])
    (.ret (.own 1 t_string [])):=by
  intro n
  induction n with
  | zero =>
   intro i hi
   have q1:¬ i<xs.length:=by omega
   refine .nilslot 6 1 t_string rfl (by omega) ?_;refine .go 60 ?_;simp [q1];exact .back (by simp)
  | succ n ih =>
   intro i hi
   have q1:i<xs.length:=by omega
   have q7:=hx xs[i] (List.getElem_mem q1);have hh:=ih (i+1) (by omega);refine .go 60 ?_;simp (disch:=(first | omega | (simp; omega))) [q1,q7];refine .reLoop ?_;simp at hh ⊢;exact hh
 have key:∀ n i:Nat,i+n=xs.length→Fins Tryz.prog Γ (yFl (.list false 1 (xs.map eCatS)) (.int .i64 0) (.list false 1 (xs.map eCatS)) (.int .i64 xs.length) (.int .i64 i) [.row 1 t_string [] none true false])
    (.ret (.own 1 t_string [])):=by
  intro n
  induction n with
  | zero =>
   intro i hi
   have q1:¬ i<xs.length:=by omega
   refine .go 60 ?_;simp [q1];refine .enter 60 c_slices_Grow_string_string ?_;simp;refine .inLoop ?_;have hh:=key2 xs.length 0 (by omega);simp at hh ⊢;exact hh
  | succ n ih =>
   intro i hi
   have q1:i<xs.length:=by omega
   have q7:=hx xs[i] (List.getElem_mem q1);have hh:=ih (i+1) (by omega);refine .go 60 ?_;simp (disch:=(first | omega | (simp; omega))) [q1,q7];refine .reLoop ?_;simp at hh ⊢;exact hh
 simp;refine .inLoop ?_;have hh:=key xs.length 0 (by omega);simp at hh ⊢;exact hh
theorem g_slices_Concat_string_string (xs:List (Nat×List (List UInt8))) (hk:∀ x∈xs,Kd 1 x.1 x.2) (hn:xs.length<2^40) (hs:(catS xs).length<2^40) :
  PureCon Tryz.prog Γ n_slices_Concat_string_string [.list false 1 (xs.map eCatS)] (.own 1 t_string ((catS xs).map AV.str)):=by
 rcases Nat.eq_zero_or_pos (catS xs).length with h | h
 ·have h0:catS xs=[]:=List.length_eq_zero_iff.1 h
  have hx:∀ x∈xs,x.2=[]:=by
   clear hk hn hs h
   induction xs with
   | nil=>simp
   | cons y ys ih =>
    simp only [catS,List.append_eq_nil_iff] at h0;intro x hx
    rcases List.mem_cons.1 hx with rfl | hx
    ·exact h0.1
    ·exact ih h0.2 x hx
  rw [h0];exact p_slices_Concat_string_string_nil xs hx hn
 ·exact p_slices_Concat_string_string xs hk hn hs h
theorem grow2 {α β:Type} (a:List β) (f:α→List β) (l:List α) {i:Nat} (h:i<l.length):a++(l.drop i).flatMap f=a++f l[i]++(l.drop (i+1)).flatMap f:=by
 rw [List.drop_eq_getElem_cons h,List.flatMap_cons,List.append_assoc]
def usedG (l:List Gt):List Bs:=l.flatMap (·.ins)
def toldL (l:List Lt):List Bs:=l.flatMap fun q=>[q.name,q.next]
def toldG (l:List Gt):List Bs:=l.flatMap fun g=>g.name::g.ins
def usedC (c:Ct):List Bs:=c.outputs++c.latches.map (·.next)++usedG c.gates
def toldC (c:Ct):List Bs:=c.inputs++c.outputs++toldL c.latches++toldG c.gates
theorem flat_le {α β:Type} (f:α→List β) (n:Nat):∀ l:List α,(∀ x∈l,(f x).length≤n)→(l.flatMap f).length≤l.length*n
 | [],_=>by simp
 | x::l,h=>by
  have h1:=flat_le f n l fun y hy=>h y (List.mem_cons_of_mem _ hy)
  have h2:=h x (List.mem_cons_self ..);rw [List.flatMap_cons,List.length_append,List.length_cons,Nat.succ_mul];omega
theorem usedG_le {c:Ct} (hc:CtFew c):(usedG c.gates).length≤2^20:=by
 have h1:=flat_le (·.ins) (2^10) c.gates fun g hg=>by have:=(hc.2.2.2.2.1 g hg).2.1; omega
 have h2:=hc.2.2.2.1;unfold usedG;omega
theorem toldG_le {c:Ct} (hc:CtFew c):(toldG c.gates).length≤2^20:=by
 have h1:=flat_le (fun g:Gt=>g.name::g.ins) (2^10) c.gates fun g hg=>by have:=(hc.2.2.2.2.1 g hg).2.1; simp; omega
 have h2:=hc.2.2.2.1;unfold toldG;omega
theorem toldL_le {c:Ct} (hc:CtFew c):(toldL c.latches).length≤2^20:=by
 have h1:=flat_le (fun q:Lt=>[q.name,q.next]) 2 c.latches fun g hg=>by simp
 have h2:=hc.2.2.1;unfold toldL;omega
theorem f_usedG (c:Ct) (hc:CtFew c):∀ n i:Nat,i+n=c.gates.length→∀ l:List Bs,l.length+(usedG (c.gates.drop i)).length<2^40 →
  Fins Tryz.prog Γ (yAL (.sl 2 0 l.length) (.list false c.kG (c.gates.map eGt)) (.int .i64 c.gates.length) (.int .i64 i) [.cells (AV.cells (eCt c)),.row 1 t_string [] none true false,.row 1 t_string (l.map .str) none true false]) (.ret (.own 1 t_string ((l++usedG (c.gates.drop i)).map .str))):=by
 have hG:=c.hG;have hl:=hc.2.2.1;have hl2:=hc.2.2.2.1;have b1:=usedG_le hc;have b2:=toldG_le hc;have b3:=toldL_le hc;intro n
 induction n with
 | zero =>
  intro i hi l hL
  have q1:¬ i<c.gates.length:=by omega
  rw [List.drop_eq_nil_of_le (by omega)];refine .go 60 ?_;simp [q1];exact .back (by simp [usedG])
 | succ n ih =>
  intro i hi l hL
  have q1:i<c.gates.length:=by omega
  have q2:=hG.of q1;have q3:=(hc.2.2.2.2.1 c.gates[i] (List.getElem_mem q1)).2.1;have q4:=c.gates[i].hi;have q5:c.gates[i].ki=1∨c.gates[i].ins=[]:=q4;have e:l++usedG (c.gates.drop i)=l++c.gates[i].ins++usedG (c.gates.drop (i+1)):=grow2 l (fun g:Gt=>g.ins) _ q1;have e2:=congrArg List.length e;simp only [List.length_append,List.length_cons,List.length_nil] at e2;have hh:=ih (i+1) (by omega) (l++c.gates[i].ins) (by simp only [List.length_append,List.length_cons,List.length_nil]; omega);rw [e];refine .go 60 ?_;simp (disch:=omega) [q1,q2,q5];refine .reLoop ?_;simp;refine .drop 3 rfl (by simp) (by simp) (by simp) ?_;refine .resetI (i:=2) rfl (by first | (simp; done) | (by_cases hq:c.gates[i].ins=[] <;> simp [hq])) (by simp) (by simp <;> omega) (by simp) ?_;simp [q2] at hh ⊢;exact hh
theorem f_usedL (c:Ct) (hc:CtFew c):∀ n i:Nat,i+n=c.latches.length→∀ l:List Bs,l.length+((c.latches.drop i).map (·.next)).length<2^39 →
  Fins Tryz.prog Γ (yAN (.ptr 0 0) (.sl 2 0 l.length) (.list false c.kL (c.latches.map eLt)) (.int .i64 c.latches.length) (.int .i64 i) [.cells (AV.cells (eCt c)),.row 1 t_string [] none true false,.row 1 t_string (l.map .str) none true false]) (.ret (.own 1 t_string ((l++(c.latches.drop i).map (·.next)++usedG c.gates).map .str))):=by
 have hG:=c.hL;have hl:=hc.2.2.1;have hl2:=hc.2.2.2.1;have b1:=usedG_le hc;have b2:=toldG_le hc;have b3:=toldL_le hc;intro n
 induction n with
 | zero =>
  intro i hi l hL
  have q1:¬ i<c.latches.length:=by omega
  have hh:=f_usedG (Γ:=Γ) c hc c.gates.length 0 (by omega) l (by rw [List.drop_zero]; omega);rw [List.drop_eq_nil_of_le (by omega)];refine .go 60 ?_;simp [q1];refine .inLoop ?_;simp at hh ⊢;exact hh
 | succ n ih =>
  intro i hi l hL
  have q1:i<c.latches.length:=by omega
  have q2:=hG.of q1;have e:l++(c.latches.drop i).map (·.next)=l++[c.latches[i].next]++(c.latches.drop (i+1)).map (·.next):=grow1 l (·.next) _ q1;have e2:=congrArg List.length e;simp only [List.length_append,List.length_cons,List.length_nil] at e2;have hh:=ih (i+1) (by omega) (l++[c.latches[i].next]) (by simp only [List.length_append,List.length_cons,List.length_nil]; omega);rw [e];refine .go 60 ?_;simp (disch:=omega) [q1,q2];refine .reLoop ?_;simp;refine .drop 3 rfl (by simp) (by simp) (by simp) ?_;refine .reset (i:=2) rfl (by simp) (by simp) (by simp) ?_;simp [q2] at hh ⊢;exact hh
theorem p_used (c:Ct) (hc:CtFew c):PureCon Tryz.prog Γ n_net_used [eCt c] (.own 1 t_string ((usedC c).map .str)):=by
 have h1:=hc.2.1;have h2:=hc.2.2.1;refine .run 60 c_net_used (by simp) ?_;simp;refine .call 60 (by simp) (p_slices_Clone_string_string c.outputs c.hO (by omega)) ?_;simp;refine .inLoop ?_;have hh:=f_usedL (Γ:=Γ) c hc c.latches.length 0 (by omega) c.outputs (by rw [List.drop_zero,List.length_map]; omega);simp [usedC] at hh ⊢;exact hh
theorem f_rnetsG (c:Ct) (hc:CtFew c):∀ n i:Nat,i+n=c.gates.length→∀ l:List Bs,l.length+((c.gates.drop i).map (·.name)).length<2^40 →
  Fins Tryz.prog Γ (yrc (.ptr 0 0) (.sl 2 0 l.length) (.int .i64 i) [.cells (AV.cells (eCt c)),.row 1 t_string [] none true false,.row 1 t_string (l.map .str) none true false]) (.ret (.own 1 t_string ((l++(c.gates.drop i).map (·.name)).map .str))):=by
 have hG:=c.hG;have hl:=hc.2.2.1;have hl2:=hc.2.2.2.1;have b1:=usedG_le hc;have b2:=toldG_le hc;have b3:=toldL_le hc;intro n
 induction n with
 | zero =>
  intro i hi l hL
  have q1:¬ i<c.gates.length:=by omega
  rw [List.drop_eq_nil_of_le (by omega)];refine .go 60 ?_;simp [q1];exact .back (by simp)
 | succ n ih =>
  intro i hi l hL
  have q1:i<c.gates.length:=by omega
  have q2:=hG.of q1;have e:l++(c.gates.drop i).map (·.name)=l++[c.gates[i].name]++(c.gates.drop (i+1)).map (·.name):=grow1 l (·.name) _ q1;have e2:=congrArg List.length e;simp only [List.length_append,List.length_cons,List.length_nil] at e2;have hh:=ih (i+1) (by omega) (l++[c.gates[i].name]) (by simp only [List.length_append,List.length_cons,List.length_nil]; omega);rw [e];refine .go 60 ?_;simp (disch:=omega) [q1,q2];refine .reLoop ?_;simp;refine .drop 3 rfl (by simp) (by simp) (by simp) ?_;refine .reset (i:=2) rfl (by simp) (by simp) (by simp) ?_;simp [q2] at hh ⊢;exact hh
theorem f_rnetsL (c:Ct) (hc:CtFew c):∀ n i:Nat,i+n=c.latches.length→∀ l:List Bs,l.length+((c.latches.drop i).map (·.name)).length<2^39 →
  Fins Tryz.prog Γ (yre (.ptr 0 0) (.sl 2 0 l.length) (.int .i64 i) [.cells (AV.cells (eCt c)),.row 1 t_string [] none true false,.row 1 t_string (l.map .str) none true false]) (.ret (.own 1 t_string ((l++(c.latches.drop i).map (·.name)++c.gates.map (·.name)).map .str))):=by
 have hG:=c.hL;have hl:=hc.2.2.1;have hl2:=hc.2.2.2.1;have b1:=usedG_le hc;have b2:=toldG_le hc;have b3:=toldL_le hc;intro n
 induction n with
 | zero =>
  intro i hi l hL
  have q1:¬ i<c.latches.length:=by omega
  have hh:=f_rnetsG (Γ:=Γ) c hc c.gates.length 0 (by omega) l (by rw [List.drop_zero,List.length_map]; omega);rw [List.drop_eq_nil_of_le (by omega)];refine .go 60 ?_;simp [q1];refine .inLoop ?_;simp at hh ⊢;exact hh
 | succ n ih =>
  intro i hi l hL
  have q1:i<c.latches.length:=by omega
  have q2:=hG.of q1;have e:l++(c.latches.drop i).map (·.name)=l++[c.latches[i].name]++(c.latches.drop (i+1)).map (·.name):=grow1 l (·.name) _ q1;have e2:=congrArg List.length e;simp only [List.length_append,List.length_cons,List.length_nil] at e2;have hh:=ih (i+1) (by omega) (l++[c.latches[i].name]) (by simp only [List.length_append,List.length_cons,List.length_nil]; omega);rw [e];refine .go 60 ?_;simp (disch:=omega) [q1,q2];refine .reLoop ?_;simp;refine .drop 3 rfl (by simp) (by simp) (by simp) ?_;refine .reset (i:=2) rfl (by simp) (by simp) (by simp) ?_;simp [q2] at hh ⊢;exact hh
theorem p_r06_Nets (c:Ct) (hc:CtFew c):PureCon Tryz.prog Γ n_r06_Nets [eCt c] (.own 1 t_string ((netsC c).map .str)):=by
 have h1:=hc.1;have h2:=hc.2.2.1;have h3:=c.hI;have h3':c.kI=1∨c.inputs=[]:=h3;refine .run 60 c_r06_Nets (by simp) ?_;simp (disch:=omega) [h3'];refine .inLoop ?_;simp;refine .resetI (i:=2) rfl (by by_cases hq:c.inputs=[] <;> simp [hq]) (by simp) (by simp) (by simp) ?_;have hh:=f_rnetsL (Γ:=Γ) c hc c.latches.length 0 (by omega) c.inputs (by rw [List.drop_zero,List.length_map]; omega);simp [netsC] at hh ⊢;exact hh
theorem f_toldG (c:Ct) (hc:CtFew c):∀ n i:Nat,i+n=c.gates.length→∀ l:List Bs,l.length+(toldG (c.gates.drop i)).length<2^40 →
  Fins Tryz.prog Γ (yzV (.sl 2 0 l.length) (.list false c.kG (c.gates.map eGt)) (.int .i64 c.gates.length) (.int .i64 i) [.cells (AV.cells (eCt c)),.row 1 t_string [] none true false,.row 1 t_string (l.map .str) none true false]) (.ret (.own 1 t_string ((l++toldG (c.gates.drop i)).map .str))):=by
 have hG:=c.hG;have hl:=hc.2.2.1;have hl2:=hc.2.2.2.1;have b1:=usedG_le hc;have b2:=toldG_le hc;have b3:=toldL_le hc;intro n
 induction n with
 | zero =>
  intro i hi l hL
  have q1:¬ i<c.gates.length:=by omega
  rw [List.drop_eq_nil_of_le (by omega)];refine .go 60 ?_;simp [q1];exact .back (by simp [toldG])
 | succ n ih =>
  intro i hi l hL
  have q1:i<c.gates.length:=by omega
  have q2:=hG.of q1;have q3:=(hc.2.2.2.2.1 c.gates[i] (List.getElem_mem q1)).2.1;have q4:=c.gates[i].hi;have q5:c.gates[i].ki=1∨c.gates[i].ins=[]:=q4;have e:l++toldG (c.gates.drop i)=l++(c.gates[i].name::c.gates[i].ins)++toldG (c.gates.drop (i+1)):=grow2 l (fun g:Gt=>g.name::g.ins) _ q1;have e2:=congrArg List.length e;simp only [List.length_append,List.length_cons,List.length_nil] at e2;have hh:=ih (i+1) (by omega) (l++(c.gates[i].name::c.gates[i].ins)) (by simp only [List.length_append,List.length_cons,List.length_nil]; omega);rw [e];refine .go 60 ?_;simp (disch:=omega) [q1,q2,q5];refine .dr 60 ?_;simp (disch:=omega) [q1,q2,q5];refine .reLoop ?_;simp;refine .drop 3 rfl (by simp) (by simp) (by simp) ?_;refine .resetI (i:=2) rfl (by first | (simp; done) | (by_cases hq:c.gates[i].ins=[] <;> simp [hq])) (by simp) (by simp <;> omega) (by simp) ?_
  have e3:l.length+(c.gates[i].ins.length+1)=l.length+1+c.gates[i].ins.length:=by omega
  simp [q2,e3] at hh ⊢;exact hh
theorem f_toldL (c:Ct) (hc:CtFew c):∀ n i:Nat,i+n=c.latches.length→∀ l:List Bs,l.length+(toldL (c.latches.drop i)).length<2^39 →
  Fins Tryz.prog Γ (yzX (.ptr 0 0) (.sl 2 0 l.length) (.list false c.kL (c.latches.map eLt)) (.int .i64 c.latches.length) (.int .i64 i) [.cells (AV.cells (eCt c)),.row 1 t_string [] none true false,.row 1 t_string (l.map .str) none true false]) (.ret (.own 1 t_string ((l++toldL (c.latches.drop i)++toldG c.gates).map .str))):=by
 have hG:=c.hL;have hl:=hc.2.2.1;have hl2:=hc.2.2.2.1;have b1:=usedG_le hc;have b2:=toldG_le hc;have b3:=toldL_le hc;intro n
 induction n with
 | zero =>
  intro i hi l hL
  have q1:¬ i<c.latches.length:=by omega
  have hh:=f_toldG (Γ:=Γ) c hc c.gates.length 0 (by omega) l (by rw [List.drop_zero]; omega);rw [List.drop_eq_nil_of_le (by omega)];refine .go 60 ?_;simp [q1];refine .inLoop ?_;simp [toldL] at hh ⊢;exact hh
 | succ n ih =>
  intro i hi l hL
  have q1:i<c.latches.length:=by omega
  have q2:=hG.of q1;have e:l++toldL (c.latches.drop i)=l++[c.latches[i].name,c.latches[i].next]++toldL (c.latches.drop (i+1)):=grow2 l (fun q:Lt=>[q.name,q.next]) _ q1;have e2:=congrArg List.length e;simp only [List.length_append,List.length_cons,List.length_nil] at e2;have hh:=ih (i+1) (by omega) (l++[c.latches[i].name,c.latches[i].next]) (by simp only [List.length_append,List.length_cons,List.length_nil]; omega);rw [e];refine .go 60 ?_;simp (disch:=omega) [q1,q2];refine .reLoop ?_;simp;refine .drop 3 rfl (by simp) (by simp) (by simp) ?_;refine .reset (i:=2) rfl (by simp) (by simp) (by simp) ?_;simp [q2] at hh ⊢;exact hh
theorem p_told (c:Ct) (hc:CtFew c):PureCon Tryz.prog Γ n_net_told [eCt c] (.own 1 t_string ((toldC c).map .str)):=by
 have h1:=hc.1;have h2:=hc.2.1;have h3:=hc.2.2.1;have b3:=toldL_le hc
 have hx:∀ x∈[(c.kI,c.inputs),(c.kO,c.outputs)],Kd 1 x.1 x.2:=by
  intro x hx;simp only [List.mem_cons,List.not_mem_nil,or_false] at hx
  rcases hx with rfl | rfl
  ·exact c.hI
  ·exact c.hO
 have hx2:catS [(c.kI,c.inputs),(c.kO,c.outputs)]=c.inputs++c.outputs:=by simp [catS]
 have hC:=g_slices_Concat_string_string (Γ:=Γ) [(c.kI,c.inputs),(c.kO,c.outputs)] hx (by simp) (by rw [hx2]; simp; omega);rw [hx2] at hC;refine .run 60 c_net_told (by simp) ?_;simp;refine .call 60 (by simp) hC ?_;simp;refine .inLoop ?_;have hh:=f_toldL (Γ:=Γ) c hc c.latches.length 0 (by omega) (c.inputs++c.outputs) (by rw [List.drop_zero,List.length_append]; omega);simp [toldC] at hh ⊢;exact hh
abbrev wrongA (e:Int) (s:Bs):AV:=.ifc t_net_wrong (.agg [.int .i64 e,.str s])
theorem p_need (e:Int) (s:Bs):PureCon Tryz.prog Γ n_net_need [.bool true,.int .i64 e,.str s] (.tup []):=by
 refine .run 60 c_net_need (by simp) ?_;simp;exact .back (by simp)
theorem p_need_die (e:Int) (s:Bs):DieCon Tryz.prog Γ n_net_need [.bool false,.int .i64 e,.str s] (wrongA e s):=by
 refine DieCon.of (hh:=[]) (by simp) (enter_eq c_net_need _ (.go 60 ?_)) (by simp) (by simp);simp
def twiceS:List Bs→List Bs→Option Bs
 | _,[]=>none
 | seen,s::l=>if s∈seen then some s else twiceS (seen++[s]) l
def twiceL (l:List Bs):Option Bs:=twiceS [] l
abbrev eSeen (s:Bs):AV×AV:=(.str s,.bool true)
theorem findIn_seen (s:Bs):∀ l:List Bs,findIn (.sc .str) (.str s) (l.map eSeen)=some (if s∈l then some (.bool true) else none)
 | []=>rfl
 | a::l=>by
  simp only [List.map_cons,findIn,eqData,eqOne]
  cases h:(s==a)
  ·have h2:=beq_eq_false_iff_ne.1 h;simp [findIn_seen s l,h2]
  ·have h2:=eq_of_beq h;simp [h2]
theorem putIn_seen {s:Bs} {v:AV}:∀ {l:List Bs},s∉l→putIn (.sc .str) (.str s) v (l.map eSeen)=some (l.map eSeen++[(.str s,v)])
 | [],_=>rfl
 | a::l,h=>by
  simp only [List.mem_cons,not_or] at h;simp only [List.map_cons,putIn,eqData,eqOne];have h2:(s==a)=false:=beq_eq_false_iff_ne.2 h.1;simp [h2,putIn_seen (v:=v) h.2]
theorem belM_app (n:Nat):∀ a b:List (AV×AV),belM n (a++b)=(belM n a&&belM n b)
 | [],b=>by simp [belM]
 | (x,y)::a,b=>by simp [belM,belM_app n a b,Bool.and_assoc]
@[simp] theorem belM_seen (n:Nat):∀ l:List Bs,belM n (l.map eSeen)=true
 | []=>rfl
 | x::r=>by simp [belM,belM_seen n r]
@[simp] theorem vldM_seen (n m:Nat):∀ l:List Bs,vldM n m (l.map eSeen)=true
 | []=>rfl
 | x::r=>by simp [vldM_seen n m r]
@[simp] theorem rnM_seen (n:Nat) (τ:List Nat):∀ l:List Bs,rnM n τ (l.map eSeen)=l.map eSeen
 | []=>rfl
 | x::r=>by simp [rnM_seen n τ r]
@[simp] theorem okM_seen (n:Nat) (τ:List Nat):∀ l:List Bs,okM n τ (l.map eSeen)=true
 | []=>rfl
 | x::r=>by simp [okM_seen n τ r]
def WfM (h:List Ob):Prop:=∀ m,h.length≤m→belH m h=true
theorem r_once1 (l:List Bs) {fl:Bool} {k:Nat} (hk:Kd 1 k l) (hl:l.length<2^40) (h:List Ob) (hw:WfM h) (up:List Fr):∀ n i:Nat,i+n=l.length→∀ seen,twiceS seen (l.drop i)=none→AM.Reach Tryz.prog Γ
   (yAo (.mp h.length) (.list fl k (l.map .str)) (.int .i64 l.length) (.int .i64 i) (h++[.map (seen.map eSeen) true]) ⟨[],.norm,h.length,up⟩)
   (.back up (.mp h.length) (h++[.map ((seen++l.drop i).map eSeen) true])):=by
 intro n
 induction n with
 | zero =>
  intro i hi seen hs
  have q1:¬ i<l.length:=by omega
  rw [List.drop_eq_nil_of_le (by omega)];refine .goB 60 ?_;simp [q1]
 | succ n ih =>
  intro i hi seen hs
  have q1:i<l.length:=by omega
  obtain rfl:=hk.of q1;rw [List.drop_eq_getElem_cons q1] at hs ⊢;rw [twiceS] at hs;have hfi:=findIn_seen l[i] seen;have hbw:=hw (h.length+1) (by omega)
  by_cases hm:l[i]∈seen
  ·rw [if_pos hm] at hs; cases hs
  ·rw [if_neg hm] at hs hfi;have hh:=ih (i+1) (by omega) (seen++[l[i]]) hs;have hput:=putIn_seen (v:=.bool true) hm;refine .goB 60 ?_;simp (disch:=omega) [q1,hfi,isKey,allDatum,isDatum];refine .callB 60 (by simp) (p_need 5 l[i]) ?_;simp (disch:=omega) [hput,isKey,allDatum,isDatum];refine .reLoop ?_;simp at hh ⊢;exact hh
theorem r_once_die (l:List Bs) {fl:Bool} {k:Nat} (hk:Kd 1 k l) (hl:l.length<2^40) (h:List Ob) (hw:WfM h) (up:List Fr) (s0:Bs):∀ n i:Nat,i+n=l.length→∀ seen,twiceS seen (l.drop i)=some s0→∃ h',AM.Reach Tryz.prog Γ
   (yAo (.mp h.length) (.list fl k (l.map .str)) (.int .i64 l.length) (.int .i64 i) (h++[.map (seen.map eSeen) true]) ⟨[],.norm,h.length,up⟩)
   (.die up (wrongA 5 s0) (h++h')):=by
 intro n
 induction n with
 | zero =>
  intro i hi seen hs;rw [List.drop_eq_nil_of_le (by omega)] at hs
  cases hs
 | succ n ih =>
  intro i hi seen hs
  have q1:i<l.length:=by omega
  obtain rfl:=hk.of q1;rw [List.drop_eq_getElem_cons q1] at hs;rw [twiceS] at hs;have hfi:=findIn_seen l[i] seen;have hbw:=hw (h.length+1) (by omega)
  by_cases hm:l[i]∈seen
  ·rw [if_pos hm] at hs hfi;obtain rfl:=Option.some.inj hs;refine ⟨[.map (seen.map eSeen) true],?_⟩;refine .goB 60 ?_;simp (disch:=omega) [q1,hfi,isKey,allDatum,isDatum];refine .dcall 2 (by simp) (p_need_die 5 l[i]) ?_;simp
  ·rw [if_neg hm] at hs hfi;obtain ⟨h',hh⟩:=ih (i+1) (by omega) (seen++[l[i]]) hs;refine ⟨h',?_⟩;have hput:=putIn_seen (v:=.bool true) hm;refine .goB 60 ?_;simp (disch:=omega) [q1,hfi,isKey,allDatum,isDatum];refine .callB 60 (by simp) (p_need 5 l[i]) ?_;simp (disch:=omega) [hput,isKey,allDatum,isDatum];refine .reLoop ?_;simp at hh ⊢;exact hh
theorem r_once (l:List Bs) {fl:Bool} {k:Nat} (hk:Kd 1 k l) (hl:l.length<2^40) (h:List Ob) (hw:WfM h) (ht:twiceL l=none):∀ up,AM.Reach Tryz.prog Γ
   (.cl n_net_once [.list fl k (l.map .str)] up h) (.back up (.mp h.length) (h++[.map (l.map eSeen) true])):=by
 intro up;refine .enterB 60 c_net_once ?_;simp;refine .inLoop ?_;have hh:=r_once1 (Γ:=Γ) (fl:=fl) l hk hl h hw up l.length 0 (by omega) [] ht;simp at hh ⊢;exact hh
theorem r_onceD (l:List Bs) {fl:Bool} {k:Nat} (hk:Kd 1 k l) (hl:l.length<2^40) (h:List Ob) (hw:WfM h) {s0:Bs} (ht:twiceL l=some s0):∀ up,∃ h',AM.Reach Tryz.prog Γ
   (.cl n_net_once [.list fl k (l.map .str)] up h) (.die up (wrongA 5 s0) (h++h')):=by
 intro up;have hh:=r_once_die (Γ:=Γ) (fl:=fl) l hk hl h hw up s0 l.length 0 (by omega) [] ht;obtain ⟨h',hh⟩:=hh;refine ⟨h',?_⟩;refine .enterB 60 c_net_once ?_;simp;refine .inLoop ?_;simp at hh ⊢;exact hh
def oddC (c:UInt8):Bool:=decide (c<33)||decide (126<c)
def nameB (s:List UInt8):Bool := !anyB oddC s&&(decide (1≤s.length)&&decide (s.length≤40))
def fOdd:List UInt8→Nat→Int
 | [],_ => -1
 | c::s,i=>if oddC c=true then (i:Int) else fOdd s (i+1)
theorem fOdd_any:∀ (s:List UInt8) (i:Nat),decide (fOdd s i<0) = !anyB oddC s
 | [],i=>by simp [fOdd,anyB_nil]
 | c::s,i=>by
  rw [fOdd,anyB_cons]
  cases h:oddC c with
  | true=>simp
  | false=>simpa using fOdd_any s (i+1)
theorem p_plain_1 (r:Int):PureCon Tryz.prog Γ n_ident_name_plain_1 [.int .i32 r] (.bool (decide (r≤32)||decide (126<r))):=by
 refine .run 60 c_ident_name_plain_1 (by simp) ?_
 by_cases h:r≤32 <;> simp [h] <;> exact .back (by simp [h])
theorem decode_ascii' {s:List UInt8} {i:Nat} (h:i<s.length) (ha:s[i].toNat<128):Utf8.decode ⟨s.toArray⟩ i=(s[i].toNat,1):=by
 exact decode_ascii ⟨s.toArray⟩ i (show i<s.toArray.size by simpa using h) ha
theorem decode_high' {s:List UInt8} {i:Nat} (h:i<s.length) (ha:128≤s[i].toNat):128≤(Utf8.decode ⟨s.toArray⟩ i).1:=by
 exact (decode_high ⟨s.toArray⟩ i (show i<s.toArray.size by simpa using h) ha).1
set_option maxRecDepth 8000 in
theorem p_indexFunc (s:List UInt8) (hs:s.length<2^40):PureCon Tryz.prog Γ n_strings_indexFunc [.str s,.fn (.func n_ident_name_plain_1) [] [],.bool true] (.int .i64 (fOdd s 0)):=by
 have key:∀ n i:Nat,i+n=s.length→Fins Tryz.prog Γ (yGx (.fn (.func n_ident_name_plain_1) [] []) (.bool true) (.it 0) [.siter s i]) (.ret (.int .i64 (fOdd (s.drop i) i))):=by
  intro n
  induction n with
  | zero =>
   intro i hi;rw [List.drop_eq_nil_of_le (by omega),fOdd]
   have q1:¬ i<s.length:=by omega
   refine .go 60 ?_;simp [q1];exact .back (by simp)
  | succ n ih =>
   intro i hi
   have q1:i<s.length:=by omega
   rw [List.drop_eq_getElem_cons q1,fOdd];have hh:=ih (i+1) (by omega)
   by_cases ha:s[i].toNat<128
   ·have hd:=decode_ascii' q1 ha
    have e:(decide ((s[i].toNat:Int)≤32)||decide (126<(s[i].toNat:Int)))=oddC s[i]:=by
     unfold oddC;simp only [UInt8.lt_iff_toNat_lt,show (33:UInt8).toNat=33 from rfl,show (126:UInt8).toNat=126 from rfl]
     congr 1 <;> exact decide_eq_decide.2 (by omega)
    have hc:=p_plain_1 (Γ:=Γ) (s[i].toNat:Int);rw [e] at hc;refine .go 60 ?_;simp [q1,hd];refine .call 60 (by simp) hc ?_
    cases ho:oddC s[i] with
    | true=>simp; exact .back (by simp)
    | false =>
     simp;refine .reLoop ?_;simp at hh ⊢;exact hh
   ·have hd:=decode_high' q1 (by omega)
    have ho:oddC s[i]=true:=by unfold oddC; simp only [UInt8.lt_iff_toNat_lt,show (33:UInt8).toNat=33 from rfl,show (126:UInt8).toNat=126 from rfl,Bool.or_eq_true,decide_eq_true_eq]; omega
    rw [ho];have hc:=p_plain_1 (Γ:=Γ) ((Utf8.decode ⟨s.toArray⟩ i).1:Int)
    have e:(decide (((Utf8.decode ⟨s.toArray⟩ i).1:Int)≤32)||decide (126<((Utf8.decode ⟨s.toArray⟩ i).1:Int)))=true:=by
     simp only [Bool.or_eq_true,decide_eq_true_eq]; right; omega
    rw [e] at hc;refine .go 60 ?_;simp [q1];refine .call 60 (by simp) hc ?_;simp;exact .back (by simp)
 refine .run 60 c_strings_indexFunc (by simp) ?_;simp;refine .inLoop ?_;have hh:=key s.length 0 (by omega);simp at hh ⊢;exact hh
theorem p_IndexFunc (s:List UInt8) (hs:s.length<2^40):PureCon Tryz.prog Γ n_strings_IndexFunc [.str s,.fn (.func n_ident_name_plain_1) [] []] (.int .i64 (fOdd s 0)):=by
 refine .run 60 c_strings_IndexFunc (by simp) ?_;simp;refine .call 60 (by simp) (p_indexFunc s hs) ?_;simp;exact .back (by simp)
theorem p_plain (s:List UInt8):PureCon Tryz.prog Γ n_ident_name_plain [.str s] (.bool (nameB s)):=by
 refine .run 60 c_ident_name_plain (by simp) ?_;unfold nameB
 by_cases h0:s=[]
 ·subst h0;simp;exact .back (by simp)
 ·have h1:1≤s.length:=List.length_pos_iff.2 h0;have h0':¬ s=[]:=h0
  by_cases h2:s.length≤40
  ·have h2':(s.length:Int)≤40:=by omega
   simp [h0,h2,h2'];refine .call 60 (by simp) (p_IndexFunc s (by omega)) ?_;have e:=fOdd_any s 0;simp [e];exact .back (by simp [h0,h1,h2])
  ·have h2':¬ (s.length:Int)≤40:=by omega
   simp [h0,h2,h2'];exact .back (by simp [h2])
theorem p_Name (s:List UInt8):PureCon Tryz.prog Γ n_ident_Name [.str s] (.bool (nameB s)):=by
 refine .run 60 c_ident_Name (by simp) ?_;simp;refine .call 60 (by simp) (p_plain s) ?_;simp;exact .back (by simp)
theorem p_IndexFunc_gate {φ : List Ob→Prop} {f:FuncId} {caps:List AV} {p:Gt→Bool} {l:List Gt} {k:Nat} {fl:Bool} (ha:Asks Tryz.prog Γ φ f caps eGt p l) (hk:Kd 5 k l) (hs:l.length<2^60) {h:List Ob} (hφ : φ h) :
  ∀ up,AM.Reach Tryz.prog Γ (.cl n_slices_IndexFunc_api_Gate_api_Gate [.list fl k (l.map eGt),.fn (.func f) [] caps] up h) (.back up (.int .i64 (idxF p l 0)) h):=by
 intro up
 have key:∀ n i:Nat,i+n=l.length→AM.Reach Tryz.prog Γ (yEJ (.list fl k (l.map eGt)) (.fn (.func f) [] caps) (.int .i64 l.length) (.int .i64 i) h ⟨[],.norm,h.length,up⟩) (.back up (.int .i64 (idxF p (l.drop i) i)) h):=by
  intro n
  induction n with
  | zero =>
   intro i hi
   have h1:¬ i<l.length:=by omega
   refine .goB 60 ?_;rw [List.drop_eq_nil_of_le (by omega)];simp [h1,idxF]
  | succ n ih =>
   intro i hi
   have h1:i<l.length:=by omega
   obtain rfl:=hk.of h1;have h2:=ha.2 l[i] (List.getElem_mem h1);rw [List.drop_eq_getElem_cons h1,idxF];have hh:=ih (i+1) (by omega);refine .goB 60 ?_;simp [h1,ha.1];refine .rcall 60 (fun up=>h2 up h hφ) ?_
   cases hp:p l[i] with
   | true=>simp (disch:=omega) [hp]
   | false =>
    simp (disch:=omega) [hp];refine .reLoop ?_;simp at hh ⊢;exact hh
 refine .enterB 60 c_slices_IndexFunc_api_Gate_api_Gate ?_;simp;refine .inLoop ?_;have hh:=key l.length 0 (by omega);simp at hh ⊢;exact hh
theorem p_ContainsFunc_gate {φ : List Ob→Prop} {f:FuncId} {caps:List AV} {p:Gt→Bool} {l:List Gt} {k:Nat} {fl:Bool} (ha:Asks Tryz.prog Γ φ f caps eGt p l) (hk:Kd 5 k l) (hs:l.length<2^60) {h:List Ob} (hφ : φ h) :
  ∀ up,AM.Reach Tryz.prog Γ (.cl n_slices_ContainsFunc_api_Gate_api_Gate [.list fl k (l.map eGt),.fn (.func f) [] caps] up h) (.back up (.bool (anyB p l)) h):=by
 intro up;refine .enterB 60 c_slices_ContainsFunc_api_Gate_api_Gate ?_;simp;refine .rcall 60 (p_IndexFunc_gate ha hk hs hφ) ?_;have h1:=idxF_ge p l 0
 cases hp:anyB p l with
 | true=>rw [hp] at h1; simp at h1; simp [h1]
 | false =>
  rw [hp] at h1
  have h2:¬ 0≤idxF p l 0:=by rw [h1]; simp
  simp [h2]
def largeB (g:Gt):Bool:=decide (8<g.ins.length)||decide (128<g.rows.length)
def limC (c:Ct):Bool:=anyB largeB c.gates||(decide (200<c.inputs.length+c.latches.length+c.gates.length)||decide (200<c.outputs.length))
def findU (N:List Bs):List Bs→Int×Bs
 | []=>(0,[])
 | s::l=>if s∈N then findU N l else (6,s)
def findG (r:Int×Bs):List Gt→Int×Bs
 | []=>r
 | g::l=>if gateB g=true then findG r l else (1,g.name)
def initOk (q:Lt):Bool:=decide (0≤q.init)&&decide (q.init≤2)
def findL (r:Int×Bs):List Lt→Int×Bs
 | []=>r
 | q::l=>if initOk q=true then findL r l else (1,q.name)
def findN (r:Int×Bs):List Bs→Int×Bs
 | []=>r
 | s::l=>if nameB s=true then findN r l else (4,s)
def twO:Option Bs→Int×Bs→Int×Bs
 | some s,_=>(5,s)
 | none,r=>r
def checkC (c:Ct):Int×Bs :=
 if limC c=true then (8,[]) else findN (twO (twiceL (netsC c)) (twO (twiceL c.outputs) (findL (findG (findU (netsC c) (usedC c)) c.gates) c.latches))) (toldC c)
abbrev eChk (r:Int×Bs):AV:=.tup [.int .i64 r.1,.str r.2]
theorem p_large (g:Gt):PureCon Tryz.prog Γ n_net_Check_2 [eGt g] (.bool (largeB g)):=by
 refine .run 60 c_net_Check_2 (by simp) ?_;unfold largeB;have e1:((8:Int)<g.ins.length)=(8<g.ins.length):=propext (by omega);have e2:((128:Int)<g.rows.length)=(128<g.rows.length):=propext (by omega)
 by_cases h1:8<g.ins.length <;> simp [e1,e2,h1] <;> exact .back (by simp [h1])
theorem a_large (l:List Gt):Asks Tryz.prog Γ (fun _=>True) n_net_Check_2 [] eGt largeB l:=by
 refine ⟨by simp,fun g hg up h hφ => ?_⟩;exact Reach.con0 (by simp) (p_large g) (fun _=>rfl) (by simp) up
abbrev ckX:Cx:=⟨[.call n_net_Check_1 [.ptr 1 0,.ptr 2 0]],.norm,0,[]⟩
abbrev ckH (c:Ct):List Ob:=[.cells (AV.cells (eCt c)),.cells [.int .i64 0],.cells [.str []]]
abbrev ckM (c:Ct) (N:List Bs):List Ob:=[.cells (AV.cells (eCt c)),.cells [.int .i64 0],.cells [.str []],.map (N.map eSeen) true]
set_option maxRecDepth 8000 in
theorem f_ckU (c:Ct) (N:List Bs) (l:List Bs) (hl:l.length<2^40):∀ n i:Nat,i+n=l.length →
  Fins Tryz.prog Γ (yxr (.ptr 1 0) (.ptr 2 0) (.mp 3) (.list false 1 (l.map .str)) (.int .i64 l.length) (.int .i64 i) (ckM c N) ckX) (.ret (eChk (findU N (l.drop i)))):=by
 intro n
 induction n with
 | zero =>
  intro i hi
  have q1:¬ i<l.length:=by omega
  rw [List.drop_eq_nil_of_le (by omega),findU];refine .go 160 ?_;simp [q1];exact .back (by simp)
 | succ n ih =>
  intro i hi
  have q1:i<l.length:=by omega
  have hfi:=findIn_seen l[i] N;rw [List.drop_eq_getElem_cons q1,findU];have hh:=ih (i+1) (by omega);refine .go 160 ?_
  by_cases hm:l[i]∈N
  ·rw [if_pos hm] at hfi ⊢;simp [q1,hfi,isKey,allDatum,isDatum];refine .call 160 (by simp) (p_need 6 l[i]) ?_;simp (disch:=omega);refine .reLoop ?_;simp at hh ⊢;exact hh
  ·rw [if_neg hm] at hfi ⊢;simp [q1,hfi,isKey,allDatum,isDatum];refine .dcall 160 (by simp) (p_need_die 6 l[i]) ?_;simp;refine .dr 90 ?_;simp;exact .back (by simp)
theorem ckO_eq:ordersL (depL ywM) ywM.length []=[[0,1,2,3,4],[0,2,1,3,4],[0,2,3,1,4],[2,0,1,3,4],[2,0,3,1,4],[2,3,0,1,4]]:=by rfl
set_option maxRecDepth 8000 in
theorem f_ckG (hΓ:InsG Γ) (c:Ct) (hc:CtFew c) (N:List Bs):∀ n i:Nat,i+n=c.gates.length →
  Fins Tryz.prog Γ (yxt (.ptr 0 0) (.ptr 1 0) (.ptr 2 0) (.mp 3) (.list false c.kG (c.gates.map eGt)) (.int .i64 c.gates.length) (.int .i64 i) (ckM c N) ckX) (.ret (eChk (findG (findU N (usedC c)) (c.gates.drop i)))):=by
 have b:=hc.2.2.2.1;have b1:=usedG_le hc;have b2:=hc.2.1;have b3:=hc.2.2.1;intro n
 induction n with
 | zero =>
  intro i hi
  have q1:¬ i<c.gates.length:=by omega
  have hh:=f_ckU (Γ:=Γ) c N (usedC c) (by simp only [usedC,List.length_append,List.length_map]; omega) (usedC c).length 0 (by omega);rw [List.drop_eq_nil_of_le (by omega),findG];refine .go 160 ?_;simp [q1];refine .call 1 (by simp) (p_used c hc) ?_;simp;refine .trees [92] ?_;refine .drop 4 rfl (by simp) (by simp) (by simp) ?_;refine .go 60 ?_;simp;refine .inLoop ?_;simp at hh ⊢;exact hh
 | succ n ih =>
  intro i hi
  have q1:i<c.gates.length:=by omega
  have q2:=c.hG.of q1;have hG:=p_Gate hΓ c.gates[i] (hc.2.2.2.2.1 _ (List.getElem_mem q1));rw [List.drop_eq_getElem_cons q1,findG];have hh:=ih (i+1) (by omega)
  cases hb:gateB c.gates[i] with
  | true =>
   rw [hb] at hG;refine .go 160 ?_;simp [q1,q2];refine .dr 160 ?_;simp;refine DRC.call (by simp) hG ?_;simp;refine DRC.call (by simp) (p_need 1 c.gates[i].name) ?_;simp (disch:=omega);refine .reLoop ?_;simp;refine .drop 4 rfl (by simp) (by simp) (by simp) ?_;simp [q2,ckM] at hh ⊢;exact hh
  | false =>
   rw [hb] at hG;refine .go 160 ?_;simp [q1,q2];refine .ogD 60 ?_;rw [ckO_eq];intro l hl;simp only [List.mem_cons,List.not_mem_nil,or_false] at hl
   rcases hl with rfl | rfl | rfl | rfl | rfl | rfl
   all_goals
    simp;refine .callO 60 (by simp) hG ?_;simp;refine .dcall 160 (by simp) (p_need_die 1 c.gates[i].name) ?_;simp;refine .dr 90 ?_;simp;exact .back (by simp)
set_option maxRecDepth 8000 in
theorem f_ckL (hΓ:InsG Γ) (c:Ct) (hc:CtFew c) (N:List Bs):∀ n i:Nat,i+n=c.latches.length →
  Fins Tryz.prog Γ (yxv (.ptr 0 0) (.ptr 1 0) (.ptr 2 0) (.mp 3) (.list false c.kL (c.latches.map eLt)) (.int .i64 c.latches.length) (.int .i64 i) (ckM c N) ckX) (.ret (eChk (findL (findG (findU N (usedC c)) c.gates) (c.latches.drop i)))):=by
 have b:=hc.2.2.2.1;have b3:=hc.2.2.1;intro n
 induction n with
 | zero =>
  intro i hi
  have q1:¬ i<c.latches.length:=by omega
  have hh:=f_ckG (Γ:=Γ) hΓ c hc N c.gates.length 0 (by omega);rw [List.drop_eq_nil_of_le (by omega),findL];refine .go 160 ?_;simp [q1];refine .inLoop ?_;simp [ckM] at hh ⊢;exact hh
 | succ n ih =>
  intro i hi
  have q1:i<c.latches.length:=by omega
  have q2:=c.hL.of q1;rw [List.drop_eq_getElem_cons q1,findL];have hh:=ih (i+1) (by omega);refine .go 160 ?_
  by_cases h1:0≤c.latches[i].init
  ·by_cases h2:c.latches[i].init≤2
   ·have e:initOk c.latches[i]=true:=by simp [initOk,h1,h2]
    simp [q1,q2,h1,h2,e];refine .call 160 (by simp) (p_need 1 c.latches[i].name) ?_;simp (disch:=omega);refine .reLoop ?_;simp;refine .drop 4 rfl (by simp) (by simp) (by simp) ?_;simp [q2,ckM] at hh ⊢;exact hh
   ·have e:initOk c.latches[i]=false:=by simp [initOk,h2]
    simp [q1,q2,h1,h2,e];refine .dcall 160 (by simp) (p_need_die 1 c.latches[i].name) ?_;simp;refine .dr 90 ?_;simp;exact .back (by simp)
  ·have e:initOk c.latches[i]=false:=by simp [initOk,h1]
   simp [q1,q2,h1,e];refine .dcall 160 (by simp) (p_need_die 1 c.latches[i].name) ?_;simp;refine .dr 90 ?_;simp;exact .back (by simp)
theorem Fins.rdie {P:Program} (n:Nat) {f:FuncId} {args:List AV} {up:List Fr} {h:List Ob} {v:AV} {o:Out} (h1:∀ up,∃ h',AM.Reach P Γ (.cl f args up h) (.die up v (h++h'))) (h2:∀ h',Fins P Γ (AM.go P Γ 0 n (.die up v (h++h'))) o):Fins P Γ (.cl f args up h) o:=by
 obtain ⟨h',hr⟩:=h1 up;exact .reach hr (.go n (h2 h'))
set_option maxRecDepth 8000 in
theorem f_ckT (hΓ:InsG Γ) (c:Ct) (hc:CtFew c) (l:List Bs):∀ n i:Nat,i+n=l.length→l.length<2^40 →
  Fins Tryz.prog Γ (yxx (.ptr 0 0) (.ptr 1 0) (.ptr 2 0) (.list false 1 (l.map .str)) (.int .i64 l.length) (.int .i64 i) (ckH c) ckX)
   (.ret (eChk (findN (twO (twiceL (netsC c)) (twO (twiceL c.outputs) (findL (findG (findU (netsC c) (usedC c)) c.gates) c.latches))) (l.drop i)))):=by
 have b0:=hc.1;have b1:=hc.2.1;have b3:=hc.2.2.1;have b4:=hc.2.2.2.1;intro n
 induction n with
 | zero =>
  intro i hi hL
  have q1:¬ i<l.length:=by omega
  have hN:(netsC c).length<2^40:=by simp [netsC]; omega
  rw [List.drop_eq_nil_of_le (by omega),findN];refine .go 160 ?_;simp [q1];refine .call 1 (by simp) (p_Nets c hc) ?_;simp;refine .trees [54] ?_;simp;refine .go 2 ?_;simp
  cases ht:twiceL (netsC c) with
  | some s0 =>
   refine Fins.rdie 160 (r_onceD (Γ:=Γ) (fl:=false) (netsC c) .self hN _ (by intro m hm; simp) ht) (fun h' => ?_);simp;refine .dr 90 ?_;simp;exact .back (by simp [twO])
  | none =>
   refine .rcall 160 (r_once (Γ:=Γ) (fl:=false) (netsC c) .self hN _ (by intro m hm; simp) ht) ?_;simp
   cases hu:twiceL c.outputs with
   | some s0 =>
    refine Fins.rdie 160 (r_onceD (Γ:=Γ) (fl:=false) c.outputs c.hO (by omega) _ (by intro m hm; simp) hu) (fun h' => ?_);simp;refine .dr 90 ?_;simp;exact .back (by simp [twO])
   | none =>
    have hh:=f_ckL (Γ:=Γ) hΓ c hc (netsC c) c.latches.length 0 (by omega);refine .rcall 160 (r_once (Γ:=Γ) (fl:=false) c.outputs c.hO (by omega) _ (by intro m hm; simp) hu) ?_;simp;refine .inLoop ?_;simp;refine .gc 3 [1] (by simp) (by decide) ?_;simp [ckM,twO] at hh ⊢;exact hh
 | succ n ih =>
  intro i hi hL
  have q1:i<l.length:=by omega
  rw [List.drop_eq_getElem_cons q1,findN];have hh:=ih (i+1) (by omega) hL;refine .go 160 ?_;simp [q1];refine .call 160 (by simp) (p_Name l[i]) ?_
  cases hb:nameB l[i] with
  | true =>
   simp;refine .call 160 (by simp) (p_need 4 l[i]) ?_;simp (disch:=omega);refine .reLoop ?_;simp at hh ⊢;exact hh
  | false =>
   simp;refine .dcall 160 (by simp) (p_need_die 4 l[i]) ?_;simp;refine .dr 90 ?_;simp;exact .back (by simp)
set_option maxRecDepth 8000 in
theorem p_Check (hΓ:InsG Γ) (c:Ct) (hc:CtFew c):PureCon Tryz.prog Γ n_net_Check [eCt c] (eChk (checkC c)):=by
 have b0:=hc.1;have b1:=hc.2.1;have b3:=hc.2.2.1;have b4:=hc.2.2.2.1;have t1:=toldL_le hc;have t2:=toldG_le hc;have hC:=p_ContainsFunc_gate (Γ:=Γ) (fl:=false) (a_large c.gates) c.hG (by omega) (h:=ckH c) trivial;have e0:((c.inputs.length:Int)+c.latches.length+c.gates.length≤200)=(c.inputs.length+c.latches.length+c.gates.length≤200):=propext (by omega);have e1:((c.outputs.length:Int)≤200)=(c.outputs.length≤200):=propext (by omega);refine .run 160 c_net_Check (by simp) ?_;unfold checkC
 by_cases h1:c.inputs.length+c.latches.length+c.gates.length≤200
 ·by_cases h2:c.outputs.length≤200
  ·simp (disch:=omega) [e0,e1,h1,h2];refine .rcall 160 hC ?_
   cases h3:anyB largeB c.gates with
   | true =>
    have hl:limC c=true:=by simp [limC,h3]
    simp;refine .dcall 160 (by simp) (p_need_die 8 []) ?_;simp;refine .dr 90 ?_;simp;exact .back (by simp [hl])
   | false =>
    have hl:limC c=false:=by
     simp only [limC,h3,Bool.false_or,Bool.or_eq_false_iff,decide_eq_false_iff_not];omega
    have hh:=f_ckT (Γ:=Γ) hΓ c hc (toldC c) (toldC c).length 0 (by omega) (by simp [toldC]; omega);simp;refine .call 160 (by simp) (p_need 8 []) ?_;simp;refine .call 1 (by simp) (p_told c hc) ?_;simp;refine .trees [42] ?_;simp;refine .drop 3 rfl (by simp) (by simp) (by simp) ?_;refine .go 60 ?_;simp;refine .inLoop ?_;simp [hl] at hh ⊢;exact hh
  ·have hl:limC c=true:=by
    simp only [limC,Bool.or_eq_true,decide_eq_true_eq]; right; right; omega
   simp (disch:=omega) [e0,e1,h1,h2];refine .dcall 160 (by simp) (p_need_die 8 []) ?_;simp;refine .dr 90 ?_;simp;exact .back (by simp [hl])
 ·have hl:limC c=true:=by
   simp only [limC,Bool.or_eq_true,decide_eq_true_eq]; right; left; omega
  simp (disch:=omega) [e0,e1,h1];refine .dcall 160 (by simp) (p_need_die 8 []) ?_;simp;refine .dr 90 ?_;simp;exact .back (by simp [hl])
def idxS (s:List UInt8):List (List UInt8)→Nat→Int
 | [],_ => -1
 | a::l,i=>if s=a then (i:Int) else idxS s l (i+1)
theorem idxS_has (s:List UInt8):∀ (l:List (List UInt8)) (i:Nat),decide (0≤idxS s l i)=l.contains s
 | [],i=>by simp [idxS]
 | a::l,i=>by
  rw [idxS,List.contains_cons]
  by_cases h:s=a
  ·rw [if_pos h]; simp [h]
  ·rw [if_neg h,idxS_has s l (i+1)]
   have:(s==a)=false:=by simpa using h
   rw [this]; rfl
theorem p_IndexS (l:List (List UInt8)) (s:List UInt8) {k:Nat} (hk:Kd 1 k l) (hl:l.length<2^40):PureCon Tryz.prog Γ n_slices_Index_string_string [.list false k (l.map .str),.str s] (.int .i64 (idxS s l 0)):=by
 have key:∀ n i:Nat,i+n=l.length→Fins Tryz.prog Γ (yxM (.list false k (l.map .str)) (.str s) (.int .i64 l.length) (.int .i64 i) []) (.ret (.int .i64 (idxS s (l.drop i) i))):=by
  intro n
  induction n with
  | zero =>
   intro i hi
   have q1:¬ i<l.length:=by omega
   rw [List.drop_eq_nil_of_le (by omega),idxS];refine .go 60 ?_;simp [q1];exact .back (by simp)
  | succ n ih =>
   intro i hi
   have q1:i<l.length:=by omega
   have q2:=eq_true (hk.of q1);have hh:=ih (i+1) (by omega);rw [List.drop_eq_getElem_cons q1,idxS];refine .go 60 ?_
   by_cases h:s=l[i]
   ·simp [q1,q2,h];exact .back (by simp)
   ·simp (disch:=omega) [q1,q2,h];refine .reLoop ?_;simp at hh ⊢;exact hh
 refine .run 60 c_slices_Index_string_string (by simp) ?_;simp;refine .inLoop ?_;have hh:=key l.length 0 (by omega);simp at hh ⊢;exact hh
theorem nets_le {c:Ct} (hc:CtFew c):(netsC c).length<2^12:=by
 have b0:=hc.1;have b3:=hc.2.2.1;have b4:=hc.2.2.2.1
 simp [netsC]; omega
def placeC (c:Ct) (s:Bs):Int:=idxS s (netsC c) 0
abbrev Gt.key (g:Gt):Bs×Int×Bool×List Bs×List Bs:=(g.name,g.op,g.off,g.ins,g.rows)
end Go.Proofs.YtpinapmcemimcaaGreatDoor
namespace Go.Proofs.YtpinapmcemimcaaGreatDoor
open Go.AM Go.Proofs
def WfO (h:List Ob):Prop:=∀ m,h.length≤m→belH m h=true
theorem belH_set {m:Nat} {o:Ob} (ho:belO m o=true):∀ {h:List Ob} (i:Nat),belH m h=true→belH m (h.set i o)=true
 | [],i,h1=>h1
 | o'::h,0,h1=>by
  simp only [belH,Bool.and_eq_true,List.set_cons_zero] at h1 ⊢;exact ⟨ho,h1.2⟩
 | o'::h,i+1,h1=>by
  simp only [belH,Bool.and_eq_true,List.set_cons_succ] at h1 ⊢;exact ⟨h1.1,belH_set ho i h1.2⟩
theorem WfO.set {h:List Ob} (hw:WfO h) {o:Ob} (hb:∀ m,h.length≤m→belO m o=true) (i:Nat):WfO (h.set i o):=fun m hm=>by
 rw [List.length_set] at hm;exact belH_set (hb m hm) i (hw m hm)
def WfV (h:List Ob):Prop:=∀ i m,h.length≤i→vldH i m h=true
theorem eq_str (a b:List UInt8):eqData (.sc .str) (.str a) (.str b)=some (decide (a=b)):=by
 simp only [eqData,eqOne]
 by_cases h:a=b <;> simp [h]
theorem eq_nat (a b:Nat):eqData (.sc .int) (.int .i64 a) (.int .i64 b)=some (decide (a=b)):=by
 simp only [eqData,eqOne]
 by_cases h:a=b
 ·simp [h]
 ·have h2:¬ (a:Int)=b:=by omega
  simp [h,h2]
section
variable {K : Type} [DecidableEq K] {E : EK} {e : K → AV} (he : ∀ a b, eqData E (e a) (e b) = some (decide (a = b)))
def getM {V:Type} (k:K):List (K×V)→Option V
 | []=>none
 | (a,v)::l=>if k=a then some v else getM k l
def delM {V:Type} (k:K) (l:List (K×V)):List (K×V):=l.filter fun x=>decide (¬ x.1=k)
theorem getM_none {V:Type} {k:K}:∀ {l:List (K×V)},getM k l=none↔∀ x∈l,¬ x.1=k
 | []=>by simp [getM]
 | (a,v)::l=>by
  rw [getM]
  by_cases h:k=a
  ·rw [if_pos h]; simp [h]
  ·rw [if_neg h,getM_none];simp only [List.mem_cons,forall_eq_or_imp];exact ⟨fun h1=>⟨fun h2=>h h2.symm,h1⟩,fun h1=>h1.2⟩
include he
theorem findIn_gen {V:Type} (ev:V→AV) (k:K):∀ l:List (K×V),findIn E (e k) (l.map fun x=>(e x.1,ev x.2))=some ((getM k l).map ev)
 | []=>rfl
 | (a,v)::l=>by
  simp only [List.map_cons,findIn,he,getM]
  by_cases h:k=a
  ·simp [h]
  ·simp only [h,decide_false,if_false]; exact findIn_gen ev k l
theorem putIn_gen {V:Type} (ev:V→AV) {k:K} (v:V):∀ {l:List (K×V)},getM k l=none→putIn E (e k) (ev v) (l.map fun x=>(e x.1,ev x.2))=some ((l++[(k,v)]).map fun x=>(e x.1,ev x.2))
 | [],_=>rfl
 | (a,u)::l,h=>by
  rw [getM] at h
  by_cases h2:k=a
  ·rw [if_pos h2] at h; cases h
  ·rw [if_neg h2] at h;simp only [List.map_cons,putIn,he,h2,decide_false,putIn_gen ev v h,Option.map_some,List.cons_append]
theorem delIn_gen {V:Type} (ev:V→AV) (k:K):∀ {l:List (K×V)},(l.map (·.1)).Nodup→delIn E (e k) (l.map fun x=>(e x.1,ev x.2))=some ((delM k l).map fun x=>(e x.1,ev x.2))
 | [],_=>rfl
 | (a,u)::l,h=>by
  simp only [List.map_cons,List.nodup_cons] at h
  by_cases h2:k=a
  ·subst h2
   have h3:delM k l=l:=by
    unfold delM;rw [List.filter_eq_self];intro x hx
    refine decide_eq_true fun hn=>h.1 ?_
    rw [← hn];exact List.mem_map_of_mem hx
   have h4:delM k ((k,u)::l)=l:=by rw [← h3]; simp [delM]
   simp only [List.map_cons,delIn,he,decide_true,h4]
  ·have h4:delM k ((a,u)::l)=(a,u)::delM k l:=by
    unfold delM;rw [List.filter_cons,if_pos (by simpa using fun h=>h2 h.symm)]
   simp only [List.map_cons,delIn,he,h2,decide_false,delIn_gen ev k h.2,Option.map_some,h4]
end
end Go.Proofs.YtpinapmcemimcaaGreatDoor
namespace Go.Proofs.YtpinapmcemimcaaGreatDoor
open Go.AM Go.Proofs
variable {Γ : Nat → Option AV}
def plM (c:Ct):List (Bs×Nat):=c.gates.zipIdx.map fun x=>(x.1.name,x.2)
abbrev ePl (x:Bs×Nat):AV×AV:=(.str x.1,.int .i64 x.2)
theorem bel_pl (m:Nat):∀ l:List (Bs×Nat),belM m (l.map ePl)=true
 | []=>rfl
 | x::l=>by simp [bel_pl m l]
theorem plM_len (c:Ct):(plM c).length=c.gates.length:=by simp [plM]
theorem plM_get (c:Ct) (i:Nat) (h:i<c.gates.length):(plM c)[i]'(by rw [plM_len]; exact h)=(c.gates[i].name,i):=by simp [plM]
theorem plM_keys (c:Ct):(plM c).map (·.1)=c.gates.map (·.name):=by
 apply List.ext_getElem
 ·simp [plM]
 ·intro i h1 h2; simp [plM]
theorem getM_take {c:Ct} (hd:(c.gates.map (·.name)).Nodup) {i:Nat} (h:i<c.gates.length):getM c.gates[i].name ((plM c).take i)=none:=by
 rw [getM_none];intro x hx hn;obtain ⟨j,hj,rfl⟩:=List.getElem_of_mem hx
 have hj':j<i:=by simp at hj; omega
 rw [List.getElem_take,plM_get c j (by omega)] at hn
 have h1:(c.gates.map (·.name))[j]'(by simp; omega)=(c.gates.map (·.name))[i]'(by simp; omega):=by simpa using hn
 have:=(List.getElem_inj hd).1 h1;omega
set_option maxRecDepth 8000 in
theorem r_places (c:Ct) (hc:CtFew c) (hd:(c.gates.map (·.name)).Nodup) {h:List Ob} (hw:WfO h) (up:List Fr) :
  AM.Reach Tryz.prog Γ (.cl n_order_places [eCt c] up h) (.back up (.mp (h.length+1)) (h++[.cells (AV.cells (eCt c)),.map ((plM c).map ePl) true])):=by
 have hG:=c.hG;have hb:=hw (h.length+2) (by omega)
 have key:∀ n i:Nat,i+n=c.gates.length→AM.Reach Tryz.prog Γ (yzg (.mp (h.length+1)) (.list false c.kG (c.gates.map eGt)) (.int .i64 c.gates.length) (.int .i64 i) (h++[.cells (AV.cells (eCt c)),.map (((plM c).take i).map ePl) true]) ⟨[],.norm,h.length,up⟩)
   (.back up (.mp (h.length+1)) (h++[.cells (AV.cells (eCt c)),.map ((plM c).map ePl) true])):=by
  intro n
  induction n with
  | zero =>
   intro i hi
   have q1:¬ i<c.gates.length:=by omega
   rw [List.take_of_length_le (by rw [plM_len]; omega)];refine .goB 60 ?_;simp [q1]
  | succ n ih =>
   intro i hi
   have q1:i<c.gates.length:=by omega
   have q2:=eq_true (hG.of q1);have hh:=ih (i+1) (by omega)
   have q3:i<(plM c).length:=by rw [plM_len]; exact q1
   have e1:(plM c).take (i+1)=(plM c).take i++[(c.gates[i].name,i)]:=by rw [List.take_succ_eq_append_getElem q3,plM_get c i q1]
   rw [e1] at hh;have hput:=putIn_gen (E:=.sc .str) (e:=AV.str) eq_str (fun n:Nat=>AV.int .i64 n) i (getM_take hd q1);have hbp:=bel_pl (h.length+2) ((plM c).take i++[(c.gates[i].name,i)])
   have hi2:i<2^10:=by have:=hc.2.2.2.1; omega
   generalize (plM c).take i=P at *;refine .goB 60 ?_;simp (disch:=omega) [q1,q2,isKey,allDatum,isDatum,hput];refine .reLoop ?_;simp;refine .dropTo (h.length+2) (by simp; rfl) (by simp) (by simp) (by simp [hb] at hbp ⊢; exact hbp) ?_;simp at hh ⊢;exact hh
 refine .enterB 60 c_order_places ?_;simp;refine .inLoop ?_;have hh:=key c.gates.length 0 (by omega);simp at hh ⊢;exact hh
abbrev gL (c:Ct):AV:=.list false c.kG (c.gates.map eGt)
abbrev tR (p:Nat) (x2 x3 a b c d e f g h i w:AV):List AV:=[U,.ptr p 0,x2,x3,w,U,U,U,U,U,U,U,U,a,b,c,d,e,f,g,h,i]++List.replicate 58 U
abbrev hW (c:Ct) (n:Nat):List Ob:=[.cells [.sl (n+1) 0 c.gates.length,.sl (n+2) 0 c.gates.length],.row 1 t_map_int_bool_2 (List.replicate c.gates.length .nilm) none true false,.row 1 t_int_2 (List.replicate c.gates.length (.list true 0 [])) none true false]
abbrev AW (Γ:Nat→Option AV) (k:List It) (base:Nat) (up:List Fr) (C:AM.Cfg) (ds:List Nat) (n:Nat) (t:List AV) (H:List Ob):Prop:=AnyO Tryz.prog Γ [[],[0],[1],[2,2],[],[4],[5],[6,6],[3,7],[],[9,8,0,1,2,3,4,5,6,7,8,9]] yEe n_order_wait k [] .norm base up C ds n t H
abbrev oA (c:Ct):Ob:=.row 1 t_map_int_bool_2 (List.replicate c.gates.length .nilm) none true false
abbrev oB (c:Ct):Ob:=.row 1 t_int_2 (List.replicate c.gates.length (.list true 0 [])) none true false
abbrev oN:Ob:=.row 1 t_map_int_bool_2 [] none true false
abbrev oM:Ob:=.row 1 t_int_2 [] none true false
abbrev iG (c:Ct):AV:=.int .i64 c.gates.length
abbrev sG (c:Ct) (H:List Ob) (j:Nat):AV:=.sl (H.length+j) 0 c.gates.length
section
variable {c : Ct} {p : Nat} {x2 x3 : AV} {H : List Ob} {up : List Fr} {base : Nat} {k : List It} {C : AM.Cfg}
set_option maxRecDepth 8000 in
theorem w_s_0_1_2_3_4_5_6_7_8_9_10_ABw (hw:belH H.length H=true) (hb:base≤H.length) (hp:p<H.length) (h2:bel H.length x2=true) (h3:bel H.length x3=true) (hk:belI H.length k=true)
  (hC:AM.Reach Tryz.prog Γ (.fr ⟨.run,n_order_wait,.ops []::k,tR p x2 x3 U U U U U U U U U (.ptr H.length 0),[],.norm,base⟩ up (H++hW c H.length)) C):AW Γ k base up C [0,1,2,3,4,5,6,7,8,9,10] 0 (tR p x2 x3 (.ptr p 3) (gL c) (iG c) (sG c H 0) (.ptr p 3) (gL c) (iG c) (sG c H 1) (.agg [sG c H 0,sG c H 1]) (.ptr (H.length+2) 0)) (H++[oA c,oB c,.cells [sG c H 0,sG c H 1],oN,oM]):=by
 refine .last ?_;refine .trans (.clrs [13,14,15,16,17,18,19,20,21] _) ?_;simp [clrT];refine .gcTo H.length [2,0,1] (by simp [okP_bel hw,okA_bel h2,okA_bel h3,hk,hb,hp]) (by decide) ?_
 have hlt:∀ j,(H.length+j<H.length)=False:=fun j=>eq_false (by omega)
 simp [rnH_bel hw,rnA_bel h2,rnA_bel h3,hp,hlt];simp at hC;exact hC
set_option maxRecDepth 8000 in
theorem w_s_0_1_2_3_4_5_6_7_8_9_10_AwB (hw:belH H.length H=true) (hb:base≤H.length) (hp:p<H.length) (h2:bel H.length x2=true) (h3:bel H.length x3=true) (hk:belI H.length k=true)
  (hC:AM.Reach Tryz.prog Γ (.fr ⟨.run,n_order_wait,.ops []::k,tR p x2 x3 U U U U U U U U U (.ptr H.length 0),[],.norm,base⟩ up (H++hW c H.length)) C):AW Γ k base up C [0,1,2,3,4,5,6,7,8,9,10] 0 (tR p x2 x3 (.ptr p 3) (gL c) (iG c) (sG c H 0) (.ptr p 3) (gL c) (iG c) (sG c H 4) (.agg [sG c H 0,sG c H 4]) (.ptr (H.length+1) 0)) (H++[oA c,.cells [sG c H 0,sG c H 4],oN,oM,oB c]):=by
 refine .last ?_;refine .trans (.clrs [13,14,15,16,17,18,19,20,21] _) ?_;simp [clrT];refine .gcTo H.length [1,0,4] (by simp [okP_bel hw,okA_bel h2,okA_bel h3,hk,hb,hp]) (by decide) ?_
 have hlt:∀ j,(H.length+j<H.length)=False:=fun j=>eq_false (by omega)
 simp [rnH_bel hw,rnA_bel h2,rnA_bel h3,hp,hlt];simp at hC;exact hC
set_option maxRecDepth 8000 in
theorem w_s_0_1_2_3_4_5_6_7_8_9_10_BAw (hw:belH H.length H=true) (hb:base≤H.length) (hp:p<H.length) (h2:bel H.length x2=true) (h3:bel H.length x3=true) (hk:belI H.length k=true)
  (hC:AM.Reach Tryz.prog Γ (.fr ⟨.run,n_order_wait,.ops []::k,tR p x2 x3 U U U U U U U U U (.ptr H.length 0),[],.norm,base⟩ up (H++hW c H.length)) C):AW Γ k base up C [0,1,2,3,4,5,6,7,8,9,10] 0 (tR p x2 x3 (.ptr p 3) (gL c) (iG c) (sG c H 1) (.ptr p 3) (gL c) (iG c) (sG c H 0) (.agg [sG c H 1,sG c H 0]) (.ptr (H.length+2) 0)) (H++[oB c,oA c,.cells [sG c H 1,sG c H 0],oN,oM]):=by
 refine .last ?_;refine .trans (.clrs [13,14,15,16,17,18,19,20,21] _) ?_;simp [clrT];refine .gcTo H.length [2,1,0] (by simp [okP_bel hw,okA_bel h2,okA_bel h3,hk,hb,hp]) (by decide) ?_
 have hlt:∀ j,(H.length+j<H.length)=False:=fun j=>eq_false (by omega)
 simp [rnH_bel hw,rnA_bel h2,rnA_bel h3,hp,hlt];simp at hC;exact hC
set_option maxRecDepth 8000 in
theorem w_s_0_1_2_3_4_5_6_7_8_9_10_BwA (hw:belH H.length H=true) (hb:base≤H.length) (hp:p<H.length) (h2:bel H.length x2=true) (h3:bel H.length x3=true) (hk:belI H.length k=true)
  (hC:AM.Reach Tryz.prog Γ (.fr ⟨.run,n_order_wait,.ops []::k,tR p x2 x3 U U U U U U U U U (.ptr H.length 0),[],.norm,base⟩ up (H++hW c H.length)) C):AW Γ k base up C [0,1,2,3,4,5,6,7,8,9,10] 0 (tR p x2 x3 (.ptr p 3) (gL c) (iG c) (sG c H 4) (.ptr p 3) (gL c) (iG c) (sG c H 0) (.agg [sG c H 4,sG c H 0]) (.ptr (H.length+1) 0)) (H++[oB c,.cells [sG c H 4,sG c H 0],oN,oM,oA c]):=by
 refine .last ?_;refine .trans (.clrs [13,14,15,16,17,18,19,20,21] _) ?_;simp [clrT];refine .gcTo H.length [1,4,0] (by simp [okP_bel hw,okA_bel h2,okA_bel h3,hk,hb,hp]) (by decide) ?_
 have hlt:∀ j,(H.length+j<H.length)=False:=fun j=>eq_false (by omega)
 simp [rnH_bel hw,rnA_bel h2,rnA_bel h3,hp,hlt];simp at hC;exact hC
set_option maxRecDepth 8000 in
theorem w_s_0_1_2_3_4_5_6_7_8_9_10_wAB (hw:belH H.length H=true) (hb:base≤H.length) (hp:p<H.length) (h2:bel H.length x2=true) (h3:bel H.length x3=true) (hk:belI H.length k=true)
  (hC:AM.Reach Tryz.prog Γ (.fr ⟨.run,n_order_wait,.ops []::k,tR p x2 x3 U U U U U U U U U (.ptr H.length 0),[],.norm,base⟩ up (H++hW c H.length)) C):AW Γ k base up C [0,1,2,3,4,5,6,7,8,9,10] 0 (tR p x2 x3 (.ptr p 3) (gL c) (iG c) (sG c H 3) (.ptr p 3) (gL c) (iG c) (sG c H 4) (.agg [sG c H 3,sG c H 4]) (.ptr H.length 0)) (H++[.cells [sG c H 3,sG c H 4],oN,oM,oA c,oB c]):=by
 refine .last ?_;refine .trans (.clrs [13,14,15,16,17,18,19,20,21] _) ?_;simp [clrT];refine .gcTo H.length [0,3,4] (by simp [okP_bel hw,okA_bel h2,okA_bel h3,hk,hb,hp]) (by decide) ?_
 have hlt:∀ j,(H.length+j<H.length)=False:=fun j=>eq_false (by omega)
 simp [rnH_bel hw,rnA_bel h2,rnA_bel h3,hp,hlt];simp at hC;exact hC
set_option maxRecDepth 8000 in
theorem w_s_0_1_2_3_4_5_6_7_8_9_10_wBA (hw:belH H.length H=true) (hb:base≤H.length) (hp:p<H.length) (h2:bel H.length x2=true) (h3:bel H.length x3=true) (hk:belI H.length k=true)
  (hC:AM.Reach Tryz.prog Γ (.fr ⟨.run,n_order_wait,.ops []::k,tR p x2 x3 U U U U U U U U U (.ptr H.length 0),[],.norm,base⟩ up (H++hW c H.length)) C):AW Γ k base up C [0,1,2,3,4,5,6,7,8,9,10] 0 (tR p x2 x3 (.ptr p 3) (gL c) (iG c) (sG c H 4) (.ptr p 3) (gL c) (iG c) (sG c H 3) (.agg [sG c H 4,sG c H 3]) (.ptr H.length 0)) (H++[.cells [sG c H 4,sG c H 3],oN,oM,oB c,oA c]):=by
 refine .last ?_;refine .trans (.clrs [13,14,15,16,17,18,19,20,21] _) ?_;simp [clrT];refine .gcTo H.length [0,4,3] (by simp [okP_bel hw,okA_bel h2,okA_bel h3,hk,hb,hp]) (by decide) ?_
 have hlt:∀ j,(H.length+j<H.length)=False:=fun j=>eq_false (by omega)
 simp [rnH_bel hw,rnA_bel h2,rnA_bel h3,hp,hlt];simp at hC;exact hC
set_option maxRecDepth 8000 in
set_option maxHeartbeats 20000000 in
theorem r_waitR (hc:CtFew c) (hp:H[p]? = some (.cells (AV.cells (eCt c)))) (hw:belH H.length H=true) (hb:base≤H.length) (h2:bel H.length x2=true) (h3:bel H.length x3=true) (hk:belI H.length k=true)
  (hC:AM.Reach Tryz.prog Γ (.fr ⟨.run,n_order_wait,.ops []::k,tR p x2 x3 U U U U U U U U U (.ptr H.length 0),[],.norm,base⟩ up (H++hW c H.length)) C) :
  AM.Reach Tryz.prog Γ (.fr ⟨.run,n_order_wait,.code (.oreg [[],[0],[1],[2,2],[],[4],[5],[6,6],[3,7],[],[9,8,0,1,2,3,4,5,6,7,8,9]] yEe)::k,tR p x2 x3 U U U U U U U U U U,[],.norm,base⟩ up H) C:=by
 have hG:=hc.2.2.2.1
 have hget:=fun os=>get_app hp os
 have hpl:=lt_of_get hp;have b8:((c.gates.length:Int)*8≤140737488355328∧(c.gates.length:Int)≤140737488355328)=True:=eq_true (by omega);have b24:((c.gates.length:Int)*24≤140737488355328∧(c.gates.length:Int)≤140737488355328)=True:=eq_true (by omega);have s_0_1_2_3_4_5_6_7_8_9_10_ABw:AW Γ k base up C [0,1,2,3,4,5,6,7,8,9,10] 0 (tR p x2 x3 (.ptr p 3) (gL c) (iG c) (sG c H 0) (.ptr p 3) (gL c) (iG c) (sG c H 1) (.agg [sG c H 0,sG c H 1]) (.ptr (H.length+2) 0)) (H++[oA c,oB c,.cells [sG c H 0,sG c H 1],oN,oM]):=w_s_0_1_2_3_4_5_6_7_8_9_10_ABw hw hb hpl h2 h3 hk hC
 have s_0_1_2_3_4_5_6_7_8_9_ABw:AW Γ k base up C [0,1,2,3,4,5,6,7,8,9] 1 (tR p x2 x3 (.ptr p 3) (gL c) (iG c) (sG c H 0) (.ptr p 3) (gL c) (iG c) (sG c H 1) (.agg [sG c H 0,sG c H 1]) (.ptr (H.length+2) 0)) (H++[oA c,oB c,.cells [.sl (H.length+3) 0 0,.sl (H.length+4) 0 0],oN,oM]):=by
  refine .step fun i hi => ?_
  have hi':i∈[10]:=hi;simp only [List.mem_cons,List.not_mem_nil,or_false] at hi'
  rcases hi' with rfl
  ·exact ⟨_,_,.tup [],(H++[oA c,oB c,.cells [sG c H 0,sG c H 1],oN,oM]),rfl,.inr ⟨rfl,by simp [hp,hget,b8,b24]⟩,s_0_1_2_3_4_5_6_7_8_9_10_ABw.perm (by decide)⟩
 have s_0_1_2_3_4_5_6_7_8_AB:AW Γ k base up C [0,1,2,3,4,5,6,7,8] 2 (tR p x2 x3 (.ptr p 3) (gL c) (iG c) (sG c H 0) (.ptr p 3) (gL c) (iG c) (sG c H 1) (.agg [sG c H 0,sG c H 1]) U) (H++[oA c,oB c]):=by
  refine .step fun i hi => ?_
  have hi':i∈[9]:=hi;simp only [List.mem_cons,List.not_mem_nil,or_false] at hi'
  rcases hi' with rfl
  ·exact ⟨_,_,.ptr (H.length+2) 0,(H++[oA c,oB c,.cells [.sl (H.length+3) 0 0,.sl (H.length+4) 0 0],oN,oM]),rfl,.inl (by simp [hp,hget,b8,b24]),s_0_1_2_3_4_5_6_7_8_9_ABw.perm (by decide)⟩
 have s_0_1_2_3_4_5_6_7_9_ABw:AW Γ k base up C [0,1,2,3,4,5,6,7,9] 2 (tR p x2 x3 (.ptr p 3) (gL c) (iG c) (sG c H 0) (.ptr p 3) (gL c) (iG c) (sG c H 1) U (.ptr (H.length+2) 0)) (H++[oA c,oB c,.cells [.sl (H.length+3) 0 0,.sl (H.length+4) 0 0],oN,oM]):=by
  refine .step fun i hi => ?_
  have hi':i∈[8]:=hi;simp only [List.mem_cons,List.not_mem_nil,or_false] at hi'
  rcases hi' with rfl
  ·exact ⟨_,_,.agg [sG c H 0,sG c H 1],(H++[oA c,oB c,.cells [.sl (H.length+3) 0 0,.sl (H.length+4) 0 0],oN,oM]),rfl,.inl (by simp [hp,hget,b8,b24]),s_0_1_2_3_4_5_6_7_8_9_ABw.perm (by decide)⟩
 have s_0_1_2_3_4_5_6_7_AB:AW Γ k base up C [0,1,2,3,4,5,6,7] 3 (tR p x2 x3 (.ptr p 3) (gL c) (iG c) (sG c H 0) (.ptr p 3) (gL c) (iG c) (sG c H 1) U U) (H++[oA c,oB c]):=by
  refine .step fun i hi => ?_
  have hi':i∈[8,9]:=hi;simp only [List.mem_cons,List.not_mem_nil,or_false] at hi'
  rcases hi' with rfl | rfl
  ·exact ⟨_,_,.agg [sG c H 0,sG c H 1],(H++[oA c,oB c]),rfl,.inl (by simp [hp,hget,b8,b24]),s_0_1_2_3_4_5_6_7_8_AB.perm (by decide)⟩
  ·exact ⟨_,_,.ptr (H.length+2) 0,(H++[oA c,oB c,.cells [.sl (H.length+3) 0 0,.sl (H.length+4) 0 0],oN,oM]),rfl,.inl (by simp [hp,hget,b8,b24]),s_0_1_2_3_4_5_6_7_9_ABw.perm (by decide)⟩
 have s_0_1_2_3_4_5_6_7_8_9_10_AwB:AW Γ k base up C [0,1,2,3,4,5,6,7,8,9,10] 0 (tR p x2 x3 (.ptr p 3) (gL c) (iG c) (sG c H 0) (.ptr p 3) (gL c) (iG c) (sG c H 4) (.agg [sG c H 0,sG c H 4]) (.ptr (H.length+1) 0)) (H++[oA c,.cells [sG c H 0,sG c H 4],oN,oM,oB c]):=w_s_0_1_2_3_4_5_6_7_8_9_10_AwB hw hb hpl h2 h3 hk hC
 have s_0_1_2_3_4_5_6_7_8_9_AwB:AW Γ k base up C [0,1,2,3,4,5,6,7,8,9] 1 (tR p x2 x3 (.ptr p 3) (gL c) (iG c) (sG c H 0) (.ptr p 3) (gL c) (iG c) (sG c H 4) (.agg [sG c H 0,sG c H 4]) (.ptr (H.length+1) 0)) (H++[oA c,.cells [.sl (H.length+2) 0 0,.sl (H.length+3) 0 0],oN,oM,oB c]):=by
  refine .step fun i hi => ?_
  have hi':i∈[10]:=hi;simp only [List.mem_cons,List.not_mem_nil,or_false] at hi'
  rcases hi' with rfl
  ·exact ⟨_,_,.tup [],(H++[oA c,.cells [sG c H 0,sG c H 4],oN,oM,oB c]),rfl,.inr ⟨rfl,by simp [hp,hget,b8,b24]⟩,s_0_1_2_3_4_5_6_7_8_9_10_AwB.perm (by decide)⟩
 have s_0_1_2_3_4_5_6_7_9_AwB:AW Γ k base up C [0,1,2,3,4,5,6,7,9] 2 (tR p x2 x3 (.ptr p 3) (gL c) (iG c) (sG c H 0) (.ptr p 3) (gL c) (iG c) (sG c H 4) U (.ptr (H.length+1) 0)) (H++[oA c,.cells [.sl (H.length+2) 0 0,.sl (H.length+3) 0 0],oN,oM,oB c]):=by
  refine .step fun i hi => ?_
  have hi':i∈[8]:=hi;simp only [List.mem_cons,List.not_mem_nil,or_false] at hi'
  rcases hi' with rfl
  ·exact ⟨_,_,.agg [sG c H 0,sG c H 4],(H++[oA c,.cells [.sl (H.length+2) 0 0,.sl (H.length+3) 0 0],oN,oM,oB c]),rfl,.inl (by simp [hp,hget,b8,b24]),s_0_1_2_3_4_5_6_7_8_9_AwB.perm (by decide)⟩
 have s_0_1_2_3_4_5_6_9_Aw:AW Γ k base up C [0,1,2,3,4,5,6,9] 3 (tR p x2 x3 (.ptr p 3) (gL c) (iG c) (sG c H 0) (.ptr p 3) (gL c) (iG c) U U (.ptr (H.length+1) 0)) (H++[oA c,.cells [.sl (H.length+2) 0 0,.sl (H.length+3) 0 0],oN,oM]):=by
  refine .step fun i hi => ?_
  have hi':i∈[7]:=hi;simp only [List.mem_cons,List.not_mem_nil,or_false] at hi'
  rcases hi' with rfl
  ·exact ⟨_,_,sG c H 4,(H++[oA c,.cells [.sl (H.length+2) 0 0,.sl (H.length+3) 0 0],oN,oM,oB c]),rfl,.inl (by simp [hp,hget,b8,b24]),s_0_1_2_3_4_5_6_7_9_AwB.perm (by decide)⟩
 have s_0_1_2_3_4_5_6_A:AW Γ k base up C [0,1,2,3,4,5,6] 4 (tR p x2 x3 (.ptr p 3) (gL c) (iG c) (sG c H 0) (.ptr p 3) (gL c) (iG c) U U U) (H++[oA c]):=by
  refine .step fun i hi => ?_
  have hi':i∈[7,9]:=hi;simp only [List.mem_cons,List.not_mem_nil,or_false] at hi'
  rcases hi' with rfl | rfl
  ·exact ⟨_,_,sG c H 1,(H++[oA c,oB c]),rfl,.inl (by simp [hp,hget,b8,b24]),s_0_1_2_3_4_5_6_7_AB.perm (by decide)⟩
  ·exact ⟨_,_,.ptr (H.length+1) 0,(H++[oA c,.cells [.sl (H.length+2) 0 0,.sl (H.length+3) 0 0],oN,oM]),rfl,.inl (by simp [hp,hget,b8,b24]),s_0_1_2_3_4_5_6_9_Aw.perm (by decide)⟩
 have s_0_1_2_3_4_5_9_Aw:AW Γ k base up C [0,1,2,3,4,5,9] 4 (tR p x2 x3 (.ptr p 3) (gL c) (iG c) (sG c H 0) (.ptr p 3) (gL c) U U U (.ptr (H.length+1) 0)) (H++[oA c,.cells [.sl (H.length+2) 0 0,.sl (H.length+3) 0 0],oN,oM]):=by
  refine .step fun i hi => ?_
  have hi':i∈[6]:=hi;simp only [List.mem_cons,List.not_mem_nil,or_false] at hi'
  rcases hi' with rfl
  ·exact ⟨_,_,iG c,(H++[oA c,.cells [.sl (H.length+2) 0 0,.sl (H.length+3) 0 0],oN,oM]),rfl,.inl (by simp [hp,hget,b8,b24]),s_0_1_2_3_4_5_6_9_Aw.perm (by decide)⟩
 have s_0_1_2_3_4_5_A:AW Γ k base up C [0,1,2,3,4,5] 5 (tR p x2 x3 (.ptr p 3) (gL c) (iG c) (sG c H 0) (.ptr p 3) (gL c) U U U U) (H++[oA c]):=by
  refine .step fun i hi => ?_
  have hi':i∈[6,9]:=hi;simp only [List.mem_cons,List.not_mem_nil,or_false] at hi'
  rcases hi' with rfl | rfl
  ·exact ⟨_,_,iG c,(H++[oA c]),rfl,.inl (by simp [hp,hget,b8,b24]),s_0_1_2_3_4_5_6_A.perm (by decide)⟩
  ·exact ⟨_,_,.ptr (H.length+1) 0,(H++[oA c,.cells [.sl (H.length+2) 0 0,.sl (H.length+3) 0 0],oN,oM]),rfl,.inl (by simp [hp,hget,b8,b24]),s_0_1_2_3_4_5_9_Aw.perm (by decide)⟩
 have s_0_1_2_3_4_9_Aw:AW Γ k base up C [0,1,2,3,4,9] 5 (tR p x2 x3 (.ptr p 3) (gL c) (iG c) (sG c H 0) (.ptr p 3) U U U U (.ptr (H.length+1) 0)) (H++[oA c,.cells [.sl (H.length+2) 0 0,.sl (H.length+3) 0 0],oN,oM]):=by
  refine .step fun i hi => ?_
  have hi':i∈[5]:=hi;simp only [List.mem_cons,List.not_mem_nil,or_false] at hi'
  rcases hi' with rfl
  ·exact ⟨_,_,gL c,(H++[oA c,.cells [.sl (H.length+2) 0 0,.sl (H.length+3) 0 0],oN,oM]),rfl,.inl (by simp [hp,hget,b8,b24]),s_0_1_2_3_4_5_9_Aw.perm (by decide)⟩
 have s_0_1_2_3_4_A:AW Γ k base up C [0,1,2,3,4] 6 (tR p x2 x3 (.ptr p 3) (gL c) (iG c) (sG c H 0) (.ptr p 3) U U U U U) (H++[oA c]):=by
  refine .step fun i hi => ?_
  have hi':i∈[5,9]:=hi;simp only [List.mem_cons,List.not_mem_nil,or_false] at hi'
  rcases hi' with rfl | rfl
  ·exact ⟨_,_,gL c,(H++[oA c]),rfl,.inl (by simp [hp,hget,b8,b24]),s_0_1_2_3_4_5_A.perm (by decide)⟩
  ·exact ⟨_,_,.ptr (H.length+1) 0,(H++[oA c,.cells [.sl (H.length+2) 0 0,.sl (H.length+3) 0 0],oN,oM]),rfl,.inl (by simp [hp,hget,b8,b24]),s_0_1_2_3_4_9_Aw.perm (by decide)⟩
 have s_0_1_2_3_9_Aw:AW Γ k base up C [0,1,2,3,9] 6 (tR p x2 x3 (.ptr p 3) (gL c) (iG c) (sG c H 0) U U U U U (.ptr (H.length+1) 0)) (H++[oA c,.cells [.sl (H.length+2) 0 0,.sl (H.length+3) 0 0],oN,oM]):=by
  refine .step fun i hi => ?_
  have hi':i∈[4]:=hi;simp only [List.mem_cons,List.not_mem_nil,or_false] at hi'
  rcases hi' with rfl
  ·exact ⟨_,_,.ptr p 3,(H++[oA c,.cells [.sl (H.length+2) 0 0,.sl (H.length+3) 0 0],oN,oM]),rfl,.inl (by simp [hp,hget,b8,b24]),s_0_1_2_3_4_9_Aw.perm (by decide)⟩
 have s_0_1_2_3_A:AW Γ k base up C [0,1,2,3] 7 (tR p x2 x3 (.ptr p 3) (gL c) (iG c) (sG c H 0) U U U U U U) (H++[oA c]):=by
  refine .step fun i hi => ?_
  have hi':i∈[4,9]:=hi;simp only [List.mem_cons,List.not_mem_nil,or_false] at hi'
  rcases hi' with rfl | rfl
  ·exact ⟨_,_,.ptr p 3,(H++[oA c]),rfl,.inl (by simp [hp,hget,b8,b24]),s_0_1_2_3_4_A.perm (by decide)⟩
  ·exact ⟨_,_,.ptr (H.length+1) 0,(H++[oA c,.cells [.sl (H.length+2) 0 0,.sl (H.length+3) 0 0],oN,oM]),rfl,.inl (by simp [hp,hget,b8,b24]),s_0_1_2_3_9_Aw.perm (by decide)⟩
 have s_0_1_2_3_4_5_6_7_8_9_10_BAw:AW Γ k base up C [0,1,2,3,4,5,6,7,8,9,10] 0 (tR p x2 x3 (.ptr p 3) (gL c) (iG c) (sG c H 1) (.ptr p 3) (gL c) (iG c) (sG c H 0) (.agg [sG c H 1,sG c H 0]) (.ptr (H.length+2) 0)) (H++[oB c,oA c,.cells [sG c H 1,sG c H 0],oN,oM]):=w_s_0_1_2_3_4_5_6_7_8_9_10_BAw hw hb hpl h2 h3 hk hC
 have s_0_1_2_3_4_5_6_7_8_9_BAw:AW Γ k base up C [0,1,2,3,4,5,6,7,8,9] 1 (tR p x2 x3 (.ptr p 3) (gL c) (iG c) (sG c H 1) (.ptr p 3) (gL c) (iG c) (sG c H 0) (.agg [sG c H 1,sG c H 0]) (.ptr (H.length+2) 0)) (H++[oB c,oA c,.cells [.sl (H.length+3) 0 0,.sl (H.length+4) 0 0],oN,oM]):=by
  refine .step fun i hi => ?_
  have hi':i∈[10]:=hi;simp only [List.mem_cons,List.not_mem_nil,or_false] at hi'
  rcases hi' with rfl
  ·exact ⟨_,_,.tup [],(H++[oB c,oA c,.cells [sG c H 1,sG c H 0],oN,oM]),rfl,.inr ⟨rfl,by simp [hp,hget,b8,b24]⟩,s_0_1_2_3_4_5_6_7_8_9_10_BAw.perm (by decide)⟩
 have s_0_1_2_3_4_5_6_7_8_BA:AW Γ k base up C [0,1,2,3,4,5,6,7,8] 2 (tR p x2 x3 (.ptr p 3) (gL c) (iG c) (sG c H 1) (.ptr p 3) (gL c) (iG c) (sG c H 0) (.agg [sG c H 1,sG c H 0]) U) (H++[oB c,oA c]):=by
  refine .step fun i hi => ?_
  have hi':i∈[9]:=hi;simp only [List.mem_cons,List.not_mem_nil,or_false] at hi'
  rcases hi' with rfl
  ·exact ⟨_,_,.ptr (H.length+2) 0,(H++[oB c,oA c,.cells [.sl (H.length+3) 0 0,.sl (H.length+4) 0 0],oN,oM]),rfl,.inl (by simp [hp,hget,b8,b24]),s_0_1_2_3_4_5_6_7_8_9_BAw.perm (by decide)⟩
 have s_0_1_2_3_4_5_6_7_9_BAw:AW Γ k base up C [0,1,2,3,4,5,6,7,9] 2 (tR p x2 x3 (.ptr p 3) (gL c) (iG c) (sG c H 1) (.ptr p 3) (gL c) (iG c) (sG c H 0) U (.ptr (H.length+2) 0)) (H++[oB c,oA c,.cells [.sl (H.length+3) 0 0,.sl (H.length+4) 0 0],oN,oM]):=by
  refine .step fun i hi => ?_
  have hi':i∈[8]:=hi;simp only [List.mem_cons,List.not_mem_nil,or_false] at hi'
  rcases hi' with rfl
  ·exact ⟨_,_,.agg [sG c H 1,sG c H 0],(H++[oB c,oA c,.cells [.sl (H.length+3) 0 0,.sl (H.length+4) 0 0],oN,oM]),rfl,.inl (by simp [hp,hget,b8,b24]),s_0_1_2_3_4_5_6_7_8_9_BAw.perm (by decide)⟩
 have s_0_1_2_3_4_5_6_7_BA:AW Γ k base up C [0,1,2,3,4,5,6,7] 3 (tR p x2 x3 (.ptr p 3) (gL c) (iG c) (sG c H 1) (.ptr p 3) (gL c) (iG c) (sG c H 0) U U) (H++[oB c,oA c]):=by
  refine .step fun i hi => ?_
  have hi':i∈[8,9]:=hi;simp only [List.mem_cons,List.not_mem_nil,or_false] at hi'
  rcases hi' with rfl | rfl
  ·exact ⟨_,_,.agg [sG c H 1,sG c H 0],(H++[oB c,oA c]),rfl,.inl (by simp [hp,hget,b8,b24]),s_0_1_2_3_4_5_6_7_8_BA.perm (by decide)⟩
  ·exact ⟨_,_,.ptr (H.length+2) 0,(H++[oB c,oA c,.cells [.sl (H.length+3) 0 0,.sl (H.length+4) 0 0],oN,oM]),rfl,.inl (by simp [hp,hget,b8,b24]),s_0_1_2_3_4_5_6_7_9_BAw.perm (by decide)⟩
 have s_0_1_2_3_4_5_6_7_8_9_10_BwA:AW Γ k base up C [0,1,2,3,4,5,6,7,8,9,10] 0 (tR p x2 x3 (.ptr p 3) (gL c) (iG c) (sG c H 4) (.ptr p 3) (gL c) (iG c) (sG c H 0) (.agg [sG c H 4,sG c H 0]) (.ptr (H.length+1) 0)) (H++[oB c,.cells [sG c H 4,sG c H 0],oN,oM,oA c]):=w_s_0_1_2_3_4_5_6_7_8_9_10_BwA hw hb hpl h2 h3 hk hC
 have s_0_1_2_3_4_5_6_7_8_9_BwA:AW Γ k base up C [0,1,2,3,4,5,6,7,8,9] 1 (tR p x2 x3 (.ptr p 3) (gL c) (iG c) (sG c H 4) (.ptr p 3) (gL c) (iG c) (sG c H 0) (.agg [sG c H 4,sG c H 0]) (.ptr (H.length+1) 0)) (H++[oB c,.cells [.sl (H.length+2) 0 0,.sl (H.length+3) 0 0],oN,oM,oA c]):=by
  refine .step fun i hi => ?_
  have hi':i∈[10]:=hi;simp only [List.mem_cons,List.not_mem_nil,or_false] at hi'
  rcases hi' with rfl
  ·exact ⟨_,_,.tup [],(H++[oB c,.cells [sG c H 4,sG c H 0],oN,oM,oA c]),rfl,.inr ⟨rfl,by simp [hp,hget,b8,b24]⟩,s_0_1_2_3_4_5_6_7_8_9_10_BwA.perm (by decide)⟩
 have s_0_1_2_3_4_5_6_7_9_BwA:AW Γ k base up C [0,1,2,3,4,5,6,7,9] 2 (tR p x2 x3 (.ptr p 3) (gL c) (iG c) (sG c H 4) (.ptr p 3) (gL c) (iG c) (sG c H 0) U (.ptr (H.length+1) 0)) (H++[oB c,.cells [.sl (H.length+2) 0 0,.sl (H.length+3) 0 0],oN,oM,oA c]):=by
  refine .step fun i hi => ?_
  have hi':i∈[8]:=hi;simp only [List.mem_cons,List.not_mem_nil,or_false] at hi'
  rcases hi' with rfl
  ·exact ⟨_,_,.agg [sG c H 4,sG c H 0],(H++[oB c,.cells [.sl (H.length+2) 0 0,.sl (H.length+3) 0 0],oN,oM,oA c]),rfl,.inl (by simp [hp,hget,b8,b24]),s_0_1_2_3_4_5_6_7_8_9_BwA.perm (by decide)⟩
 have s_0_1_2_4_5_6_7_9_Bw:AW Γ k base up C [0,1,2,4,5,6,7,9] 3 (tR p x2 x3 (.ptr p 3) (gL c) (iG c) U (.ptr p 3) (gL c) (iG c) (sG c H 0) U (.ptr (H.length+1) 0)) (H++[oB c,.cells [.sl (H.length+2) 0 0,.sl (H.length+3) 0 0],oN,oM]):=by
  refine .step fun i hi => ?_
  have hi':i∈[3]:=hi;simp only [List.mem_cons,List.not_mem_nil,or_false] at hi'
  rcases hi' with rfl
  ·exact ⟨_,_,sG c H 4,(H++[oB c,.cells [.sl (H.length+2) 0 0,.sl (H.length+3) 0 0],oN,oM,oA c]),rfl,.inl (by simp [hp,hget,b8,b24]),s_0_1_2_3_4_5_6_7_9_BwA.perm (by decide)⟩
 have s_0_1_2_4_5_6_7_B:AW Γ k base up C [0,1,2,4,5,6,7] 4 (tR p x2 x3 (.ptr p 3) (gL c) (iG c) U (.ptr p 3) (gL c) (iG c) (sG c H 0) U U) (H++[oB c]):=by
  refine .step fun i hi => ?_
  have hi':i∈[3,9]:=hi;simp only [List.mem_cons,List.not_mem_nil,or_false] at hi'
  rcases hi' with rfl | rfl
  ·exact ⟨_,_,sG c H 1,(H++[oB c,oA c]),rfl,.inl (by simp [hp,hget,b8,b24]),s_0_1_2_3_4_5_6_7_BA.perm (by decide)⟩
  ·exact ⟨_,_,.ptr (H.length+1) 0,(H++[oB c,.cells [.sl (H.length+2) 0 0,.sl (H.length+3) 0 0],oN,oM]),rfl,.inl (by simp [hp,hget,b8,b24]),s_0_1_2_4_5_6_7_9_Bw.perm (by decide)⟩
 have s_0_1_2_3_4_5_6_7_8_9_10_wAB:AW Γ k base up C [0,1,2,3,4,5,6,7,8,9,10] 0 (tR p x2 x3 (.ptr p 3) (gL c) (iG c) (sG c H 3) (.ptr p 3) (gL c) (iG c) (sG c H 4) (.agg [sG c H 3,sG c H 4]) (.ptr H.length 0)) (H++[.cells [sG c H 3,sG c H 4],oN,oM,oA c,oB c]):=w_s_0_1_2_3_4_5_6_7_8_9_10_wAB hw hb hpl h2 h3 hk hC
 have s_0_1_2_3_4_5_6_7_8_9_wAB:AW Γ k base up C [0,1,2,3,4,5,6,7,8,9] 1 (tR p x2 x3 (.ptr p 3) (gL c) (iG c) (sG c H 3) (.ptr p 3) (gL c) (iG c) (sG c H 4) (.agg [sG c H 3,sG c H 4]) (.ptr H.length 0)) (H++[.cells [.sl (H.length+1) 0 0,.sl (H.length+2) 0 0],oN,oM,oA c,oB c]):=by
  refine .step fun i hi => ?_
  have hi':i∈[10]:=hi;simp only [List.mem_cons,List.not_mem_nil,or_false] at hi'
  rcases hi' with rfl
  ·exact ⟨_,_,.tup [],(H++[.cells [sG c H 3,sG c H 4],oN,oM,oA c,oB c]),rfl,.inr ⟨rfl,by simp [hp,hget,b8,b24]⟩,s_0_1_2_3_4_5_6_7_8_9_10_wAB.perm (by decide)⟩
 have s_0_1_2_3_4_5_6_7_9_wAB:AW Γ k base up C [0,1,2,3,4,5,6,7,9] 2 (tR p x2 x3 (.ptr p 3) (gL c) (iG c) (sG c H 3) (.ptr p 3) (gL c) (iG c) (sG c H 4) U (.ptr H.length 0)) (H++[.cells [.sl (H.length+1) 0 0,.sl (H.length+2) 0 0],oN,oM,oA c,oB c]):=by
  refine .step fun i hi => ?_
  have hi':i∈[8]:=hi;simp only [List.mem_cons,List.not_mem_nil,or_false] at hi'
  rcases hi' with rfl
  ·exact ⟨_,_,.agg [sG c H 3,sG c H 4],(H++[.cells [.sl (H.length+1) 0 0,.sl (H.length+2) 0 0],oN,oM,oA c,oB c]),rfl,.inl (by simp [hp,hget,b8,b24]),s_0_1_2_3_4_5_6_7_8_9_wAB.perm (by decide)⟩
 have s_0_1_2_3_4_5_6_9_wA:AW Γ k base up C [0,1,2,3,4,5,6,9] 3 (tR p x2 x3 (.ptr p 3) (gL c) (iG c) (sG c H 3) (.ptr p 3) (gL c) (iG c) U U (.ptr H.length 0)) (H++[.cells [.sl (H.length+1) 0 0,.sl (H.length+2) 0 0],oN,oM,oA c]):=by
  refine .step fun i hi => ?_
  have hi':i∈[7]:=hi;simp only [List.mem_cons,List.not_mem_nil,or_false] at hi'
  rcases hi' with rfl
  ·exact ⟨_,_,sG c H 4,(H++[.cells [.sl (H.length+1) 0 0,.sl (H.length+2) 0 0],oN,oM,oA c,oB c]),rfl,.inl (by simp [hp,hget,b8,b24]),s_0_1_2_3_4_5_6_7_9_wAB.perm (by decide)⟩
 have s_0_1_2_3_4_5_6_7_8_9_10_wBA:AW Γ k base up C [0,1,2,3,4,5,6,7,8,9,10] 0 (tR p x2 x3 (.ptr p 3) (gL c) (iG c) (sG c H 4) (.ptr p 3) (gL c) (iG c) (sG c H 3) (.agg [sG c H 4,sG c H 3]) (.ptr H.length 0)) (H++[.cells [sG c H 4,sG c H 3],oN,oM,oB c,oA c]):=w_s_0_1_2_3_4_5_6_7_8_9_10_wBA hw hb hpl h2 h3 hk hC
 have s_0_1_2_3_4_5_6_7_8_9_wBA:AW Γ k base up C [0,1,2,3,4,5,6,7,8,9] 1 (tR p x2 x3 (.ptr p 3) (gL c) (iG c) (sG c H 4) (.ptr p 3) (gL c) (iG c) (sG c H 3) (.agg [sG c H 4,sG c H 3]) (.ptr H.length 0)) (H++[.cells [.sl (H.length+1) 0 0,.sl (H.length+2) 0 0],oN,oM,oB c,oA c]):=by
  refine .step fun i hi => ?_
  have hi':i∈[10]:=hi;simp only [List.mem_cons,List.not_mem_nil,or_false] at hi'
  rcases hi' with rfl
  ·exact ⟨_,_,.tup [],(H++[.cells [sG c H 4,sG c H 3],oN,oM,oB c,oA c]),rfl,.inr ⟨rfl,by simp [hp,hget,b8,b24]⟩,s_0_1_2_3_4_5_6_7_8_9_10_wBA.perm (by decide)⟩
 have s_0_1_2_3_4_5_6_7_9_wBA:AW Γ k base up C [0,1,2,3,4,5,6,7,9] 2 (tR p x2 x3 (.ptr p 3) (gL c) (iG c) (sG c H 4) (.ptr p 3) (gL c) (iG c) (sG c H 3) U (.ptr H.length 0)) (H++[.cells [.sl (H.length+1) 0 0,.sl (H.length+2) 0 0],oN,oM,oB c,oA c]):=by
  refine .step fun i hi => ?_
  have hi':i∈[8]:=hi;simp only [List.mem_cons,List.not_mem_nil,or_false] at hi'
  rcases hi' with rfl
  ·exact ⟨_,_,.agg [sG c H 4,sG c H 3],(H++[.cells [.sl (H.length+1) 0 0,.sl (H.length+2) 0 0],oN,oM,oB c,oA c]),rfl,.inl (by simp [hp,hget,b8,b24]),s_0_1_2_3_4_5_6_7_8_9_wBA.perm (by decide)⟩
 have s_0_1_2_4_5_6_7_9_wB:AW Γ k base up C [0,1,2,4,5,6,7,9] 3 (tR p x2 x3 (.ptr p 3) (gL c) (iG c) U (.ptr p 3) (gL c) (iG c) (sG c H 3) U (.ptr H.length 0)) (H++[.cells [.sl (H.length+1) 0 0,.sl (H.length+2) 0 0],oN,oM,oB c]):=by
  refine .step fun i hi => ?_
  have hi':i∈[3]:=hi;simp only [List.mem_cons,List.not_mem_nil,or_false] at hi'
  rcases hi' with rfl
  ·exact ⟨_,_,sG c H 4,(H++[.cells [.sl (H.length+1) 0 0,.sl (H.length+2) 0 0],oN,oM,oB c,oA c]),rfl,.inl (by simp [hp,hget,b8,b24]),s_0_1_2_3_4_5_6_7_9_wBA.perm (by decide)⟩
 have s_0_1_2_4_5_6_9_w:AW Γ k base up C [0,1,2,4,5,6,9] 4 (tR p x2 x3 (.ptr p 3) (gL c) (iG c) U (.ptr p 3) (gL c) (iG c) U U (.ptr H.length 0)) (H++[.cells [.sl (H.length+1) 0 0,.sl (H.length+2) 0 0],oN,oM]):=by
  refine .step fun i hi => ?_
  have hi':i∈[3,7]:=hi;simp only [List.mem_cons,List.not_mem_nil,or_false] at hi'
  rcases hi' with rfl | rfl
  ·exact ⟨_,_,sG c H 3,(H++[.cells [.sl (H.length+1) 0 0,.sl (H.length+2) 0 0],oN,oM,oA c]),rfl,.inl (by simp [hp,hget,b8,b24]),s_0_1_2_3_4_5_6_9_wA.perm (by decide)⟩
  ·exact ⟨_,_,sG c H 3,(H++[.cells [.sl (H.length+1) 0 0,.sl (H.length+2) 0 0],oN,oM,oB c]),rfl,.inl (by simp [hp,hget,b8,b24]),s_0_1_2_4_5_6_7_9_wB.perm (by decide)⟩
 have s_0_1_2_4_5_6:AW Γ k base up C [0,1,2,4,5,6] 5 (tR p x2 x3 (.ptr p 3) (gL c) (iG c) U (.ptr p 3) (gL c) (iG c) U U U) H:=by
  refine .step fun i hi => ?_
  have hi':i∈[3,7,9]:=hi;simp only [List.mem_cons,List.not_mem_nil,or_false] at hi'
  rcases hi' with rfl | rfl | rfl
  ·exact ⟨_,_,sG c H 0,(H++[oA c]),rfl,.inl (by simp [hp,hget,b8,b24]),s_0_1_2_3_4_5_6_A.perm (by decide)⟩
  ·exact ⟨_,_,sG c H 0,(H++[oB c]),rfl,.inl (by simp [hp,hget,b8,b24]),s_0_1_2_4_5_6_7_B.perm (by decide)⟩
  ·exact ⟨_,_,.ptr H.length 0,(H++[.cells [.sl (H.length+1) 0 0,.sl (H.length+2) 0 0],oN,oM]),rfl,.inl (by simp [hp,hget,b8,b24]),s_0_1_2_4_5_6_9_w.perm (by decide)⟩
 have s_0_1_2_3_4_5_9_wA:AW Γ k base up C [0,1,2,3,4,5,9] 4 (tR p x2 x3 (.ptr p 3) (gL c) (iG c) (sG c H 3) (.ptr p 3) (gL c) U U U (.ptr H.length 0)) (H++[.cells [.sl (H.length+1) 0 0,.sl (H.length+2) 0 0],oN,oM,oA c]):=by
  refine .step fun i hi => ?_
  have hi':i∈[6]:=hi;simp only [List.mem_cons,List.not_mem_nil,or_false] at hi'
  rcases hi' with rfl
  ·exact ⟨_,_,iG c,(H++[.cells [.sl (H.length+1) 0 0,.sl (H.length+2) 0 0],oN,oM,oA c]),rfl,.inl (by simp [hp,hget,b8,b24]),s_0_1_2_3_4_5_6_9_wA.perm (by decide)⟩
 have s_0_1_2_4_5_9_w:AW Γ k base up C [0,1,2,4,5,9] 5 (tR p x2 x3 (.ptr p 3) (gL c) (iG c) U (.ptr p 3) (gL c) U U U (.ptr H.length 0)) (H++[.cells [.sl (H.length+1) 0 0,.sl (H.length+2) 0 0],oN,oM]):=by
  refine .step fun i hi => ?_
  have hi':i∈[3,6]:=hi;simp only [List.mem_cons,List.not_mem_nil,or_false] at hi'
  rcases hi' with rfl | rfl
  ·exact ⟨_,_,sG c H 3,(H++[.cells [.sl (H.length+1) 0 0,.sl (H.length+2) 0 0],oN,oM,oA c]),rfl,.inl (by simp [hp,hget,b8,b24]),s_0_1_2_3_4_5_9_wA.perm (by decide)⟩
  ·exact ⟨_,_,iG c,(H++[.cells [.sl (H.length+1) 0 0,.sl (H.length+2) 0 0],oN,oM]),rfl,.inl (by simp [hp,hget,b8,b24]),s_0_1_2_4_5_6_9_w.perm (by decide)⟩
 have s_0_1_2_4_5:AW Γ k base up C [0,1,2,4,5] 6 (tR p x2 x3 (.ptr p 3) (gL c) (iG c) U (.ptr p 3) (gL c) U U U U) H:=by
  refine .step fun i hi => ?_
  have hi':i∈[3,6,9]:=hi;simp only [List.mem_cons,List.not_mem_nil,or_false] at hi'
  rcases hi' with rfl | rfl | rfl
  ·exact ⟨_,_,sG c H 0,(H++[oA c]),rfl,.inl (by simp [hp,hget,b8,b24]),s_0_1_2_3_4_5_A.perm (by decide)⟩
  ·exact ⟨_,_,iG c,H,rfl,.inl (by simp [hp,hget,b8,b24]),s_0_1_2_4_5_6.perm (by decide)⟩
  ·exact ⟨_,_,.ptr H.length 0,(H++[.cells [.sl (H.length+1) 0 0,.sl (H.length+2) 0 0],oN,oM]),rfl,.inl (by simp [hp,hget,b8,b24]),s_0_1_2_4_5_9_w.perm (by decide)⟩
 have s_0_1_2_3_4_9_wA:AW Γ k base up C [0,1,2,3,4,9] 5 (tR p x2 x3 (.ptr p 3) (gL c) (iG c) (sG c H 3) (.ptr p 3) U U U U (.ptr H.length 0)) (H++[.cells [.sl (H.length+1) 0 0,.sl (H.length+2) 0 0],oN,oM,oA c]):=by
  refine .step fun i hi => ?_
  have hi':i∈[5]:=hi;simp only [List.mem_cons,List.not_mem_nil,or_false] at hi'
  rcases hi' with rfl
  ·exact ⟨_,_,gL c,(H++[.cells [.sl (H.length+1) 0 0,.sl (H.length+2) 0 0],oN,oM,oA c]),rfl,.inl (by simp [hp,hget,b8,b24]),s_0_1_2_3_4_5_9_wA.perm (by decide)⟩
 have s_0_1_2_4_9_w:AW Γ k base up C [0,1,2,4,9] 6 (tR p x2 x3 (.ptr p 3) (gL c) (iG c) U (.ptr p 3) U U U U (.ptr H.length 0)) (H++[.cells [.sl (H.length+1) 0 0,.sl (H.length+2) 0 0],oN,oM]):=by
  refine .step fun i hi => ?_
  have hi':i∈[3,5]:=hi;simp only [List.mem_cons,List.not_mem_nil,or_false] at hi'
  rcases hi' with rfl | rfl
  ·exact ⟨_,_,sG c H 3,(H++[.cells [.sl (H.length+1) 0 0,.sl (H.length+2) 0 0],oN,oM,oA c]),rfl,.inl (by simp [hp,hget,b8,b24]),s_0_1_2_3_4_9_wA.perm (by decide)⟩
  ·exact ⟨_,_,gL c,(H++[.cells [.sl (H.length+1) 0 0,.sl (H.length+2) 0 0],oN,oM]),rfl,.inl (by simp [hp,hget,b8,b24]),s_0_1_2_4_5_9_w.perm (by decide)⟩
 have s_0_1_2_4:AW Γ k base up C [0,1,2,4] 7 (tR p x2 x3 (.ptr p 3) (gL c) (iG c) U (.ptr p 3) U U U U U) H:=by
  refine .step fun i hi => ?_
  have hi':i∈[3,5,9]:=hi;simp only [List.mem_cons,List.not_mem_nil,or_false] at hi'
  rcases hi' with rfl | rfl | rfl
  ·exact ⟨_,_,sG c H 0,(H++[oA c]),rfl,.inl (by simp [hp,hget,b8,b24]),s_0_1_2_3_4_A.perm (by decide)⟩
  ·exact ⟨_,_,gL c,H,rfl,.inl (by simp [hp,hget,b8,b24]),s_0_1_2_4_5.perm (by decide)⟩
  ·exact ⟨_,_,.ptr H.length 0,(H++[.cells [.sl (H.length+1) 0 0,.sl (H.length+2) 0 0],oN,oM]),rfl,.inl (by simp [hp,hget,b8,b24]),s_0_1_2_4_9_w.perm (by decide)⟩
 have s_0_1_2_3_9_wA:AW Γ k base up C [0,1,2,3,9] 6 (tR p x2 x3 (.ptr p 3) (gL c) (iG c) (sG c H 3) U U U U U (.ptr H.length 0)) (H++[.cells [.sl (H.length+1) 0 0,.sl (H.length+2) 0 0],oN,oM,oA c]):=by
  refine .step fun i hi => ?_
  have hi':i∈[4]:=hi;simp only [List.mem_cons,List.not_mem_nil,or_false] at hi'
  rcases hi' with rfl
  ·exact ⟨_,_,.ptr p 3,(H++[.cells [.sl (H.length+1) 0 0,.sl (H.length+2) 0 0],oN,oM,oA c]),rfl,.inl (by simp [hp,hget,b8,b24]),s_0_1_2_3_4_9_wA.perm (by decide)⟩
 have s_0_1_2_9_w:AW Γ k base up C [0,1,2,9] 7 (tR p x2 x3 (.ptr p 3) (gL c) (iG c) U U U U U U (.ptr H.length 0)) (H++[.cells [.sl (H.length+1) 0 0,.sl (H.length+2) 0 0],oN,oM]):=by
  refine .step fun i hi => ?_
  have hi':i∈[3,4]:=hi;simp only [List.mem_cons,List.not_mem_nil,or_false] at hi'
  rcases hi' with rfl | rfl
  ·exact ⟨_,_,sG c H 3,(H++[.cells [.sl (H.length+1) 0 0,.sl (H.length+2) 0 0],oN,oM,oA c]),rfl,.inl (by simp [hp,hget,b8,b24]),s_0_1_2_3_9_wA.perm (by decide)⟩
  ·exact ⟨_,_,.ptr p 3,(H++[.cells [.sl (H.length+1) 0 0,.sl (H.length+2) 0 0],oN,oM]),rfl,.inl (by simp [hp,hget,b8,b24]),s_0_1_2_4_9_w.perm (by decide)⟩
 have s_0_1_2:AW Γ k base up C [0,1,2] 8 (tR p x2 x3 (.ptr p 3) (gL c) (iG c) U U U U U U U) H:=by
  refine .step fun i hi => ?_
  have hi':i∈[3,4,9]:=hi;simp only [List.mem_cons,List.not_mem_nil,or_false] at hi'
  rcases hi' with rfl | rfl | rfl
  ·exact ⟨_,_,sG c H 0,(H++[oA c]),rfl,.inl (by simp [hp,hget,b8,b24]),s_0_1_2_3_A.perm (by decide)⟩
  ·exact ⟨_,_,.ptr p 3,H,rfl,.inl (by simp [hp,hget,b8,b24]),s_0_1_2_4.perm (by decide)⟩
  ·exact ⟨_,_,.ptr H.length 0,(H++[.cells [.sl (H.length+1) 0 0,.sl (H.length+2) 0 0],oN,oM]),rfl,.inl (by simp [hp,hget,b8,b24]),s_0_1_2_9_w.perm (by decide)⟩
 have s_0_1_4_5_6_7_9_Bw:AW Γ k base up C [0,1,4,5,6,7,9] 4 (tR p x2 x3 (.ptr p 3) (gL c) U U (.ptr p 3) (gL c) (iG c) (sG c H 0) U (.ptr (H.length+1) 0)) (H++[oB c,.cells [.sl (H.length+2) 0 0,.sl (H.length+3) 0 0],oN,oM]):=by
  refine .step fun i hi => ?_
  have hi':i∈[2]:=hi;simp only [List.mem_cons,List.not_mem_nil,or_false] at hi'
  rcases hi' with rfl
  ·exact ⟨_,_,iG c,(H++[oB c,.cells [.sl (H.length+2) 0 0,.sl (H.length+3) 0 0],oN,oM]),rfl,.inl (by simp [hp,hget,b8,b24]),s_0_1_2_4_5_6_7_9_Bw.perm (by decide)⟩
 have s_0_1_4_5_6_7_B:AW Γ k base up C [0,1,4,5,6,7] 5 (tR p x2 x3 (.ptr p 3) (gL c) U U (.ptr p 3) (gL c) (iG c) (sG c H 0) U U) (H++[oB c]):=by
  refine .step fun i hi => ?_
  have hi':i∈[2,9]:=hi;simp only [List.mem_cons,List.not_mem_nil,or_false] at hi'
  rcases hi' with rfl | rfl
  ·exact ⟨_,_,iG c,(H++[oB c]),rfl,.inl (by simp [hp,hget,b8,b24]),s_0_1_2_4_5_6_7_B.perm (by decide)⟩
  ·exact ⟨_,_,.ptr (H.length+1) 0,(H++[oB c,.cells [.sl (H.length+2) 0 0,.sl (H.length+3) 0 0],oN,oM]),rfl,.inl (by simp [hp,hget,b8,b24]),s_0_1_4_5_6_7_9_Bw.perm (by decide)⟩
 have s_0_1_4_5_6_7_9_wB:AW Γ k base up C [0,1,4,5,6,7,9] 4 (tR p x2 x3 (.ptr p 3) (gL c) U U (.ptr p 3) (gL c) (iG c) (sG c H 3) U (.ptr H.length 0)) (H++[.cells [.sl (H.length+1) 0 0,.sl (H.length+2) 0 0],oN,oM,oB c]):=by
  refine .step fun i hi => ?_
  have hi':i∈[2]:=hi;simp only [List.mem_cons,List.not_mem_nil,or_false] at hi'
  rcases hi' with rfl
  ·exact ⟨_,_,iG c,(H++[.cells [.sl (H.length+1) 0 0,.sl (H.length+2) 0 0],oN,oM,oB c]),rfl,.inl (by simp [hp,hget,b8,b24]),s_0_1_2_4_5_6_7_9_wB.perm (by decide)⟩
 have s_0_1_4_5_6_9_w:AW Γ k base up C [0,1,4,5,6,9] 5 (tR p x2 x3 (.ptr p 3) (gL c) U U (.ptr p 3) (gL c) (iG c) U U (.ptr H.length 0)) (H++[.cells [.sl (H.length+1) 0 0,.sl (H.length+2) 0 0],oN,oM]):=by
  refine .step fun i hi => ?_
  have hi':i∈[2,7]:=hi;simp only [List.mem_cons,List.not_mem_nil,or_false] at hi'
  rcases hi' with rfl | rfl
  ·exact ⟨_,_,iG c,(H++[.cells [.sl (H.length+1) 0 0,.sl (H.length+2) 0 0],oN,oM]),rfl,.inl (by simp [hp,hget,b8,b24]),s_0_1_2_4_5_6_9_w.perm (by decide)⟩
  ·exact ⟨_,_,sG c H 3,(H++[.cells [.sl (H.length+1) 0 0,.sl (H.length+2) 0 0],oN,oM,oB c]),rfl,.inl (by simp [hp,hget,b8,b24]),s_0_1_4_5_6_7_9_wB.perm (by decide)⟩
 have s_0_1_4_5_6:AW Γ k base up C [0,1,4,5,6] 6 (tR p x2 x3 (.ptr p 3) (gL c) U U (.ptr p 3) (gL c) (iG c) U U U) H:=by
  refine .step fun i hi => ?_
  have hi':i∈[2,7,9]:=hi;simp only [List.mem_cons,List.not_mem_nil,or_false] at hi'
  rcases hi' with rfl | rfl | rfl
  ·exact ⟨_,_,iG c,H,rfl,.inl (by simp [hp,hget,b8,b24]),s_0_1_2_4_5_6.perm (by decide)⟩
  ·exact ⟨_,_,sG c H 0,(H++[oB c]),rfl,.inl (by simp [hp,hget,b8,b24]),s_0_1_4_5_6_7_B.perm (by decide)⟩
  ·exact ⟨_,_,.ptr H.length 0,(H++[.cells [.sl (H.length+1) 0 0,.sl (H.length+2) 0 0],oN,oM]),rfl,.inl (by simp [hp,hget,b8,b24]),s_0_1_4_5_6_9_w.perm (by decide)⟩
 have s_0_1_4_5_9_w:AW Γ k base up C [0,1,4,5,9] 6 (tR p x2 x3 (.ptr p 3) (gL c) U U (.ptr p 3) (gL c) U U U (.ptr H.length 0)) (H++[.cells [.sl (H.length+1) 0 0,.sl (H.length+2) 0 0],oN,oM]):=by
  refine .step fun i hi => ?_
  have hi':i∈[2,6]:=hi;simp only [List.mem_cons,List.not_mem_nil,or_false] at hi'
  rcases hi' with rfl | rfl
  ·exact ⟨_,_,iG c,(H++[.cells [.sl (H.length+1) 0 0,.sl (H.length+2) 0 0],oN,oM]),rfl,.inl (by simp [hp,hget,b8,b24]),s_0_1_2_4_5_9_w.perm (by decide)⟩
  ·exact ⟨_,_,iG c,(H++[.cells [.sl (H.length+1) 0 0,.sl (H.length+2) 0 0],oN,oM]),rfl,.inl (by simp [hp,hget,b8,b24]),s_0_1_4_5_6_9_w.perm (by decide)⟩
 have s_0_1_4_5:AW Γ k base up C [0,1,4,5] 7 (tR p x2 x3 (.ptr p 3) (gL c) U U (.ptr p 3) (gL c) U U U U) H:=by
  refine .step fun i hi => ?_
  have hi':i∈[2,6,9]:=hi;simp only [List.mem_cons,List.not_mem_nil,or_false] at hi'
  rcases hi' with rfl | rfl | rfl
  ·exact ⟨_,_,iG c,H,rfl,.inl (by simp [hp,hget,b8,b24]),s_0_1_2_4_5.perm (by decide)⟩
  ·exact ⟨_,_,iG c,H,rfl,.inl (by simp [hp,hget,b8,b24]),s_0_1_4_5_6.perm (by decide)⟩
  ·exact ⟨_,_,.ptr H.length 0,(H++[.cells [.sl (H.length+1) 0 0,.sl (H.length+2) 0 0],oN,oM]),rfl,.inl (by simp [hp,hget,b8,b24]),s_0_1_4_5_9_w.perm (by decide)⟩
 have s_0_1_4_9_w:AW Γ k base up C [0,1,4,9] 7 (tR p x2 x3 (.ptr p 3) (gL c) U U (.ptr p 3) U U U U (.ptr H.length 0)) (H++[.cells [.sl (H.length+1) 0 0,.sl (H.length+2) 0 0],oN,oM]):=by
  refine .step fun i hi => ?_
  have hi':i∈[2,5]:=hi;simp only [List.mem_cons,List.not_mem_nil,or_false] at hi'
  rcases hi' with rfl | rfl
  ·exact ⟨_,_,iG c,(H++[.cells [.sl (H.length+1) 0 0,.sl (H.length+2) 0 0],oN,oM]),rfl,.inl (by simp [hp,hget,b8,b24]),s_0_1_2_4_9_w.perm (by decide)⟩
  ·exact ⟨_,_,gL c,(H++[.cells [.sl (H.length+1) 0 0,.sl (H.length+2) 0 0],oN,oM]),rfl,.inl (by simp [hp,hget,b8,b24]),s_0_1_4_5_9_w.perm (by decide)⟩
 have s_0_1_4:AW Γ k base up C [0,1,4] 8 (tR p x2 x3 (.ptr p 3) (gL c) U U (.ptr p 3) U U U U U) H:=by
  refine .step fun i hi => ?_
  have hi':i∈[2,5,9]:=hi;simp only [List.mem_cons,List.not_mem_nil,or_false] at hi'
  rcases hi' with rfl | rfl | rfl
  ·exact ⟨_,_,iG c,H,rfl,.inl (by simp [hp,hget,b8,b24]),s_0_1_2_4.perm (by decide)⟩
  ·exact ⟨_,_,gL c,H,rfl,.inl (by simp [hp,hget,b8,b24]),s_0_1_4_5.perm (by decide)⟩
  ·exact ⟨_,_,.ptr H.length 0,(H++[.cells [.sl (H.length+1) 0 0,.sl (H.length+2) 0 0],oN,oM]),rfl,.inl (by simp [hp,hget,b8,b24]),s_0_1_4_9_w.perm (by decide)⟩
 have s_0_1_9_w:AW Γ k base up C [0,1,9] 8 (tR p x2 x3 (.ptr p 3) (gL c) U U U U U U U (.ptr H.length 0)) (H++[.cells [.sl (H.length+1) 0 0,.sl (H.length+2) 0 0],oN,oM]):=by
  refine .step fun i hi => ?_
  have hi':i∈[2,4]:=hi;simp only [List.mem_cons,List.not_mem_nil,or_false] at hi'
  rcases hi' with rfl | rfl
  ·exact ⟨_,_,iG c,(H++[.cells [.sl (H.length+1) 0 0,.sl (H.length+2) 0 0],oN,oM]),rfl,.inl (by simp [hp,hget,b8,b24]),s_0_1_2_9_w.perm (by decide)⟩
  ·exact ⟨_,_,.ptr p 3,(H++[.cells [.sl (H.length+1) 0 0,.sl (H.length+2) 0 0],oN,oM]),rfl,.inl (by simp [hp,hget,b8,b24]),s_0_1_4_9_w.perm (by decide)⟩
 have s_0_1:AW Γ k base up C [0,1] 9 (tR p x2 x3 (.ptr p 3) (gL c) U U U U U U U U) H:=by
  refine .step fun i hi => ?_
  have hi':i∈[2,4,9]:=hi;simp only [List.mem_cons,List.not_mem_nil,or_false] at hi'
  rcases hi' with rfl | rfl | rfl
  ·exact ⟨_,_,iG c,H,rfl,.inl (by simp [hp,hget,b8,b24]),s_0_1_2.perm (by decide)⟩
  ·exact ⟨_,_,.ptr p 3,H,rfl,.inl (by simp [hp,hget,b8,b24]),s_0_1_4.perm (by decide)⟩
  ·exact ⟨_,_,.ptr H.length 0,(H++[.cells [.sl (H.length+1) 0 0,.sl (H.length+2) 0 0],oN,oM]),rfl,.inl (by simp [hp,hget,b8,b24]),s_0_1_9_w.perm (by decide)⟩
 have s_0_4_5_6_7_9_Bw:AW Γ k base up C [0,4,5,6,7,9] 5 (tR p x2 x3 (.ptr p 3) U U U (.ptr p 3) (gL c) (iG c) (sG c H 0) U (.ptr (H.length+1) 0)) (H++[oB c,.cells [.sl (H.length+2) 0 0,.sl (H.length+3) 0 0],oN,oM]):=by
  refine .step fun i hi => ?_
  have hi':i∈[1]:=hi;simp only [List.mem_cons,List.not_mem_nil,or_false] at hi'
  rcases hi' with rfl
  ·exact ⟨_,_,gL c,(H++[oB c,.cells [.sl (H.length+2) 0 0,.sl (H.length+3) 0 0],oN,oM]),rfl,.inl (by simp [hp,hget,b8,b24]),s_0_1_4_5_6_7_9_Bw.perm (by decide)⟩
 have s_0_4_5_6_7_B:AW Γ k base up C [0,4,5,6,7] 6 (tR p x2 x3 (.ptr p 3) U U U (.ptr p 3) (gL c) (iG c) (sG c H 0) U U) (H++[oB c]):=by
  refine .step fun i hi => ?_
  have hi':i∈[1,9]:=hi;simp only [List.mem_cons,List.not_mem_nil,or_false] at hi'
  rcases hi' with rfl | rfl
  ·exact ⟨_,_,gL c,(H++[oB c]),rfl,.inl (by simp [hp,hget,b8,b24]),s_0_1_4_5_6_7_B.perm (by decide)⟩
  ·exact ⟨_,_,.ptr (H.length+1) 0,(H++[oB c,.cells [.sl (H.length+2) 0 0,.sl (H.length+3) 0 0],oN,oM]),rfl,.inl (by simp [hp,hget,b8,b24]),s_0_4_5_6_7_9_Bw.perm (by decide)⟩
 have s_0_4_5_6_7_9_wB:AW Γ k base up C [0,4,5,6,7,9] 5 (tR p x2 x3 (.ptr p 3) U U U (.ptr p 3) (gL c) (iG c) (sG c H 3) U (.ptr H.length 0)) (H++[.cells [.sl (H.length+1) 0 0,.sl (H.length+2) 0 0],oN,oM,oB c]):=by
  refine .step fun i hi => ?_
  have hi':i∈[1]:=hi;simp only [List.mem_cons,List.not_mem_nil,or_false] at hi'
  rcases hi' with rfl
  ·exact ⟨_,_,gL c,(H++[.cells [.sl (H.length+1) 0 0,.sl (H.length+2) 0 0],oN,oM,oB c]),rfl,.inl (by simp [hp,hget,b8,b24]),s_0_1_4_5_6_7_9_wB.perm (by decide)⟩
 have s_0_4_5_6_9_w:AW Γ k base up C [0,4,5,6,9] 6 (tR p x2 x3 (.ptr p 3) U U U (.ptr p 3) (gL c) (iG c) U U (.ptr H.length 0)) (H++[.cells [.sl (H.length+1) 0 0,.sl (H.length+2) 0 0],oN,oM]):=by
  refine .step fun i hi => ?_
  have hi':i∈[1,7]:=hi;simp only [List.mem_cons,List.not_mem_nil,or_false] at hi'
  rcases hi' with rfl | rfl
  ·exact ⟨_,_,gL c,(H++[.cells [.sl (H.length+1) 0 0,.sl (H.length+2) 0 0],oN,oM]),rfl,.inl (by simp [hp,hget,b8,b24]),s_0_1_4_5_6_9_w.perm (by decide)⟩
  ·exact ⟨_,_,sG c H 3,(H++[.cells [.sl (H.length+1) 0 0,.sl (H.length+2) 0 0],oN,oM,oB c]),rfl,.inl (by simp [hp,hget,b8,b24]),s_0_4_5_6_7_9_wB.perm (by decide)⟩
 have s_0_4_5_6:AW Γ k base up C [0,4,5,6] 7 (tR p x2 x3 (.ptr p 3) U U U (.ptr p 3) (gL c) (iG c) U U U) H:=by
  refine .step fun i hi => ?_
  have hi':i∈[1,7,9]:=hi;simp only [List.mem_cons,List.not_mem_nil,or_false] at hi'
  rcases hi' with rfl | rfl | rfl
  ·exact ⟨_,_,gL c,H,rfl,.inl (by simp [hp,hget,b8,b24]),s_0_1_4_5_6.perm (by decide)⟩
  ·exact ⟨_,_,sG c H 0,(H++[oB c]),rfl,.inl (by simp [hp,hget,b8,b24]),s_0_4_5_6_7_B.perm (by decide)⟩
  ·exact ⟨_,_,.ptr H.length 0,(H++[.cells [.sl (H.length+1) 0 0,.sl (H.length+2) 0 0],oN,oM]),rfl,.inl (by simp [hp,hget,b8,b24]),s_0_4_5_6_9_w.perm (by decide)⟩
 have s_0_4_5_9_w:AW Γ k base up C [0,4,5,9] 7 (tR p x2 x3 (.ptr p 3) U U U (.ptr p 3) (gL c) U U U (.ptr H.length 0)) (H++[.cells [.sl (H.length+1) 0 0,.sl (H.length+2) 0 0],oN,oM]):=by
  refine .step fun i hi => ?_
  have hi':i∈[1,6]:=hi;simp only [List.mem_cons,List.not_mem_nil,or_false] at hi'
  rcases hi' with rfl | rfl
  ·exact ⟨_,_,gL c,(H++[.cells [.sl (H.length+1) 0 0,.sl (H.length+2) 0 0],oN,oM]),rfl,.inl (by simp [hp,hget,b8,b24]),s_0_1_4_5_9_w.perm (by decide)⟩
  ·exact ⟨_,_,iG c,(H++[.cells [.sl (H.length+1) 0 0,.sl (H.length+2) 0 0],oN,oM]),rfl,.inl (by simp [hp,hget,b8,b24]),s_0_4_5_6_9_w.perm (by decide)⟩
 have s_0_4_5:AW Γ k base up C [0,4,5] 8 (tR p x2 x3 (.ptr p 3) U U U (.ptr p 3) (gL c) U U U U) H:=by
  refine .step fun i hi => ?_
  have hi':i∈[1,6,9]:=hi;simp only [List.mem_cons,List.not_mem_nil,or_false] at hi'
  rcases hi' with rfl | rfl | rfl
  ·exact ⟨_,_,gL c,H,rfl,.inl (by simp [hp,hget,b8,b24]),s_0_1_4_5.perm (by decide)⟩
  ·exact ⟨_,_,iG c,H,rfl,.inl (by simp [hp,hget,b8,b24]),s_0_4_5_6.perm (by decide)⟩
  ·exact ⟨_,_,.ptr H.length 0,(H++[.cells [.sl (H.length+1) 0 0,.sl (H.length+2) 0 0],oN,oM]),rfl,.inl (by simp [hp,hget,b8,b24]),s_0_4_5_9_w.perm (by decide)⟩
 have s_0_4_9_w:AW Γ k base up C [0,4,9] 8 (tR p x2 x3 (.ptr p 3) U U U (.ptr p 3) U U U U (.ptr H.length 0)) (H++[.cells [.sl (H.length+1) 0 0,.sl (H.length+2) 0 0],oN,oM]):=by
  refine .step fun i hi => ?_
  have hi':i∈[1,5]:=hi;simp only [List.mem_cons,List.not_mem_nil,or_false] at hi'
  rcases hi' with rfl | rfl
  ·exact ⟨_,_,gL c,(H++[.cells [.sl (H.length+1) 0 0,.sl (H.length+2) 0 0],oN,oM]),rfl,.inl (by simp [hp,hget,b8,b24]),s_0_1_4_9_w.perm (by decide)⟩
  ·exact ⟨_,_,gL c,(H++[.cells [.sl (H.length+1) 0 0,.sl (H.length+2) 0 0],oN,oM]),rfl,.inl (by simp [hp,hget,b8,b24]),s_0_4_5_9_w.perm (by decide)⟩
 have s_0_4:AW Γ k base up C [0,4] 9 (tR p x2 x3 (.ptr p 3) U U U (.ptr p 3) U U U U U) H:=by
  refine .step fun i hi => ?_
  have hi':i∈[1,5,9]:=hi;simp only [List.mem_cons,List.not_mem_nil,or_false] at hi'
  rcases hi' with rfl | rfl | rfl
  ·exact ⟨_,_,gL c,H,rfl,.inl (by simp [hp,hget,b8,b24]),s_0_1_4.perm (by decide)⟩
  ·exact ⟨_,_,gL c,H,rfl,.inl (by simp [hp,hget,b8,b24]),s_0_4_5.perm (by decide)⟩
  ·exact ⟨_,_,.ptr H.length 0,(H++[.cells [.sl (H.length+1) 0 0,.sl (H.length+2) 0 0],oN,oM]),rfl,.inl (by simp [hp,hget,b8,b24]),s_0_4_9_w.perm (by decide)⟩
 have s_0_9_w:AW Γ k base up C [0,9] 9 (tR p x2 x3 (.ptr p 3) U U U U U U U U (.ptr H.length 0)) (H++[.cells [.sl (H.length+1) 0 0,.sl (H.length+2) 0 0],oN,oM]):=by
  refine .step fun i hi => ?_
  have hi':i∈[1,4]:=hi;simp only [List.mem_cons,List.not_mem_nil,or_false] at hi'
  rcases hi' with rfl | rfl
  ·exact ⟨_,_,gL c,(H++[.cells [.sl (H.length+1) 0 0,.sl (H.length+2) 0 0],oN,oM]),rfl,.inl (by simp [hp,hget,b8,b24]),s_0_1_9_w.perm (by decide)⟩
  ·exact ⟨_,_,.ptr p 3,(H++[.cells [.sl (H.length+1) 0 0,.sl (H.length+2) 0 0],oN,oM]),rfl,.inl (by simp [hp,hget,b8,b24]),s_0_4_9_w.perm (by decide)⟩
 have s_0:AW Γ k base up C [0] 10 (tR p x2 x3 (.ptr p 3) U U U U U U U U U) H:=by
  refine .step fun i hi => ?_
  have hi':i∈[1,4,9]:=hi;simp only [List.mem_cons,List.not_mem_nil,or_false] at hi'
  rcases hi' with rfl | rfl | rfl
  ·exact ⟨_,_,gL c,H,rfl,.inl (by simp [hp,hget,b8,b24]),s_0_1.perm (by decide)⟩
  ·exact ⟨_,_,.ptr p 3,H,rfl,.inl (by simp [hp,hget,b8,b24]),s_0_4.perm (by decide)⟩
  ·exact ⟨_,_,.ptr H.length 0,(H++[.cells [.sl (H.length+1) 0 0,.sl (H.length+2) 0 0],oN,oM]),rfl,.inl (by simp [hp,hget,b8,b24]),s_0_9_w.perm (by decide)⟩
 have s_4_5_6_7_9_Bw:AW Γ k base up C [4,5,6,7,9] 6 (tR p x2 x3 U U U U (.ptr p 3) (gL c) (iG c) (sG c H 0) U (.ptr (H.length+1) 0)) (H++[oB c,.cells [.sl (H.length+2) 0 0,.sl (H.length+3) 0 0],oN,oM]):=by
  refine .step fun i hi => ?_
  have hi':i∈[0]:=hi;simp only [List.mem_cons,List.not_mem_nil,or_false] at hi'
  rcases hi' with rfl
  ·exact ⟨_,_,.ptr p 3,(H++[oB c,.cells [.sl (H.length+2) 0 0,.sl (H.length+3) 0 0],oN,oM]),rfl,.inl (by simp [hp,hget,b8,b24]),s_0_4_5_6_7_9_Bw.perm (by decide)⟩
 have s_4_5_6_7_B:AW Γ k base up C [4,5,6,7] 7 (tR p x2 x3 U U U U (.ptr p 3) (gL c) (iG c) (sG c H 0) U U) (H++[oB c]):=by
  refine .step fun i hi => ?_
  have hi':i∈[0,9]:=hi;simp only [List.mem_cons,List.not_mem_nil,or_false] at hi'
  rcases hi' with rfl | rfl
  ·exact ⟨_,_,.ptr p 3,(H++[oB c]),rfl,.inl (by simp [hp,hget,b8,b24]),s_0_4_5_6_7_B.perm (by decide)⟩
  ·exact ⟨_,_,.ptr (H.length+1) 0,(H++[oB c,.cells [.sl (H.length+2) 0 0,.sl (H.length+3) 0 0],oN,oM]),rfl,.inl (by simp [hp,hget,b8,b24]),s_4_5_6_7_9_Bw.perm (by decide)⟩
 have s_4_5_6_7_9_wB:AW Γ k base up C [4,5,6,7,9] 6 (tR p x2 x3 U U U U (.ptr p 3) (gL c) (iG c) (sG c H 3) U (.ptr H.length 0)) (H++[.cells [.sl (H.length+1) 0 0,.sl (H.length+2) 0 0],oN,oM,oB c]):=by
  refine .step fun i hi => ?_
  have hi':i∈[0]:=hi;simp only [List.mem_cons,List.not_mem_nil,or_false] at hi'
  rcases hi' with rfl
  ·exact ⟨_,_,.ptr p 3,(H++[.cells [.sl (H.length+1) 0 0,.sl (H.length+2) 0 0],oN,oM,oB c]),rfl,.inl (by simp [hp,hget,b8,b24]),s_0_4_5_6_7_9_wB.perm (by decide)⟩
 have s_4_5_6_9_w:AW Γ k base up C [4,5,6,9] 7 (tR p x2 x3 U U U U (.ptr p 3) (gL c) (iG c) U U (.ptr H.length 0)) (H++[.cells [.sl (H.length+1) 0 0,.sl (H.length+2) 0 0],oN,oM]):=by
  refine .step fun i hi => ?_
  have hi':i∈[0,7]:=hi;simp only [List.mem_cons,List.not_mem_nil,or_false] at hi'
  rcases hi' with rfl | rfl
  ·exact ⟨_,_,.ptr p 3,(H++[.cells [.sl (H.length+1) 0 0,.sl (H.length+2) 0 0],oN,oM]),rfl,.inl (by simp [hp,hget,b8,b24]),s_0_4_5_6_9_w.perm (by decide)⟩
  ·exact ⟨_,_,sG c H 3,(H++[.cells [.sl (H.length+1) 0 0,.sl (H.length+2) 0 0],oN,oM,oB c]),rfl,.inl (by simp [hp,hget,b8,b24]),s_4_5_6_7_9_wB.perm (by decide)⟩
 have s_4_5_6:AW Γ k base up C [4,5,6] 8 (tR p x2 x3 U U U U (.ptr p 3) (gL c) (iG c) U U U) H:=by
  refine .step fun i hi => ?_
  have hi':i∈[0,7,9]:=hi;simp only [List.mem_cons,List.not_mem_nil,or_false] at hi'
  rcases hi' with rfl | rfl | rfl
  ·exact ⟨_,_,.ptr p 3,H,rfl,.inl (by simp [hp,hget,b8,b24]),s_0_4_5_6.perm (by decide)⟩
  ·exact ⟨_,_,sG c H 0,(H++[oB c]),rfl,.inl (by simp [hp,hget,b8,b24]),s_4_5_6_7_B.perm (by decide)⟩
  ·exact ⟨_,_,.ptr H.length 0,(H++[.cells [.sl (H.length+1) 0 0,.sl (H.length+2) 0 0],oN,oM]),rfl,.inl (by simp [hp,hget,b8,b24]),s_4_5_6_9_w.perm (by decide)⟩
 have s_4_5_9_w:AW Γ k base up C [4,5,9] 8 (tR p x2 x3 U U U U (.ptr p 3) (gL c) U U U (.ptr H.length 0)) (H++[.cells [.sl (H.length+1) 0 0,.sl (H.length+2) 0 0],oN,oM]):=by
  refine .step fun i hi => ?_
  have hi':i∈[0,6]:=hi;simp only [List.mem_cons,List.not_mem_nil,or_false] at hi'
  rcases hi' with rfl | rfl
  ·exact ⟨_,_,.ptr p 3,(H++[.cells [.sl (H.length+1) 0 0,.sl (H.length+2) 0 0],oN,oM]),rfl,.inl (by simp [hp,hget,b8,b24]),s_0_4_5_9_w.perm (by decide)⟩
  ·exact ⟨_,_,iG c,(H++[.cells [.sl (H.length+1) 0 0,.sl (H.length+2) 0 0],oN,oM]),rfl,.inl (by simp [hp,hget,b8,b24]),s_4_5_6_9_w.perm (by decide)⟩
 have s_4_5:AW Γ k base up C [4,5] 9 (tR p x2 x3 U U U U (.ptr p 3) (gL c) U U U U) H:=by
  refine .step fun i hi => ?_
  have hi':i∈[0,6,9]:=hi;simp only [List.mem_cons,List.not_mem_nil,or_false] at hi'
  rcases hi' with rfl | rfl | rfl
  ·exact ⟨_,_,.ptr p 3,H,rfl,.inl (by simp [hp,hget,b8,b24]),s_0_4_5.perm (by decide)⟩
  ·exact ⟨_,_,iG c,H,rfl,.inl (by simp [hp,hget,b8,b24]),s_4_5_6.perm (by decide)⟩
  ·exact ⟨_,_,.ptr H.length 0,(H++[.cells [.sl (H.length+1) 0 0,.sl (H.length+2) 0 0],oN,oM]),rfl,.inl (by simp [hp,hget,b8,b24]),s_4_5_9_w.perm (by decide)⟩
 have s_4_9_w:AW Γ k base up C [4,9] 9 (tR p x2 x3 U U U U (.ptr p 3) U U U U (.ptr H.length 0)) (H++[.cells [.sl (H.length+1) 0 0,.sl (H.length+2) 0 0],oN,oM]):=by
  refine .step fun i hi => ?_
  have hi':i∈[0,5]:=hi;simp only [List.mem_cons,List.not_mem_nil,or_false] at hi'
  rcases hi' with rfl | rfl
  ·exact ⟨_,_,.ptr p 3,(H++[.cells [.sl (H.length+1) 0 0,.sl (H.length+2) 0 0],oN,oM]),rfl,.inl (by simp [hp,hget,b8,b24]),s_0_4_9_w.perm (by decide)⟩
  ·exact ⟨_,_,gL c,(H++[.cells [.sl (H.length+1) 0 0,.sl (H.length+2) 0 0],oN,oM]),rfl,.inl (by simp [hp,hget,b8,b24]),s_4_5_9_w.perm (by decide)⟩
 have s_4:AW Γ k base up C [4] 10 (tR p x2 x3 U U U U (.ptr p 3) U U U U U) H:=by
  refine .step fun i hi => ?_
  have hi':i∈[0,5,9]:=hi;simp only [List.mem_cons,List.not_mem_nil,or_false] at hi'
  rcases hi' with rfl | rfl | rfl
  ·exact ⟨_,_,.ptr p 3,H,rfl,.inl (by simp [hp,hget,b8,b24]),s_0_4.perm (by decide)⟩
  ·exact ⟨_,_,gL c,H,rfl,.inl (by simp [hp,hget,b8,b24]),s_4_5.perm (by decide)⟩
  ·exact ⟨_,_,.ptr H.length 0,(H++[.cells [.sl (H.length+1) 0 0,.sl (H.length+2) 0 0],oN,oM]),rfl,.inl (by simp [hp,hget,b8,b24]),s_4_9_w.perm (by decide)⟩
 have s_9_w:AW Γ k base up C [9] 10 (tR p x2 x3 U U U U U U U U U (.ptr H.length 0)) (H++[.cells [.sl (H.length+1) 0 0,.sl (H.length+2) 0 0],oN,oM]):=by
  refine .step fun i hi => ?_
  have hi':i∈[0,4]:=hi;simp only [List.mem_cons,List.not_mem_nil,or_false] at hi'
  rcases hi' with rfl | rfl
  ·exact ⟨_,_,.ptr p 3,(H++[.cells [.sl (H.length+1) 0 0,.sl (H.length+2) 0 0],oN,oM]),rfl,.inl (by simp [hp,hget,b8,b24]),s_0_9_w.perm (by decide)⟩
  ·exact ⟨_,_,.ptr p 3,(H++[.cells [.sl (H.length+1) 0 0,.sl (H.length+2) 0 0],oN,oM]),rfl,.inl (by simp [hp,hget,b8,b24]),s_4_9_w.perm (by decide)⟩
 have s_:AW Γ k base up C [] 11 (tR p x2 x3 U U U U U U U U U U) H:=by
  refine .step fun i hi => ?_
  have hi':i∈[0,4,9]:=hi;simp only [List.mem_cons,List.not_mem_nil,or_false] at hi'
  rcases hi' with rfl | rfl | rfl
  ·exact ⟨_,_,.ptr p 3,H,rfl,.inl (by simp [hp,hget,b8,b24]),s_0.perm (by decide)⟩
  ·exact ⟨_,_,.ptr p 3,H,rfl,.inl (by simp [hp,hget,b8,b24]),s_4.perm (by decide)⟩
  ·exact ⟨_,_,.ptr H.length 0,(H++[.cells [.sl (H.length+1) 0 0,.sl (H.length+2) 0 0],oN,oM]),rfl,.inl (by simp [hp,hget,b8,b24]),s_9_w.perm (by decide)⟩
 exact AnyO.all s_
end
abbrev iN (k:Nat):AV:=.int .i64 k
abbrev eK (k:Nat):AV×AV:=(.int .i64 k,.bool true)
def rowI (l:List Nat):Ob:=.row 1 t_int (l.map iN) none true false
def mapI (l:List Nat):Ob:=.map (l.map eK) true
def needE (n N m:Nat):List AV:=(List.range m).map (fun i=>AV.mp (n+(3+(N+i))))++List.replicate (N - m) .nilm
def byE (n:Nat) (b:List (List Nat)):List AV:=b.mapIdx fun j l=>AV.sl (n+(3+j)) 0 l.length
def hF (n N m:Nat) (b:List (List Nat)):List Ob:=[.cells [.sl (n+1) 0 N,.sl (n+2) 0 N],.row 1 t_map_int_bool_2 (needE n N m) none (decide (m=0)) false,.row 1 t_int_2 (byE n b) none (decide (b.length=0)) false]
def hQ (H:List Ob) (nd b:List (List Nat)):List Ob:=H++(hF H.length b.length nd.length b++(b.map rowI++nd.map mapI))
section
variable {H : List Ob} {nd b : List (List Nat)}
theorem hQ_len:(hQ H nd b).length=H.length+(3+(b.length+nd.length)):=by simp [hQ,hF]; omega
theorem hQ_lo {i:Nat} (h:i<H.length):(hQ H nd b)[i]? = H[i]? := by rw [hQ,List.getElem?_append_left h]
theorem hQ_hi (i:Nat):(hQ H nd b)[H.length+i]? = (hF H.length b.length nd.length b++(b.map rowI++nd.map mapI))[i]? := by
 rw [hQ,List.getElem?_append_right (by omega)]; congr 1; omega
theorem hQ_w:(hQ H nd b)[H.length]? = some (.cells [.sl (H.length+1) 0 b.length,.sl (H.length+2) 0 b.length]):=hQ_hi 0
theorem hQ_n:(hQ H nd b)[H.length+1]? = some (.row 1 t_map_int_bool_2 (needE H.length b.length nd.length) none (decide (nd.length=0)) false):=hQ_hi 1
theorem hQ_b:(hQ H nd b)[H.length+2]? = some (.row 1 t_int_2 (byE H.length b) none (decide (b.length=0)) false):=hQ_hi 2
theorem hQ_r {k:Nat} (h:k<b.length):(hQ H nd b)[H.length+(3+k)]? = some (rowI b[k]):=by
 rw [hQ_hi,List.getElem?_append_right (by simp [hF]),List.getElem?_append_left (by simp [hF]; omega)];simp [hF,h]
theorem hQ_m {i:Nat} (h:i<nd.length):(hQ H nd b)[H.length+(3+(b.length+i))]? = some (mapI nd[i]):=by
 rw [hQ_hi,List.getElem?_append_right (by simp [hF]),List.getElem?_append_right (by simp [hF])];simp [hF,h]
theorem needE_get {n N m i:Nat} (h:i<m):(needE n N m)[i]? = some (.mp (n+(3+(N+i)))):=by
 rw [needE,List.getElem?_append_left (by simpa using h)]; simp [h]
theorem needE_len {n N m:Nat} (h:m≤N):(needE n N m).length=N:=by simp [needE]; omega
theorem byE_len (n:Nat) (b:List (List Nat)):(byE n b).length=b.length:=by simp [byE]
theorem byE_get {n k:Nat} (h:k<b.length):(byE n b)[k]? = some (.sl (n+(3+k)) 0 b[k].length):=by simp [byE,h]
theorem byE_set {n k:Nat} (l:List Nat) (h:k<b.length):(byE n b).set k (.sl (n+(3+k)) 0 l.length)=byE n (b.set k l):=by
 apply List.ext_getElem?;intro j
 by_cases hj:k=j
 ·subst hj;rw [List.getElem?_set_self (by rw [byE_len]; exact h),byE_get (by simpa using h)];simp
 ·rw [List.getElem?_set_ne hj]
  by_cases hjb:j<b.length
  ·rw [byE_get hjb,byE_get (by simpa using hjb),List.getElem_set_ne hj]
  ·rw [List.getElem?_eq_none (by rw [byE_len]; omega),List.getElem?_eq_none (by rw [byE_len]; simp; omega)]
theorem hQ_setm {i:Nat} (l:List Nat) (h:i<nd.length):(hQ H nd b).set (H.length+(3+(b.length+i))) (mapI l)=hQ H (nd.set i l) b:=by
 have e:H.length+(3+(b.length+i))=H.length+((hF H.length b.length nd.length b).length+((b.map rowI).length+i)):=by simp [hF]
 have ap:∀ (a c:List Ob) (j:Nat) (o:Ob),(a++c).set (a.length+j) o=a++c.set j o:=fun a c j o=>by
  rw [List.set_append_right _ _ (by omega)]; congr 2; omega
 rw [hQ,e,ap,ap,ap,hQ,List.length_set,← List.map_set]
theorem ap_set (a c:List Ob) (j:Nat) (o:Ob):(a++c).set (a.length+j) o=a++c.set j o:=by rw [List.set_append_right _ _ (by omega)]; congr 2; omega
theorem hQ_setr {k:Nat} (l:List Nat) (h:k<b.length):((hQ H nd b).set (H.length+(3+k)) (rowI l)).set (H.length+2) (.row 1 t_int_2 (byE H.length (b.set k l)) none (decide (b.length=0)) false)=hQ H nd (b.set k l):=by
 have e:H.length+(3+k)=H.length+((hF H.length b.length nd.length b).length+k):=by simp [hF]
 have ap:∀ (a c:List Ob) (j:Nat) (o:Ob),(a++c).set (a.length+j) o=a++c.set j o:=fun a c j o=>by
  rw [List.set_append_right _ _ (by omega)]; congr 2; omega
 rw [hQ,e,ap,ap,ap,hQ,List.length_set,show ((b.map rowI++nd.map mapI).set k (rowI l))=(b.map rowI).set k (rowI l)++nd.map mapI from List.set_append_left _ _ (by simpa using h),← List.map_set];simp [hF]
theorem bel_byE {n m:Nat} (b:List (List Nat)) (h:n+(3+b.length)≤m):belL m (byE n b)=true:=by
 have:∀ (l:List (List Nat)) (q:Nat),q+(3+l.length)≤m→belL m (l.mapIdx fun j x=>AV.sl (q+(3+j)) 0 x.length)=true:=by
  intro l
  induction l with
  | nil=>intro q _; rfl
  | cons a l ih =>
   intro q hq;simp only [List.length_cons] at hq;have h2:=ih (q+1) (by omega)
   have e:(fun (i:Nat) (x:List Nat)=>AV.sl (q+(3+(i+1))) 0 x.length)=fun j x=>AV.sl (q+1+(3+j)) 0 x.length:=by
    funext j x; congr 1; omega
   rw [List.mapIdx_cons,e]
   simp only [belL,h2,bel,Bool.and_true,decide_eq_true_eq]; omega
 exact this b n h
theorem bel_needE {n N m q:Nat} (h:n+(3+(N+m))≤q):belL q (needE n N m)=true:=by
 have h1:∀ l:List Nat,(∀ i∈l,i<m)→belL q (l.map fun i=>AV.mp (n+(3+(N+i))))=true:=by
  intro l
  induction l with
  | nil=>intro _; rfl
  | cons a l ih =>
   intro hl;have:=hl a (by simp)
   simp only [List.map_cons,belL,bel,ih fun i hi=>hl i (by simp [hi]),Bool.and_true,decide_eq_true_eq]; omega
 have h2:∀ k,belL q (List.replicate k AV.nilm)=true:=by
  intro k
  induction k with
  | zero=>rfl
  | succ k ih=>simp [List.replicate_succ,ih]
 rw [needE,belL_append,h1 _ (fun i hi=>by simpa using hi),h2]; rfl
theorem bel_rows (m:Nat):∀ b:List (List Nat),belH m (b.map rowI)=true
 | []=>rfl
 | l::b=>by simp [rowI,bel_rows m b]
theorem bel_eK (m:Nat):∀ l:List Nat,belM m (l.map eK)=true
 | []=>rfl
 | l::b=>by simp [bel_eK m b]
theorem bel_maps (m:Nat):∀ b:List (List Nat),belH m (b.map mapI)=true
 | []=>rfl
 | l::b=>by
  have:=bel_eK m l;simp only [List.map_cons,belH,mapI,belO,this,Bool.true_and];exact bel_maps m b
theorem hQ_wf (hw:WfO H):WfO (hQ H nd b):=fun m hm=>by
 rw [hQ_len] at hm;have h1:=hw m (by omega);have h2:=bel_byE (n:=H.length) (m:=m) b (by omega);have h3:=bel_needE (n:=H.length) (N:=b.length) (m:=nd.length) (q:=m) (by omega);rw [hQ,belH_append,belH_append,belH_append,h1,bel_rows,bel_maps];simp [hF,h2,h3];omega
theorem vld_byE {n i m:Nat} (b:List (List Nat)) (h:∀ j (hj:j<b.length),n+(3+j)=i→b[j].length=m):vldL i m (byE n b)=true:=by
 have:∀ l:List AV,(∀ a∈l,vld i m a=true)→vldL i m l=true:=by
  intro l
  induction l with
  | nil=>intro _; rfl
  | cons a l ih=>intro hl; simp only [vldL,hl a (by simp),ih fun x hx=>hl x (by simp [hx]),Bool.and_self]
 refine this _ fun a ha => ?_
 obtain ⟨j,hj,rfl⟩:=List.getElem_of_mem ha;rw [byE_len] at hj
 have e:(byE n b)[j]'(by rw [byE_len]; exact hj)=.sl (n+(3+j)) 0 b[j].length:=by
  have:=byE_get (n:=n) hj;exact (List.getElem?_eq_some_iff.1 this).2
 rw [e];simp only [vld,Bool.or_eq_true,Bool.not_eq_true',beq_eq_false_iff_ne,Nat.zero_add,beq_iff_eq]
 by_cases hi:n+(3+j)=i
 ·exact .inr (h j hj hi)
 ·exact .inl hi
theorem vld_needE {n N m i q:Nat}:vldL i q (needE n N m)=true:=by
 have:∀ l:List AV,(∀ a∈l,vld i q a=true)→vldL i q l=true:=by
  intro l
  induction l with
  | nil=>intro _; rfl
  | cons a l ih=>intro hl; simp only [vldL,hl a (by simp),ih fun x hx=>hl x (by simp [hx]),Bool.and_self]
 refine this _ fun a ha => ?_
 simp only [needE,List.mem_append,List.mem_map,List.mem_range,List.mem_replicate] at ha
 rcases ha with ⟨j,_,rfl⟩ | ⟨_,rfl⟩ <;> rfl
theorem vld_rows (i m:Nat):∀ b:List (List Nat),vldH i m (b.map rowI)=true
 | []=>rfl
 | l::b=>by simp [rowI,vld_rows i m b]
theorem vld_eK (i m:Nat):∀ l:List Nat,vldM i m (l.map eK)=true
 | []=>rfl
 | l::b=>by simp [vld_eK i m b]
theorem vld_maps (i m:Nat):∀ b:List (List Nat),vldH i m (b.map mapI)=true
 | []=>rfl
 | l::b=>by
  have:=vld_eK i m l;simp only [List.map_cons,vldH,mapI,vldO,this,Bool.true_and];exact vld_maps i m b
theorem vldH_append (i m:Nat):∀ a b:List Ob,vldH i m (a++b)=(vldH i m a&&vldH i m b)
 | [],b=>rfl
 | o::a,b=>by simp [vldH,vldH_append i m a b,Bool.and_assoc]
theorem hQ_vld (hv:WfV H) {k:Nat} (h:k<b.length):vldH (H.length+(3+k)) b[k].length (hQ H nd b)=true:=by
 have h1:=hv (H.length+(3+k)) b[k].length (by omega)
 have h2:vldL (H.length+(3+k)) b[k].length (byE H.length b)=true:=vld_byE b fun j hj he=>by
  obtain rfl:j=k:=by omega
  rfl
 have h3:=vld_needE (n:=H.length) (N:=b.length) (m:=nd.length) (i:=H.length+(3+k)) (q:=b[k].length);rw [hQ,vldH_append,vldH_append,vldH_append,h1,vld_rows,vld_maps];simp [hF,h2,h3];omega
end
def convE (n N j:Nat):List AV:=(List.range j).map (fun i=>AV.sl (n+(3+i)) 0 0)++List.replicate (N - j) (.list true 0 [])
def hConv (H:List Ob) (N j:Nat):List Ob:=H++([.cells [.sl (H.length+1) 0 N,.sl (H.length+2) 0 N],.row 1 t_map_int_bool_2 (needE H.length N 0) none true false,.row 1 t_int_2 (convE H.length N j) none (decide (j=0)) false]++List.replicate j (rowI []))
theorem hConv_len (H:List Ob) (N j:Nat):(hConv H N j).length=H.length+(3+j):=by simp [hConv]; omega
theorem r_conv (H:List Ob) (N:Nat) (f:Fr) (up:List Fr):∀ m j:Nat,j+m=N→AM.Reach Tryz.prog Γ (.fr f up (hConv H N j)) (.fr f up (hConv H N N)):=by
 intro m
 induction m with
 | zero =>
  intro j hj
  obtain rfl:j=N:=by omega
  exact .refl _
 | succ m ih =>
  intro j hj;have hlen:=hConv_len H N j
  have hi:(hConv H N j)[H.length+2]? = some (.row 1 t_int_2 (convE H.length N j) none (decide (j=0)) false):=by
   rw [hConv,List.getElem?_append_right (by omega),show H.length+2 - H.length=2 by omega]; rfl
  have hj2:(convE H.length N j)[j]? = some (.list true 0 []):=by
   rw [convE,List.getElem?_append_right (by simp),List.length_map,List.length_range,Nat.sub_self,show N - j=(N - (j+1))+1 by omega,List.replicate_succ];rfl
  have hst:=AM.Reach.nilelem (P:=Tryz.prog) (Γ:=Γ) (f:=f) (up:=up) (k:=1) t_int hi hj2 (by omega);refine .trans hst ?_
  have e:((hConv H N j++[Ob.row 1 t_int [] none true false]).set (H.length+2) (.row 1 t_int_2 ((convE H.length N j).set j (.sl (hConv H N j).length 0 0)) none false false))=hConv H N (j+1):=by
   have e1:(convE H.length N j).set j (.sl (hConv H N j).length 0 0)=convE H.length N (j+1):=by
    rw [hlen,convE,List.set_append_right _ _ (by simp)]
    have e2:List.replicate (N - j) (AV.list true 0 [])=.list true 0 []::List.replicate (N - (j+1)) (.list true 0 []):=by
     rw [show N - j=(N - (j+1))+1 by omega,List.replicate_succ]
    rw [e2];simp [convE,List.range_succ]
   rw [e1,hConv,hConv,List.append_assoc,ap_set];have e3:List.replicate (j+1) (rowI [])=List.replicate j (rowI [])++[rowI []]:=List.replicate_succ';rw [e3];simp [rowI]
  rw [e];exact ih (j+1) (by omega)
theorem hConv_zero (c:Ct) (H:List Ob):hConv H c.gates.length 0=H++hW c H.length:=by simp [hConv,hW,needE,convE]
theorem hConv_end (H:List Ob) (N:Nat):hConv H N N=hQ H [] (List.replicate N []):=by
 have e:convE H.length N N=byE H.length (List.replicate N []):=by
  apply List.ext_getElem?;intro j
  by_cases hj:j<N
  ·rw [byE_get (by simpa using hj)];simp [convE,hj]
  ·rw [List.getElem?_eq_none (by simp [convE]; omega),List.getElem?_eq_none (by rw [byE_len]; simp; omega)]
 simp [hConv,hQ,hF,e]
theorem find_cur (k:Nat):∀ l:List Nat,findIn (.sc .int) (.int .i64 k) (l.map eK)=some (if k∈l then some (.bool true) else none)
 | []=>rfl
 | a::l=>by
  simp only [List.map_cons,findIn,eq_nat]
  by_cases h:k=a
  ·simp [h]
  ·simp [h,find_cur k l]
theorem put_cur {k:Nat}:∀ {l:List Nat},k∉l→putIn (.sc .int) (.int .i64 k) (.bool true) (l.map eK)=some ((l++[k]).map eK)
 | [],_=>rfl
 | a::l,h=>by
  simp only [List.mem_cons,not_or] at h;simp only [List.map_cons,putIn,eq_nat,h.1,decide_false,put_cur h.2,Option.map_some,List.cons_append]
theorem plM_lt {c:Ct} {s:Bs} {k:Nat} (h:getM s (plM c)=some k):k<c.gates.length:=by
 have:∀ l:List (Bs×Nat),getM s l=some k→∃ x∈l,x.2=k:=by
  intro l
  induction l with
  | nil=>intro h; cases h
  | cons x l ih =>
   obtain ⟨a,v⟩:=x;intro h;rw [getM] at h
   split at h
   ·exact ⟨(a,v),by simp,Option.some.inj h⟩
   ·obtain ⟨x,h1,h2⟩:=ih h; exact ⟨x,by simp [h1],h2⟩
 obtain ⟨x,h1,rfl⟩:=this _ h;obtain ⟨j,hj,rfl⟩:=List.getElem_of_mem h1;rw [plM_len] at hj
 rw [plM_get c j hj]; exact hj
def needL (pl:List (Bs×Nat)):List Bs→List Nat→List Nat
 | [],a=>a
 | s::r,a=>match getM s pl with
  | none=>needL pl r a
  | some k=>needL pl r (if k∈a then a else a++[k])
def byL (pl:List (Bs×Nat)) (i:Nat):List Bs→List Nat→List (List Nat)→List (List Nat)
 | [],_,b=>b
 | s::r,a,b=>match getM s pl with
  | none=>byL pl i r a b
  | some k=>byL pl i r (if k∈a then a else a++[k]) (if k∈a then b else b.set k (b.getD k []++[i]))
theorem swap_set {A:List Ob} {r s:Nat} (h:s≠r) (o o1 o2:Ob):((A.set r o1).set s o2).set r o=(A.set r o).set s o2:=by
 rw [List.set_comm _ _ h,List.set_set]
theorem set_sm {h:List Ob} {i:Nat} {o:Ob} (hi:h[i]? = some o):h.set i o=h:=by
 apply List.ext_getElem?;intro j
 by_cases hj:i=j
 ·subst hj; rw [List.getElem?_set_self (lt_of_get hi),hi]
 ·rw [List.getElem?_set_ne hj]
theorem vldH_set {i m:Nat} {o:Ob} (ho:vldO i m o=true):∀ {h:List Ob} (j:Nat),vldH i m h=true→vldH i m (h.set j o)=true
 | [],_,h1=>h1
 | o'::h,0,h1=>by
  simp only [vldH,Bool.and_eq_true,List.set_cons_zero] at h1 ⊢;exact ⟨ho,h1.2⟩
 | o'::h,j+1,h1=>by
  simp only [vldH,Bool.and_eq_true,List.set_cons_succ] at h1 ⊢;exact ⟨h1.1,vldH_set ho j h1.2⟩
set_option maxRecDepth 8000 in
theorem r_wait3 (c:Ct) (hc:CtFew c) {H:List Ob} (hw:WfO H) (hv:WfV H) {m0:Nat} (hm:H[m0]? = some (.map ((plM c).map ePl) true)) (nd:List (List Nat)) (i:Nat) (hi:i<c.gates.length) (hnd:nd.length=i) (up:List Fr) (base:Nat) (hbase:base≤H.length) (p2:Nat):∀ n q:Nat,q+n=c.gates[i].ins.length→∀ (cur:List Nat) (b:List (List Nat)),b.length=c.gates.length→(∀ l∈b,l.length≤2^20+i*2^10+q) →
  AM.Reach Tryz.prog Γ (yEi (.ptr p2 0) (.mp m0) (.ptr H.length 0) (.int .i64 i) (.list false c.kG (c.gates.map eGt)) (.int .i64 c.gates.length) (.int .i64 i) (.list false c.gates[i].ki (c.gates[i].ins.map .str)) (.int .i64 c.gates[i].ins.length) (.int .i64 q) (hQ H (nd++[cur]) b) ⟨[],.norm,base,up⟩)
   (yEj (.ptr p2 0) (.mp m0) (.ptr H.length 0) (.list false c.kG (c.gates.map eGt)) (.int .i64 c.gates.length) (.int .i64 i) (hQ H (nd++[needL (plM c) (c.gates[i].ins.drop q) cur]) (byL (plM c) i (c.gates[i].ins.drop q) cur b)) ⟨[],.norm,base,up⟩):=by
 have hiB:i<2^10:=by have:=hc.2.2.2.1; omega
 have hqB:c.gates[i].ins.length<2^10:=(hc.2.2.2.2.1 _ (List.getElem_mem hi)).2.1;intro n
 induction n with
 | zero =>
  intro q hq cur b hb hbl
  have q1:¬ q<c.gates[i].ins.length:=by omega
  rw [List.drop_eq_nil_of_le (by omega),needL,byL];refine .goS 60 ?_;simp [q1];exact .exit rfl rfl
 | succ n ih =>
  intro q hqn cur b hb hbl
  have hq:q<c.gates[i].ins.length:=by omega
  have q2:=eq_true (c.gates[i].hi.of hq)
  have hget:(hQ H (nd++[cur]) b)[m0]? = some (.map ((plM c).map ePl) true):=by rw [hQ_lo (lt_of_get hm)]; exact hm
  have hfi:=findIn_gen (E:=.sc .str) (e:=AV.str) eq_str (fun n:Nat=>AV.int .i64 n) c.gates[i].ins[q] (plM c);rw [List.drop_eq_getElem_cons hq,needL,byL]
  cases hk:getM c.gates[i].ins[q] (plM c) with
  | none =>
   rw [hk] at hfi;have hh:=ih (q+1) (by omega) cur b hb (fun l hl=>by have:=hbl l hl; omega);refine .goS 60 ?_;simp (disch:=omega) [hq,q2,hget,hfi,isKey,allDatum,isDatum];refine .reLoop ?_;simp at hh ⊢;exact hh
  | some k =>
   rw [hk] at hfi;have hkl:=plM_lt hk
   have hkb:k<b.length:=by omega
   have xw:=hQ_w (H:=H) (nd:=nd++[cur]) (b:=b);have xn:=hQ_n (H:=H) (nd:=nd++[cur]) (b:=b)
   have hii:i<(nd++[cur]).length:=by simp; omega
   have xm:=hQ_m (H:=H) (b:=b) hii
   have ecur:(nd++[cur])[i]=cur:=by rw [List.getElem_append_right (by omega)]; simp [hnd]
   have yn:=needE_get (n:=H.length) (N:=b.length) hii
   have hm1:(nd++[cur]).length=nd.length+1:=by simp
   have yl:=needE_len (n:=H.length) (N:=b.length) (m:=nd.length+1) (by omega);have yt:List.take b.length (needE H.length b.length (nd.length+1))=needE H.length b.length (nd.length+1):=List.take_of_length_le (by rw [yl]; exact Nat.le_refl _);have fc:=find_cur k cur;rw [ecur] at xm;rw [hm1] at yn xn;rw [hb] at xm yn xw xn yl yt;obtain ⟨_,yn'⟩:=List.getElem?_eq_some_iff.1 yn
   by_cases hkc:k∈cur
   ·rw [if_pos hkc] at fc;have hh:=ih (q+1) (by omega) cur b hb (fun l hl=>by have:=hbl l hl; omega);simp only [if_pos hkc];generalize hQ H (nd++[cur]) b=X at *;refine .goS 60 ?_;simp (disch:=omega) [hq,q2,hget,hfi,isKey,allDatum,isDatum,xw,xn,xm,yn,yl,yt,yn',hi,mapI,fc];refine .reLoop ?_;simp at hh ⊢;exact hh
   ·rw [if_neg hkc] at fc;have pc:=put_cur hkc;have xb:=hQ_b (H:=H) (nd:=nd++[cur]) (b:=b);have xr:=hQ_r (H:=H) (nd:=nd++[cur]) hkb;have yb:=byE_get (n:=H.length) hkb
    have hh:=ih (q+1) (by omega) (cur++[k]) (b.set k (b.getD k []++[i])) (by simpa using hb) (fun l hl=>by
     rcases List.mem_or_eq_of_mem_set hl with h1 | h1
     ·have:=hbl l h1; omega
     ·have egd:b.getD k []=b[k]:=by rw [List.getD_eq_getElem?_getD,List.getElem?_eq_getElem hkb]; rfl
      have:=hbl _ (List.getElem_mem hkb)
      rw [h1,egd,List.length_append,List.length_singleton]; omega)
    simp only [if_neg hkc]
    have fin:((((hQ H (nd++[cur]) b).set (H.length+(3+(c.gates.length+i))) (.map (List.map eK cur++[eK k]) true)).set (H.length+(3+k)) (.row 1 t_int (List.map iN b[k]++[.int .i64 i]) (some 0) true false)).set (H.length+2) (.row 1 t_int_2 ((byE H.length b).set k (.sl (H.length+(3+k)) 0 (b[k].length+1))) none false false)) =
      (hQ H (nd++[cur++[k]]) (b.set k (b[k]++[i]))).set (H.length+(3+k)) (.row 1 t_int (List.map iN b[k]++[.int .i64 i]) (some 0) true false):=by
     have f1:=hQ_setm (H:=H) (b:=b) (cur++[k]) hii;have f2:=hQ_setr (H:=H) (nd:=nd++[cur++[k]]) (b[k]++[i]) hkb;have f3:=byE_set (n:=H.length) (b[k]++[i]) hkb
     have f4:(nd++[cur]).set i (cur++[k])=nd++[cur++[k]]:=by rw [List.set_append_right _ _ (by omega)]; simp [hnd]
     have f5:mapI (cur++[k])=.map (List.map eK cur++[eK k]) true:=by simp [mapI]
     have f6:decide (b.length=0)=false:=decide_eq_false (by omega)
     have f7:(b[k]++[i]).length=b[k].length+1:=by simp
     rw [f4,f5,hb] at f1;rw [f6] at f2;rw [f7] at f3;rw [f1,f3,← f2,swap_set (by omega)]
    have vfin:=hQ_vld (H:=H) (nd:=nd++[cur++[k]]) (b:=b.set k (b[k]++[i])) hv (k:=k) (by simpa using hkb);have zget:=hQ_r (H:=H) (nd:=nd++[cur++[k]]) (b:=b.set k (b[k]++[i])) (k:=k) (by simpa using hkb);have zlen:=hQ_len (H:=H) (nd:=nd++[cur++[k]]) (b:=b.set k (b[k]++[i]));rw [List.getElem_set_self] at vfin zget;have zl:=byE_len H.length b;have zt:List.take b.length (byE H.length b)=byE H.length b:=List.take_of_length_le (by rw [zl]; exact Nat.le_refl _);rw [hb] at xb zl zt;obtain ⟨_,yb'⟩:=List.getElem?_eq_some_iff.1 yb;generalize hQ H (nd++[cur]) b=X at *;clear zlen;refine .goS 60 ?_;simp (disch:=omega) [hq,q2,hget,hfi,isKey,allDatum,isDatum,xw,xn,xm,yn,yl,yt,yn',hi,mapI,fc,pc];refine .drS 60 ?_
    have d1:¬ c.gates.length+i=k:=by omega
    have b8:(b[k].length+1)*8≤140737488355328:=by have:=hbl _ (List.getElem_mem hkb); omega
    simp (disch:=omega) [xw,xb,xr,yb,yb',zl,zt,rowI,d1,b8];rw [fin];have zlen:=hQ_len (H:=H) (nd:=nd++[cur++[k]]) (b:=b.set k (b[k]++[i]))
    have egd:b.getD k []=b[k]:=by rw [List.getD_eq_getElem?_getD,List.getElem?_eq_getElem hkb]; rfl
    rw [egd] at hh
    try rw [egd]
    generalize hQ H (nd++[cur++[k]]) (b.set k (b[k]++[i]))=Z at *
    have zlt:H.length+(3+k)<Z.length:=by rw [zlen]; simp; omega
    refine .reLoop ?_;simp
    refine .resetTo (i:=H.length+(3+k)) (k:=1) (E:=t_int) (es:=(b[k]++[i]).map iN) (fl:=true) (sh:=false) (by rw [List.getElem?_set_self zlt]; simp) (by simp; omega) (by simp) (by
     simp only [List.length_map]
     exact vldH_set (by simp [vldO]) _ vfin) ?_
    rw [List.set_set,show Ob.row 1 t_int ((b[k]++[i]).map iN) none true false=rowI (b[k]++[i]) from rfl,set_sm zget];simp at hh ⊢;exact hh
end Go.Proofs.YtpinapmcemimcaaGreatDoor
