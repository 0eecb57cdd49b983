/- Factors: how many rows have a literal; rows without literals; an and of literals; the literal that most rows have. -/
import Derived.Test.YtchjijfjidlpjaaGreatDoorG
import Derived.Test.YtchjijfjidlpjaaGreatDoorF
import Derived.Test.YtchjijfjidlpjaaGreatDoorCode
import Derived.Test.YtchjijfjidlpjaaGreatDoorAMd
set_option linter.unusedSimpArgs false
set_option linter.unusedVariables false
namespace Go.Proofs.YtchjijfjidlpjaaGreatDoor
open Go.AM Go.Proofs
variable{Γ:Nat->Option AV}
def d_(x:Li):List Bs->Nat
 |[]=>0
 |s::r=>(if cP x s=true then 1 else 0)+d_ x r
theorem Nw(x:Li):∀r:List Bs,d_ x r<=r.length
 |[]=>aQ _
 |s::r=>by rw[d_,bE];have:=Nw x r;split<;>omega
theorem H5(rows:List Bs)(x:Li){k:Nat}(hk:Kd 1 k rows)(hl:rows.length<2^40)(hs:∀s∈rows,s.length<2^40):aS Tryz.prog Γ u7 [.list false k (rows.map .str),ec x] (.int .i64 (d_ x rows)):=by
 have key:∀n i:Nat,i+n=rows.length->∀a:Nat,a+n<2^41->aA Tryz.prog Γ (yye (.ptr 0 0) (.int .i64 a) (.list false k (rows.map .str)) (.int .i64 rows.length) (.int .i64 i) [.cells (ec x).cells]) (.ret (.int .i64 (a+d_ x (rows.drop i):Nat))):=by
  intro n
  induction n with
  |zero=>
   intro i hi a ha
   have q1:¬i<rows.length:=by omega
   rw[bA (by omega),d_];refine .go 60 ?_;simp[q1];exact .back (by simp)
  |succ n ih=>
   intro i hi a ha
   have q1:i<rows.length:=by omega
   have q2:=bR (hk.of q1)
   have hw:bS [.cells (ec x).cells,.cells (ec x).cells]:=by intro m hm;simp
   have hc:=(IM (Γ:=Γ) x 1 [rows[i]] (by intro s h;simp only[cE]at h;subst h;exact hs _ (bw q1))).2 rows[i] (by simp);rw[bJ q1,d_];refine .go 60 ?_;simp(disch:=omega) [q1,q2];refine .aW 60 (Sk x) ?_;simp;refine .aW 60 (fun up=>hc up [.cells (ec x).cells,.cells (ec x).cells] ⟨rfl,hw⟩) ?_
   by_cases h3:cP x rows[i]=true
   ·have hh:=ih (i+1) (by omega) (a+1) (by omega);simp(disch:=omega) [h3];refine .aO ?_;simp;refine .drop 1 rfl (by simp) (by simp) (by simp) ?_;simp[q2,<-Int.add_assoc]at hh⊢;exact hh
   ·have hh:=ih (i+1) (by omega) a (by omega);simp(disch:=omega) [h3];refine .aO ?_;simp;refine .drop 1 rfl (by simp) (by simp) (by simp) ?_;simp[q2]at hh⊢;exact hh
 refine .run 60 YZ (by simp) ?_;simp;refine .inLoop ?_;have hh:=key rows.length 0 (by omega) 0 (by omega);simp at hh⊢;exact hh
def gk(l:List Li)(s:Bs):Bs:=l.foldl (fun b x=>b.set x.1 45) s
theorem rR:∀(l:List Li)(s:Bs),(gk l s).length=s.length
 |[],s=>rfl
 |x::l,s=>by have:=rR l (s.set x.1 45);simpa[gk]using this
theorem afD:fJ 45=.int .u8 45:=rfl
theorem abT(l:List Li)(x:Li)(s:Bs):gk (l++[x]) s=(gk l s).set x.1 45:=by simp[gk]
set_option maxRecDepth 8000 in
theorem ahs(l:List Li){kl:Nat}(hkl:Kd 2 kl l)(hll:l.length<2^40)(s:Bs)(hx:∀x∈l,x.1<s.length)(hs:s.length<2^40)(o0 o1:Ob)(x1 x5 x11 x12 x13:AV)(up:List Fr)(hb:aK 3 [x1,x5,x11,x12,x13]=true)(ho:cr 3 [o0,o1]=true):
 ∀n i:Nat,i+n=l.length->AM.Reach Tryz.prog Γ (yyV x1 x5 (.sl 2 0 s.length) x11 x12 x13 (.list false kl (l.map ec)) (.int .i64 l.length) (.int .i64 i) [o0,o1,.row 1 HZ ((gk (l.take i) s).map fJ) none true false] ⟨[],.norm,0,up⟩)
  (yyW x1 x5 (.sl 2 0 s.length) x11 x12 x13 [o0,o1,.row 1 HZ ((gk l s).map fJ) none true false] ⟨[],.norm,0,up⟩):=by
 intro n
 induction n with
 |zero=>
  intro i hi
  have q1:¬i<l.length:=by omega
  rw[cR (by omega)];refine .dW 60 ?_;simp[q1];exact .exit rfl rfl
 |succ n ih=>
  intro i hi
  have q1:i<l.length:=by omega
  have q2:=bR (hkl.of q1);have q3:=hx l[i] (bw q1);have hh:=ih (i+1) (by omega);rw[kK q1,abT]at hh
  have q4:l[i].1<(gk (l.take i) s).length:=by rw[rR];exact q3
  refine .dW 60 ?_;simp(disch:=omega) [q1,q2,q3,q4,rR];refine .aO ?_;simp;refine .oj 3 rfl (by simp) (by simpa using hb) (by simpa using ho) ?_;simp[afD]at hh⊢;exact hh
def dD(l:List Li)(rows:List Bs):List Bs:=rows.map (gk l)
theorem PT(rows:List Bs)(l:List Li){k kl:Nat}(hk:Kd 1 k rows)(hkl:Kd 2 kl l)(hr:rows.length<2^40)(hll:l.length<2^40)(hs:∀s∈rows,s.length<2^40/\∀x∈l,x.1<s.length):
 aS Tryz.prog Γ rH [.list false k (rows.map .str),.list false kl (l.map ec)] (.own 1 au ((dD l rows).map .str)):=by
 have key:∀n i:Nat,i+n=rows.length->∀out:List Bs,out.length=i->aA Tryz.prog Γ (yyY (.list false kl (l.map ec)) (.sl 1 0 out.length) (.list false k (rows.map .str)) (.int .i64 rows.length) (.int .i64 i) [.row 1 au [] none true false,.row 1 au (out.map .str) none true false])
  (.ret (.own 1 au ((out++dD l (rows.drop i)).map .str))):=by
  intro n
  induction n with
  |zero=>
   intro i hi out ho
   have q1:¬i<rows.length:=by omega
   rw[bA (by omega)];refine .go 60 ?_;simp[q1,dD];exact .back (by simp)
  |succ n ih=>
   intro i hi out ho
   have q1:i<rows.length:=by omega
   have q2:=bR (hk.of q1);obtain⟨h1,h2⟩:=hs rows[i] (bw q1);have hh:=ih (i+1) (by omega) (out++[gk l rows[i]]) (by simp[ho])
   have e:out++dD l (rows.drop i)=out++[gk l rows[i]]++dD l (rows.drop (i+1)):=by rw[bJ q1,cI];rfl
   rw[e];have h4:=ahs (Γ:=Γ) l hkl hll rows[i] h2 h1 (.row 1 au [] none true false) (.row 1 au (out.map .str) none true false) (.list false kl (l.map ec)) (.sl 1 0 out.length) (.list false k (rows.map .str)) (.int .i64 rows.length) (.int .i64 i) [] (by simp) (by simp) l.length 0 (by omega);refine .go 60 ?_;simp(disch:=omega) [q1,q2];refine .inLoop ?_;have h0:gk [] rows[i]=rows[i]:=rfl;have hcl:=rR l rows[i];simp[h0]at h4⊢;refine .reach h4 ?_;refine .go 60 ?_;have htk:List.take (List.length rows[i]) (List.map fJ (gk l rows[i]))=List.map fJ (gk l rows[i]):=cR (by simp[hcl]);simp(disch:=omega) [hcl,htk];refine .aO ?_;simp;refine .drop 2 rfl (by simp) (by simp) (by simp) ?_;refine .reset (i:=1) rfl (by simp) (by simp) (by simp) ?_;simp[q2]at hh⊢;exact hh
 refine .run 60 Yw (by simp) ?_;simp;refine .inLoop ?_;have hh:=key rows.length 0 (by omega) [] rfl;simp at hh⊢;exact hh
def ua:List Fm->Bool
 |[f]=>decide (f.kind=1)
 |_=>false
def kc(r:List Fm):List Fm:=if ua r=true then[]else r
def qT(n:Nat):List Fm:=if 1<n then[⟨3,0,n⟩]else[]
def eO(l:List Li)(r:List Fm):List Fm:=qT (l.length+min (kc r).length 1)++l.map ew++kc r
theorem wg(l:List Li){kl:Nat}(hkl:Kd 2 kl l)(hll:l.length<2^40)(hx:∀x∈l,x.1<2^40)(r:List Fm){kr:Nat}(hkr:Kd 3 kr r)(hr:r.length<2^40)(fl:Bool):
 ∀n i:Nat,i+n=l.length->∀out:List Fm,out.length<=i+1->aA Tryz.prog Γ (yyx (.list fl kr (r.map bd)) (.sl 1 0 out.length) (.list false kl (l.map ec)) (.int .i64 l.length) (.int .i64 i) [.row 3 aU [] none true false,.row 3 aU (out.map bd) none true false])
  (.ret (.own 3 aU ((out++(l.drop i).map ew++r).map bd))):=by
 intro n
 induction n with
 |zero=>
  intro i hi out ho
  have q1:¬i<l.length:=by omega
  rw[bA (by omega)];have hkr':kr=3\/r=[]:=hkr;refine .go 60 ?_
  by_cases hr0:r=[]
  ·simp(disch:=omega) [q1,hkr',hr0];exact .back (by simp)
  ·obtain rfl:kr=3:=hkr'.resolve_right hr0;simp(disch:=omega) [q1,hr0];exact .back (by simp)
 |succ n ih=>
  intro i hi out ho
  have q1:i<l.length:=by omega
  have q2:=bR (hkl.of q1);have hp:=ahO (Γ:=Γ) l[i] (hx _ (bw q1));have hh:=ih (i+1) (by omega) (out++[ew l[i]]) (by simp;omega)
  have e:out++(l.drop i).map ew++r=out++[ew l[i]]++(l.drop (i+1)).map ew++r:=by rw[bJ q1];simp only[bU,cI,eo,j3]
  rw[e];refine .go 60 ?_;simp(disch:=omega) [q1,q2];refine .call 60 (by simp) hp ?_;simp(disch:=omega);refine .aO ?_;simp;refine .drop 2 rfl (by simp) (by simp) (by simp) ?_;refine .reset (i:=1) rfl (by simp) (by simp) (by simp) ?_;simp[q2]at hh⊢;exact hh
theorem DF:mL (.int .i64 0) [.int .i64 1]=some (.int .i64 0):=rfl
theorem sq:mL (.int .i64 1) [.int .i64 1]=some (.int .i64 1):=rfl
theorem DO(n:Nat):mL (.int .i64 ((n:Int)+1)) [.int .i64 1]=some (.int .i64 1):=by
 by_cases h:(1:Int)<(n:Int)+1
 ·simp only[mL,cy,if_pos h]
 ·have e:(n:Int)+1=1:=by omega
  rw[e];rfl
set_option maxRecDepth 8000 in
theorem IG(l:List Li){kl:Nat}(hkl:Kd 2 kl l)(hll:l.length<2^40)(hx:∀x∈l,x.1<2^40)(r:List Fm){kr:Nat}(hkr:Kd 3 kr r)(hr:r.length<2^40):
 aS Tryz.prog Γ tm [.list false kl (l.map ec),.list false kr (r.map bd)] (.own 3 aU ((eO l r).map bd)):=by
 refine .run 100 ZD (by simp) ?_;have q0:(1<l.length+min (kc r).length 1)\/¬(1<l.length+min (kc r).length 1):=Decidable.em _
 cases r with
 |nil=>
  have e0:kc []=[]:=rfl;unfold eO qT;rw[e0]at q0⊢;simp only[cS,Nat.zero_min,gZ]at q0⊢;have q3i:((1:Int)<l.length)=(1<l.length):=propext (by omega)
  rcases q0 with q0|q0
  ·have hh:=wg (Γ:=Γ) l hkl hll hx [] (kr:=kr) (.inr rfl) (by simp) false l.length 0 (by omega) [⟨3,0,l.length⟩] (by simp);simp(disch:=omega) [q0,DF,sq,q3i];refine .inLoop ?_;simp;refine .drop 2 rfl (by simp) (by simp) (by simp) ?_;refine .reset (i:=1) rfl (by simp) (by simp) (by simp) ?_;simp[q0]at hh⊢;exact hh
  ·have hh:=wg (Γ:=Γ) l hkl hll hx [] (kr:=kr) (.inr rfl) (by simp) false l.length 0 (by omega) [] (by simp);simp(disch:=omega) [q0,DF,sq,q3i];refine .inLoop ?_;simp[q0]at hh⊢;exact hh
 |cons f r=>
  obtain rfl:kr=3:=hkr.of (i:=0) (by simp)
  by_cases ht:ua (f::r)=true
  ·have e0:kc (f::r)=[]:=by rw[kc,if_pos ht]
   obtain⟨hf,rfl⟩:f.kind=1/\r=[]:=by
    cases r with
    |nil=>simpa[ua]using ht
    |cons _ _=>cases ht
   unfold eO qT;rw[e0]at q0⊢;simp only[cS,Nat.zero_min,gZ]at q0⊢;have q3i:((1:Int)<l.length)=(1<l.length):=propext (by omega)
   rcases q0 with q0|q0
   ·have hh:=wg (Γ:=Γ) l hkl hll hx [] (kr:=3) (.inr rfl) (by simp) false l.length 0 (by omega) [⟨3,0,l.length⟩] (by simp);simp(disch:=omega) [q0,DF,sq,q3i,hf];refine .inLoop ?_;simp;refine .trees [1] ?_;simp;refine .gc 1 [1] (by simp) (by decide) ?_;simp;refine .reset (i:=1) rfl (by simp) (by simp) (by simp) ?_;simp[q0]at hh⊢;exact hh
   ·have hh:=wg (Γ:=Γ) l hkl hll hx [] (kr:=3) (.inr rfl) (by simp) false l.length 0 (by omega) [] (by simp);simp(disch:=omega) [q0,DF,sq,q3i,hf];refine .inLoop ?_;simp;refine .trees [1] ?_;simp;refine .gc 1 [1] (by simp) (by decide) ?_;simp[q0]at hh⊢;exact hh
  ·have e0:kc (f::r)=f::r:=by rw[kc,if_neg ht]
   unfold eO qT;rw[e0]at q0⊢
   have e1:min (f::r).length 1=1:=by simp
   have e2:((r.length:Int)+1=1)=(r=[]):=propext ⟨fun h=>lr.1 (by omega),fun h=>by rw[h];rfl⟩
   have e4:f.kind=1->¬r=[]:=fun h h2=>ht (by rw[h2];simp[ua,h])
   rw[e1]at q0⊢
   rcases q0 with q0|q0
   ·have q3:0<l.length:=by omega
    have q3i:((1:Int)<(l.length:Int)+1)=True:=bR (by omega);have hh:=wg (Γ:=Γ) l hkl hll hx (f::r) (kr:=3) (.inl rfl) hr false l.length 0 (by omega) [⟨3,0,l.length+1⟩] (by simp)
    by_cases h5:r=[]
    ·have h6:¬f.kind=1:=fun h=>e4 h h5
     simp(disch:=omega) [h5,h6,q3,sq,DO,q3i];refine .inLoop ?_;simp;refine .drop 2 rfl (by simp) (by simp) (by simp) ?_;refine .reset (i:=1) rfl (by simp) (by simp) (by simp) ?_;simp[q3,q3i,h5]at hh⊢;exact hh
    ·simp(disch:=omega) [h5,q3,sq,DO,q3i,e2];refine .inLoop ?_;simp;refine .drop 2 rfl (by simp) (by simp) (by simp) ?_;refine .reset (i:=1) rfl (by simp) (by simp) (by simp) ?_;simp[q3,q3i,h5]at hh⊢;exact hh
   ·have q3:l.length=0:=by omega
    have q3i:((1:Int)<1)=False:=nY (by omega);obtain rfl:l=[]:=lr.1 q3;have hh:=wg (Γ:=Γ) [] hkl hll hx (f::r) (kr:=3) (.inl rfl) hr false 0 0 (by simp) [] (by simp)
    by_cases h5:r=[]
    ·have h6:¬f.kind=1:=fun h=>e4 h h5
     simp(disch:=omega) [h5,h6,sq,DO,q3i];refine .inLoop ?_;simp[h5]at hh⊢;exact hh
    ·simp(disch:=omega) [h5,sq,DO,q3i,e2];refine .inLoop ?_;simp[h5]at hh⊢;exact hh
def mA(rows:List Bs)(b:Li×Nat)(x:Li):Li×Nat:=if b.2<d_ x rows then(x,d_ x rows)else b
def oo(rows:List Bs):Nat->Nat->Li×Nat->Li×Nat
 |0,_,b=>b
 |n+1,i,b=>oo rows n (i+1) (mA rows (mA rows b (i,49)) (i,48))
def cZ(rows:List Bs)(n:Nat):Li×Nat:=oo rows n 0 ((0,0),0)
theorem pO:Utf8.decode {data:=#[49,48]} 0=(49,1):=by kernel_rfl
theorem pQ:Utf8.decode {data:=#[49,48]} 1=(48,1):=by kernel_rfl
set_option maxRecDepth 8000 in
theorem afY(rows:List Bs){k:Nat}(hk:Kd 1 k rows)(hl:rows.length<2^40)(hs:∀s∈rows,s.length<2^40)(L:Nat)(hL:L<2^40):∀n i:Nat,i+n=L->∀b:Li×Nat,
 aA Tryz.prog Γ (yzy (.list false k (rows.map .str)) (.ptr 0 0) (.ptr 1 0) (.int .i64 b.2) (.int .i64 L) (.int .i64 i) [.cells [.int .i64 0,.int .i64 0],.cells (ec b.1).cells]) (.ret (.aH [ec (oo rows n i b).1,.int .i64 (oo rows n i b).2])):=by
 intro n
 induction n with
 |zero=>
  intro i hi b
  have q1:¬i<L:=by omega
  refine .go 60 ?_;simp[q1];exact .back (by simp[oo])
 |succ n ih=>
  intro i hi b
  have q1:i<L:=by omega
  have hc1:=H5 (Γ:=Γ) rows (i,49) hk hl hs;have hc2:=H5 (Γ:=Γ) rows (i,48) hk hl hs;rw[oo]
  have half:∀b1:Li×Nat,aA Tryz.prog Γ (yzw (.list false k (rows.map .str)) (.ptr 0 0) (.ptr 1 0) (.int .i64 b1.2) (.int .i64 i) (.int .i64 L) (.int .i64 i) (.it 2) [.cells [.int .i64 0,.int .i64 0],.cells (ec b1.1).cells,.iO [49,48] 1])
   (.ret (.aH [ec (oo rows n (i+1) (mA rows b1 (i,48))).1,.int .i64 (oo rows n (i+1) (mA rows b1 (i,48))).2])):=by
   intro b1;have hh:=ih (i+1) (by omega) (mA rows b1 (i,48));refine .go 60 ?_;simp(disch:=omega) [pO,pQ];refine .call 60 (by simp) hc2 ?_
   by_cases h1:b1.2<d_ (i,48) rows
   ·have e1:mA rows b1 (i,48)=((i,48),d_ (i,48) rows):=if_pos h1;rw[e1]at hh⊢;simp(disch:=omega) [h1];refine .aO ?_;refine .go 60 ?_;simp(disch:=omega) [pO,pQ];refine .aO ?_;simp;refine .drop 2 rfl (by simp) (by simp) (by simp) ?_;simp at hh⊢;exact hh
   ·have e1:mA rows b1 (i,48)=b1:=if_neg h1;rw[e1]at hh⊢;simp(disch:=omega) [h1];refine .aO ?_;refine .go 60 ?_;simp(disch:=omega) [pO,pQ];refine .aO ?_;simp;refine .drop 2 rfl (by simp) (by simp) (by simp) ?_;simp at hh⊢;exact hh
  refine .go 60 ?_;simp(disch:=omega) [q1];refine .inLoop ?_;refine .go 60 ?_;simp(disch:=omega) [pO,pQ];refine .call 60 (by simp) hc1 ?_
  by_cases h1:b.2<d_ (i,49) rows
  ·have e1:mA rows b (i,49)=((i,49),d_ (i,49) rows):=if_pos h1;have hh:=half ((i,49),d_ (i,49) rows);rw[e1];simp(disch:=omega) [h1];refine .aO ?_;simp;refine .drop 3 rfl (by simp) (by simp) (by simp) ?_;simp at hh⊢;exact hh
  ·have e1:mA rows b (i,49)=b:=if_neg h1;have hh:=half b;rw[e1];simp(disch:=omega) [h1];refine .aO ?_;simp;refine .drop 3 rfl (by simp) (by simp) (by simp) ?_;simp at hh⊢;exact hh
theorem ahL(rows:List Bs){k:Nat}(hk:Kd 1 k rows)(hl:rows.length<2^40)(hs:∀s∈rows,s.length<2^40)(L:Nat)(s:Bs)(h0:rows[0]? =some s)(hL:s.length=L):
 aS Tryz.prog Γ vc [.list false k (rows.map .str)] (.aH [ec (cZ rows L).1,.int .i64 (cZ rows L).2]):=by
 have q1:0<rows.length:=(db.1 h0).1;have q3:rows[0]=s:=(db.1 h0).2;have q2:=bR (hk.of q1)
 have hLb:L<2^40:=by rw[<-hL,<-q3];exact hs _ (bw q1)
 have hh:=afY (Γ:=Γ) rows hk hl hs L hLb L 0 (by omega) ((0,0),0);refine .run 60 Zo (by simp) ?_;simp(disch:=omega) [q1,q2,q3,hL];refine .inLoop ?_;simp[cZ,q2]at hh⊢;exact hh
abbrev iU(l:List Bs):Ob:=.row 1 au (l.map .str) none true false
theorem HF{h:List Ob}{i:Nat}{o:Ob}(hi:h[i]? =some o):h.set i o=h:=by
 apply iC;intro j
 by_cases hj:i=j
 ·subst hj;rw[eI (aV hi),hi]
 ·rw[dM hj]
theorem Ot{α:Type}(p:α->Bool):∀(l:List α)(i:Nat),(eX p l i=-1/\l.filter (fun x=>!p x)=l)\/∃k,k<l.length/\eX p l i=((i+k:Nat):Int)/\(l.take (k+1)).filter (fun x=>!p x)=l.take k
 |[],i=>.inl ⟨rfl,rfl⟩
 |x::xs,i=>by
  rw[eX]
  cases h:p x with
  |true=>right;exact⟨0,by simp,by simp,by simp[h]⟩
  |false=>
   rcases Ot p xs (i+1)with⟨h1,h2⟩|⟨k,h1,h2,h3⟩
   ·left;exact⟨by simpa using h1,by rw[rD];simp[h,h2]⟩
   ·right;exact⟨k+1,by simp;omega,by rw[if_neg (by simp),h2];congr 1;omega,by simp[h,h3]⟩
theorem ZX{φ:List Ob->Prop}{f:FuncId}{caps:List AV}{p:Bs->Bool}{l:List Bs}(ha:jA Tryz.prog Γ φ f caps AV.str p l)(hs:l.length<2^60){h:List Ob}{r:Nat}(hr:h[r]? =some (iU l))(hφ:φ h):
 ∀up,AM.Reach Tryz.prog Γ (.cl s6 [.sl r 0 l.length,.fn (.func f) [] caps] up h) (.back up (.int .i64 (eX p l 0)) h):=by
 intro up
 have key:∀n i:Nat,i+n=l.length->AM.Reach Tryz.prog Γ (UO (.sl r 0 l.length) (.fn (.func f) [] caps) (.int .i64 l.length) (.int .i64 i) h ⟨[],.norm,h.length,up⟩) (.back up (.int .i64 (eX p (l.drop i) i)) h):=by
  intro n
  induction n with
  |zero=>
   intro i hi
   have h1:¬i<l.length:=by omega
   refine .a8 60 ?_;rw[bA (by omega)];simp[h1,eX]
  |succ n ih=>
   intro i hi
   have h1:i<l.length:=by omega
   have h2:=ha.2 l[i] (bw h1);rw[bJ h1,eX];have hh:=ih (i+1) (by omega);refine .a8 60 ?_;simp[h1,ha.1,hr];refine .aW 60 (fun up=>h2 up h hφ) ?_
   cases hp:p l[i]with
   |true=>simp(disch:=omega) [hp]
   |false=>
    simp(disch:=omega) [hp];refine .aO ?_;simp at hh⊢;exact hh
 refine .bt 60 LG ?_;simp;refine .inLoop ?_;have hh:=key l.length 0 (by omega);simp at hh⊢;exact hh
section
variable{φ:List Ob->Prop}{f:FuncId}{caps:List AV}{p:Bs->Bool}{l:List Bs}
abbrev pG:Ob:=.row 1 au [] none true false
def bF(p:Bs->Bool)(l:List Bs):List Bs:=l.filter fun x=>!p x
set_option maxRecDepth 8000 in
theorem ah4(ha:jA Tryz.prog Γ φ f caps AV.str p l)(hs:l.length<2^40){h:List Ob}{r:Nat}(hr:r<h.length)(hφ:∀l',φ (h.set r (iU l')++[pG]))(up:List Fr):∀n j:Nat,j+n=l.length->∀A B X:List Bs,B≠[]->A=bF p (l.take j)->A.length+B.length=j->X=A++B++l.drop j->
 AM.Reach Tryz.prog Γ (yzZ (.sl r 0 l.length) (.fn (.func f) [] caps) (.int .i64 A.length) (.int .i64 j) (h.set r (iU X)++[pG]) ⟨[],.norm,h.length,up⟩)
  (.back up (.sl r 0 (bF p l).length) (h.set r (iU (bF p l++List.replicate (l.length-(bF p l).length) []))++[pG])):=by
 have hlen:∀o,(h.set r o).length=h.length:=by simp
 have g1:∀(o:Ob)(os:List Ob),(h.set r o++os)[r]? =some o:=fun o os=>by rw[cz (by simp;omega)];simp[hr]
 have g2:∀(o o':Ob)(os:List Ob),(h.set r o++os).set r o'=h.set r o'++os:=fun o o' os=>by rw[lz _ _ (by simpa using hr)];simp
 intro n
 induction n with
 |zero=>
  intro j hj A B X hB hA hAB hX
  have q1:¬j<l.length:=by omega
  have q2:l.take j=l:=cR (by omega);rw[q2]at hA;rw[bA (by omega),ee]at hX
  have x1:X.length=l.length:=by rw[hX,bu];omega
  have x2:List.take A.length (List.map AV.str X)=List.map AV.str A:=by rw[hX,j5,sW (by simp)]
  have x3:List.drop l.length (List.map AV.str X)=[]:=bA (by simp;omega);rw[<-hA];refine .a8 60 ?_;simp(disch:=omega) [q1,g1,g2,x1,x2,x3,iU]
 |succ n ih=>
  intro j hj A B X hB hA hAB hX
  have q1:j<l.length:=by omega
  have x1:X.length=l.length:=by rw[hX,bu,bu,ER];omega
  have x4:j<X.length:=by omega
  have x2:X[j]=l[j]:=by
   subst hX;rw[EW (by simp;omega)];simp[hAB]
  have h2:=ha.2 l[j] (bw q1)
  have x5:bF p (l.take (j+1))=A++(if p l[j]=true then[]else[l[j]]):=by
   rw[kK q1,bF,List.filter_append,hA]
   cases hp:p l[j]<;>simp[bF,hp]
  refine .a8 60 ?_;simp(disch:=omega) [q1,g1,g2,x1,x2,x4,ha.1];refine .aW 60 (fun up=>h2 up _ (hφ X)) ?_
  cases hp:p l[j]with
  |true=>
   have hh:=ih (j+1) (by omega) A (B++[l[j]]) X (by simp) (by rw[x5,if_pos hp,ee]) (by simp;omega) (by rw[hX,bJ q1];simp);simp(disch:=omega) [hp];refine .aO ?_;simp at hh⊢;exact hh
  |false=>
   obtain⟨b,B',rfl⟩:∃b B',B=b::B':=by
    cases B with
    |nil=>exact absurd rfl hB
    |cons b B'=>exact⟨b,B',rfl⟩
   simp only[bE]at hAB
   have hh:=ih (j+1) (by omega) (A++[l[j]]) (B'++[l[j]]) (X.set A.length l[j]) (by simp) (by rw[x5,hp];rfl) (by simp;omega) (by
    rw[hX,bJ q1,cI,xu _ _ (aQ _)];simp)
   have x6:A.length<X.length:=by omega
   simp(disch:=omega) [hp,g1,g2,x6,x1];refine .aO ?_;simp[iU]at hh⊢;exact hh
theorem L_(ha:jA Tryz.prog Γ φ f caps AV.str p l)(hs:l.length<2^40){h:List Ob}{r:Nat}(hr:h[r]? =some (iU l))(hφ:∀l',φ (h.set r (iU l')++[pG]))(hw:bS h):∃es,
 ∀up,AM.Reach Tryz.prog Γ (.cl rE [.sl r 0 l.length,.fn (.func f) [] caps] up h) (.back up (.sl r 0 (bF p l).length) (h.set r (iU (bF p l++es)))):=by
 have hrl:=aV hr
 have hrr:(h++[pG])[r]? =some (iU l):=by rw[cz hrl];exact hr
 have hφ0:φ (h++[pG]):=by have:=hφ l;rwa[HF hr]at this
 have hI:=ZX (Γ:=Γ) ha (by omega) hrr hφ0
 have fin:∀es up,AM.Reach Tryz.prog Γ (.cl rE [.sl r 0 l.length,.fn (.func f) [] caps] up h) (.back up (.sl r 0 (bF p l).length) (h.set r (iU (bF p l++es))++[pG]))->
  AM.Reach Tryz.prog Γ (.cl rE [.sl r 0 l.length,.fn (.func f) [] caps] up h) (.back up (.sl r 0 (bF p l).length) (h.set r (iU (bF p l++es)))):=by
  intro es up h1;have e1:(h.set r (iU (bF p l++es))++[pG]).take h.length=h.set r (iU (bF p l++es)):=sW (by simp);have h2:=AM.Reach.leave h1 (by simpa using hrl) (by rw[e1];exact(hw.set (fun m hm=>by simp) r) _ (by simp));rwa[e1]at h2
 rcases Ot p l 0 with⟨h1,h2⟩|⟨k,h1,h2,h3⟩
 ·refine⟨[],fun up=>fin _ _ ?_⟩;refine .bt 60 LF ?_;simp;refine .aW 60 hI ?_;have e1:bF p l=l:=h2;rw[h1,e1];simp[HF hr]
  done
 ·refine⟨List.replicate (l.length-(bF p l).length) [],fun up=>fin _ _ ?_⟩
  have hd:=ah4 (Γ:=Γ) ha hs hrl hφ up (l.length-(k+1)) (k+1) (by omega) (l.take k) [l[k]] l (by simp) h3.symm (by simp;omega) (by
   rw[cI,sP,<-bJ h1,mT])
  have e2:(l.take k).length=k:=by simp;omega
  rw[e2,HF hr]at hd;refine .bt 60 LF ?_;simp;refine .aW 60 hI ?_;rw[h2]
  have q3:¬(k:Int)=-1:=by omega
  simp(disch:=omega) [q3];refine .inLoop ?_;simp at hd⊢;exact hd
end
abbrev Dp(x:Nat×List Fm):AV:=.list false x.1 (x.2.map bd)
def cO:List (Nat×List Fm)->List Fm
 |[]=>[]
 |x::xs=>x.2++cO xs
theorem My(a b:List (Nat×List Fm)):cO (a++b)=cO a++cO b:=by
 induction a with
 |nil=>rfl
 |cons x a ih=>simp[cO,ih]
theorem NV(xs:List (Nat×List Fm))(i:Nat)(h:i<xs.length):cO (xs.take (i+1))=cO (xs.take i)++xs[i].2:=by
 rw[kK h,My];simp[cO]
theorem QR(xs:List (Nat×List Fm))(i:Nat):(cO (xs.take i)).length<=(cO xs).length:=by
 conv=>rhs;rw[<-mT i xs,My]
 simp
set_option maxRecDepth 8000 in
theorem Wf(xs:List (Nat×List Fm))(hk:∀x∈xs,Kd 3 x.1 x.2)(hn:xs.length<2^40)(hs:(cO xs).length<2^40)(hp:0<(cO xs).length):
 aS Tryz.prog Γ uI [.list false 1 (xs.map Dp)] (.own 3 aU ((cO xs).map bd)):=by
 refine .run 60 Wh (by simp) ?_
 have key2:∀n i:Nat,i+n=xs.length->∀m:Nat,(cO (xs.take i)).length+m=(cO xs).length->
  aA Tryz.prog Γ (yAz (.sl 2 0 (cO (xs.take i)).length) (.list false 1 (xs.map Dp)) (.int .i64 xs.length) (.int .i64 i) [.row 3 aU [] none true false,.row 3 aU [] none true false,.row 3 aU ((cO (xs.take i)).map bd++List.replicate m (AV.agg [AV.int .i64 0,AV.int .i64 0,AV.int .i64 0])) none true false])
   (.ret (.own 3 aU ((cO xs).map bd))):=by
  intro n
  induction n with
  |zero=>
   intro i hi m hm
   have q1:¬i<xs.length:=by omega
   have q2:xs.take i=xs:=cR (by omega);rw[q2]at hm⊢
   have hm0:m=0:=by omega
   subst hm0;refine .go 60 ?_;simp[q1];exact .back (by simp)
  |succ n ih=>
   intro i hi m hm
   have q1:i<xs.length:=by omega
   have q2:=NV xs i q1;have q3:=QR xs (i+1);rw[q2,bu]at q3;have q4:=hk xs[i] (bw q1);have q5:xs[i].1=3\/xs[i].2=[]:=q4;have hh:=ih (i+1) (by omega) (m-xs[i].2.length) (by rw[q2,bu];omega);rw[q2]at hh
   have hd:(List.replicate m (AV.agg [AV.int .i64 0,AV.int .i64 0,AV.int .i64 0])).drop xs[i].2.length=List.replicate (m-xs[i].2.length) (AV.agg [AV.int .i64 0,AV.int .i64 0,AV.int .i64 0]):=by simp
   refine .go 60 ?_
   by_cases q6:(cO (xs.take i)).length=(cO xs).length
   ·have q7:xs[i].2=[]:=lr.1 (by omega)
    have hm0:m=0:=by omega
    subst hm0;simp[q7]at hh;simp(disch:=(first|omega|(simp;omega))) [q1,q5,q7];refine .aO ?_;simp;exact hh
   ·simp(disch:=(first|omega|(simp;omega))) [q1,q5]
    by_cases q7:m=0
    ·omega
    ·have c1:¬(cO (List.take i xs)).length=(cO (List.take i xs)).length+m:=by omega
     have c2:(cO (List.take i xs)).length+xs[i].snd.length<=(cO (List.take i xs)).length+m:=by omega
     simp(disch:=(first|omega|(simp;omega))) [q1,q5,c1,c2,q7];refine .aO ?_;have pO:((cO (xs.take i)).map bd).drop ((cO (xs.take i)).length+xs[i].2.length)=[]:=bA (by simp);simp[wZ,hd,pO]at hh⊢;exact hh
 have key1:∀n i:Nat,i+n=xs.length->
  aA Tryz.prog Γ (yAB (.list false 1 (xs.map Dp)) (.int .i64 (cO (xs.take i)).length) (.list false 1 (xs.map Dp)) (.int .i64 xs.length) (.int .i64 i) [.row 3 aU [] none true false])
   (.ret (.own 3 aU ((cO xs).map bd))):=by
  intro n
  induction n with
  |zero=>
   intro i hi
   have q1:¬i<xs.length:=by omega
   have q2:xs.take i=xs:=cR (by omega);have q3:0<(cO xs).length:=hp;have hh:=key2 xs.length 0 (by omega) (cO xs).length (by simp[cO]);refine .go 60 ?_;rw[q2];simp[q1];refine .enter 60 Wj ?_
   have q4:¬(cO xs).length=0:=by omega
   have q5:cO xs≠[]:=fun e=>by rw[e]at hp;simp at hp
   obtain⟨m,hm⟩:∃m,(cO xs).length=m+1:=⟨(cO xs).length-1,by omega⟩
   have hrep:List.replicate (cO xs).length (AV.agg [AV.int .i64 0,AV.int .i64 0,AV.int .i64 0])=(AV.agg [AV.int .i64 0,AV.int .i64 0,AV.int .i64 0])::List.replicate m (AV.agg [AV.int .i64 0,AV.int .i64 0,AV.int .i64 0]):=by rw[hm];rfl
   simp(disch:=(first|omega|(simp;omega))) [q3,q4,q5,hrep];refine .inLoop ?_;simp[cO,hrep]at hh⊢;exact hh
  |succ n ih=>
   intro i hi
   have q1:i<xs.length:=by omega
   have q2:=NV xs i q1;have q3:=QR xs (i+1);rw[q2,bu]at q3;have hh:=ih (i+1) (by omega);rw[q2]at hh;refine .go 60 ?_
   have q4:¬((cO (xs.take i)).length:Int)+xs[i].2.length<0:=by omega
   simp(disch:=(first|omega|(simp;omega))) [q1,q4];refine .aO ?_;simp at hh⊢;exact hh
 simp;refine .inLoop ?_;have hh:=key1 xs.length 0 (by omega);simp[cO]at hh⊢;exact hh
def nv(s:Bs):Bool:=s.all fun c=>decide (c=45)
theorem acD(s:Bs):(Lib.trimS s [45]=[])↔nv s=true:=by
 have e:(fun c=>([45]:Bs).contains c)=fun c=>decide (c=45):=by funext c;simp[eq_comm]
 unfold Lib.trimS Lib.trimLeftS Lib.trimRightS nv;rw[e];constructor
 ·intro h
  have h1:=dropWhile_nil _ s.reverse fun x hx=>tg.1 h x (by simpa using hx)
  have h2:=tg.1 h1;rw[dU];intro x hx;exact h2 x (by simpa using hx)
 ·intro h
  have h1:s.reverse.dropWhile (fun c=>decide (c=45))=[]:=tg.2 fun x hx=>dU.1 h x (by simpa using hx)
  rw[h1];rfl
theorem ae5(s:Bs)(hs:s.length<2^40):aS Tryz.prog Γ uX [.str s,.str [45]] (.str (Lib.trimS s [45])):=by
 refine aS.Jc (by simp) (fun _=>rfl) rfl fun N g h w us _ hV=>?_
 obtain⟨us,rfl,h1⟩:=Dg hV;obtain⟨us,rfl,h2⟩:=Dg h1;obtain rfl:=HX h2;refine(Any.strings_Trim_laid Tryz.P_ (by kernel_rfl) ⟨s.toArray⟩ ⟨([45]:Bs).toArray⟩ w (by simp[ByteArray.size];omega) (by decide) (ascii_of_all (by decide))).mono ?_
 rintro e' w' ⟨rfl,hB⟩
 exact⟨⟨_,rfl,fun _ _=>by simp[V]⟩,hB⟩
theorem ahl(l:List Bs)(hs:∀s∈l,s.length<2^40):jA Tryz.prog Γ (fun _=>True) Bk [] AV.str nv l:=by
 refine⟨by simp,fun s hm up h _=>?_⟩;have hT:=ae5 (Γ:=Γ) s (hs s hm)
 have h2:decide (Lib.trimS s [45]=[])=nv s:=by rw[fT,V9];exact acD s
 refine .bt 60 XP ?_;simp;refine .kW 60 (by simp) hT ?_;simp[h2]
theorem ain(x:Li)(i j:Nat)(l:List Bs)(hl:∀s∈l,s.length<2^40):jA Tryz.prog Γ (fun h=>h[j]? =some (.cells [.fn (.func qb) [] [.ptr i 0]])/\h[i]? =some (.cells (ec x).cells)/\bS h) xO [.ptr j 0] AV.str (fun s=>!cP x s) l:=by
 refine⟨by simp,fun s hs up h hφ=>?_⟩;have ha:=(IM (Γ:=Γ) x i l hl).2 s hs;refine .bt 60 X0 ?_;simp[hφ.1];refine .aW 60 (fun up=>ha up h hφ.2) ?_;simp
def dA(rows:List Bs)(s:Bs):List Li:=(bp s 0).filter fun x=>decide (d_ x rows=rows.length)
def Lh(rows:List Bs):List Fm:=⟨4,0,rows.length⟩::rows.flatMap fun s=>eO (bp s 0) []
def fG:Nat->List Bs->List Fm
 |0,_=>[]
 |_+1,[]=>[⟨0,0,0⟩]
 |f+1,s::r=>
  if bH nv (s::r)=true then[⟨1,0,0⟩]
  else if dA (s::r) s≠[]then eO (dA (s::r) s) (fG f (dD (dA (s::r) s) (s::r)))
  else if(cZ (s::r) s.length).2<2 then Lh (s::r)
  else⟨4,0,2⟩::eO [(cZ (s::r) s.length).1] (fG f (dD [(cZ (s::r) s.length).1] (bF (fun t=>!cP (cZ (s::r) s.length).1 t) (s::r))))++fG f (bF (cP (cZ (s::r) s.length).1) (s::r))
end Go.Proofs.YtchjijfjidlpjaaGreatDoor
namespace Go.Proofs.YtchjijfjidlpjaaGreatDoor
open Go.AM Go.Proofs
theorem kP{x:Li}:∀{s:Bs}{i:Nat},x∈bp s i↔i<=x.1/\s[x.1-i]? =some x.2/\x.2≠45
 |[],i=>by simp[bp]
 |c::s,i=>by
  have ih:=kP (x:=x) (s:=s) (i:=i+1)
  have e:i+1<=x.1->(c::s)[x.1-i]? =s[x.1-(i+1)]? :=fun h=>by rw[show x.1-i=(x.1-(i+1))+1 by omega];rfl
  rw[bp]
  by_cases h:c=45
  ·rw[if_pos h,ih];constructor
   ·rintro⟨h1,h2,h3⟩;exact⟨by omega,by rw[e h1];exact h2,h3⟩
   ·rintro⟨h1,h2,h3⟩
    have h4:i+1<=x.1:=by
     refine xk fun hn=>h3 ?_
     rw[show x.1-i=0 by omega]at h2;simp only[ry,ak]at h2;rw[<-h2,h]
    exact⟨h4,by rw[<-e h4];exact h2,h3⟩
  ·rw[if_neg h,bz,ih];constructor
   ·rintro(h1|⟨h1,h2,h3⟩)
    ·subst h1;exact⟨aQ _,by simp,h⟩
    ·exact⟨by omega,by rw[e h1];exact h2,h3⟩
   ·rintro⟨h1,h2,h3⟩
    by_cases h4:x.1=i
    ·left;rw[show x.1-i=0 by omega]at h2;simp only[ry,ak]at h2;exact Prod.ext h4 h2.symm
    ·right;exact⟨by omega,by rw[<-e (by omega)];exact h2,h3⟩
theorem Gs:∀(s:Bs)(i:Nat),(bp s i).Pairwise (fun a b=>a.1≠b.1)
 |[],i=>.nil
 |c::s,i=>by
  rw[bp]
  split
  ·exact Gs s (i+1)
  ·refine List.pairwise_cons.2 ⟨fun y hy=>?_,Gs s (i+1)⟩;have:=(kP.1 hy).1
   simp only;omega
theorem NO{x:Li}:∀{s:Bs}{i:Nat},x∈bp s i->(bp (s.set (x.1-i) 45) i).length+1=(bp s i).length
 |[],i,h=>by simp[bp]at h
 |c::s,i,h=>by
  have hm:=kP.1 h
  by_cases h4:x.1=i
  ·have h2:=hm.2.1;rw[show x.1-i=0 by omega]at h2⊢;simp only[ry,ak]at h2
   have h5:¬c=45:=fun hc=>hm.2.2 (by rw[<-h2,hc])
   rw[wX,bp,bp,if_pos rfl,if_neg h5,bE]
  ·have h5:x∈bp s (i+1):=kP.2 ⟨by omega,by have:=hm.2.1;rw[show x.1-i=(x.1-(i+1))+1 by omega]at this;exact this,hm.2.2⟩;have ih:=NO h5;rw[show x.1-i=(x.1-(i+1))+1 by omega,rp,bp,bp]
   split
   ·exact ih
   ·simp only[bE];omega
theorem Cz:∀(s:Bs)(i:Nat),(bp s i).length<=s.length
 |[],i=>aQ _
 |c::s,i=>by rw[bp];have:=Cz s (i+1);split<;>simp only[bE]<;>omega
theorem OD:∀(l:List Li)(s:Bs),l.Pairwise (fun a b=>a.1≠b.1)->(∀x∈l,x∈bp s 0)->(bp (gk l s) 0).length+l.length=(bp s 0).length
 |[],s,_,_=>rfl
 |x::l,s,hp,hm=>by
  rw[List.pairwise_cons]at hp;have h1:=NO (hm x (by simp))
  have h2:=OD l (s.set x.1 45) hp.2 fun y hy=>by
   have h3:=kP.1 (hm y (by simp[hy]));exact kP.2 ⟨by omega,by rw[dM (by have:=hp.1 y hy;omega)];exact h3.2.1,h3.2.2⟩
  simp only[bE];rw[EU]at h1;have:gk (x::l) s=gk l (s.set x.1 45):=rfl
  rw[this];omega
def cp:List Bs->Nat
 |[]=>0
 |s::r=>(bp s 0).length+cp r
theorem GA(l:List Li)(hp:l.Pairwise (fun a b=>a.1≠b.1)):∀rows:List Bs,(∀s∈rows,∀x∈l,x∈bp s 0)->cp (dD l rows)+rows.length*l.length=cp rows
 |[],_=>by simp[dD,cp]
 |s::r,h=>by
  have h1:=GA l hp r fun t ht=>h t (by simp[ht])
  have h2:=OD l s hp (h s (by simp));simp only[dD,bU,cp,bE]at h1⊢
  rw[E7];omega
theorem M4(p:Bs->Bool):∀rows:List Bs,cp (bF p rows)+cp (bF (fun t=>!p t) rows)=cp rows
 |[]=>rfl
 |s::r=>by
  have ih:=M4 p r
  cases h:p s<;>simp[bF,h,cp]at ih⊢<;>omega
theorem BC(x:Li):∀rows:List Bs,(bF (fun t=>!cP x t) rows).length=d_ x rows
 |[]=>rfl
 |s::r=>by
  have ih:=BC x r
  cases h:cP x s<;>simp[bF,h,d_]at ih⊢<;>omega
theorem M5{x:Li}:∀{rows:List Bs},d_ x rows=rows.length↔∀s∈rows,x∈bp s 0
 |[]=>by simp[d_]
 |s::r=>by
  have ih:=M5 (x:=x) (rows:=r);have hle:=Nw x r;rw[d_,bE]
  by_cases h:cP x s=true
  ·rw[if_pos h]
   have h':x∈bp s 0:=by simpa[cP]using h
   simp only[bz,LA];rw[<-ih];exact⟨fun h1=>⟨h',by omega⟩,fun h1=>by omega⟩
  ·rw[if_neg h]
   have h':¬x∈bp s 0:=by simpa[cP]using h
   exact⟨fun h1=>by omega,fun h1=>absurd (h1 s (by simp)) h'⟩
theorem tM{x:Li}{rows:List Bs}{s:Bs}(h:s∈bF (fun t=>!cP x t) rows):s∈rows/\x∈bp s 0:=by
 simp only[bF,dN,Bool.not_not]at h;exact⟨h.1,by simpa[cP]using h.2⟩
theorem Pp(rows:List Bs){b:Li×Nat}(hb:0<b.2->b.2=d_ b.1 rows)(x:Li):0<(mA rows b x).2->(mA rows b x).2=d_ (mA rows b x).1 rows:=by
 unfold mA
 split
 ·intro _;rfl
 ·exact hb
theorem O1(rows:List Bs):∀(n i:Nat)(b:Li×Nat),(0<b.2->b.2=d_ b.1 rows)->0<(oo rows n i b).2->(oo rows n i b).2=d_ (oo rows n i b).1 rows
 |0,_,b,hb=>hb
 |n+1,i,b,hb=>O1 rows n (i+1) _ (Pp rows (Pp rows hb _) _)
theorem Hm(rows:List Bs)(n:Nat):0<(cZ rows n).2->(cZ rows n).2=d_ (cZ rows n).1 rows:=O1 rows n 0 _ (by simp)
theorem Mn(rows:List Bs)(s:Bs):(dA rows s).Pairwise (fun a b=>a.1≠b.1):=(Gs s 0).filter _
theorem BP{rows:List Bs}{s:Bs}{x:Li}(h:x∈dA rows s):∀t∈rows,x∈bp t 0:=by
 simp only[dA,dN,aZ]at h;exact M5.1 h.2
theorem G0{s:Bs}:nv s=true↔bp s 0=[]:=by
 constructor
 ·intro h
  refine LC.2 fun x hx=>?_
  have:=kP.1 hx;rw[nv,dU]at h;have h2:=h x.2 (i_ this.2.1);exact this.2.2 (by simpa using h2)
 ·intro h;rw[nv,dU];intro c hc;obtain⟨i,hi⟩:=List.getElem?_of_mem hc;refine sY (xk fun hn=>?_);have:(i,c)∈bp s 0:=kP.2 ⟨by omega,by simpa using hi,hn⟩;rw[h]at this
  cases this
theorem abz(r:List Fm):(kc r).length<=r.length:=by unfold kc;split<;>simp
theorem ack(n:Nat):(qT n).length<=1:=by unfold qT;split<;>simp
theorem zA(l:List Li)(r:List Fm):(eO l r).length<=1+l.length+r.length:=by
 have h1:=abz r;have h2:=ack (l.length+min (kc r).length 1)
 simp only[eO,bu,fC];omega
theorem Qu:∀rows:List Bs,(rows.flatMap fun s=>eO (bp s 0) []).length<=rows.length+cp rows
 |[]=>by simp
 |s::r=>by
  have ih:=Qu r;have h:=zA (bp s 0) [];simp only[nW,bu,bE,cp,cS]at h ih⊢;omega
theorem No:∀rows:List Bs,bH nv rows=false->rows.length<=cp rows
 |[],_=>by simp
 |s::r,h=>by
  rw[lE,kJ]at h;have ih:=No r h.2
  have h1:0<(bp s 0).length:=by
   refine xk fun hn=>?_
   have:=G0.2 (lr.1 (by omega:(bp s 0).length=0))
   rw[h.1]at this;cases this
  simp only[bE,cp];omega
theorem FY{s:Bs}{r:List Bs}(h:dA (s::r) s≠[]):cp (dD (dA (s::r) s) (s::r))+(dA (s::r) s).length<=cp (s::r):=by
 have h1:=GA (dA (s::r) s) (Mn _ _) (s::r) fun t ht x hx=>BP hx t ht
 have h2:(dA (s::r) s).length<=(s::r).length*(dA (s::r) s).length:=Nat.le_mul_of_pos_left _ (by simp);omega
theorem Gy{s:Bs}{r:List Bs}(h:¬(cZ (s::r) s.length).2<2):
 cp (dD [(cZ (s::r) s.length).1] (bF (fun t=>!cP (cZ (s::r) s.length).1 t) (s::r)))+cp (bF (cP (cZ (s::r) s.length).1) (s::r))+2<=cp (s::r):=by
 have h0:=Hm (s::r) s.length (by omega);generalize(cZ (s::r) s.length).1=x at*
 have h1:=GA [x] (by simp) (bF (fun t=>!cP x t) (s::r)) fun t ht y hy=>by simp only[cE]at hy;subst hy;exact(tM ht).2
 have h2:=M4 (cP x) (s::r);have h3:=BC x (s::r);simp only[bE,cS,Nat.mul_one,iZ]at h1;omega
theorem tx:∀(f:Nat)(rows:List Bs),(fG f rows).length<=3*cp rows+1
 |0,_=>by simp[fG]
 |_+1,[]=>by simp[fG]
 |f+1,s::r=>by
  rw[fG]
  split
  ·simp
  ·rename_i hfr
   split
   ·rename_i hc;have h1:=tx f (dD (dA (s::r) s) (s::r));have h2:=FY hc;have h3:=zA (dA (s::r) s) (fG f (dD (dA (s::r) s) (s::r)));have h4:0<(dA (s::r) s).length:=sQ.2 hc;omega
   ·split
    ·have h1:=Qu (s::r);have h2:=No (s::r) (by simpa using hfr)
     simp only[Lh,bE]at h1 h2⊢;omega
    ·rename_i hm;have h0:=Gy hm;have h1:=tx f (dD [(cZ (s::r) s.length).1] (bF (fun t=>!cP (cZ (s::r) s.length).1 t) (s::r)));have h2:=tx f (bF (cP (cZ (s::r) s.length).1) (s::r));have h3:=zA [(cZ (s::r) s.length).1] (fG f (dD [(cZ (s::r) s.length).1] (bF (fun t=>!cP (cZ (s::r) s.length).1 t) (s::r))));simp only[bE,bu,cS]at h3⊢;omega
end Go.Proofs.YtchjijfjidlpjaaGreatDoor
namespace Go.Proofs.YtchjijfjidlpjaaGreatDoor
open Go.AM Go.Proofs
variable{Γ:Nat->Option AV}
abbrev wA(n:Nat)(b:Bool)(st:LoopState)(c:List Li):List Ob:=[.row 2 mc [] none true false,.cells [.sl (n+5) 0 c.length],.row 2 mc [] none true false,.bD b,
 .loop st .none A5 [U,U,.ptr (n+1) 0,U,.sl (n+2) 0 0,U,U,U,U,U,U,U,U] [7] (.ae Uj) T_,.row 2 mc (c.map ec) none true false]
set_option maxRecDepth 8000 in
theorem ahz(i:Nat)(s:Bs)(hs:s.length<2^40){h:List Ob}(hi:h[i]? =some (.cells [.str s]))(hw:bS h)(hwv:gV h)(up:List Fr)(hv:∀m,up.all (iv (h.length+5) m)=true):∀n j:Nat,j+n=s.length->∀c:List Li,c.length<=j->
 AM.Reach Tryz.prog Γ (J2 (.cY (h.length+4)) (.ptr i 0) (.int .i64 s.length) (.int .i64 j) (h++wA h.length true .ready c) ⟨[],.norm,h.length+5,up⟩)
  (.back up (.aH []) (h++wA h.length true .ready (c++bp (s.drop j) j))):=by
 have hil:=aV hi
 have hget:=fun os=>fF hi os
 have hwr:∀c:UInt8,IntKind.i64.wrap (c.toNat:Int)=c.toNat:=fun c=>wrap64 (by omega) (by have:=c.toNat_lt;omega)
 have hb6:=hw (h.length+6) (by omega);intro n
 induction n with
 |zero=>
  intro j hj c hc
  have q1:¬j<s.length:=by omega
  rw[bA (by omega),bp];refine .a8 60 ?_;simp[q1]
 |succ n ih=>
  intro j hj c hc
  have q1:j<s.length:=by omega
  rw[bJ q1,bp]
  by_cases a:s[j]=45
  ·have hh:=ih (j+1) (by omega) c (by omega);rw[if_pos a];refine .a8 60 ?_;simp(disch:=omega) [q1,a,hget];refine .aO ?_;simp at hh⊢;exact hh
  ·rw[if_neg a];have hh:=ih (j+1) (by omega) (c++[(j,s[j])]) (by simp;omega);refine .a8 60 ?_;simp(disch:=omega) [q1,a,jO,hwr,hget];refine .trans (.pop _) (.a8 60 ?_);simp(disch:=omega);refine .aO ?_;simp;refine .oj (h.length+6) (by simp;rfl) (by simp) (by simp;omega) (by simp[hb6]) ?_
   have hv5:=fun m=>hwv (h.length+5) m (by omega)
   refine .Ib (i:=h.length+5) (k:=2) (E:=mc) (es:=(c++[(j,s[j])]).map ec) (fl:=true) (sh:=false) (by simp) (by simp) (hv _) (by simp[hv5]) ?_;simp[wA]at hh⊢;exact hh
set_option maxRecDepth 8000 in
theorem abx(i:Nat)(s:Bs)(hs:s.length<2^40){h:List Ob}(hi:h[i]? =some (.cells [.str s]))(hw:bS h)(hwv:gV h)(up:List Fr)(hv:∀m,up.all (iv (h.length+5) m)=true):
 AM.Reach Tryz.prog Γ (.cl A7 [.fn (.func tc) [] [.ptr i 0]] up h) (.back up (.sl (h.length+5) 0 (bp s 0).length) (h++wA h.length false .exhausted (bp s 0))):=by
 have hget:=fun os=>fF hi os
 refine .bt 60 Ww ?_;simp;refine .bt 60 Wc ?_;simp;refine .bt 60 Fo ?_;simp[hget];refine .inLoop ?_;simp;refine .trans (.mj (i:=h.length+1) (j:=0) (k:=2) mc (by simp;rfl) rfl (by omega)) ?_
 have hh:=fun up hv=>ahz (Γ:=Γ) i s hs hi hw hwv up hv s.length 0 (by omega) [] (by simp)
 simp[wA]at hh⊢
 have hv':=fun m=>hv m
 simp at hv';refine .trans (hh _ (by simp;exact hv')) ?_;have e41:h.length+3+1=h.length+4:=rfl;refine .trans (.pop _) (.a8 60 ?_);simp[e41];refine .trans (.pop _) (.a8 60 ?_);simp
abbrev cx5:Cx:=⟨[.mark 5],.norm,0,[]⟩
set_option maxRecDepth 8000 in
theorem ajp(rows:List Bs)(hl:rows.length<=128)(hlen:∀t∈rows,t.length<=40){h8:List Ob}(h8l:h8.length=8)(h85:h8[5]? =some (.bD true))(hw:∀m,8<=m->cr m h8=true)(hwv:∀i m,8<=i->cQ i m h8=true):∀n i:Nat,i+n=rows.length->∀out:List Fm,out.length<=42*i+1->
 aA Tryz.prog Γ (yvN (.sl 8 0 out.length) (.list false 1 (rows.map .str)) (.int .i64 rows.length) (.int .i64 i) (h8++[.row 3 aU (out.map bd) none true false]) cx5)
  (.ret (.own 3 aU ((out++(rows.drop i).flatMap fun s=>eO (bp s 0) []).map bd))):=by
 have g0:∀os:List Ob,(h8++os)[8]? =os[0]? :=fun os=>by rw[<-h8l,ad8]
 have g1:∀(os:List Ob)(k:Nat),8<=k->(h8++os)[k]? =os[k-8]? :=fun os k hk=>by rw[dk (by omega),h8l]
 have s0:∀(os:List Ob)(o:Ob),(h8++os).set 8 o=h8++os.set 0 o:=fun os o=>by rw[<-h8l,ad5]
 have hw9:=hw 9 (by omega);have h85':h8[5]=.bD true:=(db.1 h85).2
 have g15:∀os:List Ob,(h8++os)[15]? =os[7]? :=fun os=>g1 os 15 (by omega)
 have g5:∀os:List Ob,(h8++os)[5]? =some (.bD true):=fun os=>by rw[cz (by omega)];exact h85
 have s5:∀(os:List Ob)(o:Ob),(h8++os).set 5 o=h8.set 5 o++os:=fun os o=>lz _ _ (by omega)
 have g6:∀(os:List Ob)(o:Ob),(h8.set 5 o++os)[8]? =os[0]? :=fun os o=>by rw[dk (by simp;omega)];simp[h8l]
 have hv8:=fun m=>hwv 8 m (by omega)
 intro n
 induction n with
 |zero=>
  intro i hi out ho
  have q1:¬i<rows.length:=by omega
  rw[bA (by omega),List.flatMap_nil,ee];refine .go 60 ?_;simp[q1,g0,h8l,g5,s5,h85'];refine .back ?_;simp[g6]
  done
 |succ n ih=>
  intro i hi out ho
  have q1:i<rows.length:=by omega
  have q3:=hlen _ (bw q1);have hcl:=Cz rows[i] 0;have hal:=zA (bp rows[i] 0) [];have hall:=IG (Γ:=Γ) (bp rows[i] 0) (.inl rfl:Kd 2 2 _) (by omega) (fun x hx=>by have:=kP.1 hx;have:=(db.1 this.2.1).1;omega) [] (.inr rfl:Kd 3 0 _) (by simp);have hh:=ih (i+1) (by omega) (out++eO (bp rows[i] 0) []) (by simp only[bu,cS]at hal⊢;omega);rw[bJ q1,nW,<-cI]
  have hcoll:=abx (Γ:=Γ) 9 rows[i] (by omega) (h:=h8++[.row 3 aU (out.map bd) none true false,.cells [.str rows[i]]]) (by rw[g1 _ _ (by omega)];rfl)
   (fun m hm=>by simp at hm;simp[hw m (by omega)]) (fun j m hj=>by simp at hj;simp[hwv j m (by omega)])
  refine .go 60 ?_;simp(disch:=omega) [q1];refine .aW 60 (Gb rows[i]) ?_;simp[h8l,wA]at hcoll⊢;refine .reach (hcoll _ (by simp)) ?_;refine .go 60 ?_;simp;simp at hall;refine .call 60 (by simp[g15]) hall ?_
  have hb24:(out.length+(eO (bp rows[i] 0) []).length)*24<=140737488355328:=by simp only[cS]at hal;omega
  simp[h8l,g0,s0,hb24];refine .aO ?_;simp;refine .drop (h':=h8++[.row 3 aU (List.map bd out++List.map bd (eO (bp rows[i] 0) [])) (if eO (bp rows[i] 0) []=[]then none else some 0) true false]) 9 (by rw[show(9:Nat)=h8.length+1 by omega,List.take_length_add_append];rfl) (by simp) (by simp) (by simp[hw9]) ?_;refine .nn (i:=8) (k:=3) (E:=aU) (es:=List.map bd out++List.map bd (eO (bp rows[i] 0) [])) (gr:=if eO (bp rows[i] 0) []=[]then none else some 0) (fl:=true) (sh:=false) (by simp[g0]) (by split<;>simp) (by simp) (by simp) (by simp[hv8]) ?_;rw[s0];have hwi:IntKind.i64.wrap ((i:Int)+1)=i+1:=wrap64 (by omega) (by omega);simp[hwi]at hh⊢;exact hh
abbrev SL(v13:AV):List AV:=[U,.ptr 0 0,U,U,U,U,.ptr 7 0,U,U,U,U,.ptr 9 0,.fn (.func xO) [] [.ptr 9 0],v13]++List.replicate 87 U
abbrev wG(rows:List Bs)(s:Bs)(x:Li)(lo:List AV):List Ob:=[.cells [.list false 1 (rows.map .str)],.row 3 aU [] none true false,.cells [.sl 3 0 0],.row 2 mc [] none true false,.cells [.str s],.bD true,
 .loop .exhausted .none jo lo [31] (.ae EM) EI,.cells (ec x).cells,.cells (ec x).cells,.cells [.fn (.func qb) [] [.ptr 8 0]]]
def DM(x:Li)(q r:List Fm):List Fm:=⟨4,0,2⟩::eO [x] q++r
set_option maxRecDepth 8000 in
theorem ag7(rows:List Bs)(h0:rows≠[])(hl:rows.length<=128)(hlen:∀t∈rows,t.length<2^40)(s:Bs)(x:Li)(hx:x.1<2^40)(lo:List AV)(hlo:∀m,10<=m->aK m lo=true)(q r:List Fm)(hq:q.length<2^30)(hr:r.length<2^30)
 (hfac:aS Tryz.prog Γ jo [.list false 1 ((bF (cP x) rows).map .str)] (.own 3 aU (r.map bd))):
 aA Tryz.prog Γ (.fr ⟨.run,jo,[It.code ((aj.aP [O,O,I,O,O,O] [2,4,4,5,7,7] D9).seq ((aj.ae Ev).seq aj.ret))],SL (.sl 10 0 q.length),[.mark 5],.norm,0⟩ [] (wG rows s x lo++[.row 3 aU (q.map bd) none true false]))
  (.ret (.own 3 aU ((DM x q r).map bd))):=by
 have hclone:=uK (Γ:=Γ) rows (.inl rfl:Kd 1 1 rows) (by omega);have hall:=IG (Γ:=Γ) [x] (.inl rfl:Kd 2 2 _) (by simp) (fun y hy=>by simp only[cE]at hy;subst hy;exact hx) q (.inl rfl:Kd 3 3 _) (by omega);have hal:=zA [x] q
 have hcl:(cO [(3,[⟨4,0,2⟩]),(3,eO [x] q),(3,r)]).length<2^40:=by
  simp only[cO,bu,bE,cS,ee]at hal⊢;omega
 have hcat:=Wf (Γ:=Γ) [(3,[⟨4,0,2⟩]),(3,eO [x] q),(3,r)] (by simp[Kd]) (by simp) hcl (by simp[cO]);refine .go 60 ?_;simp;refine .dr 60 ?_;simp;refine .call (by simp) hclone ?_
 have hwf:∀os,(∀m,10<=m->cr m os=true)->bS (wG rows s x lo++os):=fun os ho m hm=>by
  have hm':10<=m:=by simp at hm;omega
  simp[ho m hm',hlo m hm'];omega
 obtain⟨es,hdel⟩:=L_ (Γ:=Γ) (IM x 8 rows hlen) (by omega) (h:=wG rows s x lo++[.row 3 aU (q.map bd) none true false,iU rows]) (r:=11) rfl (fun l'=>⟨rfl,hwf [.row 3 aU (q.map bd) none true false,iU l',pG] (fun m hm=>by simp)⟩) (hwf _ (fun m hm=>by simp));simp[iU]at hdel;simp;refine .reach (by simp) hdel ?_;simp;refine .call (by simp) hfac ?_;simp;refine .call 60 (by simp) hall ?_;simp;refine .call 60 (by simp) hcat ?_;simp;exact .back (by simp[cO,DM])
theorem aah{P:Program}(n:Nat){f:FuncId}{args:List AV}{up:List Fr}{h:List Ob}{v:AV}{h':List Ob}{o:Out}(h1:∀up,AM.Reach P Γ (.cl f args up h) (.back up v h'))(h2:aA P Γ (AM.l0 P Γ n (.back up v h')) o):aA P Γ (.cl f args up h) o:=.reach (h1 up) (.reach (.wo n _) h2)
theorem ah0:fV (oD As) As.length []=[[0,1,2,3,4,5,6,7,8],[0,1,2,4,3,5,6,7,8],[0,1,2,4,5,3,6,7,8],[0,1,4,2,3,5,6,7,8],[0,1,4,2,5,3,6,7,8],[0,1,4,5,2,3,6,7,8],[0,2,1,3,4,5,6,7,8],[0,2,1,4,3,5,6,7,8],[0,2,1,4,5,3,6,7,8],[0,2,4,1,3,5,6,7,8],[0,2,4,1,5,3,6,7,8],[0,2,4,5,1,3,6,7,8],[0,4,1,2,3,5,6,7,8],[0,4,1,2,5,3,6,7,8],[0,4,1,5,2,3,6,7,8],[0,4,2,1,3,5,6,7,8],[0,4,2,1,5,3,6,7,8],[0,4,2,5,1,3,6,7,8],[0,4,5,1,2,3,6,7,8],[0,4,5,2,1,3,6,7,8],[2,0,1,3,4,5,6,7,8],[2,0,1,4,3,5,6,7,8],[2,0,1,4,5,3,6,7,8],[2,0,4,1,3,5,6,7,8],[2,0,4,1,5,3,6,7,8],[2,0,4,5,1,3,6,7,8],[2,4,0,1,3,5,6,7,8],[2,4,0,1,5,3,6,7,8],[2,4,0,5,1,3,6,7,8],[2,4,5,0,1,3,6,7,8],[4,0,1,2,3,5,6,7,8],[4,0,1,2,5,3,6,7,8],[4,0,1,5,2,3,6,7,8],[4,0,2,1,3,5,6,7,8],[4,0,2,1,5,3,6,7,8],[4,0,2,5,1,3,6,7,8],[4,0,5,1,2,3,6,7,8],[4,0,5,2,1,3,6,7,8],[4,2,0,1,3,5,6,7,8],[4,2,0,1,5,3,6,7,8],[4,2,0,5,1,3,6,7,8],[4,2,5,0,1,3,6,7,8],[4,5,0,1,2,3,6,7,8],[4,5,0,2,1,3,6,7,8],[4,5,2,0,1,3,6,7,8]]:=by rfl
set_option maxRecDepth 8000 in
set_option maxHeartbeats 4000000 in
theorem aiF(rows:List Bs)(h0:rows≠[])(hl:rows.length<=128)(hlen:∀t∈rows,t.length<2^40)(s:Bs)(x:Li)(hx:x.1<2^40)(hxr:∀t∈rows,x.1<t.length)(lo:List AV)(hlo:∀m,10<=m->aK m lo=true)(q r:List Fm)(hq:q.length<2^30)(hr:r.length<2^30)
 (hfac0:aS Tryz.prog Γ jo [.list false 1 ((dD [x] (bF (fun t=>!cP x t) rows)).map .str)] (.own 3 aU (q.map bd)))
 (hfac:aS Tryz.prog Γ jo [.list false 1 ((bF (cP x) rows).map .str)] (.own 3 aU (r.map bd))):
 aA Tryz.prog Γ (.fr ⟨.run,jo,[It.code (.aP [I,I,O,I,O,O,O,O,O] [7,7,7,7,6,7,8,10,10] As),It.code ((aj.aP [O,O,I,O,O,O] [2,4,4,5,7,7] D9).seq ((aj.ae Ev).seq aj.ret))],SL U,[.mark 5],.norm,0⟩ [] (wG rows s x lo))
  (.ret (.own 3 aU ((DM x q r).map bd))):=by
 have hend:=ag7 (Γ:=Γ) rows h0 hl hlen s x hx lo hlo q r hq hr hfac;have hclone:=uK (Γ:=Γ) rows (.inl rfl:Kd 1 1 rows) (by omega)
 have hdiv:=PT (Γ:=Γ) (bF (fun t=>!cP x t) rows) [x] (.inl rfl:Kd 1 1 _) (.inl rfl:Kd 2 2 _) (by have:(bF (fun t=>!cP x t) rows).length<=rows.length:=E9 _ _;omega) (by simp) fun t ht=>by
  have h1:=(tM ht).1;exact⟨hlen t h1,fun y hy=>by simp only[cE]at hy;subst hy;exact hxr t h1⟩
 simp at hdiv
 have hwf:∀os,(∀m,10<=m->cr m os=true)->bS (wG rows s x lo++os):=fun os ho m hm=>by
  have hm':10<=m:=by simp at hm;omega
  simp[ho m hm',hlo m hm'];omega
 obtain⟨es,hdel⟩:=L_ (Γ:=Γ) (ain x 8 9 rows hlen) (by omega) (h:=wG rows s x lo++[iU rows]) (r:=10) rfl (fun l'=>⟨rfl,rfl,hwf [iU l',pG] (fun m hm=>by simp)⟩) (hwf _ (fun m hm=>by simp));simp[iU]at hdel;refine .Tt 60 ?_;rw[ah0];intro l hm;simp only[bz,o5,oT]at hm
 rcases hm with rfl|rfl|rfl|rfl|rfl|rfl|rfl|rfl|rfl|rfl|rfl|rfl|rfl|rfl|rfl|rfl|rfl|rfl|rfl|rfl|rfl|rfl|rfl|rfl|rfl|rfl|rfl|rfl|rfl|rfl|rfl|rfl|rfl|rfl|rfl|rfl|rfl|rfl|rfl|rfl|rfl|rfl|rfl|rfl|rfl
 all_goals
  simp;refine .Ab 60 (by simp) hclone ?_;simp;refine aah 60 hdel ?_;simp;refine .Ab 60 (by simp) hdiv ?_;simp;refine .Ab 60 (by simp) hfac0 ?_;simp;refine .oF [79,80,81,82,83,84,85,86] ?_;simp[oA];refine .gc 10 [2] (by simp[hlo 10 (by omega)]) (by decide) ?_;simp[lK (hlo 10 (by omega))];refine .go 1 ?_;simp at hend⊢;exact hend
def po(n:Nat)(rows:List Bs):Prop:=rows.length<=128/\(∀s∈rows,s.length=n)/\n<=40
theorem Ht{n:Nat}:∀{rows:List Bs},(∀s∈rows,s.length=n)->cp rows<=rows.length*n
 |[],_=>by simp[cp]
 |s::r,h=>by
  have h1:=Cz s 0
  have h2:=Ht (rows:=r) fun t ht=>h t (by simp[ht])
  have h3:=h s (by simp)
  simp only[cp,bE,E7];omega
theorem po.cost{n:Nat}{rows:List Bs}(h:po n rows):cp rows<=5120:=by
 have h1:=Ht h.2.1;have h2:rows.length*n<=128*40:=Nat.mul_le_mul h.1 h.2.2;omega
abbrev I7:List AV:=[U,.ptr 0 0,.sl 1 0 0,U,.ptr 2 0]++List.replicate 96 U
abbrev DQ(rows:List Bs)(s:Bs)(c:List Li)(gr:Option Nat):List Ob:=[.cells [.list false 1 (rows.map .str)],.row 3 aU [] none true false,.cells [.sl 3 0 c.length],.row 2 mc (c.map ec) gr true false,.cells [.str s],.bD true,
 .loop .ready .none jo I7 [31] (.ae EM) EI]
set_option maxRecDepth 8000 in
theorem ad3(rows:List Bs)(hl:rows.length<2^40)(s:Bs)(hs:∀t∈rows,t.length<2^40)(hs1:s.length<2^40)(up:List Fr)(hv:∀m,up.all (iv 3 m)=true):∀n j:Nat,j+n=s.length->∀c:List Li,c.length<=j->
 AM.Reach Tryz.prog Γ (J2 (.cY 6) (.ptr 4 0) (.int .i64 s.length) (.int .i64 j) (DQ rows s c none) ⟨[],.norm,7,up⟩)
  (.back up (.aH []) (DQ rows s (c++(bp (s.drop j) j).filter fun x=>decide (d_ x rows=rows.length)) none)):=by
 have hwr:∀c:UInt8,IntKind.i64.wrap (c.toNat:Int)=c.toNat:=fun c=>wrap64 (by omega) (by have:=c.toNat_lt;omega)
 intro n
 induction n with
 |zero=>
  intro j hj c hc
  have q1:¬j<s.length:=by omega
  rw[bA (by omega),bp];refine .a8 60 ?_;simp[q1]
 |succ n ih=>
  intro j hj c hc
  have q1:j<s.length:=by omega
  rw[bJ q1,bp]
  by_cases a:s[j]=45
  ·have hh:=ih (j+1) (by omega) c (by omega);rw[if_pos a];refine .a8 60 ?_;simp(disch:=omega) [q1,a];refine .aO ?_;simp at hh⊢;exact hh
  ·rw[if_neg a];have hp:=H5 (Γ:=Γ) rows (j,s[j]) (.inl rfl) hl hs;refine .a8 60 ?_;simp(disch:=omega) [q1,a,jO,hwr];refine .ea 60 ?_;simp;refine .call (by simp) hp ?_
   by_cases h3:d_ (j,s[j]) rows=rows.length
   ·have h3':((d_ (j,s[j]) rows:Nat):Int)=rows.length:=by omega
    have hh:=ih (j+1) (by omega) (c++[(j,s[j])]) (by simp;omega);rw[List.filter_cons_of_pos (by simpa using h3)];simp(disch:=omega) [h3,h3'];refine .trans (.pop _) (.a8 60 ?_);simp(disch:=omega);refine .aO ?_;simp;refine .oj 7 rfl (by simp) (by simp) (by simp) ?_;refine .Ib (i:=3) rfl (by simp) (hv _) (by simp) ?_;simp[DQ]at hh⊢;exact hh
   ·have h3':¬((d_ (j,s[j]) rows:Nat):Int)=rows.length:=by omega
    have hh:=ih (j+1) (by omega) c (by omega);rw[List.filter_cons_of_neg (by simpa using h3)];simp(disch:=omega) [h3,h3'];refine .trans (.pop _) (.a8 60 ?_);simp(disch:=omega);refine .aO ?_;simp;refine .oj 7 rfl (by simp) (by simp) (by simp) ?_;simp at hh⊢;exact hh
set_option maxRecDepth 8000 in
theorem acI(f n:Nat)(s:Bs)(r:List Bs)(hw:po n (s::r))
 (ih:∀rows:List Bs,cp rows<cp (s::r)->po n rows->∀k,Kd 1 k rows->aS Tryz.prog Γ jo [.list false k (rows.map .str)] (.own 3 aU ((fG f rows).map bd))):aS Tryz.prog Γ jo [.list false 1 ((s::r).map .str)] (.own 3 aU ((fG (f+1) (s::r)).map bd)):=by
 obtain⟨b1,b2,b3⟩:=hw
 have hlen:∀t∈s::r,t.length<2^40:=fun t ht=>by rw[b2 t ht];omega
 have hC:=fun(h:List Ob)=>Bf (Γ:=Γ) (fl:=false) (k:=1) (ahl (s::r) hlen) (.inl rfl) (by omega) (h:=h) trivial
 rw[fG];generalize hR:(if bH nv (s::r)=true then _ else _:List Fm)=R;refine .run 100 fU (by simp) ?_;simp
 have q1:¬(r.length:Int)+1=0:=by omega
 simp[q1];simp at hC
 by_cases hf:bH nv (s::r)=true
 ·rw[if_pos hf]at hR;subst hR
  first
   |(refine .aW 4 (hC _) ?_;simp[hf];refine .cG 60 aU (es:=[bd ⟨1,0,0⟩]) (by simp) (by simp) ?_)
   |(refine .aW 5 (hC _) ?_;simp[hf];refine .cG 60 aU (es:=[bd ⟨1,0,0⟩]) (by simp) (by simp) ?_)
   |(refine .aW 6 (hC _) ?_;simp[hf];refine .cG 60 aU (es:=[bd ⟨1,0,0⟩]) (by simp) (by simp) ?_)
   |(refine .aW 7 (hC _) ?_;simp[hf];refine .cG 60 aU (es:=[bd ⟨1,0,0⟩]) (by simp) (by simp) ?_)
   |(refine .aW 8 (hC _) ?_;simp[hf];refine .cG 60 aU (es:=[bd ⟨1,0,0⟩]) (by simp) (by simp) ?_)
   |(refine .aW 9 (hC _) ?_;simp[hf];refine .cG 60 aU (es:=[bd ⟨1,0,0⟩]) (by simp) (by simp) ?_)
   |(refine .aW 10 (hC _) ?_;simp[hf];refine .cG 60 aU (es:=[bd ⟨1,0,0⟩]) (by simp) (by simp) ?_)
   |(refine .aW 11 (hC _) ?_;simp[hf];refine .cG 60 aU (es:=[bd ⟨1,0,0⟩]) (by simp) (by simp) ?_)
  simp;exact .back (by simp)
 ·rw[if_neg hf]at hR;refine .aW 60 (hC _) ?_;simp[hf];refine .aW 60 (Gb s) ?_;simp;refine .enter 60 Fo ?_;simp;refine .inLoop ?_;have hs1:=hlen s (by simp)
  have hcm:=fun up hv=>ad3 (Γ:=Γ) (s::r) (by omega) s hlen hs1 up hv s.length 0 (by omega) [] (by simp)
  simp[DQ]at hcm;refine .reach (hcm _ (by simp)) ?_;have e1:List.filter (fun x=>decide (d_ x (s::r)=r.length+1)) (bp s 0)=dA (s::r) s:=rfl;rw[e1]
  have hsub:∀x∈dA (s::r) s,∀t∈s::r,x.1<t.length:=fun x hx t ht=>by
   have:=kP.1 (BP hx t ht);exact(db.1 this.2.1).1
  have hclen:(dA (s::r) s).length<=40:=by
   have h1:(dA (s::r) s).length<=(bp s 0).length:=E9 _ _;have h2:=Cz s 0;have:=b2 s (by simp);omega
  refine .go 60 ?_
  by_cases hc:dA (s::r) s≠[]
  ·rw[if_pos hc]at hR;have hpos:0<(dA (s::r) s).length:=sQ.2 hc;have hcost:=FY hc;simp[hpos]
   have hdw:po n (dD (dA (s::r) s) (s::r)):=⟨by simpa[dD]using b1,fun t ht=>by
    simp only[dD,cd]at ht;obtain⟨t0,h1,rfl⟩:=ht
    rw[rR];exact b2 _ h1,b3⟩
   have hdiv:=PT (Γ:=Γ) (s::r) (dA (s::r) s) (.inl rfl:Kd 1 1 (s::r)) (.inl rfl:Kd 2 2 _) (by omega) (by omega) fun t ht=>⟨hlen t ht,fun x hx=>hsub x hx t ht⟩
   have hfac:=ih _ (by omega) hdw 1 (.inl rfl);have hfl:=tx f (dD (dA (s::r) s) (s::r));have hall:=IG (Γ:=Γ) (dA (s::r) s) (.inl rfl:Kd 2 2 _) (by omega) (fun x hx=>by have:=hsub x hx s (by simp);omega) (fG f (dD (dA (s::r) s) (s::r))) (.inl rfl:Kd 3 3 _) (by have:=hdw.cost;omega);generalize dA (s::r) s=c at*;subst hR;simp at hdiv;refine .dr 60 ?_;simp;refine .call (by simp) hdiv ?_;simp;refine .call (by simp) hfac ?_;simp;refine .call (by simp) hall ?_;simp;exact .back (by simp)
  ·rw[if_neg hc]at hR
   have hc0:dA (s::r) s=[]:=by simpa using hc
   have hmost:=ahL (Γ:=Γ) (s::r) (.inl rfl:Kd 1 1 (s::r)) (by omega) hlen s.length s rfl rfl;simp at hmost;simp[hc0]
   by_cases hm:(cZ (s::r) s.length).2<2
   ·rw[if_pos hm]at hR
    have hm':(((cZ (s::r) s.length).2:Nat):Int)<2:=by omega
    subst hR
    first
     |(refine .call 14 (by simp) hmost ?_;simp[hm'];refine .cG 60 aU (es:=[bd ⟨4,0,(r.length:Int)+1⟩]) (by simp) (by simp) ?_)
     |(refine .call 15 (by simp) hmost ?_;simp[hm'];refine .cG 60 aU (es:=[bd ⟨4,0,(r.length:Int)+1⟩]) (by simp) (by simp) ?_)
     |(refine .call 16 (by simp) hmost ?_;simp[hm'];refine .cG 60 aU (es:=[bd ⟨4,0,(r.length:Int)+1⟩]) (by simp) (by simp) ?_)
     |(refine .call 17 (by simp) hmost ?_;simp[hm'];refine .cG 60 aU (es:=[bd ⟨4,0,(r.length:Int)+1⟩]) (by simp) (by simp) ?_)
     |(refine .call 18 (by simp) hmost ?_;simp[hm'];refine .cG 60 aU (es:=[bd ⟨4,0,(r.length:Int)+1⟩]) (by simp) (by simp) ?_)
     |(refine .call 19 (by simp) hmost ?_;simp[hm'];refine .cG 60 aU (es:=[bd ⟨4,0,(r.length:Int)+1⟩]) (by simp) (by simp) ?_)
     |(refine .call 20 (by simp) hmost ?_;simp[hm'];refine .cG 60 aU (es:=[bd ⟨4,0,(r.length:Int)+1⟩]) (by simp) (by simp) ?_)
     |(refine .call 21 (by simp) hmost ?_;simp[hm'];refine .cG 60 aU (es:=[bd ⟨4,0,(r.length:Int)+1⟩]) (by simp) (by simp) ?_)
     |(refine .call 22 (by simp) hmost ?_;simp[hm'];refine .cG 60 aU (es:=[bd ⟨4,0,(r.length:Int)+1⟩]) (by simp) (by simp) ?_)
     |(refine .call 23 (by simp) hmost ?_;simp[hm'];refine .cG 60 aU (es:=[bd ⟨4,0,(r.length:Int)+1⟩]) (by simp) (by simp) ?_)
     |(refine .call 24 (by simp) hmost ?_;simp[hm'];refine .cG 60 aU (es:=[bd ⟨4,0,(r.length:Int)+1⟩]) (by simp) (by simp) ?_)
     |(refine .call 25 (by simp) hmost ?_;simp[hm'];refine .cG 60 aU (es:=[bd ⟨4,0,(r.length:Int)+1⟩]) (by simp) (by simp) ?_)
    simp;refine .inLoop ?_
    have hor:=ajp (Γ:=Γ) (s::r) b1 (fun t ht=>by rw[b2 t ht];exact b3) (h8:=[.cells [.list false 1 ((s::r).map .str)],.row 3 aU [] none true false,.cells [.sl 3 0 0],.row 2 mc [] none true false,.cells [.str s],.bD true,
     .loop .exhausted .none jo I7 [31] (.ae EM) EI,.cells (ec (cZ (s::r) s.length).1).cells]) rfl rfl (fun m hm=>by simp;omega) (fun i m hi=>by simp;omega) (s::r).length 0 (by omega) [⟨4,0,(s::r).length⟩] (by simp)
    simp[Lh]at hor⊢;exact hor
   ·rw[if_neg hm]at hR
    have hm':¬(((cZ (s::r) s.length).2:Nat):Int)<2:=by omega
    refine .call 60 (by simp) hmost ?_;simp[hm'];refine .aW 60 (Sk _) ?_;simp
    have hxr:∀t∈s::r,(cZ (s::r) s.length).1.1<t.length:=fun t ht=>by
     have h0:=Hm (s::r) s.length (by omega);have h1:=BC (cZ (s::r) s.length).1 (s::r);obtain⟨t0,h2⟩:=EZ (l:=bF (fun t=>!cP (cZ (s::r) s.length).1 t) (s::r)) (by omega);have h3:=tM h2;have h4:=(db.1 (kP.1 h3.2).2.1).1
     rw[b2 t ht,<-b2 t0 h3.1];omega
    have hcm2:=Gy hm;have hfl0:=tx f (dD [(cZ (s::r) s.length).1] (bF (fun t=>!cP (cZ (s::r) s.length).1 t) (s::r)));have hfl1:=tx f (bF (cP (cZ (s::r) s.length).1) (s::r));have hcst:=po.cost ⟨b1,b2,b3⟩
    have hw1:po n (dD [(cZ (s::r) s.length).1] (bF (fun t=>!cP (cZ (s::r) s.length).1 t) (s::r))):=⟨by
     have:(bF (fun t=>!cP (cZ (s::r) s.length).1 t) (s::r)).length<=(s::r).length:=E9 _ _
     simp only[dD,fC];omega,fun t ht=>by
     simp only[dD,cd]at ht;obtain⟨t0,h1,rfl⟩:=ht
     rw[rR];exact b2 _ (tM h1).1,b3⟩
    have hw2:po n (bF (cP (cZ (s::r) s.length).1) (s::r)):=⟨by
     have:(bF (cP (cZ (s::r) s.length).1) (s::r)).length<=(s::r).length:=E9 _ _
     omega,fun t ht=>b2 t (dN.1 ht).1,b3⟩
    have htwo:=aiF (Γ:=Γ) (s::r) (by simp) b1 hlen s (cZ (s::r) s.length).1 (by have:=hxr s (by simp);omega) hxr I7 (fun m hm=>by simp;omega) _ _ (by omega) (by omega) (ih _ (by omega) hw1 1 (.inl rfl)) (ih _ (by omega) hw2 1 (.inl rfl));subst hR;refine .oF [0,2,3,4,7,15,16,17,18,21,22,23,24,27,28,29,30,42,43,44,51,52,53,54,55,56,57,76,77,78] ?_;simp[oA];simp[DM]at htwo⊢;exact htwo
theorem FP(l:List (List UInt8))(s:List UInt8){k:Nat}(hk:Kd 1 k l)(hl:l.length<2^40):aS Tryz.prog Γ xB [.list false k (l.map .str),.str s] (.bool (l.contains s)):=by
 refine .run 60 Wu (by simp) ?_;simp;refine .call 60 (by simp) (PJ l s hk hl) ?_;have e:=G9 s l 0;simp[e];exact .back (by simp)
theorem O7(n:Nat):∀(f:Nat)(rows:List Bs),cp rows<f->po n rows->∀k,Kd 1 k rows->aS Tryz.prog Γ jo [.list false k (rows.map .str)] (.own 3 aU ((fG f rows).map bd))
 |0,rows,hc,_,_,_=>by omega
 |f+1,[],hc,hw,k,hk=>by
  first
   |(refine .run 12 fU (by simp) ?_;simp;refine .cG 60 aU (es:=[bd ⟨0,0,0⟩]) (by simp) (by simp) ?_)
   |(refine .run 13 fU (by simp) ?_;simp;refine .cG 60 aU (es:=[bd ⟨0,0,0⟩]) (by simp) (by simp) ?_)
   |(refine .run 14 fU (by simp) ?_;simp;refine .cG 60 aU (es:=[bd ⟨0,0,0⟩]) (by simp) (by simp) ?_)
   |(refine .run 15 fU (by simp) ?_;simp;refine .cG 60 aU (es:=[bd ⟨0,0,0⟩]) (by simp) (by simp) ?_)
   |(refine .run 16 fU (by simp) ?_;simp;refine .cG 60 aU (es:=[bd ⟨0,0,0⟩]) (by simp) (by simp) ?_)
   |(refine .run 17 fU (by simp) ?_;simp;refine .cG 60 aU (es:=[bd ⟨0,0,0⟩]) (by simp) (by simp) ?_)
   |(refine .run 18 fU (by simp) ?_;simp;refine .cG 60 aU (es:=[bd ⟨0,0,0⟩]) (by simp) (by simp) ?_)
   |(refine .run 19 fU (by simp) ?_;simp;refine .cG 60 aU (es:=[bd ⟨0,0,0⟩]) (by simp) (by simp) ?_)
   |(refine .run 20 fU (by simp) ?_;simp;refine .cG 60 aU (es:=[bd ⟨0,0,0⟩]) (by simp) (by simp) ?_)
   |(refine .run 21 fU (by simp) ?_;simp;refine .cG 60 aU (es:=[bd ⟨0,0,0⟩]) (by simp) (by simp) ?_)
   |(refine .run 22 fU (by simp) ?_;simp;refine .cG 60 aU (es:=[bd ⟨0,0,0⟩]) (by simp) (by simp) ?_)
   |(refine .run 23 fU (by simp) ?_;simp;refine .cG 60 aU (es:=[bd ⟨0,0,0⟩]) (by simp) (by simp) ?_)
   |(refine .run 24 fU (by simp) ?_;simp;refine .cG 60 aU (es:=[bd ⟨0,0,0⟩]) (by simp) (by simp) ?_)
   |(refine .run 25 fU (by simp) ?_;simp;refine .cG 60 aU (es:=[bd ⟨0,0,0⟩]) (by simp) (by simp) ?_)
   |(refine .run 26 fU (by simp) ?_;simp;refine .cG 60 aU (es:=[bd ⟨0,0,0⟩]) (by simp) (by simp) ?_)
   |(refine .run 27 fU (by simp) ?_;simp;refine .cG 60 aU (es:=[bd ⟨0,0,0⟩]) (by simp) (by simp) ?_)
   |(refine .run 28 fU (by simp) ?_;simp;refine .cG 60 aU (es:=[bd ⟨0,0,0⟩]) (by simp) (by simp) ?_)
   |(refine .run 29 fU (by simp) ?_;simp;refine .cG 60 aU (es:=[bd ⟨0,0,0⟩]) (by simp) (by simp) ?_)
   |(refine .run 30 fU (by simp) ?_;simp;refine .cG 60 aU (es:=[bd ⟨0,0,0⟩]) (by simp) (by simp) ?_)
   |(refine .run 31 fU (by simp) ?_;simp;refine .cG 60 aU (es:=[bd ⟨0,0,0⟩]) (by simp) (by simp) ?_)
   |(refine .run 32 fU (by simp) ?_;simp;refine .cG 60 aU (es:=[bd ⟨0,0,0⟩]) (by simp) (by simp) ?_)
   |(refine .run 33 fU (by simp) ?_;simp;refine .cG 60 aU (es:=[bd ⟨0,0,0⟩]) (by simp) (by simp) ?_)
  simp;exact .back (by simp[fG])
 |f+1,s::r,hc,hw,k,hk=>by
  obtain rfl:k=1:=hk.of (i:=0) (by simp)
  exact acI f n s r hw fun rows h1 h2 k hk=>O7 n f rows (by omega) h2 k hk
def fq:List Bs->List Bs->List Bs
 |a,[]=>a
 |a,s::r=>fq (if a.contains s=true then a else a++[s]) r
def r_(n:Int)(rows:List Bs):Bool:=decide (n<0)||(decide (8<n)||(decide (128<rows.length)||bH (fun s=>!pB n.toNat s) rows))
def kY(rows:List Bs)(n:Int):List Fm:=if r_ n rows=true then[]else fG (cp (fq [] rows)+1) (fq [] rows)
def SA(rows:List Bs)(n:Int):Int:=if r_ n rows=true then 1 else 0
theorem zf{t:Bs}:∀(r a:List Bs),t∈fq a r↔t∈a\/t∈r
 |[],a=>by simp[fq]
 |s::r,a=>by
  rw[fq,zf r]
  by_cases h:a.contains s=true
  ·rw[if_pos h]
   have h':s∈a:=by simpa using h
   simp only[bz];constructor
   ·rintro(h1|h1)
    ·exact .inl h1
    ·exact .inr (.inr h1)
   ·rintro(h1|h1|h1)
    ·exact .inl h1
    ·subst h1;exact .inl h'
    ·exact .inr h1
  ·rw[if_neg h];simp only[aT,cE,bz,or_assoc,o5,false_or]
theorem agp(l:List Bs)(n:Nat)(i:Nat)(hn:n<=8):jA Tryz.prog Γ (fun h=>h[i]? =some (.cells [.int .i64 n])) Bl [.ptr i 0] AV.str (fun s=>!pB n s) l:=by
 refine⟨by simp,fun s hm up h hφ=>?_⟩
 have h2:decide (Lib.trimS s [48,49,45]=[])=s.all mM:=by
  rw[fT,V9];exact Pl s
 refine .bt 60 XW ?_;unfold pB
 by_cases h:s.length=n
 ·have h':(s.length:Int)=n:=by omega
  have hT:=Rw (Γ:=Γ) s (by omega);unfold pM at hT;simp[hφ,h,h'];refine .kW 60 (by simp) hT ?_;simp[h2]
 ·have h':¬(s.length:Int)=n:=by omega
  simp[hφ,h,h']
theorem adm(rows:List Bs)(n:Int){k:Nat}(hk:Kd 1 k rows):aS Tryz.prog Γ xR [.list false k (rows.map .str),.int .i64 n] (.aH [.own 3 aU ((kY rows n).map bd),.int .i64 (SA rows n)]):=by
 have key:∀m i:Nat,i+m=rows.length->rows.length<=128->(∀t∈rows,t.length=n.toNat)->n.toNat<=40->∀a:List Bs,a.length<=i->fq a (rows.drop i)=fq [] rows->aA Tryz.prog Γ (yrG (.sl 2 0 a.length) (.list false k (rows.map .str)) (.int .i64 rows.length) (.int .i64 i) [.cells [.int .i64 n],.row 3 aU [] none true false,.row 1 au (a.map .str) none true false])
  (.ret (.aH [.own 3 aU ((fG (cp (fq [] rows)+1) (fq [] rows)).map bd),.int .i64 0])):=by
  intro m
  induction m with
  |zero=>
   intro i hi hl2 hs2 hn a ha hu
   have q1:¬i<rows.length:=by omega
   rw[bA (by omega),fq]at hu
   have hw:po n.toNat a:=⟨by omega,fun t ht=>by
    rw[hu]at ht
    exact hs2 t (by simpa using(zf rows []).1 ht),hn⟩
   have hf:=O7 (Γ:=Γ) n.toNat (cp a+1) a (by omega) hw 1 (.inl rfl);rw[<-hu];refine .go 60 ?_;simp[q1];refine .call 60 (by simp) hf ?_;simp;exact .back (by simp)
  |succ m ih=>
   intro i hi hl2 hs2 hn a ha hu
   have q1:i<rows.length:=by omega
   have q2:=bR (hk.of q1);have hc:=FP (Γ:=Γ) a rows[i] (.inl rfl:Kd 1 1 a) (by omega);rw[bJ q1,fq]at hu;refine .go 60 ?_;simp(disch:=omega) [q1,q2];refine .call 60 (by simp) hc ?_
   by_cases h:a.contains rows[i]=true
   ·rw[if_pos h]at hu;have hh:=ih (i+1) (by omega) hl2 hs2 hn a (by omega) hu
    have h':rows[i]∈a:=by simpa using h
    simp(disch:=omega) [h'];refine .aO ?_;simp[q2]at hh⊢;exact hh
   ·rw[if_neg h]at hu;have hh:=ih (i+1) (by omega) hl2 hs2 hn (a++[rows[i]]) (by simp;omega) hu
    have h':¬rows[i]∈a:=by simpa using h
    simp(disch:=omega) [h'];refine .aO ?_;simp;refine .drop 3 rfl (by simp) (by simp) (by simp) ?_;refine .reset (i:=2) rfl (by simp) (by simp) (by simp) ?_;simp[q2]at hh⊢;exact hh
 refine .run 100 Yr (by simp) ?_;unfold kY SA r_
 by_cases h1:n<0
 ·simp[h1];exact .back (by simp)
 ·obtain⟨m,rfl⟩:=gB (show 0<=n by omega)
  by_cases h2:(8:Int)<m
  ·simp[h2];exact .back (by simp)
  ·by_cases h3:128<rows.length
   ·have h3':(128:Int)<rows.length:=by omega
    simp[h2,h3,h3'];exact .back (by simp)
   ·have h3':¬(128:Int)<rows.length:=by omega
    have hC:=fun(h:List Ob) hφ=>Bf (Γ:=Γ) (fl:=false) (agp rows m 0 (by omega)) hk (by omega) (h:=h) hφ
    simp[h2,h3,h3'];refine .aW 60 (hC _ rfl) ?_
    cases hb:bH (fun s=>!pB m s) rows with
    |true=>
     simp[hb];exact .back (by simp)
    |false=>
     have hh:=key rows.length 0 (by omega) (by omega) (fun t ht=>by
      have:=kR.1 hb t ht;simp only[E4,pB,ay,aZ]at this
      simpa using this.2) (by simp;omega) [] (by simp) rfl
     simp[hb];refine .inLoop ?_;simp at hh⊢;exact hh
end Go.Proofs.YtchjijfjidlpjaaGreatDoor
namespace Go.Proofs.YtchjijfjidlpjaaGreatDoor
open Go.AM Go.Proofs
section
variable{n:Int}{val:Int->Bool}
def mQ(n:Int)(val:Int->Bool)(l:List Fm)(v:Bool):Prop:=∀rest fuel,(l++rest).length<=fuel->eU n val fuel (l++rest)=some (v,rest)
theorem mQ.pos{l:List Fm}{v:Bool}(h:mQ n val l v):0<l.length:=by
 cases l with
 |nil=>
  have:=h [] 0 (by simp)
  cases this
 |cons _ _=>simp
theorem HY{x:Li}(h:(x.1:Int)<n):mQ n val [ew x] (val (ew x).lit):=by
 intro rest fuel hf
 cases fuel with
 |zero=>simp at hf
 |succ fuel=>
  have hok:fe n (ew x)=true:=by
   unfold fe ew
   by_cases hx:x.2=48
   ·simp[hx];omega
   ·simp[hx];omega
  have hk:(ew x).kind=2:=rfl;simp[eU,hok,hk]
theorem agZ:mQ n val [⟨0,0,0⟩] false:=by
 intro rest fuel hf
 cases fuel with
 |zero=>simp at hf
 |succ fuel=>simp[eU,fe,f_]
theorem afj:mQ n val [⟨1,0,0⟩] true:=by
 intro rest fuel hf
 cases fuel with
 |zero=>simp at hf
 |succ fuel=>simp[eU,fe,f_]
def ot(a:Bool):List (List Fm×Bool)->Bool->Bool
 |[],v=>v
 |k::ks,v=>ot a ks (if a then k.2&&v else k.2||v)
theorem GW:∀(ks:List (List Fm×Bool))(v:Bool),ot true ks v=(v&&ks.all (·.2))
 |[],v=>by simp[ot]
 |k::ks,v=>by
  show ot true ks (k.2&&v)=_
  rw[GW ks,sN,Bool.and_comm k.2 v,oZ]
theorem HH:∀(ks:List (List Fm×Bool))(v:Bool),ot false ks v=(v||ks.any (·.2))
 |[],v=>by simp[ot]
 |k::ks,v=>by
  show ot false ks (k.2||v)=_
  rw[HH ks,List.any_cons,Bool.or_comm k.2 v,Bool.or_assoc]
theorem PQ(a:Bool)(fuel:Nat):∀(ks:List (List Fm×Bool))(v:Bool)(rest:List Fm),(∀k∈ks,mQ n val k.1 k.2)->(ks.flatMap (·.1)++rest).length<=fuel->f_ (eU n val fuel) a ks.length v (ks.flatMap (·.1)++rest)=some (ot a ks v,rest)
 |[],v,rest,_,_=>by simp[f_,ot]
 |k::ks,v,rest,h,hf=>by
  simp only[nW,cI,bu]at hf;have h1:=h k (by simp) (ks.flatMap (·.1)++rest) fuel (by simp only[bu];omega);simp only[bE,f_,nW,cI,h1,ot];exact PQ a fuel ks _ rest (fun k' hk'=>h k' (by simp[hk'])) (by simp only[bu];omega)
theorem Cm(kd:Int)(hkd:kd=3\/kd=4)(ks:List (List Fm×Bool))(h2:2<=ks.length)(h:∀k∈ks,mQ n val k.1 k.2):mQ n val (⟨kd,0,ks.length⟩::ks.flatMap (·.1)) (ot (decide (kd=3)) ks (decide (kd=3))):=by
 intro rest fuel hf
 cases fuel with
 |zero=>simp at hf
 |succ fuel=>
  have hok:fe n ⟨kd,0,ks.length⟩=true:=by
   unfold fe;rw[if_neg (by simp only;omega),if_pos hkd]
   simp;omega
  have h3:¬kd=2:=by omega
  have h4:¬kd=1:=by omega
  have hk:=PQ (n:=n) (val:=val) (decide (kd=3)) fuel ks (decide (kd=3)) rest h (by simp at hf⊢;omega);simp only[eo,eU,hok,cy,h3,da,dX,h4,nV,oW];exact hk
theorem ac5{r:List Fm}{v:Bool}(h:mQ n val r v)(ht:ua r=true):v=true:=by
 match r,ht with
 |[f],ht=>
  have hk:f.kind=1:=by simpa[ua]using ht
  have h1:=h [] 1 (by simp);simp only[ee,eU]at h1
  split at h1
  ·rename_i hok
   have h0:f.kids=0:=by
    simp only[fe,hk]at hok;simp at hok;exact hok.2
   simp[hk,h0,f_]at h1;exact h1
  ·cases h1
theorem HR(l:List Li)(hl:∀x∈l,(x.1:Int)<n)(h0:l≠[])(r:List Fm)(v:Bool)(hr:r=[]/\v=true\/mQ n val r v):mQ n val (eO l r) ((l.all fun x=>val (ew x).lit)&&v):=by
 have hlm:∀l:List Li,(l.map fun x=>([ew x],val (ew x).lit)).flatMap (·.1)=l.map ew:=fun l=>by
  induction l with
  |nil=>rfl
  |cons x l ih=>simp only[bU,nW,ih];rfl
 have hl1:0<l.length:=sQ.2 h0
 have hrest:(kc r=[]/\v=true)\/(kc r=r/\0<r.length/\mQ n val r v):=by
  rcases hr with⟨rfl,rfl⟩|hr
  ·left;exact⟨rfl,rfl⟩
  ·by_cases ht:ua r=true
   ·left;exact⟨by rw[kc,if_pos ht],ac5 hr ht⟩
   ·right;exact⟨by rw[kc,if_neg ht],hr.pos,hr⟩
 unfold eO
 rcases hrest with⟨e,rfl⟩|⟨e,hp,hr⟩
 ·rw[e,pS];simp only[cS,Nat.zero_min,gZ,ee]
  by_cases h1:1<l.length
  ·have hh:=Cm (n:=n) (val:=val) 3 (.inl rfl) (l.map fun x=>([ew x],val (ew x).lit)) (by simp;omega) fun k hk=>by
    obtain⟨x,h2,rfl⟩:=cd.1 hk;exact HY (hl x h2)
   rw[hlm,show decide ((3:Int)=3)=true from rfl,GW]at hh;simp only[qT,if_pos h1];simpa[E_]using hh
  ·obtain⟨x,rfl⟩:∃x,l=[x]:=by
    match l,hl1,h1 with
    |[x],_,_=>exact⟨x,rfl⟩
    |x::y::l,_,h1=>simp at h1
   have hh:=HY (val:=val) (hl x (by simp));simpa[qT]using hh
 ·rw[e]
  have hm:min r.length 1=1:=by omega
  rw[hm]
  have h1:1<l.length+1:=by omega
  have hh:=Cm (n:=n) (val:=val) 3 (.inl rfl) ((l.map fun x=>([ew x],val (ew x).lit))++[(r,v)]) (by simp;omega) fun k hk=>by
   simp only[aT,cE]at hk
   rcases hk with hk|rfl
   ·obtain⟨x,h2,rfl⟩:=cd.1 hk;exact HY (hl x h2)
   ·exact hr
  rw[List.flatMap_append,hlm,show decide ((3:Int)=3)=true from rfl,GW]at hh;simp only[qT,if_pos h1];simpa[E_]using hh
end
def fo(val:Int->Bool)(s:Bs):Bool:=(bp s 0).all fun x=>val (ew x).lit
theorem aeQ(val:Int->Bool):∀(l:List Li)(s:Bs),l.Pairwise (fun a b=>a.1≠b.1)->(∀x∈l,x∈bp s 0)->((l.all fun x=>val (ew x).lit)&&fo val (gk l s))=fo val s:=by
 intro l s hp hm
 have h1:∀y:Li,y∈bp (gk l s) 0↔y∈bp s 0/\∀x∈l,x.1≠y.1:=by
  clear hp hm
  induction l generalizing s with
  |nil=>intro y;simp[gk]
  |cons x l ih=>
   intro y;have e:gk (x::l) s=gk l (s.set x.1 45):=rfl;rw[e,ih];simp only[bz,LA,kP,EU];constructor
   ·rintro⟨⟨_,h2,h3⟩,h4⟩
    by_cases h5:x.1=y.1
    ·rw[h5]at h2
     by_cases h6:y.1<s.length
     ·rw[eI h6]at h2;exact absurd (Option.some.inj h2).symm h3
     ·rw[fS (by simp;omega)]at h2;cases h2
    ·rw[dM h5]at h2;exact⟨⟨by omega,h2,h3⟩,h5,h4⟩
   ·rintro⟨⟨_,h2,h3⟩,h5,h4⟩
    exact⟨⟨by omega,by rw[dM h5];exact h2,h3⟩,h4⟩
 rw[fT];simp only[fo,ay,dU,h1];constructor
 ·rintro⟨h2,h3⟩ y hy
  by_cases h4:∀x∈l,x.1≠y.1
  ·exact h3 y ⟨hy,h4⟩
  ·have h4:∃x,x∈l/\x.1=y.1:=by
    refine xk fun hn=>h4 fun x hx he=>hn ⟨x,hx,he⟩
   obtain⟨x,hx,he⟩:=h4;have h5:=kP.1 (hm x hx);have h6:=kP.1 hy;rw[he]at h5;have h7:x.2=y.2:=Option.some.inj (h5.2.1.symm.trans h6.2.1);have h8:x=y:=Prod.ext he h7
   rw[<-h8];exact h2 x hx
 ·intro h2;exact⟨fun x hx=>h2 x (hm x hx),fun y hy=>h2 y hy.1⟩
theorem Hz(val:Int->Bool)(l:List Li)(hp:l.Pairwise (fun a b=>a.1≠b.1)):∀rows:List Bs,(∀s∈rows,∀x∈l,x∈bp s 0)->((l.all fun x=>val (ew x).lit)&&bH (fo val) (dD l rows))=bH (fo val) rows
 |[],_=>by simp[dD]
 |s::r,h=>by
  have h1:=aeQ val l s hp (h s (by simp))
  have h2:=Hz val l hp r fun t ht=>h t (by simp[ht])
  have e:dD l (s::r)=gk l s::dD l r:=rfl;rw[e,lE,lE,<-h1,<-h2]
  cases(l.all fun x=>val (ew x).lit)<;>simp
theorem OC(val:Int->Bool)(p:Bs->Bool):∀rows:List Bs,(bH (fo val) (bF (fun t=>!p t) rows)||bH (fo val) (bF p rows))=bH (fo val) rows
 |[]=>rfl
 |s::r=>by
  have ih:=OC val p r;rw[lE,<-ih]
  cases h:p s
  ·have e1:bF (fun t=>!p t) (s::r)=bF (fun t=>!p t) r:=by simp[bF,h]
   have e2:bF p (s::r)=s::bF p r:=by simp[bF,h]
   rw[e1,e2,lE]
   cases fo val s<;>simp
  ·have e1:bF (fun t=>!p t) (s::r)=s::bF (fun t=>!p t) r:=by simp[bF,h]
   have e2:bF p (s::r)=bF p r:=by simp[bF,h]
   rw[e1,e2,lE]
   cases fo val s<;>simp
theorem acq(val:Int->Bool){rows:List Bs}(h:bH nv rows=true):bH (fo val) rows=true:=by
 obtain⟨s,h1,h2⟩:=Cl.1 h;exact Cl.2 ⟨s,h1,by rw[fo,G0.1 h2];rfl⟩
theorem BJ(N:Nat)(val:Int->Bool):∀(f:Nat)(rows:List Bs),cp rows<f->(∀s∈rows,s.length=N)->mQ N val (fG f rows) (bH (fo val) rows)
 |0,rows,h,_=>by omega
 |f+1,[],_,_=>by rw[fG];exact agZ
 |f+1,s::r,h,hN=>by
  rw[fG]
  have hlt:∀x:Li,∀t∈s::r,x∈bp t 0->(x.1:Int)<N:=fun x t ht hx=>by
   have h1:=(db.1 (kP.1 hx).2.1).1;have:=hN t ht;omega
  split
  ·rename_i hfr;rw[acq val hfr];exact afj
  ·rename_i hfr
   split
   ·rename_i hc;have h1:=FY hc;have h4:0<(dA (s::r) s).length:=sQ.2 hc
    have hd:=Hz val (dA (s::r) s) (Mn _ _) (s::r) fun t ht x hx=>BP hx t ht
    have ih:=BJ N val f (dD (dA (s::r) s) (s::r)) (by omega) fun t ht=>by
     simp only[dD,cd]at ht;obtain⟨t0,h5,rfl⟩:=ht
     rw[rR];exact hN _ h5
    rw[<-hd];exact HR _ (fun x hx=>hlt x s (by simp) (BP hx s (by simp))) hc _ _ (.inr ih)
   ·split
    ·have hno:∀t∈s::r,bp t 0≠[]:=fun t ht he=>by
      have h1:=kR.1 (by simpa using hfr) t ht
      rw[G0.2 he]at h1;cases h1
     have hfm:∀rows:List Bs,(rows.map fun t=>(eO (bp t 0) [],fo val t)).flatMap (·.1)=rows.flatMap fun s=>eO (bp s 0) []:=fun rows=>by
      induction rows with
      |nil=>rfl
      |cons t r ih=>simp only[bU,nW,ih]
     have h2:2<=(s::r).length:=by
      rename_i hc0 hm
      have hc0:dA (s::r) s=[]:=by simpa using hc0
      cases r with
      |nil=>
       exfalso
       have:dA [s] s=bp s 0:=by
        unfold dA;rw[AY];intro x hx;simp[d_,cP,hx]
       rw[hc0]at this;exact hno s (by simp) this.symm
      |cons t r=>simp
     have hh:=Cm (n:=N) (val:=val) 4 (.inr rfl) ((s::r).map fun t=>(eO (bp t 0) [],fo val t)) (by simpa using h2) fun k hk=>by
      obtain⟨t,h5,rfl⟩:=cd.1 hk;have:=HR (n:=N) (val:=val) (bp t 0) (fun x hx=>hlt x t h5 hx) (hno t h5) [] true (.inl ⟨rfl,rfl⟩);simpa[fo]using this
     rw[hfm]at hh
     have e:decide ((4:Int)=3)=false:=by decide
     rw[e,HH]at hh;simp only[fC,List.any_map]at hh
     have e2:(false||(s::r).any ((fun x=>x.2)∘fun t=>(eO (bp t 0) [],fo val t)))=bH (fo val) (s::r):=by rw[oW];rfl
     rw[e2]at hh;exact hh
    ·rename_i hm;have h0:=Hm (s::r) s.length (by omega);have h1:=Gy hm;have h3:=BC (cZ (s::r) s.length).1 (s::r);generalize(cZ (s::r) s.length).1=x at*;obtain⟨t0,h2⟩:=EZ (l:=bF (fun t=>!cP x t) (s::r)) (by omega);have hx0:=tM h2
     have ih1:=BJ N val f (dD [x] (bF (fun t=>!cP x t) (s::r))) (by omega) fun t ht=>by
      simp only[dD,cd]at ht;obtain⟨t0,h5,rfl⟩:=ht
      rw[rR];exact hN _ (tM h5).1
     have ih2:=BJ N val f (bF (cP x) (s::r)) (by omega) fun t ht=>hN _ (dN.1 ht).1
     have hd:=Hz val [x] (by simp) (bF (fun t=>!cP x t) (s::r)) fun t ht y hy=>by
      simp only[cE]at hy;subst hy;exact(tM ht).2
     have hk:=OC val (cP x) (s::r);have ha:=HR (n:=N) (val:=val) [x] (fun y hy=>by simp only[cE]at hy;subst hy;exact hlt y t0 hx0.1 hx0.2) (by simp) _ _ (.inr ih1);rw[hd]at ha;rw[<-hk];generalize bH (fo val) (bF (fun t=>!cP x t) (s::r))=va at*;generalize bH (fo val) (bF (cP x) (s::r))=vb at*;generalize eO [x] (fG f (dD [x] (bF (fun t=>!cP x t) (s::r))))=A at*;generalize fG f (bF (cP x) (s::r))=B at*
     have hh:=Cm (n:=N) (val:=val) 4 (.inr rfl) [(A,va),(B,vb)] (by simp) (by
      intro k hk;simp only[bz,o5,oT]at hk
      rcases hk with rfl|rfl
      ·exact ha
      ·exact ih2)
     have e:decide ((4:Int)=3)=false:=by decide
     rw[e,HH]at hh;simpa using hh
end Go.Proofs.YtchjijfjidlpjaaGreatDoor
namespace Go.Proofs.YtchjijfjidlpjaaGreatDoor
open Go.AM Go.Proofs
variable{Γ:Nat->Option AV}
theorem Me:∀a b:List Bs,cp (a++b)=cp a+cp b
 |[],b=>by simp[cp]
 |s::a,b=>by rw[eo,cp,cp,Me a b];omega
theorem MW:∀(r a:List Bs),cp (fq a r)<=cp a+cp r
 |[],a=>by simp[fq,cp]
 |s::r,a=>by
  rw[fq];have h:=MW r (if a.contains s=true then a else a++[s])
  have h2:cp (if a.contains s=true then a else a++[s])<=cp a+(bp s 0).length:=by
   split
   ·omega
   ·rw[Me];simp[cp]
  rw[cp];omega
theorem Pc{rows:List Bs}{n:Int}(h:r_ n rows=false):∃m:Nat,n=m/\m<=8/\rows.length<=128/\∀s∈rows,s.all mM=true/\s.length=m:=by
 simp only[r_,kJ,iD]at h;obtain⟨h1,h2,h3,h4⟩:=h;obtain⟨m,rfl⟩:=gB (show 0<=n by omega);refine⟨m,rfl,by omega,by omega,fun s hs=>?_⟩;have:=kR.1 h4 s hs;simpa[pB]using this
theorem aeU{rows:List Bs}{m:Nat}(hm:m<=8)(hl:rows.length<=128)(hs:∀s∈rows,s.length=m):cp (fq [] rows)<=1024:=by
 have h1:=MW rows [];have h2:=Ht hs;have h3:rows.length*m<=128*8:=Nat.mul_le_mul hl hm;have h0:cp []=0:=rfl;omega
theorem P5{rows:List Bs}{n:Int}(h:r_ n rows=false)(val:Int->Bool):Dw n val (kY rows n)=some (bH (fo val) rows):=by
 obtain⟨m,rfl,h1,h2,h3⟩:=Pc h
 have hc:=aeU h1 h2 fun s hs=>(h3 s hs).2
 have hl:=tx (cp (fq [] rows)+1) (fq [] rows)
 have hr:=BJ m val (cp (fq [] rows)+1) (fq [] rows) (by omega) fun s hs=>(h3 s (by simpa using(zf rows []).1 hs)).2
 have he:bH (fo val) (fq [] rows)=bH (fo val) rows:=by
  rw[fT,Cl,Cl];constructor
  ·rintro⟨s,h4,h5⟩;exact⟨s,by simpa using(zf rows []).1 h4,h5⟩
  ·rintro⟨s,h4,h5⟩;exact⟨s,(zf rows []).2 (.inr h4),h5⟩
 have h4:=hr [] (fG (cp (fq [] rows)+1) (fq [] rows)).length (by simp);rw[ee,he]at h4
 have e0:kY rows m=fG (cp (fq [] rows)+1) (fq [] rows):=by unfold kY;rw[h];rfl
 rw[e0];unfold Dw;rw[if_pos ⟨by omega,by omega,by omega⟩,h4]
def jk:List Bool->Nat
 |[]=>0
 |v::l=>(if v=true then 1 else 0)+jk l
theorem Qk:∀l:List Bool,jk l<=l.length
 |[]=>aQ _
 |v::l=>by rw[jk,bE];have:=Qk l;split<;>omega
def wv:Bs->List Bool->Bool
 |c::s,v::l=>(decide (c=45)||decide (decide (c=49)=v))&&wv s l
 |_,_=>true
def Et(op:Int)(l:List Bool):Bool:=if op=0\/op=1 then false else if op=2\/op=3\/op=4\/op=5 then decide (jk l=l.length)else if op=6\/op=7 then decide (0<jk l)else decide (jk l%2=1)
def EF(op:Int):Bool:=decide (op=1\/op=3\/op=5\/op=7\/op=9)
def Rj(g:Gt)(ins:List Bool):Bool:=jj g&&decide (ins.length=g.ins.length)
def Ae(g:Gt)(ins:List Bool):Bool:=if g.op=10 then !decide (bH (fun s=>wv s ins) g.rows=g.off)else !decide (Et g.op ins=EF g.op)
def z_(g:Gt)(ins:List Bool):Bool:=Rj g ins&&Ae g ins
def qY(n:Int):FuncId:=if n<=1 then xH else if n<=5 then uP else if n<=7 then uO else uQ
abbrev J9(f:FuncId)(t:Int):AV:=.agg [.fn (.func f) [] [],.int .i64 t]
def DS(n:Int):Option AV:=if 0<=n/\n<=9 then some (J9 (qY n) (n%2))else none
def An(Γ:Nat->Option AV):Prop:=∃ks vs,Γ Sp=some (.du ks vs)/\∀n:Int,eT (.sc .int) (.int .i64 n) (ks.zip vs)=some (DS n)
def nH(n:Int)(x:Gr)(ins:List Nat):Gr×Option Nat:=if n<=1 then(x,some 0)else if n<=5 then iJ 0 x ins else if n<=7 then eF (·^^^1) (iJ 1 x ins)else Ac x ins
def II(x:Gr)(g:Gt)(ins:List Nat):Gr×Option (Nat×List Fm):=jw ins (kY g.rows g.ins.length).length x (kY g.rows g.ins.length)
def jS(x:Gr)(g:Gt)(ins:List Nat):Gr×Option Nat:=
 if 0<=g.op/\g.op<=9 then eF (·^^^(g.op%2).toNat) (nH g.op x ins)else eF (fun p=>if g.off=true then p.1^^^1 else p.1) (II x g ins)
theorem NJ(n:Int){x:Gr}(ok:x.Ok){ins:List Nat}(hi:∀a∈ins,a<x.lits):kx x (nH n x ins):=by
 unfold nH
 split
 ·exact⟨.refl ok,fun d hd=>by cases hd;exact zj x⟩
 ·split
  ·exact y7 (by omega) ok hi
  ·split
   ·exact(y7 (by omega) ok hi).Dx (by omega)
   ·exact abt ok hi
theorem MI{x:Gr}(ok:x.Ok)(g:Gt){ins:List Nat}(hi:∀a∈ins,a<x.lits):kx x (jS x g ins):=by
 unfold jS
 split
 ·exact(NJ _ ok hi).Dx (by omega)
 ·have h:=tE ins (kY g.rows g.ins.length).length x (kY g.rows g.ins.length) ok hi;refine⟨h.1,fun d hd=>?_⟩;simp only[eF,cf]at hd;obtain⟨p,hp,rfl⟩:=hd;have:=h.2 p hp
  split
  ·exact HQ (n:=(II x g ins).1.all) this
  ·exact this
theorem Qn{g:Gt}(h:jj g=true):(0<=g.op/\g.op<=9/\lg g.op g.ins.length=true)\/(g.op=10/\g.ins.length<=8/\r_ g.ins.length g.rows=false):=by
 unfold jj at h
 by_cases h10:g.op=10
 ·rw[if_pos h10]at h;simp only[ay,aZ,j7]at h;refine .inr ⟨h10,h.1,?_⟩;unfold r_;simp only[kJ,iD,dX];exact⟨by omega,by omega,by omega,h.2.2⟩
 ·rw[if_neg h10]at h;simp only[ay]at h;have h2:=h.2;refine .inl ?_;unfold lg at h2
  split at h2
  ·exact⟨by omega,by omega,h.2⟩
  ·split at h2
   ·exact⟨by omega,by omega,h.2⟩
   ·split at h2
    ·exact⟨by omega,by omega,h.2⟩
    ·cases h2
theorem Re{op:Int}{n:Nat}(h:lg op n=true)(h2:2<=op):n≠0:=by
 unfold lg at h
 rintro rfl
 split at h
 ·simp at h
 ·rw[if_neg (by omega)]at h
  split at h
  ·simp at h
  ·cases h
theorem ai8(n:Int)(h0:0<=n)(h9:n<=9)(ins:List Nat)(hins:2<=n->ins≠[])(hl:ins.length<2^40){ki:Nat}(hki:Kd 1 ki ins){i:Nat}(x:Gr){h:List Ob}(hi:h[i]? =some (cJ x))(hw:bS h)(ok:x.Ok)(hlt:∀a∈ins,a<x.lits)(up:List Fr):
 AM.Reach Tryz.prog Γ (.cl (qY n) [.ptr i 0,.list false ki (ins.map iN)] up h) (cV iN i up h (nH n x ins)):=by
 unfold qY nH
 split
 ·simp only[cV,zO hi];exact afk up
 ·split
  ·exact RM ins (hins (by omega)) hl hki x hi hw ok hlt up
  ·split
   ·exact Rt ins (hins (by omega)) hl hki x hi hw ok hlt up
   ·exact ahc ins (hins (by omega)) hl hki x hi hw ok hlt up
theorem agL(n:Int):az Tryz.prog (qY n)=true:=by
 unfold qY
 split
 ·simp
 ·split
  ·simp
  ·split<;>simp
set_option maxRecDepth 8000 in
theorem agi(hΓ:An Γ)(g:Gt)(hg:jj g=true)(hf:wi g)(ins:List Nat)(hil2:ins.length=g.ins.length){ki:Nat}(hki:Kd 1 ki ins){i:Nat}(x:Gr){h:List Ob}(hi:h[i]? =some (cJ x))(hw:bS h)(hv:gV h)(ok:x.Ok)(hlt:∀a∈ins,a<x.lits)(up:List Fr):
 AM.Reach Tryz.prog Γ (.cl xI [.ptr i 0,cW g,.list false ki (ins.map iN)] up h) (cV iN i up h (jS x g ins)):=by
 obtain⟨ks,vs,hG,hF⟩:=hΓ;have hF:=hF g.op;simp only[Sp]at hG;have hil:=aV hi;have hle:=kQ ok
 have hget:=fun os=>fF hi os
 have hset:∀(o:Ob)(os:List Ob),(h++os).set i o=h.set i o++os:=fun o os=>lz _ _ hil
 have hb1:=hf.2.1
 rcases Qn hg with⟨h0,h9,ho⟩|⟨h10,h8,hwr⟩
 ·have hB:=ai8 (Γ:=Γ) g.op h0 h9 ins (fun h2=>by
   have:=Re ho h2
   rintro rfl
   simp at hil2;omega) (by omega) hki x (h:=h++[.cells (AV.cells (cW g)),.cells [.fn (.func (qY g.op)) [] [],.int .i64 (g.op%2)]]) (hget _) (by
   intro m hm;simp at hm
   simp[hw m (by omega)]) ok hlt
  have hfi:=NJ g.op ok hlt;have hbb:=agL g.op
  have ht:(g.op%2).toNat<=1:=by omega
  refine tK [.cells (AV.cells (cW g)),.cells [.fn (.func (qY g.op)) [] [],.int .i64 (g.op%2)]] hw hil (by simp) ?_;unfold jS;rw[if_pos ⟨h0,h9⟩];unfold DS at hF;rw[if_pos ⟨h0,h9⟩]at hF;refine .bt 60 LO ?_;simp[hG,hF,isKey,bN,b9];unfold eF;unfold cV at hB⊢;simp only[hset]at hB⊢
  cases h9:(nH g.op x ins).2 with
  |none=>
   simp only[h9,uC]at hB⊢;refine .R6 ?_;simp;refine gy.die (.int .i64 0) hbb (fun its t' _=>.kZ 60 hB ?_) ?_
   ·simp
   ·simp;exact .of (by simp)
  |some d=>
   have hd:=hfi.2 d h9;have hle2:=kQ hfi.1.ok;have hx:=R4 (a:=d) (t:=(g.op%2).toNat) ht (by omega);rw[show(((g.op%2).toNat:Nat):Int)=g.op%2 by omega]at hx;simp only[h9,dm]at hB⊢;refine .ea 60 ?_;simp;refine gy.reach hbb hB ?_;simp[hx]
 ·have hFc:=adm (Γ:=Γ) g.rows g.ins.length g.hr;have hV:=P5 hwr (fun _=>false);have hff:=tE ins (kY g.rows g.ins.length).length x (kY g.rows g.ins.length) ok hlt;unfold jS;rw[if_neg (by omega)];unfold DS at hF;rw[if_neg (by omega)]at hF
  have hVr:∃v l',eU g.ins.length (fun _=>false) (kY g.rows g.ins.length).length (kY g.rows g.ins.length)=some (v,l')/\(kY g.rows g.ins.length).length<=4000:=by
   unfold Dw at hV
   split at hV
   ·rename_i h4
    split at hV
    ·rename_i v h5;exact⟨v,[],h5,h4.1⟩
    ·cases hV
   ·cases hV
  obtain⟨v,l',hVr,hl4⟩:=hVr;unfold II;generalize kY g.rows g.ins.length=F at*
  have hfo:=QK (Γ:=Γ) ins hki (by omega) (fun _=>false) F.length F (by omega) (v:=v) (l':=l') (by rw[hil2];exact hVr) x
   (h++[.cells (AV.cells (cW g)),.cells [.dS,.int .i64 0],.row 3 aU (F.map bd) none true true]) i (hget _) (by
    intro m hm;simp at hm
    simp[hw m (by omega)]) (by
    intro m k hm;simp at hm
    simp[hv m k (by omega)]) ok hlt
  refine tK [.cells (AV.cells (cW g)),.cells [.dS,.int .i64 0],.row 3 aU (F.map bd) none true true] hw hil (by simp) ?_;refine .bt 60 LO ?_;simp[hG,hF,isKey,bN,b9];refine .kW 7 (by simp) hFc ?_;simp;refine .trees [9] ?_;simp[R9,eS];have htk:(F.map bd).take F.length=F.map bd:=cR (by simp);refine .a8 60 ?_;simp[htk];unfold cV at hfo⊢;unfold eF;simp only[hset]at hfo⊢
  cases h9:(jw ins F.length x F).2 with
  |none=>
   simp only[h9,uC]at hfo⊢;refine .kZ 60 hfo ?_;simp
  |some p=>
   obtain⟨c,l2⟩:=p;have hc:=hff.2 _ h9;have hle2:=kQ hff.1.ok;simp only at hc;simp only[h9,dm]at hfo⊢;refine .aW 60 hfo ?_
   have h7:∀o,(h.set i o).length=h.length:=by simp
   have h8:∀(o:Ob)(os:List Ob)(k:Nat),(h.set i o++os)[h.length+k]? =os[k]? :=fun o os k=>by rw[<-h7 o,age]
   have h8':∀(o:Ob)(os:List Ob),(h.set i o++os)[h.length]? =os[0]? :=fun o os=>h8 o os 0
   cases hoff:g.off with
   |true=>simp(disch:=omega) [h8,h8',hoff]
   |false=>simp(disch:=omega) [h8,h8',hoff]
theorem QQ{n:Nat}{τ:List Nat}{k:Nat}{E:TypeId}{es:List AV}(ho:ek n τ es=true):∀{h:List Ob}(j:Nat),gz n τ h=true->gz n τ (h.set j (.row k E es none false false))=true
 |[],_,h1=>h1
 |o'::h,0,h1=>by
  have h2:gz n τ h=true:=by cases o'<;>simp only[gz,ay]at h1<;>exact h1.2
  simp[gz,l7,ho,h2]
 |o'::h,j+1,h1=>by
  cases o'<;>simp only[gz,ay,rp]at h1⊢<;>exact⟨h1.1,QQ ho j h1.2⟩
theorem Qy{n:Nat}{τ:List Nat}(o:Ob):∀{h:List Ob}(j:Nat),cr n h=true->jD n τ (h.set j o)=h.set j (lq n τ o)
 |[],_,_=>rfl
 |o'::h,0,h1=>by
  simp only[cr,ay]at h1;simp only[wX,jD,rT h1.2]
 |o'::h,j+1,h1=>by
  simp only[cr,ay]at h1;simp only[rp,jD,QO h1.1,Qy o j h1.2]
theorem ZN{n N m:Nat}(h:m<N)(v:AV):(dQ n N m).set m v=(List.range m).map (fun i=>AV.mp (n+(3+(N+i))))++(v::List.replicate (N-(m+1)) .dp):=by
 rw[dQ,xu _ _ (by simp),show N-m=(N-(m+1))+1 by omega,l9];simp
theorem abe{n N m:Nat}(h:m<N):(List.range m).map (fun i=>AV.mp (n+(3+(N+i))))++(.mp (n+(3+(N+m)))::List.replicate (N-(m+1)) .dp)=dQ n N (m+1):=by
 rw[dQ,E5];simp
theorem afG{n N m q:Nat}(h:n+(3+(N+m))<=q):aK q ((List.range m).map (fun i=>AV.mp (n+(3+(N+i)))))=true:=by
 have:=G2 h;rw[dQ,FU,ay]at this;exact this.1
theorem O4(q:Nat):∀k,aK q (List.replicate k AV.dp)=true
 |0=>rfl
 |k+1=>by simp[l9,O4 q k]
theorem ahA{H:List Ob}{nd b:List (List Nat)}(h:nd.length<b.length):(hQ H nd b).set (H.length+1) (.row 1 n4 (dQ H.length b.length (nd.length+1)) none false false)++[.map [] true]=hQ H (nd++[[]]) b:=by
 have e:H.length+1=H.length+1:=rfl;rw[hQ,Dd,hQ,cI];have f6:decide ((nd++[[]]).length=0)=false:=xv (by simp);simp[hF,iT]
theorem Zn(c:AV):fD [c] .dp=c:=rfl
def ga(pl:List (Bs×Nat)):List Gt->Nat->List (List Nat)->List (List Nat)->List (List Nat)×List (List Nat)
 |[],_,nd,b=>(nd,b)
 |g::r,i,nd,b=>ga pl r (i+1) (nd++[fj pl g.ins []]) (jW pl i g.ins [] b)
theorem zF(pl:List (Bs×Nat))(i:Nat):∀(l:List Bs)(a:List Nat)(b:List (List Nat)),(jW pl i l a b).length=b.length
 |[],_,_=>rfl
 |s::r,a,b=>by
  rw[jW]
  split
  ·exact zF pl i r a b
  ·rw[zF];split<;>simp
theorem H_(pl:List (Bs×Nat))(i M:Nat):∀(l:List Bs)(a:List Nat)(b:List (List Nat)),(∀x∈b,x.length<=M)->∀x∈jW pl i l a b,x.length<=M+l.length
 |[],_,_,h=>fun x hx=>by have:=h x hx;simpa using this
 |s::r,a,b,h=>fun x hx=>by
  rw[jW]at hx
  have hM:∀x∈b,x.length<=M+1:=fun x hx=>by have:=h x hx;omega
  have key:∀(b':List (List Nat))(a':List Nat),(∀x∈b',x.length<=M+1)->x∈jW pl i r a' b'->x.length<=M+(s::r).length:=fun b' a' h1 h2=>by
   have:=H_ pl i (M+1) r a' b' h1 x h2
   simp only[bE];omega
  split at hx
  ·exact key _ _ hM hx
  ·rename_i k _
   split at hx
   ·exact key _ _ hM hx
   ·refine key _ _ (fun y hy=>?_) hx
    rcases pT hy with h1|h1
    ·exact hM y h1
    ·rw[h1,bu,uE]
     by_cases hk:k<b.length
     ·rw[bq,aR hk];have:=h _ (bw hk)
      simp only[j4];omega
     ·rw[bq,fS (by omega)];simp
theorem ad1{H:List Ob}{nd b:List (List Nat)}{p:Nat}(h:p<H.length)(o:Ob):(hQ H nd b).set p o=hQ (H.set p o) nd b:=by
 rw[hQ,lz _ _ h,hQ,jZ]
set_option maxRecDepth 8000 in
theorem afb(c:Ct)(hc:cK c){H:List Ob}(hw:bS H)(hv:gV H){m0:Nat}(hm:H[m0]? =some (.map ((cu c).map iW) true))(up:List Fr)(base:Nat)(hbase:base<=H.length)(p2:Nat)(hp2:p2<H.length)(C:AM.ar)(i:Nat)(hi:i<c.af.length)(nd b:List (List Nat))(hnd:nd.length=i)(hb:b.length=c.af.length)(hbl:∀l∈b,l.length<=2^20+i*2^10)
 (hC:AM.Reach Tryz.prog Γ (KU (.ptr p2 0) (.mp m0) (.ptr H.length 0) (.list false c.kG (c.af.map cW)) (.int .i64 c.af.length) (.int .i64 (i+1:Nat)) (hQ H (nd++[fj (cu c) c.af[i].ins []]) (jW (cu c) i c.af[i].ins [] b)) ⟨[],.norm,base,up⟩) C):
 AM.Reach Tryz.prog Γ (KU (.ptr p2 0) (.mp m0) (.ptr H.length 0) (.list false c.kG (c.af.map cW)) (.int .i64 c.af.length) (.int .i64 i) (hQ H nd b) ⟨[],.norm,base,up⟩) C:=by
 have q2:=bR (c.hG.of hi);have xw:=I' (H:=H) (nd:=nd) (b:=b);have xn:=I0 (H:=H) (nd:=nd) (b:=b);have yl:=B5 (n:=H.length) (N:=b.length) (m:=nd.length) (by omega);have hlen:=my (H:=H) (nd:=nd) (b:=b);have hm0:=aV hm;have hnew:=ahA (H:=H) (nd:=nd) (b:=b) (by omega);have hsp:=ZN (n:=H.length) (N:=b.length) (m:=nd.length) (by omega) (.mp ((hQ H nd b).length+3));have hsu:=abe (n:=H.length) (N:=b.length) (m:=nd.length) (by omega);have hwf:=aiv (nd:=nd) (b:=b) hw (hQ H nd b).length (aQ _);have hbm:=afG (n:=H.length) (N:=b.length) (m:=nd.length) (q:=(hQ H nd b).length) (by omega);have hbn:=O4 (hQ H nd b).length (b.length-(nd.length+1))
 have yc:∀h,(dQ H.length b.length nd.length)[nd.length]'h=.dp:=fun h=>by
  have e:(dQ H.length b.length nd.length)[nd.length]? =some .dp:=by
   rw[dQ,dk (by simp),fC,pV,EX,show b.length-nd.length=(b.length-(nd.length+1))+1 by omega,l9];rfl
  exact(db.1 e).2
 have hin:=afm (Γ:=Γ) c hc hw hv hm nd i hi hnd up base hbase p2 c.af[i].ins.length 0 (by omega) [] b hb (fun l hl=>by have:=hbl l hl;omega);subst hnd;rw[hb]at xw xn yl hlen hnew hsp hsu hbm hbn yc
 have w1:∀os,(hQ H nd b++os)[H.length]? =some (.cells [.sl (H.length+1) 0 c.af.length,.sl (H.length+2) 0 c.af.length]):=fun os=>fF xw os
 have w2:∀os,(hQ H nd b++os)[H.length+1]? =some (.row 1 n4 (dQ H.length c.af.length nd.length) none (decide (nd.length=0)) false):=fun os=>fF xn os
 have w3:∀os o,(hQ H nd b++os).set (H.length+1) o=(hQ H nd b).set (H.length+1) o++os:=fun os o=>lz _ _ (by rw[hlen];omega)
 have w4:∀o os,((hQ H nd b).set (H.length+1) o++os)[(hQ H nd b).length]? =os[0]? :=fun o os=>by rw[dk (by simp)];simp
 have hX:(hQ H nd b).length=H.length+(3+(c.af.length+nd.length)):=hlen;generalize hQ H nd b=X at*;clear hlen
 have hb2:base<=X.length:=by omega
 have hX1:H.length<X.length:=by omega
 have hX2:H.length+1<X.length:=by omega
 have hX3:p2<X.length:=by omega
 have hX4:m0<X.length:=by omega
 refine .a8 60 ?_;simp(disch:=omega) [hi,q2,w1,w2,w3,w4,yl,yc,Zn];rw[hsp]
 have hmp:(AV.mp (H.length+(3+(c.af.length+nd.length))))=.mp X.length:=by rw[hX]
 rw[hmp]at hsu;refine .trans (.oF [6,27,28,29,30,31,32,33,34,35] _) ?_;simp[oA]
 refine .q9 X.length [3] (by
  simp[hb2,hX1,hX3,hX4]
  exact QQ (by simp[nh hbm,nh hbn]) _ (rS hwf)) (by decide) ?_
 have hlt3:(X.length+3<X.length)=False:=nY (by omega);simp[hX1,hX3,hX4,Qy _ _ hwf,lK hbm,lK hbn,hlt3];rw[hsu,hnew];refine .inLoop ?_;simp at hin⊢;refine .trans hin ?_;refine .a8 60 ?_
 have hB:nd.length<2^10:=by have:=hc.2.2.2.1;omega
 simp(disch:=omega);refine .aO ?_;simp at hC⊢;exact hC
set_option maxRecDepth 8000 in
theorem agz(c:Ct)(hc:cK c){H:List Ob}(hw:bS H)(hv:gV H){m0:Nat}(hm:H[m0]? =some (.map ((cu c).map iW) true))(up:List Fr)(base:Nat)(hbase:base<=H.length)(p2:Nat)(hp2:p2<H.length){r0 r1:AV}(hr:H[p2]? =some (.cells [r0,r1])):∀n i:Nat,i+n=c.af.length->∀nd b:List (List Nat),nd.length=i->b.length=c.af.length->(∀l∈b,l.length<=2^20+i*2^10)->
 AM.Reach Tryz.prog Γ (KU (.ptr p2 0) (.mp m0) (.ptr H.length 0) (.list false c.kG (c.af.map cW)) (.int .i64 c.af.length) (.int .i64 i) (hQ H nd b) ⟨[],.norm,base,up⟩)
  (.back up (.agg [.sl (H.length+1) 0 c.af.length,.sl (H.length+2) 0 c.af.length]) (hQ (H.set p2 (.cells [.sl (H.length+1) 0 c.af.length,.sl (H.length+2) 0 c.af.length])) (ga (cu c) (c.af.drop i) i nd b).1 (ga (cu c) (c.af.drop i) i nd b).2)):=by
 intro n
 induction n with
 |zero=>
  intro i hi nd b hnd hb hbl
  have q1:¬i<c.af.length:=by omega
  rw[bA (by omega),ga];have xw:=I' (H:=H) (nd:=nd) (b:=b)
  have xp:(hQ H nd b)[p2]? =some (.cells [r0,r1]):=by rw[IS hp2];exact hr
  have xs:=fun o=>ad1 (nd:=nd) (b:=b) hp2 o
  have xp2:∀o,((hQ H nd b).set p2 o)[p2]? =some o:=fun o=>by rw[eI (by rw[my];omega)]
  rw[hb]at xw;refine .a8 60 ?_;simp[q1,xw,xp,xp2];rw[xs];exact .refl _
 |succ n ih=>
  intro i hi nd b hnd hb hbl
  have q1:i<c.af.length:=by omega
  have hiB:c.af[i].ins.length<2^10:=(hc.2.2.2.2.1 _ (bw q1)).2.1;rw[bJ q1,ga];refine afb c hc hw hv hm up base hbase p2 hp2 _ i q1 nd b hnd hb hbl ?_
  exact ih (i+1) (by omega) _ _ (by simp[hnd]) (by rw[zF];exact hb) (fun l hl=>by
   have:=H_ (cu c) i (2^20+i*2^10) c.af[i].ins [] b hbl l hl
   rw[E7];omega)
def eu(c:Ct):List (List Nat):=(ga (cu c) c.af 0 [] (List.replicate c.af.length [])).1
def bK(c:Ct):List (List Nat):=(ga (cu c) c.af 0 [] (List.replicate c.af.length [])).2
def iV(c:Ct)(n:Nat)(x y:AV):List Ob:=[.cells (AV.cells (cN c)),.cells [x,y],.row 1 n4 [] none true false,.row 1 jK [] none true false,.cells (AV.cells (cN c)),.map ((cu c).map iW) true]
def iM(c:Ct)(h:List Ob):List Ob:=h++iV c h.length (.sl (h.length+7) 0 c.af.length) (.sl (h.length+8) 0 c.af.length)
theorem kN(c:Ct)(h:List Ob):(iM c h).length=h.length+6:=by simp[iM,iV]
theorem qB(i m:Nat):∀l:List (Bs×Nat),oB i m (l.map iW)=true
 |[]=>rfl
 |x::l=>by simp[qB i m l]
set_option maxRecDepth 8000 in
theorem ahf(c:Ct)(hc:cK c)(hd:(c.af.map (·.name)).Nodup){h:List Ob}(hw:bS h)(hv:gV h):∀up,AM.Reach Tryz.prog Γ (.cl n7 [cN c] up h)
 (.back up (.agg [.sl ((iM c h).length+1) 0 c.af.length,.sl ((iM c h).length+2) 0 c.af.length]) (hQ (iM c h) (eu c) (bK c))):=by
 intro up;have hN:=hc.2.2.2.1;generalize hH:h++iV c h.length (.sl (h.length+2) 0 0) (.sl (h.length+3) 0 0)=H
 have hHl:H.length=h.length+6:=by rw[<-hH];simp[iV]
 have hp:H[h.length]? =some (.cells (AV.cells (cN c))):=by rw[<-hH];simp[iV]
 have hp2:H[h.length+1]? =some (.cells [.sl (h.length+2) 0 0,.sl (h.length+3) 0 0]):=by rw[<-hH];simp[iV]
 have hm:H[h.length+5]? =some (.map ((cu c).map iW) true):=by rw[<-hH];simp[iV]
 have hwH:bS H:=fun m hm=>by
  have h1:=hw m (by omega);have h2:=pq m (cu c);rw[<-hH,qd,h1]
  simp[iV,h2];omega
 have hvH:gV H:=fun i m hi=>by
  have h1:=hv i m (by omega);have h2:=qB i m (cu c);rw[<-hH,jH,h1]
  simp[iV,h2];omega
 have hend:H.set (h.length+1) (.cells [.sl (H.length+1) 0 c.af.length,.sl (H.length+2) 0 c.af.length])=iM c h:=by
  rw[<-hH,Dd,iM];simp[iV]
 have hL:=agz (Γ:=Γ) c hc hwH hvH hm up h.length (by omega) (h.length+1) (by omega) hp2 c.af.length 0 (by omega) [] (List.replicate c.af.length []) rfl (by simp) (by simp)
 have hcv:=fun f=>ahG (Γ:=Γ) H c.af.length f up c.af.length 0 (by omega)
 rw[abG,aaN]at hcv;rw[hend,fg,hHl]at hL;refine .bt 60 Zr ?_;simp;refine .trans (P3 c hc hd ?_ _) ?_
 ·intro m hm;simp at hm;have h1:=hw m (by omega)
  simp[h1];omega
 have e2:h.length+1+1=h.length+2:=rfl;have e3:h.length+1+1+1=h.length+3:=rfl;have e5:h.length+4+1=h.length+5:=rfl;refine .trans (.pop _) (.a8 60 ?_);simp[e2,e3,e5];refine .trans (.oF [0,11,12] _) ?_;simp[oA]
 have hR:=fun k hk C hC=>afp (Γ:=Γ) (c:=c) (p:=h.length) (x2:=.ptr (h.length+1) 0) (x3:=.mp (h.length+5)) (H:=H) (up:=up) (base:=h.length) (k:=k) (C:=C) hc hp (hwH _ (aQ _)) (by omega) (by simp;omega) (by simp;omega) hk hC
 rw[<-hH]at hR;simp[iV]at hR;refine hR _ ?_ _ ?_
 ·simp
 have hcv':∀f,AM.Reach Tryz.prog Γ (.fr f up (h++(iV c h.length (.sl (h.length+2) 0 0) (.sl (h.length+3) 0 0)++hW c (h.length+6)))) (.fr f up (hQ H [] (List.replicate c.af.length []))):=fun f=>by
  rw[<-cI,hH,<-hHl];exact hcv f
 simp[iV]at hcv';refine .trans (hcv' _) ?_;refine .a8 60 ?_;have hq:=IS (H:=H) (nd:=[]) (b:=List.replicate c.af.length []) (aV hp);rw[hp]at hq;simp[hq];refine .inLoop ?_;simp at hL⊢;rw[kN];simp[eu,bK];exact hL
def hP(A:List Ob)(l s:List Nat)(g:Option Nat):List Ob:=A++[.row 1 aq ((l++s).map iN) g true false,.cells [.sl A.length 0 l.length]]
def swp(l:List Nat)(i j:Nat):List Nat:=(l.set i (l.getD j 0)).set j (l.getD i 0)
section
variable{A:List Ob}{l s:List Nat}{g:Option Nat}
theorem zS:(hP A l s g).length=A.length+2:=by simp[hP]
theorem wD:(hP A l s g)[A.length]? =some (.row 1 aq ((l++s).map iN) g true false):=by simp[hP]
theorem pH:(hP A l s g)[A.length+1]? =some (.cells [.sl A.length 0 l.length]):=by
 rw[hP,dk (by omega)];simp
theorem qR{i:Nat}(h:i<A.length):(hP A l s g)[i]? =A[i]? :=by rw[hP,cz h]
theorem agO{l' s':List Nat}(h:l'.length=l.length):(hP A l s g).set A.length (.row 1 aq ((l'++s').map iN) g true false)=hP A l' s' g:=by
 have:=Dd A [.row 1 aq ((l++s).map iN) g true false,.cells [.sl A.length 0 l.length]] 0 (.row 1 aq ((l'++s').map iN) g true false);rw[gZ]at this
 rw[hP,this,hP,h];rfl
theorem dY(i j:Nat):(swp l i j).length=l.length:=by simp[swp]
theorem Df{L:List Nat}{i:Nat}(h:i<L.length):(L.map iN)[i]? =some (.int .i64 (L.getD i 0:Nat)):=by simp[h]
end
theorem Dq(A:List Ob)(l s:List Nat)(g:Option Nat)(hg:g=none\/g=some 0/\s=[]):∀up,AM.Reach Tryz.prog Γ (.cl uU [.sl A.length 0 l.length] up (hP A l s g)) (.back up (.int .i64 l.length) (hP A l s g)):=by
 intro up;have xr:=wD (A:=A) (l:=l) (s:=s) (g:=g)
 have hl2:s=[]->((l++s).map iN).length=l.length:=fun h=>by rw[h];simp
 generalize hP A l s g=X at*;generalize hL:(l++s).map iN=L at*
 have hl:l.length<=L.length:=by rw[<-hL];simp
 rcases hg with rfl|⟨rfl,rfl⟩
 ·refine .bt 60 LX ?_;simp[xr]
 ·have hl3:=hl2 rfl;refine .bt 60 LX ?_;simp[xr,hl3]
theorem zU(A:List Ob)(l s:List Nat)(g:Option Nat)(hg:g=none\/g=some 0/\s=[]){i j:Nat}(hi:i<l.length)(hj:j<l.length):∀up,AM.Reach Tryz.prog Γ (.cl xN [.sl A.length 0 l.length,.int .i64 i,.int .i64 j] up (hP A l s g)) (.back up (.bool (decide (l.getD i 0<l.getD j 0))) (hP A l s g)):=by
 intro up;have xr:=wD (A:=A) (l:=l) (s:=s) (g:=g)
 have e:∀k,k<l.length->(l++s).getD k 0=l.getD k 0:=fun k hk=>by simp[cz hk]
 have gi:=Df (L:=l++s) (i:=i) (by simp;omega);have gj:=Df (L:=l++s) (i:=j) (by simp;omega);rw[e i hi]at gi;rw[e j hj]at gj;generalize hP A l s g=X at*;generalize hL:(l++s).map iN=L at*
 have hl:l.length<=L.length:=by rw[<-hL];simp
 obtain⟨_,gi'⟩:=db.1 gi;obtain⟨_,gj'⟩:=db.1 gj;generalize l.getD i 0=vi at*;generalize l.getD j 0=vj at*
 have hl2:s=[]->L.length=l.length:=fun h=>by rw[<-hL,h];simp
 rcases hg with rfl|⟨rfl,rfl⟩
 ·refine .bt 60 LU ?_;simp(disch:=omega) [xr,gi,gj,gi',gj',hi,hj,hl,fD]
 ·have hl3:=hl2 rfl;refine .bt 60 LU ?_;simp(disch:=omega) [xr,gi,gj,gi',gj',hi,hj,hl3,fD]
theorem SH{A:List Ob}{l s:List Nat}{i:Nat}{v:Nat}(hi:i<l.length):((l++s).map iN).set i (.int .i64 v)=(l.set i v++s).map iN:=by
 rw[j5,lz _ _ (by simpa using hi),j5,rz]
theorem zX(A:List Ob)(l s:List Nat)(g:Option Nat)(hg:g=none\/g=some 0/\s=[]){i j:Nat}(hi:i<l.length)(hj:j<l.length):∀up,AM.Reach Tryz.prog Γ (.cl xM [.sl A.length 0 l.length,.int .i64 i,.int .i64 j] up (hP A l s g)) (.back up (.aH []) (hP A (swp l i j) s g)):=by
 intro up;have xr:=wD (A:=A) (l:=l) (s:=s) (g:=g);have xl:=zS (A:=A) (l:=l) (s:=s) (g:=g)
 have e:∀k,k<l.length->(l++s).getD k 0=l.getD k 0:=fun k hk=>by simp[cz hk]
 have gi:=Df (L:=l++s) (i:=i) (by simp;omega);have gj:=Df (L:=l++s) (i:=j) (by simp;omega);rw[e i hi]at gi;rw[e j hj]at gj
 have fin:(hP A l s g).set A.length (.row 1 aq ((((l++s).map iN).set i (.int .i64 (l.getD j 0))).set j (.int .i64 (l.getD i 0))) g true false)=hP A (swp l i j) s g:=by
  rw[SH (A:=A) hi,SH (A:=A) (by simpa using hj)];exact agO (by simp)
 have hr:A.length<(hP A l s g).length:=by omega
 clear xl;generalize hP A l s g=X at*;generalize hL:(l++s).map iN=L at*
 have hl:l.length<=L.length:=by rw[<-hL];simp
 have hiL:i<L.length:=by omega
 have hjL:j<L.length:=by omega
 generalize l.getD i 0=vi at*;generalize l.getD j 0=vj at*;obtain⟨_,gi'⟩:=db.1 gi;obtain⟨_,gj'⟩:=db.1 gj;obtain⟨_,xr'⟩:=db.1 xr
 have gs:(L.set i (.int .i64 vj))[j]? =some (.int .i64 vj):=by
  by_cases hij:i=j
  ·subst hij;rw[eI hiL]
  ·rw[dM hij];exact gj
 have hl2:s=[]->L.length=l.length:=fun h=>by rw[<-hL,h];simp
 rcases hg with rfl|⟨rfl,rfl⟩
 ·refine .bt 60 LS ?_;simp(disch:=omega) [xr,xr',gs,gi,gj,gi',gj',hi,hj,hl,hiL,hjL,fD];rw[fin];exact .refl _
 ·have hl3:=hl2 rfl;refine .bt 60 LS ?_;simp(disch:=omega) [xr,xr',gs,gi,gj,gi',gj',hi,hj,hl3,hiL,hjL,fD];rw[fin];exact .refl _
def nI(l:List Nat)(j:Nat):List Nat:=
 if j=0 then l else if l.getD j 0<l.getD ((j-1)/2) 0 then nI (swp l ((j-1)/2) j) ((j-1)/2)else l
termination_by j
decreasing_by omega
theorem ags(j:Nat):∀l:List Nat,(nI l j).length=l.length:=by
 induction j using Nat.strongRecOn with
 |_ j ih=>
  intro l;rw[nI]
  split
  ·rfl
  ·rename_i h0
   split
   ·rw[ih _ (by omega),dY]
   ·rfl
theorem So(j:Nat)(h:j≠0):((j:Int)-1).tdiv 2=(((j-1)/2:Nat):Int):=by
 have e:(j:Int)-1=((j-1:Nat):Int):=by omega
 rw[e,Int.tdiv_eq_ediv_of_nonneg (by omega)];rfl
theorem ai4(A:List Ob)(s:List Nat)(g:Option Nat)(hg:g=none\/g=some 0/\s=[])(up:List Fr)(base:Nat):∀(j:Nat)(l:List Nat),j<l.length->l.length<2^40->
 AM.Reach Tryz.prog Γ (yuD (.bT lB (.ptr (A.length+1) 0)) (.int .i64 j) (hP A l s g) ⟨[],.norm,base,up⟩) (.back up (.aH []) (hP A (nI l j) s g)):=by
 intro j
 induction j using Nat.strongRecOn with
 |_ j ih=>
  intro l hj hl;have xc:=pH (A:=A) (l:=l) (s:=s) (g:=g);rw[nI]
  by_cases h0:j=0
  ·rw[if_pos h0];subst h0;generalize hP A l s g=X at*;refine .a8 60 ?_;simp[xc]
  ·rw[if_neg h0];have hq:=So j h0
   have hlt:(j-1)/2<j:=by omega
   have hne:((((j-1)/2:Nat):Int)=(j:Int))=False:=nY (by omega);have hL:=zU (Γ:=Γ) A l s g hg hj (show(j-1)/2<l.length by omega);have hS:=zX (Γ:=Γ) A l s g hg (show(j-1)/2<l.length by omega) hj
   by_cases hc:l.getD j 0<l.getD ((j-1)/2) 0
   ·rw[if_pos hc];have hh:=ih _ hlt (swp l ((j-1)/2) j) (by rw[dY];omega) (by rw[dY];exact hl);rw[sY hc]at hL;generalize hP A l s g=X at*;generalize(j-1)/2=i at*;refine .a8 60 ?_;simp(disch:=omega) [xc,hq,hne];refine .aW 60 hL ?_;simp[xc];refine .aW 60 hS ?_;simp;refine .aO ?_;simp at hh⊢;exact hh
   ·rw[if_neg hc];rw[xv hc]at hL;generalize hP A l s g=X at*;generalize(j-1)/2=i at*;refine .a8 60 ?_;simp(disch:=omega) [xc,hq,hne];refine .aW 60 hL ?_;simp[xc]
theorem aia(A:List Ob)(s:List Nat)(g:Option Nat)(hg:g=none\/g=some 0/\s=[])(j:Nat)(l:List Nat)(hj:j<l.length)(hl:l.length<2^40):∀up,
 AM.Reach Tryz.prog Γ (.cl xK [.bT lB (.ptr (A.length+1) 0),.int .i64 j] up (hP A l s g)) (.back up (.aH []) (hP A (nI l j) s g)):=by
 intro up;have h:=ai4 (Γ:=Γ) A s g hg up (hP A l s g).length j l hj hl;generalize hP A l s g=X at*;refine .bt 60 Xo ?_;simp;refine .inLoop ?_;simp at h⊢;exact h
def gT(l:List Nat)(j n:Nat):Nat:=if j+1<n/\l.getD (j+1) 0<l.getD j 0 then j+1 else j
def ie(n:Nat)(l:List Nat)(i:Nat):List Nat×Nat:=
 if n<=2*i+1 then(l,i)else if l.getD (gT l (2*i+1) n) 0<l.getD i 0 then ie n (swp l i (gT l (2*i+1) n)) (gT l (2*i+1) n)else(l,i)
termination_by n-i
decreasing_by
 have:2*i+1<=gT l (2*i+1) n:=by unfold gT;split<;>omega
 omega
theorem zQ(l:List Nat)(j n:Nat):j<=gT l j n:=by unfold gT;split<;>omega
theorem C3(l:List Nat){j n:Nat}(h:j<n):gT l j n<n:=by unfold gT;split<;>omega
theorem acF(n:Nat):∀(m i:Nat)(l:List Nat),n-i<=m->(ie n l i).1.length=l.length:=by
 intro m
 induction m with
 |zero=>
  intro i l h;rw[ie,if_pos (by omega)]
 |succ m ih=>
  intro i l h;rw[ie]
  split
  ·rfl
  ·split
   ·have:=zQ l (2*i+1) n;rw[ih _ _ (by omega),dY]
   ·rfl
theorem ahp(A:List Ob)(s:List Nat)(g:Option Nat)(hg:g=none\/g=some 0/\s=[])(up:List Fr)(base:Nat)(n i0:Nat)(hn:n<2^40):∀(m i:Nat)(l:List Nat),n-i<=m->i<2^41->n<=l.length->(i<l.length)->
 AM.Reach Tryz.prog Γ (yuV (.bT lB (.ptr (A.length+1) 0)) (.int .i64 i0) (.int .i64 n) (.int .i64 i) (hP A l s g) ⟨[],.norm,base,up⟩) (.back up (.bool (decide (i0<(ie n l i).2))) (hP A (ie n l i).1 s g)):=by
 intro m
 induction m with
 |zero=>
  intro i l hm hi hnl hil;obtain⟨j1,hj1⟩:∃j1,j1=2*i+1:=⟨_,rfl⟩
  have e1:2*(i:Int)+1=(j1:Int):=by omega
  rw[ie,if_pos (by omega)]
  have q1:¬j1<n:=by omega
  have q2:n<=j1:=by omega
  generalize hP A l s g=X at*;refine .a8 60 ?_;simp(disch:=omega) [e1,q1,q2]
 |succ m ih=>
  intro i l hm hi hnl hil;obtain⟨j1,hj1⟩:∃j1,j1=2*i+1:=⟨_,rfl⟩
  have e1:2*(i:Int)+1=(j1:Int):=by omega
  obtain⟨j2,hj2⟩:∃j2,j2=j1+1:=⟨_,rfl⟩
  have e2:(j1:Int)+1=(j2:Int):=by omega
  rw[ie]
  by_cases h1:n<=2*i+1
  ·rw[if_pos h1]
   have q1:¬j1<n:=by omega
   have q2:n<=j1:=by omega
   generalize hP A l s g=X at*;refine .a8 60 ?_;simp(disch:=omega) [e1,q1,q2]
  ·rw[if_neg h1]
   have q1:j1<n:=by omega
   have q2:¬n<=j1:=by omega
   have q3:(n:Int)<=(j1:Int)↔False:=⟨fun h=>by omega,False.elim⟩;have hkg:=zQ l j1 n;have hkl:=C3 l q1;rw[<-hj1];have xc:=pH (A:=A) (l:=l) (s:=s) (g:=g)
   by_cases h2:j2<n
   ·have hL:=zU (Γ:=Γ) A l s g hg (show j2<l.length by omega) (show j1<l.length by omega)
    by_cases h3:l.getD (j2) 0<l.getD j1 0
    ·rw[sY h3]at hL
     have hk:gT l j1 n=j2:=by unfold gT;rw[<-hj2,if_pos ⟨h2,h3⟩]
     rw[hk];have hL2:=zU (Γ:=Γ) A l s g hg (show j2<l.length by omega) hil
     by_cases hc:l.getD (j2) 0<l.getD i 0
     ·rw[if_pos hc];have hS:=zX (Γ:=Γ) A l s g hg hil (show j2<l.length by omega);have hh:=ih (j2) (swp l i (j2)) (by omega) (by omega) (by rw[dY];omega) (by rw[dY];omega);rw[sY hc]at hL2;generalize hP A l s g=X at*;refine .a8 60 ?_;simp(disch:=omega) [xc,e1,e2,q1,q2,h2];refine .aW 60 hL ?_;simp[xc];refine .aW 60 hL2 ?_;simp[xc];refine .aW 60 hS ?_;simp;refine .aO ?_;simp at hh⊢;exact hh
     ·rw[if_neg hc];rw[xv hc]at hL2;generalize hP A l s g=X at*;refine .a8 60 ?_;simp(disch:=omega) [xc,e1,e2,q1,q2,h2];refine .aW 60 hL ?_;simp[xc];refine .aW 60 hL2 ?_;simp[xc]
    ·rw[xv h3]at hL
     have hk:gT l j1 n=j1:=by unfold gT;rw[<-hj2,if_neg (fun h=>h3 h.2)]
     rw[hk];have hL2:=zU (Γ:=Γ) A l s g hg (show j1<l.length by omega) hil
     by_cases hc:l.getD (j1) 0<l.getD i 0
     ·rw[if_pos hc];have hS:=zX (Γ:=Γ) A l s g hg hil (show j1<l.length by omega);have hh:=ih (j1) (swp l i (j1)) (by omega) (by omega) (by rw[dY];omega) (by rw[dY];omega);rw[sY hc]at hL2;generalize hP A l s g=X at*;refine .a8 60 ?_;simp(disch:=omega) [xc,e1,e2,q1,q2,h2];refine .aW 60 hL ?_;simp[xc];refine .aW 60 hL2 ?_;simp[xc];refine .aW 60 hS ?_;simp;refine .aO ?_;simp at hh⊢;exact hh
     ·rw[if_neg hc];rw[xv hc]at hL2;generalize hP A l s g=X at*;refine .a8 60 ?_;simp(disch:=omega) [xc,e1,e2,q1,q2,h2];refine .aW 60 hL ?_;simp[xc];refine .aW 60 hL2 ?_;simp[xc]
   ·have hk:gT l j1 n=j1:=by unfold gT;rw[<-hj2,if_neg (fun h=>h2 h.1)]
    rw[hk];have hL2:=zU (Γ:=Γ) A l s g hg (show j1<l.length by omega) hil
    by_cases hc:l.getD (j1) 0<l.getD i 0
    ·rw[if_pos hc];have hS:=zX (Γ:=Γ) A l s g hg hil (show j1<l.length by omega);have hh:=ih (j1) (swp l i (j1)) (by omega) (by omega) (by rw[dY];omega) (by rw[dY];omega);rw[sY hc]at hL2;generalize hP A l s g=X at*;refine .a8 60 ?_;simp(disch:=omega) [xc,e1,e2,q1,q2,h2];refine .aW 60 hL2 ?_;simp[xc];refine .aW 60 hS ?_;simp;refine .aO ?_;simp at hh⊢;exact hh
    ·rw[if_neg hc];rw[xv hc]at hL2;generalize hP A l s g=X at*;refine .a8 60 ?_;simp(disch:=omega) [xc,e1,e2,q1,q2,h2];refine .aW 60 hL2 ?_;simp[xc]
theorem afO(A:List Ob)(s:List Nat)(g:Option Nat)(hg:g=none\/g=some 0/\s=[])(n i:Nat)(hn:n<2^40)(l:List Nat)(hnl:n<=l.length)(hi:i<l.length)(hi2:i<2^40):∀up,
 AM.Reach Tryz.prog Γ (.cl xF [.bT lB (.ptr (A.length+1) 0),.int .i64 i,.int .i64 n] up (hP A l s g)) (.back up (.bool (decide (i<(ie n l i).2))) (hP A (ie n l i).1 s g)):=by
 intro up;have h:=ahp (Γ:=Γ) A s g hg up (hP A l s g).length n i hn (n-i) i l (aQ _) (by omega) hnl hi;generalize hP A l s g=X at*;refine .bt 60 W4 ?_;simp;refine .inLoop ?_;simp at h⊢;exact h
def gP(s:List Nat):Option Nat:=if s=[]then some 0 else none
theorem Sm(s:List Nat):gP s=none\/gP s=some 0/\s.tail=[]:=by
 unfold gP
 split
 ·rename_i h;exact .inr ⟨rfl,by rw[h];rfl⟩
 ·exact .inl rfl
theorem afy(A:List Ob)(l s:List Nat)(x:Nat)(hx:x<2^40)(hl:l.length<2^40):∀up,AM.Reach Tryz.prog Γ (.cl Bh [.ptr (A.length+1) 0,.bT aq (.int .i64 x)] up (hP A l s none)) (.back up (.aH []) (hP A (l++[x]) s.tail (gP s))):=by
 intro up;have xr:=wD (A:=A) (l:=l) (s:=s) (g:=none);have xc:=pH (A:=A) (l:=l) (s:=s) (g:=none)
 have b8:(l.length+1)*8<=140737488355328:=by omega
 have hr:A.length<(hP A l s none).length:=by rw[zS];omega
 have hr1:A.length+1<(hP A l s none).length:=by rw[zS];omega
 cases s with
 |nil=>
  have fin:((hP A l [] none).set A.length (.row 1 aq (l.map iN++[.int .i64 x]) (some 0) true false)).set (A.length+1) (.cells [.sl A.length 0 (l.length+1)])=hP A (l++[x]) [] (some 0):=by
   simp[hP]
  rw[ee]at xr;rw[show gP []=some 0 from rfl];generalize hP A l [] none=X at*;obtain⟨_,xr'⟩:=db.1 xr;obtain⟨_,xc'⟩:=db.1 xc;refine .bt 60 LQ ?_;simp(disch:=omega) [xr,xc,xr',xc',b8,fD];refine .ea 60 ?_;simp(disch:=omega) [xr,xc,xr',xc',b8,fD];rw[fin];exact .refl _
 |cons a s=>
  have fin:((hP A l (a::s) none).set A.length (.row 1 aq (l.map iN++(AV.int .i64 x)::s.map iN) none true false)).set (A.length+1) (.cells [.sl A.length 0 (l.length+1)])=hP A (l++[x]) s none:=by
   simp[hP]
  rw[show gP (a::s)=none from rfl]
  have hL:((l++a::s).map iN)=l.map iN++.int .i64 a::s.map iN:=by simp
  rw[hL]at xr
  have tk:(l.map iN++AV.int .i64 a::s.map iN).take l.length=l.map iN:=by rw[List.take_append_of_le_length (by simp)];simp
  have dr:(l.map iN++AV.int .i64 a::s.map iN).drop (l.length+1)=s.map iN:=by rw[wZ,bA (by simp),show l.length+1-(l.map iN).length=1 by simp];rfl
  have ln:¬(l.length=(l.map iN++AV.int .i64 a::s.map iN).length):=by simp
  have ln2:l.length+1<=(l.map iN++AV.int .i64 a::s.map iN).length:=by simp
  have ln3:l.length<=(l.map iN++AV.int .i64 a::s.map iN).length:=by simp
  generalize hP A l (a::s) none=X at*;generalize(l.map iN++AV.int .i64 a::s.map iN)=L at*;obtain⟨_,xr'⟩:=db.1 xr;obtain⟨_,xc'⟩:=db.1 xc;refine .bt 60 LQ ?_;simp(disch:=omega) [xr,xc,xr',xc',b8,fD];refine .ea 60 ?_;simp(disch:=omega) [xr,xc,xr',xc',b8,fD,ln,ln2,ln3,tk,dr];rw[fin];exact .refl _
theorem ag9(A:List Ob)(l s:List Nat)(x:Nat)(hl:l.length<2^40):∀up,AM.Reach Tryz.prog Γ (.cl Bj [.ptr (A.length+1) 0] up (hP A (l++[x]) s none)) (.back up (.bT aq (.int .i64 x)) (hP A l (x::s) none)):=by
 intro up;have xr:=wD (A:=A) (l:=l++[x]) (s:=s) (g:=none);have xc:=pH (A:=A) (l:=l++[x]) (s:=s) (g:=none)
 have hr1:A.length+1<(hP A (l++[x]) s none).length:=by rw[zS];omega
 have fin:(hP A (l++[x]) s none).set (A.length+1) (.cells [.sl A.length 0 l.length])=hP A l (x::s) none:=by simp[hP]
 have e:(l++[x]).length=l.length+1:=by simp
 rw[e]at xc
 have gx:(((l++[x])++s).map iN)[l.length]? =some (.int .i64 x):=by simp
 generalize hP A (l++[x]) s none=X at*;generalize hL:(((l++[x])++s).map iN)=L at*
 have hlL:l.length<L.length:=by rw[<-hL];simp
 obtain⟨_,gx'⟩:=db.1 gx;obtain⟨_,xr'⟩:=db.1 xr;obtain⟨_,xc'⟩:=db.1 xc;refine .bt 60 XV ?_;simp(disch:=omega) [xr,xc,xr',xc',gx,gx',fD];rw[fin];exact .refl _
def fZ(l:List Nat)(x:Nat):List Nat:=nI (l++[x]) l.length
theorem Rx(A:List Ob)(l s:List Nat)(x:Nat)(hx:x<2^40)(hl:l.length<2^39):∀up,AM.Reach Tryz.prog Γ (.cl xG [.bT lB (.ptr (A.length+1) 0),.bT aq (.int .i64 x)] up (hP A l s none)) (.back up (.aH []) (hP A (fZ l x) s.tail (gP s))):=by
 intro up;have h1:=afy (Γ:=Γ) A l s x hx (by omega);have h2:=Dq (Γ:=Γ) A (l++[x]) s.tail (gP s) (Sm s);have h3:=aia (Γ:=Γ) A s.tail (gP s) (Sm s) l.length (l++[x]) (by simp) (by simp;omega);have hxc:=pH (A:=A) (l:=l++[x]) (s:=s.tail) (g:=gP s)
 have e:(l++[x]).length=l.length+1:=by simp
 rw[e]at hxc h2;rw[fZ];refine .bt 60 W2 ?_;simp;refine .aW 60 h1 ?_;generalize hP A (l++[x]) s.tail (gP s)=X at*;simp[hxc];refine .aW 60 h2 ?_;simp(disch:=omega);refine .aW 60 h3 ?_;simp
def dE(l:List Nat):List Nat:=(ie (l.length-1) (swp l 0 (l.length-1)) 0).1
theorem Cf(l:List Nat):(dE l).length=l.length:=by rw[dE,acF _ _ _ _ (aQ _),dY]
theorem aio(A:List Ob)(l s:List Nat)(h0:0<l.length)(hl:l.length<2^39):∀up,AM.Reach Tryz.prog Γ (.cl Ba [.bT lB (.ptr (A.length+1) 0)] up (hP A l s none)) (.back up (.bT aq (.int .i64 ((dE l).getD (l.length-1) 0:Nat))) (hP A ((dE l).take (l.length-1)) ((dE l).getD (l.length-1) 0::s) none)):=by
 intro up;obtain⟨n,hn⟩:∃n,l.length=n+1:=⟨l.length-1,by omega⟩;have h1:=Dq (Γ:=Γ) A l s none (.inl rfl);have h2:=zX (Γ:=Γ) A l s none (.inl rfl) h0 (show n<l.length by omega);have h3:=afO (Γ:=Γ) A s none (.inl rfl) n 0 (by omega) (swp l 0 n) (by rw[dY];omega) (by rw[dY];omega) (by omega)
 have e:(ie n (swp l 0 n) 0).1=dE l:=by rw[dE,hn];rfl
 have el:=Cf l
 have e2:dE l=(dE l).take n++[(dE l).getD n 0]:=by
  have hlt:n<(dE l).length:=by omega
  have h5:(dE l).getD n 0=(dE l)[n]:=by rw[bq,aR hlt];rfl
  rw[h5]
  conv=>lhs;rw[<-mT n (dE l)]
  congr 1;rw[bJ hlt,bA (by omega)]
 have h4:=ag9 (Γ:=Γ) A ((dE l).take n) s ((dE l).getD n 0) (by rw[eR];omega);have c1:=pH (A:=A) (l:=l) (s:=s) (g:=none);have c2:=pH (A:=A) (l:=swp l 0 n) (s:=s) (g:=none);have c3:=pH (A:=A) (l:=dE l) (s:=s) (g:=none);rw[<-e2]at h4;rw[e]at h3;rw[hn]at h1 h2 c1;rw[dY,hn]at c2;rw[el,hn]at c3
 have en:l.length-1=n:=by omega
 have hn40:n<2^40:=by omega
 rw[en];clear hn en h0 hl el e2 e;generalize(dE l).getD n 0=x at*;generalize(dE l).take n=l' at*;generalize hP A l s none=X at*;generalize hP A (swp l 0 n) s none=Y at*;generalize hP A (dE l) s none=Z at*;refine .bt 60 W7 ?_;simp[c1];refine .aW 60 h1 ?_;simp(disch:=omega) [c1];simp at h2 h3;refine .aW 60 h2 ?_;simp(disch:=omega) [c2];refine .aW 60 h3 ?_;simp(disch:=omega) [c3];refine .aW 60 h4 ?_;simp
theorem Reach.aik{P:Program}{fn:FuncId}{k:List It}{ds:List dF}{kind:FK}{base:Nat}{up:List Fr}{h h':List Ob}{t:List AV}{d:Option Nat}{a:AO}{os:List AG}{l:Nat}{args:List AV}{v:AV}{C:AM.ar}
 (ha:aB P Γ t h a=.yield l args)(hb:AM.Reach P Γ ((jm.yl l).cfg args (⟨.run,fn,.ops (⟨d,none,a⟩::os)::k,t,ds,kind,base⟩::up) h) (.back (⟨.run,fn,.ops (⟨d,none,a⟩::os)::k,t,ds,kind,base⟩::up) v h'))
 (hn:AM.Reach P Γ (.fr ⟨.run,fn,.ops os::k,a_ t d v,ds,kind,base⟩ up h') C):AM.Reach P Γ (.fr ⟨.run,fn,.ops (⟨d,none,a⟩::os)::k,t,ds,kind,base⟩ up h) C:=by
 refine .a8 1 ?_;rw[aiR,ha];exact .trans hb (.trans (.pop _) hn)
theorem MT(pl:List (Bs×Nat)):∀(l:List Gt)(i:Nat)(nd b:List (List Nat)),(ga pl l i nd b).1.length=nd.length+l.length
 |[],_,_,_=>by simp[ga]
 |g::r,i,nd,b=>by rw[ga,MT pl r];simp;omega
theorem MH(pl:List (Bs×Nat)):∀(l:List Gt)(i:Nat)(nd b:List (List Nat)),(ga pl l i nd b).2.length=b.length
 |[],_,_,_=>by simp[ga]
 |g::r,i,nd,b=>by rw[ga,MH pl r,zF]
theorem vp(c:Ct):(eu c).length=c.af.length:=by rw[eu,MT];simp
theorem iG(c:Ct):(bK c).length=c.af.length:=by rw[bK,MH];simp
def aC(c:Ct)(M:List Ob)(nd:List (List Nat)):List Ob:=hQ (iM c M) nd (bK c)++[.cells [.sl (M.length+7) 0 c.af.length,.sl (M.length+8) 0 c.af.length]]
def tC(c:Ct)(n:Nat)(nd:List (List Nat)):List Ob:=
 iV c n (.sl (n+7) 0 c.af.length) (.sl (n+8) 0 c.af.length)++(hF (n+6) c.af.length nd.length (bK c)++((bK c).map gn++nd.map iT))++[.cells [.sl (n+7) 0 c.af.length,.sl (n+8) 0 c.af.length]]
section
variable{c:Ct}{M:List Ob}{nd:List (List Nat)}
theorem Aa:aC c M nd=M++tC c M.length nd:=by
 have hl:(M++iV c M.length (.sl (M.length+7) 0 c.af.length) (.sl (M.length+8) 0 c.af.length)).length=M.length+6:=by simp[iV]
 simp only[aC,hQ,tC,iM,hl,iG,cI]
theorem qC(hn:nd.length=c.af.length):(aC c M nd).length=M.length+(10+(c.af.length+c.af.length)):=by
 simp[aC,my,kN,iG,hn];omega
theorem Dh{i:Nat}(h:i<(hQ (iM c M) nd (bK c)).length):(aC c M nd)[i]? =(hQ (iM c M) nd (bK c))[i]? :=by rw[aC,cz h]
theorem I9(hn:nd.length=c.af.length):(aC c M nd)[M.length+(9+(c.af.length+c.af.length))]? =some (.cells [.sl (M.length+7) 0 c.af.length,.sl (M.length+8) 0 c.af.length]):=by
 have hl:(hQ (iM c M) nd (bK c)).length=M.length+(9+(c.af.length+c.af.length)):=by rw[my,kN,iG,hn];omega
 rw[aC,dk (by omega),hl,EX];rfl
theorem SI(hn:nd.length=c.af.length):(aC c M nd)[M.length+7]? =some (.row 1 n4 (dQ (M.length+6) c.af.length c.af.length) none (decide (c.af.length=0)) false):=by
 have h:=I0 (H:=iM c M) (nd:=nd) (b:=bK c);rw[kN,iG,hn]at h
 rw[Dh (by rw[my,kN];omega)];exact h
theorem ai9:(aC c M nd)[M.length+8]? =some (.row 1 jK (gv (M.length+6) (bK c)) none (decide (c.af.length=0)) false):=by
 have h:=Sy (H:=iM c M) (nd:=nd) (b:=bK c);rw[kN,iG]at h
 rw[Dh (by rw[my,kN];omega)];exact h
theorem aiY{k:Nat}(hk:k<c.af.length):(aC c M nd)[M.length+(9+k)]? =some (gn ((bK c).getD k [])):=by
 have h:=I3 (H:=iM c M) (nd:=nd) (b:=bK c) (k:=k) (by rw[iG];exact hk);rw[kN]at h
 rw[Dh (by rw[my,kN,iG];omega),show M.length+(9+k)=M.length+6+(3+k) by omega,h,bq,aR (by rw[iG];exact hk)];rfl
theorem SB{i:Nat}(hn:nd.length=c.af.length)(hi:i<c.af.length):(aC c M nd)[M.length+(9+(c.af.length+i))]? =some (iT (nd.getD i [])):=by
 have h:=SF (H:=iM c M) (nd:=nd) (b:=bK c) (i:=i) (by omega);rw[kN,iG]at h
 rw[Dh (by rw[my,kN,iG];omega),show M.length+(9+(c.af.length+i))=M.length+6+(3+(c.af.length+i)) by omega,h,bq,aR (by omega)];rfl
theorem af9{i:Nat}(l:List Nat)(hn:nd.length=c.af.length)(hi:i<c.af.length):(aC c M nd).set (M.length+(9+(c.af.length+i))) (iT l)=aC c M (nd.set i l):=by
 have h:=Qt (H:=iM c M) (b:=bK c) (nd:=nd) (i:=i) l (by omega);rw[kN,iG]at h;rw[aC,lz _ _ (by rw[my,kN,iG];omega),show M.length+(9+(c.af.length+i))=M.length+6+(3+(c.af.length+i)) by omega,h,aC]
theorem ahn(c:Ct){n m:Nat}(h:n+8<m):cr m (iV c n (.sl (n+7) 0 c.af.length) (.sl (n+8) 0 c.af.length))=true:=by
 have h2:=pq m (cu c)
 simp[iV,h2];omega
theorem RP(hv:gV M){i m:Nat}(hi:M.length+(9+c.af.length)<=i):cQ i m (aC c M nd)=true:=by
 have h1:=hv i m (by omega);have h2:=qB i m (cu c)
 have h3:dh i m (gv (M.length+6) (bK c))=true:=HM _ fun j hj he=>by rw[iG]at hj;omega
 have h4:=Gz (n:=M.length+6) (N:=c.af.length) (m:=nd.length) (i:=i) (q:=m);rw[Aa,jH,tC,jH,jH,jH,jH,h1,Ch,Ck];simp[iV,hF,h2,h3,h4];omega
theorem ahb{r m:Nat}(n:Nat)(hr:r<n):cQ r m (tC c n nd)=true:=by
 have h2:=qB r m (cu c)
 have h3:dh r m (gv (n+6) (bK c))=true:=HM _ fun j hj he=>by omega
 have h4:=Gz (n:=n+6) (N:=c.af.length) (m:=nd.length) (i:=r) (q:=m);rw[tC,jH,jH,jH,jH,Ch,Ck];simp[iV,hF,h2,h3,h4];omega
end
end Go.Proofs.YtchjijfjidlpjaaGreatDoor
