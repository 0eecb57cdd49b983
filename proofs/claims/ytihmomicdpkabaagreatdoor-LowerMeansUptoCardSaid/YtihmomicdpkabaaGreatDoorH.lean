/- Factors: how many rows have a literal; rows without literals; an and of literals; the literal that most rows have. -/
import Derived.Test.YtihmomicdpkabaaGreatDoorG
import Derived.Test.YtihmomicdpkabaaGreatDoorF
import Derived.Test.YtihmomicdpkabaaGreatDoorCode
import Derived.Test.YtihmomicdpkabaaGreatDoorAMd
set_option linter.unusedSimpArgs false
set_option linter.unusedVariables false
namespace Go.Proofs.YtihmomicdpkabaaGreatDoor
open Go.AM Go.Proofs
variable{Γ:Nat->Option AV}
def dG(x:Li):List Bs->Nat
 |[]=>0
 |s::r=>(if cK x s=true then 1 else 0)+dG x r
theorem Lg(x:Li):∀r:List Bs,dG x r<=r.length
 |[]=>aR _
 |s::r=>by rw[dG,bX];have:=Lg x r;split<;>omega
theorem FH(rows:List Bs)(x:Li){k:Nat}(hk:Kd 1 k rows)(hl:rows.length<2^40)(hs:∀s∈rows,s.length<2^40):aL Tryz.prog Γ td [.list false k (rows.map .str),dI x] (.int .i64 (dG x rows)):=by
 have key:∀n i:Nat,i+n=rows.length->∀a:Nat,a+n<2^41->aw Tryz.prog Γ (yzt (.ptr 0 0) (.int .i64 a) (.list false k (rows.map .str)) (.int .i64 rows.length) (.int .i64 i) [.cells (dI x).cells]) (.ret (.int .i64 (a+dG x (rows.drop i):Nat))):=by
  intro n
  induction n with
  |zero=>
   intro i hi a ha
   have q1:¬i<rows.length:=by omega
   rw[bw (by omega),dG];refine .go 60 ?_;simp[q1];exact .back (by simp)
  |succ n ih=>
   intro i hi a ha
   have q1:i<rows.length:=by omega
   have q2:=bY (hk.of q1)
   have hw:cu [.cells (dI x).cells,.cells (dI x).cells]:=by intro m hm;simp
   have hc:=(Gj (Γ:=Γ) x 1 [rows[i]] (by intro s h;simp only[dE]at h;subst h;exact hs _ (bz q1))).2 rows[i] (by simp);rw[bQ q1,dG];refine .go 60 ?_;simp(disch:=omega) [q1,q2];refine .aX 60 (Pq x) ?_;simp;refine .aX 60 (fun up=>hc up [.cells (dI x).cells,.cells (dI x).cells] ⟨rfl,hw⟩) ?_
   by_cases h3:cK x rows[i]=true
   ·have hh:=ih (i+1) (by omega) (a+1) (by omega);simp(disch:=omega) [h3];refine .aH ?_;simp;refine .drop 1 rfl (by simp) (by simp) (by simp) ?_;simp[q2,<-Int.add_assoc]at hh⊢;exact hh
   ·have hh:=ih (i+1) (by omega) a (by omega);simp(disch:=omega) [h3];refine .aH ?_;simp;refine .drop 1 rfl (by simp) (by simp) (by simp) ?_;simp[q2]at hh⊢;exact hh
 refine .run 60 V' (by simp) ?_;simp;refine .inLoop ?_;have hh:=key rows.length 0 (by omega) 0 (by omega);simp at hh⊢;exact hh
def fj(l:List Li)(s:Bs):Bs:=l.foldl (fun b x=>b.set x.1 45) s
theorem p6:∀(l:List Li)(s:Bs),(fj l s).length=s.length
 |[],s=>rfl
 |x::l,s=>by have:=p6 l (s.set x.1 45);simpa[fj]using this
theorem adZ:eQ 45=.int .u8 45:=rfl
theorem Z'(l:List Li)(x:Li)(s:Bs):fj (l++[x]) s=(fj l s).set x.1 45:=by simp[fj]
set_option maxRecDepth 8000 in
theorem ael(l:List Li){kl:Nat}(hkl:Kd 2 kl l)(hll:l.length<2^40)(s:Bs)(hx:∀x∈l,x.1<s.length)(hs:s.length<2^40)(o0 o1:Ob)(x1 x5 x11 x12 x13:AV)(up:List Fr)(hb:aK 3 [x1,x5,x11,x12,x13]=true)(ho:cG 3 [o0,o1]=true):
 ∀n i:Nat,i+n=l.length->AM.Reach Tryz.prog Γ (yAk x1 x5 (.sl 2 0 s.length) x11 x12 x13 (.list false kl (l.map dI)) (.int .i64 l.length) (.int .i64 i) [o0,o1,.row 1 FD ((fj (l.take i) s).map eQ) none true false] ⟨[],.norm,0,up⟩)
  (yAl x1 x5 (.sl 2 0 s.length) x11 x12 x13 [o0,o1,.row 1 FD ((fj l s).map eQ) none true false] ⟨[],.norm,0,up⟩):=by
 intro n
 induction n with
 |zero=>
  intro i hi
  have q1:¬i<l.length:=by omega
  rw[cd (by omega)];refine .dh 60 ?_;simp[q1];exact .exit rfl rfl
 |succ n ih=>
  intro i hi
  have q1:i<l.length:=by omega
  have q2:=bY (hkl.of q1);have q3:=hx l[i] (bz q1);have hh:=ih (i+1) (by omega);rw[gC q1,Z']at hh
  have q4:l[i].1<(fj (l.take i) s).length:=by rw[p6];exact q3
  refine .dh 60 ?_;simp(disch:=omega) [q1,q2,q3,q4,p6];refine .aH ?_;simp;refine .j0 3 rfl (by simp) (by simpa using hb) (by simpa using ho) ?_;simp[adZ]at hh⊢;exact hh
def dn(l:List Li)(rows:List Bs):List Bs:=rows.map (fj l)
theorem M_(rows:List Bs)(l:List Li){k kl:Nat}(hk:Kd 1 k rows)(hkl:Kd 2 kl l)(hr:rows.length<2^40)(hll:l.length<2^40)(hs:∀s∈rows,s.length<2^40/\∀x∈l,x.1<s.length):
 aL Tryz.prog Γ pW [.list false k (rows.map .str),.list false kl (l.map dI)] (.own 1 aF ((dn l rows).map .str)):=by
 have key:∀n i:Nat,i+n=rows.length->∀out:List Bs,out.length=i->aw Tryz.prog Γ (yAn (.list false kl (l.map dI)) (.sl 1 0 out.length) (.list false k (rows.map .str)) (.int .i64 rows.length) (.int .i64 i) [.row 1 aF [] none true false,.row 1 aF (out.map .str) none true false])
  (.ret (.own 1 aF ((out++dn l (rows.drop i)).map .str))):=by
  intro n
  induction n with
  |zero=>
   intro i hi out ho
   have q1:¬i<rows.length:=by omega
   rw[bw (by omega)];refine .go 60 ?_;simp[q1,dn];exact .back (by simp)
  |succ n ih=>
   intro i hi out ho
   have q1:i<rows.length:=by omega
   have q2:=bY (hk.of q1);obtain⟨h1,h2⟩:=hs rows[i] (bz q1);have hh:=ih (i+1) (by omega) (out++[fj l rows[i]]) (by simp[ho])
   have e:out++dn l (rows.drop i)=out++[fj l rows[i]]++dn l (rows.drop (i+1)):=by rw[bQ q1,fY];rfl
   rw[e];have h4:=ael (Γ:=Γ) l hkl hll rows[i] h2 h1 (.row 1 aF [] none true false) (.row 1 aF (out.map .str) none true false) (.list false kl (l.map dI)) (.sl 1 0 out.length) (.list false k (rows.map .str)) (.int .i64 rows.length) (.int .i64 i) [] (by simp) (by simp) l.length 0 (by omega);refine .go 60 ?_;simp(disch:=omega) [q1,q2];refine .inLoop ?_;have h0:fj [] rows[i]=rows[i]:=rfl;have hcl:=p6 l rows[i];simp[h0]at h4⊢;refine .reach h4 ?_;refine .go 60 ?_;have htk:List.take (List.length rows[i]) (List.map eQ (fj l rows[i]))=List.map eQ (fj l rows[i]):=cd (by simp[hcl]);simp(disch:=omega) [hcl,htk];refine .aH ?_;simp;refine .drop 2 rfl (by simp) (by simp) (by simp) ?_;refine .reset (i:=1) rfl (by simp) (by simp) (by simp) ?_;simp[q2]at hh⊢;exact hh
 refine .run 60 Vs (by simp) ?_;simp;refine .inLoop ?_;have hh:=key rows.length 0 (by omega) [] rfl;simp at hh⊢;exact hh
def rR:List Fm->Bool
 |[f]=>decide (f.kind=1)
 |_=>false
def ju(r:List Fm):List Fm:=if rR r=true then[]else r
def pk(n:Nat):List Fm:=if 1<n then[⟨3,0,n⟩]else[]
def ei(l:List Li)(r:List Fm):List Fm:=pk (l.length+min (ju r).length 1)++l.map dT++ju r
theorem uq(l:List Li){kl:Nat}(hkl:Kd 2 kl l)(hll:l.length<2^40)(hx:∀x∈l,x.1<2^40)(r:List Fm){kr:Nat}(hkr:Kd 3 kr r)(hr:r.length<2^40)(fl:Bool):
 ∀n i:Nat,i+n=l.length->∀out:List Fm,out.length<=i+1->aw Tryz.prog Γ (yzM (.list fl kr (r.map a_)) (.sl 1 0 out.length) (.list false kl (l.map dI)) (.int .i64 l.length) (.int .i64 i) [.row 3 aS [] none true false,.row 3 aS (out.map a_) none true false])
  (.ret (.own 3 aS ((out++(l.drop i).map dT++r).map a_))):=by
 intro n
 induction n with
 |zero=>
  intro i hi out ho
  have q1:¬i<l.length:=by omega
  rw[bw (by omega)];have hkr':kr=3\/r=[]:=hkr;refine .go 60 ?_
  by_cases hr0:r=[]
  ·simp(disch:=omega) [q1,hkr',hr0];exact .back (by simp)
  ·obtain rfl:kr=3:=hkr'.resolve_right hr0;simp(disch:=omega) [q1,hr0];exact .back (by simp)
 |succ n ih=>
  intro i hi out ho
  have q1:i<l.length:=by omega
  have q2:=bY (hkl.of q1);have hp:=aem (Γ:=Γ) l[i] (hx _ (bz q1));have hh:=ih (i+1) (by omega) (out++[dT l[i]]) (by simp;omega)
  have e:out++(l.drop i).map dT++r=out++[dT l[i]]++(l.drop (i+1)).map dT++r:=by rw[bQ q1];simp only[b_,fY,eO,lf]
  rw[e];refine .go 60 ?_;simp(disch:=omega) [q1,q2];refine .call 60 (by simp) hp ?_;simp(disch:=omega);refine .aH ?_;simp;refine .drop 2 rfl (by simp) (by simp) (by simp) ?_;refine .reset (i:=1) rfl (by simp) (by simp) (by simp) ?_;simp[q2]at hh⊢;exact hh
theorem B0:lL (.int .i64 0) [.int .i64 1]=some (.int .i64 0):=rfl
theorem qw:lL (.int .i64 1) [.int .i64 1]=some (.int .i64 1):=rfl
theorem BP(n:Nat):lL (.int .i64 ((n:Int)+1)) [.int .i64 1]=some (.int .i64 1):=by
 by_cases h:(1:Int)<(n:Int)+1
 ·simp only[lL,cy,if_pos h]
 ·have e:(n:Int)+1=1:=by omega
  rw[e];rfl
set_option maxRecDepth 8000 in
theorem Gf(l:List Li){kl:Nat}(hkl:Kd 2 kl l)(hll:l.length<2^40)(hx:∀x∈l,x.1<2^40)(r:List Fm){kr:Nat}(hkr:Kd 3 kr r)(hr:r.length<2^40):
 aL Tryz.prog Γ rn [.list false kl (l.map dI),.list false kr (r.map a_)] (.own 3 aS ((ei l r).map a_)):=by
 refine .run 100 Xd (by simp) ?_;have q0:(1<l.length+min (ju r).length 1)\/¬(1<l.length+min (ju r).length 1):=Decidable.em _
 cases r with
 |nil=>
  have e0:ju []=[]:=rfl;unfold ei pk;rw[e0]at q0⊢;simp only[dt,Nat.zero_min,gX]at q0⊢;have q3i:((1:Int)<l.length)=(1<l.length):=propext (by omega)
  rcases q0 with q0|q0
  ·have hh:=uq (Γ:=Γ) l hkl hll hx [] (kr:=kr) (.inr rfl) (by simp) false l.length 0 (by omega) [⟨3,0,l.length⟩] (by simp);simp(disch:=omega) [q0,B0,qw,q3i];refine .inLoop ?_;simp;refine .drop 2 rfl (by simp) (by simp) (by simp) ?_;refine .reset (i:=1) rfl (by simp) (by simp) (by simp) ?_;simp[q0]at hh⊢;exact hh
  ·have hh:=uq (Γ:=Γ) l hkl hll hx [] (kr:=kr) (.inr rfl) (by simp) false l.length 0 (by omega) [] (by simp);simp(disch:=omega) [q0,B0,qw,q3i];refine .inLoop ?_;simp[q0]at hh⊢;exact hh
 |cons f r=>
  obtain rfl:kr=3:=hkr.of (i:=0) (by simp)
  by_cases ht:rR (f::r)=true
  ·have e0:ju (f::r)=[]:=by rw[ju,if_pos ht]
   obtain⟨hf,rfl⟩:f.kind=1/\r=[]:=by
    cases r with
    |nil=>simpa[rR]using ht
    |cons _ _=>cases ht
   unfold ei pk;rw[e0]at q0⊢;simp only[dt,Nat.zero_min,gX]at q0⊢;have q3i:((1:Int)<l.length)=(1<l.length):=propext (by omega)
   rcases q0 with q0|q0
   ·have hh:=uq (Γ:=Γ) l hkl hll hx [] (kr:=3) (.inr rfl) (by simp) false l.length 0 (by omega) [⟨3,0,l.length⟩] (by simp);simp(disch:=omega) [q0,B0,qw,q3i,hf];refine .inLoop ?_;simp;refine .trees [1] ?_;simp;refine .gc 1 [1] (by simp) (by decide) ?_;simp;refine .reset (i:=1) rfl (by simp) (by simp) (by simp) ?_;simp[q0]at hh⊢;exact hh
   ·have hh:=uq (Γ:=Γ) l hkl hll hx [] (kr:=3) (.inr rfl) (by simp) false l.length 0 (by omega) [] (by simp);simp(disch:=omega) [q0,B0,qw,q3i,hf];refine .inLoop ?_;simp;refine .trees [1] ?_;simp;refine .gc 1 [1] (by simp) (by decide) ?_;simp[q0]at hh⊢;exact hh
  ·have e0:ju (f::r)=f::r:=by rw[ju,if_neg ht]
   unfold ei pk;rw[e0]at q0⊢
   have e1:min (f::r).length 1=1:=by simp
   have e2:((r.length:Int)+1=1)=(r=[]):=propext ⟨fun h=>kh.1 (by omega),fun h=>by rw[h];rfl⟩
   have e4:f.kind=1->¬r=[]:=fun h h2=>ht (by rw[h2];simp[rR,h])
   rw[e1]at q0⊢
   rcases q0 with q0|q0
   ·have q3:0<l.length:=by omega
    have q3i:((1:Int)<(l.length:Int)+1)=True:=bY (by omega);have hh:=uq (Γ:=Γ) l hkl hll hx (f::r) (kr:=3) (.inl rfl) hr false l.length 0 (by omega) [⟨3,0,l.length+1⟩] (by simp)
    by_cases h5:r=[]
    ·have h6:¬f.kind=1:=fun h=>e4 h h5
     simp(disch:=omega) [h5,h6,q3,qw,BP,q3i];refine .inLoop ?_;simp;refine .drop 2 rfl (by simp) (by simp) (by simp) ?_;refine .reset (i:=1) rfl (by simp) (by simp) (by simp) ?_;simp[q3,q3i,h5]at hh⊢;exact hh
    ·simp(disch:=omega) [h5,q3,qw,BP,q3i,e2];refine .inLoop ?_;simp;refine .drop 2 rfl (by simp) (by simp) (by simp) ?_;refine .reset (i:=1) rfl (by simp) (by simp) (by simp) ?_;simp[q3,q3i,h5]at hh⊢;exact hh
   ·have q3:l.length=0:=by omega
    have q3i:((1:Int)<1)=False:=iu (by omega);obtain rfl:l=[]:=kh.1 q3;have hh:=uq (Γ:=Γ) [] hkl hll hx (f::r) (kr:=3) (.inl rfl) hr false 0 0 (by simp) [] (by simp)
    by_cases h5:r=[]
    ·have h6:¬f.kind=1:=fun h=>e4 h h5
     simp(disch:=omega) [h5,h6,qw,BP,q3i];refine .inLoop ?_;simp[h5]at hh⊢;exact hh
    ·simp(disch:=omega) [h5,qw,BP,q3i,e2];refine .inLoop ?_;simp[h5]at hh⊢;exact hh
def lC(rows:List Bs)(b:Li×Nat)(x:Li):Li×Nat:=if b.2<dG x rows then(x,dG x rows)else b
def nc(rows:List Bs):Nat->Nat->Li×Nat->Li×Nat
 |0,_,b=>b
 |n+1,i,b=>nc rows n (i+1) (lC rows (lC rows b (i,49)) (i,48))
def cQ(rows:List Bs)(n:Nat):Li×Nat:=nc rows n 0 ((0,0),0)
theorem mL:Utf8.decode {data:=#[49,48]} 0=(49,1):=by kernel_rfl
theorem uW:Utf8.decode {data:=#[49,48]} 1=(48,1):=by kernel_rfl
set_option maxRecDepth 8000 in
theorem acv(rows:List Bs){k:Nat}(hk:Kd 1 k rows)(hl:rows.length<2^40)(hs:∀s∈rows,s.length<2^40)(L:Nat)(hL:L<2^40):∀n i:Nat,i+n=L->∀b:Li×Nat,
 aw Tryz.prog Γ (yAN (.list false k (rows.map .str)) (.ptr 0 0) (.ptr 1 0) (.int .i64 b.2) (.int .i64 L) (.int .i64 i) [.cells [.int .i64 0,.int .i64 0],.cells (dI b.1).cells]) (.ret (.aB [dI (nc rows n i b).1,.int .i64 (nc rows n i b).2])):=by
 intro n
 induction n with
 |zero=>
  intro i hi b
  have q1:¬i<L:=by omega
  refine .go 60 ?_;simp[q1];exact .back (by simp[nc])
 |succ n ih=>
  intro i hi b
  have q1:i<L:=by omega
  have hc1:=FH (Γ:=Γ) rows (i,49) hk hl hs;have hc2:=FH (Γ:=Γ) rows (i,48) hk hl hs;rw[nc]
  have half:∀b1:Li×Nat,aw Tryz.prog Γ (yAL (.list false k (rows.map .str)) (.ptr 0 0) (.ptr 1 0) (.int .i64 b1.2) (.int .i64 i) (.int .i64 L) (.int .i64 i) (.it 2) [.cells [.int .i64 0,.int .i64 0],.cells (dI b1.1).cells,.gK [49,48] 1])
   (.ret (.aB [dI (nc rows n (i+1) (lC rows b1 (i,48))).1,.int .i64 (nc rows n (i+1) (lC rows b1 (i,48))).2])):=by
   intro b1;have hh:=ih (i+1) (by omega) (lC rows b1 (i,48));refine .go 60 ?_;simp(disch:=omega) [mL,uW];refine .call 60 (by simp) hc2 ?_
   by_cases h1:b1.2<dG (i,48) rows
   ·have e1:lC rows b1 (i,48)=((i,48),dG (i,48) rows):=if_pos h1;rw[e1]at hh⊢;simp(disch:=omega) [h1];refine .aH ?_;refine .go 60 ?_;simp(disch:=omega) [mL,uW];refine .aH ?_;simp;refine .drop 2 rfl (by simp) (by simp) (by simp) ?_;simp at hh⊢;exact hh
   ·have e1:lC rows b1 (i,48)=b1:=if_neg h1;rw[e1]at hh⊢;simp(disch:=omega) [h1];refine .aH ?_;refine .go 60 ?_;simp(disch:=omega) [mL,uW];refine .aH ?_;simp;refine .drop 2 rfl (by simp) (by simp) (by simp) ?_;simp at hh⊢;exact hh
  refine .go 60 ?_;simp(disch:=omega) [q1];refine .inLoop ?_;refine .go 60 ?_;simp(disch:=omega) [mL,uW];refine .call 60 (by simp) hc1 ?_
  by_cases h1:b.2<dG (i,49) rows
  ·have e1:lC rows b (i,49)=((i,49),dG (i,49) rows):=if_pos h1;have hh:=half ((i,49),dG (i,49) rows);rw[e1];simp(disch:=omega) [h1];refine .aH ?_;simp;refine .drop 3 rfl (by simp) (by simp) (by simp) ?_;simp at hh⊢;exact hh
  ·have e1:lC rows b (i,49)=b:=if_neg h1;have hh:=half b;rw[e1];simp(disch:=omega) [h1];refine .aH ?_;simp;refine .drop 3 rfl (by simp) (by simp) (by simp) ?_;simp at hh⊢;exact hh
theorem aeQ(rows:List Bs){k:Nat}(hk:Kd 1 k rows)(hl:rows.length<2^40)(hs:∀s∈rows,s.length<2^40)(L:Nat)(s:Bs)(h0:rows[0]? =some s)(hL:s.length=L):
 aL Tryz.prog Γ tj [.list false k (rows.map .str)] (.aB [dI (cQ rows L).1,.int .i64 (cQ rows L).2]):=by
 have q1:0<rows.length:=(cW.1 h0).1;have q3:rows[0]=s:=(cW.1 h0).2;have q2:=bY (hk.of q1)
 have hLb:L<2^40:=by rw[<-hL,<-q3];exact hs _ (bz q1)
 have hh:=acv (Γ:=Γ) rows hk hl hs L hLb L 0 (by omega) ((0,0),0);refine .run 60 Wj (by simp) ?_;simp(disch:=omega) [q1,q2,q3,hL];refine .inLoop ?_;simp[cQ,q2]at hh⊢;exact hh
abbrev gN(l:List Bs):Ob:=.row 1 aF (l.map .str) none true false
theorem Ff{h:List Ob}{i:Nat}{o:Ob}(hi:h[i]? =some o):h.set i o=h:=by
 apply jm;intro j
 by_cases hj:i=j
 ·subst hj;rw[ep (aV hi),hi]
 ·rw[dz hj]
theorem K4{α:Type}(p:α->Bool):∀(l:List α)(i:Nat),(eB p l i=-1/\l.filter (fun x=>!p x)=l)\/∃k,k<l.length/\eB p l i=((i+k:Nat):Int)/\(l.take (k+1)).filter (fun x=>!p x)=l.take k
 |[],i=>.inl ⟨rfl,rfl⟩
 |x::xs,i=>by
  rw[eB]
  cases h:p x with
  |true=>right;exact⟨0,by simp,by simp,by simp[h]⟩
  |false=>
   rcases K4 p xs (i+1)with⟨h1,h2⟩|⟨k,h1,h2,h3⟩
   ·left;exact⟨by simpa using h1,by rw[zd];simp[h,h2]⟩
   ·right;exact⟨k+1,by simp;omega,by rw[if_neg (by simp),h2];congr 1;omega,by simp[h,h3]⟩
theorem Xq{φ:List Ob->Prop}{f:FuncId}{caps:List AV}{p:Bs->Bool}{l:List Bs}(ha:ij Tryz.prog Γ φ f caps AV.str p l)(hs:l.length<2^60){h:List Ob}{r:Nat}(hr:h[r]? =some (gN l))(hφ:φ h):
 ∀up,AM.Reach Tryz.prog Γ (.cl qW [.sl r 0 l.length,.fn (.func f) [] caps] up h) (.back up (.int .i64 (eB p l 0)) h):=by
 intro up
 have key:∀n i:Nat,i+n=l.length->AM.Reach Tryz.prog Γ (Q8 (.sl r 0 l.length) (.fn (.func f) [] caps) (.int .i64 l.length) (.int .i64 i) h ⟨[],.norm,h.length,up⟩) (.back up (.int .i64 (eB p (l.drop i) i)) h):=by
  intro n
  induction n with
  |zero=>
   intro i hi
   have h1:¬i<l.length:=by omega
   refine .aU 60 ?_;rw[bw (by omega)];simp[h1,eB]
  |succ n ih=>
   intro i hi
   have h1:i<l.length:=by omega
   have h2:=ha.2 l[i] (bz h1);rw[bQ h1,eB];have hh:=ih (i+1) (by omega);refine .aU 60 ?_;simp[h1,ha.1,hr];refine .aX 60 (fun up=>h2 up h hφ) ?_
   cases hp:p l[i]with
   |true=>simp(disch:=omega) [hp]
   |false=>
    simp(disch:=omega) [hp];refine .aH ?_;simp at hh⊢;exact hh
 refine .br 60 Jl ?_;simp;refine .inLoop ?_;have hh:=key l.length 0 (by omega);simp at hh⊢;exact hh
section
variable{φ:List Ob->Prop}{f:FuncId}{caps:List AV}{p:Bs->Bool}{l:List Bs}
abbrev nX:Ob:=.row 1 aF [] none true false
def bB(p:Bs->Bool)(l:List Bs):List Bs:=l.filter fun x=>!p x
set_option maxRecDepth 8000 in
theorem afv(ha:ij Tryz.prog Γ φ f caps AV.str p l)(hs:l.length<2^40){h:List Ob}{r:Nat}(hr:r<h.length)(hφ:∀l',φ (h.set r (gN l')++[nX]))(up:List Fr):∀n j:Nat,j+n=l.length->∀A B X:List Bs,B≠[]->A=bB p (l.take j)->A.length+B.length=j->X=A++B++l.drop j->
 AM.Reach Tryz.prog Γ (yBo (.sl r 0 l.length) (.fn (.func f) [] caps) (.int .i64 A.length) (.int .i64 j) (h.set r (gN X)++[nX]) ⟨[],.norm,h.length,up⟩)
  (.back up (.sl r 0 (bB p l).length) (h.set r (gN (bB p l++List.replicate (l.length-(bB p l).length) []))++[nX])):=by
 have hlen:∀o,(h.set r o).length=h.length:=by simp
 have g1:∀(o:Ob)(os:List Ob),(h.set r o++os)[r]? =some o:=fun o os=>by rw[cV (by simp;omega)];simp[hr]
 have g2:∀(o o':Ob)(os:List Ob),(h.set r o++os).set r o'=h.set r o'++os:=fun o o' os=>by rw[kq _ _ (by simpa using hr)];simp
 intro n
 induction n with
 |zero=>
  intro j hj A B X hB hA hAB hX
  have q1:¬j<l.length:=by omega
  have q2:l.take j=l:=cd (by omega);rw[q2]at hA;rw[bw (by omega),fX]at hX
  have x1:X.length=l.length:=by rw[hX,bN];omega
  have x2:List.take A.length (List.map AV.str X)=List.map AV.str A:=by rw[hX,iQ,vp (by simp)]
  have x3:List.drop l.length (List.map AV.str X)=[]:=bw (by simp;omega);rw[<-hA];refine .aU 60 ?_;simp(disch:=omega) [q1,g1,g2,x1,x2,x3,gN]
 |succ n ih=>
  intro j hj A B X hB hA hAB hX
  have q1:j<l.length:=by omega
  have x1:X.length=l.length:=by rw[hX,bN,bN,C5];omega
  have x4:j<X.length:=by omega
  have x2:X[j]=l[j]:=by
   subst hX;rw[C9 (by simp;omega)];simp[hAB]
  have h2:=ha.2 l[j] (bz q1)
  have x5:bB p (l.take (j+1))=A++(if p l[j]=true then[]else[l[j]]):=by
   rw[gC q1,bB,List.filter_append,hA]
   cases hp:p l[j]<;>simp[bB,hp]
  refine .aU 60 ?_;simp(disch:=omega) [q1,g1,g2,x1,x2,x4,ha.1];refine .aX 60 (fun up=>h2 up _ (hφ X)) ?_
  cases hp:p l[j]with
  |true=>
   have hh:=ih (j+1) (by omega) A (B++[l[j]]) X (by simp) (by rw[x5,if_pos hp,fX]) (by simp;omega) (by rw[hX,bQ q1];simp);simp(disch:=omega) [hp];refine .aH ?_;simp at hh⊢;exact hh
  |false=>
   obtain⟨b,B',rfl⟩:∃b B',B=b::B':=by
    cases B with
    |nil=>exact absurd rfl hB
    |cons b B'=>exact⟨b,B',rfl⟩
   simp only[bX]at hAB
   have hh:=ih (j+1) (by omega) (A++[l[j]]) (B'++[l[j]]) (X.set A.length l[j]) (by simp) (by rw[x5,hp];rfl) (by simp;omega) (by
    rw[hX,bQ q1,fY,vq _ _ (aR _)];simp)
   have x6:A.length<X.length:=by omega
   simp(disch:=omega) [hp,g1,g2,x6,x1];refine .aH ?_;simp[gN]at hh⊢;exact hh
theorem JN(ha:ij Tryz.prog Γ φ f caps AV.str p l)(hs:l.length<2^40){h:List Ob}{r:Nat}(hr:h[r]? =some (gN l))(hφ:∀l',φ (h.set r (gN l')++[nX]))(hw:cu h):∃es,
 ∀up,AM.Reach Tryz.prog Γ (.cl pT [.sl r 0 l.length,.fn (.func f) [] caps] up h) (.back up (.sl r 0 (bB p l).length) (h.set r (gN (bB p l++es)))):=by
 have hrl:=aV hr
 have hrr:(h++[nX])[r]? =some (gN l):=by rw[cV hrl];exact hr
 have hφ0:φ (h++[nX]):=by have:=hφ l;rwa[Ff hr]at this
 have hI:=Xq (Γ:=Γ) ha (by omega) hrr hφ0
 have fin:∀es up,AM.Reach Tryz.prog Γ (.cl pT [.sl r 0 l.length,.fn (.func f) [] caps] up h) (.back up (.sl r 0 (bB p l).length) (h.set r (gN (bB p l++es))++[nX]))->
  AM.Reach Tryz.prog Γ (.cl pT [.sl r 0 l.length,.fn (.func f) [] caps] up h) (.back up (.sl r 0 (bB p l).length) (h.set r (gN (bB p l++es)))):=by
  intro es up h1;have e1:(h.set r (gN (bB p l++es))++[nX]).take h.length=h.set r (gN (bB p l++es)):=vp (by simp);have h2:=AM.Reach.leave h1 (by simpa using hrl) (by rw[e1];exact(hw.set (fun m hm=>by simp) r) _ (by simp));rwa[e1]at h2
 rcases K4 p l 0 with⟨h1,h2⟩|⟨k,h1,h2,h3⟩
 ·refine⟨[],fun up=>fin _ _ ?_⟩;refine .br 60 Jk ?_;simp;refine .aX 60 hI ?_;have e1:bB p l=l:=h2;rw[h1,e1];simp[Ff hr]
  done
 ·refine⟨List.replicate (l.length-(bB p l).length) [],fun up=>fin _ _ ?_⟩
  have hd:=afv (Γ:=Γ) ha hs hrl hφ up (l.length-(k+1)) (k+1) (by omega) (l.take k) [l[k]] l (by simp) h3.symm (by simp;omega) (by
   rw[fY,qR,<-bQ h1,lU])
  have e2:(l.take k).length=k:=by simp;omega
  rw[e2,Ff hr]at hd;refine .br 60 Jk ?_;simp;refine .aX 60 hI ?_;rw[h2]
  have q3:¬(k:Int)=-1:=by omega
  simp(disch:=omega) [q3];refine .inLoop ?_;simp at hd⊢;exact hd
end
abbrev BM(x:Nat×List Fm):AV:=.list false x.1 (x.2.map a_)
def cJ:List (Nat×List Fm)->List Fm
 |[]=>[]
 |x::xs=>x.2++cJ xs
theorem Ko(a b:List (Nat×List Fm)):cJ (a++b)=cJ a++cJ b:=by
 induction a with
 |nil=>rfl
 |cons x a ih=>simp[cJ,ih]
theorem Lh(xs:List (Nat×List Fm))(i:Nat)(h:i<xs.length):cJ (xs.take (i+1))=cJ (xs.take i)++xs[i].2:=by
 rw[gC h,Ko];simp[cJ]
theorem Oa(xs:List (Nat×List Fm))(i:Nat):(cJ (xs.take i)).length<=(cJ xs).length:=by
 conv=>rhs;rw[<-lU i xs,Ko]
 simp
set_option maxRecDepth 8000 in
theorem Tu(xs:List (Nat×List Fm))(hk:∀x∈xs,Kd 3 x.1 x.2)(hn:xs.length<2^40)(hs:(cJ xs).length<2^40)(hp:0<(cJ xs).length):
 aL Tryz.prog Γ sO [.list false 1 (xs.map BM)] (.own 3 aS ((cJ xs).map a_)):=by
 refine .run 60 Tv (by simp) ?_
 have key2:∀n i:Nat,i+n=xs.length->∀m:Nat,(cJ (xs.take i)).length+m=(cJ xs).length->
  aw Tryz.prog Γ (yBO (.sl 2 0 (cJ (xs.take i)).length) (.list false 1 (xs.map BM)) (.int .i64 xs.length) (.int .i64 i) [.row 3 aS [] none true false,.row 3 aS [] none true false,.row 3 aS ((cJ (xs.take i)).map a_++List.replicate m (AV.agg [AV.int .i64 0,AV.int .i64 0,AV.int .i64 0])) none true false])
   (.ret (.own 3 aS ((cJ xs).map a_))):=by
  intro n
  induction n with
  |zero=>
   intro i hi m hm
   have q1:¬i<xs.length:=by omega
   have q2:xs.take i=xs:=cd (by omega);rw[q2]at hm⊢
   have hm0:m=0:=by omega
   subst hm0;refine .go 60 ?_;simp[q1];exact .back (by simp)
  |succ n ih=>
   intro i hi m hm
   have q1:i<xs.length:=by omega
   have q2:=Lh xs i q1;have q3:=Oa xs (i+1);rw[q2,bN]at q3;have q4:=hk xs[i] (bz q1);have q5:xs[i].1=3\/xs[i].2=[]:=q4;have hh:=ih (i+1) (by omega) (m-xs[i].2.length) (by rw[q2,bN];omega);rw[q2]at hh
   have hd:(List.replicate m (AV.agg [AV.int .i64 0,AV.int .i64 0,AV.int .i64 0])).drop xs[i].2.length=List.replicate (m-xs[i].2.length) (AV.agg [AV.int .i64 0,AV.int .i64 0,AV.int .i64 0]):=by simp
   refine .go 60 ?_
   by_cases q6:(cJ (xs.take i)).length=(cJ xs).length
   ·have q7:xs[i].2=[]:=kh.1 (by omega)
    have hm0:m=0:=by omega
    subst hm0;simp[q7]at hh;simp(disch:=(first|omega|(simp;omega))) [q1,q5,q7];refine .aH ?_;simp;exact hh
   ·simp(disch:=(first|omega|(simp;omega))) [q1,q5]
    by_cases q7:m=0
    ·omega
    ·have c1:¬(cJ (List.take i xs)).length=(cJ (List.take i xs)).length+m:=by omega
     have c2:(cJ (List.take i xs)).length+xs[i].snd.length<=(cJ (List.take i xs)).length+m:=by omega
     simp(disch:=(first|omega|(simp;omega))) [q1,q5,c1,c2,q7];refine .aH ?_;have mL:((cJ (xs.take i)).map a_).drop ((cJ (xs.take i)).length+xs[i].2.length)=[]:=bw (by simp);simp[sE,hd,mL]at hh⊢;exact hh
 have key1:∀n i:Nat,i+n=xs.length->
  aw Tryz.prog Γ (yBQ (.list false 1 (xs.map BM)) (.int .i64 (cJ (xs.take i)).length) (.list false 1 (xs.map BM)) (.int .i64 xs.length) (.int .i64 i) [.row 3 aS [] none true false])
   (.ret (.own 3 aS ((cJ xs).map a_))):=by
  intro n
  induction n with
  |zero=>
   intro i hi
   have q1:¬i<xs.length:=by omega
   have q2:xs.take i=xs:=cd (by omega);have q3:0<(cJ xs).length:=hp;have hh:=key2 xs.length 0 (by omega) (cJ xs).length (by simp[cJ]);refine .go 60 ?_;rw[q2];simp[q1];refine .enter 60 Tx ?_
   have q4:¬(cJ xs).length=0:=by omega
   have q5:cJ xs≠[]:=fun e=>by rw[e]at hp;simp at hp
   obtain⟨m,hm⟩:∃m,(cJ xs).length=m+1:=⟨(cJ xs).length-1,by omega⟩
   have hrep:List.replicate (cJ xs).length (AV.agg [AV.int .i64 0,AV.int .i64 0,AV.int .i64 0])=(AV.agg [AV.int .i64 0,AV.int .i64 0,AV.int .i64 0])::List.replicate m (AV.agg [AV.int .i64 0,AV.int .i64 0,AV.int .i64 0]):=by rw[hm];rfl
   simp(disch:=(first|omega|(simp;omega))) [q3,q4,q5,hrep];refine .inLoop ?_;simp[cJ,hrep]at hh⊢;exact hh
  |succ n ih=>
   intro i hi
   have q1:i<xs.length:=by omega
   have q2:=Lh xs i q1;have q3:=Oa xs (i+1);rw[q2,bN]at q3;have hh:=ih (i+1) (by omega);rw[q2]at hh;refine .go 60 ?_
   have q4:¬((cJ (xs.take i)).length:Int)+xs[i].2.length<0:=by omega
   simp(disch:=(first|omega|(simp;omega))) [q1,q4];refine .aH ?_;simp at hh⊢;exact hh
 simp;refine .inLoop ?_;have hh:=key1 xs.length 0 (by omega);simp[cJ]at hh⊢;exact hh
def ml(s:Bs):Bool:=s.all fun c=>decide (c=45)
theorem ZU(s:Bs):(Lib.trimS s [45]=[])↔ml s=true:=by
 have e:(fun c=>([45]:Bs).contains c)=fun c=>decide (c=45):=by funext c;simp[eq_comm]
 unfold Lib.trimS Lib.trimLeftS Lib.trimRightS ml;rw[e];constructor
 ·intro h
  have h1:=dropWhile_nil _ s.reverse fun x hx=>re.1 h x (by simpa using hx)
  have h2:=re.1 h1;rw[dA];intro x hx;exact h2 x (by simpa using hx)
 ·intro h
  have h1:s.reverse.dropWhile (fun c=>decide (c=45))=[]:=re.2 fun x hx=>dA.1 h x (by simpa using hx)
  rw[h1];rfl
theorem adt(s:Bs)(hs:s.length<2^40):aL Tryz.prog Γ s8 [.str s,.str [45]] (.str (Lib.trimS s [45])):=by
 refine aL.PV (by simp) (fun _=>rfl) rfl fun N g h w us _ hV=>?_
 obtain⟨us,rfl,h1⟩:=Bp hV;obtain⟨us,rfl,h2⟩:=Bp h1;obtain rfl:=Nu h2;refine(Any.strings_Trim_laid Tryz.N9 (by kernel_rfl) ⟨s.toArray⟩ ⟨([45]:Bs).toArray⟩ w (by simp[ByteArray.size];omega) (by decide) (ascii_of_all (by decide))).mono ?_
 rintro e' w' ⟨rfl,hB⟩
 exact⟨⟨_,rfl,fun _ _=>by simp[V]⟩,hB⟩
theorem aek(l:List Bs)(hs:∀s∈l,s.length<2^40):ij Tryz.prog Γ (fun _=>True) zw [] AV.str ml l:=by
 refine⟨by simp,fun s hm up h _=>?_⟩;have hT:=adt (Γ:=Γ) s (hs s hm)
 have h2:decide (Lib.trimS s [45]=[])=ml s:=by rw[fE,To];exact ZU s
 refine .br 60 U6 ?_;simp;refine .jB 60 (by simp) hT ?_;simp[h2]
theorem ae7(x:Li)(i j:Nat)(l:List Bs)(hl:∀s∈l,s.length<2^40):ij Tryz.prog Γ (fun h=>h[j]? =some (.cells [.fn (.func oz) [] [.ptr i 0]])/\h[i]? =some (.cells (dI x).cells)/\cu h) vH [.ptr j 0] AV.str (fun s=>!cK x s) l:=by
 refine⟨by simp,fun s hs up h hφ=>?_⟩;have ha:=(Gj (Γ:=Γ) x i l hl).2 s hs;refine .br 60 Va ?_;simp[hφ.1];refine .aX 60 (fun up=>ha up h hφ.2) ?_;simp
def dj(rows:List Bs)(s:Bs):List Li:=(bn s 0).filter fun x=>decide (dG x rows=rows.length)
def GQ(rows:List Bs):List Fm:=⟨4,0,rows.length⟩::rows.flatMap fun s=>ei (bn s 0) []
def eP:Nat->List Bs->List Fm
 |0,_=>[]
 |_+1,[]=>[⟨0,0,0⟩]
 |f+1,s::r=>
  if bt ml (s::r)=true then[⟨1,0,0⟩]
  else if dj (s::r) s≠[]then ei (dj (s::r) s) (eP f (dn (dj (s::r) s) (s::r)))
  else if(cQ (s::r) s.length).2<2 then GQ (s::r)
  else⟨4,0,2⟩::ei [(cQ (s::r) s.length).1] (eP f (dn [(cQ (s::r) s.length).1] (bB (fun t=>!cK (cQ (s::r) s.length).1 t) (s::r))))++eP f (bB (cK (cQ (s::r) s.length).1) (s::r))
end Go.Proofs.YtihmomicdpkabaaGreatDoor
namespace Go.Proofs.YtihmomicdpkabaaGreatDoor
open Go.AM Go.Proofs
theorem jT{x:Li}:∀{s:Bs}{i:Nat},x∈bn s i↔i<=x.1/\s[x.1-i]? =some x.2/\x.2≠45
 |[],i=>by simp[bn]
 |c::s,i=>by
  have ih:=jT (x:=x) (s:=s) (i:=i+1)
  have e:i+1<=x.1->(c::s)[x.1-i]? =s[x.1-(i+1)]? :=fun h=>by rw[show x.1-i=(x.1-(i+1))+1 by omega];rfl
  rw[bn]
  by_cases h:c=45
  ·rw[if_pos h,ih];constructor
   ·rintro⟨h1,h2,h3⟩;exact⟨by omega,by rw[e h1];exact h2,h3⟩
   ·rintro⟨h1,h2,h3⟩
    have h4:i+1<=x.1:=by
     refine vk fun hn=>h3 ?_
     rw[show x.1-i=0 by omega]at h2;simp only[pL,aj]at h2;rw[<-h2,h]
    exact⟨h4,by rw[<-e h4];exact h2,h3⟩
  ·rw[if_neg h,bu,ih];constructor
   ·rintro(h1|⟨h1,h2,h3⟩)
    ·subst h1;exact⟨aR _,by simp,h⟩
    ·exact⟨by omega,by rw[e h1];exact h2,h3⟩
   ·rintro⟨h1,h2,h3⟩
    by_cases h4:x.1=i
    ·left;rw[show x.1-i=0 by omega]at h2;simp only[pL,aj]at h2;exact Prod.ext h4 h2.symm
    ·right;exact⟨by omega,by rw[<-e (by omega)];exact h2,h3⟩
theorem Ed:∀(s:Bs)(i:Nat),(bn s i).Pairwise (fun a b=>a.1≠b.1)
 |[],i=>.nil
 |c::s,i=>by
  rw[bn]
  split
  ·exact Ed s (i+1)
  ·refine List.pairwise_cons.2 ⟨fun y hy=>?_,Ed s (i+1)⟩;have:=(jT.1 hy).1
   simp only;omega
theorem LS{x:Li}:∀{s:Bs}{i:Nat},x∈bn s i->(bn (s.set (x.1-i) 45) i).length+1=(bn s i).length
 |[],i,h=>by simp[bn]at h
 |c::s,i,h=>by
  have hm:=jT.1 h
  by_cases h4:x.1=i
  ·have h2:=hm.2.1;rw[show x.1-i=0 by omega]at h2⊢;simp only[pL,aj]at h2
   have h5:¬c=45:=fun hc=>hm.2.2 (by rw[<-h2,hc])
   rw[u0,bn,bn,if_pos rfl,if_neg h5,bX]
  ·have h5:x∈bn s (i+1):=jT.2 ⟨by omega,by have:=hm.2.1;rw[show x.1-i=(x.1-(i+1))+1 by omega]at this;exact this,hm.2.2⟩;have ih:=LS h5;rw[show x.1-i=(x.1-(i+1))+1 by omega,pF,bn,bn]
   split
   ·exact ih
   ·simp only[bX];omega
theorem AE:∀(s:Bs)(i:Nat),(bn s i).length<=s.length
 |[],i=>aR _
 |c::s,i=>by rw[bn];have:=AE s (i+1);split<;>simp only[bX]<;>omega
theorem Ly:∀(l:List Li)(s:Bs),l.Pairwise (fun a b=>a.1≠b.1)->(∀x∈l,x∈bn s 0)->(bn (fj l s) 0).length+l.length=(bn s 0).length
 |[],s,_,_=>rfl
 |x::l,s,hp,hm=>by
  rw[List.pairwise_cons]at hp;have h1:=LS (hm x (by simp))
  have h2:=Ly l (s.set x.1 45) hp.2 fun y hy=>by
   have h3:=jT.1 (hm y (by simp[hy]));exact jT.2 ⟨by omega,by rw[dz (by have:=hp.1 y hy;omega)];exact h3.2.1,h3.2.2⟩
  simp only[bX];rw[C7]at h1;have:fj (x::l) s=fj l (s.set x.1 45):=rfl
  rw[this];omega
def cg:List Bs->Nat
 |[]=>0
 |s::r=>(bn s 0).length+cg r
theorem Ek(l:List Li)(hp:l.Pairwise (fun a b=>a.1≠b.1)):∀rows:List Bs,(∀s∈rows,∀x∈l,x∈bn s 0)->cg (dn l rows)+rows.length*l.length=cg rows
 |[],_=>by simp[dn,cg]
 |s::r,h=>by
  have h1:=Ek l hp r fun t ht=>h t (by simp[ht])
  have h2:=Ly l s hp (h s (by simp));simp only[dn,b_,cg,bX]at h1⊢
  rw[De];omega
theorem Ks(p:Bs->Bool):∀rows:List Bs,cg (bB p rows)+cg (bB (fun t=>!p t) rows)=cg rows
 |[]=>rfl
 |s::r=>by
  have ih:=Ks p r
  cases h:p s<;>simp[bB,h,cg]at ih⊢<;>omega
theorem zX(x:Li):∀rows:List Bs,(bB (fun t=>!cK x t) rows).length=dG x rows
 |[]=>rfl
 |s::r=>by
  have ih:=zX x r
  cases h:cK x s<;>simp[bB,h,dG]at ih⊢<;>omega
theorem KW{x:Li}:∀{rows:List Bs},dG x rows=rows.length↔∀s∈rows,x∈bn s 0
 |[]=>by simp[dG]
 |s::r=>by
  have ih:=KW (x:=x) (rows:=r);have hle:=Lg x r;rw[dG,bX]
  by_cases h:cK x s=true
  ·rw[if_pos h]
   have h':x∈bn s 0:=by simpa[cK]using h
   simp only[bu,Je];rw[<-ih];exact⟨fun h1=>⟨h',by omega⟩,fun h1=>by omega⟩
  ·rw[if_neg h]
   have h':¬x∈bn s 0:=by simpa[cK]using h
   exact⟨fun h1=>by omega,fun h1=>absurd (h1 s (by simp)) h'⟩
theorem rF{x:Li}{rows:List Bs}{s:Bs}(h:s∈bB (fun t=>!cK x t) rows):s∈rows/\x∈bn s 0:=by
 simp only[bB,dR,Bool.not_not]at h;exact⟨h.1,by simpa[cK]using h.2⟩
theorem M4(rows:List Bs){b:Li×Nat}(hb:0<b.2->b.2=dG b.1 rows)(x:Li):0<(lC rows b x).2->(lC rows b x).2=dG (lC rows b x).1 rows:=by
 unfold lC
 split
 ·intro _;rfl
 ·exact hb
theorem Ni(rows:List Bs):∀(n i:Nat)(b:Li×Nat),(0<b.2->b.2=dG b.1 rows)->0<(nc rows n i b).2->(nc rows n i b).2=dG (nc rows n i b).1 rows
 |0,_,b,hb=>hb
 |n+1,i,b,hb=>Ni rows n (i+1) _ (M4 rows (M4 rows hb _) _)
theorem EZ(rows:List Bs)(n:Nat):0<(cQ rows n).2->(cQ rows n).2=dG (cQ rows n).1 rows:=Ni rows n 0 _ (by simp)
theorem Ke(rows:List Bs)(s:Bs):(dj rows s).Pairwise (fun a b=>a.1≠b.1):=(Ed s 0).filter _
theorem z7{rows:List Bs}{s:Bs}{x:Li}(h:x∈dj rows s):∀t∈rows,x∈bn t 0:=by
 simp only[dj,dR,bf]at h;exact KW.1 h.2
theorem Em{s:Bs}:ml s=true↔bn s 0=[]:=by
 constructor
 ·intro h
  refine Jg.2 fun x hx=>?_
  have:=jT.1 hx;rw[ml,dA]at h;have h2:=h x.2 (il this.2.1);exact this.2.2 (by simpa using h2)
 ·intro h;rw[ml,dA];intro c hc;obtain⟨i,hi⟩:=List.getElem?_of_mem hc;refine qV (vk fun hn=>?_);have:(i,c)∈bn s 0:=jT.2 ⟨by omega,by simpa using hi,hn⟩;rw[h]at this
  cases this
theorem ZV(r:List Fm):(ju r).length<=r.length:=by unfold ju;split<;>simp
theorem aam(n:Nat):(pk n).length<=1:=by unfold pk;split<;>simp
theorem wI(l:List Li)(r:List Fm):(ei l r).length<=1+l.length+r.length:=by
 have h1:=ZV r;have h2:=aam (l.length+min (ju r).length 1)
 simp only[ei,bN,iq];omega
theorem Nw:∀rows:List Bs,(rows.flatMap fun s=>ei (bn s 0) []).length<=rows.length+cg rows
 |[]=>by simp
 |s::r=>by
  have ih:=Nw r;have h:=wI (bn s 0) [];simp only[nB,bN,bX,cg,dt]at h ih⊢;omega
theorem K7:∀rows:List Bs,bt ml rows=false->rows.length<=cg rows
 |[],_=>by simp
 |s::r,h=>by
  rw[iT,jQ]at h;have ih:=K7 r h.2
  have h1:0<(bn s 0).length:=by
   refine vk fun hn=>?_
   have:=Em.2 (kh.1 (by omega:(bn s 0).length=0))
   rw[h.1]at this;cases this
  simp only[bX,cg];omega
theorem DO{s:Bs}{r:List Bs}(h:dj (s::r) s≠[]):cg (dn (dj (s::r) s) (s::r))+(dj (s::r) s).length<=cg (s::r):=by
 have h1:=Ek (dj (s::r) s) (Ke _ _) (s::r) fun t ht x hx=>z7 hx t ht
 have h2:(dj (s::r) s).length<=(s::r).length*(dj (s::r) s).length:=Nat.le_mul_of_pos_left _ (by simp);omega
theorem Eo{s:Bs}{r:List Bs}(h:¬(cQ (s::r) s.length).2<2):
 cg (dn [(cQ (s::r) s.length).1] (bB (fun t=>!cK (cQ (s::r) s.length).1 t) (s::r)))+cg (bB (cK (cQ (s::r) s.length).1) (s::r))+2<=cg (s::r):=by
 have h0:=EZ (s::r) s.length (by omega);generalize(cQ (s::r) s.length).1=x at*
 have h1:=Ek [x] (by simp) (bB (fun t=>!cK x t) (s::r)) fun t ht y hy=>by simp only[dE]at hy;subst hy;exact(rF ht).2
 have h2:=Ks (cK x) (s::r);have h3:=zX x (s::r);simp only[bX,dt,Nat.mul_one,iP]at h1;omega
theorem rp:∀(f:Nat)(rows:List Bs),(eP f rows).length<=3*cg rows+1
 |0,_=>by simp[eP]
 |_+1,[]=>by simp[eP]
 |f+1,s::r=>by
  rw[eP]
  split
  ·simp
  ·rename_i hfr
   split
   ·rename_i hc;have h1:=rp f (dn (dj (s::r) s) (s::r));have h2:=DO hc;have h3:=wI (dj (s::r) s) (eP f (dn (dj (s::r) s) (s::r)));have h4:0<(dj (s::r) s).length:=pM.2 hc;omega
   ·split
    ·have h1:=Nw (s::r);have h2:=K7 (s::r) (by simpa using hfr)
     simp only[GQ,bX]at h1 h2⊢;omega
    ·rename_i hm;have h0:=Eo hm;have h1:=rp f (dn [(cQ (s::r) s.length).1] (bB (fun t=>!cK (cQ (s::r) s.length).1 t) (s::r)));have h2:=rp f (bB (cK (cQ (s::r) s.length).1) (s::r));have h3:=wI [(cQ (s::r) s.length).1] (eP f (dn [(cQ (s::r) s.length).1] (bB (fun t=>!cK (cQ (s::r) s.length).1 t) (s::r))));simp only[bX,bN,dt]at h3⊢;omega
end Go.Proofs.YtihmomicdpkabaaGreatDoor
namespace Go.Proofs.YtihmomicdpkabaaGreatDoor
open Go.AM Go.Proofs
variable{Γ:Nat->Option AV}
abbrev uK(n:Nat)(b:Bool)(st:LoopState)(c:List Li):List Ob:=[.row 2 lg [] none true false,.cells [.sl (n+5) 0 c.length],.row 2 lg [] none true false,.bA b,
 .loop st .none zg [U,U,.ptr (n+1) 0,U,.sl (n+2) 0 0,U,U,U,U,U,U,U,U] [7] (.ae RO) Rf,.row 2 lg (c.map dI) none true false]
set_option maxRecDepth 8000 in
theorem ad0(i:Nat)(s:Bs)(hs:s.length<2^40){h:List Ob}(hi:h[i]? =some (.cells [.str s]))(hw:cu h)(hwv:dW h)(up:List Fr)(hv:∀m,up.all (gn (h.length+5) m)=true):∀n j:Nat,j+n=s.length->∀c:List Li,c.length<=j->
 AM.Reach Tryz.prog Γ (Ip (.cS (h.length+4)) (.ptr i 0) (.int .i64 s.length) (.int .i64 j) (h++uK h.length true .ready c) ⟨[],.norm,h.length+5,up⟩)
  (.back up (.aB []) (h++uK h.length true .ready (c++bn (s.drop j) j))):=by
 have hil:=aV hi
 have hget:=fun os=>dJ hi os
 have hwr:∀c:UInt8,IntKind.i64.wrap (c.toNat:Int)=c.toNat:=fun c=>wrap64 (by omega) (by have:=c.toNat_lt;omega)
 have hb6:=hw (h.length+6) (by omega);intro n
 induction n with
 |zero=>
  intro j hj c hc
  have q1:¬j<s.length:=by omega
  rw[bw (by omega),bn];refine .aU 60 ?_;simp[q1]
 |succ n ih=>
  intro j hj c hc
  have q1:j<s.length:=by omega
  rw[bQ q1,bn]
  by_cases a:s[j]=45
  ·have hh:=ih (j+1) (by omega) c (by omega);rw[if_pos a];refine .aU 60 ?_;simp(disch:=omega) [q1,a,hget];refine .aH ?_;simp at hh⊢;exact hh
  ·rw[if_neg a];have hh:=ih (j+1) (by omega) (c++[(j,s[j])]) (by simp;omega);refine .aU 60 ?_;simp(disch:=omega) [q1,a,jY,hwr,hget];refine .trans (.pop _) (.aU 60 ?_);simp(disch:=omega);refine .aH ?_;simp;refine .j0 (h.length+6) (by simp;rfl) (by simp) (by simp;omega) (by simp[hb6]) ?_
   have hv5:=fun m=>hwv (h.length+5) m (by omega)
   refine .FO (i:=h.length+5) (k:=2) (E:=lg) (es:=(c++[(j,s[j])]).map dI) (fl:=true) (sh:=false) (by simp) (by simp) (hv _) (by simp[hv5]) ?_;simp[uK]at hh⊢;exact hh
set_option maxRecDepth 8000 in
theorem Y1(i:Nat)(s:Bs)(hs:s.length<2^40){h:List Ob}(hi:h[i]? =some (.cells [.str s]))(hw:cu h)(hwv:dW h)(up:List Fr)(hv:∀m,up.all (gn (h.length+5) m)=true):
 AM.Reach Tryz.prog Γ (.cl zj [.fn (.func ra) [] [.ptr i 0]] up h) (.back up (.sl (h.length+5) 0 (bn s 0).length) (h++uK h.length false .exhausted (bn s 0))):=by
 have hget:=fun os=>dJ hi os
 refine .br 60 TI ?_;simp;refine .br 60 Tq ?_;simp;refine .br 60 Dt ?_;simp[hget];refine .inLoop ?_;simp;refine .trans (.p8 (i:=h.length+1) (j:=0) (k:=2) lg (by simp;rfl) rfl (by omega)) ?_
 have hh:=fun up hv=>ad0 (Γ:=Γ) i s hs hi hw hwv up hv s.length 0 (by omega) [] (by simp)
 simp[uK]at hh⊢
 have hv':=fun m=>hv m
 simp at hv';refine .trans (hh _ (by simp;exact hv')) ?_;have e41:h.length+3+1=h.length+4:=rfl;refine .trans (.pop _) (.aU 60 ?_);simp[e41];refine .trans (.pop _) (.aU 60 ?_);simp
abbrev cx5:Cx:=⟨[.mark 5],.norm,0,[]⟩
set_option maxRecDepth 8000 in
theorem afZ(rows:List Bs)(hl:rows.length<=128)(hlen:∀t∈rows,t.length<=40){h8:List Ob}(h8l:h8.length=8)(h85:h8[5]? =some (.bA true))(hw:∀m,8<=m->cG m h8=true)(hwv:∀i m,8<=i->cH i m h8=true):∀n i:Nat,i+n=rows.length->∀out:List Fm,out.length<=42*i+1->
 aw Tryz.prog Γ (yvq (.sl 8 0 out.length) (.list false 1 (rows.map .str)) (.int .i64 rows.length) (.int .i64 i) (h8++[.row 3 aS (out.map a_) none true false]) cx5)
  (.ret (.own 3 aS ((out++(rows.drop i).flatMap fun s=>ei (bn s 0) []).map a_))):=by
 have g0:∀os:List Ob,(h8++os)[8]? =os[0]? :=fun os=>by rw[<-h8l,aaI]
 have g1:∀(os:List Ob)(k:Nat),8<=k->(h8++os)[k]? =os[k-8]? :=fun os k hk=>by rw[dD (by omega),h8l]
 have s0:∀(os:List Ob)(o:Ob),(h8++os).set 8 o=h8++os.set 0 o:=fun os o=>by rw[<-h8l,aaS]
 have hw9:=hw 9 (by omega);have h85':h8[5]=.bA true:=(cW.1 h85).2
 have g15:∀os:List Ob,(h8++os)[15]? =os[7]? :=fun os=>g1 os 15 (by omega)
 have g5:∀os:List Ob,(h8++os)[5]? =some (.bA true):=fun os=>by rw[cV (by omega)];exact h85
 have s5:∀(os:List Ob)(o:Ob),(h8++os).set 5 o=h8.set 5 o++os:=fun os o=>kq _ _ (by omega)
 have g6:∀(os:List Ob)(o:Ob),(h8.set 5 o++os)[8]? =os[0]? :=fun os o=>by rw[dD (by simp;omega)];simp[h8l]
 have hv8:=fun m=>hwv 8 m (by omega)
 intro n
 induction n with
 |zero=>
  intro i hi out ho
  have q1:¬i<rows.length:=by omega
  rw[bw (by omega),List.flatMap_nil,fX];refine .go 60 ?_;simp[q1,g0,h8l,g5,s5,h85'];refine .back ?_;simp[g6]
  done
 |succ n ih=>
  intro i hi out ho
  have q1:i<rows.length:=by omega
  have q3:=hlen _ (bz q1);have hcl:=AE rows[i] 0;have hal:=wI (bn rows[i] 0) [];have hall:=Gf (Γ:=Γ) (bn rows[i] 0) (.inl rfl:Kd 2 2 _) (by omega) (fun x hx=>by have:=jT.1 hx;have:=(cW.1 this.2.1).1;omega) [] (.inr rfl:Kd 3 0 _) (by simp);have hh:=ih (i+1) (by omega) (out++ei (bn rows[i] 0) []) (by simp only[bN,dt]at hal⊢;omega);rw[bQ q1,nB,<-fY]
  have hcoll:=Y1 (Γ:=Γ) 9 rows[i] (by omega) (h:=h8++[.row 3 aS (out.map a_) none true false,.cells [.str rows[i]]]) (by rw[g1 _ _ (by omega)];rfl)
   (fun m hm=>by simp at hm;simp[hw m (by omega)]) (fun j m hj=>by simp at hj;simp[hwv j m (by omega)])
  refine .go 60 ?_;simp(disch:=omega) [q1];refine .aX 60 (D1 rows[i]) ?_;simp[h8l,uK]at hcoll⊢;refine .reach (hcoll _ (by simp)) ?_;refine .go 60 ?_;simp;simp at hall;refine .call 60 (by simp[g15]) hall ?_
  have hb24:(out.length+(ei (bn rows[i] 0) []).length)*24<=140737488355328:=by simp only[dt]at hal;omega
  simp[h8l,g0,s0,hb24];refine .aH ?_;simp;refine .drop (h':=h8++[.row 3 aS (List.map a_ out++List.map a_ (ei (bn rows[i] 0) [])) (if ei (bn rows[i] 0) []=[]then none else some 0) true false]) 9 (by rw[show(9:Nat)=h8.length+1 by omega,List.take_length_add_append];rfl) (by simp) (by simp) (by simp[hw9]) ?_;refine .mc (i:=8) (k:=3) (E:=aS) (es:=List.map a_ out++List.map a_ (ei (bn rows[i] 0) [])) (gr:=if ei (bn rows[i] 0) []=[]then none else some 0) (fl:=true) (sh:=false) (by simp[g0]) (by split<;>simp) (by simp) (by simp) (by simp[hv8]) ?_;rw[s0];have hwi:IntKind.i64.wrap ((i:Int)+1)=i+1:=wrap64 (by omega) (by omega);simp[hwi]at hh⊢;exact hh
abbrev P3(v13:AV):List AV:=[U,.ptr 0 0,U,U,U,U,.ptr 7 0,U,U,U,U,.ptr 9 0,.fn (.func vH) [] [.ptr 9 0],v13]++List.replicate 87 U
abbrev uI(rows:List Bs)(s:Bs)(x:Li)(lo:List AV):List Ob:=[.cells [.list false 1 (rows.map .str)],.row 3 aS [] none true false,.cells [.sl 3 0 0],.row 2 lg [] none true false,.cells [.str s],.bA true,
 .loop .exhausted .none iv lo [31] (.ae Cz) Cc,.cells (dI x).cells,.cells (dI x).cells,.cells [.fn (.func oz) [] [.ptr 8 0]]]
def BY(x:Li)(q r:List Fm):List Fm:=⟨4,0,2⟩::ei [x] q++r
set_option maxRecDepth 8000 in
theorem aeB(rows:List Bs)(h0:rows≠[])(hl:rows.length<=128)(hlen:∀t∈rows,t.length<2^40)(s:Bs)(x:Li)(hx:x.1<2^40)(lo:List AV)(hlo:∀m,10<=m->aK m lo=true)(q r:List Fm)(hq:q.length<2^30)(hr:r.length<2^30)
 (hfac:aL Tryz.prog Γ iv [.list false 1 ((bB (cK x) rows).map .str)] (.own 3 aS (r.map a_))):
 aw Tryz.prog Γ (.fr ⟨.run,iv,[It.code ((ah.aT [O,O,I,O,O,O] [2,4,4,5,7,7] CL).seq ((ah.ae CP).seq ah.ret))],P3 (.sl 10 0 q.length),[.mark 5],.norm,0⟩ [] (uI rows s x lo++[.row 3 aS (q.map a_) none true false]))
  (.ret (.own 3 aS ((BY x q r).map a_))):=by
 have hclone:=sQ (Γ:=Γ) rows (.inl rfl:Kd 1 1 rows) (by omega);have hall:=Gf (Γ:=Γ) [x] (.inl rfl:Kd 2 2 _) (by simp) (fun y hy=>by simp only[dE]at hy;subst hy;exact hx) q (.inl rfl:Kd 3 3 _) (by omega);have hal:=wI [x] q
 have hcl:(cJ [(3,[⟨4,0,2⟩]),(3,ei [x] q),(3,r)]).length<2^40:=by
  simp only[cJ,bN,bX,dt,fX]at hal⊢;omega
 have hcat:=Tu (Γ:=Γ) [(3,[⟨4,0,2⟩]),(3,ei [x] q),(3,r)] (by simp[Kd]) (by simp) hcl (by simp[cJ]);refine .go 60 ?_;simp;refine .dr 60 ?_;simp;refine .call (by simp) hclone ?_
 have hwf:∀os,(∀m,10<=m->cG m os=true)->cu (uI rows s x lo++os):=fun os ho m hm=>by
  have hm':10<=m:=by simp at hm;omega
  simp[ho m hm',hlo m hm'];omega
 obtain⟨es,hdel⟩:=JN (Γ:=Γ) (Gj x 8 rows hlen) (by omega) (h:=uI rows s x lo++[.row 3 aS (q.map a_) none true false,gN rows]) (r:=11) rfl (fun l'=>⟨rfl,hwf [.row 3 aS (q.map a_) none true false,gN l',nX] (fun m hm=>by simp)⟩) (hwf _ (fun m hm=>by simp));simp[gN]at hdel;simp;refine .reach (by simp) hdel ?_;simp;refine .call (by simp) hfac ?_;simp;refine .call 60 (by simp) hall ?_;simp;refine .call 60 (by simp) hcat ?_;simp;exact .back (by simp[cJ,BY])
theorem Xz{P:Program}(n:Nat){f:FuncId}{args:List AV}{up:List Fr}{h:List Ob}{v:AV}{h':List Ob}{o:Out}(h1:∀up,AM.Reach P Γ (.cl f args up h) (.back up v h'))(h2:aw P Γ (AM.kW P Γ n (.back up v h')) o):aw P Γ (.cl f args up h) o:=.reach (h1 up) (.reach (.uA n _) h2)
theorem aeK:eZ (nn xJ) xJ.length []=[[0,1,2,3,4,5,6,7,8],[0,1,2,4,3,5,6,7,8],[0,1,2,4,5,3,6,7,8],[0,1,4,2,3,5,6,7,8],[0,1,4,2,5,3,6,7,8],[0,1,4,5,2,3,6,7,8],[0,2,1,3,4,5,6,7,8],[0,2,1,4,3,5,6,7,8],[0,2,1,4,5,3,6,7,8],[0,2,4,1,3,5,6,7,8],[0,2,4,1,5,3,6,7,8],[0,2,4,5,1,3,6,7,8],[0,4,1,2,3,5,6,7,8],[0,4,1,2,5,3,6,7,8],[0,4,1,5,2,3,6,7,8],[0,4,2,1,3,5,6,7,8],[0,4,2,1,5,3,6,7,8],[0,4,2,5,1,3,6,7,8],[0,4,5,1,2,3,6,7,8],[0,4,5,2,1,3,6,7,8],[2,0,1,3,4,5,6,7,8],[2,0,1,4,3,5,6,7,8],[2,0,1,4,5,3,6,7,8],[2,0,4,1,3,5,6,7,8],[2,0,4,1,5,3,6,7,8],[2,0,4,5,1,3,6,7,8],[2,4,0,1,3,5,6,7,8],[2,4,0,1,5,3,6,7,8],[2,4,0,5,1,3,6,7,8],[2,4,5,0,1,3,6,7,8],[4,0,1,2,3,5,6,7,8],[4,0,1,2,5,3,6,7,8],[4,0,1,5,2,3,6,7,8],[4,0,2,1,3,5,6,7,8],[4,0,2,1,5,3,6,7,8],[4,0,2,5,1,3,6,7,8],[4,0,5,1,2,3,6,7,8],[4,0,5,2,1,3,6,7,8],[4,2,0,1,3,5,6,7,8],[4,2,0,1,5,3,6,7,8],[4,2,0,5,1,3,6,7,8],[4,2,5,0,1,3,6,7,8],[4,5,0,1,2,3,6,7,8],[4,5,0,2,1,3,6,7,8],[4,5,2,0,1,3,6,7,8]]:=by rfl
set_option maxRecDepth 8000 in
set_option maxHeartbeats 4000000 in
theorem afT(rows:List Bs)(h0:rows≠[])(hl:rows.length<=128)(hlen:∀t∈rows,t.length<2^40)(s:Bs)(x:Li)(hx:x.1<2^40)(hxr:∀t∈rows,x.1<t.length)(lo:List AV)(hlo:∀m,10<=m->aK m lo=true)(q r:List Fm)(hq:q.length<2^30)(hr:r.length<2^30)
 (hfac0:aL Tryz.prog Γ iv [.list false 1 ((dn [x] (bB (fun t=>!cK x t) rows)).map .str)] (.own 3 aS (q.map a_)))
 (hfac:aL Tryz.prog Γ iv [.list false 1 ((bB (cK x) rows).map .str)] (.own 3 aS (r.map a_))):
 aw Tryz.prog Γ (.fr ⟨.run,iv,[It.code (.aT [I,I,O,I,O,O,O,O,O] [7,7,7,7,6,7,8,10,10] xJ),It.code ((ah.aT [O,O,I,O,O,O] [2,4,4,5,7,7] CL).seq ((ah.ae CP).seq ah.ret))],P3 U,[.mark 5],.norm,0⟩ [] (uI rows s x lo))
  (.ret (.own 3 aS ((BY x q r).map a_))):=by
 have hend:=aeB (Γ:=Γ) rows h0 hl hlen s x hx lo hlo q r hq hr hfac;have hclone:=sQ (Γ:=Γ) rows (.inl rfl:Kd 1 1 rows) (by omega)
 have hdiv:=M_ (Γ:=Γ) (bB (fun t=>!cK x t) rows) [x] (.inl rfl:Kd 1 1 _) (.inl rfl:Kd 2 2 _) (by have:(bB (fun t=>!cK x t) rows).length<=rows.length:=Jh _ _;omega) (by simp) fun t ht=>by
  have h1:=(rF ht).1;exact⟨hlen t h1,fun y hy=>by simp only[dE]at hy;subst hy;exact hxr t h1⟩
 simp at hdiv
 have hwf:∀os,(∀m,10<=m->cG m os=true)->cu (uI rows s x lo++os):=fun os ho m hm=>by
  have hm':10<=m:=by simp at hm;omega
  simp[ho m hm',hlo m hm'];omega
 obtain⟨es,hdel⟩:=JN (Γ:=Γ) (ae7 x 8 9 rows hlen) (by omega) (h:=uI rows s x lo++[gN rows]) (r:=10) rfl (fun l'=>⟨rfl,rfl,hwf [gN l',nX] (fun m hm=>by simp)⟩) (hwf _ (fun m hm=>by simp));simp[gN]at hdel;refine .RE 60 ?_;rw[aeK];intro l hm;simp only[bu,pR,pG]at hm
 rcases hm with rfl|rfl|rfl|rfl|rfl|rfl|rfl|rfl|rfl|rfl|rfl|rfl|rfl|rfl|rfl|rfl|rfl|rfl|rfl|rfl|rfl|rfl|rfl|rfl|rfl|rfl|rfl|rfl|rfl|rfl|rfl|rfl|rfl|rfl|rfl|rfl|rfl|rfl|rfl|rfl|rfl|rfl|rfl|rfl|rfl
 all_goals
  simp;refine .xj 60 (by simp) hclone ?_;simp;refine Xz 60 hdel ?_;simp;refine .xj 60 (by simp) hdiv ?_;simp;refine .xj 60 (by simp) hfac0 ?_;simp;refine .lK [79,80,81,82,83,84,85,86] ?_;simp[lI];refine .gc 10 [2] (by simp[hlo 10 (by omega)]) (by decide) ?_;simp[kD (hlo 10 (by omega))];refine .go 1 ?_;simp at hend⊢;exact hend
def nM(n:Nat)(rows:List Bs):Prop:=rows.length<=128/\(∀s∈rows,s.length=n)/\n<=40
theorem ET{n:Nat}:∀{rows:List Bs},(∀s∈rows,s.length=n)->cg rows<=rows.length*n
 |[],_=>by simp[cg]
 |s::r,h=>by
  have h1:=AE s 0
  have h2:=ET (rows:=r) fun t ht=>h t (by simp[ht])
  have h3:=h s (by simp)
  simp only[cg,bX,De];omega
theorem nM.cost{n:Nat}{rows:List Bs}(h:nM n rows):cg rows<=5120:=by
 have h1:=ET h.2.1;have h2:rows.length*n<=128*40:=Nat.mul_le_mul h.1 h.2.2;omega
abbrev GA:List AV:=[U,.ptr 0 0,.sl 1 0 0,U,.ptr 2 0]++List.replicate 96 U
abbrev BX(rows:List Bs)(s:Bs)(c:List Li)(gr:Option Nat):List Ob:=[.cells [.list false 1 (rows.map .str)],.row 3 aS [] none true false,.cells [.sl 3 0 c.length],.row 2 lg (c.map dI) gr true false,.cells [.str s],.bA true,
 .loop .ready .none iv GA [31] (.ae Cz) Cc]
set_option maxRecDepth 8000 in
theorem abC(rows:List Bs)(hl:rows.length<2^40)(s:Bs)(hs:∀t∈rows,t.length<2^40)(hs1:s.length<2^40)(up:List Fr)(hv:∀m,up.all (gn 3 m)=true):∀n j:Nat,j+n=s.length->∀c:List Li,c.length<=j->
 AM.Reach Tryz.prog Γ (Ip (.cS 6) (.ptr 4 0) (.int .i64 s.length) (.int .i64 j) (BX rows s c none) ⟨[],.norm,7,up⟩)
  (.back up (.aB []) (BX rows s (c++(bn (s.drop j) j).filter fun x=>decide (dG x rows=rows.length)) none)):=by
 have hwr:∀c:UInt8,IntKind.i64.wrap (c.toNat:Int)=c.toNat:=fun c=>wrap64 (by omega) (by have:=c.toNat_lt;omega)
 intro n
 induction n with
 |zero=>
  intro j hj c hc
  have q1:¬j<s.length:=by omega
  rw[bw (by omega),bn];refine .aU 60 ?_;simp[q1]
 |succ n ih=>
  intro j hj c hc
  have q1:j<s.length:=by omega
  rw[bQ q1,bn]
  by_cases a:s[j]=45
  ·have hh:=ih (j+1) (by omega) c (by omega);rw[if_pos a];refine .aU 60 ?_;simp(disch:=omega) [q1,a];refine .aH ?_;simp at hh⊢;exact hh
  ·rw[if_neg a];have hp:=FH (Γ:=Γ) rows (j,s[j]) (.inl rfl) hl hs;refine .aU 60 ?_;simp(disch:=omega) [q1,a,jY,hwr];refine .nr 60 ?_;simp;refine .call (by simp) hp ?_
   by_cases h3:dG (j,s[j]) rows=rows.length
   ·have h3':((dG (j,s[j]) rows:Nat):Int)=rows.length:=by omega
    have hh:=ih (j+1) (by omega) (c++[(j,s[j])]) (by simp;omega);rw[List.filter_cons_of_pos (by simpa using h3)];simp(disch:=omega) [h3,h3'];refine .trans (.pop _) (.aU 60 ?_);simp(disch:=omega);refine .aH ?_;simp;refine .j0 7 rfl (by simp) (by simp) (by simp) ?_;refine .FO (i:=3) rfl (by simp) (hv _) (by simp) ?_;simp[BX]at hh⊢;exact hh
   ·have h3':¬((dG (j,s[j]) rows:Nat):Int)=rows.length:=by omega
    have hh:=ih (j+1) (by omega) c (by omega);rw[List.filter_cons_of_neg (by simpa using h3)];simp(disch:=omega) [h3,h3'];refine .trans (.pop _) (.aU 60 ?_);simp(disch:=omega);refine .aH ?_;simp;refine .j0 7 rfl (by simp) (by simp) (by simp) ?_;simp at hh⊢;exact hh
set_option maxRecDepth 8000 in
theorem Z6(f n:Nat)(s:Bs)(r:List Bs)(hw:nM n (s::r))
 (ih:∀rows:List Bs,cg rows<cg (s::r)->nM n rows->∀k,Kd 1 k rows->aL Tryz.prog Γ iv [.list false k (rows.map .str)] (.own 3 aS ((eP f rows).map a_))):aL Tryz.prog Γ iv [.list false 1 ((s::r).map .str)] (.own 3 aS ((eP (f+1) (s::r)).map a_)):=by
 obtain⟨b1,b2,b3⟩:=hw
 have hlen:∀t∈s::r,t.length<2^40:=fun t ht=>by rw[b2 t ht];omega
 have hC:=fun(h:List Ob)=>vE (Γ:=Γ) (fl:=false) (k:=1) (aek (s::r) hlen) (.inl rfl) (by omega) (h:=h) trivial
 rw[eP];generalize hR:(if bt ml (s::r)=true then _ else _:List Fm)=R;refine .run 100 eY (by simp) ?_;simp
 have q1:¬(r.length:Int)+1=0:=by omega
 simp[q1];simp at hC
 by_cases hf:bt ml (s::r)=true
 ·rw[if_pos hf]at hR;subst hR
  first
   |(refine .aX 4 (hC _) ?_;simp[hf];refine .cB 60 aS (es:=[a_ ⟨1,0,0⟩]) (by simp) (by simp) ?_)
   |(refine .aX 5 (hC _) ?_;simp[hf];refine .cB 60 aS (es:=[a_ ⟨1,0,0⟩]) (by simp) (by simp) ?_)
   |(refine .aX 6 (hC _) ?_;simp[hf];refine .cB 60 aS (es:=[a_ ⟨1,0,0⟩]) (by simp) (by simp) ?_)
   |(refine .aX 7 (hC _) ?_;simp[hf];refine .cB 60 aS (es:=[a_ ⟨1,0,0⟩]) (by simp) (by simp) ?_)
   |(refine .aX 8 (hC _) ?_;simp[hf];refine .cB 60 aS (es:=[a_ ⟨1,0,0⟩]) (by simp) (by simp) ?_)
   |(refine .aX 9 (hC _) ?_;simp[hf];refine .cB 60 aS (es:=[a_ ⟨1,0,0⟩]) (by simp) (by simp) ?_)
   |(refine .aX 10 (hC _) ?_;simp[hf];refine .cB 60 aS (es:=[a_ ⟨1,0,0⟩]) (by simp) (by simp) ?_)
   |(refine .aX 11 (hC _) ?_;simp[hf];refine .cB 60 aS (es:=[a_ ⟨1,0,0⟩]) (by simp) (by simp) ?_)
  simp;exact .back (by simp)
 ·rw[if_neg hf]at hR;refine .aX 60 (hC _) ?_;simp[hf];refine .aX 60 (D1 s) ?_;simp;refine .enter 60 Dt ?_;simp;refine .inLoop ?_;have hs1:=hlen s (by simp)
  have hcm:=fun up hv=>abC (Γ:=Γ) (s::r) (by omega) s hlen hs1 up hv s.length 0 (by omega) [] (by simp)
  simp[BX]at hcm;refine .reach (hcm _ (by simp)) ?_;have e1:List.filter (fun x=>decide (dG x (s::r)=r.length+1)) (bn s 0)=dj (s::r) s:=rfl;rw[e1]
  have hsub:∀x∈dj (s::r) s,∀t∈s::r,x.1<t.length:=fun x hx t ht=>by
   have:=jT.1 (z7 hx t ht);exact(cW.1 this.2.1).1
  have hclen:(dj (s::r) s).length<=40:=by
   have h1:(dj (s::r) s).length<=(bn s 0).length:=Jh _ _;have h2:=AE s 0;have:=b2 s (by simp);omega
  refine .go 60 ?_
  by_cases hc:dj (s::r) s≠[]
  ·rw[if_pos hc]at hR;have hpos:0<(dj (s::r) s).length:=pM.2 hc;have hcost:=DO hc;simp[hpos]
   have hdw:nM n (dn (dj (s::r) s) (s::r)):=⟨by simpa[dn]using b1,fun t ht=>by
    simp only[dn,cI]at ht;obtain⟨t0,h1,rfl⟩:=ht
    rw[p6];exact b2 _ h1,b3⟩
   have hdiv:=M_ (Γ:=Γ) (s::r) (dj (s::r) s) (.inl rfl:Kd 1 1 (s::r)) (.inl rfl:Kd 2 2 _) (by omega) (by omega) fun t ht=>⟨hlen t ht,fun x hx=>hsub x hx t ht⟩
   have hfac:=ih _ (by omega) hdw 1 (.inl rfl);have hfl:=rp f (dn (dj (s::r) s) (s::r));have hall:=Gf (Γ:=Γ) (dj (s::r) s) (.inl rfl:Kd 2 2 _) (by omega) (fun x hx=>by have:=hsub x hx s (by simp);omega) (eP f (dn (dj (s::r) s) (s::r))) (.inl rfl:Kd 3 3 _) (by have:=hdw.cost;omega);generalize dj (s::r) s=c at*;subst hR;simp at hdiv;refine .dr 60 ?_;simp;refine .call (by simp) hdiv ?_;simp;refine .call (by simp) hfac ?_;simp;refine .call (by simp) hall ?_;simp;exact .back (by simp)
  ·rw[if_neg hc]at hR
   have hc0:dj (s::r) s=[]:=by simpa using hc
   have hmost:=aeQ (Γ:=Γ) (s::r) (.inl rfl:Kd 1 1 (s::r)) (by omega) hlen s.length s rfl rfl;simp at hmost;simp[hc0]
   by_cases hm:(cQ (s::r) s.length).2<2
   ·rw[if_pos hm]at hR
    have hm':(((cQ (s::r) s.length).2:Nat):Int)<2:=by omega
    subst hR
    first
     |(refine .call 14 (by simp) hmost ?_;simp[hm'];refine .cB 60 aS (es:=[a_ ⟨4,0,(r.length:Int)+1⟩]) (by simp) (by simp) ?_)
     |(refine .call 15 (by simp) hmost ?_;simp[hm'];refine .cB 60 aS (es:=[a_ ⟨4,0,(r.length:Int)+1⟩]) (by simp) (by simp) ?_)
     |(refine .call 16 (by simp) hmost ?_;simp[hm'];refine .cB 60 aS (es:=[a_ ⟨4,0,(r.length:Int)+1⟩]) (by simp) (by simp) ?_)
     |(refine .call 17 (by simp) hmost ?_;simp[hm'];refine .cB 60 aS (es:=[a_ ⟨4,0,(r.length:Int)+1⟩]) (by simp) (by simp) ?_)
     |(refine .call 18 (by simp) hmost ?_;simp[hm'];refine .cB 60 aS (es:=[a_ ⟨4,0,(r.length:Int)+1⟩]) (by simp) (by simp) ?_)
     |(refine .call 19 (by simp) hmost ?_;simp[hm'];refine .cB 60 aS (es:=[a_ ⟨4,0,(r.length:Int)+1⟩]) (by simp) (by simp) ?_)
     |(refine .call 20 (by simp) hmost ?_;simp[hm'];refine .cB 60 aS (es:=[a_ ⟨4,0,(r.length:Int)+1⟩]) (by simp) (by simp) ?_)
     |(refine .call 21 (by simp) hmost ?_;simp[hm'];refine .cB 60 aS (es:=[a_ ⟨4,0,(r.length:Int)+1⟩]) (by simp) (by simp) ?_)
     |(refine .call 22 (by simp) hmost ?_;simp[hm'];refine .cB 60 aS (es:=[a_ ⟨4,0,(r.length:Int)+1⟩]) (by simp) (by simp) ?_)
     |(refine .call 23 (by simp) hmost ?_;simp[hm'];refine .cB 60 aS (es:=[a_ ⟨4,0,(r.length:Int)+1⟩]) (by simp) (by simp) ?_)
     |(refine .call 24 (by simp) hmost ?_;simp[hm'];refine .cB 60 aS (es:=[a_ ⟨4,0,(r.length:Int)+1⟩]) (by simp) (by simp) ?_)
     |(refine .call 25 (by simp) hmost ?_;simp[hm'];refine .cB 60 aS (es:=[a_ ⟨4,0,(r.length:Int)+1⟩]) (by simp) (by simp) ?_)
    simp;refine .inLoop ?_
    have hor:=afZ (Γ:=Γ) (s::r) b1 (fun t ht=>by rw[b2 t ht];exact b3) (h8:=[.cells [.list false 1 ((s::r).map .str)],.row 3 aS [] none true false,.cells [.sl 3 0 0],.row 2 lg [] none true false,.cells [.str s],.bA true,
     .loop .exhausted .none iv GA [31] (.ae Cz) Cc,.cells (dI (cQ (s::r) s.length).1).cells]) rfl rfl (fun m hm=>by simp;omega) (fun i m hi=>by simp;omega) (s::r).length 0 (by omega) [⟨4,0,(s::r).length⟩] (by simp)
    simp[GQ]at hor⊢;exact hor
   ·rw[if_neg hm]at hR
    have hm':¬(((cQ (s::r) s.length).2:Nat):Int)<2:=by omega
    refine .call 60 (by simp) hmost ?_;simp[hm'];refine .aX 60 (Pq _) ?_;simp
    have hxr:∀t∈s::r,(cQ (s::r) s.length).1.1<t.length:=fun t ht=>by
     have h0:=EZ (s::r) s.length (by omega);have h1:=zX (cQ (s::r) s.length).1 (s::r);obtain⟨t0,h2⟩:=Da (l:=bB (fun t=>!cK (cQ (s::r) s.length).1 t) (s::r)) (by omega);have h3:=rF h2;have h4:=(cW.1 (jT.1 h3.2).2.1).1
     rw[b2 t ht,<-b2 t0 h3.1];omega
    have hcm2:=Eo hm;have hfl0:=rp f (dn [(cQ (s::r) s.length).1] (bB (fun t=>!cK (cQ (s::r) s.length).1 t) (s::r)));have hfl1:=rp f (bB (cK (cQ (s::r) s.length).1) (s::r));have hcst:=nM.cost ⟨b1,b2,b3⟩
    have hw1:nM n (dn [(cQ (s::r) s.length).1] (bB (fun t=>!cK (cQ (s::r) s.length).1 t) (s::r))):=⟨by
     have:(bB (fun t=>!cK (cQ (s::r) s.length).1 t) (s::r)).length<=(s::r).length:=Jh _ _
     simp only[dn,iq];omega,fun t ht=>by
     simp only[dn,cI]at ht;obtain⟨t0,h1,rfl⟩:=ht
     rw[p6];exact b2 _ (rF h1).1,b3⟩
    have hw2:nM n (bB (cK (cQ (s::r) s.length).1) (s::r)):=⟨by
     have:(bB (cK (cQ (s::r) s.length).1) (s::r)).length<=(s::r).length:=Jh _ _
     omega,fun t ht=>b2 t (dR.1 ht).1,b3⟩
    have htwo:=afT (Γ:=Γ) (s::r) (by simp) b1 hlen s (cQ (s::r) s.length).1 (by have:=hxr s (by simp);omega) hxr GA (fun m hm=>by simp;omega) _ _ (by omega) (by omega) (ih _ (by omega) hw1 1 (.inl rfl)) (ih _ (by omega) hw2 1 (.inl rfl));subst hR;refine .lK [0,2,3,4,7,15,16,17,18,21,22,23,24,27,28,29,30,42,43,44,51,52,53,54,55,56,57,76,77,78] ?_;simp[lI];simp[BY]at htwo⊢;exact htwo
theorem Xo(l:List (List UInt8))(s:List UInt8){k:Nat}(hk:Kd 1 k l)(hl:l.length<2^40):aL Tryz.prog Γ zi [.list false k (l.map .str),.str s] (.bool (l.contains s)):=by
 refine .run 60 TF (by simp) ?_;simp;refine .call 60 (by simp) (No l s hk hl) ?_;have e:=MZ s l 0;simp[e];exact .back (by simp)
theorem ML(n:Nat):∀(f:Nat)(rows:List Bs),cg rows<f->nM n rows->∀k,Kd 1 k rows->aL Tryz.prog Γ iv [.list false k (rows.map .str)] (.own 3 aS ((eP f rows).map a_))
 |0,rows,hc,_,_,_=>by omega
 |f+1,[],hc,hw,k,hk=>by
  first
   |(refine .run 12 eY (by simp) ?_;simp;refine .cB 60 aS (es:=[a_ ⟨0,0,0⟩]) (by simp) (by simp) ?_)
   |(refine .run 13 eY (by simp) ?_;simp;refine .cB 60 aS (es:=[a_ ⟨0,0,0⟩]) (by simp) (by simp) ?_)
   |(refine .run 14 eY (by simp) ?_;simp;refine .cB 60 aS (es:=[a_ ⟨0,0,0⟩]) (by simp) (by simp) ?_)
   |(refine .run 15 eY (by simp) ?_;simp;refine .cB 60 aS (es:=[a_ ⟨0,0,0⟩]) (by simp) (by simp) ?_)
   |(refine .run 16 eY (by simp) ?_;simp;refine .cB 60 aS (es:=[a_ ⟨0,0,0⟩]) (by simp) (by simp) ?_)
   |(refine .run 17 eY (by simp) ?_;simp;refine .cB 60 aS (es:=[a_ ⟨0,0,0⟩]) (by simp) (by simp) ?_)
   |(refine .run 18 eY (by simp) ?_;simp;refine .cB 60 aS (es:=[a_ ⟨0,0,0⟩]) (by simp) (by simp) ?_)
   |(refine .run 19 eY (by simp) ?_;simp;refine .cB 60 aS (es:=[a_ ⟨0,0,0⟩]) (by simp) (by simp) ?_)
   |(refine .run 20 eY (by simp) ?_;simp;refine .cB 60 aS (es:=[a_ ⟨0,0,0⟩]) (by simp) (by simp) ?_)
   |(refine .run 21 eY (by simp) ?_;simp;refine .cB 60 aS (es:=[a_ ⟨0,0,0⟩]) (by simp) (by simp) ?_)
   |(refine .run 22 eY (by simp) ?_;simp;refine .cB 60 aS (es:=[a_ ⟨0,0,0⟩]) (by simp) (by simp) ?_)
   |(refine .run 23 eY (by simp) ?_;simp;refine .cB 60 aS (es:=[a_ ⟨0,0,0⟩]) (by simp) (by simp) ?_)
   |(refine .run 24 eY (by simp) ?_;simp;refine .cB 60 aS (es:=[a_ ⟨0,0,0⟩]) (by simp) (by simp) ?_)
   |(refine .run 25 eY (by simp) ?_;simp;refine .cB 60 aS (es:=[a_ ⟨0,0,0⟩]) (by simp) (by simp) ?_)
   |(refine .run 26 eY (by simp) ?_;simp;refine .cB 60 aS (es:=[a_ ⟨0,0,0⟩]) (by simp) (by simp) ?_)
   |(refine .run 27 eY (by simp) ?_;simp;refine .cB 60 aS (es:=[a_ ⟨0,0,0⟩]) (by simp) (by simp) ?_)
   |(refine .run 28 eY (by simp) ?_;simp;refine .cB 60 aS (es:=[a_ ⟨0,0,0⟩]) (by simp) (by simp) ?_)
   |(refine .run 29 eY (by simp) ?_;simp;refine .cB 60 aS (es:=[a_ ⟨0,0,0⟩]) (by simp) (by simp) ?_)
   |(refine .run 30 eY (by simp) ?_;simp;refine .cB 60 aS (es:=[a_ ⟨0,0,0⟩]) (by simp) (by simp) ?_)
   |(refine .run 31 eY (by simp) ?_;simp;refine .cB 60 aS (es:=[a_ ⟨0,0,0⟩]) (by simp) (by simp) ?_)
   |(refine .run 32 eY (by simp) ?_;simp;refine .cB 60 aS (es:=[a_ ⟨0,0,0⟩]) (by simp) (by simp) ?_)
   |(refine .run 33 eY (by simp) ?_;simp;refine .cB 60 aS (es:=[a_ ⟨0,0,0⟩]) (by simp) (by simp) ?_)
  simp;exact .back (by simp[eP])
 |f+1,s::r,hc,hw,k,hk=>by
  obtain rfl:k=1:=hk.of (i:=0) (by simp)
  exact Z6 f n s r hw fun rows h1 h2 k hk=>ML n f rows (by omega) h2 k hk
def eF:List Bs->List Bs->List Bs
 |a,[]=>a
 |a,s::r=>eF (if a.contains s=true then a else a++[s]) r
def qd(n:Int)(rows:List Bs):Bool:=decide (n<0)||(decide (8<n)||(decide (128<rows.length)||bt (fun s=>!nk n.toNat s) rows))
def j7(rows:List Bs)(n:Int):List Fm:=if qd n rows=true then[]else eP (cg (eF [] rows)+1) (eF [] rows)
def PL(rows:List Bs)(n:Int):Int:=if qd n rows=true then 1 else 0
theorem wo{t:Bs}:∀(r a:List Bs),t∈eF a r↔t∈a\/t∈r
 |[],a=>by simp[eF]
 |s::r,a=>by
  rw[eF,wo r]
  by_cases h:a.contains s=true
  ·rw[if_pos h]
   have h':s∈a:=by simpa using h
   simp only[bu];constructor
   ·rintro(h1|h1)
    ·exact .inl h1
    ·exact .inr (.inr h1)
   ·rintro(h1|h1|h1)
    ·exact .inl h1
    ·subst h1;exact .inl h'
    ·exact .inr h1
  ·rw[if_neg h];simp only[bm,dE,bu,or_assoc,pR,false_or]
theorem adm(l:List Bs)(n:Nat)(i:Nat)(hn:n<=8):ij Tryz.prog Γ (fun h=>h[i]? =some (.cells [.int .i64 n])) zx [.ptr i 0] AV.str (fun s=>!nk n s) l:=by
 refine⟨by simp,fun s hm up h hφ=>?_⟩
 have h2:decide (Lib.trimS s [48,49,45]=[])=s.all lN:=by
  rw[fE,To];exact Nb s
 refine .br 60 U_ ?_;unfold nk
 by_cases h:s.length=n
 ·have h':(s.length:Int)=n:=by omega
  have hT:=ON (Γ:=Γ) s (by omega);unfold oc at hT;simp[hφ,h,h'];refine .jB 60 (by simp) hT ?_;simp[h2]
 ·have h':¬(s.length:Int)=n:=by omega
  simp[hφ,h,h']
theorem aby(rows:List Bs)(n:Int){k:Nat}(hk:Kd 1 k rows):aL Tryz.prog Γ vI [.list false k (rows.map .str),.int .i64 n] (.aB [.own 3 aS ((j7 rows n).map a_),.int .i64 (PL rows n)]):=by
 have key:∀m i:Nat,i+m=rows.length->rows.length<=128->(∀t∈rows,t.length=n.toNat)->n.toNat<=40->∀a:List Bs,a.length<=i->eF a (rows.drop i)=eF [] rows->aw Tryz.prog Γ (ynI (.sl 2 0 a.length) (.list false k (rows.map .str)) (.int .i64 rows.length) (.int .i64 i) [.cells [.int .i64 n],.row 3 aS [] none true false,.row 1 aF (a.map .str) none true false])
  (.ret (.aB [.own 3 aS ((eP (cg (eF [] rows)+1) (eF [] rows)).map a_),.int .i64 0])):=by
  intro m
  induction m with
  |zero=>
   intro i hi hl2 hs2 hn a ha hu
   have q1:¬i<rows.length:=by omega
   rw[bw (by omega),eF]at hu
   have hw:nM n.toNat a:=⟨by omega,fun t ht=>by
    rw[hu]at ht
    exact hs2 t (by simpa using(wo rows []).1 ht),hn⟩
   have hf:=ML (Γ:=Γ) n.toNat (cg a+1) a (by omega) hw 1 (.inl rfl);rw[<-hu];refine .go 60 ?_;simp[q1];refine .call 60 (by simp) hf ?_;simp;exact .back (by simp)
  |succ m ih=>
   intro i hi hl2 hs2 hn a ha hu
   have q1:i<rows.length:=by omega
   have q2:=bY (hk.of q1);have hc:=Xo (Γ:=Γ) a rows[i] (.inl rfl:Kd 1 1 a) (by omega);rw[bQ q1,eF]at hu;refine .go 60 ?_;simp(disch:=omega) [q1,q2];refine .call 60 (by simp) hc ?_
   by_cases h:a.contains rows[i]=true
   ·rw[if_pos h]at hu;have hh:=ih (i+1) (by omega) hl2 hs2 hn a (by omega) hu
    have h':rows[i]∈a:=by simpa using h
    simp(disch:=omega) [h'];refine .aH ?_;simp[q2]at hh⊢;exact hh
   ·rw[if_neg h]at hu;have hh:=ih (i+1) (by omega) hl2 hs2 hn (a++[rows[i]]) (by simp;omega) hu
    have h':¬rows[i]∈a:=by simpa using h
    simp(disch:=omega) [h'];refine .aH ?_;simp;refine .drop 3 rfl (by simp) (by simp) (by simp) ?_;refine .reset (i:=2) rfl (by simp) (by simp) (by simp) ?_;simp[q2]at hh⊢;exact hh
 refine .run 100 Vz (by simp) ?_;unfold j7 PL qd
 by_cases h1:n<0
 ·simp[h1];exact .back (by simp)
 ·obtain⟨m,rfl⟩:=kp (show 0<=n by omega)
  by_cases h2:(8:Int)<m
  ·simp[h2];exact .back (by simp)
  ·by_cases h3:128<rows.length
   ·have h3':(128:Int)<rows.length:=by omega
    simp[h2,h3,h3'];exact .back (by simp)
   ·have h3':¬(128:Int)<rows.length:=by omega
    have hC:=fun(h:List Ob) hφ=>vE (Γ:=Γ) (fl:=false) (adm rows m 0 (by omega)) hk (by omega) (h:=h) hφ
    simp[h2,h3,h3'];refine .aX 60 (hC _ rfl) ?_
    cases hb:bt (fun s=>!nk m s) rows with
    |true=>
     simp[hb];exact .back (by simp)
    |false=>
     have hh:=key rows.length 0 (by omega) (by omega) (fun t ht=>by
      have:=m5.1 hb t ht;simp only[Tn,nk,av,bf]at this
      simpa using this.2) (by simp;omega) [] (by simp) rfl
     simp[hb];refine .inLoop ?_;simp at hh⊢;exact hh
end Go.Proofs.YtihmomicdpkabaaGreatDoor
namespace Go.Proofs.YtihmomicdpkabaaGreatDoor
open Go.AM Go.Proofs
section
variable{n:Int}{val:Int->Bool}
def lP(n:Int)(val:Int->Bool)(l:List Fm)(v:Bool):Prop:=∀rest fuel,(l++rest).length<=fuel->ey n val fuel (l++rest)=some (v,rest)
theorem lP.pos{l:List Fm}{v:Bool}(h:lP n val l v):0<l.length:=by
 cases l with
 |nil=>
  have:=h [] 0 (by simp)
  cases this
 |cons _ _=>simp
theorem FP{x:Li}(h:(x.1:Int)<n):lP n val [dT x] (val (dT x).lit):=by
 intro rest fuel hf
 cases fuel with
 |zero=>simp at hf
 |succ fuel=>
  have hok:eD n (dT x)=true:=by
   unfold eD dT
   by_cases hx:x.2=48
   ·simp[hx];omega
   ·simp[hx];omega
  have hk:(dT x).kind=2:=rfl;simp[ey,hok,hk]
theorem ae0:lP n val [⟨0,0,0⟩] false:=by
 intro rest fuel hf
 cases fuel with
 |zero=>simp at hf
 |succ fuel=>simp[ey,eD,ff]
theorem adI:lP n val [⟨1,0,0⟩] true:=by
 intro rest fuel hf
 cases fuel with
 |zero=>simp at hf
 |succ fuel=>simp[ey,eD,ff]
def nh(a:Bool):List (List Fm×Bool)->Bool->Bool
 |[],v=>v
 |k::ks,v=>nh a ks (if a then k.2&&v else k.2||v)
theorem EP:∀(ks:List (List Fm×Bool))(v:Bool),nh true ks v=(v&&ks.all (·.2))
 |[],v=>by simp[nh]
 |k::ks,v=>by
  show nh true ks (k.2&&v)=_
  rw[EP ks,qP,Bool.and_comm k.2 v,nC]
theorem E4:∀(ks:List (List Fm×Bool))(v:Bool),nh false ks v=(v||ks.any (·.2))
 |[],v=>by simp[nh]
 |k::ks,v=>by
  show nh false ks (k.2||v)=_
  rw[E4 ks,List.any_cons,Bool.or_comm k.2 v,Bool.or_assoc]
theorem Mn(a:Bool)(fuel:Nat):∀(ks:List (List Fm×Bool))(v:Bool)(rest:List Fm),(∀k∈ks,lP n val k.1 k.2)->(ks.flatMap (·.1)++rest).length<=fuel->ff (ey n val fuel) a ks.length v (ks.flatMap (·.1)++rest)=some (nh a ks v,rest)
 |[],v,rest,_,_=>by simp[ff,nh]
 |k::ks,v,rest,h,hf=>by
  simp only[nB,fY,bN]at hf;have h1:=h k (by simp) (ks.flatMap (·.1)++rest) fuel (by simp only[bN];omega);simp only[bX,ff,nB,fY,h1,nh];exact Mn a fuel ks _ rest (fun k' hk'=>h k' (by simp[hk'])) (by simp only[bN];omega)
theorem AB(kd:Int)(hkd:kd=3\/kd=4)(ks:List (List Fm×Bool))(h2:2<=ks.length)(h:∀k∈ks,lP n val k.1 k.2):lP n val (⟨kd,0,ks.length⟩::ks.flatMap (·.1)) (nh (decide (kd=3)) ks (decide (kd=3))):=by
 intro rest fuel hf
 cases fuel with
 |zero=>simp at hf
 |succ fuel=>
  have hok:eD n ⟨kd,0,ks.length⟩=true:=by
   unfold eD;rw[if_neg (by simp only;omega),if_pos hkd]
   simp;omega
  have h3:¬kd=2:=by omega
  have h4:¬kd=1:=by omega
  have hk:=Mn (n:=n) (val:=val) (decide (kd=3)) fuel ks (decide (kd=3)) rest h (by simp at hf⊢;omega);simp only[eO,ey,hok,cy,h3,db,fV,h4,mR,nz];exact hk
theorem Zt{r:List Fm}{v:Bool}(h:lP n val r v)(ht:rR r=true):v=true:=by
 match r,ht with
 |[f],ht=>
  have hk:f.kind=1:=by simpa[rR]using ht
  have h1:=h [] 1 (by simp);simp only[fX,ey]at h1
  split at h1
  ·rename_i hok
   have h0:f.kids=0:=by
    simp only[eD,hk]at hok;simp at hok;exact hok.2
   simp[hk,h0,ff]at h1;exact h1
  ·cases h1
theorem Ft(l:List Li)(hl:∀x∈l,(x.1:Int)<n)(h0:l≠[])(r:List Fm)(v:Bool)(hr:r=[]/\v=true\/lP n val r v):lP n val (ei l r) ((l.all fun x=>val (dT x).lit)&&v):=by
 have hlm:∀l:List Li,(l.map fun x=>([dT x],val (dT x).lit)).flatMap (·.1)=l.map dT:=fun l=>by
  induction l with
  |nil=>rfl
  |cons x l ih=>simp only[b_,nB,ih];rfl
 have hl1:0<l.length:=pM.2 h0
 have hrest:(ju r=[]/\v=true)\/(ju r=r/\0<r.length/\lP n val r v):=by
  rcases hr with⟨rfl,rfl⟩|hr
  ·left;exact⟨rfl,rfl⟩
  ·by_cases ht:rR r=true
   ·left;exact⟨by rw[ju,if_pos ht],Zt hr ht⟩
   ·right;exact⟨by rw[ju,if_neg ht],hr.pos,hr⟩
 unfold ei
 rcases hrest with⟨e,rfl⟩|⟨e,hp,hr⟩
 ·rw[e,oi];simp only[dt,Nat.zero_min,gX,fX]
  by_cases h1:1<l.length
  ·have hh:=AB (n:=n) (val:=val) 3 (.inl rfl) (l.map fun x=>([dT x],val (dT x).lit)) (by simp;omega) fun k hk=>by
    obtain⟨x,h2,rfl⟩:=cI.1 hk;exact FP (hl x h2)
   rw[hlm,show decide ((3:Int)=3)=true from rfl,EP]at hh;simp only[pk,if_pos h1];simpa[zf]using hh
  ·obtain⟨x,rfl⟩:∃x,l=[x]:=by
    match l,hl1,h1 with
    |[x],_,_=>exact⟨x,rfl⟩
    |x::y::l,_,h1=>simp at h1
   have hh:=FP (val:=val) (hl x (by simp));simpa[pk]using hh
 ·rw[e]
  have hm:min r.length 1=1:=by omega
  rw[hm]
  have h1:1<l.length+1:=by omega
  have hh:=AB (n:=n) (val:=val) 3 (.inl rfl) ((l.map fun x=>([dT x],val (dT x).lit))++[(r,v)]) (by simp;omega) fun k hk=>by
   simp only[bm,dE]at hk
   rcases hk with hk|rfl
   ·obtain⟨x,h2,rfl⟩:=cI.1 hk;exact FP (hl x h2)
   ·exact hr
  rw[List.flatMap_append,hlm,show decide ((3:Int)=3)=true from rfl,EP]at hh;simp only[pk,if_pos h1];simpa[zf]using hh
end
def eH(val:Int->Bool)(s:Bs):Bool:=(bn s 0).all fun x=>val (dT x).lit
theorem abq(val:Int->Bool):∀(l:List Li)(s:Bs),l.Pairwise (fun a b=>a.1≠b.1)->(∀x∈l,x∈bn s 0)->((l.all fun x=>val (dT x).lit)&&eH val (fj l s))=eH val s:=by
 intro l s hp hm
 have h1:∀y:Li,y∈bn (fj l s) 0↔y∈bn s 0/\∀x∈l,x.1≠y.1:=by
  clear hp hm
  induction l generalizing s with
  |nil=>intro y;simp[fj]
  |cons x l ih=>
   intro y;have e:fj (x::l) s=fj l (s.set x.1 45):=rfl;rw[e,ih];simp only[bu,Je,jT,C7];constructor
   ·rintro⟨⟨_,h2,h3⟩,h4⟩
    by_cases h5:x.1=y.1
    ·rw[h5]at h2
     by_cases h6:y.1<s.length
     ·rw[ep h6]at h2;exact absurd (Option.some.inj h2).symm h3
     ·rw[jN (by simp;omega)]at h2;cases h2
    ·rw[dz h5]at h2;exact⟨⟨by omega,h2,h3⟩,h5,h4⟩
   ·rintro⟨⟨_,h2,h3⟩,h5,h4⟩
    exact⟨⟨by omega,by rw[dz h5];exact h2,h3⟩,h4⟩
 rw[fE];simp only[eH,av,dA,h1];constructor
 ·rintro⟨h2,h3⟩ y hy
  by_cases h4:∀x∈l,x.1≠y.1
  ·exact h3 y ⟨hy,h4⟩
  ·have h4:∃x,x∈l/\x.1=y.1:=by
    refine vk fun hn=>h4 fun x hx he=>hn ⟨x,hx,he⟩
   obtain⟨x,hx,he⟩:=h4;have h5:=jT.1 (hm x hx);have h6:=jT.1 hy;rw[he]at h5;have h7:x.2=y.2:=Option.some.inj (h5.2.1.symm.trans h6.2.1);have h8:x=y:=Prod.ext he h7
   rw[<-h8];exact h2 x hx
 ·intro h2;exact⟨fun x hx=>h2 x (hm x hx),fun y hy=>h2 y hy.1⟩
theorem EU(val:Int->Bool)(l:List Li)(hp:l.Pairwise (fun a b=>a.1≠b.1)):∀rows:List Bs,(∀s∈rows,∀x∈l,x∈bn s 0)->((l.all fun x=>val (dT x).lit)&&bt (eH val) (dn l rows))=bt (eH val) rows
 |[],_=>by simp[dn]
 |s::r,h=>by
  have h1:=abq val l s hp (h s (by simp))
  have h2:=EU val l hp r fun t ht=>h t (by simp[ht])
  have e:dn l (s::r)=fj l s::dn l r:=rfl;rw[e,iT,iT,<-h1,<-h2]
  cases(l.all fun x=>val (dT x).lit)<;>simp
theorem KZ(val:Int->Bool)(p:Bs->Bool):∀rows:List Bs,(bt (eH val) (bB (fun t=>!p t) rows)||bt (eH val) (bB p rows))=bt (eH val) rows
 |[]=>rfl
 |s::r=>by
  have ih:=KZ val p r;rw[iT,<-ih]
  cases h:p s
  ·have e1:bB (fun t=>!p t) (s::r)=bB (fun t=>!p t) r:=by simp[bB,h]
   have e2:bB p (s::r)=s::bB p r:=by simp[bB,h]
   rw[e1,e2,iT]
   cases eH val s<;>simp
  ·have e1:bB (fun t=>!p t) (s::r)=s::bB (fun t=>!p t) r:=by simp[bB,h]
   have e2:bB p (s::r)=bB p r:=by simp[bB,h]
   rw[e1,e2,iT]
   cases eH val s<;>simp
theorem Z7(val:Int->Bool){rows:List Bs}(h:bt ml rows=true):bt (eH val) rows=true:=by
 obtain⟨s,h1,h2⟩:=AI.1 h;exact AI.2 ⟨s,h1,by rw[eH,Em.1 h2];rfl⟩
theorem Ab(N:Nat)(val:Int->Bool):∀(f:Nat)(rows:List Bs),cg rows<f->(∀s∈rows,s.length=N)->lP N val (eP f rows) (bt (eH val) rows)
 |0,rows,h,_=>by omega
 |f+1,[],_,_=>by rw[eP];exact ae0
 |f+1,s::r,h,hN=>by
  rw[eP]
  have hlt:∀x:Li,∀t∈s::r,x∈bn t 0->(x.1:Int)<N:=fun x t ht hx=>by
   have h1:=(cW.1 (jT.1 hx).2.1).1;have:=hN t ht;omega
  split
  ·rename_i hfr;rw[Z7 val hfr];exact adI
  ·rename_i hfr
   split
   ·rename_i hc;have h1:=DO hc;have h4:0<(dj (s::r) s).length:=pM.2 hc
    have hd:=EU val (dj (s::r) s) (Ke _ _) (s::r) fun t ht x hx=>z7 hx t ht
    have ih:=Ab N val f (dn (dj (s::r) s) (s::r)) (by omega) fun t ht=>by
     simp only[dn,cI]at ht;obtain⟨t0,h5,rfl⟩:=ht
     rw[p6];exact hN _ h5
    rw[<-hd];exact Ft _ (fun x hx=>hlt x s (by simp) (z7 hx s (by simp))) hc _ _ (.inr ih)
   ·split
    ·have hno:∀t∈s::r,bn t 0≠[]:=fun t ht he=>by
      have h1:=m5.1 (by simpa using hfr) t ht
      rw[Em.2 he]at h1;cases h1
     have hfm:∀rows:List Bs,(rows.map fun t=>(ei (bn t 0) [],eH val t)).flatMap (·.1)=rows.flatMap fun s=>ei (bn s 0) []:=fun rows=>by
      induction rows with
      |nil=>rfl
      |cons t r ih=>simp only[b_,nB,ih]
     have h2:2<=(s::r).length:=by
      rename_i hc0 hm
      have hc0:dj (s::r) s=[]:=by simpa using hc0
      cases r with
      |nil=>
       exfalso
       have:dj [s] s=bn s 0:=by
        unfold dj;rw[zb];intro x hx;simp[dG,cK,hx]
       rw[hc0]at this;exact hno s (by simp) this.symm
      |cons t r=>simp
     have hh:=AB (n:=N) (val:=val) 4 (.inr rfl) ((s::r).map fun t=>(ei (bn t 0) [],eH val t)) (by simpa using h2) fun k hk=>by
      obtain⟨t,h5,rfl⟩:=cI.1 hk;have:=Ft (n:=N) (val:=val) (bn t 0) (fun x hx=>hlt x t h5 hx) (hno t h5) [] true (.inl ⟨rfl,rfl⟩);simpa[eH]using this
     rw[hfm]at hh
     have e:decide ((4:Int)=3)=false:=by decide
     rw[e,E4]at hh;simp only[iq,List.any_map]at hh
     have e2:(false||(s::r).any ((fun x=>x.2)∘fun t=>(ei (bn t 0) [],eH val t)))=bt (eH val) (s::r):=by rw[nz];rfl
     rw[e2]at hh;exact hh
    ·rename_i hm;have h0:=EZ (s::r) s.length (by omega);have h1:=Eo hm;have h3:=zX (cQ (s::r) s.length).1 (s::r);generalize(cQ (s::r) s.length).1=x at*;obtain⟨t0,h2⟩:=Da (l:=bB (fun t=>!cK x t) (s::r)) (by omega);have hx0:=rF h2
     have ih1:=Ab N val f (dn [x] (bB (fun t=>!cK x t) (s::r))) (by omega) fun t ht=>by
      simp only[dn,cI]at ht;obtain⟨t0,h5,rfl⟩:=ht
      rw[p6];exact hN _ (rF h5).1
     have ih2:=Ab N val f (bB (cK x) (s::r)) (by omega) fun t ht=>hN _ (dR.1 ht).1
     have hd:=EU val [x] (by simp) (bB (fun t=>!cK x t) (s::r)) fun t ht y hy=>by
      simp only[dE]at hy;subst hy;exact(rF ht).2
     have hk:=KZ val (cK x) (s::r);have ha:=Ft (n:=N) (val:=val) [x] (fun y hy=>by simp only[dE]at hy;subst hy;exact hlt y t0 hx0.1 hx0.2) (by simp) _ _ (.inr ih1);rw[hd]at ha;rw[<-hk];generalize bt (eH val) (bB (fun t=>!cK x t) (s::r))=va at*;generalize bt (eH val) (bB (cK x) (s::r))=vb at*;generalize ei [x] (eP f (dn [x] (bB (fun t=>!cK x t) (s::r))))=A at*;generalize eP f (bB (cK x) (s::r))=B at*
     have hh:=AB (n:=N) (val:=val) 4 (.inr rfl) [(A,va),(B,vb)] (by simp) (by
      intro k hk;simp only[bu,pR,pG]at hk
      rcases hk with rfl|rfl
      ·exact ha
      ·exact ih2)
     have e:decide ((4:Int)=3)=false:=by decide
     rw[e,E4]at hh;simpa using hh
end Go.Proofs.YtihmomicdpkabaaGreatDoor
namespace Go.Proofs.YtihmomicdpkabaaGreatDoor
open Go.AM Go.Proofs
variable{Γ:Nat->Option AV}
theorem JO:∀a b:List Bs,cg (a++b)=cg a+cg b
 |[],b=>by simp[cg]
 |s::a,b=>by rw[eO,cg,cg,JO a b];omega
theorem KI:∀(r a:List Bs),cg (eF a r)<=cg a+cg r
 |[],a=>by simp[eF,cg]
 |s::r,a=>by
  rw[eF];have h:=KI r (if a.contains s=true then a else a++[s])
  have h2:cg (if a.contains s=true then a else a++[s])<=cg a+(bn s 0).length:=by
   split
   ·omega
   ·rw[JO];simp[cg]
  rw[cg];omega
theorem Mz{rows:List Bs}{n:Int}(h:qd n rows=false):∃m:Nat,n=m/\m<=8/\rows.length<=128/\∀s∈rows,s.all lN=true/\s.length=m:=by
 simp only[qd,jQ,jn]at h;obtain⟨h1,h2,h3,h4⟩:=h;obtain⟨m,rfl⟩:=kp (show 0<=n by omega);refine⟨m,rfl,by omega,by omega,fun s hs=>?_⟩;have:=m5.1 h4 s hs;simpa[nk]using this
theorem abV{rows:List Bs}{m:Nat}(hm:m<=8)(hl:rows.length<=128)(hs:∀s∈rows,s.length=m):cg (eF [] rows)<=1024:=by
 have h1:=KI rows [];have h2:=ET hs;have h3:rows.length*m<=128*8:=Nat.mul_le_mul hl hm;have h0:cg []=0:=rfl;omega
theorem Mc{rows:List Bs}{n:Int}(h:qd n rows=false)(val:Int->Bool):BG n val (j7 rows n)=some (bt (eH val) rows):=by
 obtain⟨m,rfl,h1,h2,h3⟩:=Mz h
 have hc:=abV h1 h2 fun s hs=>(h3 s hs).2
 have hl:=rp (cg (eF [] rows)+1) (eF [] rows)
 have hr:=Ab m val (cg (eF [] rows)+1) (eF [] rows) (by omega) fun s hs=>(h3 s (by simpa using(wo rows []).1 hs)).2
 have he:bt (eH val) (eF [] rows)=bt (eH val) rows:=by
  rw[fE,AI,AI];constructor
  ·rintro⟨s,h4,h5⟩;exact⟨s,by simpa using(wo rows []).1 h4,h5⟩
  ·rintro⟨s,h4,h5⟩;exact⟨s,(wo rows []).2 (.inr h4),h5⟩
 have h4:=hr [] (eP (cg (eF [] rows)+1) (eF [] rows)).length (by simp);rw[fX,he]at h4
 have e0:j7 rows m=eP (cg (eF [] rows)+1) (eF [] rows):=by unfold j7;rw[h];rfl
 rw[e0];unfold BG;rw[if_pos ⟨by omega,by omega,by omega⟩,h4]
def dO:List Bool->Nat
 |[]=>0
 |v::l=>(if v=true then 1 else 0)+dO l
theorem N2:∀l:List Bool,dO l<=l.length
 |[]=>aR _
 |v::l=>by rw[dO,bX];have:=N2 l;split<;>omega
theorem DE(l:List Bool){k:Nat}(hk:Kd 1 k l)(hl:l.length<2^40):aL Tryz.prog Γ rh [.list false k (l.map .bool)] (.int .i64 (dO l)):=by
 have key:∀n i:Nat,i+n=l.length->∀a:Nat,a+n<2^41->aw Tryz.prog Γ (yFm (.int .i64 a) (.list false k (l.map .bool)) (.int .i64 l.length) (.int .i64 i) []) (.ret (.int .i64 (a+dO (l.drop i):Nat))):=by
  intro n
  induction n with
  |zero=>
   intro i hi a ha
   have q1:¬i<l.length:=by omega
   rw[bw (by omega),dO];refine .go 60 ?_;simp[q1];exact .back (by simp)
  |succ n ih=>
   intro i hi a ha
   have q1:i<l.length:=by omega
   have q2:=bY (hk.of q1);rw[bQ q1,dO];refine .go 60 ?_
   cases h3:l[i]with
   |true=>
    have hh:=ih (i+1) (by omega) (a+1) (by omega);simp(disch:=omega) [q1,q2,h3];refine .aH ?_;simp[q2,<-Int.add_assoc]at hh⊢;exact hh
   |false=>
    have hh:=ih (i+1) (by omega) a (by omega);simp(disch:=omega) [q1,q2,h3];refine .aH ?_;simp[q2]at hh⊢;exact hh
 refine .run 60 Wi (by simp) ?_;simp;refine .inLoop ?_;have hh:=key l.length 0 (by omega) 0 (by omega);simp at hh⊢;exact hh
def mo:Bs->List Bool->Bool
 |c::s,v::l=>(decide (c=45)||decide (decide (c=49)=v))&&mo s l
 |_,_=>true
theorem aeF(s:Bs)(l:List Bool){k:Nat}(hk:Kd 1 k l)(hl:l.length=s.length)(hs:s.length<2^40):aL Tryz.prog Γ vX [.str s,.list false k (l.map .bool)] (.bool (mo s l)):=by
 have key:∀n i:Nat,i+n=l.length->aw Tryz.prog Γ (yDJ (.str s) (.list false k (l.map .bool)) (.int .i64 l.length) (.int .i64 i) []) (.ret (.bool (mo (s.drop i) (l.drop i)))):=by
  intro n
  induction n with
  |zero=>
   intro i hi
   have q1:¬i<l.length:=by omega
   rw[bw (by omega),bw (by omega)];refine .go 60 ?_;simp[q1,mo];exact .back (by simp)
  |succ n ih=>
   intro i hi
   have q1:i<l.length:=by omega
   have q3:i<s.length:=by omega
   have q2:=bY (hk.of q1);have hh:=ih (i+1) (by omega);rw[bQ q1,bQ q3,mo];refine .go 60 ?_
   by_cases a:s[i]=45
   ·simp(disch:=omega) [q1,q2,q3,a];refine .aH ?_;simp[q2]at hh⊢;exact hh
   ·by_cases b:s[i]=49
    ·cases c:l[i]with
     |true=>
      simp(disch:=omega) [q1,q2,q3,b,c];refine .aH ?_;simp[q2]at hh⊢;exact hh
     |false=>
      simp(disch:=omega) [q1,q2,q3,b,c];exact .back (by simp)
    ·cases c:l[i]with
     |true=>
      simp(disch:=omega) [q1,q2,q3,a,b,c];exact .back (by simp[a,b])
     |false=>
      simp(disch:=omega) [q1,q2,q3,a,b,c];refine .aH ?_;simp[q2]at hh⊢;exact hh
 refine .run 60 Xm (by simp) ?_;simp;refine .inLoop ?_;have hh:=key l.length 0 (by omega);simp at hh⊢;exact hh
def x_(op:Int)(l:List Bool):Bool:=if op=0\/op=1 then false else if op=2\/op=3\/op=4\/op=5 then decide (dO l=l.length)else if op=6\/op=7 then decide (0<dO l)else decide (dO l%2=1)
def sx(op:Int):Bool:=decide (op=1\/op=3\/op=5\/op=7\/op=9)
def C1(op:Int):AV:=if op=0\/op=1 then .fn (.func vR) [] []else if op=2\/op=3\/op=4\/op=5 then .fn (.func vW) [] []else if op=6\/op=7 then .fn (.func v7) [] []else if op=8\/op=9 then .fn (.func vT) [] []else .c_
theorem MC{op:Int}(h0:0<=op)(h1:op<=10):op=0\/op=1\/op=2\/op=3\/op=4\/op=5\/op=6\/op=7\/op=8\/op=9\/op=10:=by omega
set_option maxRecDepth 8000 in
theorem ZL(op:Int)(h0:0<=op)(h1:op<=10):aL Tryz.prog Γ Aq [.int .i64 op] (.agg [C1 op,.bool (sx op)]):=by
 refine .run 200 Zb (by simp) ?_
 rcases MC h0 h1 with rfl|rfl|rfl|rfl|rfl|rfl|rfl|rfl|rfl|rfl|rfl
 all_goals
  simp;exact .back (by simp[C1,sx])
theorem OJ(l:List Bool){k:Nat}(hk:Kd 1 k l):aL Tryz.prog Γ vR [.list false k (l.map .bool)] (.bool false):=by
 refine .run 60 W4 (by simp) ?_;simp;exact .back (by simp)
theorem Bj(l:List Bool){k:Nat}(hk:Kd 1 k l)(hl:l.length<2^40):aL Tryz.prog Γ vW [.list false k (l.map .bool)] (.bool (decide (dO l=l.length))):=by
 have e:((dO l:Int)=l.length)=(dO l=l.length):=propext (by omega);refine .run 60 WY (by simp) ?_;simp;refine .call 60 (by simp) (DE l hk hl) ?_;simp[e];exact .back (by simp)
theorem OO(l:List Bool){k:Nat}(hk:Kd 1 k l)(hl:l.length<2^40):aL Tryz.prog Γ v7 [.list false k (l.map .bool)] (.bool (decide (0<dO l))):=by
 refine .run 60 WW (by simp) ?_;simp;refine .call 60 (by simp) (DE l hk hl) ?_;simp;exact .back (by simp)
theorem O2(l:List Bool){k:Nat}(hk:Kd 1 k l)(hl:l.length<2^40):aL Tryz.prog Γ vT [.list false k (l.map .bool)] (.bool (decide (dO l%2=1))):=by
 refine .run 60 Xe (by simp) ?_;simp;refine .call 60 (by simp) (DE l hk hl) ?_;have e2:((dO l:Int)%2=1)=(dO l%2=1):=propext (by omega);simp[e2];exact .back (by simp)
def Bh(g:Gt)(ins:List Bool):Bool:=jE g&&decide (ins.length=g.ins.length)
def rX(g:Gt)(ins:List Bool):Bool:=if g.op=10 then !decide (bt (fun s=>mo s ins) g.rows=g.off)else !decide (x_ g.op ins=sx g.op)
def qm(g:Gt)(ins:List Bool):Bool:=Bh g ins&&rX g ins
def Pf(g:Gt)(ins:List Bool):Int:=if Bh g ins=true then 0 else 1
theorem aeX(g:Gt)(ins:List Bool){k:Nat}(hk:Kd 1 k ins)(i:Nat)(hl:∀s∈g.rows,ins.length=s.length/\s.length<2^40):ij Tryz.prog Γ (fun h=>h[i]? =some (.cells [.list false k (ins.map .bool)])) zz [.ptr i 0] AV.str (fun s=>mo s ins) g.rows:=by
 refine⟨by simp,fun s hs up h hφ=>?_⟩;have hf:=aeF (Γ:=Γ) s ins hk (hl s hs).1 (hl s hs).2;refine .br 60 Vo ?_;simp[hφ];refine .jB 60 (by simp) hf ?_;simp
theorem adS(g:Gt)(hg:r8 g)(ins:List Bool){k:Nat}(hk:Kd 1 k ins)(j:Nat)(hl:∀s∈g.rows,ins.length=s.length/\s.length<2^40){h:List Ob}(hj:h[j]? =some (.cells (AV.cells (cR g)))):∀up,AM.Reach Tryz.prog Γ (.cl zK [.list false k (ins.map .bool),.ptr j 0] up h) (.back up (.bool (bt (fun s=>mo s ins) g.rows)) (h++[.cells [.list false k (ins.map .bool)]])):=by
 intro up
 have hget:=fun os=>dJ hj os
 have hC:=vE (Γ:=Γ) (fl:=false) (aeX g ins hk h.length hl) g.hr (by have:=hg.2.2.1;omega) (h:=h++[.cells [.list false k (ins.map .bool)]]) (by simp);refine .br 60 Wc ?_;simp[hget];refine .aX 60 hC ?_;simp
set_option maxRecDepth 8000 in
theorem W_(hΓ:eT Γ)(g:Gt)(hg:r8 g)(ins:List Bool){k:Nat}(hk:Kd 1 k ins)(hli:ins.length<2^40):aL Tryz.prog Γ zY [cR g,.list false k (ins.map .bool)] (.aB [.bool (qm g ins),.int .i64 (Pf g ins)]):=by
 have kG:=O1 hΓ g hg;have e:((ins.length:Int)=g.ins.length)=(ins.length=g.ins.length):=propext (by omega);unfold qm Pf Bh;refine .run 200 WX (by simp) ?_;simp;refine .call 200 (by simp) kG ?_
 cases hb:jE g with
 |false=>
  simp;exact .back (by simp)
 |true=>
  by_cases hn:ins.length=g.ins.length
  ·have hop:0<=g.op/\g.op<=10:=by
    unfold jE mD at hb
    by_cases h10:g.op=10
    ·omega
    ·rw[if_neg h10]at hb;simp only[av]at hb;have hb2:=hb.2
     split at hb2
     ·omega
     ·split at hb2
      ·omega
      ·split at hb2
       ·omega
       ·cases hb2
   have kO:=ZL (Γ:=Γ) g.op hop.1 hop.2
   by_cases h10:g.op=10
   ·have hrow:∀s∈g.rows,ins.length=s.length/\s.length<2^40:=fun s hs=>by
     unfold jE at hb;rw[if_pos h10]at hb;simp only[av,jq]at hb;have:=m5.1 hb.2.2 s hs;simp only[Tn,nk,av,bf]at this;exact⟨by omega,hg.2.2.2.2 s hs⟩
    have hR:=fun(h:List Ob) hj=>adS (Γ:=Γ) g hg ins hk 0 hrow (h:=h) hj
    have e10:C1 10=.c_:=rfl;have e11:sx 10=false:=rfl;rw[h10,e10,e11]at kO;simp[hn,e,h10];refine .call 200 (by simp) kO ?_;simp[rX,h10];refine .dr 200 ?_;simp;refine .reach (by simp) (hR _ (by simp[h10])) ?_;simp;exact .back (by simp)
   ·obtain⟨f,e1,hbf,hpf⟩:∃f,C1 g.op=.fn (.func f) [] []/\au Tryz.prog f=true/\aL Tryz.prog Γ f [.list false k (ins.map .bool)] (.bool (x_ g.op ins)):=by
     rcases MC hop.1 hop.2 with c|c|c|c|c|c|c|c|c|c|c
     ·rw[c];exact⟨_,rfl,by simp,OJ ins hk⟩
     ·rw[c];exact⟨_,rfl,by simp,OJ ins hk⟩
     ·rw[c];exact⟨_,rfl,by simp,Bj ins hk hli⟩
     ·rw[c];exact⟨_,rfl,by simp,Bj ins hk hli⟩
     ·rw[c];exact⟨_,rfl,by simp,Bj ins hk hli⟩
     ·rw[c];exact⟨_,rfl,by simp,Bj ins hk hli⟩
     ·rw[c];exact⟨_,rfl,by simp,OO ins hk hli⟩
     ·rw[c];exact⟨_,rfl,by simp,OO ins hk hli⟩
     ·rw[c];exact⟨_,rfl,by simp,O2 ins hk hli⟩
     ·rw[c];exact⟨_,rfl,by simp,O2 ins hk hli⟩
     ·exact absurd c h10
    rw[e1]at kO;simp[hn,e,h10,rX];refine .call 200 (by simp) kO ?_;simp[h10,hbf];refine .dr 200 ?_;simp[hbf];refine .call (by simp) hpf ?_;simp;exact .back (by simp)
  ·simp[hn,e];exact .back (by simp)
def pt(n:Int):FuncId:=if n<=1 then vB else if n<=5 then sV else if n<=7 then sW else sX
abbrev HB(f:FuncId)(t:Int):AV:=.agg [.fn (.func f) [] [],.int .i64 t]
def B1(n:Int):Option AV:=if 0<=n/\n<=9 then some (HB (pt n) (n%2))else none
def uJ(Γ:Nat->Option AV):Prop:=∃ks vs,Γ PX=some (.de ks vs)/\∀n:Int,ew (.sc .int) (.int .i64 n) (ks.zip vs)=some (B1 n)
def qy(n:Int)(x:Gr)(ins:List Nat):Gr×Option Nat:=if n<=1 then(x,some 0)else if n<=5 then jz 0 x ins else if n<=7 then fO (·^^^1) (jz 1 x ins)else xu x ins
def Gn(x:Gr)(g:Gt)(ins:List Nat):Gr×Option (Nat×List Fm):=iF ins (j7 g.rows g.ins.length).length x (j7 g.rows g.ins.length)
def na(x:Gr)(g:Gt)(ins:List Nat):Gr×Option Nat:=
 if 0<=g.op/\g.op<=9 then fO (·^^^(g.op%2).toNat) (qy g.op x ins)else fO (fun p=>if g.off=true then p.1^^^1 else p.1) (Gn x g ins)
theorem K3(n:Int){x:Gr}(ok:x.Ok){ins:List Nat}(hi:∀a∈ins,a<x.lits):jI x (qy n x ins):=by
 unfold qy
 split
 ·exact⟨.refl ok,fun d hd=>by cases hd;exact wN x⟩
 ·split
  ·exact wa (by omega) ok hi
  ·split
   ·exact(wa (by omega) ok hi).BV (by omega)
   ·exact Ya ok hi
theorem KQ{x:Gr}(ok:x.Ok)(g:Gt){ins:List Nat}(hi:∀a∈ins,a<x.lits):jI x (na x g ins):=by
 unfold na
 split
 ·exact(K3 _ ok hi).BV (by omega)
 ·have h:=ru ins (j7 g.rows g.ins.length).length x (j7 g.rows g.ins.length) ok hi;refine⟨h.1,fun d hd=>?_⟩;simp only[fO,bU]at hd;obtain⟨p,hp,rfl⟩:=hd;have:=h.2 p hp
  split
  ·exact FI (n:=(Gn x g ins).1.all) this
  ·exact this
theorem Nx{g:Gt}(h:jE g=true):(0<=g.op/\g.op<=9/\mD g.op g.ins.length=true)\/(g.op=10/\g.ins.length<=8/\qd g.ins.length g.rows=false):=by
 unfold jE at h
 by_cases h10:g.op=10
 ·rw[if_pos h10]at h;simp only[av,bf,jq]at h;refine .inr ⟨h10,h.1,?_⟩;unfold qd;simp only[jQ,jn,fV];exact⟨by omega,by omega,by omega,h.2.2⟩
 ·rw[if_neg h10]at h;simp only[av]at h;have h2:=h.2;refine .inl ?_;unfold mD at h2
  split at h2
  ·exact⟨by omega,by omega,h.2⟩
  ·split at h2
   ·exact⟨by omega,by omega,h.2⟩
   ·split at h2
    ·exact⟨by omega,by omega,h.2⟩
    ·cases h2
theorem OL{op:Int}{n:Nat}(h:mD op n=true)(h2:2<=op):n≠0:=by
 unfold mD at h
 rintro rfl
 split at h
 ·simp at h
 ·rw[if_neg (by omega)]at h
  split at h
  ·simp at h
  ·cases h
theorem age(n:Int)(h0:0<=n)(h9:n<=9)(ins:List Nat)(hins:2<=n->ins≠[])(hl:ins.length<2^40){ki:Nat}(hki:Kd 1 ki ins){i:Nat}(x:Gr){h:List Ob}(hi:h[i]? =some (cD x))(hw:cu h)(ok:x.Ok)(hlt:∀a∈ins,a<x.lits)(up:List Fr):
 AM.Reach Tryz.prog Γ (.cl (pt n) [.ptr i 0,.list false ki (ins.map iN)] up h) (cL iN i up h (qy n x ins)):=by
 unfold pt qy
 split
 ·simp only[cL,wS hi];exact acH up
 ·split
  ·exact OZ ins (hins (by omega)) hl hki x hi hw ok hlt up
  ·split
   ·exact O4 ins (hins (by omega)) hl hki x hi hw ok hlt up
   ·exact aeL ins (hins (by omega)) hl hki x hi hw ok hlt up
theorem adY(n:Int):au Tryz.prog (pt n)=true:=by
 unfold pt
 split
 ·simp
 ·split
  ·simp
  ·split<;>simp
set_option maxRecDepth 8000 in
theorem acx(hΓ:uJ Γ)(g:Gt)(hg:jE g=true)(hf:r8 g)(ins:List Nat)(hil2:ins.length=g.ins.length){ki:Nat}(hki:Kd 1 ki ins){i:Nat}(x:Gr){h:List Ob}(hi:h[i]? =some (cD x))(hw:cu h)(hv:dW h)(ok:x.Ok)(hlt:∀a∈ins,a<x.lits)(up:List Fr):
 AM.Reach Tryz.prog Γ (.cl vA [.ptr i 0,cR g,.list false ki (ins.map iN)] up h) (cL iN i up h (na x g ins)):=by
 obtain⟨ks,vs,hG,hF⟩:=hΓ;have hF:=hF g.op;simp only[PX]at hG;have hil:=aV hi;have hle:=mZ ok
 have hget:=fun os=>dJ hi os
 have hset:∀(o:Ob)(os:List Ob),(h++os).set i o=h.set i o++os:=fun o os=>kq _ _ hil
 have hb1:=hf.2.1
 rcases Nx hg with⟨h0,h9,ho⟩|⟨h10,h8,hwr⟩
 ·have hB:=age (Γ:=Γ) g.op h0 h9 ins (fun h2=>by
   have:=OL ho h2
   rintro rfl
   simp at hil2;omega) (by omega) hki x (h:=h++[.cells (AV.cells (cR g)),.cells [.fn (.func (pt g.op)) [] [],.int .i64 (g.op%2)]]) (hget _) (by
   intro m hm;simp at hm
   simp[hw m (by omega)]) ok hlt
  have hfi:=K3 g.op ok hlt;have hbb:=adY g.op
  have ht:(g.op%2).toNat<=1:=by omega
  refine rH [.cells (AV.cells (cR g)),.cells [.fn (.func (pt g.op)) [] [],.int .i64 (g.op%2)]] hw hil (by simp) ?_;unfold na;rw[if_pos ⟨h0,h9⟩];unfold B1 at hF;rw[if_pos ⟨h0,h9⟩]at hF;refine .br 60 Jx ?_;simp[hG,hF,isKey,bR,cz];unfold fO;unfold cL at hB⊢;simp only[hset]at hB⊢
  cases h9:(qy g.op x ins).2 with
  |none=>
   simp only[h9,sD]at hB⊢;refine .Pz ?_;simp;refine eV.die (.int .i64 0) hbb (fun its t' _=>.j6 60 hB ?_) ?_
   ·simp
   ·simp;exact .of (by simp)
  |some d=>
   have hd:=hfi.2 d h9;have hle2:=mZ hfi.1.ok;have hx:=Ps (a:=d) (t:=(g.op%2).toNat) ht (by omega);rw[show(((g.op%2).toNat:Nat):Int)=g.op%2 by omega]at hx;simp only[h9,du]at hB⊢;refine .nr 60 ?_;simp;refine eV.reach hbb hB ?_;simp[hx]
 ·have hFc:=aby (Γ:=Γ) g.rows g.ins.length g.hr;have hV:=Mc hwr (fun _=>false);have hff:=ru ins (j7 g.rows g.ins.length).length x (j7 g.rows g.ins.length) ok hlt;unfold na;rw[if_neg (by omega)];unfold B1 at hF;rw[if_neg (by omega)]at hF
  have hVr:∃v l',ey g.ins.length (fun _=>false) (j7 g.rows g.ins.length).length (j7 g.rows g.ins.length)=some (v,l')/\(j7 g.rows g.ins.length).length<=4000:=by
   unfold BG at hV
   split at hV
   ·rename_i h4
    split at hV
    ·rename_i v h5;exact⟨v,[],h5,h4.1⟩
    ·cases hV
   ·cases hV
  obtain⟨v,l',hVr,hl4⟩:=hVr;unfold Gn;generalize j7 g.rows g.ins.length=F at*
  have hfo:=NS (Γ:=Γ) ins hki (by omega) (fun _=>false) F.length F (by omega) (v:=v) (l':=l') (by rw[hil2];exact hVr) x
   (h++[.cells (AV.cells (cR g)),.cells [.c_,.int .i64 0],.row 3 aS (F.map a_) none true true]) i (hget _) (by
    intro m hm;simp at hm
    simp[hw m (by omega)]) (by
    intro m k hm;simp at hm
    simp[hv m k (by omega)]) ok hlt
  refine rH [.cells (AV.cells (cR g)),.cells [.c_,.int .i64 0],.row 3 aS (F.map a_) none true true] hw hil (by simp) ?_;refine .br 60 Jx ?_;simp[hG,hF,isKey,bR,cz];refine .jB 7 (by simp) hFc ?_;simp;refine .trees [9] ?_;simp[Pj,gE];have htk:(F.map a_).take F.length=F.map a_:=cd (by simp);refine .aU 60 ?_;simp[htk];unfold cL at hfo⊢;unfold fO;simp only[hset]at hfo⊢
  cases h9:(iF ins F.length x F).2 with
  |none=>
   simp only[h9,sD]at hfo⊢;refine .j6 60 hfo ?_;simp
  |some p=>
   obtain⟨c,l2⟩:=p;have hc:=hff.2 _ h9;have hle2:=mZ hff.1.ok;simp only at hc;simp only[h9,du]at hfo⊢;refine .aX 60 hfo ?_
   have h7:∀o,(h.set i o).length=h.length:=by simp
   have h8:∀(o:Ob)(os:List Ob)(k:Nat),(h.set i o++os)[h.length+k]? =os[k]? :=fun o os k=>by rw[<-h7 o,adQ]
   have h8':∀(o:Ob)(os:List Ob),(h.set i o++os)[h.length]? =os[0]? :=fun o os=>h8 o os 0
   cases hoff:g.off with
   |true=>simp(disch:=omega) [h8,h8',hoff]
   |false=>simp(disch:=omega) [h8,h8',hoff]
theorem N7{n:Nat}{τ:List Nat}{k:Nat}{E:TypeId}{es:List AV}(ho:dQ n τ es=true):∀{h:List Ob}(j:Nat),fB n τ h=true->fB n τ (h.set j (.row k E es none false false))=true
 |[],_,h1=>h1
 |o'::h,0,h1=>by
  have h2:fB n τ h=true:=by cases o'<;>simp only[fB,av]at h1<;>exact h1.2
  simp[fB,kX,ho,h2]
 |o'::h,j+1,h1=>by
  cases o'<;>simp only[fB,av,pF]at h1⊢<;>exact⟨h1.1,N7 ho j h1.2⟩
theorem NH{n:Nat}{τ:List Nat}(o:Ob):∀{h:List Ob}(j:Nat),cG n h=true->iI n τ (h.set j o)=h.set j (kf n τ o)
 |[],_,_=>rfl
 |o'::h,0,h1=>by
  simp only[cG,av]at h1;simp only[u0,iI,l6 h1.2]
 |o'::h,j+1,h1=>by
  simp only[cG,av]at h1;simp only[pF,iI,N3 h1.1,NH o j h1.2]
theorem WU{n N m:Nat}(h:m<N)(v:AV):(dx n N m).set m v=(List.range m).map (fun i=>AV.mp (n+(3+(N+i))))++(v::List.replicate (N-(m+1)) .c8):=by
 rw[dx,vq _ _ (by simp),show N-m=(N-(m+1))+1 by omega,k8];simp
theorem Yp{n N m:Nat}(h:m<N):(List.range m).map (fun i=>AV.mp (n+(3+(N+i))))++(.mp (n+(3+(N+m)))::List.replicate (N-(m+1)) .c8)=dx n N (m+1):=by
 rw[dx,List.range_succ];simp
theorem adl{n N m q:Nat}(h:n+(3+(N+m))<=q):aK q ((List.range m).map (fun i=>AV.mp (n+(3+(N+i)))))=true:=by
 have:=Ex h;rw[dx,DW,av]at this;exact this.1
theorem MF(q:Nat):∀k,aK q (List.replicate k AV.c8)=true
 |0=>rfl
 |k+1=>by simp[k8,MF q k]
theorem ae2{H:List Ob}{nd b:List (List Nat)}(h:nd.length<b.length):(hQ H nd b).set (H.length+1) (.row 1 jR (dx H.length b.length (nd.length+1)) none false false)++[.map [] true]=hQ H (nd++[[]]) b:=by
 have e:H.length+1=H.length+1:=rfl;rw[hQ,Bn,hQ,fY];have f6:decide ((nd++[[]]).length=0)=false:=vr (by simp);simp[hF,gR]
theorem WJ(c:AV):eE [c] .c8=c:=rfl
def fh(pl:List (Bs×Nat)):List Gt->Nat->List (List Nat)->List (List Nat)->List (List Nat)×List (List Nat)
 |[],_,nd,b=>(nd,b)
 |g::r,i,nd,b=>fh pl r (i+1) (nd++[eJ pl g.ins []]) (jj pl i g.ins [] b)
theorem wR(pl:List (Bs×Nat))(i:Nat):∀(l:List Bs)(a:List Nat)(b:List (List Nat)),(jj pl i l a b).length=b.length
 |[],_,_=>rfl
 |s::r,a,b=>by
  rw[jj]
  split
  ·exact wR pl i r a b
  ·rw[wR];split<;>simp
theorem Fu(pl:List (Bs×Nat))(i M:Nat):∀(l:List Bs)(a:List Nat)(b:List (List Nat)),(∀x∈b,x.length<=M)->∀x∈jj pl i l a b,x.length<=M+l.length
 |[],_,_,h=>fun x hx=>by have:=h x hx;simpa using this
 |s::r,a,b,h=>fun x hx=>by
  rw[jj]at hx
  have hM:∀x∈b,x.length<=M+1:=fun x hx=>by have:=h x hx;omega
  have key:∀(b':List (List Nat))(a':List Nat),(∀x∈b',x.length<=M+1)->x∈jj pl i r a' b'->x.length<=M+(s::r).length:=fun b' a' h1 h2=>by
   have:=Fu pl i (M+1) r a' b' h1 x h2
   simp only[bX];omega
  split at hx
  ·exact key _ _ hM hx
  ·rename_i k _
   split at hx
   ·exact key _ _ hM hx
   ·refine key _ _ (fun y hy=>?_) hx
    rcases oj hy with h1|h1
    ·exact hM y h1
    ·rw[h1,bN,sH]
     by_cases hk:k<b.length
     ·rw[bp,bl hk];have:=h _ (bz hk)
      simp only[jP];omega
     ·rw[bp,jN (by omega)];simp
theorem aaE{H:List Ob}{nd b:List (List Nat)}{p:Nat}(h:p<H.length)(o:Ob):(hQ H nd b).set p o=hQ (H.set p o) nd b:=by
 rw[hQ,kq _ _ h,hQ,jk]
set_option maxRecDepth 8000 in
theorem acV(c:Ct)(hc:bW c){H:List Ob}(hw:cu H)(hv:dW H){m0:Nat}(hm:H[m0]? =some (.map ((cj c).map gU) true))(up:List Fr)(base:Nat)(hbase:base<=H.length)(p2:Nat)(hp2:p2<H.length)(C:AM.an)(i:Nat)(hi:i<c.af.length)(nd b:List (List Nat))(hnd:nd.length=i)(hb:b.length=c.af.length)(hbl:∀l∈b,l.length<=2^20+i*2^10)
 (hC:AM.Reach Tryz.prog Γ (HF (.ptr p2 0) (.mp m0) (.ptr H.length 0) (.list false c.kG (c.af.map cR)) (.int .i64 c.af.length) (.int .i64 (i+1:Nat)) (hQ H (nd++[eJ (cj c) c.af[i].ins []]) (jj (cj c) i c.af[i].ins [] b)) ⟨[],.norm,base,up⟩) C):
 AM.Reach Tryz.prog Γ (HF (.ptr p2 0) (.mp m0) (.ptr H.length 0) (.list false c.kG (c.af.map cR)) (.int .i64 c.af.length) (.int .i64 i) (hQ H nd b) ⟨[],.norm,base,up⟩) C:=by
 have q2:=bY (c.hG.of hi);have xw:=GB (H:=H) (nd:=nd) (b:=b);have xn:=Gy (H:=H) (nd:=nd) (b:=b);have yl:=Al (n:=H.length) (N:=b.length) (m:=nd.length) (by omega);have hlen:=lz (H:=H) (nd:=nd) (b:=b);have hm0:=aV hm;have hnew:=ae2 (H:=H) (nd:=nd) (b:=b) (by omega);have hsp:=WU (n:=H.length) (N:=b.length) (m:=nd.length) (by omega) (.mp ((hQ H nd b).length+3));have hsu:=Yp (n:=H.length) (N:=b.length) (m:=nd.length) (by omega);have hwf:=afQ (nd:=nd) (b:=b) hw (hQ H nd b).length (aR _);have hbm:=adl (n:=H.length) (N:=b.length) (m:=nd.length) (q:=(hQ H nd b).length) (by omega);have hbn:=MF (hQ H nd b).length (b.length-(nd.length+1))
 have yc:∀h,(dx H.length b.length nd.length)[nd.length]'h=.c8:=fun h=>by
  have e:(dx H.length b.length nd.length)[nd.length]? =some .c8:=by
   rw[dx,dD (by simp),iq,y7,C_,show b.length-nd.length=(b.length-(nd.length+1))+1 by omega,k8];rfl
  exact(cW.1 e).2
 have hin:=adz (Γ:=Γ) c hc hw hv hm nd i hi hnd up base hbase p2 c.af[i].ins.length 0 (by omega) [] b hb (fun l hl=>by have:=hbl l hl;omega);subst hnd;rw[hb]at xw xn yl hlen hnew hsp hsu hbm hbn yc
 have w1:∀os,(hQ H nd b++os)[H.length]? =some (.cells [.sl (H.length+1) 0 c.af.length,.sl (H.length+2) 0 c.af.length]):=fun os=>dJ xw os
 have w2:∀os,(hQ H nd b++os)[H.length+1]? =some (.row 1 jR (dx H.length c.af.length nd.length) none (decide (nd.length=0)) false):=fun os=>dJ xn os
 have w3:∀os o,(hQ H nd b++os).set (H.length+1) o=(hQ H nd b).set (H.length+1) o++os:=fun os o=>kq _ _ (by rw[hlen];omega)
 have w4:∀o os,((hQ H nd b).set (H.length+1) o++os)[(hQ H nd b).length]? =os[0]? :=fun o os=>by rw[dD (by simp)];simp
 have hX:(hQ H nd b).length=H.length+(3+(c.af.length+nd.length)):=hlen;generalize hQ H nd b=X at*;clear hlen
 have hb2:base<=X.length:=by omega
 have hX1:H.length<X.length:=by omega
 have hX2:H.length+1<X.length:=by omega
 have hX3:p2<X.length:=by omega
 have hX4:m0<X.length:=by omega
 refine .aU 60 ?_;simp(disch:=omega) [hi,q2,w1,w2,w3,w4,yl,yc,WJ];rw[hsp]
 have hmp:(AV.mp (H.length+(3+(c.af.length+nd.length))))=.mp X.length:=by rw[hX]
 rw[hmp]at hsu;refine .trans (.lK [6,27,28,29,30,31,32,33,34,35] _) ?_;simp[lI]
 refine .mA X.length [3] (by
  simp[hb2,hX1,hX3,hX4]
  exact N7 (by simp[l7 hbm,l7 hbn]) _ (l8 hwf)) (by decide) ?_
 have hlt3:(X.length+3<X.length)=False:=iu (by omega);simp[hX1,hX3,hX4,NH _ _ hwf,kD hbm,kD hbn,hlt3];rw[hsu,hnew];refine .inLoop ?_;simp at hin⊢;refine .trans hin ?_;refine .aU 60 ?_
 have hB:nd.length<2^10:=by have:=hc.2.2.2.1;omega
 simp(disch:=omega);refine .aH ?_;simp at hC⊢;exact hC
set_option maxRecDepth 8000 in
theorem acw(c:Ct)(hc:bW c){H:List Ob}(hw:cu H)(hv:dW H){m0:Nat}(hm:H[m0]? =some (.map ((cj c).map gU) true))(up:List Fr)(base:Nat)(hbase:base<=H.length)(p2:Nat)(hp2:p2<H.length){r0 r1:AV}(hr:H[p2]? =some (.cells [r0,r1])):∀n i:Nat,i+n=c.af.length->∀nd b:List (List Nat),nd.length=i->b.length=c.af.length->(∀l∈b,l.length<=2^20+i*2^10)->
 AM.Reach Tryz.prog Γ (HF (.ptr p2 0) (.mp m0) (.ptr H.length 0) (.list false c.kG (c.af.map cR)) (.int .i64 c.af.length) (.int .i64 i) (hQ H nd b) ⟨[],.norm,base,up⟩)
  (.back up (.agg [.sl (H.length+1) 0 c.af.length,.sl (H.length+2) 0 c.af.length]) (hQ (H.set p2 (.cells [.sl (H.length+1) 0 c.af.length,.sl (H.length+2) 0 c.af.length])) (fh (cj c) (c.af.drop i) i nd b).1 (fh (cj c) (c.af.drop i) i nd b).2)):=by
 intro n
 induction n with
 |zero=>
  intro i hi nd b hnd hb hbl
  have q1:¬i<c.af.length:=by omega
  rw[bw (by omega),fh];have xw:=GB (H:=H) (nd:=nd) (b:=b)
  have xp:(hQ H nd b)[p2]? =some (.cells [r0,r1]):=by rw[Gl hp2];exact hr
  have xs:=fun o=>aaE (nd:=nd) (b:=b) hp2 o
  have xp2:∀o,((hQ H nd b).set p2 o)[p2]? =some o:=fun o=>by rw[ep (by rw[lz];omega)]
  rw[hb]at xw;refine .aU 60 ?_;simp[q1,xw,xp,xp2];rw[xs];exact .refl _
 |succ n ih=>
  intro i hi nd b hnd hb hbl
  have q1:i<c.af.length:=by omega
  have hiB:c.af[i].ins.length<2^10:=(hc.2.2.2.2.1 _ (bz q1)).2.1;rw[bQ q1,fh];refine acV c hc hw hv hm up base hbase p2 hp2 _ i q1 nd b hnd hb hbl ?_
  exact ih (i+1) (by omega) _ _ (by simp[hnd]) (by rw[wR];exact hb) (fun l hl=>by
   have:=Fu (cj c) i (2^20+i*2^10) c.af[i].ins [] b hbl l hl
   rw[De];omega)
def dS(c:Ct):List (List Nat):=(fh (cj c) c.af 0 [] (List.replicate c.af.length [])).1
def bD(c:Ct):List (List Nat):=(fh (cj c) c.af 0 [] (List.replicate c.af.length [])).2
def gV(c:Ct)(n:Nat)(x y:AV):List Ob:=[.cells (AV.cells (bL c)),.cells [x,y],.row 1 jR [] none true false,.row 1 iW [] none true false,.cells (AV.cells (bL c)),.map ((cj c).map gU) true]
def gM(c:Ct)(h:List Ob):List Ob:=h++gV c h.length (.sl (h.length+7) 0 c.af.length) (.sl (h.length+8) 0 c.af.length)
theorem jU(c:Ct)(h:List Ob):(gM c h).length=h.length+6:=by simp[gM,gV]
theorem o7(i m:Nat):∀l:List (Bs×Nat),nj i m (l.map gU)=true
 |[]=>rfl
 |x::l=>by simp[o7 i m l]
set_option maxRecDepth 8000 in
theorem aeA(c:Ct)(hc:bW c)(hd:(c.af.map (·.name)).Nodup){h:List Ob}(hw:cu h)(hv:dW h):∀up,AM.Reach Tryz.prog Γ (.cl mV [bL c] up h)
 (.back up (.agg [.sl ((gM c h).length+1) 0 c.af.length,.sl ((gM c h).length+2) 0 c.af.length]) (hQ (gM c h) (dS c) (bD c))):=by
 intro up;have hN:=hc.2.2.2.1;generalize hH:h++gV c h.length (.sl (h.length+2) 0 0) (.sl (h.length+3) 0 0)=H
 have hHl:H.length=h.length+6:=by rw[<-hH];simp[gV]
 have hp:H[h.length]? =some (.cells (AV.cells (bL c))):=by rw[<-hH];simp[gV]
 have hp2:H[h.length+1]? =some (.cells [.sl (h.length+2) 0 0,.sl (h.length+3) 0 0]):=by rw[<-hH];simp[gV]
 have hm:H[h.length+5]? =some (.map ((cj c).map gU) true):=by rw[<-hH];simp[gV]
 have hwH:cu H:=fun m hm=>by
  have h1:=hw m (by omega);have h2:=nO m (cj c);rw[<-hH,oC,h1]
  simp[gV,h2];omega
 have hvH:dW H:=fun i m hi=>by
  have h1:=hv i m (by omega);have h2:=o7 i m (cj c);rw[<-hH,iR,h1]
  simp[gV,h2];omega
 have hend:H.set (h.length+1) (.cells [.sl (H.length+1) 0 c.af.length,.sl (H.length+2) 0 c.af.length])=gM c h:=by
  rw[<-hH,Bn,gM];simp[gV]
 have hL:=acw (Γ:=Γ) c hc hwH hvH hm up h.length (by omega) (h.length+1) (by omega) hp2 c.af.length 0 (by omega) [] (List.replicate c.af.length []) rfl (by simp) (by simp)
 have hcv:=fun f=>aeS (Γ:=Γ) H c.af.length f up c.af.length 0 (by omega)
 rw[aar,Yq]at hcv;rw[hend,ir,hHl]at hL;refine .br 60 Wl ?_;simp;refine .trans (Nc c hc hd ?_ _) ?_
 ·intro m hm;simp at hm;have h1:=hw m (by omega)
  simp[h1];omega
 have e2:h.length+1+1=h.length+2:=rfl;have e3:h.length+1+1+1=h.length+3:=rfl;have e5:h.length+4+1=h.length+5:=rfl;refine .trans (.pop _) (.aU 60 ?_);simp[e2,e3,e5];refine .trans (.lK [0,11,12] _) ?_;simp[lI]
 have hR:=fun k hk C hC=>ac8 (Γ:=Γ) (c:=c) (p:=h.length) (x2:=.ptr (h.length+1) 0) (x3:=.mp (h.length+5)) (H:=H) (up:=up) (base:=h.length) (k:=k) (C:=C) hc hp (hwH _ (aR _)) (by omega) (by simp;omega) (by simp;omega) hk hC
 rw[<-hH]at hR;simp[gV]at hR;refine hR _ ?_ _ ?_
 ·simp
 have hcv':∀f,AM.Reach Tryz.prog Γ (.fr f up (h++(gV c h.length (.sl (h.length+2) 0 0) (.sl (h.length+3) 0 0)++hW c (h.length+6)))) (.fr f up (hQ H [] (List.replicate c.af.length []))):=fun f=>by
  rw[<-fY,hH,<-hHl];exact hcv f
 simp[gV]at hcv';refine .trans (hcv' _) ?_;refine .aU 60 ?_;have hq:=Gl (H:=H) (nd:=[]) (b:=List.replicate c.af.length []) (aV hp);rw[hp]at hq;simp[hq];refine .inLoop ?_;simp at hL⊢;rw[jU];simp[dS,bD];exact hL
def hP(A:List Ob)(l s:List Nat)(g:Option Nat):List Ob:=A++[.row 1 aq ((l++s).map iN) g true false,.cells [.sl A.length 0 l.length]]
def swp(l:List Nat)(i j:Nat):List Nat:=(l.set i (l.getD j 0)).set j (l.getD i 0)
section
variable{A:List Ob}{l s:List Nat}{g:Option Nat}
theorem xd:(hP A l s g).length=A.length+2:=by simp[hP]
theorem uE:(hP A l s g)[A.length]? =some (.row 1 aq ((l++s).map iN) g true false):=by simp[hP]
theorem n6:(hP A l s g)[A.length+1]? =some (.cells [.sl A.length 0 l.length]):=by
 rw[hP,dD (by omega)];simp
theorem o9{i:Nat}(h:i<A.length):(hP A l s g)[i]? =A[i]? :=by rw[hP,cV h]
theorem acX{l' s':List Nat}(h:l'.length=l.length):(hP A l s g).set A.length (.row 1 aq ((l'++s').map iN) g true false)=hP A l' s' g:=by
 have:=Bn A [.row 1 aq ((l++s).map iN) g true false,.cells [.sl A.length 0 l.length]] 0 (.row 1 aq ((l'++s').map iN) g true false);rw[gX]at this
 rw[hP,this,hP,h];rfl
theorem dF(i j:Nat):(swp l i j).length=l.length:=by simp[swp]
theorem Bm{L:List Nat}{i:Nat}(h:i<L.length):(L.map iN)[i]? =some (.int .i64 (L.getD i 0:Nat)):=by simp[h]
end
theorem BE(A:List Ob)(l s:List Nat)(g:Option Nat)(hg:g=none\/g=some 0/\s=[]):∀up,AM.Reach Tryz.prog Γ (.cl sY [.sl A.length 0 l.length] up (hP A l s g)) (.back up (.int .i64 l.length) (hP A l s g)):=by
 intro up;have xr:=uE (A:=A) (l:=l) (s:=s) (g:=g)
 have hl2:s=[]->((l++s).map iN).length=l.length:=fun h=>by rw[h];simp
 generalize hP A l s g=X at*;generalize hL:(l++s).map iN=L at*
 have hl:l.length<=L.length:=by rw[<-hL];simp
 rcases hg with rfl|⟨rfl,rfl⟩
 ·refine .br 60 JF ?_;simp[xr]
 ·have hl3:=hl2 rfl;refine .br 60 JF ?_;simp[xr,hl3]
theorem w6(A:List Ob)(l s:List Nat)(g:Option Nat)(hg:g=none\/g=some 0/\s=[]){i j:Nat}(hi:i<l.length)(hj:j<l.length):∀up,AM.Reach Tryz.prog Γ (.cl vF [.sl A.length 0 l.length,.int .i64 i,.int .i64 j] up (hP A l s g)) (.back up (.bool (decide (l.getD i 0<l.getD j 0))) (hP A l s g)):=by
 intro up;have xr:=uE (A:=A) (l:=l) (s:=s) (g:=g)
 have e:∀k,k<l.length->(l++s).getD k 0=l.getD k 0:=fun k hk=>by simp[cV hk]
 have gi:=Bm (L:=l++s) (i:=i) (by simp;omega);have gj:=Bm (L:=l++s) (i:=j) (by simp;omega);rw[e i hi]at gi;rw[e j hj]at gj;generalize hP A l s g=X at*;generalize hL:(l++s).map iN=L at*
 have hl:l.length<=L.length:=by rw[<-hL];simp
 obtain⟨_,gi'⟩:=cW.1 gi;obtain⟨_,gj'⟩:=cW.1 gj;generalize l.getD i 0=vi at*;generalize l.getD j 0=vj at*
 have hl2:s=[]->L.length=l.length:=fun h=>by rw[<-hL,h];simp
 rcases hg with rfl|⟨rfl,rfl⟩
 ·refine .br 60 JE ?_;simp(disch:=omega) [xr,gi,gj,gi',gj',hi,hj,hl,eE]
 ·have hl3:=hl2 rfl;refine .br 60 JE ?_;simp(disch:=omega) [xr,gi,gj,gi',gj',hi,hj,hl3,eE]
theorem PK{A:List Ob}{l s:List Nat}{i:Nat}{v:Nat}(hi:i<l.length):((l++s).map iN).set i (.int .i64 v)=(l.set i v++s).map iN:=by
 rw[iQ,kq _ _ (by simpa using hi),iQ,pO]
theorem xe(A:List Ob)(l s:List Nat)(g:Option Nat)(hg:g=none\/g=some 0/\s=[]){i j:Nat}(hi:i<l.length)(hj:j<l.length):∀up,AM.Reach Tryz.prog Γ (.cl vG [.sl A.length 0 l.length,.int .i64 i,.int .i64 j] up (hP A l s g)) (.back up (.aB []) (hP A (swp l i j) s g)):=by
 intro up;have xr:=uE (A:=A) (l:=l) (s:=s) (g:=g);have xl:=xd (A:=A) (l:=l) (s:=s) (g:=g)
 have e:∀k,k<l.length->(l++s).getD k 0=l.getD k 0:=fun k hk=>by simp[cV hk]
 have gi:=Bm (L:=l++s) (i:=i) (by simp;omega);have gj:=Bm (L:=l++s) (i:=j) (by simp;omega);rw[e i hi]at gi;rw[e j hj]at gj
 have fin:(hP A l s g).set A.length (.row 1 aq ((((l++s).map iN).set i (.int .i64 (l.getD j 0))).set j (.int .i64 (l.getD i 0))) g true false)=hP A (swp l i j) s g:=by
  rw[PK (A:=A) hi,PK (A:=A) (by simpa using hj)];exact acX (by simp)
 have hr:A.length<(hP A l s g).length:=by omega
 clear xl;generalize hP A l s g=X at*;generalize hL:(l++s).map iN=L at*
 have hl:l.length<=L.length:=by rw[<-hL];simp
 have hiL:i<L.length:=by omega
 have hjL:j<L.length:=by omega
 generalize l.getD i 0=vi at*;generalize l.getD j 0=vj at*;obtain⟨_,gi'⟩:=cW.1 gi;obtain⟨_,gj'⟩:=cW.1 gj;obtain⟨_,xr'⟩:=cW.1 xr
 have gs:(L.set i (.int .i64 vj))[j]? =some (.int .i64 vj):=by
  by_cases hij:i=j
  ·subst hij;rw[ep hiL]
  ·rw[dz hij];exact gj
 have hl2:s=[]->L.length=l.length:=fun h=>by rw[<-hL,h];simp
 rcases hg with rfl|⟨rfl,rfl⟩
 ·refine .br 60 JA ?_;simp(disch:=omega) [xr,xr',gs,gi,gj,gi',gj',hi,hj,hl,hiL,hjL,eE];rw[fin];exact .refl _
 ·have hl3:=hl2 rfl;refine .br 60 JA ?_;simp(disch:=omega) [xr,xr',gs,gi,gj,gi',gj',hi,hj,hl3,hiL,hjL,eE];rw[fin];exact .refl _
def mM(l:List Nat)(j:Nat):List Nat:=
 if j=0 then l else if l.getD j 0<l.getD ((j-1)/2) 0 then mM (swp l ((j-1)/2) j) ((j-1)/2)else l
termination_by j
decreasing_by omega
theorem acs(j:Nat):∀l:List Nat,(mM l j).length=l.length:=by
 induction j using Nat.strongRecOn with
 |_ j ih=>
  intro l;rw[mM]
  split
  ·rfl
  ·rename_i h0
   split
   ·rw[ih _ (by omega),dF]
   ·rfl
theorem PQ(j:Nat)(h:j≠0):((j:Int)-1).tdiv 2=(((j-1)/2:Nat):Int):=by
 have e:(j:Int)-1=((j-1:Nat):Int):=by omega
 rw[e,Int.tdiv_eq_ediv_of_nonneg (by omega)];rfl
theorem af5(A:List Ob)(s:List Nat)(g:Option Nat)(hg:g=none\/g=some 0/\s=[])(up:List Fr)(base:Nat):∀(j:Nat)(l:List Nat),j<l.length->l.length<2^40->
 AM.Reach Tryz.prog Γ (yyI (.b9 kx (.ptr (A.length+1) 0)) (.int .i64 j) (hP A l s g) ⟨[],.norm,base,up⟩) (.back up (.aB []) (hP A (mM l j) s g)):=by
 intro j
 induction j using Nat.strongRecOn with
 |_ j ih=>
  intro l hj hl;have xc:=n6 (A:=A) (l:=l) (s:=s) (g:=g);rw[mM]
  by_cases h0:j=0
  ·rw[if_pos h0];subst h0;generalize hP A l s g=X at*;refine .aU 60 ?_;simp[xc]
  ·rw[if_neg h0];have hq:=PQ j h0
   have hlt:(j-1)/2<j:=by omega
   have hne:((((j-1)/2:Nat):Int)=(j:Int))=False:=iu (by omega);have hL:=w6 (Γ:=Γ) A l s g hg hj (show(j-1)/2<l.length by omega);have hS:=xe (Γ:=Γ) A l s g hg (show(j-1)/2<l.length by omega) hj
   by_cases hc:l.getD j 0<l.getD ((j-1)/2) 0
   ·rw[if_pos hc];have hh:=ih _ hlt (swp l ((j-1)/2) j) (by rw[dF];omega) (by rw[dF];exact hl);rw[qV hc]at hL;generalize hP A l s g=X at*;generalize(j-1)/2=i at*;refine .aU 60 ?_;simp(disch:=omega) [xc,hq,hne];refine .aX 60 hL ?_;simp[xc];refine .aX 60 hS ?_;simp;refine .aH ?_;simp at hh⊢;exact hh
   ·rw[if_neg hc];rw[vr hc]at hL;generalize hP A l s g=X at*;generalize(j-1)/2=i at*;refine .aU 60 ?_;simp(disch:=omega) [xc,hq,hne];refine .aX 60 hL ?_;simp[xc]
theorem afz(A:List Ob)(s:List Nat)(g:Option Nat)(hg:g=none\/g=some 0/\s=[])(j:Nat)(l:List Nat)(hj:j<l.length)(hl:l.length<2^40):∀up,
 AM.Reach Tryz.prog Γ (.cl vC [.b9 kx (.ptr (A.length+1) 0),.int .i64 j] up (hP A l s g)) (.back up (.aB []) (hP A (mM l j) s g)):=by
 intro up;have h:=af5 (Γ:=Γ) A s g hg up (hP A l s g).length j l hj hl;generalize hP A l s g=X at*;refine .br 60 UB ?_;simp;refine .inLoop ?_;simp at h⊢;exact h
def fT(l:List Nat)(j n:Nat):Nat:=if j+1<n/\l.getD (j+1) 0<l.getD j 0 then j+1 else j
def gh(n:Nat)(l:List Nat)(i:Nat):List Nat×Nat:=
 if n<=2*i+1 then(l,i)else if l.getD (fT l (2*i+1) n) 0<l.getD i 0 then gh n (swp l i (fT l (2*i+1) n)) (fT l (2*i+1) n)else(l,i)
termination_by n-i
decreasing_by
 have:2*i+1<=fT l (2*i+1) n:=by unfold fT;split<;>omega
 omega
theorem w7(l:List Nat)(j n:Nat):j<=fT l j n:=by unfold fT;split<;>omega
theorem Bx(l:List Nat){j n:Nat}(h:j<n):fT l j n<n:=by unfold fT;split<;>omega
theorem aat(n:Nat):∀(m i:Nat)(l:List Nat),n-i<=m->(gh n l i).1.length=l.length:=by
 intro m
 induction m with
 |zero=>
  intro i l h;rw[gh,if_pos (by omega)]
 |succ m ih=>
  intro i l h;rw[gh]
  split
  ·rfl
  ·split
   ·have:=w7 l (2*i+1) n;rw[ih _ _ (by omega),dF]
   ·rfl
theorem aeC(A:List Ob)(s:List Nat)(g:Option Nat)(hg:g=none\/g=some 0/\s=[])(up:List Fr)(base:Nat)(n i0:Nat)(hn:n<2^40):∀(m i:Nat)(l:List Nat),n-i<=m->i<2^41->n<=l.length->(i<l.length)->
 AM.Reach Tryz.prog Γ (yza (.b9 kx (.ptr (A.length+1) 0)) (.int .i64 i0) (.int .i64 n) (.int .i64 i) (hP A l s g) ⟨[],.norm,base,up⟩) (.back up (.bool (decide (i0<(gh n l i).2))) (hP A (gh n l i).1 s g)):=by
 intro m
 induction m with
 |zero=>
  intro i l hm hi hnl hil;obtain⟨j1,hj1⟩:∃j1,j1=2*i+1:=⟨_,rfl⟩
  have e1:2*(i:Int)+1=(j1:Int):=by omega
  rw[gh,if_pos (by omega)]
  have q1:¬j1<n:=by omega
  have q2:n<=j1:=by omega
  generalize hP A l s g=X at*;refine .aU 60 ?_;simp(disch:=omega) [e1,q1,q2]
 |succ m ih=>
  intro i l hm hi hnl hil;obtain⟨j1,hj1⟩:∃j1,j1=2*i+1:=⟨_,rfl⟩
  have e1:2*(i:Int)+1=(j1:Int):=by omega
  obtain⟨j2,hj2⟩:∃j2,j2=j1+1:=⟨_,rfl⟩
  have e2:(j1:Int)+1=(j2:Int):=by omega
  rw[gh]
  by_cases h1:n<=2*i+1
  ·rw[if_pos h1]
   have q1:¬j1<n:=by omega
   have q2:n<=j1:=by omega
   generalize hP A l s g=X at*;refine .aU 60 ?_;simp(disch:=omega) [e1,q1,q2]
  ·rw[if_neg h1]
   have q1:j1<n:=by omega
   have q2:¬n<=j1:=by omega
   have q3:(n:Int)<=(j1:Int)↔False:=⟨fun h=>by omega,False.elim⟩;have hkg:=w7 l j1 n;have hkl:=Bx l q1;rw[<-hj1];have xc:=n6 (A:=A) (l:=l) (s:=s) (g:=g)
   by_cases h2:j2<n
   ·have hL:=w6 (Γ:=Γ) A l s g hg (show j2<l.length by omega) (show j1<l.length by omega)
    by_cases h3:l.getD (j2) 0<l.getD j1 0
    ·rw[qV h3]at hL
     have hk:fT l j1 n=j2:=by unfold fT;rw[<-hj2,if_pos ⟨h2,h3⟩]
     rw[hk];have hL2:=w6 (Γ:=Γ) A l s g hg (show j2<l.length by omega) hil
     by_cases hc:l.getD (j2) 0<l.getD i 0
     ·rw[if_pos hc];have hS:=xe (Γ:=Γ) A l s g hg hil (show j2<l.length by omega);have hh:=ih (j2) (swp l i (j2)) (by omega) (by omega) (by rw[dF];omega) (by rw[dF];omega);rw[qV hc]at hL2;generalize hP A l s g=X at*;refine .aU 60 ?_;simp(disch:=omega) [xc,e1,e2,q1,q2,h2];refine .aX 60 hL ?_;simp[xc];refine .aX 60 hL2 ?_;simp[xc];refine .aX 60 hS ?_;simp;refine .aH ?_;simp at hh⊢;exact hh
     ·rw[if_neg hc];rw[vr hc]at hL2;generalize hP A l s g=X at*;refine .aU 60 ?_;simp(disch:=omega) [xc,e1,e2,q1,q2,h2];refine .aX 60 hL ?_;simp[xc];refine .aX 60 hL2 ?_;simp[xc]
    ·rw[vr h3]at hL
     have hk:fT l j1 n=j1:=by unfold fT;rw[<-hj2,if_neg (fun h=>h3 h.2)]
     rw[hk];have hL2:=w6 (Γ:=Γ) A l s g hg (show j1<l.length by omega) hil
     by_cases hc:l.getD (j1) 0<l.getD i 0
     ·rw[if_pos hc];have hS:=xe (Γ:=Γ) A l s g hg hil (show j1<l.length by omega);have hh:=ih (j1) (swp l i (j1)) (by omega) (by omega) (by rw[dF];omega) (by rw[dF];omega);rw[qV hc]at hL2;generalize hP A l s g=X at*;refine .aU 60 ?_;simp(disch:=omega) [xc,e1,e2,q1,q2,h2];refine .aX 60 hL ?_;simp[xc];refine .aX 60 hL2 ?_;simp[xc];refine .aX 60 hS ?_;simp;refine .aH ?_;simp at hh⊢;exact hh
     ·rw[if_neg hc];rw[vr hc]at hL2;generalize hP A l s g=X at*;refine .aU 60 ?_;simp(disch:=omega) [xc,e1,e2,q1,q2,h2];refine .aX 60 hL ?_;simp[xc];refine .aX 60 hL2 ?_;simp[xc]
   ·have hk:fT l j1 n=j1:=by unfold fT;rw[<-hj2,if_neg (fun h=>h2 h.1)]
    rw[hk];have hL2:=w6 (Γ:=Γ) A l s g hg (show j1<l.length by omega) hil
    by_cases hc:l.getD (j1) 0<l.getD i 0
    ·rw[if_pos hc];have hS:=xe (Γ:=Γ) A l s g hg hil (show j1<l.length by omega);have hh:=ih (j1) (swp l i (j1)) (by omega) (by omega) (by rw[dF];omega) (by rw[dF];omega);rw[qV hc]at hL2;generalize hP A l s g=X at*;refine .aU 60 ?_;simp(disch:=omega) [xc,e1,e2,q1,q2,h2];refine .aX 60 hL2 ?_;simp[xc];refine .aX 60 hS ?_;simp;refine .aH ?_;simp at hh⊢;exact hh
    ·rw[if_neg hc];rw[vr hc]at hL2;generalize hP A l s g=X at*;refine .aU 60 ?_;simp(disch:=omega) [xc,e1,e2,q1,q2,h2];refine .aX 60 hL2 ?_;simp[xc]
theorem acu(A:List Ob)(s:List Nat)(g:Option Nat)(hg:g=none\/g=some 0/\s=[])(n i:Nat)(hn:n<2^40)(l:List Nat)(hnl:n<=l.length)(hi:i<l.length)(hi2:i<2^40):∀up,
 AM.Reach Tryz.prog Γ (.cl vz [.b9 kx (.ptr (A.length+1) 0),.int .i64 i,.int .i64 n] up (hP A l s g)) (.back up (.bool (decide (i<(gh n l i).2))) (hP A (gh n l i).1 s g)):=by
 intro up;have h:=aeC (Γ:=Γ) A s g hg up (hP A l s g).length n i hn (n-i) i l (aR _) (by omega) hnl hi;generalize hP A l s g=X at*;refine .br 60 Ui ?_;simp;refine .inLoop ?_;simp at h⊢;exact h
def gP(s:List Nat):Option Nat:=if s=[]then some 0 else none
theorem Pv(s:List Nat):gP s=none\/gP s=some 0/\s.tail=[]:=by
 unfold gP
 split
 ·rename_i h;exact .inr ⟨rfl,by rw[h];rfl⟩
 ·exact .inl rfl
theorem acL(A:List Ob)(l s:List Nat)(x:Nat)(hx:x<2^40)(hl:l.length<2^40):∀up,AM.Reach Tryz.prog Γ (.cl zu [.ptr (A.length+1) 0,.b9 aq (.int .i64 x)] up (hP A l s none)) (.back up (.aB []) (hP A (l++[x]) s.tail (gP s))):=by
 intro up;have xr:=uE (A:=A) (l:=l) (s:=s) (g:=none);have xc:=n6 (A:=A) (l:=l) (s:=s) (g:=none)
 have b8:(l.length+1)*8<=140737488355328:=by omega
 have hr:A.length<(hP A l s none).length:=by rw[xd];omega
 have hr1:A.length+1<(hP A l s none).length:=by rw[xd];omega
 cases s with
 |nil=>
  have fin:((hP A l [] none).set A.length (.row 1 aq (l.map iN++[.int .i64 x]) (some 0) true false)).set (A.length+1) (.cells [.sl A.length 0 (l.length+1)])=hP A (l++[x]) [] (some 0):=by
   simp[hP]
  rw[fX]at xr;rw[show gP []=some 0 from rfl];generalize hP A l [] none=X at*;obtain⟨_,xr'⟩:=cW.1 xr;obtain⟨_,xc'⟩:=cW.1 xc;refine .br 60 JB ?_;simp(disch:=omega) [xr,xc,xr',xc',b8,eE];refine .nr 60 ?_;simp(disch:=omega) [xr,xc,xr',xc',b8,eE];rw[fin];exact .refl _
 |cons a s=>
  have fin:((hP A l (a::s) none).set A.length (.row 1 aq (l.map iN++(AV.int .i64 x)::s.map iN) none true false)).set (A.length+1) (.cells [.sl A.length 0 (l.length+1)])=hP A (l++[x]) s none:=by
   simp[hP]
  rw[show gP (a::s)=none from rfl]
  have hL:((l++a::s).map iN)=l.map iN++.int .i64 a::s.map iN:=by simp
  rw[hL]at xr
  have tk:(l.map iN++AV.int .i64 a::s.map iN).take l.length=l.map iN:=by rw[List.take_append_of_le_length (by simp)];simp
  have dr:(l.map iN++AV.int .i64 a::s.map iN).drop (l.length+1)=s.map iN:=by rw[sE,bw (by simp),show l.length+1-(l.map iN).length=1 by simp];rfl
  have ln:¬(l.length=(l.map iN++AV.int .i64 a::s.map iN).length):=by simp
  have ln2:l.length+1<=(l.map iN++AV.int .i64 a::s.map iN).length:=by simp
  have ln3:l.length<=(l.map iN++AV.int .i64 a::s.map iN).length:=by simp
  generalize hP A l (a::s) none=X at*;generalize(l.map iN++AV.int .i64 a::s.map iN)=L at*;obtain⟨_,xr'⟩:=cW.1 xr;obtain⟨_,xc'⟩:=cW.1 xc;refine .br 60 JB ?_;simp(disch:=omega) [xr,xc,xr',xc',b8,eE];refine .nr 60 ?_;simp(disch:=omega) [xr,xc,xr',xc',b8,eE,ln,ln2,ln3,tk,dr];rw[fin];exact .refl _
theorem aeq(A:List Ob)(l s:List Nat)(x:Nat)(hl:l.length<2^40):∀up,AM.Reach Tryz.prog Γ (.cl zy [.ptr (A.length+1) 0] up (hP A (l++[x]) s none)) (.back up (.b9 aq (.int .i64 x)) (hP A l (x::s) none)):=by
 intro up;have xr:=uE (A:=A) (l:=l++[x]) (s:=s) (g:=none);have xc:=n6 (A:=A) (l:=l++[x]) (s:=s) (g:=none)
 have hr1:A.length+1<(hP A (l++[x]) s none).length:=by rw[xd];omega
 have fin:(hP A (l++[x]) s none).set (A.length+1) (.cells [.sl A.length 0 l.length])=hP A l (x::s) none:=by simp[hP]
 have e:(l++[x]).length=l.length+1:=by simp
 rw[e]at xc
 have gx:(((l++[x])++s).map iN)[l.length]? =some (.int .i64 x):=by simp
 generalize hP A (l++[x]) s none=X at*;generalize hL:(((l++[x])++s).map iN)=L at*
 have hlL:l.length<L.length:=by rw[<-hL];simp
 obtain⟨_,gx'⟩:=cW.1 gx;obtain⟨_,xr'⟩:=cW.1 xr;obtain⟨_,xc'⟩:=cW.1 xc;refine .br 60 U7 ?_;simp(disch:=omega) [xr,xc,xr',xc',gx,gx',eE];rw[fin];exact .refl _
def e_(l:List Nat)(x:Nat):List Nat:=mM (l++[x]) l.length
theorem OS(A:List Ob)(l s:List Nat)(x:Nat)(hx:x<2^40)(hl:l.length<2^39):∀up,AM.Reach Tryz.prog Γ (.cl vy [.b9 kx (.ptr (A.length+1) 0),.b9 aq (.int .i64 x)] up (hP A l s none)) (.back up (.aB []) (hP A (e_ l x) s.tail (gP s))):=by
 intro up;have h1:=acL (Γ:=Γ) A l s x hx (by omega);have h2:=BE (Γ:=Γ) A (l++[x]) s.tail (gP s) (Pv s);have h3:=afz (Γ:=Γ) A s.tail (gP s) (Pv s) l.length (l++[x]) (by simp) (by simp;omega);have hxc:=n6 (A:=A) (l:=l++[x]) (s:=s.tail) (g:=gP s)
 have e:(l++[x]).length=l.length+1:=by simp
 rw[e]at hxc h2;rw[e_];refine .br 60 Uh ?_;simp;refine .aX 60 h1 ?_;generalize hP A (l++[x]) s.tail (gP s)=X at*;simp[hxc];refine .aX 60 h2 ?_;simp(disch:=omega);refine .aX 60 h3 ?_;simp
def dq(l:List Nat):List Nat:=(gh (l.length-1) (swp l 0 (l.length-1)) 0).1
theorem AU(l:List Nat):(dq l).length=l.length:=by rw[dq,aat _ _ _ _ (aR _),dF]
theorem afK(A:List Ob)(l s:List Nat)(h0:0<l.length)(hl:l.length<2^39):∀up,AM.Reach Tryz.prog Γ (.cl zn [.b9 kx (.ptr (A.length+1) 0)] up (hP A l s none)) (.back up (.b9 aq (.int .i64 ((dq l).getD (l.length-1) 0:Nat))) (hP A ((dq l).take (l.length-1)) ((dq l).getD (l.length-1) 0::s) none)):=by
 intro up;obtain⟨n,hn⟩:∃n,l.length=n+1:=⟨l.length-1,by omega⟩;have h1:=BE (Γ:=Γ) A l s none (.inl rfl);have h2:=xe (Γ:=Γ) A l s none (.inl rfl) h0 (show n<l.length by omega);have h3:=acu (Γ:=Γ) A s none (.inl rfl) n 0 (by omega) (swp l 0 n) (by rw[dF];omega) (by rw[dF];omega) (by omega)
 have e:(gh n (swp l 0 n) 0).1=dq l:=by rw[dq,hn];rfl
 have el:=AU l
 have e2:dq l=(dq l).take n++[(dq l).getD n 0]:=by
  have hlt:n<(dq l).length:=by omega
  have h5:(dq l).getD n 0=(dq l)[n]:=by rw[bp,bl hlt];rfl
  rw[h5]
  conv=>lhs;rw[<-lU n (dq l)]
  congr 1;rw[bQ hlt,bw (by omega)]
 have h4:=aeq (Γ:=Γ) A ((dq l).take n) s ((dq l).getD n 0) (by rw[fW];omega);have c1:=n6 (A:=A) (l:=l) (s:=s) (g:=none);have c2:=n6 (A:=A) (l:=swp l 0 n) (s:=s) (g:=none);have c3:=n6 (A:=A) (l:=dq l) (s:=s) (g:=none);rw[<-e2]at h4;rw[e]at h3;rw[hn]at h1 h2 c1;rw[dF,hn]at c2;rw[el,hn]at c3
 have en:l.length-1=n:=by omega
 have hn40:n<2^40:=by omega
 rw[en];clear hn en h0 hl el e2 e;generalize(dq l).getD n 0=x at*;generalize(dq l).take n=l' at*;generalize hP A l s none=X at*;generalize hP A (swp l 0 n) s none=Y at*;generalize hP A (dq l) s none=Z at*;refine .br 60 Uq ?_;simp[c1];refine .aX 60 h1 ?_;simp(disch:=omega) [c1];simp at h2 h3;refine .aX 60 h2 ?_;simp(disch:=omega) [c2];refine .aX 60 h3 ?_;simp(disch:=omega) [c3];refine .aX 60 h4 ?_;simp
theorem Reach.afg{P:Program}{fn:FuncId}{k:List It}{ds:List dm}{kind:FK}{base:Nat}{up:List Fr}{h h':List Ob}{t:List AV}{d:Option Nat}{a:AO}{os:List AG}{l:Nat}{args:List AV}{v:AV}{C:AM.an}
 (ha:ay P Γ t h a=.yield l args)(hb:AM.Reach P Γ ((ji.yl l).cfg args (⟨.run,fn,.ops (⟨d,none,a⟩::os)::k,t,ds,kind,base⟩::up) h) (.back (⟨.run,fn,.ops (⟨d,none,a⟩::os)::k,t,ds,kind,base⟩::up) v h'))
 (hn:AM.Reach P Γ (.fr ⟨.run,fn,.ops os::k,a8 t d v,ds,kind,base⟩ up h') C):AM.Reach P Γ (.fr ⟨.run,fn,.ops (⟨d,none,a⟩::os)::k,t,ds,kind,base⟩ up h) C:=by
 refine .aU 1 ?_;rw[afJ,ha];exact .trans hb (.trans (.pop _) hn)
theorem Kr(pl:List (Bs×Nat)):∀(l:List Gt)(i:Nat)(nd b:List (List Nat)),(fh pl l i nd b).1.length=nd.length+l.length
 |[],_,_,_=>by simp[fh]
 |g::r,i,nd,b=>by rw[fh,Kr pl r];simp;omega
theorem KY(pl:List (Bs×Nat)):∀(l:List Gt)(i:Nat)(nd b:List (List Nat)),(fh pl l i nd b).2.length=b.length
 |[],_,_,_=>by simp[fh]
 |g::r,i,nd,b=>by rw[fh,KY pl r,wR]
theorem tz(c:Ct):(dS c).length=c.af.length:=by rw[dS,Kr];simp
theorem gF(c:Ct):(bD c).length=c.af.length:=by rw[bD,KY];simp
def aC(c:Ct)(M:List Ob)(nd:List (List Nat)):List Ob:=hQ (gM c M) nd (bD c)++[.cells [.sl (M.length+7) 0 c.af.length,.sl (M.length+8) 0 c.af.length]]
def tC(c:Ct)(n:Nat)(nd:List (List Nat)):List Ob:=
 gV c n (.sl (n+7) 0 c.af.length) (.sl (n+8) 0 c.af.length)++(hF (n+6) c.af.length nd.length (bD c)++((bD c).map fo++nd.map gR))++[.cells [.sl (n+7) 0 c.af.length,.sl (n+8) 0 c.af.length]]
section
variable{c:Ct}{M:List Ob}{nd:List (List Nat)}
theorem xx:aC c M nd=M++tC c M.length nd:=by
 have hl:(M++gV c M.length (.sl (M.length+7) 0 c.af.length) (.sl (M.length+8) 0 c.af.length)).length=M.length+6:=by simp[gV]
 simp only[aC,hQ,tC,gM,hl,gF,fY]
theorem oV(hn:nd.length=c.af.length):(aC c M nd).length=M.length+(10+(c.af.length+c.af.length)):=by
 simp[aC,lz,jU,gF,hn];omega
theorem BJ{i:Nat}(h:i<(hQ (gM c M) nd (bD c)).length):(aC c M nd)[i]? =(hQ (gM c M) nd (bD c))[i]? :=by rw[aC,cV h]
theorem GD(hn:nd.length=c.af.length):(aC c M nd)[M.length+(9+(c.af.length+c.af.length))]? =some (.cells [.sl (M.length+7) 0 c.af.length,.sl (M.length+8) 0 c.af.length]):=by
 have hl:(hQ (gM c M) nd (bD c)).length=M.length+(9+(c.af.length+c.af.length)):=by rw[lz,jU,gF,hn];omega
 rw[aC,dD (by omega),hl,C_];rfl
theorem PD(hn:nd.length=c.af.length):(aC c M nd)[M.length+7]? =some (.row 1 jR (dx (M.length+6) c.af.length c.af.length) none (decide (c.af.length=0)) false):=by
 have h:=Gy (H:=gM c M) (nd:=nd) (b:=bD c);rw[jU,gF,hn]at h
 rw[BJ (by rw[lz,jU];omega)];exact h
theorem agc:(aC c M nd)[M.length+8]? =some (.row 1 iW (fw (M.length+6) (bD c)) none (decide (c.af.length=0)) false):=by
 have h:=PF (H:=gM c M) (nd:=nd) (b:=bD c);rw[jU,gF]at h
 rw[BJ (by rw[lz,jU];omega)];exact h
theorem agj{k:Nat}(hk:k<c.af.length):(aC c M nd)[M.length+(9+k)]? =some (fo ((bD c).getD k [])):=by
 have h:=GC (H:=gM c M) (nd:=nd) (b:=bD c) (k:=k) (by rw[gF];exact hk);rw[jU]at h
 rw[BJ (by rw[lz,jU,gF];omega),show M.length+(9+k)=M.length+6+(3+k) by omega,h,bp,bl (by rw[gF];exact hk)];rfl
theorem PU{i:Nat}(hn:nd.length=c.af.length)(hi:i<c.af.length):(aC c M nd)[M.length+(9+(c.af.length+i))]? =some (gR (nd.getD i [])):=by
 have h:=PZ (H:=gM c M) (nd:=nd) (b:=bD c) (i:=i) (by omega);rw[jU,gF]at h
 rw[BJ (by rw[lz,jU,gF];omega),show M.length+(9+(c.af.length+i))=M.length+6+(3+(c.af.length+i)) by omega,h,bp,bl (by omega)];rfl
theorem ace{i:Nat}(l:List Nat)(hn:nd.length=c.af.length)(hi:i<c.af.length):(aC c M nd).set (M.length+(9+(c.af.length+i))) (gR l)=aC c M (nd.set i l):=by
 have h:=NK (H:=gM c M) (b:=bD c) (nd:=nd) (i:=i) l (by omega);rw[jU,gF]at h;rw[aC,kq _ _ (by rw[lz,jU,gF];omega),show M.length+(9+(c.af.length+i))=M.length+6+(3+(c.af.length+i)) by omega,h,aC]
theorem ad9(c:Ct){n m:Nat}(h:n+8<m):cG m (gV c n (.sl (n+7) 0 c.af.length) (.sl (n+8) 0 c.af.length))=true:=by
 have h2:=nO m (cj c)
 simp[gV,h2];omega
theorem OE(hv:dW M){i m:Nat}(hi:M.length+(9+c.af.length)<=i):cH i m (aC c M nd)=true:=by
 have h1:=hv i m (by omega);have h2:=o7 i m (cj c)
 have h3:c9 i m (fw (M.length+6) (bD c))=true:=Fz _ fun j hj he=>by rw[gF]at hj;omega
 have h4:=Et (n:=M.length+6) (N:=c.af.length) (m:=nd.length) (i:=i) (q:=m);rw[xx,iR,tC,iR,iR,iR,iR,h1,AA,Az];simp[gV,hF,h2,h3,h4];omega
theorem aey{r m:Nat}(n:Nat)(hr:r<n):cH r m (tC c n nd)=true:=by
 have h2:=o7 r m (cj c)
 have h3:c9 r m (fw (n+6) (bD c))=true:=Fz _ fun j hj he=>by omega
 have h4:=Et (n:=n+6) (N:=c.af.length) (m:=nd.length) (i:=r) (q:=m);rw[tC,iR,iR,iR,iR,AA,Az];simp[gV,hF,h2,h3,h4];omega
end
end Go.Proofs.YtihmomicdpkabaaGreatDoor
