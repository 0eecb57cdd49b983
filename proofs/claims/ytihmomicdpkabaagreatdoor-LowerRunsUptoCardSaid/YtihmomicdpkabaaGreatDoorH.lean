/- Factors: how many rows have a literal; rows without literals; an and of literals; the literal that most rows have. -/
import Derived.Test.YtihmomicdpkabaaGreatDoorG
import Derived.Test.YtihmomicdpkabaaGreatDoorF
import Derived.Test.YtihmomicdpkabaaGreatDoorCode
import Derived.Test.YtihmomicdpkabaaGreatDoorAMd
set_option linter.unusedSimpArgs false
set_option linter.unusedVariables false
namespace Go.Proofs.YtihmomicdpkabaaGreatDoor
open Go.AM Go.Proofs
variable{Γ:Nat->Option AV}
def dI(x:Li):List Bs->Nat
 |[]=>0
 |s::r=>(if cK x s=true then 1 else 0)+dI x r
theorem LU(x:Li):∀r:List Bs,dI x r<=r.length
 |[]=>aT _
 |s::r=>by rw[dI,bW];have:=LU x r;split<;>omega
theorem Ge(rows:List Bs)(x:Li){k:Nat}(hk:Kd 1 k rows)(hl:rows.length<2^40)(hs:∀s∈rows,s.length<2^40):aM Tryz.prog Γ tu [.list false k (rows.map .str),dK x] (.int .i64 (dI x rows)):=by
 have key:∀n i:Nat,i+n=rows.length->∀a:Nat,a+n<2^41->aw Tryz.prog Γ (yAw (.ptr 0 0) (.int .i64 a) (.list false k (rows.map .str)) (.int .i64 rows.length) (.int .i64 i) [.cells (dK x).cells]) (.ret (.int .i64 (a+dI x (rows.drop i):Nat))):=by
  intro n
  induction n with
  |zero=>
   intro i hi a ha
   have q1:¬i<rows.length:=by omega
   rw[br (by omega),dI];refine .go 60 ?_;simp[q1];exact .back (by simp)
  |succ n ih=>
   intro i hi a ha
   have q1:i<rows.length:=by omega
   have q2:=bP (hk.of q1)
   have hw:cr [.cells (dK x).cells,.cells (dK x).cells]:=by intro m hm;simp
   have hc:=(GL (Γ:=Γ) x 1 [rows[i]] (by intro s h;simp only[dG]at h;subst h;exact hs _ (bx q1))).2 rows[i] (by simp);rw[bL q1,dI];refine .go 60 ?_;simp(disch:=omega) [q1,q2];refine .aX 60 (Py x) ?_;simp;refine .aX 60 (fun up=>hc up [.cells (dK x).cells,.cells (dK x).cells] ⟨rfl,hw⟩) ?_
   by_cases h3:cK x rows[i]=true
   ·have hh:=ih (i+1) (by omega) (a+1) (by omega);simp(disch:=omega) [h3];refine .aF ?_;simp;refine .drop 1 rfl (by simp) (by simp) (by simp) ?_;simp[q2,<-Int.add_assoc]at hh⊢;exact hh
   ·have hh:=ih (i+1) (by omega) a (by omega);simp(disch:=omega) [h3];refine .aF ?_;simp;refine .drop 1 rfl (by simp) (by simp) (by simp) ?_;simp[q2]at hh⊢;exact hh
 refine .run 60 WN (by simp) ?_;simp;refine .inLoop ?_;have hh:=key rows.length 0 (by omega) 0 (by omega);simp at hh⊢;exact hh
def fy(l:List Li)(s:Bs):Bs:=l.foldl (fun b x=>b.set x.1 45) s
theorem qf:∀(l:List Li)(s:Bs),(fy l s).length=s.length
 |[],s=>rfl
 |x::l,s=>by have:=qf l (s.set x.1 45);simpa[fy]using this
theorem ad0:eY 45=.int .u8 45:=rfl
theorem aaz(l:List Li)(x:Li)(s:Bs):fy (l++[x]) s=(fy l s).set x.1 45:=by simp[fy]
set_option maxRecDepth 8000 in
theorem afA(l:List Li){kl:Nat}(hkl:Kd 2 kl l)(hll:l.length<2^40)(s:Bs)(hx:∀x∈l,x.1<s.length)(hs:s.length<2^40)(o0 o1:Ob)(x1 x5 x11 x12 x13:AV)(up:List Fr)(hb:aK 3 [x1,x5,x11,x12,x13]=true)(ho:cI 3 [o0,o1]=true):
 ∀n i:Nat,i+n=l.length->AM.Reach Tryz.prog Γ (yBn x1 x5 (.sl 2 0 s.length) x11 x12 x13 (.list false kl (l.map dK)) (.int .i64 l.length) (.int .i64 i) [o0,o1,.row 1 Gf ((fy (l.take i) s).map eY) none true false] ⟨[],.norm,0,up⟩)
  (yBo x1 x5 (.sl 2 0 s.length) x11 x12 x13 [o0,o1,.row 1 Gf ((fy l s).map eY) none true false] ⟨[],.norm,0,up⟩):=by
 intro n
 induction n with
 |zero=>
  intro i hi
  have q1:¬i<l.length:=by omega
  rw[bR (by omega)];refine .di 60 ?_;simp[q1];exact .exit rfl rfl
 |succ n ih=>
  intro i hi
  have q1:i<l.length:=by omega
  have q2:=bP (hkl.of q1);have q3:=hx l[i] (bx q1);have hh:=ih (i+1) (by omega);rw[gG q1,aaz]at hh
  have q4:l[i].1<(fy (l.take i) s).length:=by rw[qf];exact q3
  refine .di 60 ?_;simp(disch:=omega) [q1,q2,q3,q4,qf];refine .aF ?_;simp;refine .jz 3 rfl (by simp) (by simpa using hb) (by simpa using ho) ?_;simp[ad0]at hh⊢;exact hh
def dp(l:List Li)(rows:List Bs):List Bs:=rows.map (fy l)
theorem M8(rows:List Bs)(l:List Li){k kl:Nat}(hk:Kd 1 k rows)(hkl:Kd 2 kl l)(hr:rows.length<2^40)(hll:l.length<2^40)(hs:∀s∈rows,s.length<2^40/\∀x∈l,x.1<s.length):
 aM Tryz.prog Γ p7 [.list false k (rows.map .str),.list false kl (l.map dK)] (.own 1 aE ((dp l rows).map .str)):=by
 have key:∀n i:Nat,i+n=rows.length->∀out:List Bs,out.length=i->aw Tryz.prog Γ (yBq (.list false kl (l.map dK)) (.sl 1 0 out.length) (.list false k (rows.map .str)) (.int .i64 rows.length) (.int .i64 i) [.row 1 aE [] none true false,.row 1 aE (out.map .str) none true false])
  (.ret (.own 1 aE ((out++dp l (rows.drop i)).map .str))):=by
  intro n
  induction n with
  |zero=>
   intro i hi out ho
   have q1:¬i<rows.length:=by omega
   rw[br (by omega)];refine .go 60 ?_;simp[q1,dp];exact .back (by simp)
  |succ n ih=>
   intro i hi out ho
   have q1:i<rows.length:=by omega
   have q2:=bP (hk.of q1);obtain⟨h1,h2⟩:=hs rows[i] (bx q1);have hh:=ih (i+1) (by omega) (out++[fy l rows[i]]) (by simp[ho])
   have e:out++dp l (rows.drop i)=out++[fy l rows[i]]++dp l (rows.drop (i+1)):=by rw[bL q1,gf];rfl
   rw[e];have h4:=afA (Γ:=Γ) l hkl hll rows[i] h2 h1 (.row 1 aE [] none true false) (.row 1 aE (out.map .str) none true false) (.list false kl (l.map dK)) (.sl 1 0 out.length) (.list false k (rows.map .str)) (.int .i64 rows.length) (.int .i64 i) [] (by simp) (by simp) l.length 0 (by omega);refine .go 60 ?_;simp(disch:=omega) [q1,q2];refine .inLoop ?_;have h0:fy [] rows[i]=rows[i]:=rfl;have hcl:=qf l rows[i];simp[h0]at h4⊢;refine .reach h4 ?_;refine .go 60 ?_;have htk:List.take (List.length rows[i]) (List.map eY (fy l rows[i]))=List.map eY (fy l rows[i]):=bR (by simp[hcl]);simp(disch:=omega) [hcl,htk];refine .aF ?_;simp;refine .drop 2 rfl (by simp) (by simp) (by simp) ?_;refine .reset (i:=1) rfl (by simp) (by simp) (by simp) ?_;simp[q2]at hh⊢;exact hh
 refine .run 60 V7 (by simp) ?_;simp;refine .inLoop ?_;have hh:=key rows.length 0 (by omega) [] rfl;simp at hh⊢;exact hh
def rZ:List Fm->Bool
 |[f]=>decide (f.kind=1)
 |_=>false
def jH(r:List Fm):List Fm:=if rZ r=true then[]else r
def px(n:Nat):List Fm:=if 1<n then[⟨3,0,n⟩]else[]
def ei(l:List Li)(r:List Fm):List Fm:=px (l.length+min (jH r).length 1)++l.map dV++jH r
theorem uH(l:List Li){kl:Nat}(hkl:Kd 2 kl l)(hll:l.length<2^40)(hx:∀x∈l,x.1<2^40)(r:List Fm){kr:Nat}(hkr:Kd 3 kr r)(hr:r.length<2^40)(fl:Bool):
 ∀n i:Nat,i+n=l.length->∀out:List Fm,out.length<=i+1->aw Tryz.prog Γ (yAP (.list fl kr (r.map bd)) (.sl 1 0 out.length) (.list false kl (l.map dK)) (.int .i64 l.length) (.int .i64 i) [.row 3 aU [] none true false,.row 3 aU (out.map bd) none true false])
  (.ret (.own 3 aU ((out++(l.drop i).map dV++r).map bd))):=by
 intro n
 induction n with
 |zero=>
  intro i hi out ho
  have q1:¬i<l.length:=by omega
  rw[br (by omega)];have hkr':kr=3\/r=[]:=hkr;refine .go 60 ?_
  by_cases hr0:r=[]
  ·simp(disch:=omega) [q1,hkr',hr0];exact .back (by simp)
  ·obtain rfl:kr=3:=hkr'.resolve_right hr0;simp(disch:=omega) [q1,hr0];exact .back (by simp)
 |succ n ih=>
  intro i hi out ho
  have q1:i<l.length:=by omega
  have q2:=bP (hkl.of q1);have hp:=aeS (Γ:=Γ) l[i] (hx _ (bx q1));have hh:=ih (i+1) (by omega) (out++[dV l[i]]) (by simp;omega)
  have e:out++(l.drop i).map dV++r=out++[dV l[i]]++(l.drop (i+1)).map dV++r:=by rw[bL q1];simp only[cd,gf,eR,lq]
  rw[e];refine .go 60 ?_;simp(disch:=omega) [q1,q2];refine .call 60 (by simp) hp ?_;simp(disch:=omega);refine .aF ?_;simp;refine .drop 2 rfl (by simp) (by simp) (by simp) ?_;refine .reset (i:=1) rfl (by simp) (by simp) (by simp) ?_;simp[q2]at hh⊢;exact hh
theorem B9:lO (.int .i64 0) [.int .i64 1]=some (.int .i64 0):=rfl
theorem qK:lO (.int .i64 1) [.int .i64 1]=some (.int .i64 1):=rfl
theorem Cc(n:Nat):lO (.int .i64 ((n:Int)+1)) [.int .i64 1]=some (.int .i64 1):=by
 by_cases h:(1:Int)<(n:Int)+1
 ·simp only[lO,cy,if_pos h]
 ·have e:(n:Int)+1=1:=by omega
  rw[e];rfl
set_option maxRecDepth 8000 in
theorem GG(l:List Li){kl:Nat}(hkl:Kd 2 kl l)(hll:l.length<2^40)(hx:∀x∈l,x.1<2^40)(r:List Fm){kr:Nat}(hkr:Kd 3 kr r)(hr:r.length<2^40):
 aM Tryz.prog Γ rz [.list false kl (l.map dK),.list false kr (r.map bd)] (.own 3 aU ((ei l r).map bd)):=by
 refine .run 100 Yd (by simp) ?_;have q0:(1<l.length+min (jH r).length 1)\/¬(1<l.length+min (jH r).length 1):=Decidable.em _
 cases r with
 |nil=>
  have e0:jH []=[]:=rfl;unfold ei px;rw[e0]at q0⊢;simp only[du,Nat.zero_min,ic]at q0⊢;have q3i:((1:Int)<l.length)=(1<l.length):=propext (by omega)
  rcases q0 with q0|q0
  ·have hh:=uH (Γ:=Γ) l hkl hll hx [] (kr:=kr) (.inr rfl) (by simp) false l.length 0 (by omega) [⟨3,0,l.length⟩] (by simp);simp(disch:=omega) [q0,B9,qK,q3i];refine .inLoop ?_;simp;refine .drop 2 rfl (by simp) (by simp) (by simp) ?_;refine .reset (i:=1) rfl (by simp) (by simp) (by simp) ?_;simp[q0]at hh⊢;exact hh
  ·have hh:=uH (Γ:=Γ) l hkl hll hx [] (kr:=kr) (.inr rfl) (by simp) false l.length 0 (by omega) [] (by simp);simp(disch:=omega) [q0,B9,qK,q3i];refine .inLoop ?_;simp[q0]at hh⊢;exact hh
 |cons f r=>
  obtain rfl:kr=3:=hkr.of (i:=0) (by simp)
  by_cases ht:rZ (f::r)=true
  ·have e0:jH (f::r)=[]:=by rw[jH,if_pos ht]
   obtain⟨hf,rfl⟩:f.kind=1/\r=[]:=by
    cases r with
    |nil=>simpa[rZ]using ht
    |cons _ _=>cases ht
   unfold ei px;rw[e0]at q0⊢;simp only[du,Nat.zero_min,ic]at q0⊢;have q3i:((1:Int)<l.length)=(1<l.length):=propext (by omega)
   rcases q0 with q0|q0
   ·have hh:=uH (Γ:=Γ) l hkl hll hx [] (kr:=3) (.inr rfl) (by simp) false l.length 0 (by omega) [⟨3,0,l.length⟩] (by simp);simp(disch:=omega) [q0,B9,qK,q3i,hf];refine .inLoop ?_;simp;refine .trees [1] ?_;simp;refine .gc 1 [1] (by simp) (by decide) ?_;simp;refine .reset (i:=1) rfl (by simp) (by simp) (by simp) ?_;simp[q0]at hh⊢;exact hh
   ·have hh:=uH (Γ:=Γ) l hkl hll hx [] (kr:=3) (.inr rfl) (by simp) false l.length 0 (by omega) [] (by simp);simp(disch:=omega) [q0,B9,qK,q3i,hf];refine .inLoop ?_;simp;refine .trees [1] ?_;simp;refine .gc 1 [1] (by simp) (by decide) ?_;simp[q0]at hh⊢;exact hh
  ·have e0:jH (f::r)=f::r:=by rw[jH,if_neg ht]
   unfold ei px;rw[e0]at q0⊢
   have e1:min (f::r).length 1=1:=by simp
   have e2:((r.length:Int)+1=1)=(r=[]):=propext ⟨fun h=>ku.1 (by omega),fun h=>by rw[h];rfl⟩
   have e4:f.kind=1->¬r=[]:=fun h h2=>ht (by rw[h2];simp[rZ,h])
   rw[e1]at q0⊢
   rcases q0 with q0|q0
   ·have q3:0<l.length:=by omega
    have q3i:((1:Int)<(l.length:Int)+1)=True:=bP (by omega);have hh:=uH (Γ:=Γ) l hkl hll hx (f::r) (kr:=3) (.inl rfl) hr false l.length 0 (by omega) [⟨3,0,l.length+1⟩] (by simp)
    by_cases h5:r=[]
    ·have h6:¬f.kind=1:=fun h=>e4 h h5
     simp(disch:=omega) [h5,h6,q3,qK,Cc,q3i];refine .inLoop ?_;simp;refine .drop 2 rfl (by simp) (by simp) (by simp) ?_;refine .reset (i:=1) rfl (by simp) (by simp) (by simp) ?_;simp[q3,q3i,h5]at hh⊢;exact hh
    ·simp(disch:=omega) [h5,q3,qK,Cc,q3i,e2];refine .inLoop ?_;simp;refine .drop 2 rfl (by simp) (by simp) (by simp) ?_;refine .reset (i:=1) rfl (by simp) (by simp) (by simp) ?_;simp[q3,q3i,h5]at hh⊢;exact hh
   ·have q3:l.length=0:=by omega
    have q3i:((1:Int)<1)=False:=ie (by omega);obtain rfl:l=[]:=ku.1 q3;have hh:=uH (Γ:=Γ) [] hkl hll hx (f::r) (kr:=3) (.inl rfl) hr false 0 0 (by simp) [] (by simp)
    by_cases h5:r=[]
    ·have h6:¬f.kind=1:=fun h=>e4 h h5
     simp(disch:=omega) [h5,h6,qK,Cc,q3i];refine .inLoop ?_;simp[h5]at hh⊢;exact hh
    ·simp(disch:=omega) [h5,qK,Cc,q3i,e2];refine .inLoop ?_;simp[h5]at hh⊢;exact hh
def lG(rows:List Bs)(b:Li×Nat)(x:Li):Li×Nat:=if b.2<dI x rows then(x,dI x rows)else b
def nu(rows:List Bs):Nat->Nat->Li×Nat->Li×Nat
 |0,_,b=>b
 |n+1,i,b=>nu rows n (i+1) (lG rows (lG rows b (i,49)) (i,48))
def cQ(rows:List Bs)(n:Nat):Li×Nat:=nu rows n 0 ((0,0),0)
theorem mO:Utf8.decode {data:=#[49,48]} 0=(49,1):=by kernel_rfl
theorem vf:Utf8.decode {data:=#[49,48]} 1=(48,1):=by kernel_rfl
set_option maxRecDepth 8000 in
theorem ad1(rows:List Bs){k:Nat}(hk:Kd 1 k rows)(hl:rows.length<2^40)(hs:∀s∈rows,s.length<2^40)(L:Nat)(hL:L<2^40):∀n i:Nat,i+n=L->∀b:Li×Nat,
 aw Tryz.prog Γ (yBQ (.list false k (rows.map .str)) (.ptr 0 0) (.ptr 1 0) (.int .i64 b.2) (.int .i64 L) (.int .i64 i) [.cells [.int .i64 0,.int .i64 0],.cells (dK b.1).cells]) (.ret (.aB [dK (nu rows n i b).1,.int .i64 (nu rows n i b).2])):=by
 intro n
 induction n with
 |zero=>
  intro i hi b
  have q1:¬i<L:=by omega
  refine .go 60 ?_;simp[q1];exact .back (by simp[nu])
 |succ n ih=>
  intro i hi b
  have q1:i<L:=by omega
  have hc1:=Ge (Γ:=Γ) rows (i,49) hk hl hs;have hc2:=Ge (Γ:=Γ) rows (i,48) hk hl hs;rw[nu]
  have half:∀b1:Li×Nat,aw Tryz.prog Γ (yBO (.list false k (rows.map .str)) (.ptr 0 0) (.ptr 1 0) (.int .i64 b1.2) (.int .i64 i) (.int .i64 L) (.int .i64 i) (.it 2) [.cells [.int .i64 0,.int .i64 0],.cells (dK b1.1).cells,.gQ [49,48] 1])
   (.ret (.aB [dK (nu rows n (i+1) (lG rows b1 (i,48))).1,.int .i64 (nu rows n (i+1) (lG rows b1 (i,48))).2])):=by
   intro b1;have hh:=ih (i+1) (by omega) (lG rows b1 (i,48));refine .go 60 ?_;simp(disch:=omega) [mO,vf];refine .call 60 (by simp) hc2 ?_
   by_cases h1:b1.2<dI (i,48) rows
   ·have e1:lG rows b1 (i,48)=((i,48),dI (i,48) rows):=if_pos h1;rw[e1]at hh⊢;simp(disch:=omega) [h1];refine .aF ?_;refine .go 60 ?_;simp(disch:=omega) [mO,vf];refine .aF ?_;simp;refine .drop 2 rfl (by simp) (by simp) (by simp) ?_;simp at hh⊢;exact hh
   ·have e1:lG rows b1 (i,48)=b1:=if_neg h1;rw[e1]at hh⊢;simp(disch:=omega) [h1];refine .aF ?_;refine .go 60 ?_;simp(disch:=omega) [mO,vf];refine .aF ?_;simp;refine .drop 2 rfl (by simp) (by simp) (by simp) ?_;simp at hh⊢;exact hh
  refine .go 60 ?_;simp(disch:=omega) [q1];refine .inLoop ?_;refine .go 60 ?_;simp(disch:=omega) [mO,vf];refine .call 60 (by simp) hc1 ?_
  by_cases h1:b.2<dI (i,49) rows
  ·have e1:lG rows b (i,49)=((i,49),dI (i,49) rows):=if_pos h1;have hh:=half ((i,49),dI (i,49) rows);rw[e1];simp(disch:=omega) [h1];refine .aF ?_;simp;refine .drop 3 rfl (by simp) (by simp) (by simp) ?_;simp at hh⊢;exact hh
  ·have e1:lG rows b (i,49)=b:=if_neg h1;have hh:=half b;rw[e1];simp(disch:=omega) [h1];refine .aF ?_;simp;refine .drop 3 rfl (by simp) (by simp) (by simp) ?_;simp at hh⊢;exact hh
theorem aft(rows:List Bs){k:Nat}(hk:Kd 1 k rows)(hl:rows.length<2^40)(hs:∀s∈rows,s.length<2^40)(L:Nat)(s:Bs)(h0:rows[0]? =some s)(hL:s.length=L):
 aM Tryz.prog Γ tv [.list false k (rows.map .str)] (.aB [dK (cQ rows L).1,.int .i64 (cQ rows L).2]):=by
 have q1:0<rows.length:=(cW.1 h0).1;have q3:rows[0]=s:=(cW.1 h0).2;have q2:=bP (hk.of q1)
 have hLb:L<2^40:=by rw[<-hL,<-q3];exact hs _ (bx q1)
 have hh:=ad1 (Γ:=Γ) rows hk hl hs L hLb L 0 (by omega) ((0,0),0);refine .run 60 WZ (by simp) ?_;simp(disch:=omega) [q1,q2,q3,hL];refine .inLoop ?_;simp[cQ,q2]at hh⊢;exact hh
abbrev gY(l:List Bs):Ob:=.row 1 aE (l.map .str) none true false
theorem Fz{h:List Ob}{i:Nat}{o:Ob}(hi:h[i]? =some o):h.set i o=h:=by
 apply jq;intro j
 by_cases hj:i=j
 ·subst hj;rw[eu (aZ hi),hi]
 ·rw[dB hj]
theorem Lr{α:Type}(p:α->Bool):∀(l:List α)(i:Nat),(eD p l i=-1/\l.filter (fun x=>!p x)=l)\/∃k,k<l.length/\eD p l i=((i+k:Nat):Int)/\(l.take (k+1)).filter (fun x=>!p x)=l.take k
 |[],i=>.inl ⟨rfl,rfl⟩
 |x::xs,i=>by
  rw[eD]
  cases h:p x with
  |true=>right;exact⟨0,by simp,by simp,by simp[h]⟩
  |false=>
   rcases Lr p xs (i+1)with⟨h1,h2⟩|⟨k,h1,h2,h3⟩
   ·left;exact⟨by simpa using h1,by rw[zu];simp[h,h2]⟩
   ·right;exact⟨k+1,by simp;omega,by rw[if_neg (by simp),h2];congr 1;omega,by simp[h,h3]⟩
theorem XO{φ:List Ob->Prop}{f:FuncId}{caps:List AV}{p:Bs->Bool}{l:List Bs}(ha:iu Tryz.prog Γ φ f caps AV.str p l)(hs:l.length<2^60){h:List Ob}{r:Nat}(hr:h[r]? =some (gY l))(hφ:φ h):
 ∀up,AM.Reach Tryz.prog Γ (.cl rj [.sl r 0 l.length,.fn (.func f) [] caps] up h) (.back up (.int .i64 (eD p l 0)) h):=by
 intro up
 have key:∀n i:Nat,i+n=l.length->AM.Reach Tryz.prog Γ (RM (.sl r 0 l.length) (.fn (.func f) [] caps) (.int .i64 l.length) (.int .i64 i) h ⟨[],.norm,h.length,up⟩) (.back up (.int .i64 (eD p (l.drop i) i)) h):=by
  intro n
  induction n with
  |zero=>
   intro i hi
   have h1:¬i<l.length:=by omega
   refine .aR 60 ?_;rw[br (by omega)];simp[h1,eD]
  |succ n ih=>
   intro i hi
   have h1:i<l.length:=by omega
   have h2:=ha.2 l[i] (bx h1);rw[bL h1,eD];have hh:=ih (i+1) (by omega);refine .aR 60 ?_;simp[h1,ha.1,hr];refine .aX 60 (fun up=>h2 up h hφ) ?_
   cases hp:p l[i]with
   |true=>simp(disch:=omega) [hp]
   |false=>
    simp(disch:=omega) [hp];refine .aF ?_;simp at hh⊢;exact hh
 refine .bt 60 JI ?_;simp;refine .inLoop ?_;have hh:=key l.length 0 (by omega);simp at hh⊢;exact hh
section
variable{φ:List Ob->Prop}{f:FuncId}{caps:List AV}{p:Bs->Bool}{l:List Bs}
abbrev od:Ob:=.row 1 aE [] none true false
def bD(p:Bs->Bool)(l:List Bs):List Bs:=l.filter fun x=>!p x
set_option maxRecDepth 8000 in
theorem agJ(ha:iu Tryz.prog Γ φ f caps AV.str p l)(hs:l.length<2^40){h:List Ob}{r:Nat}(hr:r<h.length)(hφ:∀l',φ (h.set r (gY l')++[od]))(up:List Fr):∀n j:Nat,j+n=l.length->∀A B X:List Bs,B≠[]->A=bD p (l.take j)->A.length+B.length=j->X=A++B++l.drop j->
 AM.Reach Tryz.prog Γ (yCr (.sl r 0 l.length) (.fn (.func f) [] caps) (.int .i64 A.length) (.int .i64 j) (h.set r (gY X)++[od]) ⟨[],.norm,h.length,up⟩)
  (.back up (.sl r 0 (bD p l).length) (h.set r (gY (bD p l++List.replicate (l.length-(bD p l).length) []))++[od])):=by
 have hlen:∀o,(h.set r o).length=h.length:=by simp
 have g1:∀(o:Ob)(os:List Ob),(h.set r o++os)[r]? =some o:=fun o os=>by rw[cV (by simp;omega)];simp[hr]
 have g2:∀(o o':Ob)(os:List Ob),(h.set r o++os).set r o'=h.set r o'++os:=fun o o' os=>by rw[kz _ _ (by simpa using hr)];simp
 intro n
 induction n with
 |zero=>
  intro j hj A B X hB hA hAB hX
  have q1:¬j<l.length:=by omega
  have q2:l.take j=l:=bR (by omega);rw[q2]at hA;rw[br (by omega),eS]at hX
  have x1:X.length=l.length:=by rw[hX,bQ];omega
  have x2:List.take A.length (List.map AV.str X)=List.map AV.str A:=by rw[hX,iT,vF (by simp)]
  have x3:List.drop l.length (List.map AV.str X)=[]:=br (by simp;omega);rw[<-hA];refine .aR 60 ?_;simp(disch:=omega) [q1,g1,g2,x1,x2,x3,gY]
 |succ n ih=>
  intro j hj A B X hB hA hAB hX
  have q1:j<l.length:=by omega
  have x1:X.length=l.length:=by rw[hX,bQ,bQ,Ds];omega
  have x4:j<X.length:=by omega
  have x2:X[j]=l[j]:=by
   subst hX;rw[Dw (by simp;omega)];simp[hAB]
  have h2:=ha.2 l[j] (bx q1)
  have x5:bD p (l.take (j+1))=A++(if p l[j]=true then[]else[l[j]]):=by
   rw[gG q1,bD,List.filter_append,hA]
   cases hp:p l[j]<;>simp[bD,hp]
  refine .aR 60 ?_;simp(disch:=omega) [q1,g1,g2,x1,x2,x4,ha.1];refine .aX 60 (fun up=>h2 up _ (hφ X)) ?_
  cases hp:p l[j]with
  |true=>
   have hh:=ih (j+1) (by omega) A (B++[l[j]]) X (by simp) (by rw[x5,if_pos hp,eS]) (by simp;omega) (by rw[hX,bL q1];simp);simp(disch:=omega) [hp];refine .aF ?_;simp at hh⊢;exact hh
  |false=>
   obtain⟨b,B',rfl⟩:∃b B',B=b::B':=by
    cases B with
    |nil=>exact absurd rfl hB
    |cons b B'=>exact⟨b,B',rfl⟩
   simp only[bW]at hAB
   have hh:=ih (j+1) (by omega) (A++[l[j]]) (B'++[l[j]]) (X.set A.length l[j]) (by simp) (by rw[x5,hp];rfl) (by simp;omega) (by
    rw[hX,bL q1,gf,vG _ _ (aT _)];simp)
   have x6:A.length<X.length:=by omega
   simp(disch:=omega) [hp,g1,g2,x6,x1];refine .aF ?_;simp[gY]at hh⊢;exact hh
theorem Kf(ha:iu Tryz.prog Γ φ f caps AV.str p l)(hs:l.length<2^40){h:List Ob}{r:Nat}(hr:h[r]? =some (gY l))(hφ:∀l',φ (h.set r (gY l')++[od]))(hw:cr h):∃es,
 ∀up,AM.Reach Tryz.prog Γ (.cl p4 [.sl r 0 l.length,.fn (.func f) [] caps] up h) (.back up (.sl r 0 (bD p l).length) (h.set r (gY (bD p l++es)))):=by
 have hrl:=aZ hr
 have hrr:(h++[od])[r]? =some (gY l):=by rw[cV hrl];exact hr
 have hφ0:φ (h++[od]):=by have:=hφ l;rwa[Fz hr]at this
 have hI:=XO (Γ:=Γ) ha (by omega) hrr hφ0
 have fin:∀es up,AM.Reach Tryz.prog Γ (.cl p4 [.sl r 0 l.length,.fn (.func f) [] caps] up h) (.back up (.sl r 0 (bD p l).length) (h.set r (gY (bD p l++es))++[od]))->
  AM.Reach Tryz.prog Γ (.cl p4 [.sl r 0 l.length,.fn (.func f) [] caps] up h) (.back up (.sl r 0 (bD p l).length) (h.set r (gY (bD p l++es)))):=by
  intro es up h1;have e1:(h.set r (gY (bD p l++es))++[od]).take h.length=h.set r (gY (bD p l++es)):=vF (by simp);have h2:=AM.Reach.leave h1 (by simpa using hrl) (by rw[e1];exact(hw.set (fun m hm=>by simp) r) _ (by simp));rwa[e1]at h2
 rcases Lr p l 0 with⟨h1,h2⟩|⟨k,h1,h2,h3⟩
 ·refine⟨[],fun up=>fin _ _ ?_⟩;refine .bt 60 JG ?_;simp;refine .aX 60 hI ?_;have e1:bD p l=l:=h2;rw[h1,e1];simp[Fz hr]
  done
 ·refine⟨List.replicate (l.length-(bD p l).length) [],fun up=>fin _ _ ?_⟩
  have hd:=agJ (Γ:=Γ) ha hs hrl hφ up (l.length-(k+1)) (k+1) (by omega) (l.take k) [l[k]] l (by simp) h3.symm (by simp;omega) (by
   rw[gf,q_,<-bL h1,lZ])
  have e2:(l.take k).length=k:=by simp;omega
  rw[e2,Fz hr]at hd;refine .bt 60 JG ?_;simp;refine .aX 60 hI ?_;rw[h2]
  have q3:¬(k:Int)=-1:=by omega
  simp(disch:=omega) [q3];refine .inLoop ?_;simp at hd⊢;exact hd
end
abbrev BR(x:Nat×List Fm):AV:=.list false x.1 (x.2.map bd)
def cL:List (Nat×List Fm)->List Fm
 |[]=>[]
 |x::xs=>x.2++cL xs
theorem KD(a b:List (Nat×List Fm)):cL (a++b)=cL a++cL b:=by
 induction a with
 |nil=>rfl
 |cons x a ih=>simp[cL,ih]
theorem LY(xs:List (Nat×List Fm))(i:Nat)(h:i<xs.length):cL (xs.take (i+1))=cL (xs.take i)++xs[i].2:=by
 rw[gG h,KD];simp[cL]
theorem N5(xs:List (Nat×List Fm))(i:Nat):(cL (xs.take i)).length<=(cL xs).length:=by
 conv=>rhs;rw[<-lZ i xs,KD]
 simp
set_option maxRecDepth 8000 in
theorem T8(xs:List (Nat×List Fm))(hk:∀x∈xs,Kd 3 x.1 x.2)(hn:xs.length<2^40)(hs:(cL xs).length<2^40)(hp:0<(cL xs).length):
 aM Tryz.prog Γ sZ [.list false 1 (xs.map BR)] (.own 3 aU ((cL xs).map bd)):=by
 refine .run 60 T7 (by simp) ?_
 have key2:∀n i:Nat,i+n=xs.length->∀m:Nat,(cL (xs.take i)).length+m=(cL xs).length->
  aw Tryz.prog Γ (yCR (.sl 2 0 (cL (xs.take i)).length) (.list false 1 (xs.map BR)) (.int .i64 xs.length) (.int .i64 i) [.row 3 aU [] none true false,.row 3 aU [] none true false,.row 3 aU ((cL (xs.take i)).map bd++List.replicate m (AV.agg [AV.int .i64 0,AV.int .i64 0,AV.int .i64 0])) none true false])
   (.ret (.own 3 aU ((cL xs).map bd))):=by
  intro n
  induction n with
  |zero=>
   intro i hi m hm
   have q1:¬i<xs.length:=by omega
   have q2:xs.take i=xs:=bR (by omega);rw[q2]at hm⊢
   have hm0:m=0:=by omega
   subst hm0;refine .go 60 ?_;simp[q1];exact .back (by simp)
  |succ n ih=>
   intro i hi m hm
   have q1:i<xs.length:=by omega
   have q2:=LY xs i q1;have q3:=N5 xs (i+1);rw[q2,bQ]at q3;have q4:=hk xs[i] (bx q1);have q5:xs[i].1=3\/xs[i].2=[]:=q4;have hh:=ih (i+1) (by omega) (m-xs[i].2.length) (by rw[q2,bQ];omega);rw[q2]at hh
   have hd:(List.replicate m (AV.agg [AV.int .i64 0,AV.int .i64 0,AV.int .i64 0])).drop xs[i].2.length=List.replicate (m-xs[i].2.length) (AV.agg [AV.int .i64 0,AV.int .i64 0,AV.int .i64 0]):=by simp
   refine .go 60 ?_
   by_cases q6:(cL (xs.take i)).length=(cL xs).length
   ·have q7:xs[i].2=[]:=ku.1 (by omega)
    have hm0:m=0:=by omega
    subst hm0;simp[q7]at hh;simp(disch:=(first|omega|(simp;omega))) [q1,q5,q7];refine .aF ?_;simp;exact hh
   ·simp(disch:=(first|omega|(simp;omega))) [q1,q5]
    by_cases q7:m=0
    ·omega
    ·have c1:¬(cL (List.take i xs)).length=(cL (List.take i xs)).length+m:=by omega
     have c2:(cL (List.take i xs)).length+xs[i].snd.length<=(cL (List.take i xs)).length+m:=by omega
     simp(disch:=(first|omega|(simp;omega))) [q1,q5,c1,c2,q7];refine .aF ?_;have mO:((cL (xs.take i)).map bd).drop ((cL (xs.take i)).length+xs[i].2.length)=[]:=br (by simp);simp[sP,hd,mO]at hh⊢;exact hh
 have key1:∀n i:Nat,i+n=xs.length->
  aw Tryz.prog Γ (yCT (.list false 1 (xs.map BR)) (.int .i64 (cL (xs.take i)).length) (.list false 1 (xs.map BR)) (.int .i64 xs.length) (.int .i64 i) [.row 3 aU [] none true false])
   (.ret (.own 3 aU ((cL xs).map bd))):=by
  intro n
  induction n with
  |zero=>
   intro i hi
   have q1:¬i<xs.length:=by omega
   have q2:xs.take i=xs:=bR (by omega);have q3:0<(cL xs).length:=hp;have hh:=key2 xs.length 0 (by omega) (cL xs).length (by simp[cL]);refine .go 60 ?_;rw[q2];simp[q1];refine .enter 60 Ua ?_
   have q4:¬(cL xs).length=0:=by omega
   have q5:cL xs≠[]:=fun e=>by rw[e]at hp;simp at hp
   obtain⟨m,hm⟩:∃m,(cL xs).length=m+1:=⟨(cL xs).length-1,by omega⟩
   have hrep:List.replicate (cL xs).length (AV.agg [AV.int .i64 0,AV.int .i64 0,AV.int .i64 0])=(AV.agg [AV.int .i64 0,AV.int .i64 0,AV.int .i64 0])::List.replicate m (AV.agg [AV.int .i64 0,AV.int .i64 0,AV.int .i64 0]):=by rw[hm];rfl
   simp(disch:=(first|omega|(simp;omega))) [q3,q4,q5,hrep];refine .inLoop ?_;simp[cL,hrep]at hh⊢;exact hh
  |succ n ih=>
   intro i hi
   have q1:i<xs.length:=by omega
   have q2:=LY xs i q1;have q3:=N5 xs (i+1);rw[q2,bQ]at q3;have hh:=ih (i+1) (by omega);rw[q2]at hh;refine .go 60 ?_
   have q4:¬((cL (xs.take i)).length:Int)+xs[i].2.length<0:=by omega
   simp(disch:=(first|omega|(simp;omega))) [q1,q4];refine .aF ?_;simp at hh⊢;exact hh
 simp;refine .inLoop ?_;have hh:=key1 xs.length 0 (by omega);simp[cL]at hh⊢;exact hh
def mD(s:Bs):Bool:=s.all fun c=>decide (c=45)
theorem aaZ(s:Bs):(Lib.trimS s [45]=[])↔mD s=true:=by
 have e:(fun c=>([45]:Bs).contains c)=fun c=>decide (c=45):=by funext c;simp[eq_comm]
 unfold Lib.trimS Lib.trimLeftS Lib.trimRightS mD;rw[e];constructor
 ·intro h
  have h1:=dropWhile_nil _ s.reverse fun x hx=>ru.1 h x (by simpa using hx)
  have h2:=ru.1 h1;rw[dw];intro x hx;exact h2 x (by simpa using hx)
 ·intro h
  have h1:s.reverse.dropWhile (fun c=>decide (c=45))=[]:=ru.2 fun x hx=>dw.1 h x (by simpa using hx)
  rw[h1];rfl
theorem aet(s:Bs)(hs:s.length<2^40):aM Tryz.prog Γ tm [.str s,.str [45]] (.str (Lib.trimS s [45])):=by
 refine aM.Qp (by simp) (fun _=>rfl) rfl fun N g h w us _ hV=>?_
 obtain⟨us,rfl,h1⟩:=Bx hV;obtain⟨us,rfl,h2⟩:=Bx h1;obtain rfl:=OB h2;refine(Any.strings_Trim_laid Tryz.OD (by kernel_rfl) ⟨s.toArray⟩ ⟨([45]:Bs).toArray⟩ w (by simp[ByteArray.size];omega) (by decide) (ascii_of_all (by decide))).mono ?_
 rintro e' w' ⟨rfl,hB⟩
 exact⟨⟨_,rfl,fun _ _=>by simp[V]⟩,hB⟩
theorem afo(l:List Bs)(hs:∀s∈l,s.length<2^40):iu Tryz.prog Γ (fun _=>True) zO [] AV.str mD l:=by
 refine⟨by simp,fun s hm up h _=>?_⟩;have hT:=aet (Γ:=Γ) s (hs s hm)
 have h2:decide (Lib.trimS s [45]=[])=mD s:=by rw[fJ,T0];exact aaZ s
 refine .bt 60 VF ?_;simp;refine .jD 60 (by simp) hT ?_;simp[h2]
theorem agm(x:Li)(i j:Nat)(l:List Bs)(hl:∀s∈l,s.length<2^40):iu Tryz.prog Γ (fun h=>h[j]? =some (.cells [.fn (.func oJ) [] [.ptr i 0]])/\h[i]? =some (.cells (dK x).cells)/\cr h) vW [.ptr j 0] AV.str (fun s=>!cK x s) l:=by
 refine⟨by simp,fun s hs up h hφ=>?_⟩;have ha:=(GL (Γ:=Γ) x i l hl).2 s hs;refine .bt 60 VO ?_;simp[hφ.1];refine .aX 60 (fun up=>ha up h hφ.2) ?_;simp
def dk(rows:List Bs)(s:Bs):List Li:=(bo s 0).filter fun x=>decide (dI x rows=rows.length)
def ID(rows:List Bs):List Fm:=⟨4,0,rows.length⟩::rows.flatMap fun s=>ei (bo s 0) []
def eU:Nat->List Bs->List Fm
 |0,_=>[]
 |_+1,[]=>[⟨0,0,0⟩]
 |f+1,s::r=>
  if bu mD (s::r)=true then[⟨1,0,0⟩]
  else if dk (s::r) s≠[]then ei (dk (s::r) s) (eU f (dp (dk (s::r) s) (s::r)))
  else if(cQ (s::r) s.length).2<2 then ID (s::r)
  else⟨4,0,2⟩::ei [(cQ (s::r) s.length).1] (eU f (dp [(cQ (s::r) s.length).1] (bD (fun t=>!cK (cQ (s::r) s.length).1 t) (s::r))))++eU f (bD (cK (cQ (s::r) s.length).1) (s::r))
end Go.Proofs.YtihmomicdpkabaaGreatDoor
namespace Go.Proofs.YtihmomicdpkabaaGreatDoor
open Go.AM Go.Proofs
theorem jY{x:Li}:∀{s:Bs}{i:Nat},x∈bo s i↔i<=x.1/\s[x.1-i]? =some x.2/\x.2≠45
 |[],i=>by simp[bo]
 |c::s,i=>by
  have ih:=jY (x:=x) (s:=s) (i:=i+1)
  have e:i+1<=x.1->(c::s)[x.1-i]? =s[x.1-(i+1)]? :=fun h=>by rw[show x.1-i=(x.1-(i+1))+1 by omega];rfl
  rw[bo]
  by_cases h:c=45
  ·rw[if_pos h,ih];constructor
   ·rintro⟨h1,h2,h3⟩;exact⟨by omega,by rw[e h1];exact h2,h3⟩
   ·rintro⟨h1,h2,h3⟩
    have h4:i+1<=x.1:=by
     refine vA fun hn=>h3 ?_
     rw[show x.1-i=0 by omega]at h2;simp only[pU,ak]at h2;rw[<-h2,h]
    exact⟨h4,by rw[<-e h4];exact h2,h3⟩
  ·rw[if_neg h,bw,ih];constructor
   ·rintro(h1|⟨h1,h2,h3⟩)
    ·subst h1;exact⟨aT _,by simp,h⟩
    ·exact⟨by omega,by rw[e h1];exact h2,h3⟩
   ·rintro⟨h1,h2,h3⟩
    by_cases h4:x.1=i
    ·left;rw[show x.1-i=0 by omega]at h2;simp only[pU,ak]at h2;exact Prod.ext h4 h2.symm
    ·right;exact⟨by omega,by rw[<-e (by omega)];exact h2,h3⟩
theorem EA:∀(s:Bs)(i:Nat),(bo s i).Pairwise (fun a b=>a.1≠b.1)
 |[],i=>.nil
 |c::s,i=>by
  rw[bo]
  split
  ·exact EA s (i+1)
  ·refine List.pairwise_cons.2 ⟨fun y hy=>?_,EA s (i+1)⟩;have:=(jY.1 hy).1
   simp only;omega
theorem Mh{x:Li}:∀{s:Bs}{i:Nat},x∈bo s i->(bo (s.set (x.1-i) 45) i).length+1=(bo s i).length
 |[],i,h=>by simp[bo]at h
 |c::s,i,h=>by
  have hm:=jY.1 h
  by_cases h4:x.1=i
  ·have h2:=hm.2.1;rw[show x.1-i=0 by omega]at h2⊢;simp only[pU,ak]at h2
   have h5:¬c=45:=fun hc=>hm.2.2 (by rw[<-h2,hc])
   rw[vn,bo,bo,if_pos rfl,if_neg h5,bW]
  ·have h5:x∈bo s (i+1):=jY.2 ⟨by omega,by have:=hm.2.1;rw[show x.1-i=(x.1-(i+1))+1 by omega]at this;exact this,hm.2.2⟩;have ih:=Mh h5;rw[show x.1-i=(x.1-(i+1))+1 by omega,pO,bo,bo]
   split
   ·exact ih
   ·simp only[bW];omega
theorem A':∀(s:Bs)(i:Nat),(bo s i).length<=s.length
 |[],i=>aT _
 |c::s,i=>by rw[bo];have:=A' s (i+1);split<;>simp only[bW]<;>omega
theorem Lp:∀(l:List Li)(s:Bs),l.Pairwise (fun a b=>a.1≠b.1)->(∀x∈l,x∈bo s 0)->(bo (fy l s) 0).length+l.length=(bo s 0).length
 |[],s,_,_=>rfl
 |x::l,s,hp,hm=>by
  rw[List.pairwise_cons]at hp;have h1:=Mh (hm x (by simp))
  have h2:=Lp l (s.set x.1 45) hp.2 fun y hy=>by
   have h3:=jY.1 (hm y (by simp[hy]));exact jY.2 ⟨by omega,by rw[dB (by have:=hp.1 y hy;omega)];exact h3.2.1,h3.2.2⟩
  simp only[bW];rw[Du]at h1;have:fy (x::l) s=fy l (s.set x.1 45):=rfl
  rw[this];omega
def cg:List Bs->Nat
 |[]=>0
 |s::r=>(bo s 0).length+cg r
theorem EO(l:List Li)(hp:l.Pairwise (fun a b=>a.1≠b.1)):∀rows:List Bs,(∀s∈rows,∀x∈l,x∈bo s 0)->cg (dp l rows)+rows.length*l.length=cg rows
 |[],_=>by simp[dp,cg]
 |s::r,h=>by
  have h1:=EO l hp r fun t ht=>h t (by simp[ht])
  have h2:=Lp l s hp (h s (by simp));simp only[dp,cd,cg,bW]at h1⊢
  rw[DC];omega
theorem KS(p:Bs->Bool):∀rows:List Bs,cg (bD p rows)+cg (bD (fun t=>!p t) rows)=cg rows
 |[]=>rfl
 |s::r=>by
  have ih:=KS p r
  cases h:p s<;>simp[bD,h,cg]at ih⊢<;>omega
theorem Ae(x:Li):∀rows:List Bs,(bD (fun t=>!cK x t) rows).length=dI x rows
 |[]=>rfl
 |s::r=>by
  have ih:=Ae x r
  cases h:cK x s<;>simp[bD,h,dI]at ih⊢<;>omega
theorem K1{x:Li}:∀{rows:List Bs},dI x rows=rows.length↔∀s∈rows,x∈bo s 0
 |[]=>by simp[dI]
 |s::r=>by
  have ih:=K1 (x:=x) (rows:=r);have hle:=LU x r;rw[dI,bW]
  by_cases h:cK x s=true
  ·rw[if_pos h]
   have h':x∈bo s 0:=by simpa[cK]using h
   simp only[bw,JB];rw[<-ih];exact⟨fun h1=>⟨h',by omega⟩,fun h1=>by omega⟩
  ·rw[if_neg h]
   have h':¬x∈bo s 0:=by simpa[cK]using h
   exact⟨fun h1=>by omega,fun h1=>absurd (h1 s (by simp)) h'⟩
theorem rQ{x:Li}{rows:List Bs}{s:Bs}(h:s∈bD (fun t=>!cK x t) rows):s∈rows/\x∈bo s 0:=by
 simp only[bD,dT,Bool.not_not]at h;exact⟨h.1,by simpa[cK]using h.2⟩
theorem Nn(rows:List Bs){b:Li×Nat}(hb:0<b.2->b.2=dI b.1 rows)(x:Li):0<(lG rows b x).2->(lG rows b x).2=dI (lG rows b x).1 rows:=by
 unfold lG
 split
 ·intro _;rfl
 ·exact hb
theorem M_(rows:List Bs):∀(n i:Nat)(b:Li×Nat),(0<b.2->b.2=dI b.1 rows)->0<(nu rows n i b).2->(nu rows n i b).2=dI (nu rows n i b).1 rows
 |0,_,b,hb=>hb
 |n+1,i,b,hb=>M_ rows n (i+1) _ (Nn rows (Nn rows hb _) _)
theorem Fh(rows:List Bs)(n:Nat):0<(cQ rows n).2->(cQ rows n).2=dI (cQ rows n).1 rows:=M_ rows n 0 _ (by simp)
theorem Kv(rows:List Bs)(s:Bs):(dk rows s).Pairwise (fun a b=>a.1≠b.1):=(EA s 0).filter _
theorem Aj{rows:List Bs}{s:Bs}{x:Li}(h:x∈dk rows s):∀t∈rows,x∈bo t 0:=by
 simp only[dk,dT,bj]at h;exact K1.1 h.2
theorem Ff{s:Bs}:mD s=true↔bo s 0=[]:=by
 constructor
 ·intro h
  refine JD.2 fun x hx=>?_
  have:=jY.1 hx;rw[mD,dw]at h;have h2:=h x.2 (iA this.2.1);exact this.2.2 (by simpa using h2)
 ·intro h;rw[mD,dw];intro c hc;obtain⟨i,hi⟩:=List.getElem?_of_mem hc;refine ri (vA fun hn=>?_);have:(i,c)∈bo s 0:=jY.2 ⟨by omega,by simpa using hi,hn⟩;rw[h]at this
  cases this
theorem ZJ(r:List Fm):(jH r).length<=r.length:=by unfold jH;split<;>simp
theorem aa2(n:Nat):(px n).length<=1:=by unfold px;split<;>simp
theorem w7(l:List Li)(r:List Fm):(ei l r).length<=1+l.length+r.length:=by
 have h1:=ZJ r;have h2:=aa2 (l.length+min (jH r).length 1)
 simp only[ei,bQ,iB];omega
theorem OS:∀rows:List Bs,(rows.flatMap fun s=>ei (bo s 0) []).length<=rows.length+cg rows
 |[]=>by simp
 |s::r=>by
  have ih:=OS r;have h:=w7 (bo s 0) [];simp only[nK,bQ,bW,cg,du]at h ih⊢;omega
theorem L4:∀rows:List Bs,bu mD rows=false->rows.length<=cg rows
 |[],_=>by simp
 |s::r,h=>by
  rw[iW,jV]at h;have ih:=L4 r h.2
  have h1:0<(bo s 0).length:=by
   refine vA fun hn=>?_
   have:=Ff.2 (ku.1 (by omega:(bo s 0).length=0))
   rw[h.1]at this;cases this
  simp only[bW,cg];omega
theorem Eh{s:Bs}{r:List Bs}(h:dk (s::r) s≠[]):cg (dp (dk (s::r) s) (s::r))+(dk (s::r) s).length<=cg (s::r):=by
 have h1:=EO (dk (s::r) s) (Kv _ _) (s::r) fun t ht x hx=>Aj hx t ht
 have h2:(dk (s::r) s).length<=(s::r).length*(dk (s::r) s).length:=Nat.le_mul_of_pos_left _ (by simp);omega
theorem EL{s:Bs}{r:List Bs}(h:¬(cQ (s::r) s.length).2<2):
 cg (dp [(cQ (s::r) s.length).1] (bD (fun t=>!cK (cQ (s::r) s.length).1 t) (s::r)))+cg (bD (cK (cQ (s::r) s.length).1) (s::r))+2<=cg (s::r):=by
 have h0:=Fh (s::r) s.length (by omega);generalize(cQ (s::r) s.length).1=x at*
 have h1:=EO [x] (by simp) (bD (fun t=>!cK x t) (s::r)) fun t ht y hy=>by simp only[dG]at hy;subst hy;exact(rQ ht).2
 have h2:=KS (cK x) (s::r);have h3:=Ae x (s::r);simp only[bW,du,Nat.mul_one,iS]at h1;omega
theorem rD:∀(f:Nat)(rows:List Bs),(eU f rows).length<=3*cg rows+1
 |0,_=>by simp[eU]
 |_+1,[]=>by simp[eU]
 |f+1,s::r=>by
  rw[eU]
  split
  ·simp
  ·rename_i hfr
   split
   ·rename_i hc;have h1:=rD f (dp (dk (s::r) s) (s::r));have h2:=Eh hc;have h3:=w7 (dk (s::r) s) (eU f (dp (dk (s::r) s) (s::r)));have h4:0<(dk (s::r) s).length:=pV.2 hc;omega
   ·split
    ·have h1:=OS (s::r);have h2:=L4 (s::r) (by simpa using hfr)
     simp only[ID,bW]at h1 h2⊢;omega
    ·rename_i hm;have h0:=EL hm;have h1:=rD f (dp [(cQ (s::r) s.length).1] (bD (fun t=>!cK (cQ (s::r) s.length).1 t) (s::r)));have h2:=rD f (bD (cK (cQ (s::r) s.length).1) (s::r));have h3:=w7 [(cQ (s::r) s.length).1] (eU f (dp [(cQ (s::r) s.length).1] (bD (fun t=>!cK (cQ (s::r) s.length).1 t) (s::r))));simp only[bW,bQ,du]at h3⊢;omega
end Go.Proofs.YtihmomicdpkabaaGreatDoor
namespace Go.Proofs.YtihmomicdpkabaaGreatDoor
open Go.AM Go.Proofs
variable{Γ:Nat->Option AV}
abbrev uZ(n:Nat)(b:Bool)(st:LoopState)(c:List Li):List Ob:=[.row 2 lr [] none true false,.cells [.sl (n+5) 0 c.length],.row 2 lr [] none true false,.bA b,
 .loop st .none zy [U,U,.ptr (n+1) 0,U,.sl (n+2) 0 0,U,U,U,U,U,U,U,U] [7] (.ae R4) TK,.row 2 lr (c.map dK) none true false]
set_option maxRecDepth 8000 in
theorem afE(i:Nat)(s:Bs)(hs:s.length<2^40){h:List Ob}(hi:h[i]? =some (.cells [.str s]))(hw:cr h)(hwv:dY h)(up:List Fr)(hv:∀m,up.all (fX (h.length+5) m)=true):∀n j:Nat,j+n=s.length->∀c:List Li,c.length<=j->
 AM.Reach Tryz.prog Γ (IW (.cR (h.length+4)) (.ptr i 0) (.int .i64 s.length) (.int .i64 j) (h++uZ h.length true .ready c) ⟨[],.norm,h.length+5,up⟩)
  (.back up (.aB []) (h++uZ h.length true .ready (c++bo (s.drop j) j))):=by
 have hil:=aZ hi
 have hget:=fun os=>dL hi os
 have hwr:∀c:UInt8,IntKind.i64.wrap (c.toNat:Int)=c.toNat:=fun c=>wrap64 (by omega) (by have:=c.toNat_lt;omega)
 have hb6:=hw (h.length+6) (by omega);intro n
 induction n with
 |zero=>
  intro j hj c hc
  have q1:¬j<s.length:=by omega
  rw[br (by omega),bo];refine .aR 60 ?_;simp[q1]
 |succ n ih=>
  intro j hj c hc
  have q1:j<s.length:=by omega
  rw[bL q1,bo]
  by_cases a:s[j]=45
  ·have hh:=ih (j+1) (by omega) c (by omega);rw[if_pos a];refine .aR 60 ?_;simp(disch:=omega) [q1,a,hget];refine .aF ?_;simp at hh⊢;exact hh
  ·rw[if_neg a];have hh:=ih (j+1) (by omega) (c++[(j,s[j])]) (by simp;omega);refine .aR 60 ?_;simp(disch:=omega) [q1,a,j3,hwr,hget];refine .trans (.pop _) (.aR 60 ?_);simp(disch:=omega);refine .aF ?_;simp;refine .jz (h.length+6) (by simp;rfl) (by simp) (by simp;omega) (by simp[hb6]) ?_
   have hv5:=fun m=>hwv (h.length+5) m (by omega)
   refine .Bf (i:=h.length+5) (k:=2) (E:=lr) (es:=(c++[(j,s[j])]).map dK) (fl:=true) (sh:=false) (by simp) (by simp) (hv _) (by simp[hv5]) ?_;simp[uZ]at hh⊢;exact hh
set_option maxRecDepth 8000 in
theorem aav(i:Nat)(s:Bs)(hs:s.length<2^40){h:List Ob}(hi:h[i]? =some (.cells [.str s]))(hw:cr h)(hwv:dY h)(up:List Fr)(hv:∀m,up.all (fX (h.length+5) m)=true):
 AM.Reach Tryz.prog Γ (.cl zC [.fn (.func rq) [] [.ptr i 0]] up h) (.back up (.sl (h.length+5) 0 (bo s 0).length) (h++uZ h.length false .exhausted (bo s 0))):=by
 have hget:=fun os=>dL hi os
 refine .bt 60 Ui ?_;simp;refine .bt 60 T4 ?_;simp;refine .bt 60 DO ?_;simp[hget];refine .inLoop ?_;simp;refine .trans (.qm (i:=h.length+1) (j:=0) (k:=2) lr (by simp;rfl) rfl (by omega)) ?_
 have hh:=fun up hv=>afE (Γ:=Γ) i s hs hi hw hwv up hv s.length 0 (by omega) [] (by simp)
 simp[uZ]at hh⊢
 have hv':=fun m=>hv m
 simp at hv';refine .trans (hh _ (by simp;exact hv')) ?_;have e41:h.length+3+1=h.length+4:=rfl;refine .trans (.pop _) (.aR 60 ?_);simp[e41];refine .trans (.pop _) (.aR 60 ?_);simp
abbrev cx5:Cx:=⟨[.mark 5],.norm,0,[]⟩
set_option maxRecDepth 8000 in
theorem agZ(rows:List Bs)(hl:rows.length<=128)(hlen:∀t∈rows,t.length<=40){h8:List Ob}(h8l:h8.length=8)(h85:h8[5]? =some (.bA true))(hw:∀m,8<=m->cI m h8=true)(hwv:∀i m,8<=i->cJ i m h8=true):∀n i:Nat,i+n=rows.length->∀out:List Fm,out.length<=42*i+1->
 aw Tryz.prog Γ (ywt (.sl 8 0 out.length) (.list false 1 (rows.map .str)) (.int .i64 rows.length) (.int .i64 i) (h8++[.row 3 aU (out.map bd) none true false]) cx5)
  (.ret (.own 3 aU ((out++(rows.drop i).flatMap fun s=>ei (bo s 0) []).map bd))):=by
 have g0:∀os:List Ob,(h8++os)[8]? =os[0]? :=fun os=>by rw[<-h8l,abl]
 have g1:∀(os:List Ob)(k:Nat),8<=k->(h8++os)[k]? =os[k-8]? :=fun os k hk=>by rw[dF (by omega),h8l]
 have s0:∀(os:List Ob)(o:Ob),(h8++os).set 8 o=h8++os.set 0 o:=fun os o=>by rw[<-h8l,aci]
 have hw9:=hw 9 (by omega);have h85':h8[5]=.bA true:=(cW.1 h85).2
 have g15:∀os:List Ob,(h8++os)[15]? =os[7]? :=fun os=>g1 os 15 (by omega)
 have g5:∀os:List Ob,(h8++os)[5]? =some (.bA true):=fun os=>by rw[cV (by omega)];exact h85
 have s5:∀(os:List Ob)(o:Ob),(h8++os).set 5 o=h8.set 5 o++os:=fun os o=>kz _ _ (by omega)
 have g6:∀(os:List Ob)(o:Ob),(h8.set 5 o++os)[8]? =os[0]? :=fun os o=>by rw[dF (by simp;omega)];simp[h8l]
 have hv8:=fun m=>hwv 8 m (by omega)
 intro n
 induction n with
 |zero=>
  intro i hi out ho
  have q1:¬i<rows.length:=by omega
  rw[br (by omega),List.flatMap_nil,eS];refine .go 60 ?_;simp[q1,g0,h8l,g5,s5,h85'];refine .back ?_;simp[g6]
  done
 |succ n ih=>
  intro i hi out ho
  have q1:i<rows.length:=by omega
  have q3:=hlen _ (bx q1);have hcl:=A' rows[i] 0;have hal:=w7 (bo rows[i] 0) [];have hall:=GG (Γ:=Γ) (bo rows[i] 0) (.inl rfl:Kd 2 2 _) (by omega) (fun x hx=>by have:=jY.1 hx;have:=(cW.1 this.2.1).1;omega) [] (.inr rfl:Kd 3 0 _) (by simp);have hh:=ih (i+1) (by omega) (out++ei (bo rows[i] 0) []) (by simp only[bQ,du]at hal⊢;omega);rw[bL q1,nK,<-gf]
  have hcoll:=aav (Γ:=Γ) 9 rows[i] (by omega) (h:=h8++[.row 3 aU (out.map bd) none true false,.cells [.str rows[i]]]) (by rw[g1 _ _ (by omega)];rfl)
   (fun m hm=>by simp at hm;simp[hw m (by omega)]) (fun j m hj=>by simp at hj;simp[hwv j m (by omega)])
  refine .go 60 ?_;simp(disch:=omega) [q1];refine .aX 60 (Ew rows[i]) ?_;simp[h8l,uZ]at hcoll⊢;refine .reach (hcoll _ (by simp)) ?_;refine .go 60 ?_;simp;simp at hall;refine .call 60 (by simp[g15]) hall ?_
  have hb24:(out.length+(ei (bo rows[i] 0) []).length)*24<=140737488355328:=by simp only[du]at hal;omega
  simp[h8l,g0,s0,hb24];refine .aF ?_;simp;refine .drop (h':=h8++[.row 3 aU (List.map bd out++List.map bd (ei (bo rows[i] 0) [])) (if ei (bo rows[i] 0) []=[]then none else some 0) true false]) 9 (by rw[show(9:Nat)=h8.length+1 by omega,List.take_length_add_append];rfl) (by simp) (by simp) (by simp[hw9]) ?_;refine .mf (i:=8) (k:=3) (E:=aU) (es:=List.map bd out++List.map bd (ei (bo rows[i] 0) [])) (gr:=if ei (bo rows[i] 0) []=[]then none else some 0) (fl:=true) (sh:=false) (by simp[g0]) (by split<;>simp) (by simp) (by simp) (by simp[hv8]) ?_;rw[s0];have hwi:IntKind.i64.wrap ((i:Int)+1)=i+1:=wrap64 (by omega) (by omega);simp[hwi]at hh⊢;exact hh
abbrev Qd(v13:AV):List AV:=[U,.ptr 0 0,U,U,U,U,.ptr 7 0,U,U,U,U,.ptr 9 0,.fn (.func vW) [] [.ptr 9 0],v13]++List.replicate 87 U
abbrev uR(rows:List Bs)(s:Bs)(x:Li)(lo:List AV):List Ob:=[.cells [.list false 1 (rows.map .str)],.row 3 aU [] none true false,.cells [.sl 3 0 0],.row 2 lr [] none true false,.cells [.str s],.bA true,
 .loop .exhausted .none iC lo [31] (.ae Dg) CP,.cells (dK x).cells,.cells (dK x).cells,.cells [.fn (.func oJ) [] [.ptr 8 0]]]
def B5(x:Li)(q r:List Fm):List Fm:=⟨4,0,2⟩::ei [x] q++r
set_option maxRecDepth 8000 in
theorem afr(rows:List Bs)(h0:rows≠[])(hl:rows.length<=128)(hlen:∀t∈rows,t.length<2^40)(s:Bs)(x:Li)(hx:x.1<2^40)(lo:List AV)(hlo:∀m,10<=m->aK m lo=true)(q r:List Fm)(hq:q.length<2^30)(hr:r.length<2^30)
 (hfac:aM Tryz.prog Γ iC [.list false 1 ((bD (cK x) rows).map .str)] (.own 3 aU (r.map bd))):
 aw Tryz.prog Γ (.fr ⟨.run,iC,[It.code ((ah.aS [O,O,I,O,O,O] [2,4,4,5,7,7] Cu).seq ((ah.ae C3).seq ah.ret))],Qd (.sl 10 0 q.length),[.mark 5],.norm,0⟩ [] (uR rows s x lo++[.row 3 aU (q.map bd) none true false]))
  (.ret (.own 3 aU ((B5 x q r).map bd))):=by
 have hclone:=s7 (Γ:=Γ) rows (.inl rfl:Kd 1 1 rows) (by omega);have hall:=GG (Γ:=Γ) [x] (.inl rfl:Kd 2 2 _) (by simp) (fun y hy=>by simp only[dG]at hy;subst hy;exact hx) q (.inl rfl:Kd 3 3 _) (by omega);have hal:=w7 [x] q
 have hcl:(cL [(3,[⟨4,0,2⟩]),(3,ei [x] q),(3,r)]).length<2^40:=by
  simp only[cL,bQ,bW,du,eS]at hal⊢;omega
 have hcat:=T8 (Γ:=Γ) [(3,[⟨4,0,2⟩]),(3,ei [x] q),(3,r)] (by simp[Kd]) (by simp) hcl (by simp[cL]);refine .go 60 ?_;simp;refine .dr 60 ?_;simp;refine .call (by simp) hclone ?_
 have hwf:∀os,(∀m,10<=m->cI m os=true)->cr (uR rows s x lo++os):=fun os ho m hm=>by
  have hm':10<=m:=by simp at hm;omega
  simp[ho m hm',hlo m hm'];omega
 obtain⟨es,hdel⟩:=Kf (Γ:=Γ) (GL x 8 rows hlen) (by omega) (h:=uR rows s x lo++[.row 3 aU (q.map bd) none true false,gY rows]) (r:=11) rfl (fun l'=>⟨rfl,hwf [.row 3 aU (q.map bd) none true false,gY l',od] (fun m hm=>by simp)⟩) (hwf _ (fun m hm=>by simp));simp[gY]at hdel;simp;refine .reach (by simp) hdel ?_;simp;refine .call (by simp) hfac ?_;simp;refine .call 60 (by simp) hall ?_;simp;refine .call 60 (by simp) hcat ?_;simp;exact .back (by simp[cL,B5])
theorem Yl{P:Program}(n:Nat){f:FuncId}{args:List AV}{up:List Fr}{h:List Ob}{v:AV}{h':List Ob}{o:Out}(h1:∀up,AM.Reach P Γ (.cl f args up h) (.back up v h'))(h2:aw P Γ (AM.ld P Γ n (.back up v h')) o):aw P Γ (.cl f args up h) o:=.reach (h1 up) (.reach (.uN n _) h2)
theorem afP:ff (ny y8) y8.length []=[[0,1,2,3,4,5,6,7,8],[0,1,2,4,3,5,6,7,8],[0,1,2,4,5,3,6,7,8],[0,1,4,2,3,5,6,7,8],[0,1,4,2,5,3,6,7,8],[0,1,4,5,2,3,6,7,8],[0,2,1,3,4,5,6,7,8],[0,2,1,4,3,5,6,7,8],[0,2,1,4,5,3,6,7,8],[0,2,4,1,3,5,6,7,8],[0,2,4,1,5,3,6,7,8],[0,2,4,5,1,3,6,7,8],[0,4,1,2,3,5,6,7,8],[0,4,1,2,5,3,6,7,8],[0,4,1,5,2,3,6,7,8],[0,4,2,1,3,5,6,7,8],[0,4,2,1,5,3,6,7,8],[0,4,2,5,1,3,6,7,8],[0,4,5,1,2,3,6,7,8],[0,4,5,2,1,3,6,7,8],[2,0,1,3,4,5,6,7,8],[2,0,1,4,3,5,6,7,8],[2,0,1,4,5,3,6,7,8],[2,0,4,1,3,5,6,7,8],[2,0,4,1,5,3,6,7,8],[2,0,4,5,1,3,6,7,8],[2,4,0,1,3,5,6,7,8],[2,4,0,1,5,3,6,7,8],[2,4,0,5,1,3,6,7,8],[2,4,5,0,1,3,6,7,8],[4,0,1,2,3,5,6,7,8],[4,0,1,2,5,3,6,7,8],[4,0,1,5,2,3,6,7,8],[4,0,2,1,3,5,6,7,8],[4,0,2,1,5,3,6,7,8],[4,0,2,5,1,3,6,7,8],[4,0,5,1,2,3,6,7,8],[4,0,5,2,1,3,6,7,8],[4,2,0,1,3,5,6,7,8],[4,2,0,1,5,3,6,7,8],[4,2,0,5,1,3,6,7,8],[4,2,5,0,1,3,6,7,8],[4,5,0,1,2,3,6,7,8],[4,5,0,2,1,3,6,7,8],[4,5,2,0,1,3,6,7,8]]:=by rfl
set_option maxRecDepth 8000 in
set_option maxHeartbeats 4000000 in
theorem af3(rows:List Bs)(h0:rows≠[])(hl:rows.length<=128)(hlen:∀t∈rows,t.length<2^40)(s:Bs)(x:Li)(hx:x.1<2^40)(hxr:∀t∈rows,x.1<t.length)(lo:List AV)(hlo:∀m,10<=m->aK m lo=true)(q r:List Fm)(hq:q.length<2^30)(hr:r.length<2^30)
 (hfac0:aM Tryz.prog Γ iC [.list false 1 ((dp [x] (bD (fun t=>!cK x t) rows)).map .str)] (.own 3 aU (q.map bd)))
 (hfac:aM Tryz.prog Γ iC [.list false 1 ((bD (cK x) rows).map .str)] (.own 3 aU (r.map bd))):
 aw Tryz.prog Γ (.fr ⟨.run,iC,[It.code (.aS [I,I,O,I,O,O,O,O,O] [7,7,7,7,6,7,8,10,10] y8),It.code ((ah.aS [O,O,I,O,O,O] [2,4,4,5,7,7] Cu).seq ((ah.ae C3).seq ah.ret))],Qd U,[.mark 5],.norm,0⟩ [] (uR rows s x lo))
  (.ret (.own 3 aU ((B5 x q r).map bd))):=by
 have hend:=afr (Γ:=Γ) rows h0 hl hlen s x hx lo hlo q r hq hr hfac;have hclone:=s7 (Γ:=Γ) rows (.inl rfl:Kd 1 1 rows) (by omega)
 have hdiv:=M8 (Γ:=Γ) (bD (fun t=>!cK x t) rows) [x] (.inl rfl:Kd 1 1 _) (.inl rfl:Kd 2 2 _) (by have:(bD (fun t=>!cK x t) rows).length<=rows.length:=JE _ _;omega) (by simp) fun t ht=>by
  have h1:=(rQ ht).1;exact⟨hlen t h1,fun y hy=>by simp only[dG]at hy;subst hy;exact hxr t h1⟩
 simp at hdiv
 have hwf:∀os,(∀m,10<=m->cI m os=true)->cr (uR rows s x lo++os):=fun os ho m hm=>by
  have hm':10<=m:=by simp at hm;omega
  simp[ho m hm',hlo m hm'];omega
 obtain⟨es,hdel⟩:=Kf (Γ:=Γ) (agm x 8 9 rows hlen) (by omega) (h:=uR rows s x lo++[gY rows]) (r:=10) rfl (fun l'=>⟨rfl,rfl,hwf [gY l',od] (fun m hm=>by simp)⟩) (hwf _ (fun m hm=>by simp));simp[gY]at hdel;refine .Tt 60 ?_;rw[afP];intro l hm;simp only[bw,p1,pP]at hm
 rcases hm with rfl|rfl|rfl|rfl|rfl|rfl|rfl|rfl|rfl|rfl|rfl|rfl|rfl|rfl|rfl|rfl|rfl|rfl|rfl|rfl|rfl|rfl|rfl|rfl|rfl|rfl|rfl|rfl|rfl|rfl|rfl|rfl|rfl|rfl|rfl|rfl|rfl|rfl|rfl|rfl|rfl|rfl|rfl|rfl|rfl
 all_goals
  simp;refine .xM 60 (by simp) hclone ?_;simp;refine Yl 60 hdel ?_;simp;refine .xM 60 (by simp) hdiv ?_;simp;refine .xM 60 (by simp) hfac0 ?_;simp;refine .lU [79,80,81,82,83,84,85,86] ?_;simp[lS];refine .gc 10 [2] (by simp[hlo 10 (by omega)]) (by decide) ?_;simp[kP (hlo 10 (by omega))];refine .go 1 ?_;simp at hend⊢;exact hend
def nW(n:Nat)(rows:List Bs):Prop:=rows.length<=128/\(∀s∈rows,s.length=n)/\n<=40
theorem Fj{n:Nat}:∀{rows:List Bs},(∀s∈rows,s.length=n)->cg rows<=rows.length*n
 |[],_=>by simp[cg]
 |s::r,h=>by
  have h1:=A' s 0
  have h2:=Fj (rows:=r) fun t ht=>h t (by simp[ht])
  have h3:=h s (by simp)
  simp only[cg,bW,DC];omega
theorem nW.cost{n:Nat}{rows:List Bs}(h:nW n rows):cg rows<=5120:=by
 have h1:=Fj h.2.1;have h2:rows.length*n<=128*40:=Nat.mul_le_mul h.1 h.2.2;omega
abbrev GU:List AV:=[U,.ptr 0 0,.sl 1 0 0,U,.ptr 2 0]++List.replicate 96 U
abbrev B8(rows:List Bs)(s:Bs)(c:List Li)(gr:Option Nat):List Ob:=[.cells [.list false 1 (rows.map .str)],.row 3 aU [] none true false,.cells [.sl 3 0 c.length],.row 2 lr (c.map dK) gr true false,.cells [.str s],.bA true,
 .loop .ready .none iC GU [31] (.ae Dg) CP]
set_option maxRecDepth 8000 in
theorem abR(rows:List Bs)(hl:rows.length<2^40)(s:Bs)(hs:∀t∈rows,t.length<2^40)(hs1:s.length<2^40)(up:List Fr)(hv:∀m,up.all (fX 3 m)=true):∀n j:Nat,j+n=s.length->∀c:List Li,c.length<=j->
 AM.Reach Tryz.prog Γ (IW (.cR 6) (.ptr 4 0) (.int .i64 s.length) (.int .i64 j) (B8 rows s c none) ⟨[],.norm,7,up⟩)
  (.back up (.aB []) (B8 rows s (c++(bo (s.drop j) j).filter fun x=>decide (dI x rows=rows.length)) none)):=by
 have hwr:∀c:UInt8,IntKind.i64.wrap (c.toNat:Int)=c.toNat:=fun c=>wrap64 (by omega) (by have:=c.toNat_lt;omega)
 intro n
 induction n with
 |zero=>
  intro j hj c hc
  have q1:¬j<s.length:=by omega
  rw[br (by omega),bo];refine .aR 60 ?_;simp[q1]
 |succ n ih=>
  intro j hj c hc
  have q1:j<s.length:=by omega
  rw[bL q1,bo]
  by_cases a:s[j]=45
  ·have hh:=ih (j+1) (by omega) c (by omega);rw[if_pos a];refine .aR 60 ?_;simp(disch:=omega) [q1,a];refine .aF ?_;simp at hh⊢;exact hh
  ·rw[if_neg a];have hp:=Ge (Γ:=Γ) rows (j,s[j]) (.inl rfl) hl hs;refine .aR 60 ?_;simp(disch:=omega) [q1,a,j3,hwr];refine .nB 60 ?_;simp;refine .call (by simp) hp ?_
   by_cases h3:dI (j,s[j]) rows=rows.length
   ·have h3':((dI (j,s[j]) rows:Nat):Int)=rows.length:=by omega
    have hh:=ih (j+1) (by omega) (c++[(j,s[j])]) (by simp;omega);rw[List.filter_cons_of_pos (by simpa using h3)];simp(disch:=omega) [h3,h3'];refine .trans (.pop _) (.aR 60 ?_);simp(disch:=omega);refine .aF ?_;simp;refine .jz 7 rfl (by simp) (by simp) (by simp) ?_;refine .Bf (i:=3) rfl (by simp) (hv _) (by simp) ?_;simp[B8]at hh⊢;exact hh
   ·have h3':¬((dI (j,s[j]) rows:Nat):Int)=rows.length:=by omega
    have hh:=ih (j+1) (by omega) c (by omega);rw[List.filter_cons_of_neg (by simpa using h3)];simp(disch:=omega) [h3,h3'];refine .trans (.pop _) (.aR 60 ?_);simp(disch:=omega);refine .aF ?_;simp;refine .jz 7 rfl (by simp) (by simp) (by simp) ?_;simp at hh⊢;exact hh
set_option maxRecDepth 8000 in
theorem aaV(f n:Nat)(s:Bs)(r:List Bs)(hw:nW n (s::r))
 (ih:∀rows:List Bs,cg rows<cg (s::r)->nW n rows->∀k,Kd 1 k rows->aM Tryz.prog Γ iC [.list false k (rows.map .str)] (.own 3 aU ((eU f rows).map bd))):aM Tryz.prog Γ iC [.list false 1 ((s::r).map .str)] (.own 3 aU ((eU (f+1) (s::r)).map bd)):=by
 obtain⟨b1,b2,b3⟩:=hw
 have hlen:∀t∈s::r,t.length<2^40:=fun t ht=>by rw[b2 t ht];omega
 have hC:=fun(h:List Ob)=>vT (Γ:=Γ) (fl:=false) (k:=1) (afo (s::r) hlen) (.inl rfl) (by omega) (h:=h) trivial
 rw[eU];generalize hR:(if bu mD (s::r)=true then _ else _:List Fm)=R;refine .run 100 fe (by simp) ?_;simp
 have q1:¬(r.length:Int)+1=0:=by omega
 simp[q1];simp at hC
 by_cases hf:bu mD (s::r)=true
 ·rw[if_pos hf]at hR;subst hR
  first
   |(refine .aX 4 (hC _) ?_;simp[hf];refine .cB 60 aU (es:=[bd ⟨1,0,0⟩]) (by simp) (by simp) ?_)
   |(refine .aX 5 (hC _) ?_;simp[hf];refine .cB 60 aU (es:=[bd ⟨1,0,0⟩]) (by simp) (by simp) ?_)
   |(refine .aX 6 (hC _) ?_;simp[hf];refine .cB 60 aU (es:=[bd ⟨1,0,0⟩]) (by simp) (by simp) ?_)
   |(refine .aX 7 (hC _) ?_;simp[hf];refine .cB 60 aU (es:=[bd ⟨1,0,0⟩]) (by simp) (by simp) ?_)
   |(refine .aX 8 (hC _) ?_;simp[hf];refine .cB 60 aU (es:=[bd ⟨1,0,0⟩]) (by simp) (by simp) ?_)
   |(refine .aX 9 (hC _) ?_;simp[hf];refine .cB 60 aU (es:=[bd ⟨1,0,0⟩]) (by simp) (by simp) ?_)
   |(refine .aX 10 (hC _) ?_;simp[hf];refine .cB 60 aU (es:=[bd ⟨1,0,0⟩]) (by simp) (by simp) ?_)
   |(refine .aX 11 (hC _) ?_;simp[hf];refine .cB 60 aU (es:=[bd ⟨1,0,0⟩]) (by simp) (by simp) ?_)
  simp;exact .back (by simp)
 ·rw[if_neg hf]at hR;refine .aX 60 (hC _) ?_;simp[hf];refine .aX 60 (Ew s) ?_;simp;refine .enter 60 DO ?_;simp;refine .inLoop ?_;have hs1:=hlen s (by simp)
  have hcm:=fun up hv=>abR (Γ:=Γ) (s::r) (by omega) s hlen hs1 up hv s.length 0 (by omega) [] (by simp)
  simp[B8]at hcm;refine .reach (hcm _ (by simp)) ?_;have e1:List.filter (fun x=>decide (dI x (s::r)=r.length+1)) (bo s 0)=dk (s::r) s:=rfl;rw[e1]
  have hsub:∀x∈dk (s::r) s,∀t∈s::r,x.1<t.length:=fun x hx t ht=>by
   have:=jY.1 (Aj hx t ht);exact(cW.1 this.2.1).1
  have hclen:(dk (s::r) s).length<=40:=by
   have h1:(dk (s::r) s).length<=(bo s 0).length:=JE _ _;have h2:=A' s 0;have:=b2 s (by simp);omega
  refine .go 60 ?_
  by_cases hc:dk (s::r) s≠[]
  ·rw[if_pos hc]at hR;have hpos:0<(dk (s::r) s).length:=pV.2 hc;have hcost:=Eh hc;simp[hpos]
   have hdw:nW n (dp (dk (s::r) s) (s::r)):=⟨by simpa[dp]using b1,fun t ht=>by
    simp only[dp,cF]at ht;obtain⟨t0,h1,rfl⟩:=ht
    rw[qf];exact b2 _ h1,b3⟩
   have hdiv:=M8 (Γ:=Γ) (s::r) (dk (s::r) s) (.inl rfl:Kd 1 1 (s::r)) (.inl rfl:Kd 2 2 _) (by omega) (by omega) fun t ht=>⟨hlen t ht,fun x hx=>hsub x hx t ht⟩
   have hfac:=ih _ (by omega) hdw 1 (.inl rfl);have hfl:=rD f (dp (dk (s::r) s) (s::r));have hall:=GG (Γ:=Γ) (dk (s::r) s) (.inl rfl:Kd 2 2 _) (by omega) (fun x hx=>by have:=hsub x hx s (by simp);omega) (eU f (dp (dk (s::r) s) (s::r))) (.inl rfl:Kd 3 3 _) (by have:=hdw.cost;omega);generalize dk (s::r) s=c at*;subst hR;simp at hdiv;refine .dr 60 ?_;simp;refine .call (by simp) hdiv ?_;simp;refine .call (by simp) hfac ?_;simp;refine .call (by simp) hall ?_;simp;exact .back (by simp)
  ·rw[if_neg hc]at hR
   have hc0:dk (s::r) s=[]:=by simpa using hc
   have hmost:=aft (Γ:=Γ) (s::r) (.inl rfl:Kd 1 1 (s::r)) (by omega) hlen s.length s rfl rfl;simp at hmost;simp[hc0]
   by_cases hm:(cQ (s::r) s.length).2<2
   ·rw[if_pos hm]at hR
    have hm':(((cQ (s::r) s.length).2:Nat):Int)<2:=by omega
    subst hR
    first
     |(refine .call 14 (by simp) hmost ?_;simp[hm'];refine .cB 60 aU (es:=[bd ⟨4,0,(r.length:Int)+1⟩]) (by simp) (by simp) ?_)
     |(refine .call 15 (by simp) hmost ?_;simp[hm'];refine .cB 60 aU (es:=[bd ⟨4,0,(r.length:Int)+1⟩]) (by simp) (by simp) ?_)
     |(refine .call 16 (by simp) hmost ?_;simp[hm'];refine .cB 60 aU (es:=[bd ⟨4,0,(r.length:Int)+1⟩]) (by simp) (by simp) ?_)
     |(refine .call 17 (by simp) hmost ?_;simp[hm'];refine .cB 60 aU (es:=[bd ⟨4,0,(r.length:Int)+1⟩]) (by simp) (by simp) ?_)
     |(refine .call 18 (by simp) hmost ?_;simp[hm'];refine .cB 60 aU (es:=[bd ⟨4,0,(r.length:Int)+1⟩]) (by simp) (by simp) ?_)
     |(refine .call 19 (by simp) hmost ?_;simp[hm'];refine .cB 60 aU (es:=[bd ⟨4,0,(r.length:Int)+1⟩]) (by simp) (by simp) ?_)
     |(refine .call 20 (by simp) hmost ?_;simp[hm'];refine .cB 60 aU (es:=[bd ⟨4,0,(r.length:Int)+1⟩]) (by simp) (by simp) ?_)
     |(refine .call 21 (by simp) hmost ?_;simp[hm'];refine .cB 60 aU (es:=[bd ⟨4,0,(r.length:Int)+1⟩]) (by simp) (by simp) ?_)
     |(refine .call 22 (by simp) hmost ?_;simp[hm'];refine .cB 60 aU (es:=[bd ⟨4,0,(r.length:Int)+1⟩]) (by simp) (by simp) ?_)
     |(refine .call 23 (by simp) hmost ?_;simp[hm'];refine .cB 60 aU (es:=[bd ⟨4,0,(r.length:Int)+1⟩]) (by simp) (by simp) ?_)
     |(refine .call 24 (by simp) hmost ?_;simp[hm'];refine .cB 60 aU (es:=[bd ⟨4,0,(r.length:Int)+1⟩]) (by simp) (by simp) ?_)
     |(refine .call 25 (by simp) hmost ?_;simp[hm'];refine .cB 60 aU (es:=[bd ⟨4,0,(r.length:Int)+1⟩]) (by simp) (by simp) ?_)
    simp;refine .inLoop ?_
    have hor:=agZ (Γ:=Γ) (s::r) b1 (fun t ht=>by rw[b2 t ht];exact b3) (h8:=[.cells [.list false 1 ((s::r).map .str)],.row 3 aU [] none true false,.cells [.sl 3 0 0],.row 2 lr [] none true false,.cells [.str s],.bA true,
     .loop .exhausted .none iC GU [31] (.ae Dg) CP,.cells (dK (cQ (s::r) s.length).1).cells]) rfl rfl (fun m hm=>by simp;omega) (fun i m hi=>by simp;omega) (s::r).length 0 (by omega) [⟨4,0,(s::r).length⟩] (by simp)
    simp[ID]at hor⊢;exact hor
   ·rw[if_neg hm]at hR
    have hm':¬(((cQ (s::r) s.length).2:Nat):Int)<2:=by omega
    refine .call 60 (by simp) hmost ?_;simp[hm'];refine .aX 60 (Py _) ?_;simp
    have hxr:∀t∈s::r,(cQ (s::r) s.length).1.1<t.length:=fun t ht=>by
     have h0:=Fh (s::r) s.length (by omega);have h1:=Ae (cQ (s::r) s.length).1 (s::r);obtain⟨t0,h2⟩:=Dy (l:=bD (fun t=>!cK (cQ (s::r) s.length).1 t) (s::r)) (by omega);have h3:=rQ h2;have h4:=(cW.1 (jY.1 h3.2).2.1).1
     rw[b2 t ht,<-b2 t0 h3.1];omega
    have hcm2:=EL hm;have hfl0:=rD f (dp [(cQ (s::r) s.length).1] (bD (fun t=>!cK (cQ (s::r) s.length).1 t) (s::r)));have hfl1:=rD f (bD (cK (cQ (s::r) s.length).1) (s::r));have hcst:=nW.cost ⟨b1,b2,b3⟩
    have hw1:nW n (dp [(cQ (s::r) s.length).1] (bD (fun t=>!cK (cQ (s::r) s.length).1 t) (s::r))):=⟨by
     have:(bD (fun t=>!cK (cQ (s::r) s.length).1 t) (s::r)).length<=(s::r).length:=JE _ _
     simp only[dp,iB];omega,fun t ht=>by
     simp only[dp,cF]at ht;obtain⟨t0,h1,rfl⟩:=ht
     rw[qf];exact b2 _ (rQ h1).1,b3⟩
    have hw2:nW n (bD (cK (cQ (s::r) s.length).1) (s::r)):=⟨by
     have:(bD (cK (cQ (s::r) s.length).1) (s::r)).length<=(s::r).length:=JE _ _
     omega,fun t ht=>b2 t (dT.1 ht).1,b3⟩
    have htwo:=af3 (Γ:=Γ) (s::r) (by simp) b1 hlen s (cQ (s::r) s.length).1 (by have:=hxr s (by simp);omega) hxr GU (fun m hm=>by simp;omega) _ _ (by omega) (by omega) (ih _ (by omega) hw1 1 (.inl rfl)) (ih _ (by omega) hw2 1 (.inl rfl));subst hR;refine .lU [0,2,3,4,7,15,16,17,18,21,22,23,24,27,28,29,30,42,43,44,51,52,53,54,55,56,57,76,77,78] ?_;simp[lS];simp[B5]at htwo⊢;exact htwo
theorem Yo(l:List (List UInt8))(s:List UInt8){k:Nat}(hk:Kd 1 k l)(hl:l.length<2^40):aM Tryz.prog Γ zA [.list false k (l.map .str),.str s] (.bool (l.contains s)):=by
 refine .run 60 Ug (by simp) ?_;simp;refine .call 60 (by simp) (Ms l s hk hl) ?_;have e:=MH s l 0;simp[e];exact .back (by simp)
theorem Nh(n:Nat):∀(f:Nat)(rows:List Bs),cg rows<f->nW n rows->∀k,Kd 1 k rows->aM Tryz.prog Γ iC [.list false k (rows.map .str)] (.own 3 aU ((eU f rows).map bd))
 |0,rows,hc,_,_,_=>by omega
 |f+1,[],hc,hw,k,hk=>by
  first
   |(refine .run 12 fe (by simp) ?_;simp;refine .cB 60 aU (es:=[bd ⟨0,0,0⟩]) (by simp) (by simp) ?_)
   |(refine .run 13 fe (by simp) ?_;simp;refine .cB 60 aU (es:=[bd ⟨0,0,0⟩]) (by simp) (by simp) ?_)
   |(refine .run 14 fe (by simp) ?_;simp;refine .cB 60 aU (es:=[bd ⟨0,0,0⟩]) (by simp) (by simp) ?_)
   |(refine .run 15 fe (by simp) ?_;simp;refine .cB 60 aU (es:=[bd ⟨0,0,0⟩]) (by simp) (by simp) ?_)
   |(refine .run 16 fe (by simp) ?_;simp;refine .cB 60 aU (es:=[bd ⟨0,0,0⟩]) (by simp) (by simp) ?_)
   |(refine .run 17 fe (by simp) ?_;simp;refine .cB 60 aU (es:=[bd ⟨0,0,0⟩]) (by simp) (by simp) ?_)
   |(refine .run 18 fe (by simp) ?_;simp;refine .cB 60 aU (es:=[bd ⟨0,0,0⟩]) (by simp) (by simp) ?_)
   |(refine .run 19 fe (by simp) ?_;simp;refine .cB 60 aU (es:=[bd ⟨0,0,0⟩]) (by simp) (by simp) ?_)
   |(refine .run 20 fe (by simp) ?_;simp;refine .cB 60 aU (es:=[bd ⟨0,0,0⟩]) (by simp) (by simp) ?_)
   |(refine .run 21 fe (by simp) ?_;simp;refine .cB 60 aU (es:=[bd ⟨0,0,0⟩]) (by simp) (by simp) ?_)
   |(refine .run 22 fe (by simp) ?_;simp;refine .cB 60 aU (es:=[bd ⟨0,0,0⟩]) (by simp) (by simp) ?_)
   |(refine .run 23 fe (by simp) ?_;simp;refine .cB 60 aU (es:=[bd ⟨0,0,0⟩]) (by simp) (by simp) ?_)
   |(refine .run 24 fe (by simp) ?_;simp;refine .cB 60 aU (es:=[bd ⟨0,0,0⟩]) (by simp) (by simp) ?_)
   |(refine .run 25 fe (by simp) ?_;simp;refine .cB 60 aU (es:=[bd ⟨0,0,0⟩]) (by simp) (by simp) ?_)
   |(refine .run 26 fe (by simp) ?_;simp;refine .cB 60 aU (es:=[bd ⟨0,0,0⟩]) (by simp) (by simp) ?_)
   |(refine .run 27 fe (by simp) ?_;simp;refine .cB 60 aU (es:=[bd ⟨0,0,0⟩]) (by simp) (by simp) ?_)
   |(refine .run 28 fe (by simp) ?_;simp;refine .cB 60 aU (es:=[bd ⟨0,0,0⟩]) (by simp) (by simp) ?_)
   |(refine .run 29 fe (by simp) ?_;simp;refine .cB 60 aU (es:=[bd ⟨0,0,0⟩]) (by simp) (by simp) ?_)
   |(refine .run 30 fe (by simp) ?_;simp;refine .cB 60 aU (es:=[bd ⟨0,0,0⟩]) (by simp) (by simp) ?_)
   |(refine .run 31 fe (by simp) ?_;simp;refine .cB 60 aU (es:=[bd ⟨0,0,0⟩]) (by simp) (by simp) ?_)
   |(refine .run 32 fe (by simp) ?_;simp;refine .cB 60 aU (es:=[bd ⟨0,0,0⟩]) (by simp) (by simp) ?_)
   |(refine .run 33 fe (by simp) ?_;simp;refine .cB 60 aU (es:=[bd ⟨0,0,0⟩]) (by simp) (by simp) ?_)
  simp;exact .back (by simp[eU])
 |f+1,s::r,hc,hw,k,hk=>by
  obtain rfl:k=1:=hk.of (i:=0) (by simp)
  exact aaV f n s r hw fun rows h1 h2 k hk=>Nh n f rows (by omega) h2 k hk
def eI:List Bs->List Bs->List Bs
 |a,[]=>a
 |a,s::r=>eI (if a.contains s=true then a else a++[s]) r
def qp(n:Int)(rows:List Bs):Bool:=decide (n<0)||(decide (8<n)||(decide (128<rows.length)||bu (fun s=>!nw n.toNat s) rows))
def kc(rows:List Bs)(n:Int):List Fm:=if qp n rows=true then[]else eU (cg (eI [] rows)+1) (eI [] rows)
def Qn(rows:List Bs)(n:Int):Int:=if qp n rows=true then 1 else 0
theorem wP{t:Bs}:∀(r a:List Bs),t∈eI a r↔t∈a\/t∈r
 |[],a=>by simp[eI]
 |s::r,a=>by
  rw[eI,wP r]
  by_cases h:a.contains s=true
  ·rw[if_pos h]
   have h':s∈a:=by simpa using h
   simp only[bw];constructor
   ·rintro(h1|h1)
    ·exact .inl h1
    ·exact .inr (.inr h1)
   ·rintro(h1|h1|h1)
    ·exact .inl h1
    ·subst h1;exact .inl h'
    ·exact .inr h1
  ·rw[if_neg h];simp only[bn,dG,bw,or_assoc,p1,false_or]
theorem aeG(l:List Bs)(n:Nat)(i:Nat)(hn:n<=8):iu Tryz.prog Γ (fun h=>h[i]? =some (.cells [.int .i64 n])) zQ [.ptr i 0] AV.str (fun s=>!nw n s) l:=by
 refine⟨by simp,fun s hm up h hφ=>?_⟩
 have h2:decide (Lib.trimS s [48,49,45]=[])=s.all lP:=by
  rw[fJ,T0];exact MT s
 refine .bt 60 VJ ?_;unfold nw
 by_cases h:s.length=n
 ·have h':(s.length:Int)=n:=by omega
  have hT:=Pg (Γ:=Γ) s (by omega);unfold ov at hT;simp[hφ,h,h'];refine .jD 60 (by simp) hT ?_;simp[h2]
 ·have h':¬(s.length:Int)=n:=by omega
  simp[hφ,h,h']
theorem abr(rows:List Bs)(n:Int){k:Nat}(hk:Kd 1 k rows):aM Tryz.prog Γ vX [.list false k (rows.map .str),.int .i64 n] (.aB [.own 3 aU ((kc rows n).map bd),.int .i64 (Qn rows n)]):=by
 have key:∀m i:Nat,i+m=rows.length->rows.length<=128->(∀t∈rows,t.length=n.toNat)->n.toNat<=40->∀a:List Bs,a.length<=i->eI a (rows.drop i)=eI [] rows->aw Tryz.prog Γ (yoJ (.sl 2 0 a.length) (.list false k (rows.map .str)) (.int .i64 rows.length) (.int .i64 i) [.cells [.int .i64 n],.row 3 aU [] none true false,.row 1 aE (a.map .str) none true false])
  (.ret (.aB [.own 3 aU ((eU (cg (eI [] rows)+1) (eI [] rows)).map bd),.int .i64 0])):=by
  intro m
  induction m with
  |zero=>
   intro i hi hl2 hs2 hn a ha hu
   have q1:¬i<rows.length:=by omega
   rw[br (by omega),eI]at hu
   have hw:nW n.toNat a:=⟨by omega,fun t ht=>by
    rw[hu]at ht
    exact hs2 t (by simpa using(wP rows []).1 ht),hn⟩
   have hf:=Nh (Γ:=Γ) n.toNat (cg a+1) a (by omega) hw 1 (.inl rfl);rw[<-hu];refine .go 60 ?_;simp[q1];refine .call 60 (by simp) hf ?_;simp;exact .back (by simp)
  |succ m ih=>
   intro i hi hl2 hs2 hn a ha hu
   have q1:i<rows.length:=by omega
   have q2:=bP (hk.of q1);have hc:=Yo (Γ:=Γ) a rows[i] (.inl rfl:Kd 1 1 a) (by omega);rw[bL q1,eI]at hu;refine .go 60 ?_;simp(disch:=omega) [q1,q2];refine .call 60 (by simp) hc ?_
   by_cases h:a.contains rows[i]=true
   ·rw[if_pos h]at hu;have hh:=ih (i+1) (by omega) hl2 hs2 hn a (by omega) hu
    have h':rows[i]∈a:=by simpa using h
    simp(disch:=omega) [h'];refine .aF ?_;simp[q2]at hh⊢;exact hh
   ·rw[if_neg h]at hu;have hh:=ih (i+1) (by omega) hl2 hs2 hn (a++[rows[i]]) (by simp;omega) hu
    have h':¬rows[i]∈a:=by simpa using h
    simp(disch:=omega) [h'];refine .aF ?_;simp;refine .drop 3 rfl (by simp) (by simp) (by simp) ?_;refine .reset (i:=2) rfl (by simp) (by simp) (by simp) ?_;simp[q2]at hh⊢;exact hh
 refine .run 100 Wi (by simp) ?_;unfold kc Qn qp
 by_cases h1:n<0
 ·simp[h1];exact .back (by simp)
 ·obtain⟨m,rfl⟩:=ky (show 0<=n by omega)
  by_cases h2:(8:Int)<m
  ·simp[h2];exact .back (by simp)
  ·by_cases h3:128<rows.length
   ·have h3':(128:Int)<rows.length:=by omega
    simp[h2,h3,h3'];exact .back (by simp)
   ·have h3':¬(128:Int)<rows.length:=by omega
    have hC:=fun(h:List Ob) hφ=>vT (Γ:=Γ) (fl:=false) (aeG rows m 0 (by omega)) hk (by omega) (h:=h) hφ
    simp[h2,h3,h3'];refine .aX 60 (hC _ rfl) ?_
    cases hb:bu (fun s=>!nw m s) rows with
    |true=>
     simp[hb];exact .back (by simp)
    |false=>
     have hh:=key rows.length 0 (by omega) (by omega) (fun t ht=>by
      have:=m9.1 hb t ht;simp only[TZ,nw,av,bj]at this
      simpa using this.2) (by simp;omega) [] (by simp) rfl
     simp[hb];refine .inLoop ?_;simp at hh⊢;exact hh
end Go.Proofs.YtihmomicdpkabaaGreatDoor
namespace Go.Proofs.YtihmomicdpkabaaGreatDoor
open Go.AM Go.Proofs
section
variable{n:Int}{val:Int->Bool}
def lW(n:Int)(val:Int->Bool)(l:List Fm)(v:Bool):Prop:=∀rest fuel,(l++rest).length<=fuel->eA n val fuel (l++rest)=some (v,rest)
theorem lW.pos{l:List Fm}{v:Bool}(h:lW n val l v):0<l.length:=by
 cases l with
 |nil=>
  have:=h [] 0 (by simp)
  cases this
 |cons _ _=>simp
theorem Gc{x:Li}(h:(x.1:Int)<n):lW n val [dV x] (val (dV x).lit):=by
 intro rest fuel hf
 cases fuel with
 |zero=>simp at hf
 |succ fuel=>
  have hok:eF n (dV x)=true:=by
   unfold eF dV
   by_cases hx:x.2=48
   ·simp[hx];omega
   ·simp[hx];omega
  have hk:(dV x).kind=2:=rfl;simp[eA,hok,hk]
theorem aeY:lW n val [⟨0,0,0⟩] false:=by
 intro rest fuel hf
 cases fuel with
 |zero=>simp at hf
 |succ fuel=>simp[eA,eF,fm]
theorem adx:lW n val [⟨1,0,0⟩] true:=by
 intro rest fuel hf
 cases fuel with
 |zero=>simp at hf
 |succ fuel=>simp[eA,eF,fm]
def nv(a:Bool):List (List Fm×Bool)->Bool->Bool
 |[],v=>v
 |k::ks,v=>nv a ks (if a then k.2&&v else k.2||v)
theorem EN:∀(ks:List (List Fm×Bool))(v:Bool),nv true ks v=(v&&ks.all (·.2))
 |[],v=>by simp[nv]
 |k::ks,v=>by
  show nv true ks (k.2&&v)=_
  rw[EN ks,pR,Bool.and_comm k.2 v,nL]
theorem FG:∀(ks:List (List Fm×Bool))(v:Bool),nv false ks v=(v||ks.any (·.2))
 |[],v=>by simp[nv]
 |k::ks,v=>by
  show nv false ks (k.2||v)=_
  rw[FG ks,List.any_cons,Bool.or_comm k.2 v,Bool.or_assoc]
theorem Mt(a:Bool)(fuel:Nat):∀(ks:List (List Fm×Bool))(v:Bool)(rest:List Fm),(∀k∈ks,lW n val k.1 k.2)->(ks.flatMap (·.1)++rest).length<=fuel->fm (eA n val fuel) a ks.length v (ks.flatMap (·.1)++rest)=some (nv a ks v,rest)
 |[],v,rest,_,_=>by simp[fm,nv]
 |k::ks,v,rest,h,hf=>by
  simp only[nK,gf,bQ]at hf;have h1:=h k (by simp) (ks.flatMap (·.1)++rest) fuel (by simp only[bQ];omega);simp only[bW,fm,nK,gf,h1,nv];exact Mt a fuel ks _ rest (fun k' hk'=>h k' (by simp[hk'])) (by simp only[bQ];omega)
theorem Ba(kd:Int)(hkd:kd=3\/kd=4)(ks:List (List Fm×Bool))(h2:2<=ks.length)(h:∀k∈ks,lW n val k.1 k.2):lW n val (⟨kd,0,ks.length⟩::ks.flatMap (·.1)) (nv (decide (kd=3)) ks (decide (kd=3))):=by
 intro rest fuel hf
 cases fuel with
 |zero=>simp at hf
 |succ fuel=>
  have hok:eF n ⟨kd,0,ks.length⟩=true:=by
   unfold eF;rw[if_neg (by simp only;omega),if_pos hkd]
   simp;omega
  have h3:¬kd=2:=by omega
  have h4:¬kd=1:=by omega
  have hk:=Mt (n:=n) (val:=val) (decide (kd=3)) fuel ks (decide (kd=3)) rest h (by simp at hf⊢;omega);simp only[eR,eA,hok,cy,h3,db,gb,h4,mY,nI];exact hk
theorem aaM{r:List Fm}{v:Bool}(h:lW n val r v)(ht:rZ r=true):v=true:=by
 match r,ht with
 |[f],ht=>
  have hk:f.kind=1:=by simpa[rZ]using ht
  have h1:=h [] 1 (by simp);simp only[eS,eA]at h1
  split at h1
  ·rename_i hok
   have h0:f.kids=0:=by
    simp only[eF,hk]at hok;simp at hok;exact hok.2
   simp[hk,h0,fm]at h1;exact h1
  ·cases h1
theorem FZ(l:List Li)(hl:∀x∈l,(x.1:Int)<n)(h0:l≠[])(r:List Fm)(v:Bool)(hr:r=[]/\v=true\/lW n val r v):lW n val (ei l r) ((l.all fun x=>val (dV x).lit)&&v):=by
 have hlm:∀l:List Li,(l.map fun x=>([dV x],val (dV x).lit)).flatMap (·.1)=l.map dV:=fun l=>by
  induction l with
  |nil=>rfl
  |cons x l ih=>simp only[cd,nK,ih];rfl
 have hl1:0<l.length:=pV.2 h0
 have hrest:(jH r=[]/\v=true)\/(jH r=r/\0<r.length/\lW n val r v):=by
  rcases hr with⟨rfl,rfl⟩|hr
  ·left;exact⟨rfl,rfl⟩
  ·by_cases ht:rZ r=true
   ·left;exact⟨by rw[jH,if_pos ht],aaM hr ht⟩
   ·right;exact⟨by rw[jH,if_neg ht],hr.pos,hr⟩
 unfold ei
 rcases hrest with⟨e,rfl⟩|⟨e,hp,hr⟩
 ·rw[e,oz];simp only[du,Nat.zero_min,ic,eS]
  by_cases h1:1<l.length
  ·have hh:=Ba (n:=n) (val:=val) 3 (.inl rfl) (l.map fun x=>([dV x],val (dV x).lit)) (by simp;omega) fun k hk=>by
    obtain⟨x,h2,rfl⟩:=cF.1 hk;exact Gc (hl x h2)
   rw[hlm,show decide ((3:Int)=3)=true from rfl,EN]at hh;simp only[px,if_pos h1];simpa[zx]using hh
  ·obtain⟨x,rfl⟩:∃x,l=[x]:=by
    match l,hl1,h1 with
    |[x],_,_=>exact⟨x,rfl⟩
    |x::y::l,_,h1=>simp at h1
   have hh:=Gc (val:=val) (hl x (by simp));simpa[px]using hh
 ·rw[e]
  have hm:min r.length 1=1:=by omega
  rw[hm]
  have h1:1<l.length+1:=by omega
  have hh:=Ba (n:=n) (val:=val) 3 (.inl rfl) ((l.map fun x=>([dV x],val (dV x).lit))++[(r,v)]) (by simp;omega) fun k hk=>by
   simp only[bn,dG]at hk
   rcases hk with hk|rfl
   ·obtain⟨x,h2,rfl⟩:=cF.1 hk;exact Gc (hl x h2)
   ·exact hr
  rw[List.flatMap_append,hlm,show decide ((3:Int)=3)=true from rfl,EN]at hh;simp only[px,if_pos h1];simpa[zx]using hh
end
def eH(val:Int->Bool)(s:Bs):Bool:=(bo s 0).all fun x=>val (dV x).lit
theorem abF(val:Int->Bool):∀(l:List Li)(s:Bs),l.Pairwise (fun a b=>a.1≠b.1)->(∀x∈l,x∈bo s 0)->((l.all fun x=>val (dV x).lit)&&eH val (fy l s))=eH val s:=by
 intro l s hp hm
 have h1:∀y:Li,y∈bo (fy l s) 0↔y∈bo s 0/\∀x∈l,x.1≠y.1:=by
  clear hp hm
  induction l generalizing s with
  |nil=>intro y;simp[fy]
  |cons x l ih=>
   intro y;have e:fy (x::l) s=fy l (s.set x.1 45):=rfl;rw[e,ih];simp only[bw,JB,jY,Du];constructor
   ·rintro⟨⟨_,h2,h3⟩,h4⟩
    by_cases h5:x.1=y.1
    ·rw[h5]at h2
     by_cases h6:y.1<s.length
     ·rw[eu h6]at h2;exact absurd (Option.some.inj h2).symm h3
     ·rw[jS (by simp;omega)]at h2;cases h2
    ·rw[dB h5]at h2;exact⟨⟨by omega,h2,h3⟩,h5,h4⟩
   ·rintro⟨⟨_,h2,h3⟩,h5,h4⟩
    exact⟨⟨by omega,by rw[dB h5];exact h2,h3⟩,h4⟩
 rw[fJ];simp only[eH,av,dw,h1];constructor
 ·rintro⟨h2,h3⟩ y hy
  by_cases h4:∀x∈l,x.1≠y.1
  ·exact h3 y ⟨hy,h4⟩
  ·have h4:∃x,x∈l/\x.1=y.1:=by
    refine vA fun hn=>h4 fun x hx he=>hn ⟨x,hx,he⟩
   obtain⟨x,hx,he⟩:=h4;have h5:=jY.1 (hm x hx);have h6:=jY.1 hy;rw[he]at h5;have h7:x.2=y.2:=Option.some.inj (h5.2.1.symm.trans h6.2.1);have h8:x=y:=Prod.ext he h7
   rw[<-h8];exact h2 x hx
 ·intro h2;exact⟨fun x hx=>h2 x (hm x hx),fun y hy=>h2 y hy.1⟩
theorem Fx(val:Int->Bool)(l:List Li)(hp:l.Pairwise (fun a b=>a.1≠b.1)):∀rows:List Bs,(∀s∈rows,∀x∈l,x∈bo s 0)->((l.all fun x=>val (dV x).lit)&&bu (eH val) (dp l rows))=bu (eH val) rows
 |[],_=>by simp[dp]
 |s::r,h=>by
  have h1:=abF val l s hp (h s (by simp))
  have h2:=Fx val l hp r fun t ht=>h t (by simp[ht])
  have e:dp l (s::r)=fy l s::dp l r:=rfl;rw[e,iW,iW,<-h1,<-h2]
  cases(l.all fun x=>val (dV x).lit)<;>simp
theorem LX(val:Int->Bool)(p:Bs->Bool):∀rows:List Bs,(bu (eH val) (bD (fun t=>!p t) rows)||bu (eH val) (bD p rows))=bu (eH val) rows
 |[]=>rfl
 |s::r=>by
  have ih:=LX val p r;rw[iW,<-ih]
  cases h:p s
  ·have e1:bD (fun t=>!p t) (s::r)=bD (fun t=>!p t) r:=by simp[bD,h]
   have e2:bD p (s::r)=s::bD p r:=by simp[bD,h]
   rw[e1,e2,iW]
   cases eH val s<;>simp
  ·have e1:bD (fun t=>!p t) (s::r)=s::bD (fun t=>!p t) r:=by simp[bD,h]
   have e2:bD p (s::r)=bD p r:=by simp[bD,h]
   rw[e1,e2,iW]
   cases eH val s<;>simp
theorem aak(val:Int->Bool){rows:List Bs}(h:bu mD rows=true):bu (eH val) rows=true:=by
 obtain⟨s,h1,h2⟩:=AT.1 h;exact AT.2 ⟨s,h1,by rw[eH,Ff.1 h2];rfl⟩
theorem Ao(N:Nat)(val:Int->Bool):∀(f:Nat)(rows:List Bs),cg rows<f->(∀s∈rows,s.length=N)->lW N val (eU f rows) (bu (eH val) rows)
 |0,rows,h,_=>by omega
 |f+1,[],_,_=>by rw[eU];exact aeY
 |f+1,s::r,h,hN=>by
  rw[eU]
  have hlt:∀x:Li,∀t∈s::r,x∈bo t 0->(x.1:Int)<N:=fun x t ht hx=>by
   have h1:=(cW.1 (jY.1 hx).2.1).1;have:=hN t ht;omega
  split
  ·rename_i hfr;rw[aak val hfr];exact adx
  ·rename_i hfr
   split
   ·rename_i hc;have h1:=Eh hc;have h4:0<(dk (s::r) s).length:=pV.2 hc
    have hd:=Fx val (dk (s::r) s) (Kv _ _) (s::r) fun t ht x hx=>Aj hx t ht
    have ih:=Ao N val f (dp (dk (s::r) s) (s::r)) (by omega) fun t ht=>by
     simp only[dp,cF]at ht;obtain⟨t0,h5,rfl⟩:=ht
     rw[qf];exact hN _ h5
    rw[<-hd];exact FZ _ (fun x hx=>hlt x s (by simp) (Aj hx s (by simp))) hc _ _ (.inr ih)
   ·split
    ·have hno:∀t∈s::r,bo t 0≠[]:=fun t ht he=>by
      have h1:=m9.1 (by simpa using hfr) t ht
      rw[Ff.2 he]at h1;cases h1
     have hfm:∀rows:List Bs,(rows.map fun t=>(ei (bo t 0) [],eH val t)).flatMap (·.1)=rows.flatMap fun s=>ei (bo s 0) []:=fun rows=>by
      induction rows with
      |nil=>rfl
      |cons t r ih=>simp only[cd,nK,ih]
     have h2:2<=(s::r).length:=by
      rename_i hc0 hm
      have hc0:dk (s::r) s=[]:=by simpa using hc0
      cases r with
      |nil=>
       exfalso
       have:dk [s] s=bo s 0:=by
        unfold dk;rw[zr];intro x hx;simp[dI,cK,hx]
       rw[hc0]at this;exact hno s (by simp) this.symm
      |cons t r=>simp
     have hh:=Ba (n:=N) (val:=val) 4 (.inr rfl) ((s::r).map fun t=>(ei (bo t 0) [],eH val t)) (by simpa using h2) fun k hk=>by
      obtain⟨t,h5,rfl⟩:=cF.1 hk;have:=FZ (n:=N) (val:=val) (bo t 0) (fun x hx=>hlt x t h5 hx) (hno t h5) [] true (.inl ⟨rfl,rfl⟩);simpa[eH]using this
     rw[hfm]at hh
     have e:decide ((4:Int)=3)=false:=by decide
     rw[e,FG]at hh;simp only[iB,List.any_map]at hh
     have e2:(false||(s::r).any ((fun x=>x.2)∘fun t=>(ei (bo t 0) [],eH val t)))=bu (eH val) (s::r):=by rw[nI];rfl
     rw[e2]at hh;exact hh
    ·rename_i hm;have h0:=Fh (s::r) s.length (by omega);have h1:=EL hm;have h3:=Ae (cQ (s::r) s.length).1 (s::r);generalize(cQ (s::r) s.length).1=x at*;obtain⟨t0,h2⟩:=Dy (l:=bD (fun t=>!cK x t) (s::r)) (by omega);have hx0:=rQ h2
     have ih1:=Ao N val f (dp [x] (bD (fun t=>!cK x t) (s::r))) (by omega) fun t ht=>by
      simp only[dp,cF]at ht;obtain⟨t0,h5,rfl⟩:=ht
      rw[qf];exact hN _ (rQ h5).1
     have ih2:=Ao N val f (bD (cK x) (s::r)) (by omega) fun t ht=>hN _ (dT.1 ht).1
     have hd:=Fx val [x] (by simp) (bD (fun t=>!cK x t) (s::r)) fun t ht y hy=>by
      simp only[dG]at hy;subst hy;exact(rQ ht).2
     have hk:=LX val (cK x) (s::r);have ha:=FZ (n:=N) (val:=val) [x] (fun y hy=>by simp only[dG]at hy;subst hy;exact hlt y t0 hx0.1 hx0.2) (by simp) _ _ (.inr ih1);rw[hd]at ha;rw[<-hk];generalize bu (eH val) (bD (fun t=>!cK x t) (s::r))=va at*;generalize bu (eH val) (bD (cK x) (s::r))=vb at*;generalize ei [x] (eU f (dp [x] (bD (fun t=>!cK x t) (s::r))))=A at*;generalize eU f (bD (cK x) (s::r))=B at*
     have hh:=Ba (n:=N) (val:=val) 4 (.inr rfl) [(A,va),(B,vb)] (by simp) (by
      intro k hk;simp only[bw,p1,pP]at hk
      rcases hk with rfl|rfl
      ·exact ha
      ·exact ih2)
     have e:decide ((4:Int)=3)=false:=by decide
     rw[e,FG]at hh;simpa using hh
end Go.Proofs.YtihmomicdpkabaaGreatDoor
namespace Go.Proofs.YtihmomicdpkabaaGreatDoor
open Go.AM Go.Proofs
variable{Γ:Nat->Option AV}
theorem Kl:∀a b:List Bs,cg (a++b)=cg a+cg b
 |[],b=>by simp[cg]
 |s::a,b=>by rw[eR,cg,cg,Kl a b];omega
theorem KY:∀(r a:List Bs),cg (eI a r)<=cg a+cg r
 |[],a=>by simp[eI,cg]
 |s::r,a=>by
  rw[eI];have h:=KY r (if a.contains s=true then a else a++[s])
  have h2:cg (if a.contains s=true then a else a++[s])<=cg a+(bo s 0).length:=by
   split
   ·omega
   ·rw[Kl];simp[cg]
  rw[cg];omega
theorem Nk{rows:List Bs}{n:Int}(h:qp n rows=false):∃m:Nat,n=m/\m<=8/\rows.length<=128/\∀s∈rows,s.all lP=true/\s.length=m:=by
 simp only[qp,jV,jr]at h;obtain⟨h1,h2,h3,h4⟩:=h;obtain⟨m,rfl⟩:=ky (show 0<=n by omega);refine⟨m,rfl,by omega,by omega,fun s hs=>?_⟩;have:=m9.1 h4 s hs;simpa[nw]using this
theorem acN{rows:List Bs}{m:Nat}(hm:m<=8)(hl:rows.length<=128)(hs:∀s∈rows,s.length=m):cg (eI [] rows)<=1024:=by
 have h1:=KY rows [];have h2:=Fj hs;have h3:rows.length*m<=128*8:=Nat.mul_le_mul hl hm;have h0:cg []=0:=rfl;omega
theorem M6{rows:List Bs}{n:Int}(h:qp n rows=false)(val:Int->Bool):B1 n val (kc rows n)=some (bu (eH val) rows):=by
 obtain⟨m,rfl,h1,h2,h3⟩:=Nk h
 have hc:=acN h1 h2 fun s hs=>(h3 s hs).2
 have hl:=rD (cg (eI [] rows)+1) (eI [] rows)
 have hr:=Ao m val (cg (eI [] rows)+1) (eI [] rows) (by omega) fun s hs=>(h3 s (by simpa using(wP rows []).1 hs)).2
 have he:bu (eH val) (eI [] rows)=bu (eH val) rows:=by
  rw[fJ,AT,AT];constructor
  ·rintro⟨s,h4,h5⟩;exact⟨s,by simpa using(wP rows []).1 h4,h5⟩
  ·rintro⟨s,h4,h5⟩;exact⟨s,(wP rows []).2 (.inr h4),h5⟩
 have h4:=hr [] (eU (cg (eI [] rows)+1) (eI [] rows)).length (by simp);rw[eS,he]at h4
 have e0:kc rows m=eU (cg (eI [] rows)+1) (eI [] rows):=by unfold kc;rw[h];rfl
 rw[e0];unfold B1;rw[if_pos ⟨by omega,by omega,by omega⟩,h4]
def dP:List Bool->Nat
 |[]=>0
 |v::l=>(if v=true then 1 else 0)+dP l
theorem NV:∀l:List Bool,dP l<=l.length
 |[]=>aT _
 |v::l=>by rw[dP,bW];have:=NV l;split<;>omega
theorem DZ(l:List Bool){k:Nat}(hk:Kd 1 k l)(hl:l.length<2^40):aM Tryz.prog Γ ry [.list false k (l.map .bool)] (.int .i64 (dP l)):=by
 have key:∀n i:Nat,i+n=l.length->∀a:Nat,a+n<2^41->aw Tryz.prog Γ (yGp (.int .i64 a) (.list false k (l.map .bool)) (.int .i64 l.length) (.int .i64 i) []) (.ret (.int .i64 (a+dP (l.drop i):Nat))):=by
  intro n
  induction n with
  |zero=>
   intro i hi a ha
   have q1:¬i<l.length:=by omega
   rw[br (by omega),dP];refine .go 60 ?_;simp[q1];exact .back (by simp)
  |succ n ih=>
   intro i hi a ha
   have q1:i<l.length:=by omega
   have q2:=bP (hk.of q1);rw[bL q1,dP];refine .go 60 ?_
   cases h3:l[i]with
   |true=>
    have hh:=ih (i+1) (by omega) (a+1) (by omega);simp(disch:=omega) [q1,q2,h3];refine .aF ?_;simp[q2,<-Int.add_assoc]at hh⊢;exact hh
   |false=>
    have hh:=ih (i+1) (by omega) a (by omega);simp(disch:=omega) [q1,q2,h3];refine .aF ?_;simp[q2]at hh⊢;exact hh
 refine .run 60 W4 (by simp) ?_;simp;refine .inLoop ?_;have hh:=key l.length 0 (by omega) 0 (by omega);simp at hh⊢;exact hh
def mo:Bs->List Bool->Bool
 |c::s,v::l=>(decide (c=45)||decide (decide (c=49)=v))&&mo s l
 |_,_=>true
theorem afB(s:Bs)(l:List Bool){k:Nat}(hk:Kd 1 k l)(hl:l.length=s.length)(hs:s.length<2^40):aM Tryz.prog Γ wk [.str s,.list false k (l.map .bool)] (.bool (mo s l)):=by
 have key:∀n i:Nat,i+n=l.length->aw Tryz.prog Γ (yEM (.str s) (.list false k (l.map .bool)) (.int .i64 l.length) (.int .i64 i) []) (.ret (.bool (mo (s.drop i) (l.drop i)))):=by
  intro n
  induction n with
  |zero=>
   intro i hi
   have q1:¬i<l.length:=by omega
   rw[br (by omega),br (by omega)];refine .go 60 ?_;simp[q1,mo];exact .back (by simp)
  |succ n ih=>
   intro i hi
   have q1:i<l.length:=by omega
   have q3:i<s.length:=by omega
   have q2:=bP (hk.of q1);have hh:=ih (i+1) (by omega);rw[bL q1,bL q3,mo];refine .go 60 ?_
   by_cases a:s[i]=45
   ·simp(disch:=omega) [q1,q2,q3,a];refine .aF ?_;simp[q2]at hh⊢;exact hh
   ·by_cases b:s[i]=49
    ·cases c:l[i]with
     |true=>
      simp(disch:=omega) [q1,q2,q3,b,c];refine .aF ?_;simp[q2]at hh⊢;exact hh
     |false=>
      simp(disch:=omega) [q1,q2,q3,b,c];exact .back (by simp)
    ·cases c:l[i]with
     |true=>
      simp(disch:=omega) [q1,q2,q3,a,b,c];exact .back (by simp[a,b])
     |false=>
      simp(disch:=omega) [q1,q2,q3,a,b,c];refine .aF ?_;simp[q2]at hh⊢;exact hh
 refine .run 60 XX (by simp) ?_;simp;refine .inLoop ?_;have hh:=key l.length 0 (by omega);simp at hh⊢;exact hh
def y9(op:Int)(l:List Bool):Bool:=if op=0\/op=1 then false else if op=2\/op=3\/op=4\/op=5 then decide (dP l=l.length)else if op=6\/op=7 then decide (0<dP l)else decide (dP l%2=1)
def sK(op:Int):Bool:=decide (op=1\/op=3\/op=5\/op=7\/op=9)
def Db(op:Int):AV:=if op=0\/op=1 then .fn (.func wv) [] []else if op=2\/op=3\/op=4\/op=5 then .fn (.func wh) [] []else if op=6\/op=7 then .fn (.func wo) [] []else if op=8\/op=9 then .fn (.func wq) [] []else .c9
theorem MI{op:Int}(h0:0<=op)(h1:op<=10):op=0\/op=1\/op=2\/op=3\/op=4\/op=5\/op=6\/op=7\/op=8\/op=9\/op=10:=by omega
set_option maxRecDepth 8000 in
theorem aaQ(op:Int)(h0:0<=op)(h1:op<=10):aM Tryz.prog Γ AF [.int .i64 op] (.agg [Db op,.bool (sK op)]):=by
 refine .run 200 abh (by simp) ?_
 rcases MI h0 h1 with rfl|rfl|rfl|rfl|rfl|rfl|rfl|rfl|rfl|rfl|rfl
 all_goals
  simp;exact .back (by simp[Db,sK])
theorem Pw(l:List Bool){k:Nat}(hk:Kd 1 k l):aM Tryz.prog Γ wv [.list false k (l.map .bool)] (.bool false):=by
 refine .run 60 XY (by simp) ?_;simp;exact .back (by simp)
theorem Bz(l:List Bool){k:Nat}(hk:Kd 1 k l)(hl:l.length<2^40):aM Tryz.prog Γ wh [.list false k (l.map .bool)] (.bool (decide (dP l=l.length))):=by
 have e:((dP l:Int)=l.length)=(dP l=l.length):=propext (by omega);refine .run 60 Ys (by simp) ?_;simp;refine .call 60 (by simp) (DZ l hk hl) ?_;simp[e];exact .back (by simp)
theorem Pv(l:List Bool){k:Nat}(hk:Kd 1 k l)(hl:l.length<2^40):aM Tryz.prog Γ wo [.list false k (l.map .bool)] (.bool (decide (0<dP l))):=by
 refine .run 60 XV (by simp) ?_;simp;refine .call 60 (by simp) (DZ l hk hl) ?_;simp;exact .back (by simp)
theorem Pb(l:List Bool){k:Nat}(hk:Kd 1 k l)(hl:l.length<2^40):aM Tryz.prog Γ wq [.list false k (l.map .bool)] (.bool (decide (dP l%2=1))):=by
 refine .run 60 XC (by simp) ?_;simp;refine .call 60 (by simp) (DZ l hk hl) ?_;have e2:((dP l:Int)%2=1)=(dP l%2=1):=propext (by omega);simp[e2];exact .back (by simp)
def BC(g:Gt)(ins:List Bool):Bool:=jB g&&decide (ins.length=g.ins.length)
def sd(g:Gt)(ins:List Bool):Bool:=if g.op=10 then !decide (bu (fun s=>mo s ins) g.rows=g.off)else !decide (y9 g.op ins=sK g.op)
def qF(g:Gt)(ins:List Bool):Bool:=BC g ins&&sd g ins
def PE(g:Gt)(ins:List Bool):Int:=if BC g ins=true then 0 else 1
theorem afH(g:Gt)(ins:List Bool){k:Nat}(hk:Kd 1 k ins)(i:Nat)(hl:∀s∈g.rows,ins.length=s.length/\s.length<2^40):iu Tryz.prog Γ (fun h=>h[i]? =some (.cells [.list false k (ins.map .bool)])) zT [.ptr i 0] AV.str (fun s=>mo s ins) g.rows:=by
 refine⟨by simp,fun s hs up h hφ=>?_⟩;have hf:=afB (Γ:=Γ) s ins hk (hl s hs).1 (hl s hs).2;refine .bt 60 VR ?_;simp[hφ];refine .jD 60 (by simp) hf ?_;simp
theorem adp(g:Gt)(hg:sk g)(ins:List Bool){k:Nat}(hk:Kd 1 k ins)(j:Nat)(hl:∀s∈g.rows,ins.length=s.length/\s.length<2^40){h:List Ob}(hj:h[j]? =some (.cells (AV.cells (cU g)))):∀up,AM.Reach Tryz.prog Γ (.cl zX [.list false k (ins.map .bool),.ptr j 0] up h) (.back up (.bool (bu (fun s=>mo s ins) g.rows)) (h++[.cells [.list false k (ins.map .bool)]])):=by
 intro up
 have hget:=fun os=>dL hj os
 have hC:=vT (Γ:=Γ) (fl:=false) (afH g ins hk h.length hl) g.hr (by have:=hg.2.2.1;omega) (h:=h++[.cells [.list false k (ins.map .bool)]]) (by simp);refine .bt 60 WR ?_;simp[hget];refine .aX 60 hC ?_;simp
set_option maxRecDepth 8000 in
theorem X2(hΓ:ek Γ)(g:Gt)(hg:sk g)(ins:List Bool){k:Nat}(hk:Kd 1 k ins)(hli:ins.length<2^40):aM Tryz.prog Γ Af [cU g,.list false k (ins.map .bool)] (.aB [.bool (qF g ins),.int .i64 (PE g ins)]):=by
 have kG:=O4 hΓ g hg;have e:((ins.length:Int)=g.ins.length)=(ins.length=g.ins.length):=propext (by omega);unfold qF PE BC;refine .run 200 XM (by simp) ?_;simp;refine .call 200 (by simp) kG ?_
 cases hb:jB g with
 |false=>
  simp;exact .back (by simp)
 |true=>
  by_cases hn:ins.length=g.ins.length
  ·have hop:0<=g.op/\g.op<=10:=by
    unfold jB mQ at hb
    by_cases h10:g.op=10
    ·omega
    ·rw[if_neg h10]at hb;simp only[av]at hb;have hb2:=hb.2
     split at hb2
     ·omega
     ·split at hb2
      ·omega
      ·split at hb2
       ·omega
       ·cases hb2
   have kO:=aaQ (Γ:=Γ) g.op hop.1 hop.2
   by_cases h10:g.op=10
   ·have hrow:∀s∈g.rows,ins.length=s.length/\s.length<2^40:=fun s hs=>by
     unfold jB at hb;rw[if_pos h10]at hb;simp only[av,ju]at hb;have:=m9.1 hb.2.2 s hs;simp only[TZ,nw,av,bj]at this;exact⟨by omega,hg.2.2.2.2 s hs⟩
    have hR:=fun(h:List Ob) hj=>adp (Γ:=Γ) g hg ins hk 0 hrow (h:=h) hj
    have e10:Db 10=.c9:=rfl;have e11:sK 10=false:=rfl;rw[h10,e10,e11]at kO;simp[hn,e,h10];refine .call 200 (by simp) kO ?_;simp[sd,h10];refine .dr 200 ?_;simp;refine .reach (by simp) (hR _ (by simp[h10])) ?_;simp;exact .back (by simp)
   ·obtain⟨f,e1,hbf,hpf⟩:∃f,Db g.op=.fn (.func f) [] []/\ar Tryz.prog f=true/\aM Tryz.prog Γ f [.list false k (ins.map .bool)] (.bool (y9 g.op ins)):=by
     rcases MI hop.1 hop.2 with c|c|c|c|c|c|c|c|c|c|c
     ·rw[c];exact⟨_,rfl,by simp,Pw ins hk⟩
     ·rw[c];exact⟨_,rfl,by simp,Pw ins hk⟩
     ·rw[c];exact⟨_,rfl,by simp,Bz ins hk hli⟩
     ·rw[c];exact⟨_,rfl,by simp,Bz ins hk hli⟩
     ·rw[c];exact⟨_,rfl,by simp,Bz ins hk hli⟩
     ·rw[c];exact⟨_,rfl,by simp,Bz ins hk hli⟩
     ·rw[c];exact⟨_,rfl,by simp,Pv ins hk hli⟩
     ·rw[c];exact⟨_,rfl,by simp,Pv ins hk hli⟩
     ·rw[c];exact⟨_,rfl,by simp,Pb ins hk hli⟩
     ·rw[c];exact⟨_,rfl,by simp,Pb ins hk hli⟩
     ·exact absurd c h10
    rw[e1]at kO;simp[hn,e,h10,sd];refine .call 200 (by simp) kO ?_;simp[h10,hbf];refine .dr 200 ?_;simp[hbf];refine .call (by simp) hpf ?_;simp;exact .back (by simp)
  ·simp[hn,e];exact .back (by simp)
def pB(n:Int):FuncId:=if n<=1 then vQ else if n<=5 then ta else if n<=7 then tc else td
abbrev II(f:FuncId)(t:Int):AV:=.agg [.fn (.func f) [] [],.int .i64 t]
def B4(n:Int):Option AV:=if 0<=n/\n<=9 then some (II (pB n) (n%2))else none
def uV(Γ:Nat->Option AV):Prop:=∃ks vs,Γ PZ=some (.dg ks vs)/\∀n:Int,ez (.sc .int) (.int .i64 n) (ks.zip vs)=some (B4 n)
def qI(n:Int)(x:Gr)(ins:List Nat):Gr×Option Nat:=if n<=1 then(x,some 0)else if n<=5 then jJ 0 x ins else if n<=7 then fV (·^^^1) (jJ 1 x ins)else xI x ins
def GF(x:Gr)(g:Gt)(ins:List Nat):Gr×Option (Nat×List Fm):=iJ ins (kc g.rows g.ins.length).length x (kc g.rows g.ins.length)
def nk(x:Gr)(g:Gt)(ins:List Nat):Gr×Option Nat:=
 if 0<=g.op/\g.op<=9 then fV (·^^^(g.op%2).toNat) (qI g.op x ins)else fV (fun p=>if g.off=true then p.1^^^1 else p.1) (GF x g ins)
theorem LF(n:Int){x:Gr}(ok:x.Ok){ins:List Nat}(hi:∀a∈ins,a<x.lits):jK x (qI n x ins):=by
 unfold qI
 split
 ·exact⟨.refl ok,fun d hd=>by cases hd;exact w9 x⟩
 ·split
  ·exact wI (by omega) ok hi
  ·split
   ·exact(wI (by omega) ok hi).Ca (by omega)
   ·exact Zm ok hi
theorem Le{x:Gr}(ok:x.Ok)(g:Gt){ins:List Nat}(hi:∀a∈ins,a<x.lits):jK x (nk x g ins):=by
 unfold nk
 split
 ·exact(LF _ ok hi).Ca (by omega)
 ·have h:=rI ins (kc g.rows g.ins.length).length x (kc g.rows g.ins.length) ok hi;refine⟨h.1,fun d hd=>?_⟩;simp only[fV,bY]at hd;obtain⟨p,hp,rfl⟩:=hd;have:=h.2 p hp
  split
  ·exact FV (n:=(GF x g ins).1.all) this
  ·exact this
theorem NW{g:Gt}(h:jB g=true):(0<=g.op/\g.op<=9/\mQ g.op g.ins.length=true)\/(g.op=10/\g.ins.length<=8/\qp g.ins.length g.rows=false):=by
 unfold jB at h
 by_cases h10:g.op=10
 ·rw[if_pos h10]at h;simp only[av,bj,ju]at h;refine .inr ⟨h10,h.1,?_⟩;unfold qp;simp only[jV,jr,gb];exact⟨by omega,by omega,by omega,h.2.2⟩
 ·rw[if_neg h10]at h;simp only[av]at h;have h2:=h.2;refine .inl ?_;unfold mQ at h2
  split at h2
  ·exact⟨by omega,by omega,h.2⟩
  ·split at h2
   ·exact⟨by omega,by omega,h.2⟩
   ·split at h2
    ·exact⟨by omega,by omega,h.2⟩
    ·cases h2
theorem Pq{op:Int}{n:Nat}(h:mQ op n=true)(h2:2<=op):n≠0:=by
 unfold mQ at h
 rintro rfl
 split at h
 ·simp at h
 ·rw[if_neg (by omega)]at h
  split at h
  ·simp at h
  ·cases h
theorem ag3(n:Int)(h0:0<=n)(h9:n<=9)(ins:List Nat)(hins:2<=n->ins≠[])(hl:ins.length<2^40){ki:Nat}(hki:Kd 1 ki ins){i:Nat}(x:Gr){h:List Ob}(hi:h[i]? =some (cE x))(hw:cr h)(ok:x.Ok)(hlt:∀a∈ins,a<x.lits)(up:List Fr):
 AM.Reach Tryz.prog Γ (.cl (pB n) [.ptr i 0,.list false ki (ins.map iN)] up h) (cO iN i up h (qI n x ins)):=by
 unfold pB qI
 split
 ·simp only[cO,xk hi];exact aeA up
 ·split
  ·exact Pj ins (hins (by omega)) hl hki x hi hw ok hlt up
  ·split
   ·exact Ph ins (hins (by omega)) hl hki x hi hw ok hlt up
   ·exact aeU ins (hins (by omega)) hl hki x hi hw ok hlt up
theorem aeb(n:Int):ar Tryz.prog (pB n)=true:=by
 unfold pB
 split
 ·simp
 ·split
  ·simp
  ·split<;>simp
set_option maxRecDepth 8000 in
theorem ac7(hΓ:uV Γ)(g:Gt)(hg:jB g=true)(hf:sk g)(ins:List Nat)(hil2:ins.length=g.ins.length){ki:Nat}(hki:Kd 1 ki ins){i:Nat}(x:Gr){h:List Ob}(hi:h[i]? =some (cE x))(hw:cr h)(hv:dY h)(ok:x.Ok)(hlt:∀a∈ins,a<x.lits)(up:List Fr):
 AM.Reach Tryz.prog Γ (.cl vP [.ptr i 0,cU g,.list false ki (ins.map iN)] up h) (cO iN i up h (nk x g ins)):=by
 obtain⟨ks,vs,hG,hF⟩:=hΓ;have hF:=hF g.op;simp only[PZ]at hG;have hil:=aZ hi;have hle:=na ok
 have hget:=fun os=>dL hi os
 have hset:∀(o:Ob)(os:List Ob),(h++os).set i o=h.set i o++os:=fun o os=>kz _ _ hil
 have hb1:=hf.2.1
 rcases NW hg with⟨h0,h9,ho⟩|⟨h10,h8,hwr⟩
 ·have hB:=ag3 (Γ:=Γ) g.op h0 h9 ins (fun h2=>by
   have:=Pq ho h2
   rintro rfl
   simp at hil2;omega) (by omega) hki x (h:=h++[.cells (AV.cells (cU g)),.cells [.fn (.func (pB g.op)) [] [],.int .i64 (g.op%2)]]) (hget _) (by
   intro m hm;simp at hm
   simp[hw m (by omega)]) ok hlt
  have hfi:=LF g.op ok hlt;have hbb:=aeb g.op
  have ht:(g.op%2).toNat<=1:=by omega
  refine rR [.cells (AV.cells (cU g)),.cells [.fn (.func (pB g.op)) [] [],.int .i64 (g.op%2)]] hw hil (by simp) ?_;unfold nk;rw[if_pos ⟨h0,h9⟩];unfold B4 at hF;rw[if_pos ⟨h0,h9⟩]at hF;refine .bt 60 JW ?_;simp[hG,hF,isKey,bU,cz];unfold fV;unfold cO at hB⊢;simp only[hset]at hB⊢
  cases h9:(qI g.op x ins).2 with
  |none=>
   simp only[h9,sO]at hB⊢;refine .PS ?_;simp;refine e_.die (.int .i64 0) hbb (fun its t' _=>.j8 60 hB ?_) ?_
   ·simp
   ·simp;exact .of (by simp)
  |some d=>
   have hd:=hfi.2 d h9;have hle2:=na hfi.1.ok;have hx:=PY (a:=d) (t:=(g.op%2).toNat) ht (by omega);rw[show(((g.op%2).toNat:Nat):Int)=g.op%2 by omega]at hx;simp only[h9,dv]at hB⊢;refine .nB 60 ?_;simp;refine e_.reach hbb hB ?_;simp[hx]
 ·have hFc:=abr (Γ:=Γ) g.rows g.ins.length g.hr;have hV:=M6 hwr (fun _=>false);have hff:=rI ins (kc g.rows g.ins.length).length x (kc g.rows g.ins.length) ok hlt;unfold nk;rw[if_neg (by omega)];unfold B4 at hF;rw[if_neg (by omega)]at hF
  have hVr:∃v l',eA g.ins.length (fun _=>false) (kc g.rows g.ins.length).length (kc g.rows g.ins.length)=some (v,l')/\(kc g.rows g.ins.length).length<=4000:=by
   unfold B1 at hV
   split at hV
   ·rename_i h4
    split at hV
    ·rename_i v h5;exact⟨v,[],h5,h4.1⟩
    ·cases hV
   ·cases hV
  obtain⟨v,l',hVr,hl4⟩:=hVr;unfold GF;generalize kc g.rows g.ins.length=F at*
  have hfo:=N0 (Γ:=Γ) ins hki (by omega) (fun _=>false) F.length F (by omega) (v:=v) (l':=l') (by rw[hil2];exact hVr) x
   (h++[.cells (AV.cells (cU g)),.cells [.c9,.int .i64 0],.row 3 aU (F.map bd) none true true]) i (hget _) (by
    intro m hm;simp at hm
    simp[hw m (by omega)]) (by
    intro m k hm;simp at hm
    simp[hv m k (by omega)]) ok hlt
  refine rR [.cells (AV.cells (cU g)),.cells [.c9,.int .i64 0],.row 3 aU (F.map bd) none true true] hw hil (by simp) ?_;refine .bt 60 JW ?_;simp[hG,hF,isKey,bU,cz];refine .jD 7 (by simp) hFc ?_;simp;refine .trees [9] ?_;simp[Pz,gI];have htk:(F.map bd).take F.length=F.map bd:=bR (by simp);refine .aR 60 ?_;simp[htk];unfold cO at hfo⊢;unfold fV;simp only[hset]at hfo⊢
  cases h9:(iJ ins F.length x F).2 with
  |none=>
   simp only[h9,sO]at hfo⊢;refine .j8 60 hfo ?_;simp
  |some p=>
   obtain⟨c,l2⟩:=p;have hc:=hff.2 _ h9;have hle2:=na hff.1.ok;simp only at hc;simp only[h9,dv]at hfo⊢;refine .aX 60 hfo ?_
   have h7:∀o,(h.set i o).length=h.length:=by simp
   have h8:∀(o:Ob)(os:List Ob)(k:Nat),(h.set i o++os)[h.length+k]? =os[k]? :=fun o os k=>by rw[<-h7 o,aev]
   have h8':∀(o:Ob)(os:List Ob),(h.set i o++os)[h.length]? =os[0]? :=fun o os=>h8 o os 0
   cases hoff:g.off with
   |true=>simp(disch:=omega) [h8,h8',hoff]
   |false=>simp(disch:=omega) [h8,h8',hoff]
theorem Oz{n:Nat}{τ:List Nat}{k:Nat}{E:TypeId}{es:List AV}(ho:dR n τ es=true):∀{h:List Ob}(j:Nat),fG n τ h=true->fG n τ (h.set j (.row k E es none false false))=true
 |[],_,h1=>h1
 |o'::h,0,h1=>by
  have h2:fG n τ h=true:=by cases o'<;>simp only[fG,av]at h1<;>exact h1.2
  simp[fG,lg,ho,h2]
 |o'::h,j+1,h1=>by
  cases o'<;>simp only[fG,av,pO]at h1⊢<;>exact⟨h1.1,Oz ho j h1.2⟩
theorem N6{n:Nat}{τ:List Nat}(o:Ob):∀{h:List Ob}(j:Nat),cI n h=true->iR n τ (h.set j o)=h.set j (kh n τ o)
 |[],_,_=>rfl
 |o'::h,0,h1=>by
  simp only[cI,av]at h1;simp only[vn,iR,mb h1.2]
 |o'::h,j+1,h1=>by
  simp only[cI,av]at h1;simp only[pO,iR,NX h1.1,N6 o j h1.2]
theorem XR{n N m:Nat}(h:m<N)(v:AV):(dz n N m).set m v=(List.range m).map (fun i=>AV.mp (n+(3+(N+i))))++(v::List.replicate (N-(m+1)) .c_):=by
 rw[dz,vG _ _ (by simp),show N-m=(N-(m+1))+1 by omega,lh];simp
theorem Y0{n N m:Nat}(h:m<N):(List.range m).map (fun i=>AV.mp (n+(3+(N+i))))++(.mp (n+(3+(N+m)))::List.replicate (N-(m+1)) .c_)=dz n N (m+1):=by
 rw[dz,List.range_succ];simp
theorem aeo{n N m q:Nat}(h:n+(3+(N+m))<=q):aK q ((List.range m).map (fun i=>AV.mp (n+(3+(N+i)))))=true:=by
 have:=EP h;rw[dz,Ei,av]at this;exact this.1
theorem NC(q:Nat):∀k,aK q (List.replicate k AV.c_)=true
 |0=>rfl
 |k+1=>by simp[lh,NC q k]
theorem afa{H:List Ob}{nd b:List (List Nat)}(h:nd.length<b.length):(hQ H nd b).set (H.length+1) (.row 1 jW (dz H.length b.length (nd.length+1)) none false false)++[.map [] true]=hQ H (nd++[[]]) b:=by
 have e:H.length+1=H.length+1:=rfl;rw[hQ,BE,hQ,gf];have f6:decide ((nd++[[]]).length=0)=false:=vH (by simp);simp[hF,gX]
theorem Xq(c:AV):eG [c] .c_=c:=rfl
def fq(pl:List (Bs×Nat)):List Gt->Nat->List (List Nat)->List (List Nat)->List (List Nat)×List (List Nat)
 |[],_,nd,b=>(nd,b)
 |g::r,i,nd,b=>fq pl r (i+1) (nd++[eJ pl g.ins []]) (jm pl i g.ins [] b)
theorem xo(pl:List (Bs×Nat))(i:Nat):∀(l:List Bs)(a:List Nat)(b:List (List Nat)),(jm pl i l a b).length=b.length
 |[],_,_=>rfl
 |s::r,a,b=>by
  rw[jm]
  split
  ·exact xo pl i r a b
  ·rw[xo];split<;>simp
theorem FT(pl:List (Bs×Nat))(i M:Nat):∀(l:List Bs)(a:List Nat)(b:List (List Nat)),(∀x∈b,x.length<=M)->∀x∈jm pl i l a b,x.length<=M+l.length
 |[],_,_,h=>fun x hx=>by have:=h x hx;simpa using this
 |s::r,a,b,h=>fun x hx=>by
  rw[jm]at hx
  have hM:∀x∈b,x.length<=M+1:=fun x hx=>by have:=h x hx;omega
  have key:∀(b':List (List Nat))(a':List Nat),(∀x∈b',x.length<=M+1)->x∈jm pl i r a' b'->x.length<=M+(s::r).length:=fun b' a' h1 h2=>by
   have:=FT pl i (M+1) r a' b' h1 x h2
   simp only[bW];omega
  split at hx
  ·exact key _ _ hM hx
  ·rename_i k _
   split at hx
   ·exact key _ _ hM hx
   ·refine key _ _ (fun y hy=>?_) hx
    rcases oA hy with h1|h1
    ·exact hM y h1
    ·rw[h1,bQ,sR]
     by_cases hk:k<b.length
     ·rw[bp,bm hk];have:=h _ (bx hk)
      simp only[jU];omega
     ·rw[bp,jS (by omega)];simp
theorem acJ{H:List Ob}{nd b:List (List Nat)}{p:Nat}(h:p<H.length)(o:Ob):(hQ H nd b).set p o=hQ (H.set p o) nd b:=by
 rw[hQ,kz _ _ h,hQ,jn]
set_option maxRecDepth 8000 in
theorem adV(c:Ct)(hc:bX c){H:List Ob}(hw:cr H)(hv:dY H){m0:Nat}(hm:H[m0]? =some (.map ((cj c).map g_) true))(up:List Fr)(base:Nat)(hbase:base<=H.length)(p2:Nat)(hp2:p2<H.length)(C:AM.an)(i:Nat)(hi:i<c.af.length)(nd b:List (List Nat))(hnd:nd.length=i)(hb:b.length=c.af.length)(hbl:∀l∈b,l.length<=2^20+i*2^10)
 (hC:AM.Reach Tryz.prog Γ (HA (.ptr p2 0) (.mp m0) (.ptr H.length 0) (.list false c.kG (c.af.map cU)) (.int .i64 c.af.length) (.int .i64 (i+1:Nat)) (hQ H (nd++[eJ (cj c) c.af[i].ins []]) (jm (cj c) i c.af[i].ins [] b)) ⟨[],.norm,base,up⟩) C):
 AM.Reach Tryz.prog Γ (HA (.ptr p2 0) (.mp m0) (.ptr H.length 0) (.list false c.kG (c.af.map cU)) (.int .i64 c.af.length) (.int .i64 i) (hQ H nd b) ⟨[],.norm,base,up⟩) C:=by
 have q2:=bP (c.hG.of hi);have xw:=G5 (H:=H) (nd:=nd) (b:=b);have xn:=G7 (H:=H) (nd:=nd) (b:=b);have yl:=Ax (n:=H.length) (N:=b.length) (m:=nd.length) (by omega);have hlen:=lD (H:=H) (nd:=nd) (b:=b);have hm0:=aZ hm;have hnew:=afa (H:=H) (nd:=nd) (b:=b) (by omega);have hsp:=XR (n:=H.length) (N:=b.length) (m:=nd.length) (by omega) (.mp ((hQ H nd b).length+3));have hsu:=Y0 (n:=H.length) (N:=b.length) (m:=nd.length) (by omega);have hwf:=agp (nd:=nd) (b:=b) hw (hQ H nd b).length (aT _);have hbm:=aeo (n:=H.length) (N:=b.length) (m:=nd.length) (q:=(hQ H nd b).length) (by omega);have hbn:=NC (hQ H nd b).length (b.length-(nd.length+1))
 have yc:∀h,(dz H.length b.length nd.length)[nd.length]'h=.c_:=fun h=>by
  have e:(dz H.length b.length nd.length)[nd.length]? =some .c_:=by
   rw[dz,dF (by simp),iB,zm,Dx,show b.length-nd.length=(b.length-(nd.length+1))+1 by omega,lh];rfl
  exact(cW.1 e).2
 have hin:=ad8 (Γ:=Γ) c hc hw hv hm nd i hi hnd up base hbase p2 c.af[i].ins.length 0 (by omega) [] b hb (fun l hl=>by have:=hbl l hl;omega);subst hnd;rw[hb]at xw xn yl hlen hnew hsp hsu hbm hbn yc
 have w1:∀os,(hQ H nd b++os)[H.length]? =some (.cells [.sl (H.length+1) 0 c.af.length,.sl (H.length+2) 0 c.af.length]):=fun os=>dL xw os
 have w2:∀os,(hQ H nd b++os)[H.length+1]? =some (.row 1 jW (dz H.length c.af.length nd.length) none (decide (nd.length=0)) false):=fun os=>dL xn os
 have w3:∀os o,(hQ H nd b++os).set (H.length+1) o=(hQ H nd b).set (H.length+1) o++os:=fun os o=>kz _ _ (by rw[hlen];omega)
 have w4:∀o os,((hQ H nd b).set (H.length+1) o++os)[(hQ H nd b).length]? =os[0]? :=fun o os=>by rw[dF (by simp)];simp
 have hX:(hQ H nd b).length=H.length+(3+(c.af.length+nd.length)):=hlen;generalize hQ H nd b=X at*;clear hlen
 have hb2:base<=X.length:=by omega
 have hX1:H.length<X.length:=by omega
 have hX2:H.length+1<X.length:=by omega
 have hX3:p2<X.length:=by omega
 have hX4:m0<X.length:=by omega
 refine .aR 60 ?_;simp(disch:=omega) [hi,q2,w1,w2,w3,w4,yl,yc,Xq];rw[hsp]
 have hmp:(AV.mp (H.length+(3+(c.af.length+nd.length))))=.mp X.length:=by rw[hX]
 rw[hmp]at hsu;refine .trans (.lU [6,27,28,29,30,31,32,33,34,35] _) ?_;simp[lS]
 refine .mE X.length [3] (by
  simp[hb2,hX1,hX3,hX4]
  exact Oz (by simp[mc hbm,mc hbn]) _ (l_ hwf)) (by decide) ?_
 have hlt3:(X.length+3<X.length)=False:=ie (by omega);simp[hX1,hX3,hX4,N6 _ _ hwf,kP hbm,kP hbn,hlt3];rw[hsu,hnew];refine .inLoop ?_;simp at hin⊢;refine .trans hin ?_;refine .aR 60 ?_
 have hB:nd.length<2^10:=by have:=hc.2.2.2.1;omega
 simp(disch:=omega);refine .aF ?_;simp at hC⊢;exact hC
set_option maxRecDepth 8000 in
theorem ac8(c:Ct)(hc:bX c){H:List Ob}(hw:cr H)(hv:dY H){m0:Nat}(hm:H[m0]? =some (.map ((cj c).map g_) true))(up:List Fr)(base:Nat)(hbase:base<=H.length)(p2:Nat)(hp2:p2<H.length){r0 r1:AV}(hr:H[p2]? =some (.cells [r0,r1])):∀n i:Nat,i+n=c.af.length->∀nd b:List (List Nat),nd.length=i->b.length=c.af.length->(∀l∈b,l.length<=2^20+i*2^10)->
 AM.Reach Tryz.prog Γ (HA (.ptr p2 0) (.mp m0) (.ptr H.length 0) (.list false c.kG (c.af.map cU)) (.int .i64 c.af.length) (.int .i64 i) (hQ H nd b) ⟨[],.norm,base,up⟩)
  (.back up (.agg [.sl (H.length+1) 0 c.af.length,.sl (H.length+2) 0 c.af.length]) (hQ (H.set p2 (.cells [.sl (H.length+1) 0 c.af.length,.sl (H.length+2) 0 c.af.length])) (fq (cj c) (c.af.drop i) i nd b).1 (fq (cj c) (c.af.drop i) i nd b).2)):=by
 intro n
 induction n with
 |zero=>
  intro i hi nd b hnd hb hbl
  have q1:¬i<c.af.length:=by omega
  rw[br (by omega),fq];have xw:=G5 (H:=H) (nd:=nd) (b:=b)
  have xp:(hQ H nd b)[p2]? =some (.cells [r0,r1]):=by rw[GK hp2];exact hr
  have xs:=fun o=>acJ (nd:=nd) (b:=b) hp2 o
  have xp2:∀o,((hQ H nd b).set p2 o)[p2]? =some o:=fun o=>by rw[eu (by rw[lD];omega)]
  rw[hb]at xw;refine .aR 60 ?_;simp[q1,xw,xp,xp2];rw[xs];exact .refl _
 |succ n ih=>
  intro i hi nd b hnd hb hbl
  have q1:i<c.af.length:=by omega
  have hiB:c.af[i].ins.length<2^10:=(hc.2.2.2.2.1 _ (bx q1)).2.1;rw[bL q1,fq];refine adV c hc hw hv hm up base hbase p2 hp2 _ i q1 nd b hnd hb hbl ?_
  exact ih (i+1) (by omega) _ _ (by simp[hnd]) (by rw[xo];exact hb) (fun l hl=>by
   have:=FT (cj c) i (2^20+i*2^10) c.af[i].ins [] b hbl l hl
   rw[DC];omega)
def dU(c:Ct):List (List Nat):=(fq (cj c) c.af 0 [] (List.replicate c.af.length [])).1
def bF(c:Ct):List (List Nat):=(fq (cj c) c.af 0 [] (List.replicate c.af.length [])).2
def gZ(c:Ct)(n:Nat)(x y:AV):List Ob:=[.cells (AV.cells (bH c)),.cells [x,y],.row 1 jW [] none true false,.row 1 iZ [] none true false,.cells (AV.cells (bH c)),.map ((cj c).map g_) true]
def gS(c:Ct)(h:List Ob):List Ob:=h++gZ c h.length (.sl (h.length+7) 0 c.af.length) (.sl (h.length+8) 0 c.af.length)
theorem jZ(c:Ct)(h:List Ob):(gS c h).length=h.length+6:=by simp[gS,gZ]
theorem pg(i m:Nat):∀l:List (Bs×Nat),nz i m (l.map g_)=true
 |[]=>rfl
 |x::l=>by simp[pg i m l]
set_option maxRecDepth 8000 in
theorem afk(c:Ct)(hc:bX c)(hd:(c.af.map (·.name)).Nodup){h:List Ob}(hw:cr h)(hv:dY h):∀up,AM.Reach Tryz.prog Γ (.cl m4 [bH c] up h)
 (.back up (.agg [.sl ((gS c h).length+1) 0 c.af.length,.sl ((gS c h).length+2) 0 c.af.length]) (hQ (gS c h) (dU c) (bF c))):=by
 intro up;have hN:=hc.2.2.2.1;generalize hH:h++gZ c h.length (.sl (h.length+2) 0 0) (.sl (h.length+3) 0 0)=H
 have hHl:H.length=h.length+6:=by rw[<-hH];simp[gZ]
 have hp:H[h.length]? =some (.cells (AV.cells (bH c))):=by rw[<-hH];simp[gZ]
 have hp2:H[h.length+1]? =some (.cells [.sl (h.length+2) 0 0,.sl (h.length+3) 0 0]):=by rw[<-hH];simp[gZ]
 have hm:H[h.length+5]? =some (.map ((cj c).map g_) true):=by rw[<-hH];simp[gZ]
 have hwH:cr H:=fun m hm=>by
  have h1:=hw m (by omega);have h2:=nX m (cj c);rw[<-hH,oN,h1]
  simp[gZ,h2];omega
 have hvH:dY H:=fun i m hi=>by
  have h1:=hv i m (by omega);have h2:=pg i m (cj c);rw[<-hH,iU,h1]
  simp[gZ,h2];omega
 have hend:H.set (h.length+1) (.cells [.sl (H.length+1) 0 c.af.length,.sl (H.length+2) 0 c.af.length])=gS c h:=by
  rw[<-hH,BE,gS];simp[gZ]
 have hL:=ac8 (Γ:=Γ) c hc hwH hvH hm up h.length (by omega) (h.length+1) (by omega) hp2 c.af.length 0 (by omega) [] (List.replicate c.af.length []) rfl (by simp) (by simp)
 have hcv:=fun f=>afU (Γ:=Γ) H c.af.length f up c.af.length 0 (by omega)
 rw[aaS,Y3]at hcv;rw[hend,eT,hHl]at hL;refine .bt 60 W7 ?_;simp;refine .trans (Ny c hc hd ?_ _) ?_
 ·intro m hm;simp at hm;have h1:=hw m (by omega)
  simp[h1];omega
 have e2:h.length+1+1=h.length+2:=rfl;have e3:h.length+1+1+1=h.length+3:=rfl;have e5:h.length+4+1=h.length+5:=rfl;refine .trans (.pop _) (.aR 60 ?_);simp[e2,e3,e5];refine .trans (.lU [0,11,12] _) ?_;simp[lS]
 have hR:=fun k hk C hC=>aew (Γ:=Γ) (c:=c) (p:=h.length) (x2:=.ptr (h.length+1) 0) (x3:=.mp (h.length+5)) (H:=H) (up:=up) (base:=h.length) (k:=k) (C:=C) hc hp (hwH _ (aT _)) (by omega) (by simp;omega) (by simp;omega) hk hC
 rw[<-hH]at hR;simp[gZ]at hR;refine hR _ ?_ _ ?_
 ·simp
 have hcv':∀f,AM.Reach Tryz.prog Γ (.fr f up (h++(gZ c h.length (.sl (h.length+2) 0 0) (.sl (h.length+3) 0 0)++hW c (h.length+6)))) (.fr f up (hQ H [] (List.replicate c.af.length []))):=fun f=>by
  rw[<-gf,hH,<-hHl];exact hcv f
 simp[gZ]at hcv';refine .trans (hcv' _) ?_;refine .aR 60 ?_;have hq:=GK (H:=H) (nd:=[]) (b:=List.replicate c.af.length []) (aZ hp);rw[hp]at hq;simp[hq];refine .inLoop ?_;simp at hL⊢;rw[jZ];simp[dU,bF];exact hL
def hP(A:List Ob)(l s:List Nat)(g:Option Nat):List Ob:=A++[.row 1 aq ((l++s).map iN) g true false,.cells [.sl A.length 0 l.length]]
def swp(l:List Nat)(i j:Nat):List Nat:=(l.set i (l.getD j 0)).set j (l.getD i 0)
section
variable{A:List Ob}{l s:List Nat}{g:Option Nat}
theorem xD:(hP A l s g).length=A.length+2:=by simp[hP]
theorem uP:(hP A l s g)[A.length]? =some (.row 1 aq ((l++s).map iN) g true false):=by simp[hP]
theorem oh:(hP A l s g)[A.length+1]? =some (.cells [.sl A.length 0 l.length]):=by
 rw[hP,dF (by omega)];simp
theorem py{i:Nat}(h:i<A.length):(hP A l s g)[i]? =A[i]? :=by rw[hP,cV h]
theorem adu{l' s':List Nat}(h:l'.length=l.length):(hP A l s g).set A.length (.row 1 aq ((l'++s').map iN) g true false)=hP A l' s' g:=by
 have:=BE A [.row 1 aq ((l++s).map iN) g true false,.cells [.sl A.length 0 l.length]] 0 (.row 1 aq ((l'++s').map iN) g true false);rw[ic]at this
 rw[hP,this,hP,h];rfl
theorem dH(i j:Nat):(swp l i j).length=l.length:=by simp[swp]
theorem BO{L:List Nat}{i:Nat}(h:i<L.length):(L.map iN)[i]? =some (.int .i64 (L.getD i 0:Nat)):=by simp[h]
end
theorem BS(A:List Ob)(l s:List Nat)(g:Option Nat)(hg:g=none\/g=some 0/\s=[]):∀up,AM.Reach Tryz.prog Γ (.cl te [.sl A.length 0 l.length] up (hP A l s g)) (.back up (.int .i64 l.length) (hP A l s g)):=by
 intro up;have xr:=uP (A:=A) (l:=l) (s:=s) (g:=g)
 have hl2:s=[]->((l++s).map iN).length=l.length:=fun h=>by rw[h];simp
 generalize hP A l s g=X at*;generalize hL:(l++s).map iN=L at*
 have hl:l.length<=L.length:=by rw[<-hL];simp
 rcases hg with rfl|⟨rfl,rfl⟩
 ·refine .bt 60 J4 ?_;simp[xr]
 ·have hl3:=hl2 rfl;refine .bt 60 J4 ?_;simp[xr,hl3]
theorem xC(A:List Ob)(l s:List Nat)(g:Option Nat)(hg:g=none\/g=some 0/\s=[]){i j:Nat}(hi:i<l.length)(hj:j<l.length):∀up,AM.Reach Tryz.prog Γ (.cl vV [.sl A.length 0 l.length,.int .i64 i,.int .i64 j] up (hP A l s g)) (.back up (.bool (decide (l.getD i 0<l.getD j 0))) (hP A l s g)):=by
 intro up;have xr:=uP (A:=A) (l:=l) (s:=s) (g:=g)
 have e:∀k,k<l.length->(l++s).getD k 0=l.getD k 0:=fun k hk=>by simp[cV hk]
 have gi:=BO (L:=l++s) (i:=i) (by simp;omega);have gj:=BO (L:=l++s) (i:=j) (by simp;omega);rw[e i hi]at gi;rw[e j hj]at gj;generalize hP A l s g=X at*;generalize hL:(l++s).map iN=L at*
 have hl:l.length<=L.length:=by rw[<-hL];simp
 obtain⟨_,gi'⟩:=cW.1 gi;obtain⟨_,gj'⟩:=cW.1 gj;generalize l.getD i 0=vi at*;generalize l.getD j 0=vj at*
 have hl2:s=[]->L.length=l.length:=fun h=>by rw[<-hL,h];simp
 rcases hg with rfl|⟨rfl,rfl⟩
 ·refine .bt 60 J3 ?_;simp(disch:=omega) [xr,gi,gj,gi',gj',hi,hj,hl,eG]
 ·have hl3:=hl2 rfl;refine .bt 60 J3 ?_;simp(disch:=omega) [xr,gi,gj,gi',gj',hi,hj,hl3,eG]
theorem P6{A:List Ob}{l s:List Nat}{i:Nat}{v:Nat}(hi:i<l.length):((l++s).map iN).set i (.int .i64 v)=(l.set i v++s).map iN:=by
 rw[iT,kz _ _ (by simpa using hi),iT,pX]
theorem xA(A:List Ob)(l s:List Nat)(g:Option Nat)(hg:g=none\/g=some 0/\s=[]){i j:Nat}(hi:i<l.length)(hj:j<l.length):∀up,AM.Reach Tryz.prog Γ (.cl vU [.sl A.length 0 l.length,.int .i64 i,.int .i64 j] up (hP A l s g)) (.back up (.aB []) (hP A (swp l i j) s g)):=by
 intro up;have xr:=uP (A:=A) (l:=l) (s:=s) (g:=g);have xl:=xD (A:=A) (l:=l) (s:=s) (g:=g)
 have e:∀k,k<l.length->(l++s).getD k 0=l.getD k 0:=fun k hk=>by simp[cV hk]
 have gi:=BO (L:=l++s) (i:=i) (by simp;omega);have gj:=BO (L:=l++s) (i:=j) (by simp;omega);rw[e i hi]at gi;rw[e j hj]at gj
 have fin:(hP A l s g).set A.length (.row 1 aq ((((l++s).map iN).set i (.int .i64 (l.getD j 0))).set j (.int .i64 (l.getD i 0))) g true false)=hP A (swp l i j) s g:=by
  rw[P6 (A:=A) hi,P6 (A:=A) (by simpa using hj)];exact adu (by simp)
 have hr:A.length<(hP A l s g).length:=by omega
 clear xl;generalize hP A l s g=X at*;generalize hL:(l++s).map iN=L at*
 have hl:l.length<=L.length:=by rw[<-hL];simp
 have hiL:i<L.length:=by omega
 have hjL:j<L.length:=by omega
 generalize l.getD i 0=vi at*;generalize l.getD j 0=vj at*;obtain⟨_,gi'⟩:=cW.1 gi;obtain⟨_,gj'⟩:=cW.1 gj;obtain⟨_,xr'⟩:=cW.1 xr
 have gs:(L.set i (.int .i64 vj))[j]? =some (.int .i64 vj):=by
  by_cases hij:i=j
  ·subst hij;rw[eu hiL]
  ·rw[dB hij];exact gj
 have hl2:s=[]->L.length=l.length:=fun h=>by rw[<-hL,h];simp
 rcases hg with rfl|⟨rfl,rfl⟩
 ·refine .bt 60 JZ ?_;simp(disch:=omega) [xr,xr',gs,gi,gj,gi',gj',hi,hj,hl,hiL,hjL,eG];rw[fin];exact .refl _
 ·have hl3:=hl2 rfl;refine .bt 60 JZ ?_;simp(disch:=omega) [xr,xr',gs,gi,gj,gi',gj',hi,hj,hl3,hiL,hjL,eG];rw[fin];exact .refl _
def mV(l:List Nat)(j:Nat):List Nat:=
 if j=0 then l else if l.getD j 0<l.getD ((j-1)/2) 0 then mV (swp l ((j-1)/2) j) ((j-1)/2)else l
termination_by j
decreasing_by omega
theorem adB(j:Nat):∀l:List Nat,(mV l j).length=l.length:=by
 induction j using Nat.strongRecOn with
 |_ j ih=>
  intro l;rw[mV]
  split
  ·rfl
  ·rename_i h0
   split
   ·rw[ih _ (by omega),dH]
   ·rfl
theorem P'(j:Nat)(h:j≠0):((j:Int)-1).tdiv 2=(((j-1)/2:Nat):Int):=by
 have e:(j:Int)-1=((j-1:Nat):Int):=by omega
 rw[e,Int.tdiv_eq_ediv_of_nonneg (by omega)];rfl
theorem agX(A:List Ob)(s:List Nat)(g:Option Nat)(hg:g=none\/g=some 0/\s=[])(up:List Fr)(base:Nat):∀(j:Nat)(l:List Nat),j<l.length->l.length<2^40->
 AM.Reach Tryz.prog Γ (yzL (.b_ kE (.ptr (A.length+1) 0)) (.int .i64 j) (hP A l s g) ⟨[],.norm,base,up⟩) (.back up (.aB []) (hP A (mV l j) s g)):=by
 intro j
 induction j using Nat.strongRecOn with
 |_ j ih=>
  intro l hj hl;have xc:=oh (A:=A) (l:=l) (s:=s) (g:=g);rw[mV]
  by_cases h0:j=0
  ·rw[if_pos h0];subst h0;generalize hP A l s g=X at*;refine .aR 60 ?_;simp[xc]
  ·rw[if_neg h0];have hq:=P' j h0
   have hlt:(j-1)/2<j:=by omega
   have hne:((((j-1)/2:Nat):Int)=(j:Int))=False:=ie (by omega);have hL:=xC (Γ:=Γ) A l s g hg hj (show(j-1)/2<l.length by omega);have hS:=xA (Γ:=Γ) A l s g hg (show(j-1)/2<l.length by omega) hj
   by_cases hc:l.getD j 0<l.getD ((j-1)/2) 0
   ·rw[if_pos hc];have hh:=ih _ hlt (swp l ((j-1)/2) j) (by rw[dH];omega) (by rw[dH];exact hl);rw[ri hc]at hL;generalize hP A l s g=X at*;generalize(j-1)/2=i at*;refine .aR 60 ?_;simp(disch:=omega) [xc,hq,hne];refine .aX 60 hL ?_;simp[xc];refine .aX 60 hS ?_;simp;refine .aF ?_;simp at hh⊢;exact hh
   ·rw[if_neg hc];rw[vH hc]at hL;generalize hP A l s g=X at*;generalize(j-1)/2=i at*;refine .aR 60 ?_;simp(disch:=omega) [xc,hq,hne];refine .aX 60 hL ?_;simp[xc]
theorem af5(A:List Ob)(s:List Nat)(g:Option Nat)(hg:g=none\/g=some 0/\s=[])(j:Nat)(l:List Nat)(hj:j<l.length)(hl:l.length<2^40):∀up,
 AM.Reach Tryz.prog Γ (.cl vR [.b_ kE (.ptr (A.length+1) 0),.int .i64 j] up (hP A l s g)) (.back up (.aB []) (hP A (mV l j) s g)):=by
 intro up;have h:=agX (Γ:=Γ) A s g hg up (hP A l s g).length j l hj hl;generalize hP A l s g=X at*;refine .bt 60 U8 ?_;simp;refine .inLoop ?_;simp at h⊢;exact h
def fY(l:List Nat)(j n:Nat):Nat:=if j+1<n/\l.getD (j+1) 0<l.getD j 0 then j+1 else j
def gq(n:Nat)(l:List Nat)(i:Nat):List Nat×Nat:=
 if n<=2*i+1 then(l,i)else if l.getD (fY l (2*i+1) n) 0<l.getD i 0 then gq n (swp l i (fY l (2*i+1) n)) (fY l (2*i+1) n)else(l,i)
termination_by n-i
decreasing_by
 have:2*i+1<=fY l (2*i+1) n:=by unfold fY;split<;>omega
 omega
theorem xB(l:List Nat)(j n:Nat):j<=fY l j n:=by unfold fY;split<;>omega
theorem BJ(l:List Nat){j n:Nat}(h:j<n):fY l j n<n:=by unfold fY;split<;>omega
theorem aab(n:Nat):∀(m i:Nat)(l:List Nat),n-i<=m->(gq n l i).1.length=l.length:=by
 intro m
 induction m with
 |zero=>
  intro i l h;rw[gq,if_pos (by omega)]
 |succ m ih=>
  intro i l h;rw[gq]
  split
  ·rfl
  ·split
   ·have:=xB l (2*i+1) n;rw[ih _ _ (by omega),dH]
   ·rfl
theorem afj(A:List Ob)(s:List Nat)(g:Option Nat)(hg:g=none\/g=some 0/\s=[])(up:List Fr)(base:Nat)(n i0:Nat)(hn:n<2^40):∀(m i:Nat)(l:List Nat),n-i<=m->i<2^41->n<=l.length->(i<l.length)->
 AM.Reach Tryz.prog Γ (yAd (.b_ kE (.ptr (A.length+1) 0)) (.int .i64 i0) (.int .i64 n) (.int .i64 i) (hP A l s g) ⟨[],.norm,base,up⟩) (.back up (.bool (decide (i0<(gq n l i).2))) (hP A (gq n l i).1 s g)):=by
 intro m
 induction m with
 |zero=>
  intro i l hm hi hnl hil;obtain⟨j1,hj1⟩:∃j1,j1=2*i+1:=⟨_,rfl⟩
  have e1:2*(i:Int)+1=(j1:Int):=by omega
  rw[gq,if_pos (by omega)]
  have q1:¬j1<n:=by omega
  have q2:n<=j1:=by omega
  generalize hP A l s g=X at*;refine .aR 60 ?_;simp(disch:=omega) [e1,q1,q2]
 |succ m ih=>
  intro i l hm hi hnl hil;obtain⟨j1,hj1⟩:∃j1,j1=2*i+1:=⟨_,rfl⟩
  have e1:2*(i:Int)+1=(j1:Int):=by omega
  obtain⟨j2,hj2⟩:∃j2,j2=j1+1:=⟨_,rfl⟩
  have e2:(j1:Int)+1=(j2:Int):=by omega
  rw[gq]
  by_cases h1:n<=2*i+1
  ·rw[if_pos h1]
   have q1:¬j1<n:=by omega
   have q2:n<=j1:=by omega
   generalize hP A l s g=X at*;refine .aR 60 ?_;simp(disch:=omega) [e1,q1,q2]
  ·rw[if_neg h1]
   have q1:j1<n:=by omega
   have q2:¬n<=j1:=by omega
   have q3:(n:Int)<=(j1:Int)↔False:=⟨fun h=>by omega,False.elim⟩;have hkg:=xB l j1 n;have hkl:=BJ l q1;rw[<-hj1];have xc:=oh (A:=A) (l:=l) (s:=s) (g:=g)
   by_cases h2:j2<n
   ·have hL:=xC (Γ:=Γ) A l s g hg (show j2<l.length by omega) (show j1<l.length by omega)
    by_cases h3:l.getD (j2) 0<l.getD j1 0
    ·rw[ri h3]at hL
     have hk:fY l j1 n=j2:=by unfold fY;rw[<-hj2,if_pos ⟨h2,h3⟩]
     rw[hk];have hL2:=xC (Γ:=Γ) A l s g hg (show j2<l.length by omega) hil
     by_cases hc:l.getD (j2) 0<l.getD i 0
     ·rw[if_pos hc];have hS:=xA (Γ:=Γ) A l s g hg hil (show j2<l.length by omega);have hh:=ih (j2) (swp l i (j2)) (by omega) (by omega) (by rw[dH];omega) (by rw[dH];omega);rw[ri hc]at hL2;generalize hP A l s g=X at*;refine .aR 60 ?_;simp(disch:=omega) [xc,e1,e2,q1,q2,h2];refine .aX 60 hL ?_;simp[xc];refine .aX 60 hL2 ?_;simp[xc];refine .aX 60 hS ?_;simp;refine .aF ?_;simp at hh⊢;exact hh
     ·rw[if_neg hc];rw[vH hc]at hL2;generalize hP A l s g=X at*;refine .aR 60 ?_;simp(disch:=omega) [xc,e1,e2,q1,q2,h2];refine .aX 60 hL ?_;simp[xc];refine .aX 60 hL2 ?_;simp[xc]
    ·rw[vH h3]at hL
     have hk:fY l j1 n=j1:=by unfold fY;rw[<-hj2,if_neg (fun h=>h3 h.2)]
     rw[hk];have hL2:=xC (Γ:=Γ) A l s g hg (show j1<l.length by omega) hil
     by_cases hc:l.getD (j1) 0<l.getD i 0
     ·rw[if_pos hc];have hS:=xA (Γ:=Γ) A l s g hg hil (show j1<l.length by omega);have hh:=ih (j1) (swp l i (j1)) (by omega) (by omega) (by rw[dH];omega) (by rw[dH];omega);rw[ri hc]at hL2;generalize hP A l s g=X at*;refine .aR 60 ?_;simp(disch:=omega) [xc,e1,e2,q1,q2,h2];refine .aX 60 hL ?_;simp[xc];refine .aX 60 hL2 ?_;simp[xc];refine .aX 60 hS ?_;simp;refine .aF ?_;simp at hh⊢;exact hh
     ·rw[if_neg hc];rw[vH hc]at hL2;generalize hP A l s g=X at*;refine .aR 60 ?_;simp(disch:=omega) [xc,e1,e2,q1,q2,h2];refine .aX 60 hL ?_;simp[xc];refine .aX 60 hL2 ?_;simp[xc]
   ·have hk:fY l j1 n=j1:=by unfold fY;rw[<-hj2,if_neg (fun h=>h2 h.1)]
    rw[hk];have hL2:=xC (Γ:=Γ) A l s g hg (show j1<l.length by omega) hil
    by_cases hc:l.getD (j1) 0<l.getD i 0
    ·rw[if_pos hc];have hS:=xA (Γ:=Γ) A l s g hg hil (show j1<l.length by omega);have hh:=ih (j1) (swp l i (j1)) (by omega) (by omega) (by rw[dH];omega) (by rw[dH];omega);rw[ri hc]at hL2;generalize hP A l s g=X at*;refine .aR 60 ?_;simp(disch:=omega) [xc,e1,e2,q1,q2,h2];refine .aX 60 hL2 ?_;simp[xc];refine .aX 60 hS ?_;simp;refine .aF ?_;simp at hh⊢;exact hh
    ·rw[if_neg hc];rw[vH hc]at hL2;generalize hP A l s g=X at*;refine .aR 60 ?_;simp(disch:=omega) [xc,e1,e2,q1,q2,h2];refine .aX 60 hL2 ?_;simp[xc]
theorem ade(A:List Ob)(s:List Nat)(g:Option Nat)(hg:g=none\/g=some 0/\s=[])(n i:Nat)(hn:n<2^40)(l:List Nat)(hnl:n<=l.length)(hi:i<l.length)(hi2:i<2^40):∀up,
 AM.Reach Tryz.prog Γ (.cl vO [.b_ kE (.ptr (A.length+1) 0),.int .i64 i,.int .i64 n] up (hP A l s g)) (.back up (.bool (decide (i<(gq n l i).2))) (hP A (gq n l i).1 s g)):=by
 intro up;have h:=afj (Γ:=Γ) A s g hg up (hP A l s g).length n i hn (n-i) i l (aT _) (by omega) hnl hi;generalize hP A l s g=X at*;refine .bt 60 UU ?_;simp;refine .inLoop ?_;simp at h⊢;exact h
def gP(s:List Nat):Option Nat:=if s=[]then some 0 else none
theorem PD(s:List Nat):gP s=none\/gP s=some 0/\s.tail=[]:=by
 unfold gP
 split
 ·rename_i h;exact .inr ⟨rfl,by rw[h];rfl⟩
 ·exact .inl rfl
theorem aee(A:List Ob)(l s:List Nat)(x:Nat)(hx:x<2^40)(hl:l.length<2^40):∀up,AM.Reach Tryz.prog Γ (.cl zN [.ptr (A.length+1) 0,.b_ aq (.int .i64 x)] up (hP A l s none)) (.back up (.aB []) (hP A (l++[x]) s.tail (gP s))):=by
 intro up;have xr:=uP (A:=A) (l:=l) (s:=s) (g:=none);have xc:=oh (A:=A) (l:=l) (s:=s) (g:=none)
 have b8:(l.length+1)*8<=140737488355328:=by omega
 have hr:A.length<(hP A l s none).length:=by rw[xD];omega
 have hr1:A.length+1<(hP A l s none).length:=by rw[xD];omega
 cases s with
 |nil=>
  have fin:((hP A l [] none).set A.length (.row 1 aq (l.map iN++[.int .i64 x]) (some 0) true false)).set (A.length+1) (.cells [.sl A.length 0 (l.length+1)])=hP A (l++[x]) [] (some 0):=by
   simp[hP]
  rw[eS]at xr;rw[show gP []=some 0 from rfl];generalize hP A l [] none=X at*;obtain⟨_,xr'⟩:=cW.1 xr;obtain⟨_,xc'⟩:=cW.1 xc;refine .bt 60 J2 ?_;simp(disch:=omega) [xr,xc,xr',xc',b8,eG];refine .nB 60 ?_;simp(disch:=omega) [xr,xc,xr',xc',b8,eG];rw[fin];exact .refl _
 |cons a s=>
  have fin:((hP A l (a::s) none).set A.length (.row 1 aq (l.map iN++(AV.int .i64 x)::s.map iN) none true false)).set (A.length+1) (.cells [.sl A.length 0 (l.length+1)])=hP A (l++[x]) s none:=by
   simp[hP]
  rw[show gP (a::s)=none from rfl]
  have hL:((l++a::s).map iN)=l.map iN++.int .i64 a::s.map iN:=by simp
  rw[hL]at xr
  have tk:(l.map iN++AV.int .i64 a::s.map iN).take l.length=l.map iN:=by rw[List.take_append_of_le_length (by simp)];simp
  have dr:(l.map iN++AV.int .i64 a::s.map iN).drop (l.length+1)=s.map iN:=by rw[sP,br (by simp),show l.length+1-(l.map iN).length=1 by simp];rfl
  have ln:¬(l.length=(l.map iN++AV.int .i64 a::s.map iN).length):=by simp
  have ln2:l.length+1<=(l.map iN++AV.int .i64 a::s.map iN).length:=by simp
  have ln3:l.length<=(l.map iN++AV.int .i64 a::s.map iN).length:=by simp
  generalize hP A l (a::s) none=X at*;generalize(l.map iN++AV.int .i64 a::s.map iN)=L at*;obtain⟨_,xr'⟩:=cW.1 xr;obtain⟨_,xc'⟩:=cW.1 xc;refine .bt 60 J2 ?_;simp(disch:=omega) [xr,xc,xr',xc',b8,eG];refine .nB 60 ?_;simp(disch:=omega) [xr,xc,xr',xc',b8,eG,ln,ln2,ln3,tk,dr];rw[fin];exact .refl _
theorem ae3(A:List Ob)(l s:List Nat)(x:Nat)(hl:l.length<2^40):∀up,AM.Reach Tryz.prog Γ (.cl zP [.ptr (A.length+1) 0] up (hP A (l++[x]) s none)) (.back up (.b_ aq (.int .i64 x)) (hP A l (x::s) none)):=by
 intro up;have xr:=uP (A:=A) (l:=l++[x]) (s:=s) (g:=none);have xc:=oh (A:=A) (l:=l++[x]) (s:=s) (g:=none)
 have hr1:A.length+1<(hP A (l++[x]) s none).length:=by rw[xD];omega
 have fin:(hP A (l++[x]) s none).set (A.length+1) (.cells [.sl A.length 0 l.length])=hP A l (x::s) none:=by simp[hP]
 have e:(l++[x]).length=l.length+1:=by simp
 rw[e]at xc
 have gx:(((l++[x])++s).map iN)[l.length]? =some (.int .i64 x):=by simp
 generalize hP A (l++[x]) s none=X at*;generalize hL:(((l++[x])++s).map iN)=L at*
 have hlL:l.length<L.length:=by rw[<-hL];simp
 obtain⟨_,gx'⟩:=cW.1 gx;obtain⟨_,xr'⟩:=cW.1 xr;obtain⟨_,xc'⟩:=cW.1 xc;refine .bt 60 VH ?_;simp(disch:=omega) [xr,xc,xr',xc',gx,gx',eG];rw[fin];exact .refl _
def fo(l:List Nat)(x:Nat):List Nat:=mV (l++[x]) l.length
theorem OX(A:List Ob)(l s:List Nat)(x:Nat)(hx:x<2^40)(hl:l.length<2^39):∀up,AM.Reach Tryz.prog Γ (.cl vN [.b_ kE (.ptr (A.length+1) 0),.b_ aq (.int .i64 x)] up (hP A l s none)) (.back up (.aB []) (hP A (fo l x) s.tail (gP s))):=by
 intro up;have h1:=aee (Γ:=Γ) A l s x hx (by omega);have h2:=BS (Γ:=Γ) A (l++[x]) s.tail (gP s) (PD s);have h3:=af5 (Γ:=Γ) A s.tail (gP s) (PD s) l.length (l++[x]) (by simp) (by simp;omega);have hxc:=oh (A:=A) (l:=l++[x]) (s:=s.tail) (g:=gP s)
 have e:(l++[x]).length=l.length+1:=by simp
 rw[e]at hxc h2;rw[fo];refine .bt 60 UT ?_;simp;refine .aX 60 h1 ?_;generalize hP A (l++[x]) s.tail (gP s)=X at*;simp[hxc];refine .aX 60 h2 ?_;simp(disch:=omega);refine .aX 60 h3 ?_;simp
def dq(l:List Nat):List Nat:=(gq (l.length-1) (swp l 0 (l.length-1)) 0).1
theorem A9(l:List Nat):(dq l).length=l.length:=by rw[dq,aab _ _ _ _ (aT _),dH]
theorem agI(A:List Ob)(l s:List Nat)(h0:0<l.length)(hl:l.length<2^39):∀up,AM.Reach Tryz.prog Γ (.cl zJ [.b_ kE (.ptr (A.length+1) 0)] up (hP A l s none)) (.back up (.b_ aq (.int .i64 ((dq l).getD (l.length-1) 0:Nat))) (hP A ((dq l).take (l.length-1)) ((dq l).getD (l.length-1) 0::s) none)):=by
 intro up;obtain⟨n,hn⟩:∃n,l.length=n+1:=⟨l.length-1,by omega⟩;have h1:=BS (Γ:=Γ) A l s none (.inl rfl);have h2:=xA (Γ:=Γ) A l s none (.inl rfl) h0 (show n<l.length by omega);have h3:=ade (Γ:=Γ) A s none (.inl rfl) n 0 (by omega) (swp l 0 n) (by rw[dH];omega) (by rw[dH];omega) (by omega)
 have e:(gq n (swp l 0 n) 0).1=dq l:=by rw[dq,hn];rfl
 have el:=A9 l
 have e2:dq l=(dq l).take n++[(dq l).getD n 0]:=by
  have hlt:n<(dq l).length:=by omega
  have h5:(dq l).getD n 0=(dq l)[n]:=by rw[bp,bm hlt];rfl
  rw[h5]
  conv=>lhs;rw[<-lZ n (dq l)]
  congr 1;rw[bL hlt,br (by omega)]
 have h4:=ae3 (Γ:=Γ) A ((dq l).take n) s ((dq l).getD n 0) (by rw[fI];omega);have c1:=oh (A:=A) (l:=l) (s:=s) (g:=none);have c2:=oh (A:=A) (l:=swp l 0 n) (s:=s) (g:=none);have c3:=oh (A:=A) (l:=dq l) (s:=s) (g:=none);rw[<-e2]at h4;rw[e]at h3;rw[hn]at h1 h2 c1;rw[dH,hn]at c2;rw[el,hn]at c3
 have en:l.length-1=n:=by omega
 have hn40:n<2^40:=by omega
 rw[en];clear hn en h0 hl el e2 e;generalize(dq l).getD n 0=x at*;generalize(dq l).take n=l' at*;generalize hP A l s none=X at*;generalize hP A (swp l 0 n) s none=Y at*;generalize hP A (dq l) s none=Z at*;refine .bt 60 U6 ?_;simp[c1];refine .aX 60 h1 ?_;simp(disch:=omega) [c1];simp at h2 h3;refine .aX 60 h2 ?_;simp(disch:=omega) [c2];refine .aX 60 h3 ?_;simp(disch:=omega) [c3];refine .aX 60 h4 ?_;simp
theorem Reach.af6{P:Program}{fn:FuncId}{k:List It}{ds:List dt}{kind:FK}{base:Nat}{up:List Fr}{h h':List Ob}{t:List AV}{d:Option Nat}{a:AO}{os:List AG}{l:Nat}{args:List AV}{v:AV}{C:AM.an}
 (ha:ay P Γ t h a=.yield l args)(hb:AM.Reach P Γ ((jj.yl l).cfg args (⟨.run,fn,.ops (⟨d,none,a⟩::os)::k,t,ds,kind,base⟩::up) h) (.back (⟨.run,fn,.ops (⟨d,none,a⟩::os)::k,t,ds,kind,base⟩::up) v h'))
 (hn:AM.Reach P Γ (.fr ⟨.run,fn,.ops os::k,a8 t d v,ds,kind,base⟩ up h') C):AM.Reach P Γ (.fr ⟨.run,fn,.ops (⟨d,none,a⟩::os)::k,t,ds,kind,base⟩ up h) C:=by
 refine .aR 1 ?_;rw[agr,ha];exact .trans hb (.trans (.pop _) hn)
theorem Lg(pl:List (Bs×Nat)):∀(l:List Gt)(i:Nat)(nd b:List (List Nat)),(fq pl l i nd b).1.length=nd.length+l.length
 |[],_,_,_=>by simp[fq]
 |g::r,i,nd,b=>by rw[fq,Lg pl r];simp;omega
theorem Lf(pl:List (Bs×Nat)):∀(l:List Gt)(i:Nat)(nd b:List (List Nat)),(fq pl l i nd b).2.length=b.length
 |[],_,_,_=>by simp[fq]
 |g::r,i,nd,b=>by rw[fq,Lf pl r,xo]
theorem tP(c:Ct):(dU c).length=c.af.length:=by rw[dU,Lg];simp
theorem gJ(c:Ct):(bF c).length=c.af.length:=by rw[bF,Lf];simp
def aC(c:Ct)(M:List Ob)(nd:List (List Nat)):List Ob:=hQ (gS c M) nd (bF c)++[.cells [.sl (M.length+7) 0 c.af.length,.sl (M.length+8) 0 c.af.length]]
def tC(c:Ct)(n:Nat)(nd:List (List Nat)):List Ob:=
 gZ c n (.sl (n+7) 0 c.af.length) (.sl (n+8) 0 c.af.length)++(hF (n+6) c.af.length nd.length (bF c)++((bF c).map fA++nd.map gX))++[.cells [.sl (n+7) 0 c.af.length,.sl (n+8) 0 c.af.length]]
section
variable{c:Ct}{M:List Ob}{nd:List (List Nat)}
theorem xL:aC c M nd=M++tC c M.length nd:=by
 have hl:(M++gZ c M.length (.sl (M.length+7) 0 c.af.length) (.sl (M.length+8) 0 c.af.length)).length=M.length+6:=by simp[gZ]
 simp only[aC,hQ,tC,gS,hl,gJ,gf]
theorem pk(hn:nd.length=c.af.length):(aC c M nd).length=M.length+(10+(c.af.length+c.af.length)):=by
 simp[aC,lD,jZ,gJ,hn];omega
theorem B2{i:Nat}(h:i<(hQ (gS c M) nd (bF c)).length):(aC c M nd)[i]? =(hQ (gS c M) nd (bF c))[i]? :=by rw[aC,cV h]
theorem GV(hn:nd.length=c.af.length):(aC c M nd)[M.length+(9+(c.af.length+c.af.length))]? =some (.cells [.sl (M.length+7) 0 c.af.length,.sl (M.length+8) 0 c.af.length]):=by
 have hl:(hQ (gS c M) nd (bF c)).length=M.length+(9+(c.af.length+c.af.length)):=by rw[lD,jZ,gJ,hn];omega
 rw[aC,dF (by omega),hl,Dx];rfl
theorem Qk(hn:nd.length=c.af.length):(aC c M nd)[M.length+7]? =some (.row 1 jW (dz (M.length+6) c.af.length c.af.length) none (decide (c.af.length=0)) false):=by
 have h:=G7 (H:=gS c M) (nd:=nd) (b:=bF c);rw[jZ,gJ,hn]at h
 rw[B2 (by rw[lD,jZ];omega)];exact h
theorem ag2:(aC c M nd)[M.length+8]? =some (.row 1 iZ (fF (M.length+6) (bF c)) none (decide (c.af.length=0)) false):=by
 have h:=Ql (H:=gS c M) (nd:=nd) (b:=bF c);rw[jZ,gJ]at h
 rw[B2 (by rw[lD,jZ];omega)];exact h
theorem ag6{k:Nat}(hk:k<c.af.length):(aC c M nd)[M.length+(9+k)]? =some (fA ((bF c).getD k [])):=by
 have h:=GQ (H:=gS c M) (nd:=nd) (b:=bF c) (k:=k) (by rw[gJ];exact hk);rw[jZ]at h
 rw[B2 (by rw[lD,jZ,gJ];omega),show M.length+(9+k)=M.length+6+(3+k) by omega,h,bp,bm (by rw[gJ];exact hk)];rfl
theorem P0{i:Nat}(hn:nd.length=c.af.length)(hi:i<c.af.length):(aC c M nd)[M.length+(9+(c.af.length+i))]? =some (gX (nd.getD i [])):=by
 have h:=P8 (H:=gS c M) (nd:=nd) (b:=bF c) (i:=i) (by omega);rw[jZ,gJ]at h
 rw[B2 (by rw[lD,jZ,gJ];omega),show M.length+(9+(c.af.length+i))=M.length+6+(3+(c.af.length+i)) by omega,h,bp,bm (by omega)];rfl
theorem ad6{i:Nat}(l:List Nat)(hn:nd.length=c.af.length)(hi:i<c.af.length):(aC c M nd).set (M.length+(9+(c.af.length+i))) (gX l)=aC c M (nd.set i l):=by
 have h:=OA (H:=gS c M) (b:=bF c) (nd:=nd) (i:=i) l (by omega);rw[jZ,gJ]at h;rw[aC,kz _ _ (by rw[lD,jZ,gJ];omega),show M.length+(9+(c.af.length+i))=M.length+6+(3+(c.af.length+i)) by omega,h,aC]
theorem afC(c:Ct){n m:Nat}(h:n+8<m):cI m (gZ c n (.sl (n+7) 0 c.af.length) (.sl (n+8) 0 c.af.length))=true:=by
 have h2:=nX m (cj c)
 simp[gZ,h2];omega
theorem Pf(hv:dY M){i m:Nat}(hi:M.length+(9+c.af.length)<=i):cJ i m (aC c M nd)=true:=by
 have h1:=hv i m (by omega);have h2:=pg i m (cj c)
 have h3:c8 i m (fF (M.length+6) (bF c))=true:=FW _ fun j hj he=>by rw[gJ]at hj;omega
 have h4:=EY (n:=M.length+6) (N:=c.af.length) (m:=nd.length) (i:=i) (q:=m);rw[xL,iU,tC,iU,iU,iU,iU,h1,Bb,AQ];simp[gZ,hF,h2,h3,h4];omega
theorem afM{r m:Nat}(n:Nat)(hr:r<n):cJ r m (tC c n nd)=true:=by
 have h2:=pg r m (cj c)
 have h3:c8 r m (fF (n+6) (bF c))=true:=FW _ fun j hj he=>by omega
 have h4:=EY (n:=n+6) (N:=c.af.length) (m:=nd.length) (i:=r) (q:=m);rw[tC,iU,iU,iU,iU,Bb,AQ];simp[gZ,hF,h2,h3,h4];omega
end
end Go.Proofs.YtihmomicdpkabaaGreatDoor
