/- Factors: how many rows have a literal; rows without literals; an and of literals; the literal that most rows have. -/
import Derived.Test.YtihmomicdpkabaaGreatDoorG
import Derived.Test.YtihmomicdpkabaaGreatDoorF
import Derived.Test.YtihmomicdpkabaaGreatDoorCode
import Derived.Test.YtihmomicdpkabaaGreatDoorAMd
set_option linter.unusedSimpArgs false
set_option linter.unusedVariables false
namespace Go.Proofs.YtihmomicdpkabaaGreatDoor
open Go.AM Go.Proofs
variable{Γ:Nat->Option AV}
def dI(x:Li):List Bs->Nat
 |[]=>0
 |s::r=>(if cJ x s=true then 1 else 0)+dI x r
theorem LA(x:Li):∀r:List Bs,dI x r<=r.length
 |[]=>aU _
 |s::r=>by rw[dI,bP];have:=LA x r;split<;>omega
theorem FG(rows:List Bs)(x:Li){k:Nat}(hk:Kd 1 k rows)(hl:rows.length<2^40)(hs:∀s∈rows,s.length<2^40):aP Tryz.prog Γ tc [.list false k (rows.map .str),dK x] (.int .i64 (dI x rows)):=by
 have key:∀n i:Nat,i+n=rows.length->∀a:Nat,a+n<2^41->ay Tryz.prog Γ (yAl (.ptr 0 0) (.int .i64 a) (.list false k (rows.map .str)) (.int .i64 rows.length) (.int .i64 i) [.cells (dK x).cells]) (.ret (.int .i64 (a+dI x (rows.drop i):Nat))):=by
  intro n
  induction n with
  |zero=>
   intro i hi a ha
   have q1:¬i<rows.length:=by omega
   rw[bw (by omega),dI];refine .go 60 ?_;simp[q1];exact .back (by simp)
  |succ n ih=>
   intro i hi a ha
   have q1:i<rows.length:=by omega
   have q2:=cv (hk.of q1)
   have hw:cO [.cells (dK x).cells,.cells (dK x).cells]:=by intro m hm;simp
   have hc:=(Gv (Γ:=Γ) x 1 [rows[i]] (by intro s h;simp only[dC]at h;subst h;exact hs _ (bC q1))).2 rows[i] (by simp);rw[bM q1,dI];refine .go 60 ?_;simp(disch:=omega) [q1,q2];refine .bd 60 (Pd x) ?_;simp;refine .bd 60 (fun up=>hc up [.cells (dK x).cells,.cells (dK x).cells] ⟨rfl,hw⟩) ?_
   by_cases h3:cJ x rows[i]=true
   ·have hh:=ih (i+1) (by omega) (a+1) (by omega);simp(disch:=omega) [h3];refine .aL ?_;simp;refine .drop 1 rfl (by simp) (by simp) (by simp) ?_;simp[q2,<-Int.add_assoc]at hh⊢;exact hh
   ·have hh:=ih (i+1) (by omega) a (by omega);simp(disch:=omega) [h3];refine .aL ?_;simp;refine .drop 1 rfl (by simp) (by simp) (by simp) ?_;simp[q2]at hh⊢;exact hh
 refine .run 60 Vy (by simp) ?_;simp;refine .inLoop ?_;have hh:=key rows.length 0 (by omega) 0 (by omega);simp at hh⊢;exact hh
def fm(l:List Li)(s:Bs):Bs:=l.foldl (fun b x=>b.set x.1 45) s
theorem p6:∀(l:List Li)(s:Bs),(fm l s).length=s.length
 |[],s=>rfl
 |x::l,s=>by have:=p6 l (s.set x.1 45);simpa[fm]using this
theorem aco:eT 45=.int .u8 45:=rfl
theorem YX(l:List Li)(x:Li)(s:Bs):fm (l++[x]) s=(fm l s).set x.1 45:=by simp[fm]
set_option maxRecDepth 8000 in
theorem adG(l:List Li){kl:Nat}(hkl:Kd 2 kl l)(hll:l.length<2^40)(s:Bs)(hx:∀x∈l,x.1<s.length)(hs:s.length<2^40)(o0 o1:Ob)(x1 x5 x11 x12 x13:AV)(up:List Fr)(hb:aK 3 [x1,x5,x11,x12,x13]=true)(ho:cE 3 [o0,o1]=true):
 ∀n i:Nat,i+n=l.length->AM.Reach Tryz.prog Γ (yBc x1 x5 (.sl 2 0 s.length) x11 x12 x13 (.list false kl (l.map dK)) (.int .i64 l.length) (.int .i64 i) [o0,o1,.row 1 FD ((fm (l.take i) s).map eT) none true false] ⟨[],.norm,0,up⟩)
  (yBd x1 x5 (.sl 2 0 s.length) x11 x12 x13 [o0,o1,.row 1 FD ((fm l s).map eT) none true false] ⟨[],.norm,0,up⟩):=by
 intro n
 induction n with
 |zero=>
  intro i hi
  have q1:¬i<l.length:=by omega
  rw[cS (by omega)];refine .dN 60 ?_;simp[q1];exact .exit rfl rfl
 |succ n ih=>
  intro i hi
  have q1:i<l.length:=by omega
  have q2:=cv (hkl.of q1);have q3:=hx l[i] (bC q1);have hh:=ih (i+1) (by omega);rw[k5 q1,YX]at hh
  have q4:l[i].1<(fm (l.take i) s).length:=by rw[p6];exact q3
  refine .dN 60 ?_;simp(disch:=omega) [q1,q2,q3,q4,p6];refine .aL ?_;simp;refine .mT 3 rfl (by simp) (by simpa using hb) (by simpa using ho) ?_;simp[aco]at hh⊢;exact hh
def dq(l:List Li)(rows:List Bs):List Bs:=rows.map (fm l)
theorem MH(rows:List Bs)(l:List Li){k kl:Nat}(hk:Kd 1 k rows)(hkl:Kd 2 kl l)(hr:rows.length<2^40)(hll:l.length<2^40)(hs:∀s∈rows,s.length<2^40/\∀x∈l,x.1<s.length):
 aP Tryz.prog Γ pT [.list false k (rows.map .str),.list false kl (l.map dK)] (.own 1 aE ((dq l rows).map .str)):=by
 have key:∀n i:Nat,i+n=rows.length->∀out:List Bs,out.length=i->ay Tryz.prog Γ (yBf (.list false kl (l.map dK)) (.sl 1 0 out.length) (.list false k (rows.map .str)) (.int .i64 rows.length) (.int .i64 i) [.row 1 aE [] none true false,.row 1 aE (out.map .str) none true false])
  (.ret (.own 1 aE ((out++dq l (rows.drop i)).map .str))):=by
  intro n
  induction n with
  |zero=>
   intro i hi out ho
   have q1:¬i<rows.length:=by omega
   rw[bw (by omega)];refine .go 60 ?_;simp[q1,dq];exact .back (by simp)
  |succ n ih=>
   intro i hi out ho
   have q1:i<rows.length:=by omega
   have q2:=cv (hk.of q1);obtain⟨h1,h2⟩:=hs rows[i] (bC q1);have hh:=ih (i+1) (by omega) (out++[fm l rows[i]]) (by simp[ho])
   have e:out++dq l (rows.drop i)=out++[fm l rows[i]]++dq l (rows.drop (i+1)):=by rw[bM q1,eQ];rfl
   rw[e];have h4:=adG (Γ:=Γ) l hkl hll rows[i] h2 h1 (.row 1 aE [] none true false) (.row 1 aE (out.map .str) none true false) (.list false kl (l.map dK)) (.sl 1 0 out.length) (.list false k (rows.map .str)) (.int .i64 rows.length) (.int .i64 i) [] (by simp) (by simp) l.length 0 (by omega);refine .go 60 ?_;simp(disch:=omega) [q1,q2];refine .inLoop ?_;have h0:fm [] rows[i]=rows[i]:=rfl;have hcl:=p6 l rows[i];simp[h0]at h4⊢;refine .reach h4 ?_;refine .go 60 ?_;have htk:List.take (List.length rows[i]) (List.map eT (fm l rows[i]))=List.map eT (fm l rows[i]):=cS (by simp[hcl]);simp(disch:=omega) [hcl,htk];refine .aL ?_;simp;refine .drop 2 rfl (by simp) (by simp) (by simp) ?_;refine .reset (i:=1) rfl (by simp) (by simp) (by simp) ?_;simp[q2]at hh⊢;exact hh
 refine .run 60 U7 (by simp) ?_;simp;refine .inLoop ?_;have hh:=key rows.length 0 (by omega) [] rfl;simp at hh⊢;exact hh
def rQ:List Fm->Bool
 |[f]=>decide (f.kind=1)
 |_=>false
def jw(r:List Fm):List Fm:=if rQ r=true then[]else r
def pe(n:Nat):List Fm:=if 1<n then[⟨3,0,n⟩]else[]
def ei(l:List Li)(r:List Fm):List Fm:=pe (l.length+min (jw r).length 1)++l.map dT++jw r
theorem uo(l:List Li){kl:Nat}(hkl:Kd 2 kl l)(hll:l.length<2^40)(hx:∀x∈l,x.1<2^40)(r:List Fm){kr:Nat}(hkr:Kd 3 kr r)(hr:r.length<2^40)(fl:Bool):
 ∀n i:Nat,i+n=l.length->∀out:List Fm,out.length<=i+1->ay Tryz.prog Γ (yAE (.list fl kr (r.map a8)) (.sl 1 0 out.length) (.list false kl (l.map dK)) (.int .i64 l.length) (.int .i64 i) [.row 3 aS [] none true false,.row 3 aS (out.map a8) none true false])
  (.ret (.own 3 aS ((out++(l.drop i).map dT++r).map a8))):=by
 intro n
 induction n with
 |zero=>
  intro i hi out ho
  have q1:¬i<l.length:=by omega
  rw[bw (by omega)];have hkr':kr=3\/r=[]:=hkr;refine .go 60 ?_
  by_cases hr0:r=[]
  ·simp(disch:=omega) [q1,hkr',hr0];exact .back (by simp)
  ·obtain rfl:kr=3:=hkr'.resolve_right hr0;simp(disch:=omega) [q1,hr0];exact .back (by simp)
 |succ n ih=>
  intro i hi out ho
  have q1:i<l.length:=by omega
  have q2:=cv (hkl.of q1);have hp:=adi (Γ:=Γ) l[i] (hx _ (bC q1));have hh:=ih (i+1) (by omega) (out++[dT l[i]]) (by simp;omega)
  have e:out++(l.drop i).map dT++r=out++[dT l[i]]++(l.drop (i+1)).map dT++r:=by rw[bM q1];simp only[b9,eQ,eP,kY]
  rw[e];refine .go 60 ?_;simp(disch:=omega) [q1,q2];refine .call 60 (by simp) hp ?_;simp(disch:=omega);refine .aL ?_;simp;refine .drop 2 rfl (by simp) (by simp) (by simp) ?_;refine .reset (i:=1) rfl (by simp) (by simp) (by simp) ?_;simp[q2]at hh⊢;exact hh
theorem BJ:lE (.int .i64 0) [.int .i64 1]=some (.int .i64 0):=rfl
theorem qz:lE (.int .i64 1) [.int .i64 1]=some (.int .i64 1):=rfl
theorem BQ(n:Nat):lE (.int .i64 ((n:Int)+1)) [.int .i64 1]=some (.int .i64 1):=by
 by_cases h:(1:Int)<(n:Int)+1
 ·simp only[lE,cq,if_pos h]
 ·have e:(n:Int)+1=1:=by omega
  rw[e];rfl
set_option maxRecDepth 8000 in
theorem GD(l:List Li){kl:Nat}(hkl:Kd 2 kl l)(hll:l.length<2^40)(hx:∀x∈l,x.1<2^40)(r:List Fm){kr:Nat}(hkr:Kd 3 kr r)(hr:r.length<2^40):
 aP Tryz.prog Γ ru [.list false kl (l.map dK),.list false kr (r.map a8)] (.own 3 aS ((ei l r).map a8)):=by
 refine .run 100 We (by simp) ?_;have q0:(1<l.length+min (jw r).length 1)\/¬(1<l.length+min (jw r).length 1):=Decidable.em _
 cases r with
 |nil=>
  have e0:jw []=[]:=rfl;unfold ei pe;rw[e0]at q0⊢;simp only[dh,Nat.zero_min,gW]at q0⊢;have q3i:((1:Int)<l.length)=(1<l.length):=propext (by omega)
  rcases q0 with q0|q0
  ·have hh:=uo (Γ:=Γ) l hkl hll hx [] (kr:=kr) (.inr rfl) (by simp) false l.length 0 (by omega) [⟨3,0,l.length⟩] (by simp);simp(disch:=omega) [q0,BJ,qz,q3i];refine .inLoop ?_;simp;refine .drop 2 rfl (by simp) (by simp) (by simp) ?_;refine .reset (i:=1) rfl (by simp) (by simp) (by simp) ?_;simp[q0]at hh⊢;exact hh
  ·have hh:=uo (Γ:=Γ) l hkl hll hx [] (kr:=kr) (.inr rfl) (by simp) false l.length 0 (by omega) [] (by simp);simp(disch:=omega) [q0,BJ,qz,q3i];refine .inLoop ?_;simp[q0]at hh⊢;exact hh
 |cons f r=>
  obtain rfl:kr=3:=hkr.of (i:=0) (by simp)
  by_cases ht:rQ (f::r)=true
  ·have e0:jw (f::r)=[]:=by rw[jw,if_pos ht]
   obtain⟨hf,rfl⟩:f.kind=1/\r=[]:=by
    cases r with
    |nil=>simpa[rQ]using ht
    |cons _ _=>cases ht
   unfold ei pe;rw[e0]at q0⊢;simp only[dh,Nat.zero_min,gW]at q0⊢;have q3i:((1:Int)<l.length)=(1<l.length):=propext (by omega)
   rcases q0 with q0|q0
   ·have hh:=uo (Γ:=Γ) l hkl hll hx [] (kr:=3) (.inr rfl) (by simp) false l.length 0 (by omega) [⟨3,0,l.length⟩] (by simp);simp(disch:=omega) [q0,BJ,qz,q3i,hf];refine .inLoop ?_;simp;refine .trees [1] ?_;simp;refine .gc 1 [1] (by simp) (by decide) ?_;simp;refine .reset (i:=1) rfl (by simp) (by simp) (by simp) ?_;simp[q0]at hh⊢;exact hh
   ·have hh:=uo (Γ:=Γ) l hkl hll hx [] (kr:=3) (.inr rfl) (by simp) false l.length 0 (by omega) [] (by simp);simp(disch:=omega) [q0,BJ,qz,q3i,hf];refine .inLoop ?_;simp;refine .trees [1] ?_;simp;refine .gc 1 [1] (by simp) (by decide) ?_;simp[q0]at hh⊢;exact hh
  ·have e0:jw (f::r)=f::r:=by rw[jw,if_neg ht]
   unfold ei pe;rw[e0]at q0⊢
   have e1:min (f::r).length 1=1:=by simp
   have e2:((r.length:Int)+1=1)=(r=[]):=propext ⟨fun h=>kU.1 (by omega),fun h=>by rw[h];rfl⟩
   have e4:f.kind=1->¬r=[]:=fun h h2=>ht (by rw[h2];simp[rQ,h])
   rw[e1]at q0⊢
   rcases q0 with q0|q0
   ·have q3:0<l.length:=by omega
    have q3i:((1:Int)<(l.length:Int)+1)=True:=cv (by omega);have hh:=uo (Γ:=Γ) l hkl hll hx (f::r) (kr:=3) (.inl rfl) hr false l.length 0 (by omega) [⟨3,0,l.length+1⟩] (by simp)
    by_cases h5:r=[]
    ·have h6:¬f.kind=1:=fun h=>e4 h h5
     simp(disch:=omega) [h5,h6,q3,qz,BQ,q3i];refine .inLoop ?_;simp;refine .drop 2 rfl (by simp) (by simp) (by simp) ?_;refine .reset (i:=1) rfl (by simp) (by simp) (by simp) ?_;simp[q3,q3i,h5]at hh⊢;exact hh
    ·simp(disch:=omega) [h5,q3,qz,BQ,q3i,e2];refine .inLoop ?_;simp;refine .drop 2 rfl (by simp) (by simp) (by simp) ?_;refine .reset (i:=1) rfl (by simp) (by simp) (by simp) ?_;simp[q3,q3i,h5]at hh⊢;exact hh
   ·have q3:l.length=0:=by omega
    have q3i:((1:Int)<1)=False:=j7 (by omega);obtain rfl:l=[]:=kU.1 q3;have hh:=uo (Γ:=Γ) [] hkl hll hx (f::r) (kr:=3) (.inl rfl) hr false 0 0 (by simp) [] (by simp)
    by_cases h5:r=[]
    ·have h6:¬f.kind=1:=fun h=>e4 h h5
     simp(disch:=omega) [h5,h6,qz,BQ,q3i];refine .inLoop ?_;simp[h5]at hh⊢;exact hh
    ·simp(disch:=omega) [h5,qz,BQ,q3i,e2];refine .inLoop ?_;simp[h5]at hh⊢;exact hh
def ly(rows:List Bs)(b:Li×Nat)(x:Li):Li×Nat:=if b.2<dI x rows then(x,dI x rows)else b
def m5(rows:List Bs):Nat->Nat->Li×Nat->Li×Nat
 |0,_,b=>b
 |n+1,i,b=>m5 rows n (i+1) (ly rows (ly rows b (i,49)) (i,48))
def cQ(rows:List Bs)(n:Nat):Li×Nat:=m5 rows n 0 ((0,0),0)
theorem n9:Utf8.decode {data:=#[49,48]} 0=(49,1):=by kernel_rfl
theorem uQ:Utf8.decode {data:=#[49,48]} 1=(48,1):=by kernel_rfl
set_option maxRecDepth 8000 in
theorem ab9(rows:List Bs){k:Nat}(hk:Kd 1 k rows)(hl:rows.length<2^40)(hs:∀s∈rows,s.length<2^40)(L:Nat)(hL:L<2^40):∀n i:Nat,i+n=L->∀b:Li×Nat,
 ay Tryz.prog Γ (yBF (.list false k (rows.map .str)) (.ptr 0 0) (.ptr 1 0) (.int .i64 b.2) (.int .i64 L) (.int .i64 i) [.cells [.int .i64 0,.int .i64 0],.cells (dK b.1).cells]) (.ret (.aH [dK (m5 rows n i b).1,.int .i64 (m5 rows n i b).2])):=by
 intro n
 induction n with
 |zero=>
  intro i hi b
  have q1:¬i<L:=by omega
  refine .go 60 ?_;simp[q1];exact .back (by simp[m5])
 |succ n ih=>
  intro i hi b
  have q1:i<L:=by omega
  have hc1:=FG (Γ:=Γ) rows (i,49) hk hl hs;have hc2:=FG (Γ:=Γ) rows (i,48) hk hl hs;rw[m5]
  have half:∀b1:Li×Nat,ay Tryz.prog Γ (yBD (.list false k (rows.map .str)) (.ptr 0 0) (.ptr 1 0) (.int .i64 b1.2) (.int .i64 i) (.int .i64 L) (.int .i64 i) (.it 2) [.cells [.int .i64 0,.int .i64 0],.cells (dK b1.1).cells,.gK [49,48] 1])
   (.ret (.aH [dK (m5 rows n (i+1) (ly rows b1 (i,48))).1,.int .i64 (m5 rows n (i+1) (ly rows b1 (i,48))).2])):=by
   intro b1;have hh:=ih (i+1) (by omega) (ly rows b1 (i,48));refine .go 60 ?_;simp(disch:=omega) [n9,uQ];refine .call 60 (by simp) hc2 ?_
   by_cases h1:b1.2<dI (i,48) rows
   ·have e1:ly rows b1 (i,48)=((i,48),dI (i,48) rows):=if_pos h1;rw[e1]at hh⊢;simp(disch:=omega) [h1];refine .aL ?_;refine .go 60 ?_;simp(disch:=omega) [n9,uQ];refine .aL ?_;simp;refine .drop 2 rfl (by simp) (by simp) (by simp) ?_;simp at hh⊢;exact hh
   ·have e1:ly rows b1 (i,48)=b1:=if_neg h1;rw[e1]at hh⊢;simp(disch:=omega) [h1];refine .aL ?_;refine .go 60 ?_;simp(disch:=omega) [n9,uQ];refine .aL ?_;simp;refine .drop 2 rfl (by simp) (by simp) (by simp) ?_;simp at hh⊢;exact hh
  refine .go 60 ?_;simp(disch:=omega) [q1];refine .inLoop ?_;refine .go 60 ?_;simp(disch:=omega) [n9,uQ];refine .call 60 (by simp) hc1 ?_
  by_cases h1:b.2<dI (i,49) rows
  ·have e1:ly rows b (i,49)=((i,49),dI (i,49) rows):=if_pos h1;have hh:=half ((i,49),dI (i,49) rows);rw[e1];simp(disch:=omega) [h1];refine .aL ?_;simp;refine .drop 3 rfl (by simp) (by simp) (by simp) ?_;simp at hh⊢;exact hh
  ·have e1:ly rows b (i,49)=b:=if_neg h1;have hh:=half b;rw[e1];simp(disch:=omega) [h1];refine .aL ?_;simp;refine .drop 3 rfl (by simp) (by simp) (by simp) ?_;simp at hh⊢;exact hh
theorem adR(rows:List Bs){k:Nat}(hk:Kd 1 k rows)(hl:rows.length<2^40)(hs:∀s∈rows,s.length<2^40)(L:Nat)(s:Bs)(h0:rows[0]? =some s)(hL:s.length=L):
 aP Tryz.prog Γ tj [.list false k (rows.map .str)] (.aH [dK (cQ rows L).1,.int .i64 (cQ rows L).2]):=by
 have q1:0<rows.length:=(dD.1 h0).1;have q3:rows[0]=s:=(dD.1 h0).2;have q2:=cv (hk.of q1)
 have hLb:L<2^40:=by rw[<-hL,<-q3];exact hs _ (bC q1)
 have hh:=ab9 (Γ:=Γ) rows hk hl hs L hLb L 0 (by omega) ((0,0),0);refine .run 60 Wa (by simp) ?_;simp(disch:=omega) [q1,q2,q3,hL];refine .inLoop ?_;simp[cQ,q2]at hh⊢;exact hh
abbrev gO(l:List Bs):Ob:=.row 1 aE (l.map .str) none true false
theorem E4{h:List Ob}{i:Nat}{o:Ob}(hi:h[i]? =some o):h.set i o=h:=by
 apply ji;intro j
 by_cases hj:i=j
 ·subst hj;rw[er (aV hi),hi]
 ·rw[dB hj]
theorem K3{α:Type}(p:α->Bool):∀(l:List α)(i:Nat),(ey p l i=-1/\l.filter (fun x=>!p x)=l)\/∃k,k<l.length/\ey p l i=((i+k:Nat):Int)/\(l.take (k+1)).filter (fun x=>!p x)=l.take k
 |[],i=>.inl ⟨rfl,rfl⟩
 |x::xs,i=>by
  rw[ey]
  cases h:p x with
  |true=>right;exact⟨0,by simp,by simp,by simp[h]⟩
  |false=>
   rcases K3 p xs (i+1)with⟨h1,h2⟩|⟨k,h1,h2,h3⟩
   ·left;exact⟨by simpa using h1,by rw[xZ];simp[h,h2]⟩
   ·right;exact⟨k+1,by simp;omega,by rw[if_neg (by simp),h2];congr 1;omega,by simp[h,h3]⟩
theorem Wy{φ:List Ob->Prop}{f:FuncId}{caps:List AV}{p:Bs->Bool}{l:List Bs}(ha:iH Tryz.prog Γ φ f caps AV.str p l)(hs:l.length<2^60){h:List Ob}{r:Nat}(hr:h[r]? =some (gO l))(hφ:φ h):
 ∀up,AM.Reach Tryz.prog Γ (.cl ra [.sl r 0 l.length,.fn (.func f) [] caps] up h) (.back up (.int .i64 (ey p l 0)) h):=by
 intro up
 have key:∀n i:Nat,i+n=l.length->AM.Reach Tryz.prog Γ (RH (.sl r 0 l.length) (.fn (.func f) [] caps) (.int .i64 l.length) (.int .i64 i) h ⟨[],.norm,h.length,up⟩) (.back up (.int .i64 (ey p (l.drop i) i)) h):=by
  intro n
  induction n with
  |zero=>
   intro i hi
   have h1:¬i<l.length:=by omega
   refine .bf 60 ?_;rw[bw (by omega)];simp[h1,ey]
  |succ n ih=>
   intro i hi
   have h1:i<l.length:=by omega
   have h2:=ha.2 l[i] (bC h1);rw[bM h1,ey];have hh:=ih (i+1) (by omega);refine .bf 60 ?_;simp[h1,ha.1,hr];refine .bd 60 (fun up=>h2 up h hφ) ?_
   cases hp:p l[i]with
   |true=>simp(disch:=omega) [hp]
   |false=>
    simp(disch:=omega) [hp];refine .aL ?_;simp at hh⊢;exact hh
 refine .bF 60 Jo ?_;simp;refine .inLoop ?_;have hh:=key l.length 0 (by omega);simp at hh⊢;exact hh
section
variable{φ:List Ob->Prop}{f:FuncId}{caps:List AV}{p:Bs->Bool}{l:List Bs}
abbrev nV:Ob:=.row 1 aE [] none true false
def bA(p:Bs->Bool)(l:List Bs):List Bs:=l.filter fun x=>!p x
set_option maxRecDepth 8000 in
theorem aeG(ha:iH Tryz.prog Γ φ f caps AV.str p l)(hs:l.length<2^40){h:List Ob}{r:Nat}(hr:r<h.length)(hφ:∀l',φ (h.set r (gO l')++[nV]))(up:List Fr):∀n j:Nat,j+n=l.length->∀A B X:List Bs,B≠[]->A=bA p (l.take j)->A.length+B.length=j->X=A++B++l.drop j->
 AM.Reach Tryz.prog Γ (yCg (.sl r 0 l.length) (.fn (.func f) [] caps) (.int .i64 A.length) (.int .i64 j) (h.set r (gO X)++[nV]) ⟨[],.norm,h.length,up⟩)
  (.back up (.sl r 0 (bA p l).length) (h.set r (gO (bA p l++List.replicate (l.length-(bA p l).length) []))++[nV])):=by
 have hlen:∀o,(h.set r o).length=h.length:=by simp
 have g1:∀(o:Ob)(os:List Ob),(h.set r o++os)[r]? =some o:=fun o os=>by rw[cR (by simp;omega)];simp[hr]
 have g2:∀(o o':Ob)(os:List Ob),(h.set r o++os).set r o'=h.set r o'++os:=fun o o' os=>by rw[j8 _ _ (by simpa using hr)];simp
 intro n
 induction n with
 |zero=>
  intro j hj A B X hB hA hAB hX
  have q1:¬j<l.length:=by omega
  have q2:l.take j=l:=cS (by omega);rw[q2]at hA;rw[bw (by omega),fZ]at hX
  have x1:X.length=l.length:=by rw[hX,bR];omega
  have x2:List.take A.length (List.map AV.str X)=List.map AV.str A:=by rw[hX,kZ,vn (by simp)]
  have x3:List.drop l.length (List.map AV.str X)=[]:=bw (by simp;omega);rw[<-hA];refine .bf 60 ?_;simp(disch:=omega) [q1,g1,g2,x1,x2,x3,gO]
 |succ n ih=>
  intro j hj A B X hB hA hAB hX
  have q1:j<l.length:=by omega
  have x1:X.length=l.length:=by rw[hX,bR,bR,CX];omega
  have x4:j<X.length:=by omega
  have x2:X[j]=l[j]:=by
   subst hX;rw[C1 (by simp;omega)];simp[hAB]
  have h2:=ha.2 l[j] (bC q1)
  have x5:bA p (l.take (j+1))=A++(if p l[j]=true then[]else[l[j]]):=by
   rw[k5 q1,bA,List.filter_append,hA]
   cases hp:p l[j]<;>simp[bA,hp]
  refine .bf 60 ?_;simp(disch:=omega) [q1,g1,g2,x1,x2,x4,ha.1];refine .bd 60 (fun up=>h2 up _ (hφ X)) ?_
  cases hp:p l[j]with
  |true=>
   have hh:=ih (j+1) (by omega) A (B++[l[j]]) X (by simp) (by rw[x5,if_pos hp,fZ]) (by simp;omega) (by rw[hX,bM q1];simp);simp(disch:=omega) [hp];refine .aL ?_;simp at hh⊢;exact hh
  |false=>
   obtain⟨b,B',rfl⟩:∃b B',B=b::B':=by
    cases B with
    |nil=>exact absurd rfl hB
    |cons b B'=>exact⟨b,B',rfl⟩
   simp only[bP]at hAB
   have hh:=ih (j+1) (by omega) (A++[l[j]]) (B'++[l[j]]) (X.set A.length l[j]) (by simp) (by rw[x5,hp];rfl) (by simp;omega) (by
    rw[hX,bM q1,eQ,vo _ _ (aU _)];simp)
   have x6:A.length<X.length:=by omega
   simp(disch:=omega) [hp,g1,g2,x6,x1];refine .aL ?_;simp[gO]at hh⊢;exact hh
theorem JW(ha:iH Tryz.prog Γ φ f caps AV.str p l)(hs:l.length<2^40){h:List Ob}{r:Nat}(hr:h[r]? =some (gO l))(hφ:∀l',φ (h.set r (gO l')++[nV]))(hw:cO h):∃es,
 ∀up,AM.Reach Tryz.prog Γ (.cl pQ [.sl r 0 l.length,.fn (.func f) [] caps] up h) (.back up (.sl r 0 (bA p l).length) (h.set r (gO (bA p l++es)))):=by
 have hrl:=aV hr
 have hrr:(h++[nV])[r]? =some (gO l):=by rw[cR hrl];exact hr
 have hφ0:φ (h++[nV]):=by have:=hφ l;rwa[E4 hr]at this
 have hI:=Wy (Γ:=Γ) ha (by omega) hrr hφ0
 have fin:∀es up,AM.Reach Tryz.prog Γ (.cl pQ [.sl r 0 l.length,.fn (.func f) [] caps] up h) (.back up (.sl r 0 (bA p l).length) (h.set r (gO (bA p l++es))++[nV]))->
  AM.Reach Tryz.prog Γ (.cl pQ [.sl r 0 l.length,.fn (.func f) [] caps] up h) (.back up (.sl r 0 (bA p l).length) (h.set r (gO (bA p l++es)))):=by
  intro es up h1;have e1:(h.set r (gO (bA p l++es))++[nV]).take h.length=h.set r (gO (bA p l++es)):=vn (by simp);have h2:=AM.Reach.leave h1 (by simpa using hrl) (by rw[e1];exact(hw.set (fun m hm=>by simp) r) _ (by simp));rwa[e1]at h2
 rcases K3 p l 0 with⟨h1,h2⟩|⟨k,h1,h2,h3⟩
 ·refine⟨[],fun up=>fin _ _ ?_⟩;refine .bF 60 Jm ?_;simp;refine .bd 60 hI ?_;have e1:bA p l=l:=h2;rw[h1,e1];simp[E4 hr]
  done
 ·refine⟨List.replicate (l.length-(bA p l).length) [],fun up=>fin _ _ ?_⟩
  have hd:=aeG (Γ:=Γ) ha hs hrl hφ up (l.length-(k+1)) (k+1) (by omega) (l.take k) [l[k]] l (by simp) h3.symm (by simp;omega) (by
   rw[eQ,qT,<-bM h1,ng])
  have e2:(l.take k).length=k:=by simp;omega
  rw[e2,E4 hr]at hd;refine .bF 60 Jm ?_;simp;refine .bd 60 hI ?_;rw[h2]
  have q3:¬(k:Int)=-1:=by omega
  simp(disch:=omega) [q3];refine .inLoop ?_;simp at hd⊢;exact hd
end
abbrev Bq(x:Nat×List Fm):AV:=.list false x.1 (x.2.map a8)
def cI:List (Nat×List Fm)->List Fm
 |[]=>[]
 |x::xs=>x.2++cI xs
theorem Kf(a b:List (Nat×List Fm)):cI (a++b)=cI a++cI b:=by
 induction a with
 |nil=>rfl
 |cons x a ih=>simp[cI,ih]
theorem LF(xs:List (Nat×List Fm))(i:Nat)(h:i<xs.length):cI (xs.take (i+1))=cI (xs.take i)++xs[i].2:=by
 rw[k5 h,Kf];simp[cI]
theorem NB(xs:List (Nat×List Fm))(i:Nat):(cI (xs.take i)).length<=(cI xs).length:=by
 conv=>rhs;rw[<-ng i xs,Kf]
 simp
set_option maxRecDepth 8000 in
theorem SP(xs:List (Nat×List Fm))(hk:∀x∈xs,Kd 3 x.1 x.2)(hn:xs.length<2^40)(hs:(cI xs).length<2^40)(hp:0<(cI xs).length):
 aP Tryz.prog Γ sP [.list false 1 (xs.map Bq)] (.own 3 aS ((cI xs).map a8)):=by
 refine .run 60 SO (by simp) ?_
 have key2:∀n i:Nat,i+n=xs.length->∀m:Nat,(cI (xs.take i)).length+m=(cI xs).length->
  ay Tryz.prog Γ (yCG (.sl 2 0 (cI (xs.take i)).length) (.list false 1 (xs.map Bq)) (.int .i64 xs.length) (.int .i64 i) [.row 3 aS [] none true false,.row 3 aS [] none true false,.row 3 aS ((cI (xs.take i)).map a8++List.replicate m (AV.agg [AV.int .i64 0,AV.int .i64 0,AV.int .i64 0])) none true false])
   (.ret (.own 3 aS ((cI xs).map a8))):=by
  intro n
  induction n with
  |zero=>
   intro i hi m hm
   have q1:¬i<xs.length:=by omega
   have q2:xs.take i=xs:=cS (by omega);rw[q2]at hm⊢
   have hm0:m=0:=by omega
   subst hm0;refine .go 60 ?_;simp[q1];exact .back (by simp)
  |succ n ih=>
   intro i hi m hm
   have q1:i<xs.length:=by omega
   have q2:=LF xs i q1;have q3:=NB xs (i+1);rw[q2,bR]at q3;have q4:=hk xs[i] (bC q1);have q5:xs[i].1=3\/xs[i].2=[]:=q4;have hh:=ih (i+1) (by omega) (m-xs[i].2.length) (by rw[q2,bR];omega);rw[q2]at hh
   have hd:(List.replicate m (AV.agg [AV.int .i64 0,AV.int .i64 0,AV.int .i64 0])).drop xs[i].2.length=List.replicate (m-xs[i].2.length) (AV.agg [AV.int .i64 0,AV.int .i64 0,AV.int .i64 0]):=by simp
   refine .go 60 ?_
   by_cases q6:(cI (xs.take i)).length=(cI xs).length
   ·have q7:xs[i].2=[]:=kU.1 (by omega)
    have hm0:m=0:=by omega
    subst hm0;simp[q7]at hh;simp(disch:=(first|omega|(simp;omega))) [q1,q5,q7];refine .aL ?_;simp;exact hh
   ·simp(disch:=(first|omega|(simp;omega))) [q1,q5]
    by_cases q7:m=0
    ·omega
    ·have c1:¬(cI (List.take i xs)).length=(cI (List.take i xs)).length+m:=by omega
     have c2:(cI (List.take i xs)).length+xs[i].snd.length<=(cI (List.take i xs)).length+m:=by omega
     simp(disch:=(first|omega|(simp;omega))) [q1,q5,c1,c2,q7];refine .aL ?_;have n9:((cI (xs.take i)).map a8).drop ((cI (xs.take i)).length+xs[i].2.length)=[]:=bw (by simp);simp[u6,hd,n9]at hh⊢;exact hh
 have key1:∀n i:Nat,i+n=xs.length->
  ay Tryz.prog Γ (yCI (.list false 1 (xs.map Bq)) (.int .i64 (cI (xs.take i)).length) (.list false 1 (xs.map Bq)) (.int .i64 xs.length) (.int .i64 i) [.row 3 aS [] none true false])
   (.ret (.own 3 aS ((cI xs).map a8))):=by
  intro n
  induction n with
  |zero=>
   intro i hi
   have q1:¬i<xs.length:=by omega
   have q2:xs.take i=xs:=cS (by omega);have q3:0<(cI xs).length:=hp;have hh:=key2 xs.length 0 (by omega) (cI xs).length (by simp[cI]);refine .go 60 ?_;rw[q2];simp[q1];refine .enter 60 SV ?_
   have q4:¬(cI xs).length=0:=by omega
   have q5:cI xs≠[]:=fun e=>by rw[e]at hp;simp at hp
   obtain⟨m,hm⟩:∃m,(cI xs).length=m+1:=⟨(cI xs).length-1,by omega⟩
   have hrep:List.replicate (cI xs).length (AV.agg [AV.int .i64 0,AV.int .i64 0,AV.int .i64 0])=(AV.agg [AV.int .i64 0,AV.int .i64 0,AV.int .i64 0])::List.replicate m (AV.agg [AV.int .i64 0,AV.int .i64 0,AV.int .i64 0]):=by rw[hm];rfl
   simp(disch:=(first|omega|(simp;omega))) [q3,q4,q5,hrep];refine .inLoop ?_;simp[cI,hrep]at hh⊢;exact hh
  |succ n ih=>
   intro i hi
   have q1:i<xs.length:=by omega
   have q2:=LF xs i q1;have q3:=NB xs (i+1);rw[q2,bR]at q3;have hh:=ih (i+1) (by omega);rw[q2]at hh;refine .go 60 ?_
   have q4:¬((cI (xs.take i)).length:Int)+xs[i].2.length<0:=by omega
   simp(disch:=(first|omega|(simp;omega))) [q1,q4];refine .aL ?_;simp at hh⊢;exact hh
 simp;refine .inLoop ?_;have hh:=key1 xs.length 0 (by omega);simp[cI]at hh⊢;exact hh
def l0(s:Bs):Bool:=s.all fun c=>decide (c=45)
theorem Zc(s:Bs):(Lib.trimS s [45]=[])↔l0 s=true:=by
 have e:(fun c=>([45]:Bs).contains c)=fun c=>decide (c=45):=by funext c;simp[eq_comm]
 unfold Lib.trimS Lib.trimLeftS Lib.trimRightS l0;rw[e];constructor
 ·intro h
  have h1:=dropWhile_nil _ s.reverse fun x hx=>rl.1 h x (by simpa using hx)
  have h2:=rl.1 h1;rw[dE];intro x hx;exact h2 x (by simpa using hx)
 ·intro h
  have h1:s.reverse.dropWhile (fun c=>decide (c=45))=[]:=rl.2 fun x hx=>dE.1 h x (by simpa using hx)
  rw[h1];rfl
theorem acH(s:Bs)(hs:s.length<2^40):aP Tryz.prog Γ s_ [.str s,.str [45]] (.str (Lib.trimS s [45])):=by
 refine aP.Py (by simp) (fun _=>rfl) rfl fun N g h w us _ hV=>?_
 obtain⟨us,rfl,h1⟩:=A_ hV;obtain⟨us,rfl,h2⟩:=A_ h1;obtain rfl:=NX h2;refine(Any.strings_Trim_laid Tryz.Oa (by kernel_rfl) ⟨s.toArray⟩ ⟨([45]:Bs).toArray⟩ w (by simp[ByteArray.size];omega) (by decide) (ascii_of_all (by decide))).mono ?_
 rintro e' w' ⟨rfl,hB⟩
 exact⟨⟨_,rfl,fun _ _=>by simp[V]⟩,hB⟩
theorem adQ(l:List Bs)(hs:∀s∈l,s.length<2^40):iH Tryz.prog Γ (fun _=>True) zi [] AV.str l0 l:=by
 refine⟨by simp,fun s hm up h _=>?_⟩;have hT:=acH (Γ:=Γ) s (hs s hm)
 have h2:decide (Lib.trimS s [45]=[])=l0 s:=by rw[eZ,SH];exact Zc s
 refine .bF 60 Ut ?_;simp;refine .nM 60 (by simp) hT ?_;simp[h2]
theorem aeO(x:Li)(i j:Nat)(l:List Bs)(hl:∀s∈l,s.length<2^40):iH Tryz.prog Γ (fun h=>h[j]? =some (.cells [.fn (.func ov) [] [.ptr i 0]])/\h[i]? =some (.cells (dK x).cells)/\cO h) vF [.ptr j 0] AV.str (fun s=>!cJ x s) l:=by
 refine⟨by simp,fun s hs up h hφ=>?_⟩;have ha:=(Gv (Γ:=Γ) x i l hl).2 s hs;refine .bF 60 Ux ?_;simp[hφ.1];refine .bd 60 (fun up=>ha up h hφ.2) ?_;simp
def dj(rows:List Bs)(s:Bs):List Li:=(bn s 0).filter fun x=>decide (dI x rows=rows.length)
def HO(rows:List Bs):List Fm:=⟨4,0,rows.length⟩::rows.flatMap fun s=>ei (bn s 0) []
def eC:Nat->List Bs->List Fm
 |0,_=>[]
 |_+1,[]=>[⟨0,0,0⟩]
 |f+1,s::r=>
  if br l0 (s::r)=true then[⟨1,0,0⟩]
  else if dj (s::r) s≠[]then ei (dj (s::r) s) (eC f (dq (dj (s::r) s) (s::r)))
  else if(cQ (s::r) s.length).2<2 then HO (s::r)
  else⟨4,0,2⟩::ei [(cQ (s::r) s.length).1] (eC f (dq [(cQ (s::r) s.length).1] (bA (fun t=>!cJ (cQ (s::r) s.length).1 t) (s::r))))++eC f (bA (cJ (cQ (s::r) s.length).1) (s::r))
end Go.Proofs.YtihmomicdpkabaaGreatDoor
namespace Go.Proofs.YtihmomicdpkabaaGreatDoor
open Go.AM Go.Proofs
theorem jN{x:Li}:∀{s:Bs}{i:Nat},x∈bn s i↔i<=x.1/\s[x.1-i]? =some x.2/\x.2≠45
 |[],i=>by simp[bn]
 |c::s,i=>by
  have ih:=jN (x:=x) (s:=s) (i:=i+1)
  have e:i+1<=x.1->(c::s)[x.1-i]? =s[x.1-(i+1)]? :=fun h=>by rw[show x.1-i=(x.1-(i+1))+1 by omega];rfl
  rw[bn]
  by_cases h:c=45
  ·rw[if_pos h,ih];constructor
   ·rintro⟨h1,h2,h3⟩;exact⟨by omega,by rw[e h1];exact h2,h3⟩
   ·rintro⟨h1,h2,h3⟩
    have h4:i+1<=x.1:=by
     refine vl fun hn=>h3 ?_
     rw[show x.1-i=0 by omega]at h2;simp only[pK,aj]at h2;rw[<-h2,h]
    exact⟨h4,by rw[<-e h4];exact h2,h3⟩
  ·rw[if_neg h,bt,ih];constructor
   ·rintro(h1|⟨h1,h2,h3⟩)
    ·subst h1;exact⟨aU _,by simp,h⟩
    ·exact⟨by omega,by rw[e h1];exact h2,h3⟩
   ·rintro⟨h1,h2,h3⟩
    by_cases h4:x.1=i
    ·left;rw[show x.1-i=0 by omega]at h2;simp only[pK,aj]at h2;exact Prod.ext h4 h2.symm
    ·right;exact⟨by omega,by rw[<-e (by omega)];exact h2,h3⟩
theorem Ei:∀(s:Bs)(i:Nat),(bn s i).Pairwise (fun a b=>a.1≠b.1)
 |[],i=>.nil
 |c::s,i=>by
  rw[bn]
  split
  ·exact Ei s (i+1)
  ·refine List.pairwise_cons.2 ⟨fun y hy=>?_,Ei s (i+1)⟩;have:=(jN.1 hy).1
   simp only;omega
theorem K6{x:Li}:∀{s:Bs}{i:Nat},x∈bn s i->(bn (s.set (x.1-i) 45) i).length+1=(bn s i).length
 |[],i,h=>by simp[bn]at h
 |c::s,i,h=>by
  have hm:=jN.1 h
  by_cases h4:x.1=i
  ·have h2:=hm.2.1;rw[show x.1-i=0 by omega]at h2⊢;simp only[pK,aj]at h2
   have h5:¬c=45:=fun hc=>hm.2.2 (by rw[<-h2,hc])
   rw[u0,bn,bn,if_pos rfl,if_neg h5,bP]
  ·have h5:x∈bn s (i+1):=jN.2 ⟨by omega,by have:=hm.2.1;rw[show x.1-i=(x.1-(i+1))+1 by omega]at this;exact this,hm.2.2⟩;have ih:=K6 h5;rw[show x.1-i=(x.1-(i+1))+1 by omega,pF,bn,bn]
   split
   ·exact ih
   ·simp only[bP];omega
theorem Aq:∀(s:Bs)(i:Nat),(bn s i).length<=s.length
 |[],i=>aU _
 |c::s,i=>by rw[bn];have:=Aq s (i+1);split<;>simp only[bP]<;>omega
theorem Lc:∀(l:List Li)(s:Bs),l.Pairwise (fun a b=>a.1≠b.1)->(∀x∈l,x∈bn s 0)->(bn (fm l s) 0).length+l.length=(bn s 0).length
 |[],s,_,_=>rfl
 |x::l,s,hp,hm=>by
  rw[List.pairwise_cons]at hp;have h1:=K6 (hm x (by simp))
  have h2:=Lc l (s.set x.1 45) hp.2 fun y hy=>by
   have h3:=jN.1 (hm y (by simp[hy]));exact jN.2 ⟨by omega,by rw[dB (by have:=hp.1 y hy;omega)];exact h3.2.1,h3.2.2⟩
  simp only[bP];rw[CZ]at h1;have:fm (x::l) s=fm l (s.set x.1 45):=rfl
  rw[this];omega
def bQ:List Bs->Nat
 |[]=>0
 |s::r=>(bn s 0).length+bQ r
theorem EE(l:List Li)(hp:l.Pairwise (fun a b=>a.1≠b.1)):∀rows:List Bs,(∀s∈rows,∀x∈l,x∈bn s 0)->bQ (dq l rows)+rows.length*l.length=bQ rows
 |[],_=>by simp[dq,bQ]
 |s::r,h=>by
  have h1:=EE l hp r fun t ht=>h t (by simp[ht])
  have h2:=Lc l s hp (h s (by simp));simp only[dq,b9,bQ,bP]at h1⊢
  rw[C7];omega
theorem KP(p:Bs->Bool):∀rows:List Bs,bQ (bA p rows)+bQ (bA (fun t=>!p t) rows)=bQ rows
 |[]=>rfl
 |s::r=>by
  have ih:=KP p r
  cases h:p s<;>simp[bA,h,bQ]at ih⊢<;>omega
theorem zJ(x:Li):∀rows:List Bs,(bA (fun t=>!cJ x t) rows).length=dI x rows
 |[]=>rfl
 |s::r=>by
  have ih:=zJ x r
  cases h:cJ x s<;>simp[bA,h,dI]at ih⊢<;>omega
theorem KC{x:Li}:∀{rows:List Bs},dI x rows=rows.length↔∀s∈rows,x∈bn s 0
 |[]=>by simp[dI]
 |s::r=>by
  have ih:=KC (x:=x) (rows:=r);have hle:=LA x r;rw[dI,bP]
  by_cases h:cJ x s=true
  ·rw[if_pos h]
   have h':x∈bn s 0:=by simpa[cJ]using h
   simp only[bt,Ji];rw[<-ih];exact⟨fun h1=>⟨h',by omega⟩,fun h1=>by omega⟩
  ·rw[if_neg h]
   have h':¬x∈bn s 0:=by simpa[cJ]using h
   exact⟨fun h1=>by omega,fun h1=>absurd (h1 s (by simp)) h'⟩
theorem rJ{x:Li}{rows:List Bs}{s:Bs}(h:s∈bA (fun t=>!cJ x t) rows):s∈rows/\x∈bn s 0:=by
 simp only[bA,dP,Bool.not_not]at h;exact⟨h.1,by simpa[cJ]using h.2⟩
theorem MG(rows:List Bs){b:Li×Nat}(hb:0<b.2->b.2=dI b.1 rows)(x:Li):0<(ly rows b x).2->(ly rows b x).2=dI (ly rows b x).1 rows:=by
 unfold ly
 split
 ·intro _;rfl
 ·exact hb
theorem MX(rows:List Bs):∀(n i:Nat)(b:Li×Nat),(0<b.2->b.2=dI b.1 rows)->0<(m5 rows n i b).2->(m5 rows n i b).2=dI (m5 rows n i b).1 rows
 |0,_,b,hb=>hb
 |n+1,i,b,hb=>MX rows n (i+1) _ (MG rows (MG rows hb _) _)
theorem E5(rows:List Bs)(n:Nat):0<(cQ rows n).2->(cQ rows n).2=dI (cQ rows n).1 rows:=MX rows n 0 _ (by simp)
theorem JX(rows:List Bs)(s:Bs):(dj rows s).Pairwise (fun a b=>a.1≠b.1):=(Ei s 0).filter _
theorem zM{rows:List Bs}{s:Bs}{x:Li}(h:x∈dj rows s):∀t∈rows,x∈bn t 0:=by
 simp only[dj,dP,a_]at h;exact KC.1 h.2
theorem EP{s:Bs}:l0 s=true↔bn s 0=[]:=by
 constructor
 ·intro h
  refine Jk.2 fun x hx=>?_
  have:=jN.1 hx;rw[l0,dE]at h;have h2:=h x.2 (ik this.2.1);exact this.2.2 (by simpa using h2)
 ·intro h;rw[l0,dE];intro c hc;obtain⟨i,hi⟩:=List.getElem?_of_mem hc;refine oo (vl fun hn=>?_);have:(i,c)∈bn s 0:=jN.2 ⟨by omega,by simpa using hi,hn⟩;rw[h]at this
  cases this
theorem YC(r:List Fm):(jw r).length<=r.length:=by unfold jw;split<;>simp
theorem Yh(n:Nat):(pe n).length<=1:=by unfold pe;split<;>simp
theorem wC(l:List Li)(r:List Fm):(ei l r).length<=1+l.length+r.length:=by
 have h1:=YC r;have h2:=Yh (l.length+min (jw r).length 1)
 simp only[ei,bR,il];omega
theorem N7:∀rows:List Bs,(rows.flatMap fun s=>ei (bn s 0) []).length<=rows.length+bQ rows
 |[]=>by simp
 |s::r=>by
  have ih:=N7 r;have h:=wC (bn s 0) [];simp only[nq,bR,bP,bQ,dh]at h ih⊢;omega
theorem Lx:∀rows:List Bs,br l0 rows=false->rows.length<=bQ rows
 |[],_=>by simp
 |s::r,h=>by
  rw[gX,jK]at h;have ih:=Lx r h.2
  have h1:0<(bn s 0).length:=by
   refine vl fun hn=>?_
   have:=EP.2 (kU.1 (by omega:(bn s 0).length=0))
   rw[h.1]at this;cases this
  simp only[bP,bQ];omega
theorem DK{s:Bs}{r:List Bs}(h:dj (s::r) s≠[]):bQ (dq (dj (s::r) s) (s::r))+(dj (s::r) s).length<=bQ (s::r):=by
 have h1:=EE (dj (s::r) s) (JX _ _) (s::r) fun t ht x hx=>zM hx t ht
 have h2:(dj (s::r) s).length<=(s::r).length*(dj (s::r) s).length:=Nat.le_mul_of_pos_left _ (by simp);omega
theorem EZ{s:Bs}{r:List Bs}(h:¬(cQ (s::r) s.length).2<2):
 bQ (dq [(cQ (s::r) s.length).1] (bA (fun t=>!cJ (cQ (s::r) s.length).1 t) (s::r)))+bQ (bA (cJ (cQ (s::r) s.length).1) (s::r))+2<=bQ (s::r):=by
 have h0:=E5 (s::r) s.length (by omega);generalize(cQ (s::r) s.length).1=x at*
 have h1:=EE [x] (by simp) (bA (fun t=>!cJ x t) (s::r)) fun t ht y hy=>by simp only[dC]at hy;subst hy;exact(rJ ht).2
 have h2:=KP (cJ x) (s::r);have h3:=zJ x (s::r);simp only[bP,dh,Nat.mul_one,iM]at h1;omega
theorem pX:∀(f:Nat)(rows:List Bs),(eC f rows).length<=3*bQ rows+1
 |0,_=>by simp[eC]
 |_+1,[]=>by simp[eC]
 |f+1,s::r=>by
  rw[eC]
  split
  ·simp
  ·rename_i hfr
   split
   ·rename_i hc;have h1:=pX f (dq (dj (s::r) s) (s::r));have h2:=DK hc;have h3:=wC (dj (s::r) s) (eC f (dq (dj (s::r) s) (s::r)));have h4:0<(dj (s::r) s).length:=qU.2 hc;omega
   ·split
    ·have h1:=N7 (s::r);have h2:=Lx (s::r) (by simpa using hfr)
     simp only[HO,bP]at h1 h2⊢;omega
    ·rename_i hm;have h0:=EZ hm;have h1:=pX f (dq [(cQ (s::r) s.length).1] (bA (fun t=>!cJ (cQ (s::r) s.length).1 t) (s::r)));have h2:=pX f (bA (cJ (cQ (s::r) s.length).1) (s::r));have h3:=wC [(cQ (s::r) s.length).1] (eC f (dq [(cQ (s::r) s.length).1] (bA (fun t=>!cJ (cQ (s::r) s.length).1 t) (s::r))));simp only[bP,bR,dh]at h3⊢;omega
end Go.Proofs.YtihmomicdpkabaaGreatDoor
namespace Go.Proofs.YtihmomicdpkabaaGreatDoor
open Go.AM Go.Proofs
variable{Γ:Nat->Option AV}
abbrev uM(n:Nat)(b:Bool)(st:LoopState)(c:List Li):List Ob:=[.row 2 k9 [] none true false,.cells [.sl (n+5) 0 c.length],.row 2 k9 [] none true false,.bx b,
 .loop st .none yC [U,U,.ptr (n+1) 0,U,.sl (n+2) 0 0,U,U,U,U,U,U,U,U] [7] (.ae Se) Qg,.row 2 k9 (c.map dK) none true false]
set_option maxRecDepth 8000 in
theorem ac6(i:Nat)(s:Bs)(hs:s.length<2^40){h:List Ob}(hi:h[i]? =some (.cells [.str s]))(hw:cO h)(hwv:fX h)(up:List Fr)(hv:∀m,up.all (gz (h.length+5) m)=true):∀n j:Nat,j+n=s.length->∀c:List Li,c.length<=j->
 AM.Reach Tryz.prog Γ (H5 (.cV (h.length+4)) (.ptr i 0) (.int .i64 s.length) (.int .i64 j) (h++uM h.length true .ready c) ⟨[],.norm,h.length+5,up⟩)
  (.back up (.aH []) (h++uM h.length true .ready (c++bn (s.drop j) j))):=by
 have hil:=aV hi
 have hget:=fun os=>fE hi os
 have hwr:∀c:UInt8,IntKind.i64.wrap (c.toNat:Int)=c.toNat:=fun c=>wrap64 (by omega) (by have:=c.toNat_lt;omega)
 have hb6:=hw (h.length+6) (by omega);intro n
 induction n with
 |zero=>
  intro j hj c hc
  have q1:¬j<s.length:=by omega
  rw[bw (by omega),bn];refine .bf 60 ?_;simp[q1]
 |succ n ih=>
  intro j hj c hc
  have q1:j<s.length:=by omega
  rw[bM q1,bn]
  by_cases a:s[j]=45
  ·have hh:=ih (j+1) (by omega) c (by omega);rw[if_pos a];refine .bf 60 ?_;simp(disch:=omega) [q1,a,hget];refine .aL ?_;simp at hh⊢;exact hh
  ·rw[if_neg a];have hh:=ih (j+1) (by omega) (c++[(j,s[j])]) (by simp;omega);refine .bf 60 ?_;simp(disch:=omega) [q1,a,jR,hwr,hget];refine .trans (.pop _) (.bf 60 ?_);simp(disch:=omega);refine .aL ?_;simp;refine .mT (h.length+6) (by simp;rfl) (by simp) (by simp;omega) (by simp[hb6]) ?_
   have hv5:=fun m=>hwv (h.length+5) m (by omega)
   refine .F5 (i:=h.length+5) (k:=2) (E:=k9) (es:=(c++[(j,s[j])]).map dK) (fl:=true) (sh:=false) (by simp) (by simp) (hv _) (by simp[hv5]) ?_;simp[uM]at hh⊢;exact hh
set_option maxRecDepth 8000 in
theorem X9(i:Nat)(s:Bs)(hs:s.length<2^40){h:List Ob}(hi:h[i]? =some (.cells [.str s]))(hw:cO h)(hwv:fX h)(up:List Fr)(hv:∀m,up.all (gz (h.length+5) m)=true):
 AM.Reach Tryz.prog Γ (.cl y3 [.fn (.func rj) [] [.ptr i 0]] up h) (.back up (.sl (h.length+5) 0 (bn s 0).length) (h++uM h.length false .exhausted (bn s 0))):=by
 have hget:=fun os=>fE hi os
 refine .bF 60 S7 ?_;simp;refine .bF 60 SL ?_;simp;refine .bF 60 Dm ?_;simp[hget];refine .inLoop ?_;simp;refine .trans (.qc (i:=h.length+1) (j:=0) (k:=2) k9 (by simp;rfl) rfl (by omega)) ?_
 have hh:=fun up hv=>ac6 (Γ:=Γ) i s hs hi hw hwv up hv s.length 0 (by omega) [] (by simp)
 simp[uM]at hh⊢
 have hv':=fun m=>hv m
 simp at hv';refine .trans (hh _ (by simp;exact hv')) ?_;have e41:h.length+3+1=h.length+4:=rfl;refine .trans (.pop _) (.bf 60 ?_);simp[e41];refine .trans (.pop _) (.bf 60 ?_);simp
abbrev cx5:Cx:=⟨[.mark 5],.norm,0,[]⟩
set_option maxRecDepth 8000 in
theorem ae1(rows:List Bs)(hl:rows.length<=128)(hlen:∀t∈rows,t.length<=40){h8:List Ob}(h8l:h8.length=8)(h85:h8[5]? =some (.bx true))(hw:∀m,8<=m->cE m h8=true)(hwv:∀i m,8<=i->cH i m h8=true):∀n i:Nat,i+n=rows.length->∀out:List Fm,out.length<=42*i+1->
 ay Tryz.prog Γ (ywi (.sl 8 0 out.length) (.list false 1 (rows.map .str)) (.int .i64 rows.length) (.int .i64 i) (h8++[.row 3 aS (out.map a8) none true false]) cx5)
  (.ret (.own 3 aS ((out++(rows.drop i).flatMap fun s=>ei (bn s 0) []).map a8))):=by
 have g0:∀os:List Ob,(h8++os)[8]? =os[0]? :=fun os=>by rw[<-h8l,ZX]
 have g1:∀(os:List Ob)(k:Nat),8<=k->(h8++os)[k]? =os[k-8]? :=fun os k hk=>by rw[dF (by omega),h8l]
 have s0:∀(os:List Ob)(o:Ob),(h8++os).set 8 o=h8++os.set 0 o:=fun os o=>by rw[<-h8l,aaI]
 have hw9:=hw 9 (by omega);have h85':h8[5]=.bx true:=(dD.1 h85).2
 have g15:∀os:List Ob,(h8++os)[15]? =os[7]? :=fun os=>g1 os 15 (by omega)
 have g5:∀os:List Ob,(h8++os)[5]? =some (.bx true):=fun os=>by rw[cR (by omega)];exact h85
 have s5:∀(os:List Ob)(o:Ob),(h8++os).set 5 o=h8.set 5 o++os:=fun os o=>j8 _ _ (by omega)
 have g6:∀(os:List Ob)(o:Ob),(h8.set 5 o++os)[8]? =os[0]? :=fun os o=>by rw[dF (by simp;omega)];simp[h8l]
 have hv8:=fun m=>hwv 8 m (by omega)
 intro n
 induction n with
 |zero=>
  intro i hi out ho
  have q1:¬i<rows.length:=by omega
  rw[bw (by omega),List.flatMap_nil,fZ];refine .go 60 ?_;simp[q1,g0,h8l,g5,s5,h85'];refine .back ?_;simp[g6]
  done
 |succ n ih=>
  intro i hi out ho
  have q1:i<rows.length:=by omega
  have q3:=hlen _ (bC q1);have hcl:=Aq rows[i] 0;have hal:=wC (bn rows[i] 0) [];have hall:=GD (Γ:=Γ) (bn rows[i] 0) (.inl rfl:Kd 2 2 _) (by omega) (fun x hx=>by have:=jN.1 hx;have:=(dD.1 this.2.1).1;omega) [] (.inr rfl:Kd 3 0 _) (by simp);have hh:=ih (i+1) (by omega) (out++ei (bn rows[i] 0) []) (by simp only[bR,dh]at hal⊢;omega);rw[bM q1,nq,<-eQ]
  have hcoll:=X9 (Γ:=Γ) 9 rows[i] (by omega) (h:=h8++[.row 3 aS (out.map a8) none true false,.cells [.str rows[i]]]) (by rw[g1 _ _ (by omega)];rfl)
   (fun m hm=>by simp at hm;simp[hw m (by omega)]) (fun j m hj=>by simp at hj;simp[hwv j m (by omega)])
  refine .go 60 ?_;simp(disch:=omega) [q1];refine .bd 60 (El rows[i]) ?_;simp[h8l,uM]at hcoll⊢;refine .reach (hcoll _ (by simp)) ?_;refine .go 60 ?_;simp;simp at hall;refine .call 60 (by simp[g15]) hall ?_
  have hb24:(out.length+(ei (bn rows[i] 0) []).length)*24<=140737488355328:=by simp only[dh]at hal;omega
  simp[h8l,g0,s0,hb24];refine .aL ?_;simp;refine .drop (h':=h8++[.row 3 aS (List.map a8 out++List.map a8 (ei (bn rows[i] 0) [])) (if ei (bn rows[i] 0) []=[]then none else some 0) true false]) 9 (by rw[show(9:Nat)=h8.length+1 by omega,List.take_length_add_append];rfl) (by simp) (by simp) (by simp[hw9]) ?_;refine .lT (i:=8) (k:=3) (E:=aS) (es:=List.map a8 out++List.map a8 (ei (bn rows[i] 0) [])) (gr:=if ei (bn rows[i] 0) []=[]then none else some 0) (fl:=true) (sh:=false) (by simp[g0]) (by split<;>simp) (by simp) (by simp) (by simp[hv8]) ?_;rw[s0];have hwi:IntKind.i64.wrap ((i:Int)+1)=i+1:=wrap64 (by omega) (by omega);simp[hwi]at hh⊢;exact hh
abbrev Pt(v13:AV):List AV:=[U,.ptr 0 0,U,U,U,U,.ptr 7 0,U,U,U,U,.ptr 9 0,.fn (.func vF) [] [.ptr 9 0],v13]++List.replicate 87 U
abbrev uH(rows:List Bs)(s:Bs)(x:Li)(lo:List AV):List Ob:=[.cells [.list false 1 (rows.map .str)],.row 3 aS [] none true false,.cells [.sl 3 0 0],.row 2 k9 [] none true false,.cells [.str s],.bx true,
 .loop .exhausted .none ir lo [31] (.ae BW) Cg,.cells (dK x).cells,.cells (dK x).cells,.cells [.fn (.func ov) [] [.ptr 8 0]]]
def BL(x:Li)(q r:List Fm):List Fm:=⟨4,0,2⟩::ei [x] q++r
set_option maxRecDepth 8000 in
theorem ad0(rows:List Bs)(h0:rows≠[])(hl:rows.length<=128)(hlen:∀t∈rows,t.length<2^40)(s:Bs)(x:Li)(hx:x.1<2^40)(lo:List AV)(hlo:∀m,10<=m->aK m lo=true)(q r:List Fm)(hq:q.length<2^30)(hr:r.length<2^30)
 (hfac:aP Tryz.prog Γ ir [.list false 1 ((bA (cJ x) rows).map .str)] (.own 3 aS (r.map a8))):
 ay Tryz.prog Γ (.fr ⟨.run,ir,[It.code ((ah.aQ [O,O,I,O,O,O] [2,4,4,5,7,7] B2).seq ((ah.ae BU).seq ah.ret))],Pt (.sl 10 0 q.length),[.mark 5],.norm,0⟩ [] (uH rows s x lo++[.row 3 aS (q.map a8) none true false]))
  (.ret (.own 3 aS ((BL x q r).map a8))):=by
 have hclone:=sS (Γ:=Γ) rows (.inl rfl:Kd 1 1 rows) (by omega);have hall:=GD (Γ:=Γ) [x] (.inl rfl:Kd 2 2 _) (by simp) (fun y hy=>by simp only[dC]at hy;subst hy;exact hx) q (.inl rfl:Kd 3 3 _) (by omega);have hal:=wC [x] q
 have hcl:(cI [(3,[⟨4,0,2⟩]),(3,ei [x] q),(3,r)]).length<2^40:=by
  simp only[cI,bR,bP,dh,fZ]at hal⊢;omega
 have hcat:=SP (Γ:=Γ) [(3,[⟨4,0,2⟩]),(3,ei [x] q),(3,r)] (by simp[Kd]) (by simp) hcl (by simp[cI]);refine .go 60 ?_;simp;refine .dr 60 ?_;simp;refine .call (by simp) hclone ?_
 have hwf:∀os,(∀m,10<=m->cE m os=true)->cO (uH rows s x lo++os):=fun os ho m hm=>by
  have hm':10<=m:=by simp at hm;omega
  simp[ho m hm',hlo m hm'];omega
 obtain⟨es,hdel⟩:=JW (Γ:=Γ) (Gv x 8 rows hlen) (by omega) (h:=uH rows s x lo++[.row 3 aS (q.map a8) none true false,gO rows]) (r:=11) rfl (fun l'=>⟨rfl,hwf [.row 3 aS (q.map a8) none true false,gO l',nV] (fun m hm=>by simp)⟩) (hwf _ (fun m hm=>by simp));simp[gO]at hdel;simp;refine .reach (by simp) hdel ?_;simp;refine .call (by simp) hfac ?_;simp;refine .call 60 (by simp) hall ?_;simp;refine .call 60 (by simp) hcat ?_;simp;exact .back (by simp[cI,BL])
theorem Wb{P:Program}(n:Nat){f:FuncId}{args:List AV}{up:List Fr}{h:List Ob}{v:AV}{h':List Ob}{o:Out}(h1:∀up,AM.Reach P Γ (.cl f args up h) (.back up v h'))(h2:ay P Γ (AM.kN P Γ n (.back up v h')) o):ay P Γ (.cl f args up h) o:=.reach (h1 up) (.reach (.uD n _) h2)
theorem adS:fa (m8 xH) xH.length []=[[0,1,2,3,4,5,6,7,8],[0,1,2,4,3,5,6,7,8],[0,1,2,4,5,3,6,7,8],[0,1,4,2,3,5,6,7,8],[0,1,4,2,5,3,6,7,8],[0,1,4,5,2,3,6,7,8],[0,2,1,3,4,5,6,7,8],[0,2,1,4,3,5,6,7,8],[0,2,1,4,5,3,6,7,8],[0,2,4,1,3,5,6,7,8],[0,2,4,1,5,3,6,7,8],[0,2,4,5,1,3,6,7,8],[0,4,1,2,3,5,6,7,8],[0,4,1,2,5,3,6,7,8],[0,4,1,5,2,3,6,7,8],[0,4,2,1,3,5,6,7,8],[0,4,2,1,5,3,6,7,8],[0,4,2,5,1,3,6,7,8],[0,4,5,1,2,3,6,7,8],[0,4,5,2,1,3,6,7,8],[2,0,1,3,4,5,6,7,8],[2,0,1,4,3,5,6,7,8],[2,0,1,4,5,3,6,7,8],[2,0,4,1,3,5,6,7,8],[2,0,4,1,5,3,6,7,8],[2,0,4,5,1,3,6,7,8],[2,4,0,1,3,5,6,7,8],[2,4,0,1,5,3,6,7,8],[2,4,0,5,1,3,6,7,8],[2,4,5,0,1,3,6,7,8],[4,0,1,2,3,5,6,7,8],[4,0,1,2,5,3,6,7,8],[4,0,1,5,2,3,6,7,8],[4,0,2,1,3,5,6,7,8],[4,0,2,1,5,3,6,7,8],[4,0,2,5,1,3,6,7,8],[4,0,5,1,2,3,6,7,8],[4,0,5,2,1,3,6,7,8],[4,2,0,1,3,5,6,7,8],[4,2,0,1,5,3,6,7,8],[4,2,0,5,1,3,6,7,8],[4,2,5,0,1,3,6,7,8],[4,5,0,1,2,3,6,7,8],[4,5,0,2,1,3,6,7,8],[4,5,2,0,1,3,6,7,8]]:=by rfl
set_option maxRecDepth 8000 in
set_option maxHeartbeats 4000000 in
theorem aet(rows:List Bs)(h0:rows≠[])(hl:rows.length<=128)(hlen:∀t∈rows,t.length<2^40)(s:Bs)(x:Li)(hx:x.1<2^40)(hxr:∀t∈rows,x.1<t.length)(lo:List AV)(hlo:∀m,10<=m->aK m lo=true)(q r:List Fm)(hq:q.length<2^30)(hr:r.length<2^30)
 (hfac0:aP Tryz.prog Γ ir [.list false 1 ((dq [x] (bA (fun t=>!cJ x t) rows)).map .str)] (.own 3 aS (q.map a8)))
 (hfac:aP Tryz.prog Γ ir [.list false 1 ((bA (cJ x) rows).map .str)] (.own 3 aS (r.map a8))):
 ay Tryz.prog Γ (.fr ⟨.run,ir,[It.code (.aQ [I,I,O,I,O,O,O,O,O] [7,7,7,7,6,7,8,10,10] xH),It.code ((ah.aQ [O,O,I,O,O,O] [2,4,4,5,7,7] B2).seq ((ah.ae BU).seq ah.ret))],Pt U,[.mark 5],.norm,0⟩ [] (uH rows s x lo))
  (.ret (.own 3 aS ((BL x q r).map a8))):=by
 have hend:=ad0 (Γ:=Γ) rows h0 hl hlen s x hx lo hlo q r hq hr hfac;have hclone:=sS (Γ:=Γ) rows (.inl rfl:Kd 1 1 rows) (by omega)
 have hdiv:=MH (Γ:=Γ) (bA (fun t=>!cJ x t) rows) [x] (.inl rfl:Kd 1 1 _) (.inl rfl:Kd 2 2 _) (by have:(bA (fun t=>!cJ x t) rows).length<=rows.length:=Jl _ _;omega) (by simp) fun t ht=>by
  have h1:=(rJ ht).1;exact⟨hlen t h1,fun y hy=>by simp only[dC]at hy;subst hy;exact hxr t h1⟩
 simp at hdiv
 have hwf:∀os,(∀m,10<=m->cE m os=true)->cO (uH rows s x lo++os):=fun os ho m hm=>by
  have hm':10<=m:=by simp at hm;omega
  simp[ho m hm',hlo m hm'];omega
 obtain⟨es,hdel⟩:=JW (Γ:=Γ) (aeO x 8 9 rows hlen) (by omega) (h:=uH rows s x lo++[gO rows]) (r:=10) rfl (fun l'=>⟨rfl,rfl,hwf [gO l',nV] (fun m hm=>by simp)⟩) (hwf _ (fun m hm=>by simp));simp[gO]at hdel;refine .QC 60 ?_;rw[adS];intro l hm;simp only[bt,pO,pG]at hm
 rcases hm with rfl|rfl|rfl|rfl|rfl|rfl|rfl|rfl|rfl|rfl|rfl|rfl|rfl|rfl|rfl|rfl|rfl|rfl|rfl|rfl|rfl|rfl|rfl|rfl|rfl|rfl|rfl|rfl|rfl|rfl|rfl|rfl|rfl|rfl|rfl|rfl|rfl|rfl|rfl|rfl|rfl|rfl|rfl|rfl|rfl
 all_goals
  simp;refine .wZ 60 (by simp) hclone ?_;simp;refine Wb 60 hdel ?_;simp;refine .wZ 60 (by simp) hdiv ?_;simp;refine .wZ 60 (by simp) hfac0 ?_;simp;refine .m9 [79,80,81,82,83,84,85,86] ?_;simp[m7];refine .gc 10 [2] (by simp[hlo 10 (by omega)]) (by decide) ?_;simp[km (hlo 10 (by omega))];refine .go 1 ?_;simp at hend⊢;exact hend
def nJ(n:Nat)(rows:List Bs):Prop:=rows.length<=128/\(∀s∈rows,s.length=n)/\n<=40
theorem Ak{n:Nat}:∀{rows:List Bs},(∀s∈rows,s.length=n)->bQ rows<=rows.length*n
 |[],_=>by simp[bQ]
 |s::r,h=>by
  have h1:=Aq s 0
  have h2:=Ak (rows:=r) fun t ht=>h t (by simp[ht])
  have h3:=h s (by simp)
  simp only[bQ,bP,C7];omega
theorem nJ.cost{n:Nat}{rows:List Bs}(h:nJ n rows):bQ rows<=5120:=by
 have h1:=Ak h.2.1;have h2:rows.length*n<=128*40:=Nat.mul_le_mul h.1 h.2.2;omega
abbrev GX:List AV:=[U,.ptr 0 0,.sl 1 0 0,U,.ptr 2 0]++List.replicate 96 U
abbrev BH(rows:List Bs)(s:Bs)(c:List Li)(gr:Option Nat):List Ob:=[.cells [.list false 1 (rows.map .str)],.row 3 aS [] none true false,.cells [.sl 3 0 c.length],.row 2 k9 (c.map dK) gr true false,.cells [.str s],.bx true,
 .loop .ready .none ir GX [31] (.ae BW) Cg]
set_option maxRecDepth 8000 in
theorem Z3(rows:List Bs)(hl:rows.length<2^40)(s:Bs)(hs:∀t∈rows,t.length<2^40)(hs1:s.length<2^40)(up:List Fr)(hv:∀m,up.all (gz 3 m)=true):∀n j:Nat,j+n=s.length->∀c:List Li,c.length<=j->
 AM.Reach Tryz.prog Γ (H5 (.cV 6) (.ptr 4 0) (.int .i64 s.length) (.int .i64 j) (BH rows s c none) ⟨[],.norm,7,up⟩)
  (.back up (.aH []) (BH rows s (c++(bn (s.drop j) j).filter fun x=>decide (dI x rows=rows.length)) none)):=by
 have hwr:∀c:UInt8,IntKind.i64.wrap (c.toNat:Int)=c.toNat:=fun c=>wrap64 (by omega) (by have:=c.toNat_lt;omega)
 intro n
 induction n with
 |zero=>
  intro j hj c hc
  have q1:¬j<s.length:=by omega
  rw[bw (by omega),bn];refine .bf 60 ?_;simp[q1]
 |succ n ih=>
  intro j hj c hc
  have q1:j<s.length:=by omega
  rw[bM q1,bn]
  by_cases a:s[j]=45
  ·have hh:=ih (j+1) (by omega) c (by omega);rw[if_pos a];refine .bf 60 ?_;simp(disch:=omega) [q1,a];refine .aL ?_;simp at hh⊢;exact hh
  ·rw[if_neg a];have hp:=FG (Γ:=Γ) rows (j,s[j]) (.inl rfl) hl hs;refine .bf 60 ?_;simp(disch:=omega) [q1,a,jR,hwr];refine .n7 60 ?_;simp;refine .call (by simp) hp ?_
   by_cases h3:dI (j,s[j]) rows=rows.length
   ·have h3':((dI (j,s[j]) rows:Nat):Int)=rows.length:=by omega
    have hh:=ih (j+1) (by omega) (c++[(j,s[j])]) (by simp;omega);rw[List.filter_cons_of_pos (by simpa using h3)];simp(disch:=omega) [h3,h3'];refine .trans (.pop _) (.bf 60 ?_);simp(disch:=omega);refine .aL ?_;simp;refine .mT 7 rfl (by simp) (by simp) (by simp) ?_;refine .F5 (i:=3) rfl (by simp) (hv _) (by simp) ?_;simp[BH]at hh⊢;exact hh
   ·have h3':¬((dI (j,s[j]) rows:Nat):Int)=rows.length:=by omega
    have hh:=ih (j+1) (by omega) c (by omega);rw[List.filter_cons_of_neg (by simpa using h3)];simp(disch:=omega) [h3,h3'];refine .trans (.pop _) (.bf 60 ?_);simp(disch:=omega);refine .aL ?_;simp;refine .mT 7 rfl (by simp) (by simp) (by simp) ?_;simp at hh⊢;exact hh
set_option maxRecDepth 8000 in
theorem Yf(f n:Nat)(s:Bs)(r:List Bs)(hw:nJ n (s::r))
 (ih:∀rows:List Bs,bQ rows<bQ (s::r)->nJ n rows->∀k,Kd 1 k rows->aP Tryz.prog Γ ir [.list false k (rows.map .str)] (.own 3 aS ((eC f rows).map a8))):aP Tryz.prog Γ ir [.list false 1 ((s::r).map .str)] (.own 3 aS ((eC (f+1) (s::r)).map a8)):=by
 obtain⟨b1,b2,b3⟩:=hw
 have hlen:∀t∈s::r,t.length<2^40:=fun t ht=>by rw[b2 t ht];omega
 have hC:=fun(h:List Ob)=>zb (Γ:=Γ) (fl:=false) (k:=1) (adQ (s::r) hlen) (.inl rfl) (by omega) (h:=h) trivial
 rw[eC];generalize hR:(if br l0 (s::r)=true then _ else _:List Fm)=R;refine .run 100 e_ (by simp) ?_;simp
 have q1:¬(r.length:Int)+1=0:=by omega
 simp[q1];simp at hC
 by_cases hf:br l0 (s::r)=true
 ·rw[if_pos hf]at hR;subst hR
  first
   |(refine .bd 4 (hC _) ?_;simp[hf];refine .cy 60 aS (es:=[a8 ⟨1,0,0⟩]) (by simp) (by simp) ?_)
   |(refine .bd 5 (hC _) ?_;simp[hf];refine .cy 60 aS (es:=[a8 ⟨1,0,0⟩]) (by simp) (by simp) ?_)
   |(refine .bd 6 (hC _) ?_;simp[hf];refine .cy 60 aS (es:=[a8 ⟨1,0,0⟩]) (by simp) (by simp) ?_)
   |(refine .bd 7 (hC _) ?_;simp[hf];refine .cy 60 aS (es:=[a8 ⟨1,0,0⟩]) (by simp) (by simp) ?_)
   |(refine .bd 8 (hC _) ?_;simp[hf];refine .cy 60 aS (es:=[a8 ⟨1,0,0⟩]) (by simp) (by simp) ?_)
   |(refine .bd 9 (hC _) ?_;simp[hf];refine .cy 60 aS (es:=[a8 ⟨1,0,0⟩]) (by simp) (by simp) ?_)
   |(refine .bd 10 (hC _) ?_;simp[hf];refine .cy 60 aS (es:=[a8 ⟨1,0,0⟩]) (by simp) (by simp) ?_)
   |(refine .bd 11 (hC _) ?_;simp[hf];refine .cy 60 aS (es:=[a8 ⟨1,0,0⟩]) (by simp) (by simp) ?_)
  simp;exact .back (by simp)
 ·rw[if_neg hf]at hR;refine .bd 60 (hC _) ?_;simp[hf];refine .bd 60 (El s) ?_;simp;refine .enter 60 Dm ?_;simp;refine .inLoop ?_;have hs1:=hlen s (by simp)
  have hcm:=fun up hv=>Z3 (Γ:=Γ) (s::r) (by omega) s hlen hs1 up hv s.length 0 (by omega) [] (by simp)
  simp[BH]at hcm;refine .reach (hcm _ (by simp)) ?_;have e1:List.filter (fun x=>decide (dI x (s::r)=r.length+1)) (bn s 0)=dj (s::r) s:=rfl;rw[e1]
  have hsub:∀x∈dj (s::r) s,∀t∈s::r,x.1<t.length:=fun x hx t ht=>by
   have:=jN.1 (zM hx t ht);exact(dD.1 this.2.1).1
  have hclen:(dj (s::r) s).length<=40:=by
   have h1:(dj (s::r) s).length<=(bn s 0).length:=Jl _ _;have h2:=Aq s 0;have:=b2 s (by simp);omega
  refine .go 60 ?_
  by_cases hc:dj (s::r) s≠[]
  ·rw[if_pos hc]at hR;have hpos:0<(dj (s::r) s).length:=qU.2 hc;have hcost:=DK hc;simp[hpos]
   have hdw:nJ n (dq (dj (s::r) s) (s::r)):=⟨by simpa[dq]using b1,fun t ht=>by
    simp only[dq,cC]at ht;obtain⟨t0,h1,rfl⟩:=ht
    rw[p6];exact b2 _ h1,b3⟩
   have hdiv:=MH (Γ:=Γ) (s::r) (dj (s::r) s) (.inl rfl:Kd 1 1 (s::r)) (.inl rfl:Kd 2 2 _) (by omega) (by omega) fun t ht=>⟨hlen t ht,fun x hx=>hsub x hx t ht⟩
   have hfac:=ih _ (by omega) hdw 1 (.inl rfl);have hfl:=pX f (dq (dj (s::r) s) (s::r));have hall:=GD (Γ:=Γ) (dj (s::r) s) (.inl rfl:Kd 2 2 _) (by omega) (fun x hx=>by have:=hsub x hx s (by simp);omega) (eC f (dq (dj (s::r) s) (s::r))) (.inl rfl:Kd 3 3 _) (by have:=hdw.cost;omega);generalize dj (s::r) s=c at*;subst hR;simp at hdiv;refine .dr 60 ?_;simp;refine .call (by simp) hdiv ?_;simp;refine .call (by simp) hfac ?_;simp;refine .call (by simp) hall ?_;simp;exact .back (by simp)
  ·rw[if_neg hc]at hR
   have hc0:dj (s::r) s=[]:=by simpa using hc
   have hmost:=adR (Γ:=Γ) (s::r) (.inl rfl:Kd 1 1 (s::r)) (by omega) hlen s.length s rfl rfl;simp at hmost;simp[hc0]
   by_cases hm:(cQ (s::r) s.length).2<2
   ·rw[if_pos hm]at hR
    have hm':(((cQ (s::r) s.length).2:Nat):Int)<2:=by omega
    subst hR
    first
     |(refine .call 14 (by simp) hmost ?_;simp[hm'];refine .cy 60 aS (es:=[a8 ⟨4,0,(r.length:Int)+1⟩]) (by simp) (by simp) ?_)
     |(refine .call 15 (by simp) hmost ?_;simp[hm'];refine .cy 60 aS (es:=[a8 ⟨4,0,(r.length:Int)+1⟩]) (by simp) (by simp) ?_)
     |(refine .call 16 (by simp) hmost ?_;simp[hm'];refine .cy 60 aS (es:=[a8 ⟨4,0,(r.length:Int)+1⟩]) (by simp) (by simp) ?_)
     |(refine .call 17 (by simp) hmost ?_;simp[hm'];refine .cy 60 aS (es:=[a8 ⟨4,0,(r.length:Int)+1⟩]) (by simp) (by simp) ?_)
     |(refine .call 18 (by simp) hmost ?_;simp[hm'];refine .cy 60 aS (es:=[a8 ⟨4,0,(r.length:Int)+1⟩]) (by simp) (by simp) ?_)
     |(refine .call 19 (by simp) hmost ?_;simp[hm'];refine .cy 60 aS (es:=[a8 ⟨4,0,(r.length:Int)+1⟩]) (by simp) (by simp) ?_)
     |(refine .call 20 (by simp) hmost ?_;simp[hm'];refine .cy 60 aS (es:=[a8 ⟨4,0,(r.length:Int)+1⟩]) (by simp) (by simp) ?_)
     |(refine .call 21 (by simp) hmost ?_;simp[hm'];refine .cy 60 aS (es:=[a8 ⟨4,0,(r.length:Int)+1⟩]) (by simp) (by simp) ?_)
     |(refine .call 22 (by simp) hmost ?_;simp[hm'];refine .cy 60 aS (es:=[a8 ⟨4,0,(r.length:Int)+1⟩]) (by simp) (by simp) ?_)
     |(refine .call 23 (by simp) hmost ?_;simp[hm'];refine .cy 60 aS (es:=[a8 ⟨4,0,(r.length:Int)+1⟩]) (by simp) (by simp) ?_)
     |(refine .call 24 (by simp) hmost ?_;simp[hm'];refine .cy 60 aS (es:=[a8 ⟨4,0,(r.length:Int)+1⟩]) (by simp) (by simp) ?_)
     |(refine .call 25 (by simp) hmost ?_;simp[hm'];refine .cy 60 aS (es:=[a8 ⟨4,0,(r.length:Int)+1⟩]) (by simp) (by simp) ?_)
    simp;refine .inLoop ?_
    have hor:=ae1 (Γ:=Γ) (s::r) b1 (fun t ht=>by rw[b2 t ht];exact b3) (h8:=[.cells [.list false 1 ((s::r).map .str)],.row 3 aS [] none true false,.cells [.sl 3 0 0],.row 2 k9 [] none true false,.cells [.str s],.bx true,
     .loop .exhausted .none ir GX [31] (.ae BW) Cg,.cells (dK (cQ (s::r) s.length).1).cells]) rfl rfl (fun m hm=>by simp;omega) (fun i m hi=>by simp;omega) (s::r).length 0 (by omega) [⟨4,0,(s::r).length⟩] (by simp)
    simp[HO]at hor⊢;exact hor
   ·rw[if_neg hm]at hR
    have hm':¬(((cQ (s::r) s.length).2:Nat):Int)<2:=by omega
    refine .call 60 (by simp) hmost ?_;simp[hm'];refine .bd 60 (Pd _) ?_;simp
    have hxr:∀t∈s::r,(cQ (s::r) s.length).1.1<t.length:=fun t ht=>by
     have h0:=E5 (s::r) s.length (by omega);have h1:=zJ (cQ (s::r) s.length).1 (s::r);obtain⟨t0,h2⟩:=C3 (l:=bA (fun t=>!cJ (cQ (s::r) s.length).1 t) (s::r)) (by omega);have h3:=rJ h2;have h4:=(dD.1 (jN.1 h3.2).2.1).1
     rw[b2 t ht,<-b2 t0 h3.1];omega
    have hcm2:=EZ hm;have hfl0:=pX f (dq [(cQ (s::r) s.length).1] (bA (fun t=>!cJ (cQ (s::r) s.length).1 t) (s::r)));have hfl1:=pX f (bA (cJ (cQ (s::r) s.length).1) (s::r));have hcst:=nJ.cost ⟨b1,b2,b3⟩
    have hw1:nJ n (dq [(cQ (s::r) s.length).1] (bA (fun t=>!cJ (cQ (s::r) s.length).1 t) (s::r))):=⟨by
     have:(bA (fun t=>!cJ (cQ (s::r) s.length).1 t) (s::r)).length<=(s::r).length:=Jl _ _
     simp only[dq,il];omega,fun t ht=>by
     simp only[dq,cC]at ht;obtain⟨t0,h1,rfl⟩:=ht
     rw[p6];exact b2 _ (rJ h1).1,b3⟩
    have hw2:nJ n (bA (cJ (cQ (s::r) s.length).1) (s::r)):=⟨by
     have:(bA (cJ (cQ (s::r) s.length).1) (s::r)).length<=(s::r).length:=Jl _ _
     omega,fun t ht=>b2 t (dP.1 ht).1,b3⟩
    have htwo:=aet (Γ:=Γ) (s::r) (by simp) b1 hlen s (cQ (s::r) s.length).1 (by have:=hxr s (by simp);omega) hxr GX (fun m hm=>by simp;omega) _ _ (by omega) (by omega) (ih _ (by omega) hw1 1 (.inl rfl)) (ih _ (by omega) hw2 1 (.inl rfl));subst hR;refine .m9 [0,2,3,4,7,15,16,17,18,21,22,23,24,27,28,29,30,42,43,44,51,52,53,54,55,56,57,76,77,78] ?_;simp[m7];simp[BL]at htwo⊢;exact htwo
theorem WW(l:List (List UInt8))(s:List UInt8){k:Nat}(hk:Kd 1 k l)(hl:l.length<2^40):aP Tryz.prog Γ y0 [.list false k (l.map .str),.str s] (.bool (l.contains s)):=by
 refine .run 60 S3 (by simp) ?_;simp;refine .call 60 (by simp) (Na l s hk hl) ?_;have e:=MW s l 0;simp[e];exact .back (by simp)
theorem MO(n:Nat):∀(f:Nat)(rows:List Bs),bQ rows<f->nJ n rows->∀k,Kd 1 k rows->aP Tryz.prog Γ ir [.list false k (rows.map .str)] (.own 3 aS ((eC f rows).map a8))
 |0,rows,hc,_,_,_=>by omega
 |f+1,[],hc,hw,k,hk=>by
  first
   |(refine .run 12 e_ (by simp) ?_;simp;refine .cy 60 aS (es:=[a8 ⟨0,0,0⟩]) (by simp) (by simp) ?_)
   |(refine .run 13 e_ (by simp) ?_;simp;refine .cy 60 aS (es:=[a8 ⟨0,0,0⟩]) (by simp) (by simp) ?_)
   |(refine .run 14 e_ (by simp) ?_;simp;refine .cy 60 aS (es:=[a8 ⟨0,0,0⟩]) (by simp) (by simp) ?_)
   |(refine .run 15 e_ (by simp) ?_;simp;refine .cy 60 aS (es:=[a8 ⟨0,0,0⟩]) (by simp) (by simp) ?_)
   |(refine .run 16 e_ (by simp) ?_;simp;refine .cy 60 aS (es:=[a8 ⟨0,0,0⟩]) (by simp) (by simp) ?_)
   |(refine .run 17 e_ (by simp) ?_;simp;refine .cy 60 aS (es:=[a8 ⟨0,0,0⟩]) (by simp) (by simp) ?_)
   |(refine .run 18 e_ (by simp) ?_;simp;refine .cy 60 aS (es:=[a8 ⟨0,0,0⟩]) (by simp) (by simp) ?_)
   |(refine .run 19 e_ (by simp) ?_;simp;refine .cy 60 aS (es:=[a8 ⟨0,0,0⟩]) (by simp) (by simp) ?_)
   |(refine .run 20 e_ (by simp) ?_;simp;refine .cy 60 aS (es:=[a8 ⟨0,0,0⟩]) (by simp) (by simp) ?_)
   |(refine .run 21 e_ (by simp) ?_;simp;refine .cy 60 aS (es:=[a8 ⟨0,0,0⟩]) (by simp) (by simp) ?_)
   |(refine .run 22 e_ (by simp) ?_;simp;refine .cy 60 aS (es:=[a8 ⟨0,0,0⟩]) (by simp) (by simp) ?_)
   |(refine .run 23 e_ (by simp) ?_;simp;refine .cy 60 aS (es:=[a8 ⟨0,0,0⟩]) (by simp) (by simp) ?_)
   |(refine .run 24 e_ (by simp) ?_;simp;refine .cy 60 aS (es:=[a8 ⟨0,0,0⟩]) (by simp) (by simp) ?_)
   |(refine .run 25 e_ (by simp) ?_;simp;refine .cy 60 aS (es:=[a8 ⟨0,0,0⟩]) (by simp) (by simp) ?_)
   |(refine .run 26 e_ (by simp) ?_;simp;refine .cy 60 aS (es:=[a8 ⟨0,0,0⟩]) (by simp) (by simp) ?_)
   |(refine .run 27 e_ (by simp) ?_;simp;refine .cy 60 aS (es:=[a8 ⟨0,0,0⟩]) (by simp) (by simp) ?_)
   |(refine .run 28 e_ (by simp) ?_;simp;refine .cy 60 aS (es:=[a8 ⟨0,0,0⟩]) (by simp) (by simp) ?_)
   |(refine .run 29 e_ (by simp) ?_;simp;refine .cy 60 aS (es:=[a8 ⟨0,0,0⟩]) (by simp) (by simp) ?_)
   |(refine .run 30 e_ (by simp) ?_;simp;refine .cy 60 aS (es:=[a8 ⟨0,0,0⟩]) (by simp) (by simp) ?_)
   |(refine .run 31 e_ (by simp) ?_;simp;refine .cy 60 aS (es:=[a8 ⟨0,0,0⟩]) (by simp) (by simp) ?_)
   |(refine .run 32 e_ (by simp) ?_;simp;refine .cy 60 aS (es:=[a8 ⟨0,0,0⟩]) (by simp) (by simp) ?_)
   |(refine .run 33 e_ (by simp) ?_;simp;refine .cy 60 aS (es:=[a8 ⟨0,0,0⟩]) (by simp) (by simp) ?_)
  simp;exact .back (by simp[eC])
 |f+1,s::r,hc,hw,k,hk=>by
  obtain rfl:k=1:=hk.of (i:=0) (by simp)
  exact Yf f n s r hw fun rows h1 h2 k hk=>MO n f rows (by omega) h2 k hk
def dR:List Bs->List Bs->List Bs
 |a,[]=>a
 |a,s::r=>dR (if a.contains s=true then a else a++[s]) r
def qg(n:Int)(rows:List Bs):Bool:=decide (n<0)||(decide (8<n)||(decide (128<rows.length)||br (fun s=>!nY n.toNat s) rows))
def iG(rows:List Bs)(n:Int):List Fm:=if qg n rows=true then[]else eC (bQ (dR [] rows)+1) (dR [] rows)
def Pz(rows:List Bs)(n:Int):Int:=if qg n rows=true then 1 else 0
theorem wc{t:Bs}:∀(r a:List Bs),t∈dR a r↔t∈a\/t∈r
 |[],a=>by simp[dR]
 |s::r,a=>by
  rw[dR,wc r]
  by_cases h:a.contains s=true
  ·rw[if_pos h]
   have h':s∈a:=by simpa using h
   simp only[bt];constructor
   ·rintro(h1|h1)
    ·exact .inl h1
    ·exact .inr (.inr h1)
   ·rintro(h1|h1|h1)
    ·exact .inl h1
    ·subst h1;exact .inl h'
    ·exact .inr h1
  ·rw[if_neg h];simp only[bl,dC,bt,or_assoc,pO,false_or]
theorem ab7(l:List Bs)(n:Nat)(i:Nat)(hn:n<=8):iH Tryz.prog Γ (fun h=>h[i]? =some (.cells [.int .i64 n])) zh [.ptr i 0] AV.str (fun s=>!nY n s) l:=by
 refine⟨by simp,fun s hm up h hφ=>?_⟩
 have h2:decide (Lib.trimS s [48,49,45]=[])=s.all lF:=by
  rw[eZ,SH];exact MK s
 refine .bF 60 Uz ?_;unfold nY
 by_cases h:s.length=n
 ·have h':(s.length:Int)=n:=by omega
  have hT:=Ou (Γ:=Γ) s (by omega);unfold n_ at hT;simp[hφ,h,h'];refine .nM 60 (by simp) hT ?_;simp[h2]
 ·have h':¬(s.length:Int)=n:=by omega
  simp[hφ,h,h']
theorem abf(rows:List Bs)(n:Int){k:Nat}(hk:Kd 1 k rows):aP Tryz.prog Γ vG [.list false k (rows.map .str),.int .i64 n] (.aH [.own 3 aS ((iG rows n).map a8),.int .i64 (Pz rows n)]):=by
 have key:∀m i:Nat,i+m=rows.length->rows.length<=128->(∀t∈rows,t.length=n.toNat)->n.toNat<=40->∀a:List Bs,a.length<=i->dR a (rows.drop i)=dR [] rows->ay Tryz.prog Γ (yox (.sl 2 0 a.length) (.list false k (rows.map .str)) (.int .i64 rows.length) (.int .i64 i) [.cells [.int .i64 n],.row 3 aS [] none true false,.row 1 aE (a.map .str) none true false])
  (.ret (.aH [.own 3 aS ((eC (bQ (dR [] rows)+1) (dR [] rows)).map a8),.int .i64 0])):=by
  intro m
  induction m with
  |zero=>
   intro i hi hl2 hs2 hn a ha hu
   have q1:¬i<rows.length:=by omega
   rw[bw (by omega),dR]at hu
   have hw:nJ n.toNat a:=⟨by omega,fun t ht=>by
    rw[hu]at ht
    exact hs2 t (by simpa using(wc rows []).1 ht),hn⟩
   have hf:=MO (Γ:=Γ) n.toNat (bQ a+1) a (by omega) hw 1 (.inl rfl);rw[<-hu];refine .go 60 ?_;simp[q1];refine .call 60 (by simp) hf ?_;simp;exact .back (by simp)
  |succ m ih=>
   intro i hi hl2 hs2 hn a ha hu
   have q1:i<rows.length:=by omega
   have q2:=cv (hk.of q1);have hc:=WW (Γ:=Γ) a rows[i] (.inl rfl:Kd 1 1 a) (by omega);rw[bM q1,dR]at hu;refine .go 60 ?_;simp(disch:=omega) [q1,q2];refine .call 60 (by simp) hc ?_
   by_cases h:a.contains rows[i]=true
   ·rw[if_pos h]at hu;have hh:=ih (i+1) (by omega) hl2 hs2 hn a (by omega) hu
    have h':rows[i]∈a:=by simpa using h
    simp(disch:=omega) [h'];refine .aL ?_;simp[q2]at hh⊢;exact hh
   ·rw[if_neg h]at hu;have hh:=ih (i+1) (by omega) hl2 hs2 hn (a++[rows[i]]) (by simp;omega) hu
    have h':¬rows[i]∈a:=by simpa using h
    simp(disch:=omega) [h'];refine .aL ?_;simp;refine .drop 3 rfl (by simp) (by simp) (by simp) ?_;refine .reset (i:=2) rfl (by simp) (by simp) (by simp) ?_;simp[q2]at hh⊢;exact hh
 refine .run 100 U5 (by simp) ?_;unfold iG Pz qg
 by_cases h1:n<0
 ·simp[h1];exact .back (by simp)
 ·obtain⟨m,rfl⟩:=k6 (show 0<=n by omega)
  by_cases h2:(8:Int)<m
  ·simp[h2];exact .back (by simp)
  ·by_cases h3:128<rows.length
   ·have h3':(128:Int)<rows.length:=by omega
    simp[h2,h3,h3'];exact .back (by simp)
   ·have h3':¬(128:Int)<rows.length:=by omega
    have hC:=fun(h:List Ob) hφ=>zb (Γ:=Γ) (fl:=false) (ab7 rows m 0 (by omega)) hk (by omega) (h:=h) hφ
    simp[h2,h3,h3'];refine .bd 60 (hC _ rfl) ?_
    cases hb:br (fun s=>!nY m s) rows with
    |true=>
     simp[hb];exact .back (by simp)
    |false=>
     have hh:=key rows.length 0 (by omega) (by omega) (fun t ht=>by
      have:=nE.1 hb t ht;simp only[SF,nY,av,a_]at this
      simpa using this.2) (by simp;omega) [] (by simp) rfl
     simp[hb];refine .inLoop ?_;simp at hh⊢;exact hh
end Go.Proofs.YtihmomicdpkabaaGreatDoor
namespace Go.Proofs.YtihmomicdpkabaaGreatDoor
open Go.AM Go.Proofs
section
variable{n:Int}{val:Int->Bool}
def lJ(n:Int)(val:Int->Bool)(l:List Fm)(v:Bool):Prop:=∀rest fuel,(l++rest).length<=fuel->dY n val fuel (l++rest)=some (v,rest)
theorem lJ.pos{l:List Fm}{v:Bool}(h:lJ n val l v):0<l.length:=by
 cases l with
 |nil=>
  have:=h [] 0 (by simp)
  cases this
 |cons _ _=>simp
theorem FU{x:Li}(h:(x.1:Int)<n):lJ n val [dT x] (val (dT x).lit):=by
 intro rest fuel hf
 cases fuel with
 |zero=>simp at hf
 |succ fuel=>
  have hok:ep n (dT x)=true:=by
   unfold ep dT
   by_cases hx:x.2=48
   ·simp[hx];omega
   ·simp[hx];omega
  have hk:(dT x).kind=2:=rfl;simp[dY,hok,hk]
theorem adP:lJ n val [⟨0,0,0⟩] false:=by
 intro rest fuel hf
 cases fuel with
 |zero=>simp at hf
 |succ fuel=>simp[dY,ep,ef]
theorem acU:lJ n val [⟨1,0,0⟩] true:=by
 intro rest fuel hf
 cases fuel with
 |zero=>simp at hf
 |succ fuel=>simp[dY,ep,ef]
def mW(a:Bool):List (List Fm×Bool)->Bool->Bool
 |[],v=>v
 |k::ks,v=>mW a ks (if a then k.2&&v else k.2||v)
theorem EF:∀(ks:List (List Fm×Bool))(v:Bool),mW true ks v=(v&&ks.all (·.2))
 |[],v=>by simp[mW]
 |k::ks,v=>by
  show mW true ks (k.2&&v)=_
  rw[EF ks,qR,Bool.and_comm k.2 v,nr]
theorem Fi:∀(ks:List (List Fm×Bool))(v:Bool),mW false ks v=(v||ks.any (·.2))
 |[],v=>by simp[mW]
 |k::ks,v=>by
  show mW false ks (k.2||v)=_
  rw[Fi ks,List.any_cons,Bool.or_comm k.2 v,Bool.or_assoc]
theorem Ni(a:Bool)(fuel:Nat):∀(ks:List (List Fm×Bool))(v:Bool)(rest:List Fm),(∀k∈ks,lJ n val k.1 k.2)->(ks.flatMap (·.1)++rest).length<=fuel->ef (dY n val fuel) a ks.length v (ks.flatMap (·.1)++rest)=some (mW a ks v,rest)
 |[],v,rest,_,_=>by simp[ef,mW]
 |k::ks,v,rest,h,hf=>by
  simp only[nq,eQ,bR]at hf;have h1:=h k (by simp) (ks.flatMap (·.1)++rest) fuel (by simp only[bR];omega);simp only[bP,ef,nq,eQ,h1,mW];exact Ni a fuel ks _ rest (fun k' hk'=>h k' (by simp[hk'])) (by simp only[bR];omega)
theorem Ax(kd:Int)(hkd:kd=3\/kd=4)(ks:List (List Fm×Bool))(h2:2<=ks.length)(h:∀k∈ks,lJ n val k.1 k.2):lJ n val (⟨kd,0,ks.length⟩::ks.flatMap (·.1)) (mW (decide (kd=3)) ks (decide (kd=3))):=by
 intro rest fuel hf
 cases fuel with
 |zero=>simp at hf
 |succ fuel=>
  have hok:ep n ⟨kd,0,ks.length⟩=true:=by
   unfold ep;rw[if_neg (by simp only;omega),if_pos hkd]
   simp;omega
  have h3:¬kd=2:=by omega
  have h4:¬kd=1:=by omega
  have hk:=Ni (n:=n) (val:=val) (decide (kd=3)) fuel ks (decide (kd=3)) rest h (by simp at hf⊢;omega);simp only[eP,dY,hok,cq,h3,c9,fB,h4,mE,nn];exact hk
theorem Zm{r:List Fm}{v:Bool}(h:lJ n val r v)(ht:rQ r=true):v=true:=by
 match r,ht with
 |[f],ht=>
  have hk:f.kind=1:=by simpa[rQ]using ht
  have h1:=h [] 1 (by simp);simp only[fZ,dY]at h1
  split at h1
  ·rename_i hok
   have h0:f.kids=0:=by
    simp only[ep,hk]at hok;simp at hok;exact hok.2
   simp[hk,h0,ef]at h1;exact h1
  ·cases h1
theorem F6(l:List Li)(hl:∀x∈l,(x.1:Int)<n)(h0:l≠[])(r:List Fm)(v:Bool)(hr:r=[]/\v=true\/lJ n val r v):lJ n val (ei l r) ((l.all fun x=>val (dT x).lit)&&v):=by
 have hlm:∀l:List Li,(l.map fun x=>([dT x],val (dT x).lit)).flatMap (·.1)=l.map dT:=fun l=>by
  induction l with
  |nil=>rfl
  |cons x l ih=>simp only[b9,nq,ih];rfl
 have hl1:0<l.length:=qU.2 h0
 have hrest:(jw r=[]/\v=true)\/(jw r=r/\0<r.length/\lJ n val r v):=by
  rcases hr with⟨rfl,rfl⟩|hr
  ·left;exact⟨rfl,rfl⟩
  ·by_cases ht:rQ r=true
   ·left;exact⟨by rw[jw,if_pos ht],Zm hr ht⟩
   ·right;exact⟨by rw[jw,if_neg ht],hr.pos,hr⟩
 unfold ei
 rcases hrest with⟨e,rfl⟩|⟨e,hp,hr⟩
 ·rw[e,og];simp only[dh,Nat.zero_min,gW,fZ]
  by_cases h1:1<l.length
  ·have hh:=Ax (n:=n) (val:=val) 3 (.inl rfl) (l.map fun x=>([dT x],val (dT x).lit)) (by simp;omega) fun k hk=>by
    obtain⟨x,h2,rfl⟩:=cC.1 hk;exact FU (hl x h2)
   rw[hlm,show decide ((3:Int)=3)=true from rfl,EF]at hh;simp only[pe,if_pos h1];simpa[x_]using hh
  ·obtain⟨x,rfl⟩:∃x,l=[x]:=by
    match l,hl1,h1 with
    |[x],_,_=>exact⟨x,rfl⟩
    |x::y::l,_,h1=>simp at h1
   have hh:=FU (val:=val) (hl x (by simp));simpa[pe]using hh
 ·rw[e]
  have hm:min r.length 1=1:=by omega
  rw[hm]
  have h1:1<l.length+1:=by omega
  have hh:=Ax (n:=n) (val:=val) 3 (.inl rfl) ((l.map fun x=>([dT x],val (dT x).lit))++[(r,v)]) (by simp;omega) fun k hk=>by
   simp only[bl,dC]at hk
   rcases hk with hk|rfl
   ·obtain⟨x,h2,rfl⟩:=cC.1 hk;exact FU (hl x h2)
   ·exact hr
  rw[List.flatMap_append,hlm,show decide ((3:Int)=3)=true from rfl,EF]at hh;simp only[pe,if_pos h1];simpa[x_]using hh
end
def eG(val:Int->Bool)(s:Bs):Bool:=(bn s 0).all fun x=>val (dT x).lit
theorem Z4(val:Int->Bool):∀(l:List Li)(s:Bs),l.Pairwise (fun a b=>a.1≠b.1)->(∀x∈l,x∈bn s 0)->((l.all fun x=>val (dT x).lit)&&eG val (fm l s))=eG val s:=by
 intro l s hp hm
 have h1:∀y:Li,y∈bn (fm l s) 0↔y∈bn s 0/\∀x∈l,x.1≠y.1:=by
  clear hp hm
  induction l generalizing s with
  |nil=>intro y;simp[fm]
  |cons x l ih=>
   intro y;have e:fm (x::l) s=fm l (s.set x.1 45):=rfl;rw[e,ih];simp only[bt,Ji,jN,CZ];constructor
   ·rintro⟨⟨_,h2,h3⟩,h4⟩
    by_cases h5:x.1=y.1
    ·rw[h5]at h2
     by_cases h6:y.1<s.length
     ·rw[er h6]at h2;exact absurd (Option.some.inj h2).symm h3
     ·rw[jJ (by simp;omega)]at h2;cases h2
    ·rw[dB h5]at h2;exact⟨⟨by omega,h2,h3⟩,h5,h4⟩
   ·rintro⟨⟨_,h2,h3⟩,h5,h4⟩
    exact⟨⟨by omega,by rw[dB h5];exact h2,h3⟩,h4⟩
 rw[eZ];simp only[eG,av,dE,h1];constructor
 ·rintro⟨h2,h3⟩ y hy
  by_cases h4:∀x∈l,x.1≠y.1
  ·exact h3 y ⟨hy,h4⟩
  ·have h4:∃x,x∈l/\x.1=y.1:=by
    refine vl fun hn=>h4 fun x hx he=>hn ⟨x,hx,he⟩
   obtain⟨x,hx,he⟩:=h4;have h5:=jN.1 (hm x hx);have h6:=jN.1 hy;rw[he]at h5;have h7:x.2=y.2:=Option.some.inj (h5.2.1.symm.trans h6.2.1);have h8:x=y:=Prod.ext he h7
   rw[<-h8];exact h2 x hx
 ·intro h2;exact⟨fun x hx=>h2 x (hm x hx),fun y hy=>h2 y hy.1⟩
theorem E1(val:Int->Bool)(l:List Li)(hp:l.Pairwise (fun a b=>a.1≠b.1)):∀rows:List Bs,(∀s∈rows,∀x∈l,x∈bn s 0)->((l.all fun x=>val (dT x).lit)&&br (eG val) (dq l rows))=br (eG val) rows
 |[],_=>by simp[dq]
 |s::r,h=>by
  have h1:=Z4 val l s hp (h s (by simp))
  have h2:=E1 val l hp r fun t ht=>h t (by simp[ht])
  have e:dq l (s::r)=fm l s::dq l r:=rfl;rw[e,gX,gX,<-h1,<-h2]
  cases(l.all fun x=>val (dT x).lit)<;>simp
theorem K2(val:Int->Bool)(p:Bs->Bool):∀rows:List Bs,(br (eG val) (bA (fun t=>!p t) rows)||br (eG val) (bA p rows))=br (eG val) rows
 |[]=>rfl
 |s::r=>by
  have ih:=K2 val p r;rw[gX,<-ih]
  cases h:p s
  ·have e1:bA (fun t=>!p t) (s::r)=bA (fun t=>!p t) r:=by simp[bA,h]
   have e2:bA p (s::r)=s::bA p r:=by simp[bA,h]
   rw[e1,e2,gX]
   cases eG val s<;>simp
  ·have e1:bA (fun t=>!p t) (s::r)=s::bA (fun t=>!p t) r:=by simp[bA,h]
   have e2:bA p (s::r)=bA p r:=by simp[bA,h]
   rw[e1,e2,gX]
   cases eG val s<;>simp
theorem Zo(val:Int->Bool){rows:List Bs}(h:br l0 rows=true):br (eG val) rows=true:=by
 obtain⟨s,h1,h2⟩:=Az.1 h;exact Az.2 ⟨s,h1,by rw[eG,EP.1 h2];rfl⟩
theorem zP(N:Nat)(val:Int->Bool):∀(f:Nat)(rows:List Bs),bQ rows<f->(∀s∈rows,s.length=N)->lJ N val (eC f rows) (br (eG val) rows)
 |0,rows,h,_=>by omega
 |f+1,[],_,_=>by rw[eC];exact adP
 |f+1,s::r,h,hN=>by
  rw[eC]
  have hlt:∀x:Li,∀t∈s::r,x∈bn t 0->(x.1:Int)<N:=fun x t ht hx=>by
   have h1:=(dD.1 (jN.1 hx).2.1).1;have:=hN t ht;omega
  split
  ·rename_i hfr;rw[Zo val hfr];exact acU
  ·rename_i hfr
   split
   ·rename_i hc;have h1:=DK hc;have h4:0<(dj (s::r) s).length:=qU.2 hc
    have hd:=E1 val (dj (s::r) s) (JX _ _) (s::r) fun t ht x hx=>zM hx t ht
    have ih:=zP N val f (dq (dj (s::r) s) (s::r)) (by omega) fun t ht=>by
     simp only[dq,cC]at ht;obtain⟨t0,h5,rfl⟩:=ht
     rw[p6];exact hN _ h5
    rw[<-hd];exact F6 _ (fun x hx=>hlt x s (by simp) (zM hx s (by simp))) hc _ _ (.inr ih)
   ·split
    ·have hno:∀t∈s::r,bn t 0≠[]:=fun t ht he=>by
      have h1:=nE.1 (by simpa using hfr) t ht
      rw[EP.2 he]at h1;cases h1
     have hfm:∀rows:List Bs,(rows.map fun t=>(ei (bn t 0) [],eG val t)).flatMap (·.1)=rows.flatMap fun s=>ei (bn s 0) []:=fun rows=>by
      induction rows with
      |nil=>rfl
      |cons t r ih=>simp only[b9,nq,ih]
     have h2:2<=(s::r).length:=by
      rename_i hc0 hm
      have hc0:dj (s::r) s=[]:=by simpa using hc0
      cases r with
      |nil=>
       exfalso
       have:dj [s] s=bn s 0:=by
        unfold dj;rw[xY];intro x hx;simp[dI,cJ,hx]
       rw[hc0]at this;exact hno s (by simp) this.symm
      |cons t r=>simp
     have hh:=Ax (n:=N) (val:=val) 4 (.inr rfl) ((s::r).map fun t=>(ei (bn t 0) [],eG val t)) (by simpa using h2) fun k hk=>by
      obtain⟨t,h5,rfl⟩:=cC.1 hk;have:=F6 (n:=N) (val:=val) (bn t 0) (fun x hx=>hlt x t h5 hx) (hno t h5) [] true (.inl ⟨rfl,rfl⟩);simpa[eG]using this
     rw[hfm]at hh
     have e:decide ((4:Int)=3)=false:=by decide
     rw[e,Fi]at hh;simp only[il,List.any_map]at hh
     have e2:(false||(s::r).any ((fun x=>x.2)∘fun t=>(ei (bn t 0) [],eG val t)))=br (eG val) (s::r):=by rw[nn];rfl
     rw[e2]at hh;exact hh
    ·rename_i hm;have h0:=E5 (s::r) s.length (by omega);have h1:=EZ hm;have h3:=zJ (cQ (s::r) s.length).1 (s::r);generalize(cQ (s::r) s.length).1=x at*;obtain⟨t0,h2⟩:=C3 (l:=bA (fun t=>!cJ x t) (s::r)) (by omega);have hx0:=rJ h2
     have ih1:=zP N val f (dq [x] (bA (fun t=>!cJ x t) (s::r))) (by omega) fun t ht=>by
      simp only[dq,cC]at ht;obtain⟨t0,h5,rfl⟩:=ht
      rw[p6];exact hN _ (rJ h5).1
     have ih2:=zP N val f (bA (cJ x) (s::r)) (by omega) fun t ht=>hN _ (dP.1 ht).1
     have hd:=E1 val [x] (by simp) (bA (fun t=>!cJ x t) (s::r)) fun t ht y hy=>by
      simp only[dC]at hy;subst hy;exact(rJ ht).2
     have hk:=K2 val (cJ x) (s::r);have ha:=F6 (n:=N) (val:=val) [x] (fun y hy=>by simp only[dC]at hy;subst hy;exact hlt y t0 hx0.1 hx0.2) (by simp) _ _ (.inr ih1);rw[hd]at ha;rw[<-hk];generalize br (eG val) (bA (fun t=>!cJ x t) (s::r))=va at*;generalize br (eG val) (bA (cJ x) (s::r))=vb at*;generalize ei [x] (eC f (dq [x] (bA (fun t=>!cJ x t) (s::r))))=A at*;generalize eC f (bA (cJ x) (s::r))=B at*
     have hh:=Ax (n:=N) (val:=val) 4 (.inr rfl) [(A,va),(B,vb)] (by simp) (by
      intro k hk;simp only[bt,pO,pG]at hk
      rcases hk with rfl|rfl
      ·exact ha
      ·exact ih2)
     have e:decide ((4:Int)=3)=false:=by decide
     rw[e,Fi]at hh;simpa using hh
end Go.Proofs.YtihmomicdpkabaaGreatDoor
namespace Go.Proofs.YtihmomicdpkabaaGreatDoor
open Go.AM Go.Proofs
variable{Γ:Nat->Option AV}
theorem JO:∀a b:List Bs,bQ (a++b)=bQ a+bQ b
 |[],b=>by simp[bQ]
 |s::a,b=>by rw[eP,bQ,bQ,JO a b];omega
theorem En:∀(r a:List Bs),bQ (dR a r)<=bQ a+bQ r
 |[],a=>by simp[dR,bQ]
 |s::r,a=>by
  rw[dR];have h:=En r (if a.contains s=true then a else a++[s])
  have h2:bQ (if a.contains s=true then a else a++[s])<=bQ a+(bn s 0).length:=by
   split
   ·omega
   ·rw[JO];simp[bQ]
  rw[bQ];omega
theorem E8{rows:List Bs}{n:Int}(h:qg n rows=false):∃m:Nat,n=m/\m<=8/\rows.length<=128/\∀s∈rows,s.all lF=true/\s.length=m:=by
 simp only[qg,jK,iO]at h;obtain⟨h1,h2,h3,h4⟩:=h;obtain⟨m,rfl⟩:=k6 (show 0<=n by omega);refine⟨m,rfl,by omega,by omega,fun s hs=>?_⟩;have:=nE.1 h4 s hs;simpa[nY]using this
theorem aaF{rows:List Bs}{m:Nat}(hm:m<=8)(hl:rows.length<=128)(hs:∀s∈rows,s.length=m):bQ (dR [] rows)<=1024:=by
 have h1:=En rows [];have h2:=Ak hs;have h3:rows.length*m<=128*8:=Nat.mul_le_mul hl hm;have h0:bQ []=0:=rfl;omega
theorem Fs{rows:List Bs}{n:Int}(h:qg n rows=false)(val:Int->Bool):xa n val (iG rows n)=some (br (eG val) rows):=by
 obtain⟨m,rfl,h1,h2,h3⟩:=E8 h
 have hc:=aaF h1 h2 fun s hs=>(h3 s hs).2
 have hl:=pX (bQ (dR [] rows)+1) (dR [] rows)
 have hr:=zP m val (bQ (dR [] rows)+1) (dR [] rows) (by omega) fun s hs=>(h3 s (by simpa using(wc rows []).1 hs)).2
 have he:br (eG val) (dR [] rows)=br (eG val) rows:=by
  rw[eZ,Az,Az];constructor
  ·rintro⟨s,h4,h5⟩;exact⟨s,by simpa using(wc rows []).1 h4,h5⟩
  ·rintro⟨s,h4,h5⟩;exact⟨s,(wc rows []).2 (.inr h4),h5⟩
 have h4:=hr [] (eC (bQ (dR [] rows)+1) (dR [] rows)).length (by simp);rw[fZ,he]at h4
 have e0:iG rows m=eC (bQ (dR [] rows)+1) (dR [] rows):=by unfold iG;rw[h];rfl
 rw[e0];unfold xa;rw[if_pos ⟨by omega,by omega,by omega⟩,h4]
def ie:List Bool->Nat
 |[]=>0
 |v::l=>(if v=true then 1 else 0)+ie l
theorem Nv:∀l:List Bool,ie l<=l.length
 |[]=>aU _
 |v::l=>by rw[ie,bP];have:=Nv l;split<;>omega
def uy:Bs->List Bool->Bool
 |c::s,v::l=>(decide (c=45)||decide (decide (c=49)=v))&&uy s l
 |_,_=>true
def Cr(op:Int)(l:List Bool):Bool:=if op=0\/op=1 then false else if op=2\/op=3\/op=4\/op=5 then decide (ie l=l.length)else if op=6\/op=7 then decide (0<ie l)else decide (ie l%2=1)
def CV(op:Int):Bool:=decide (op=1\/op=3\/op=5\/op=7\/op=9)
def On(g:Gt)(ins:List Bool):Bool:=jV g&&decide (ins.length=g.ins.length)
def w6(g:Gt)(ins:List Bool):Bool:=if g.op=10 then !decide (br (fun s=>uy s ins) g.rows=g.off)else !decide (Cr g.op ins=CV g.op)
def xd(g:Gt)(ins:List Bool):Bool:=On g ins&&w6 g ins
def pw(n:Int):FuncId:=if n<=1 then vz else if n<=5 then sY else if n<=7 then sX else sW
abbrev Hi(f:FuncId)(t:Int):AV:=.agg [.fn (.func f) [] [],.int .i64 t]
def BM(n:Int):Option AV:=if 0<=n/\n<=9 then some (Hi (pw n) (n%2))else none
def uF(Γ:Nat->Option AV):Prop:=∃ks vs,Γ PD=some (.db ks vs)/\∀n:Int,eD (.sc .int) (.int .i64 n) (ks.zip vs)=some (BM n)
def nW(n:Int)(x:Gr)(ins:List Nat):Gr×Option Nat:=if n<=1 then(x,some 0)else if n<=5 then fN 0 x ins else if n<=7 then dZ (·^^^1) (fN 1 x ins)else uC x ins
def w8(x:Gr)(g:Gt)(ins:List Nat):Gr×Option (Nat×List Fm):=gk ins (iG g.rows g.ins.length).length x (iG g.rows g.ins.length)
def ky(x:Gr)(g:Gt)(ins:List Nat):Gr×Option Nat:=
 if 0<=g.op/\g.op<=9 then dZ (·^^^(g.op%2).toNat) (nW g.op x ins)else dZ (fun p=>if g.off=true then p.1^^^1 else p.1) (w8 x g ins)
theorem LU(n:Int){x:Gr}(ok:x.Ok){ins:List Nat}(hi:∀a∈ins,a<x.lits):jC x (nW n x ins):=by
 unfold nW
 split
 ·exact⟨.refl ok,fun d hd=>by cases hd;exact wu x⟩
 ·split
  ·exact wa (by omega) ok hi
  ·split
   ·exact(wa (by omega) ok hi).BN (by omega)
   ·exact Xb ok hi
theorem Em{x:Gr}(ok:x.Ok)(g:Gt){ins:List Nat}(hi:∀a∈ins,a<x.lits):jC x (ky x g ins):=by
 unfold ky
 split
 ·exact(LU _ ok hi).BN (by omega)
 ·have h:=oC ins (iG g.rows g.ins.length).length x (iG g.rows g.ins.length) ok hi;refine⟨h.1,fun d hd=>?_⟩;simp only[dZ,bS]at hd;obtain⟨p,hp,rfl⟩:=hd;have:=h.2 p hp
  split
  ·exact FZ (n:=(w8 x g ins).1.all) this
  ·exact this
theorem AS{g:Gt}(h:jV g=true):(0<=g.op/\g.op<=9/\nb g.op g.ins.length=true)\/(g.op=10/\g.ins.length<=8/\qg g.ins.length g.rows=false):=by
 unfold jV at h
 by_cases h10:g.op=10
 ·rw[if_pos h10]at h;simp only[av,a_,jl]at h;refine .inr ⟨h10,h.1,?_⟩;unfold qg;simp only[jK,iO,fB];exact⟨by omega,by omega,by omega,h.2.2⟩
 ·rw[if_neg h10]at h;simp only[av]at h;have h2:=h.2;refine .inl ?_;unfold nb at h2
  split at h2
  ·exact⟨by omega,by omega,h.2⟩
  ·split at h2
   ·exact⟨by omega,by omega,h.2⟩
   ·split at h2
    ·exact⟨by omega,by omega,h.2⟩
    ·cases h2
theorem OY{op:Int}{n:Nat}(h:nb op n=true)(h2:2<=op):n≠0:=by
 unfold nb at h
 rintro rfl
 split at h
 ·simp at h
 ·rw[if_neg (by omega)]at h
  split at h
  ·simp at h
  ·cases h
theorem afm(n:Int)(h0:0<=n)(h9:n<=9)(ins:List Nat)(hins:2<=n->ins≠[])(hl:ins.length<2^40){ki:Nat}(hki:Kd 1 ki ins){i:Nat}(x:Gr){h:List Ob}(hi:h[i]? =some (cz x))(hw:cO h)(ok:x.Ok)(hlt:∀a∈ins,a<x.lits)(up:List Fr):
 AM.Reach Tryz.prog Γ (.cl (pw n) [.ptr i 0,.list false ki (ins.map iN)] up h) (cK iN i up h (nW n x ins)):=by
 unfold pw nW
 split
 ·simp only[cK,wJ hi];exact ach up
 ·split
  ·exact OQ ins (hins (by omega)) hl hki x hi hw ok hlt up
  ·split
   ·exact OO ins (hins (by omega)) hl hki x hi hw ok hlt up
   ·exact adk ins (hins (by omega)) hl hki x hi hw ok hlt up
theorem acI(n:Int):ar Tryz.prog (pw n)=true:=by
 unfold pw
 split
 ·simp
 ·split
  ·simp
  ·split<;>simp
set_option maxRecDepth 8000 in
theorem acx(hΓ:uF Γ)(g:Gt)(hg:jV g=true)(hf:w7 g)(ins:List Nat)(hil2:ins.length=g.ins.length){ki:Nat}(hki:Kd 1 ki ins){i:Nat}(x:Gr){h:List Ob}(hi:h[i]? =some (cz x))(hw:cO h)(hv:fX h)(ok:x.Ok)(hlt:∀a∈ins,a<x.lits)(up:List Fr):
 AM.Reach Tryz.prog Γ (.cl vA [.ptr i 0,dg g,.list false ki (ins.map iN)] up h) (cK iN i up h (ky x g ins)):=by
 obtain⟨ks,vs,hG,hF⟩:=hΓ;have hF:=hF g.op;simp only[PD]at hG;have hil:=aV hi;have hle:=mL ok
 have hget:=fun os=>fE hi os
 have hset:∀(o:Ob)(os:List Ob),(h++os).set i o=h.set i o++os:=fun o os=>j8 _ _ hil
 have hb1:=hf.2.1
 rcases AS hg with⟨h0,h9,ho⟩|⟨h10,h8,hwr⟩
 ·have hB:=afm (Γ:=Γ) g.op h0 h9 ins (fun h2=>by
   have:=OY ho h2
   rintro rfl
   simp at hil2;omega) (by omega) hki x (h:=h++[.cells (AV.cells (dg g)),.cells [.fn (.func (pw g.op)) [] [],.int .i64 (g.op%2)]]) (hget _) (by
   intro m hm;simp at hm
   simp[hw m (by omega)]) ok hlt
  have hfi:=LU g.op ok hlt;have hbb:=acI g.op
  have ht:(g.op%2).toNat<=1:=by omega
  refine rI [.cells (AV.cells (dg g)),.cells [.fn (.func (pw g.op)) [] [],.int .i64 (g.op%2)]] hw hil (by simp) ?_;unfold ky;rw[if_pos ⟨h0,h9⟩];unfold BM at hF;rw[if_pos ⟨h0,h9⟩]at hF;refine .bF 60 Jw ?_;simp[hG,hF,isKey,cf,cP];unfold dZ;unfold cK at hB⊢;simp only[hset]at hB⊢
  cases h9:(nW g.op x ins).2 with
  |none=>
   simp only[h9,sH]at hB⊢;refine .O7 ?_;simp;refine gB.die (.int .i64 0) hbb (fun its t' _=>.jW 60 hB ?_) ?_
   ·simp
   ·simp;exact .of (by simp)
  |some d=>
   have hd:=hfi.2 d h9;have hle2:=mL hfi.1.ok;have hx:=O8 (a:=d) (t:=(g.op%2).toNat) ht (by omega);rw[show(((g.op%2).toNat:Nat):Int)=g.op%2 by omega]at hx;simp only[h9,dt]at hB⊢;refine .n7 60 ?_;simp;refine gB.reach hbb hB ?_;simp[hx]
 ·have hFc:=abf (Γ:=Γ) g.rows g.ins.length g.hr;have hV:=Fs hwr (fun _=>false);have hff:=oC ins (iG g.rows g.ins.length).length x (iG g.rows g.ins.length) ok hlt;unfold ky;rw[if_neg (by omega)];unfold BM at hF;rw[if_neg (by omega)]at hF
  have hVr:∃v l',dY g.ins.length (fun _=>false) (iG g.rows g.ins.length).length (iG g.rows g.ins.length)=some (v,l')/\(iG g.rows g.ins.length).length<=4000:=by
   unfold xa at hV
   split at hV
   ·rename_i h4
    split at hV
    ·rename_i v h5;exact⟨v,[],h5,h4.1⟩
    ·cases hV
   ·cases hV
  obtain⟨v,l',hVr,hl4⟩:=hVr;unfold w8;generalize iG g.rows g.ins.length=F at*
  have hfo:=No (Γ:=Γ) ins hki (by omega) (fun _=>false) F.length F (by omega) (v:=v) (l':=l') (by rw[hil2];exact hVr) x
   (h++[.cells (AV.cells (dg g)),.cells [.df,.int .i64 0],.row 3 aS (F.map a8) none true true]) i (hget _) (by
    intro m hm;simp at hm
    simp[hw m (by omega)]) (by
    intro m k hm;simp at hm
    simp[hv m k (by omega)]) ok hlt
  refine rI [.cells (AV.cells (dg g)),.cells [.df,.int .i64 0],.row 3 aS (F.map a8) none true true] hw hil (by simp) ?_;refine .bF 60 Jw ?_;simp[hG,hF,isKey,cf,cP];refine .nM 7 (by simp) hFc ?_;simp;refine .trees [9] ?_;simp[O0,iR];have htk:(F.map a8).take F.length=F.map a8:=cS (by simp);refine .bf 60 ?_;simp[htk];unfold cK at hfo⊢;unfold dZ;simp only[hset]at hfo⊢
  cases h9:(gk ins F.length x F).2 with
  |none=>
   simp only[h9,sH]at hfo⊢;refine .jW 60 hfo ?_;simp
  |some p=>
   obtain⟨c,l2⟩:=p;have hc:=hff.2 _ h9;have hle2:=mL hff.1.ok;simp only at hc;simp only[h9,dt]at hfo⊢;refine .bd 60 hfo ?_
   have h7:∀o,(h.set i o).length=h.length:=by simp
   have h8:∀(o:Ob)(os:List Ob)(k:Nat),(h.set i o++os)[h.length+k]? =os[k]? :=fun o os k=>by rw[<-h7 o,acG]
   have h8':∀(o:Ob)(os:List Ob),(h.set i o++os)[h.length]? =os[0]? :=fun o os=>h8 o os 0
   cases hoff:g.off with
   |true=>simp(disch:=omega) [h8,h8',hoff]
   |false=>simp(disch:=omega) [h8,h8',hoff]
theorem Nz{n:Nat}{τ:List Nat}{k:Nat}{E:TypeId}{es:List AV}(ho:dO n τ es=true):∀{h:List Ob}(j:Nat),fw n τ h=true->fw n τ (h.set j (.row k E es none false false))=true
 |[],_,h1=>h1
 |o'::h,0,h1=>by
  have h2:fw n τ h=true:=by cases o'<;>simp only[fw,av]at h1<;>exact h1.2
  simp[fw,kR,ho,h2]
 |o'::h,j+1,h1=>by
  cases o'<;>simp only[fw,av,pF]at h1⊢<;>exact⟨h1.1,Nz ho j h1.2⟩
theorem Ol{n:Nat}{τ:List Nat}(o:Ob):∀{h:List Ob}(j:Nat),cE n h=true->iL n τ (h.set j o)=h.set j (j4 n τ o)
 |[],_,_=>rfl
 |o'::h,0,h1=>by
  simp only[cE,av]at h1;simp only[u0,iL,qe h1.2]
 |o'::h,j+1,h1=>by
  simp only[cE,av]at h1;simp only[pF,iL,NW h1.1,Ol o j h1.2]
theorem WB{n N m:Nat}(h:m<N)(v:AV):(dw n N m).set m v=(List.range m).map (fun i=>AV.mp (n+(3+(N+i))))++(v::List.replicate (N-(m+1)) .c_):=by
 rw[dw,vo _ _ (by simp),show N-m=(N-(m+1))+1 by omega,kV];simp
theorem Xn{n N m:Nat}(h:m<N):(List.range m).map (fun i=>AV.mp (n+(3+(N+i))))++(.mp (n+(3+(N+m)))::List.replicate (N-(m+1)) .c_)=dw n N (m+1):=by
 rw[dw,List.range_succ];simp
theorem acS{n N m q:Nat}(h:n+(3+(N+m))<=q):aK q ((List.range m).map (fun i=>AV.mp (n+(3+(N+i)))))=true:=by
 have:=EA h;rw[dw,DJ,av]at this;exact this.1
theorem L5(q:Nat):∀k,aK q (List.replicate k AV.c_)=true
 |0=>rfl
 |k+1=>by simp[kV,L5 q k]
theorem ada{H:List Ob}{nd b:List (List Nat)}(h:nd.length<b.length):(hQ H nd b).set (H.length+1) (.row 1 jL (dw H.length b.length (nd.length+1)) none false false)++[.map [] true]=hQ H (nd++[[]]) b:=by
 have e:H.length+1=H.length+1:=rfl;rw[hQ,A9,hQ,eQ];have f6:decide ((nd++[[]]).length=0)=false:=vp (by simp);simp[hF,gS]
theorem V9(c:AV):eR [c] .c_=c:=rfl
def ff(pl:List (Bs×Nat)):List Gt->Nat->List (List Nat)->List (List Nat)->List (List Nat)×List (List Nat)
 |[],_,nd,b=>(nd,b)
 |g::r,i,nd,b=>ff pl r (i+1) (nd++[eJ pl g.ins []]) (je pl i g.ins [] b)
theorem wG(pl:List (Bs×Nat))(i:Nat):∀(l:List Bs)(a:List Nat)(b:List (List Nat)),(je pl i l a b).length=b.length
 |[],_,_=>rfl
 |s::r,a,b=>by
  rw[je]
  split
  ·exact wG pl i r a b
  ·rw[wG];split<;>simp
theorem F1(pl:List (Bs×Nat))(i M:Nat):∀(l:List Bs)(a:List Nat)(b:List (List Nat)),(∀x∈b,x.length<=M)->∀x∈je pl i l a b,x.length<=M+l.length
 |[],_,_,h=>fun x hx=>by have:=h x hx;simpa using this
 |s::r,a,b,h=>fun x hx=>by
  rw[je]at hx
  have hM:∀x∈b,x.length<=M+1:=fun x hx=>by have:=h x hx;omega
  have key:∀(b':List (List Nat))(a':List Nat),(∀x∈b',x.length<=M+1)->x∈je pl i r a' b'->x.length<=M+(s::r).length:=fun b' a' h1 h2=>by
   have:=F1 pl i (M+1) r a' b' h1 x h2
   simp only[bP];omega
  split at hx
  ·exact key _ _ hM hx
  ·rename_i k _
   split at hx
   ·exact key _ _ hM hx
   ·refine key _ _ (fun y hy=>?_) hx
    rcases oh hy with h1|h1
    ·exact hM y h1
    ·rw[h1,bR,sJ]
     by_cases hk:k<b.length
     ·rw[bo,bg hk];have:=h _ (bC hk)
      simp only[jj];omega
     ·rw[bo,jJ (by omega)];simp
theorem aaN{H:List Ob}{nd b:List (List Nat)}{p:Nat}(h:p<H.length)(o:Ob):(hQ H nd b).set p o=hQ (H.set p o) nd b:=by
 rw[hQ,j8 _ _ h,hQ,jg]
set_option maxRecDepth 8000 in
theorem abR(c:Ct)(hc:cj c){H:List Ob}(hw:cO H)(hv:fX H){m0:Nat}(hm:H[m0]? =some (.map ((bZ c).map gT) true))(up:List Fr)(base:Nat)(hbase:base<=H.length)(p2:Nat)(hp2:p2<H.length)(C:AM.aq)(i:Nat)(hi:i<c.af.length)(nd b:List (List Nat))(hnd:nd.length=i)(hb:b.length=c.af.length)(hbl:∀l∈b,l.length<=2^20+i*2^10)
 (hC:AM.Reach Tryz.prog Γ (G9 (.ptr p2 0) (.mp m0) (.ptr H.length 0) (.list false c.kG (c.af.map dg)) (.int .i64 c.af.length) (.int .i64 (i+1:Nat)) (hQ H (nd++[eJ (bZ c) c.af[i].ins []]) (je (bZ c) i c.af[i].ins [] b)) ⟨[],.norm,base,up⟩) C):
 AM.Reach Tryz.prog Γ (G9 (.ptr p2 0) (.mp m0) (.ptr H.length 0) (.list false c.kG (c.af.map dg)) (.int .i64 c.af.length) (.int .i64 i) (hQ H nd b) ⟨[],.norm,base,up⟩) C:=by
 have q2:=cv (c.hG.of hi);have xw:=GO (H:=H) (nd:=nd) (b:=b);have xn:=GQ (H:=H) (nd:=nd) (b:=b);have yl:=Ac (n:=H.length) (N:=b.length) (m:=nd.length) (by omega);have hlen:=lh (H:=H) (nd:=nd) (b:=b);have hm0:=aV hm;have hnew:=ada (H:=H) (nd:=nd) (b:=b) (by omega);have hsp:=WB (n:=H.length) (N:=b.length) (m:=nd.length) (by omega) (.mp ((hQ H nd b).length+3));have hsu:=Xn (n:=H.length) (N:=b.length) (m:=nd.length) (by omega);have hwf:=aeA (nd:=nd) (b:=b) hw (hQ H nd b).length (aU _);have hbm:=acS (n:=H.length) (N:=b.length) (m:=nd.length) (q:=(hQ H nd b).length) (by omega);have hbn:=L5 (hQ H nd b).length (b.length-(nd.length+1))
 have yc:∀h,(dw H.length b.length nd.length)[nd.length]'h=.c_:=fun h=>by
  have e:(dw H.length b.length nd.length)[nd.length]? =some .c_:=by
   rw[dw,dF (by simp),il,xT,C2,show b.length-nd.length=(b.length-(nd.length+1))+1 by omega,kV];rfl
  exact(dD.1 e).2
 have hin:=acr (Γ:=Γ) c hc hw hv hm nd i hi hnd up base hbase p2 c.af[i].ins.length 0 (by omega) [] b hb (fun l hl=>by have:=hbl l hl;omega);subst hnd;rw[hb]at xw xn yl hlen hnew hsp hsu hbm hbn yc
 have w1:∀os,(hQ H nd b++os)[H.length]? =some (.cells [.sl (H.length+1) 0 c.af.length,.sl (H.length+2) 0 c.af.length]):=fun os=>fE xw os
 have w2:∀os,(hQ H nd b++os)[H.length+1]? =some (.row 1 jL (dw H.length c.af.length nd.length) none (decide (nd.length=0)) false):=fun os=>fE xn os
 have w3:∀os o,(hQ H nd b++os).set (H.length+1) o=(hQ H nd b).set (H.length+1) o++os:=fun os o=>j8 _ _ (by rw[hlen];omega)
 have w4:∀o os,((hQ H nd b).set (H.length+1) o++os)[(hQ H nd b).length]? =os[0]? :=fun o os=>by rw[dF (by simp)];simp
 have hX:(hQ H nd b).length=H.length+(3+(c.af.length+nd.length)):=hlen;generalize hQ H nd b=X at*;clear hlen
 have hb2:base<=X.length:=by omega
 have hX1:H.length<X.length:=by omega
 have hX2:H.length+1<X.length:=by omega
 have hX3:p2<X.length:=by omega
 have hX4:m0<X.length:=by omega
 refine .bf 60 ?_;simp(disch:=omega) [hi,q2,w1,w2,w3,w4,yl,yc,V9];rw[hsp]
 have hmp:(AV.mp (H.length+(3+(c.af.length+nd.length))))=.mp X.length:=by rw[hX]
 rw[hmp]at hsu;refine .trans (.m9 [6,27,28,29,30,31,32,33,34,35] _) ?_;simp[m7]
 refine .qB X.length [3] (by
  simp[hb2,hX1,hX3,hX4]
  exact Nz (by simp[lR hbm,lR hbn]) _ (p_ hwf)) (by decide) ?_
 have hlt3:(X.length+3<X.length)=False:=j7 (by omega);simp[hX1,hX3,hX4,Ol _ _ hwf,km hbm,km hbn,hlt3];rw[hsu,hnew];refine .inLoop ?_;simp at hin⊢;refine .trans hin ?_;refine .bf 60 ?_
 have hB:nd.length<2^10:=by have:=hc.2.2.2.1;omega
 simp(disch:=omega);refine .aL ?_;simp at hC⊢;exact hC
set_option maxRecDepth 8000 in
theorem abx(c:Ct)(hc:cj c){H:List Ob}(hw:cO H)(hv:fX H){m0:Nat}(hm:H[m0]? =some (.map ((bZ c).map gT) true))(up:List Fr)(base:Nat)(hbase:base<=H.length)(p2:Nat)(hp2:p2<H.length){r0 r1:AV}(hr:H[p2]? =some (.cells [r0,r1])):∀n i:Nat,i+n=c.af.length->∀nd b:List (List Nat),nd.length=i->b.length=c.af.length->(∀l∈b,l.length<=2^20+i*2^10)->
 AM.Reach Tryz.prog Γ (G9 (.ptr p2 0) (.mp m0) (.ptr H.length 0) (.list false c.kG (c.af.map dg)) (.int .i64 c.af.length) (.int .i64 i) (hQ H nd b) ⟨[],.norm,base,up⟩)
  (.back up (.agg [.sl (H.length+1) 0 c.af.length,.sl (H.length+2) 0 c.af.length]) (hQ (H.set p2 (.cells [.sl (H.length+1) 0 c.af.length,.sl (H.length+2) 0 c.af.length])) (ff (bZ c) (c.af.drop i) i nd b).1 (ff (bZ c) (c.af.drop i) i nd b).2)):=by
 intro n
 induction n with
 |zero=>
  intro i hi nd b hnd hb hbl
  have q1:¬i<c.af.length:=by omega
  rw[bw (by omega),ff];have xw:=GO (H:=H) (nd:=nd) (b:=b)
  have xp:(hQ H nd b)[p2]? =some (.cells [r0,r1]):=by rw[Gw hp2];exact hr
  have xs:=fun o=>aaN (nd:=nd) (b:=b) hp2 o
  have xp2:∀o,((hQ H nd b).set p2 o)[p2]? =some o:=fun o=>by rw[er (by rw[lh];omega)]
  rw[hb]at xw;refine .bf 60 ?_;simp[q1,xw,xp,xp2];rw[xs];exact .refl _
 |succ n ih=>
  intro i hi nd b hnd hb hbl
  have q1:i<c.af.length:=by omega
  have hiB:c.af[i].ins.length<2^10:=(hc.2.2.2.2.1 _ (bC q1)).2.1;rw[bM q1,ff];refine abR c hc hw hv hm up base hbase p2 hp2 _ i q1 nd b hnd hb hbl ?_
  exact ih (i+1) (by omega) _ _ (by simp[hnd]) (by rw[wG];exact hb) (fun l hl=>by
   have:=F1 (bZ c) i (2^20+i*2^10) c.af[i].ins [] b hbl l hl
   rw[C7];omega)
def dQ(c:Ct):List (List Nat):=(ff (bZ c) c.af 0 [] (List.replicate c.af.length [])).1
def bD(c:Ct):List (List Nat):=(ff (bZ c) c.af 0 [] (List.replicate c.af.length [])).2
def gU(c:Ct)(n:Nat)(x y:AV):List Ob:=[.cells (AV.cells (bX c)),.cells [x,y],.row 1 jL [] none true false,.row 1 iT [] none true false,.cells (AV.cells (bX c)),.map ((bZ c).map gT) true]
def gJ(c:Ct)(h:List Ob):List Ob:=h++gU c h.length (.sl (h.length+7) 0 c.af.length) (.sl (h.length+8) 0 c.af.length)
theorem jO(c:Ct)(h:List Ob):(gJ c h).length=h.length+6:=by simp[gJ,gU]
theorem oU(i m:Nat):∀l:List (Bs×Nat),m6 i m (l.map gT)=true
 |[]=>rfl
 |x::l=>by simp[oU i m l]
set_option maxRecDepth 8000 in
theorem adx(c:Ct)(hc:cj c)(hd:(c.af.map (·.name)).Nodup){h:List Ob}(hw:cO h)(hv:fX h):∀up,AM.Reach Tryz.prog Γ (.cl mI [bX c] up h)
 (.back up (.agg [.sl ((gJ c h).length+1) 0 c.af.length,.sl ((gJ c h).length+2) 0 c.af.length]) (hQ (gJ c h) (dQ c) (bD c))):=by
 intro up;have hN:=hc.2.2.2.1;generalize hH:h++gU c h.length (.sl (h.length+2) 0 0) (.sl (h.length+3) 0 0)=H
 have hHl:H.length=h.length+6:=by rw[<-hH];simp[gU]
 have hp:H[h.length]? =some (.cells (AV.cells (bX c))):=by rw[<-hH];simp[gU]
 have hp2:H[h.length+1]? =some (.cells [.sl (h.length+2) 0 0,.sl (h.length+3) 0 0]):=by rw[<-hH];simp[gU]
 have hm:H[h.length+5]? =some (.map ((bZ c).map gT) true):=by rw[<-hH];simp[gU]
 have hwH:cO H:=fun m hm=>by
  have h1:=hw m (by omega);have h2:=nG m (bZ c);rw[<-hH,oB,h1]
  simp[gU,h2];omega
 have hvH:fX H:=fun i m hi=>by
  have h1:=hv i m (by omega);have h2:=oU i m (bZ c);rw[<-hH,iP,h1]
  simp[gU,h2];omega
 have hend:H.set (h.length+1) (.cells [.sl (H.length+1) 0 c.af.length,.sl (H.length+2) 0 c.af.length])=gJ c h:=by
  rw[<-hH,A9,gJ];simp[gU]
 have hL:=abx (Γ:=Γ) c hc hwH hvH hm up h.length (by omega) (h.length+1) (by omega) hp2 c.af.length 0 (by omega) [] (List.replicate c.af.length []) rfl (by simp) (by simp)
 have hcv:=fun f=>adX (Γ:=Γ) H c.af.length f up c.af.length 0 (by omega)
 rw[Y0,XQ]at hcv;rw[hend,iq,hHl]at hL;refine .bF 60 V7 ?_;simp;refine .trans (MD c hc hd ?_ _) ?_
 ·intro m hm;simp at hm;have h1:=hw m (by omega)
  simp[h1];omega
 have e2:h.length+1+1=h.length+2:=rfl;have e3:h.length+1+1+1=h.length+3:=rfl;have e5:h.length+4+1=h.length+5:=rfl;refine .trans (.pop _) (.bf 60 ?_);simp[e2,e3,e5];refine .trans (.m9 [0,11,12] _) ?_;simp[m7]
 have hR:=fun k hk C hC=>acF (Γ:=Γ) (c:=c) (p:=h.length) (x2:=.ptr (h.length+1) 0) (x3:=.mp (h.length+5)) (H:=H) (up:=up) (base:=h.length) (k:=k) (C:=C) hc hp (hwH _ (aU _)) (by omega) (by simp;omega) (by simp;omega) hk hC
 rw[<-hH]at hR;simp[gU]at hR;refine hR _ ?_ _ ?_
 ·simp
 have hcv':∀f,AM.Reach Tryz.prog Γ (.fr f up (h++(gU c h.length (.sl (h.length+2) 0 0) (.sl (h.length+3) 0 0)++hW c (h.length+6)))) (.fr f up (hQ H [] (List.replicate c.af.length []))):=fun f=>by
  rw[<-eQ,hH,<-hHl];exact hcv f
 simp[gU]at hcv';refine .trans (hcv' _) ?_;refine .bf 60 ?_;have hq:=Gw (H:=H) (nd:=[]) (b:=List.replicate c.af.length []) (aV hp);rw[hp]at hq;simp[hq];refine .inLoop ?_;simp at hL⊢;rw[jO];simp[dQ,bD];exact hL
def hP(A:List Ob)(l s:List Nat)(g:Option Nat):List Ob:=A++[.row 1 an ((l++s).map iN) g true false,.cells [.sl A.length 0 l.length]]
def swp(l:List Nat)(i j:Nat):List Nat:=(l.set i (l.getD j 0)).set j (l.getD i 0)
section
variable{A:List Ob}{l s:List Nat}{g:Option Nat}
theorem wN:(hP A l s g).length=A.length+2:=by simp[hP]
theorem uG:(hP A l s g)[A.length]? =some (.row 1 an ((l++s).map iN) g true false):=by simp[hP]
theorem nZ:(hP A l s g)[A.length+1]? =some (.cells [.sl A.length 0 l.length]):=by
 rw[hP,dF (by omega)];simp
theorem o8{i:Nat}(h:i<A.length):(hP A l s g)[i]? =A[i]? :=by rw[hP,cR h]
theorem acu{l' s':List Nat}(h:l'.length=l.length):(hP A l s g).set A.length (.row 1 an ((l'++s').map iN) g true false)=hP A l' s' g:=by
 have:=A9 A [.row 1 an ((l++s).map iN) g true false,.cells [.sl A.length 0 l.length]] 0 (.row 1 an ((l'++s').map iN) g true false);rw[gW]at this
 rw[hP,this,hP,h];rfl
theorem dG(i j:Nat):(swp l i j).length=l.length:=by simp[swp]
theorem Bg{L:List Nat}{i:Nat}(h:i<L.length):(L.map iN)[i]? =some (.int .i64 (L.getD i 0:Nat)):=by simp[h]
end
theorem Bw(A:List Ob)(l s:List Nat)(g:Option Nat)(hg:g=none\/g=some 0/\s=[]):∀up,AM.Reach Tryz.prog Γ (.cl s7 [.sl A.length 0 l.length] up (hP A l s g)) (.back up (.int .i64 l.length) (hP A l s g)):=by
 intro up;have xr:=uG (A:=A) (l:=l) (s:=s) (g:=g)
 have hl2:s=[]->((l++s).map iN).length=l.length:=fun h=>by rw[h];simp
 generalize hP A l s g=X at*;generalize hL:(l++s).map iN=L at*
 have hl:l.length<=L.length:=by rw[<-hL];simp
 rcases hg with rfl|⟨rfl,rfl⟩
 ·refine .bF 60 JD ?_;simp[xr]
 ·have hl3:=hl2 rfl;refine .bF 60 JD ?_;simp[xr,hl3]
theorem wT(A:List Ob)(l s:List Nat)(g:Option Nat)(hg:g=none\/g=some 0/\s=[]){i j:Nat}(hi:i<l.length)(hj:j<l.length):∀up,AM.Reach Tryz.prog Γ (.cl vE [.sl A.length 0 l.length,.int .i64 i,.int .i64 j] up (hP A l s g)) (.back up (.bool (decide (l.getD i 0<l.getD j 0))) (hP A l s g)):=by
 intro up;have xr:=uG (A:=A) (l:=l) (s:=s) (g:=g)
 have e:∀k,k<l.length->(l++s).getD k 0=l.getD k 0:=fun k hk=>by simp[cR hk]
 have gi:=Bg (L:=l++s) (i:=i) (by simp;omega);have gj:=Bg (L:=l++s) (i:=j) (by simp;omega);rw[e i hi]at gi;rw[e j hj]at gj;generalize hP A l s g=X at*;generalize hL:(l++s).map iN=L at*
 have hl:l.length<=L.length:=by rw[<-hL];simp
 obtain⟨_,gi'⟩:=dD.1 gi;obtain⟨_,gj'⟩:=dD.1 gj;generalize l.getD i 0=vi at*;generalize l.getD j 0=vj at*
 have hl2:s=[]->L.length=l.length:=fun h=>by rw[<-hL,h];simp
 rcases hg with rfl|⟨rfl,rfl⟩
 ·refine .bF 60 Jz ?_;simp(disch:=omega) [xr,gi,gj,gi',gj',hi,hj,hl,eR]
 ·have hl3:=hl2 rfl;refine .bF 60 Jz ?_;simp(disch:=omega) [xr,gi,gj,gi',gj',hi,hj,hl3,eR]
theorem Pr{A:List Ob}{l s:List Nat}{i:Nat}{v:Nat}(hi:i<l.length):((l++s).map iN).set i (.int .i64 v)=(l.set i v++s).map iN:=by
 rw[kZ,j8 _ _ (by simpa using hi),kZ,pL]
theorem wO(A:List Ob)(l s:List Nat)(g:Option Nat)(hg:g=none\/g=some 0/\s=[]){i j:Nat}(hi:i<l.length)(hj:j<l.length):∀up,AM.Reach Tryz.prog Γ (.cl vD [.sl A.length 0 l.length,.int .i64 i,.int .i64 j] up (hP A l s g)) (.back up (.aH []) (hP A (swp l i j) s g)):=by
 intro up;have xr:=uG (A:=A) (l:=l) (s:=s) (g:=g);have xl:=wN (A:=A) (l:=l) (s:=s) (g:=g)
 have e:∀k,k<l.length->(l++s).getD k 0=l.getD k 0:=fun k hk=>by simp[cR hk]
 have gi:=Bg (L:=l++s) (i:=i) (by simp;omega);have gj:=Bg (L:=l++s) (i:=j) (by simp;omega);rw[e i hi]at gi;rw[e j hj]at gj
 have fin:(hP A l s g).set A.length (.row 1 an ((((l++s).map iN).set i (.int .i64 (l.getD j 0))).set j (.int .i64 (l.getD i 0))) g true false)=hP A (swp l i j) s g:=by
  rw[Pr (A:=A) hi,Pr (A:=A) (by simpa using hj)];exact acu (by simp)
 have hr:A.length<(hP A l s g).length:=by omega
 clear xl;generalize hP A l s g=X at*;generalize hL:(l++s).map iN=L at*
 have hl:l.length<=L.length:=by rw[<-hL];simp
 have hiL:i<L.length:=by omega
 have hjL:j<L.length:=by omega
 generalize l.getD i 0=vi at*;generalize l.getD j 0=vj at*;obtain⟨_,gi'⟩:=dD.1 gi;obtain⟨_,gj'⟩:=dD.1 gj;obtain⟨_,xr'⟩:=dD.1 xr
 have gs:(L.set i (.int .i64 vj))[j]? =some (.int .i64 vj):=by
  by_cases hij:i=j
  ·subst hij;rw[er hiL]
  ·rw[dB hij];exact gj
 have hl2:s=[]->L.length=l.length:=fun h=>by rw[<-hL,h];simp
 rcases hg with rfl|⟨rfl,rfl⟩
 ·refine .bF 60 JC ?_;simp(disch:=omega) [xr,xr',gs,gi,gj,gi',gj',hi,hj,hl,hiL,hjL,eR];rw[fin];exact .refl _
 ·have hl3:=hl2 rfl;refine .bF 60 JC ?_;simp(disch:=omega) [xr,xr',gs,gi,gj,gi',gj',hi,hj,hl3,hiL,hjL,eR];rw[fin];exact .refl _
def mu(l:List Nat)(j:Nat):List Nat:=
 if j=0 then l else if l.getD j 0<l.getD ((j-1)/2) 0 then mu (swp l ((j-1)/2) j) ((j-1)/2)else l
termination_by j
decreasing_by omega
theorem abJ(j:Nat):∀l:List Nat,(mu l j).length=l.length:=by
 induction j using Nat.strongRecOn with
 |_ j ih=>
  intro l;rw[mu]
  split
  ·rfl
  ·rename_i h0
   split
   ·rw[ih _ (by omega),dG]
   ·rfl
theorem Pk(j:Nat)(h:j≠0):((j:Int)-1).tdiv 2=(((j-1)/2:Nat):Int):=by
 have e:(j:Int)-1=((j-1:Nat):Int):=by omega
 rw[e,Int.tdiv_eq_ediv_of_nonneg (by omega)];rfl
theorem ae9(A:List Ob)(s:List Nat)(g:Option Nat)(hg:g=none\/g=some 0/\s=[])(up:List Fr)(base:Nat):∀(j:Nat)(l:List Nat),j<l.length->l.length<2^40->
 AM.Reach Tryz.prog Γ (yzA (.bW kc (.ptr (A.length+1) 0)) (.int .i64 j) (hP A l s g) ⟨[],.norm,base,up⟩) (.back up (.aH []) (hP A (mu l j) s g)):=by
 intro j
 induction j using Nat.strongRecOn with
 |_ j ih=>
  intro l hj hl;have xc:=nZ (A:=A) (l:=l) (s:=s) (g:=g);rw[mu]
  by_cases h0:j=0
  ·rw[if_pos h0];subst h0;generalize hP A l s g=X at*;refine .bf 60 ?_;simp[xc]
  ·rw[if_neg h0];have hq:=Pk j h0
   have hlt:(j-1)/2<j:=by omega
   have hne:((((j-1)/2:Nat):Int)=(j:Int))=False:=j7 (by omega);have hL:=wT (Γ:=Γ) A l s g hg hj (show(j-1)/2<l.length by omega);have hS:=wO (Γ:=Γ) A l s g hg (show(j-1)/2<l.length by omega) hj
   by_cases hc:l.getD j 0<l.getD ((j-1)/2) 0
   ·rw[if_pos hc];have hh:=ih _ hlt (swp l ((j-1)/2) j) (by rw[dG];omega) (by rw[dG];exact hl);rw[oo hc]at hL;generalize hP A l s g=X at*;generalize(j-1)/2=i at*;refine .bf 60 ?_;simp(disch:=omega) [xc,hq,hne];refine .bd 60 hL ?_;simp[xc];refine .bd 60 hS ?_;simp;refine .aL ?_;simp at hh⊢;exact hh
   ·rw[if_neg hc];rw[vp hc]at hL;generalize hP A l s g=X at*;generalize(j-1)/2=i at*;refine .bf 60 ?_;simp(disch:=omega) [xc,hq,hne];refine .bd 60 hL ?_;simp[xc]
theorem aex(A:List Ob)(s:List Nat)(g:Option Nat)(hg:g=none\/g=some 0/\s=[])(j:Nat)(l:List Nat)(hj:j<l.length)(hl:l.length<2^40):∀up,
 AM.Reach Tryz.prog Γ (.cl vB [.bW kc (.ptr (A.length+1) 0),.int .i64 j] up (hP A l s g)) (.back up (.aH []) (hP A (mu l j) s g)):=by
 intro up;have h:=ae9 (Γ:=Γ) A s g hg up (hP A l s g).length j l hj hl;generalize hP A l s g=X at*;refine .bF 60 TX ?_;simp;refine .inLoop ?_;simp at h⊢;exact h
def fR(l:List Nat)(j n:Nat):Nat:=if j+1<n/\l.getD (j+1) 0<l.getD j 0 then j+1 else j
def gm(n:Nat)(l:List Nat)(i:Nat):List Nat×Nat:=
 if n<=2*i+1 then(l,i)else if l.getD (fR l (2*i+1) n) 0<l.getD i 0 then gm n (swp l i (fR l (2*i+1) n)) (fR l (2*i+1) n)else(l,i)
termination_by n-i
decreasing_by
 have:2*i+1<=fR l (2*i+1) n:=by unfold fR;split<;>omega
 omega
theorem wP(l:List Nat)(j n:Nat):j<=fR l j n:=by unfold fR;split<;>omega
theorem Bk(l:List Nat){j n:Nat}(h:j<n):fR l j n<n:=by unfold fR;split<;>omega
theorem YS(n:Nat):∀(m i:Nat)(l:List Nat),n-i<=m->(gm n l i).1.length=l.length:=by
 intro m
 induction m with
 |zero=>
  intro i l h;rw[gm,if_pos (by omega)]
 |succ m ih=>
  intro i l h;rw[gm]
  split
  ·rfl
  ·split
   ·have:=wP l (2*i+1) n;rw[ih _ _ (by omega),dG]
   ·rfl
theorem adO(A:List Ob)(s:List Nat)(g:Option Nat)(hg:g=none\/g=some 0/\s=[])(up:List Fr)(base:Nat)(n i0:Nat)(hn:n<2^40):∀(m i:Nat)(l:List Nat),n-i<=m->i<2^41->n<=l.length->(i<l.length)->
 AM.Reach Tryz.prog Γ (yzS (.bW kc (.ptr (A.length+1) 0)) (.int .i64 i0) (.int .i64 n) (.int .i64 i) (hP A l s g) ⟨[],.norm,base,up⟩) (.back up (.bool (decide (i0<(gm n l i).2))) (hP A (gm n l i).1 s g)):=by
 intro m
 induction m with
 |zero=>
  intro i l hm hi hnl hil;obtain⟨j1,hj1⟩:∃j1,j1=2*i+1:=⟨_,rfl⟩
  have e1:2*(i:Int)+1=(j1:Int):=by omega
  rw[gm,if_pos (by omega)]
  have q1:¬j1<n:=by omega
  have q2:n<=j1:=by omega
  generalize hP A l s g=X at*;refine .bf 60 ?_;simp(disch:=omega) [e1,q1,q2]
 |succ m ih=>
  intro i l hm hi hnl hil;obtain⟨j1,hj1⟩:∃j1,j1=2*i+1:=⟨_,rfl⟩
  have e1:2*(i:Int)+1=(j1:Int):=by omega
  obtain⟨j2,hj2⟩:∃j2,j2=j1+1:=⟨_,rfl⟩
  have e2:(j1:Int)+1=(j2:Int):=by omega
  rw[gm]
  by_cases h1:n<=2*i+1
  ·rw[if_pos h1]
   have q1:¬j1<n:=by omega
   have q2:n<=j1:=by omega
   generalize hP A l s g=X at*;refine .bf 60 ?_;simp(disch:=omega) [e1,q1,q2]
  ·rw[if_neg h1]
   have q1:j1<n:=by omega
   have q2:¬n<=j1:=by omega
   have q3:(n:Int)<=(j1:Int)↔False:=⟨fun h=>by omega,False.elim⟩;have hkg:=wP l j1 n;have hkl:=Bk l q1;rw[<-hj1];have xc:=nZ (A:=A) (l:=l) (s:=s) (g:=g)
   by_cases h2:j2<n
   ·have hL:=wT (Γ:=Γ) A l s g hg (show j2<l.length by omega) (show j1<l.length by omega)
    by_cases h3:l.getD (j2) 0<l.getD j1 0
    ·rw[oo h3]at hL
     have hk:fR l j1 n=j2:=by unfold fR;rw[<-hj2,if_pos ⟨h2,h3⟩]
     rw[hk];have hL2:=wT (Γ:=Γ) A l s g hg (show j2<l.length by omega) hil
     by_cases hc:l.getD (j2) 0<l.getD i 0
     ·rw[if_pos hc];have hS:=wO (Γ:=Γ) A l s g hg hil (show j2<l.length by omega);have hh:=ih (j2) (swp l i (j2)) (by omega) (by omega) (by rw[dG];omega) (by rw[dG];omega);rw[oo hc]at hL2;generalize hP A l s g=X at*;refine .bf 60 ?_;simp(disch:=omega) [xc,e1,e2,q1,q2,h2];refine .bd 60 hL ?_;simp[xc];refine .bd 60 hL2 ?_;simp[xc];refine .bd 60 hS ?_;simp;refine .aL ?_;simp at hh⊢;exact hh
     ·rw[if_neg hc];rw[vp hc]at hL2;generalize hP A l s g=X at*;refine .bf 60 ?_;simp(disch:=omega) [xc,e1,e2,q1,q2,h2];refine .bd 60 hL ?_;simp[xc];refine .bd 60 hL2 ?_;simp[xc]
    ·rw[vp h3]at hL
     have hk:fR l j1 n=j1:=by unfold fR;rw[<-hj2,if_neg (fun h=>h3 h.2)]
     rw[hk];have hL2:=wT (Γ:=Γ) A l s g hg (show j1<l.length by omega) hil
     by_cases hc:l.getD (j1) 0<l.getD i 0
     ·rw[if_pos hc];have hS:=wO (Γ:=Γ) A l s g hg hil (show j1<l.length by omega);have hh:=ih (j1) (swp l i (j1)) (by omega) (by omega) (by rw[dG];omega) (by rw[dG];omega);rw[oo hc]at hL2;generalize hP A l s g=X at*;refine .bf 60 ?_;simp(disch:=omega) [xc,e1,e2,q1,q2,h2];refine .bd 60 hL ?_;simp[xc];refine .bd 60 hL2 ?_;simp[xc];refine .bd 60 hS ?_;simp;refine .aL ?_;simp at hh⊢;exact hh
     ·rw[if_neg hc];rw[vp hc]at hL2;generalize hP A l s g=X at*;refine .bf 60 ?_;simp(disch:=omega) [xc,e1,e2,q1,q2,h2];refine .bd 60 hL ?_;simp[xc];refine .bd 60 hL2 ?_;simp[xc]
   ·have hk:fR l j1 n=j1:=by unfold fR;rw[<-hj2,if_neg (fun h=>h2 h.1)]
    rw[hk];have hL2:=wT (Γ:=Γ) A l s g hg (show j1<l.length by omega) hil
    by_cases hc:l.getD (j1) 0<l.getD i 0
    ·rw[if_pos hc];have hS:=wO (Γ:=Γ) A l s g hg hil (show j1<l.length by omega);have hh:=ih (j1) (swp l i (j1)) (by omega) (by omega) (by rw[dG];omega) (by rw[dG];omega);rw[oo hc]at hL2;generalize hP A l s g=X at*;refine .bf 60 ?_;simp(disch:=omega) [xc,e1,e2,q1,q2,h2];refine .bd 60 hL2 ?_;simp[xc];refine .bd 60 hS ?_;simp;refine .aL ?_;simp at hh⊢;exact hh
    ·rw[if_neg hc];rw[vp hc]at hL2;generalize hP A l s g=X at*;refine .bf 60 ?_;simp(disch:=omega) [xc,e1,e2,q1,q2,h2];refine .bd 60 hL2 ?_;simp[xc]
theorem acW(A:List Ob)(s:List Nat)(g:Option Nat)(hg:g=none\/g=some 0/\s=[])(n i:Nat)(hn:n<2^40)(l:List Nat)(hnl:n<=l.length)(hi:i<l.length)(hi2:i<2^40):∀up,
 AM.Reach Tryz.prog Γ (.cl vx [.bW kc (.ptr (A.length+1) 0),.int .i64 i,.int .i64 n] up (hP A l s g)) (.back up (.bool (decide (i<(gm n l i).2))) (hP A (gm n l i).1 s g)):=by
 intro up;have h:=adO (Γ:=Γ) A s g hg up (hP A l s g).length n i hn (n-i) i l (aU _) (by omega) hnl hi;generalize hP A l s g=X at*;refine .bF 60 TL ?_;simp;refine .inLoop ?_;simp at h⊢;exact h
def gP(s:List Nat):Option Nat:=if s=[]then some 0 else none
theorem Pg(s:List Nat):gP s=none\/gP s=some 0/\s.tail=[]:=by
 unfold gP
 split
 ·rename_i h;exact .inr ⟨rfl,by rw[h];rfl⟩
 ·exact .inl rfl
theorem abT(A:List Ob)(l s:List Nat)(x:Nat)(hx:x<2^40)(hl:l.length<2^40):∀up,AM.Reach Tryz.prog Γ (.cl ze [.ptr (A.length+1) 0,.bW an (.int .i64 x)] up (hP A l s none)) (.back up (.aH []) (hP A (l++[x]) s.tail (gP s))):=by
 intro up;have xr:=uG (A:=A) (l:=l) (s:=s) (g:=none);have xc:=nZ (A:=A) (l:=l) (s:=s) (g:=none)
 have b8:(l.length+1)*8<=140737488355328:=by omega
 have hr:A.length<(hP A l s none).length:=by rw[wN];omega
 have hr1:A.length+1<(hP A l s none).length:=by rw[wN];omega
 cases s with
 |nil=>
  have fin:((hP A l [] none).set A.length (.row 1 an (l.map iN++[.int .i64 x]) (some 0) true false)).set (A.length+1) (.cells [.sl A.length 0 (l.length+1)])=hP A (l++[x]) [] (some 0):=by
   simp[hP]
  rw[fZ]at xr;rw[show gP []=some 0 from rfl];generalize hP A l [] none=X at*;obtain⟨_,xr'⟩:=dD.1 xr;obtain⟨_,xc'⟩:=dD.1 xc;refine .bF 60 JB ?_;simp(disch:=omega) [xr,xc,xr',xc',b8,eR];refine .n7 60 ?_;simp(disch:=omega) [xr,xc,xr',xc',b8,eR];rw[fin];exact .refl _
 |cons a s=>
  have fin:((hP A l (a::s) none).set A.length (.row 1 an (l.map iN++(AV.int .i64 x)::s.map iN) none true false)).set (A.length+1) (.cells [.sl A.length 0 (l.length+1)])=hP A (l++[x]) s none:=by
   simp[hP]
  rw[show gP (a::s)=none from rfl]
  have hL:((l++a::s).map iN)=l.map iN++.int .i64 a::s.map iN:=by simp
  rw[hL]at xr
  have tk:(l.map iN++AV.int .i64 a::s.map iN).take l.length=l.map iN:=by rw[List.take_append_of_le_length (by simp)];simp
  have dr:(l.map iN++AV.int .i64 a::s.map iN).drop (l.length+1)=s.map iN:=by rw[u6,bw (by simp),show l.length+1-(l.map iN).length=1 by simp];rfl
  have ln:¬(l.length=(l.map iN++AV.int .i64 a::s.map iN).length):=by simp
  have ln2:l.length+1<=(l.map iN++AV.int .i64 a::s.map iN).length:=by simp
  have ln3:l.length<=(l.map iN++AV.int .i64 a::s.map iN).length:=by simp
  generalize hP A l (a::s) none=X at*;generalize(l.map iN++AV.int .i64 a::s.map iN)=L at*;obtain⟨_,xr'⟩:=dD.1 xr;obtain⟨_,xc'⟩:=dD.1 xc;refine .bF 60 JB ?_;simp(disch:=omega) [xr,xc,xr',xc',b8,eR];refine .n7 60 ?_;simp(disch:=omega) [xr,xc,xr',xc',b8,eR,ln,ln2,ln3,tk,dr];rw[fin];exact .refl _
theorem ad5(A:List Ob)(l s:List Nat)(x:Nat)(hl:l.length<2^40):∀up,AM.Reach Tryz.prog Γ (.cl zj [.ptr (A.length+1) 0] up (hP A (l++[x]) s none)) (.back up (.bW an (.int .i64 x)) (hP A l (x::s) none)):=by
 intro up;have xr:=uG (A:=A) (l:=l++[x]) (s:=s) (g:=none);have xc:=nZ (A:=A) (l:=l++[x]) (s:=s) (g:=none)
 have hr1:A.length+1<(hP A (l++[x]) s none).length:=by rw[wN];omega
 have fin:(hP A (l++[x]) s none).set (A.length+1) (.cells [.sl A.length 0 l.length])=hP A l (x::s) none:=by simp[hP]
 have e:(l++[x]).length=l.length+1:=by simp
 rw[e]at xc
 have gx:(((l++[x])++s).map iN)[l.length]? =some (.int .i64 x):=by simp
 generalize hP A (l++[x]) s none=X at*;generalize hL:(((l++[x])++s).map iN)=L at*
 have hlL:l.length<L.length:=by rw[<-hL];simp
 obtain⟨_,gx'⟩:=dD.1 gx;obtain⟨_,xr'⟩:=dD.1 xr;obtain⟨_,xc'⟩:=dD.1 xc;refine .bF 60 Uu ?_;simp(disch:=omega) [xr,xc,xr',xc',gx,gx',eR];rw[fin];exact .refl _
def fh(l:List Nat)(x:Nat):List Nat:=mu (l++[x]) l.length
theorem OC(A:List Ob)(l s:List Nat)(x:Nat)(hx:x<2^40)(hl:l.length<2^39):∀up,AM.Reach Tryz.prog Γ (.cl vy [.bW kc (.ptr (A.length+1) 0),.bW an (.int .i64 x)] up (hP A l s none)) (.back up (.aH []) (hP A (fh l x) s.tail (gP s))):=by
 intro up;have h1:=abT (Γ:=Γ) A l s x hx (by omega);have h2:=Bw (Γ:=Γ) A (l++[x]) s.tail (gP s) (Pg s);have h3:=aex (Γ:=Γ) A s.tail (gP s) (Pg s) l.length (l++[x]) (by simp) (by simp;omega);have hxc:=nZ (A:=A) (l:=l++[x]) (s:=s.tail) (g:=gP s)
 have e:(l++[x]).length=l.length+1:=by simp
 rw[e]at hxc h2;rw[fh];refine .bF 60 TM ?_;simp;refine .bd 60 h1 ?_;generalize hP A (l++[x]) s.tail (gP s)=X at*;simp[hxc];refine .bd 60 h2 ?_;simp(disch:=omega);refine .bd 60 h3 ?_;simp
def dp(l:List Nat):List Nat:=(gm (l.length-1) (swp l 0 (l.length-1)) 0).1
theorem AA(l:List Nat):(dp l).length=l.length:=by rw[dp,YS _ _ _ _ (aU _),dG]
theorem aev(A:List Ob)(l s:List Nat)(h0:0<l.length)(hl:l.length<2^39):∀up,AM.Reach Tryz.prog Γ (.cl y9 [.bW kc (.ptr (A.length+1) 0)] up (hP A l s none)) (.back up (.bW an (.int .i64 ((dp l).getD (l.length-1) 0:Nat))) (hP A ((dp l).take (l.length-1)) ((dp l).getD (l.length-1) 0::s) none)):=by
 intro up;obtain⟨n,hn⟩:∃n,l.length=n+1:=⟨l.length-1,by omega⟩;have h1:=Bw (Γ:=Γ) A l s none (.inl rfl);have h2:=wO (Γ:=Γ) A l s none (.inl rfl) h0 (show n<l.length by omega);have h3:=acW (Γ:=Γ) A s none (.inl rfl) n 0 (by omega) (swp l 0 n) (by rw[dG];omega) (by rw[dG];omega) (by omega)
 have e:(gm n (swp l 0 n) 0).1=dp l:=by rw[dp,hn];rfl
 have el:=AA l
 have e2:dp l=(dp l).take n++[(dp l).getD n 0]:=by
  have hlt:n<(dp l).length:=by omega
  have h5:(dp l).getD n 0=(dp l)[n]:=by rw[bo,bg hlt];rfl
  rw[h5]
  conv=>lhs;rw[<-ng n (dp l)]
  congr 1;rw[bM hlt,bw (by omega)]
 have h4:=ad5 (Γ:=Γ) A ((dp l).take n) s ((dp l).getD n 0) (by rw[gE];omega);have c1:=nZ (A:=A) (l:=l) (s:=s) (g:=none);have c2:=nZ (A:=A) (l:=swp l 0 n) (s:=s) (g:=none);have c3:=nZ (A:=A) (l:=dp l) (s:=s) (g:=none);rw[<-e2]at h4;rw[e]at h3;rw[hn]at h1 h2 c1;rw[dG,hn]at c2;rw[el,hn]at c3
 have en:l.length-1=n:=by omega
 have hn40:n<2^40:=by omega
 rw[en];clear hn en h0 hl el e2 e;generalize(dp l).getD n 0=x at*;generalize(dp l).take n=l' at*;generalize hP A l s none=X at*;generalize hP A (swp l 0 n) s none=Y at*;generalize hP A (dp l) s none=Z at*;refine .bF 60 TT ?_;simp[c1];refine .bd 60 h1 ?_;simp(disch:=omega) [c1];simp at h2 h3;refine .bd 60 h2 ?_;simp(disch:=omega) [c2];refine .bd 60 h3 ?_;simp(disch:=omega) [c3];refine .bd 60 h4 ?_;simp
theorem Reach.aeQ{P:Program}{fn:FuncId}{k:List It}{ds:List dn}{kind:FK}{base:Nat}{up:List Fr}{h h':List Ob}{t:List AV}{d:Option Nat}{a:AO}{os:List AG}{l:Nat}{args:List AV}{v:AV}{C:AM.aq}
 (ha:aw P Γ t h a=.yield l args)(hb:AM.Reach P Γ ((jf.yl l).cfg args (⟨.run,fn,.ops (⟨d,none,a⟩::os)::k,t,ds,kind,base⟩::up) h) (.back (⟨.run,fn,.ops (⟨d,none,a⟩::os)::k,t,ds,kind,base⟩::up) v h'))
 (hn:AM.Reach P Γ (.fr ⟨.run,fn,.ops os::k,aY t d v,ds,kind,base⟩ up h') C):AM.Reach P Γ (.fr ⟨.run,fn,.ops (⟨d,none,a⟩::os)::k,t,ds,kind,base⟩ up h) C:=by
 refine .bf 1 ?_;rw[aeq,ha];exact .trans hb (.trans (.pop _) hn)
theorem Kl(pl:List (Bs×Nat)):∀(l:List Gt)(i:Nat)(nd b:List (List Nat)),(ff pl l i nd b).1.length=nd.length+l.length
 |[],_,_,_=>by simp[ff]
 |g::r,i,nd,b=>by rw[ff,Kl pl r];simp;omega
theorem KI(pl:List (Bs×Nat)):∀(l:List Gt)(i:Nat)(nd b:List (List Nat)),(ff pl l i nd b).2.length=b.length
 |[],_,_,_=>by simp[ff]
 |g::r,i,nd,b=>by rw[ff,KI pl r,wG]
theorem tr(c:Ct):(dQ c).length=c.af.length:=by rw[dQ,Kl];simp
theorem gH(c:Ct):(bD c).length=c.af.length:=by rw[bD,KI];simp
def aC(c:Ct)(M:List Ob)(nd:List (List Nat)):List Ob:=hQ (gJ c M) nd (bD c)++[.cells [.sl (M.length+7) 0 c.af.length,.sl (M.length+8) 0 c.af.length]]
def tC(c:Ct)(n:Nat)(nd:List (List Nat)):List Ob:=
 gU c n (.sl (n+7) 0 c.af.length) (.sl (n+8) 0 c.af.length)++(hF (n+6) c.af.length nd.length (bD c)++((bD c).map fo++nd.map gS))++[.cells [.sl (n+7) 0 c.af.length,.sl (n+8) 0 c.af.length]]
section
variable{c:Ct}{M:List Ob}{nd:List (List Nat)}
theorem wX:aC c M nd=M++tC c M.length nd:=by
 have hl:(M++gU c M.length (.sl (M.length+7) 0 c.af.length) (.sl (M.length+8) 0 c.af.length)).length=M.length+6:=by simp[gU]
 simp only[aC,hQ,tC,gJ,hl,gH,eQ]
theorem oZ(hn:nd.length=c.af.length):(aC c M nd).length=M.length+(10+(c.af.length+c.af.length)):=by
 simp[aC,lh,jO,gH,hn];omega
theorem BC{i:Nat}(h:i<(hQ (gJ c M) nd (bD c)).length):(aC c M nd)[i]? =(hQ (gJ c M) nd (bD c))[i]? :=by rw[aC,cR h]
theorem GG(hn:nd.length=c.af.length):(aC c M nd)[M.length+(9+(c.af.length+c.af.length))]? =some (.cells [.sl (M.length+7) 0 c.af.length,.sl (M.length+8) 0 c.af.length]):=by
 have hl:(hQ (gJ c M) nd (bD c)).length=M.length+(9+(c.af.length+c.af.length)):=by rw[lh,jO,gH,hn];omega
 rw[aC,dF (by omega),hl,C2];rfl
theorem PB(hn:nd.length=c.af.length):(aC c M nd)[M.length+7]? =some (.row 1 jL (dw (M.length+6) c.af.length c.af.length) none (decide (c.af.length=0)) false):=by
 have h:=GQ (H:=gJ c M) (nd:=nd) (b:=bD c);rw[jO,gH,hn]at h
 rw[BC (by rw[lh,jO];omega)];exact h
theorem ae5:(aC c M nd)[M.length+8]? =some (.row 1 iT (fy (M.length+6) (bD c)) none (decide (c.af.length=0)) false):=by
 have h:=PF (H:=gJ c M) (nd:=nd) (b:=bD c);rw[jO,gH]at h
 rw[BC (by rw[lh,jO];omega)];exact h
theorem afk{k:Nat}(hk:k<c.af.length):(aC c M nd)[M.length+(9+k)]? =some (fo ((bD c).getD k [])):=by
 have h:=GI (H:=gJ c M) (nd:=nd) (b:=bD c) (k:=k) (by rw[gH];exact hk);rw[jO]at h
 rw[BC (by rw[lh,jO,gH];omega),show M.length+(9+k)=M.length+6+(3+k) by omega,h,bo,bg (by rw[gH];exact hk)];rfl
theorem PH{i:Nat}(hn:nd.length=c.af.length)(hi:i<c.af.length):(aC c M nd)[M.length+(9+(c.af.length+i))]? =some (gS (nd.getD i [])):=by
 have h:=Px (H:=gJ c M) (nd:=nd) (b:=bD c) (i:=i) (by omega);rw[jO,gH]at h
 rw[BC (by rw[lh,jO,gH];omega),show M.length+(9+(c.af.length+i))=M.length+6+(3+(c.af.length+i)) by omega,h,bo,bg (by omega)];rfl
theorem abD{i:Nat}(l:List Nat)(hn:nd.length=c.af.length)(hi:i<c.af.length):(aC c M nd).set (M.length+(9+(c.af.length+i))) (gS l)=aC c M (nd.set i l):=by
 have h:=Oe (H:=gJ c M) (b:=bD c) (nd:=nd) (i:=i) l (by omega);rw[jO,gH]at h;rw[aC,j8 _ _ (by rw[lh,jO,gH];omega),show M.length+(9+(c.af.length+i))=M.length+6+(3+(c.af.length+i)) by omega,h,aC]
theorem adm(c:Ct){n m:Nat}(h:n+8<m):cE m (gU c n (.sl (n+7) 0 c.af.length) (.sl (n+8) 0 c.af.length))=true:=by
 have h2:=nG m (bZ c)
 simp[gU,h2];omega
theorem OE(hv:fX M){i m:Nat}(hi:M.length+(9+c.af.length)<=i):cH i m (aC c M nd)=true:=by
 have h1:=hv i m (by omega);have h2:=oU i m (bZ c)
 have h3:cY i m (fy (M.length+6) (bD c))=true:=FN _ fun j hj he=>by rw[gH]at hj;omega
 have h4:=EH (n:=M.length+6) (N:=c.af.length) (m:=nd.length) (i:=i) (q:=m);rw[wX,iP,tC,iP,iP,iP,iP,h1,AD,Al];simp[gU,hF,h2,h3,h4];omega
theorem adN{r m:Nat}(n:Nat)(hr:r<n):cH r m (tC c n nd)=true:=by
 have h2:=oU r m (bZ c)
 have h3:cY r m (fy (n+6) (bD c))=true:=FN _ fun j hj he=>by omega
 have h4:=EH (n:=n+6) (N:=c.af.length) (m:=nd.length) (i:=r) (q:=m);rw[tC,iP,iP,iP,iP,AD,Al];simp[gU,hF,h2,h3,h4];omega
end
end Go.Proofs.YtihmomicdpkabaaGreatDoor
