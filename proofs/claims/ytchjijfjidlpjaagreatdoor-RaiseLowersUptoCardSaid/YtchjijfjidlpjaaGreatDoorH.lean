/- Factors: how many rows h -/
import Derived.Test.YtchjijfjidlpjaaGreatDoorG
import Derived.Test.YtchjijfjidlpjaaGreatDoorF
import Derived.Test.YtchjijfjidlpjaaGreatDoorCode
import Derived.Test.YtchjijfjidlpjaaGreatDoorAMd
set_option linter.unusedSimpArgs false
set_option linter.unusedVariables false
namespace Go.Proofs.YtchjijfjidlpjaaGreatDoor
set_option maxRecDepth 8000
open Go.AM Go.Proofs
variable{Γ:Nat->Option AV}
def eu(x:Li):List Bs->Nat
 |[]=>0
 |s::r=>(if cZ x s=true then 1 else 0)+eu x r
theorem Om(x:Li):∀r:List Bs,eu x r<=r.length
 |[]=>aT _
 |s::r=>by rw[eu,bL];have:=Om x r;split<;>omega
theorem I1(rows:List Bs)(x:Li){k:Nat}(hk:Kd 1 k rows)(hl:rows.length<2^40)(hs:∀s∈rows,s.length<2^40):aQ ak Γ zf [.list false k (rows.map .str),ew x] (.int .i64 (eu x rows)):=by
 have key:∀n i:Nat,i+n=rows.length->∀a:Nat,a+n<2^41->aA ak Γ (yAR (.ptr 0 0) (.int .i64 a) (.list false k (rows.map .str)) (.int .i64 rows.length) (.int .i64 i) [.cells (ew x).cells]) (.ret (.int .i64 (a+eu x (rows.drop i):Nat))):=by
  intro n
  induction n with
  |zero=>
   intro i hi a ha
   have q1:¬i<rows.length:=by omega
   rw[bx (by omega),eu];refine .go 60 ?_;simp[q1];exact .back (by simp)
  |succ n ih=>
   intro i hi a ha
   have q1:i<rows.length:=by omega
   have q2:=bG (hk.of q1)
   have hw:bN [.cells (ew x).cells,.cells (ew x).cells]:=by intro m hm;simp
   have hc:=(Jy (Γ:=Γ) x 1 [rows[i]] (by intro s h;simp only[cL]at h;subst h;exact hs _ (bA q1))).2 rows[i] (by simp);rw[bJ q1,eu];refine .go 60 ?_;simp(disch:=omega) [q1,q2];refine .aX 60 (Tb x) ?_;simp;refine .aX 60 (fun up=>hc up [.cells (ew x).cells,.cells (ew x).cells] ⟨rfl,hw⟩) ?_
   by_cases h3:cZ x rows[i]=true
   ·have hh:=ih (i+1) (by omega) (a+1) (by omega);simp(disch:=omega) [h3];refine .aI ?_;simp;refine .drop 1 rfl (by simp) (by simp) (by simp) ?_;simp[q2,<-Int.add_assoc]at hh⊢;exact hh
   ·have hh:=ih (i+1) (by omega) a (by omega);simp(disch:=omega) [h3];refine .aI ?_;simp;refine .drop 1 rfl (by simp) (by simp) (by simp) ?_;simp[q2]at hh⊢;exact hh
 refine .run 60 aaJ.1 (by simp) ?_;simp;refine .inLoop ?_;have hh:=key rows.length 0 (by omega) 0 (by omega);simp at hh⊢;exact hh
def gI(l:List Li)(s:Bs):Bs:=l.foldl (fun b x=>b.set x.1 45) s
theorem sv:∀(l:List Li)(s:Bs),(gI l s).length=s.length
 |[],s=>rfl
 |x::l,s=>by have:=sv l (s.set x.1 45);simpa[gI]using this
theorem ahU:gm 45=.int .u8 45:=rfl
theorem aeT(l:List Li)(x:Li)(s:Bs):gI (l++[x]) s=(gI l s).set x.1 45:=by simp[gI]
theorem akz(l:List Li){kl:Nat}(hk:Kd 2 kl l)(hj:l.length<2^40)(s:Bs)(hx:∀x∈l,x.1<s.length)(hs:s.length<2^40)(o0 o1:Ob)(x1 x5 h2 hv hc:AV)(up:List Fr)(hb:aN 3 [x1,x5,h2,hv,hc]=true)(ho:cz 3 [o0,o1]=true):
 ∀n i:Nat,i+n=l.length->AM.Reach ak Γ (yBI x1 x5 (.sl 2 0 s.length) h2 hv hc (.list false kl (l.map ew)) (.int .i64 l.length) (.int .i64 i) [o0,o1,.row 1 Jc ((gI (l.take i) s).map gm) none true false] ⟨[],.norm,0,up⟩)
  (yBJ x1 x5 (.sl 2 0 s.length) h2 hv hc [o0,o1,.row 1 Jc ((gI l s).map gm) none true false] ⟨[],.norm,0,up⟩):=by
 intro n
 induction n with
 |zero=>
  intro i hi
  have q1:¬i<l.length:=by omega
  rw[cj (by omega)];refine .dh 60 ?_;simp[q1];exact .exit rfl rfl
 |succ n ih=>
  intro i hi
  have q1:i<l.length:=by omega
  have q2:=bG (hk.of q1);have q3:=hx l[i] (bA q1);have hh:=ih (i+1) (by omega);rw[iA q1,aeT]at hh
  have q4:l[i].1<(gI (l.take i) s).length:=by rw[sv];exact q3
  refine .dh 60 ?_;simp(disch:=omega) [q1,q2,q3,q4,sv];refine .aI ?_;simp;refine .lF 3 rfl (by simp) (by simpa using hb) (by simpa using ho) ?_;simp[ahU]at hh⊢;exact hh
def dP(l:List Li)(rows:List Bs):List Bs:=rows.map (gI l)
theorem P1(rows:List Bs)(l:List Li){k kl:Nat}(hk:Kd 1 k rows)(hb:Kd 2 kl l)(hr:rows.length<2^40)(hc:l.length<2^40)(hs:∀s∈rows,s.length<2^40/\∀x∈l,x.1<s.length):
 aQ ak Γ tP [.list false k (rows.map .str),.list false kl (l.map ew)] (.own 1 aw ((dP l rows).map .str)):=by
 have key:∀n i:Nat,i+n=rows.length->∀out:List Bs,out.length=i->aA ak Γ (yBL (.list false kl (l.map ew)) (.sl 1 0 out.length) (.list false k (rows.map .str)) (.int .i64 rows.length) (.int .i64 i) [.row 1 aw [] none true false,.row 1 aw (out.map .str) none true false])
  (.ret (.own 1 aw ((out++dP l (rows.drop i)).map .str))):=by
  intro n
  induction n with
  |zero=>
   intro i hi out ho
   have q1:¬i<rows.length:=by omega
   rw[bx (by omega)];refine .go 60 ?_;simp[q1,dP];exact .back (by simp)
  |succ n ih=>
   intro i hi out ho
   have q1:i<rows.length:=by omega
   have q2:=bG (hk.of q1);obtain⟨h1,h2⟩:=hs rows[i] (bA q1);have hh:=ih (i+1) (by omega) (out++[gI l rows[i]]) (by simp[ho])
   have e:out++dP l (rows.drop i)=out++[gI l rows[i]]++dP l (rows.drop (i+1)):=by rw[bJ q1,cR];rfl
   rw[e];have h4:=akz (Γ:=Γ) l hb hc rows[i] h2 h1 (.row 1 aw [] none true false) (.row 1 aw (out.map .str) none true false) (.list false kl (l.map ew)) (.sl 1 0 out.length) (.list false k (rows.map .str)) (.int .i64 rows.length) (.int .i64 i) [] (by simp) (by simp) l.length 0 (by omega);refine .go 60 ?_;simp(disch:=omega) [q1,q2];refine .inLoop ?_;have h0:gI [] rows[i]=rows[i]:=rfl;have hv:=sv l rows[i];simp[h0]at h4⊢;refine .reach h4 ?_;refine .go 60 ?_;have hx:List.take (List.length rows[i]) (List.map gm (gI l rows[i]))=List.map gm (gI l rows[i]):=cj (by simp[hv]);simp(disch:=omega) [hv,hx];refine .aI ?_;simp;refine .drop 2 rfl (by simp) (by simp) (by simp) ?_;refine .reset (i:=1) rfl (by simp) (by simp) (by simp) ?_;simp[q2]at hh⊢;exact hh
 refine .run 60 aaz.1 (by simp) ?_;simp;refine .inLoop ?_;have hh:=key rows.length 0 (by omega) [] rfl;simp at hh⊢;exact hh
def uA:List Fm->Bool
 |[f]=>decide (f.kind=1)
 |_=>false
def kR(r:List Fm):List Fm:=if uA r=true then[]else r
def rl(n:Nat):List Fm:=if 1<n then[⟨3,0,n⟩]else[]
def fm(l:List Li)(r:List Fm):List Fm:=rl (l.length+min (kR r).length 1)++l.map eO++kR r
theorem wF(l:List Li){kl:Nat}(hb:Kd 2 kl l)(hk:l.length<2^40)(hx:∀x∈l,x.1<2^40)(r:List Fm){kr:Nat}(hc:Kd 3 kr r)(hr:r.length<2^40)(fl:Bool):
 ∀n i:Nat,i+n=l.length->∀out:List Fm,out.length<=i+1->aA ak Γ (yBk (.list fl kr (r.map bm)) (.sl 1 0 out.length) (.list false kl (l.map ew)) (.int .i64 l.length) (.int .i64 i) [.row 3 a_ [] none true false,.row 3 a_ (out.map bm) none true false])
  (.ret (.own 3 a_ ((out++(l.drop i).map eO++r).map bm))):=by
 intro n
 induction n with
 |zero=>
  intro i hi out ho
  have q1:¬i<l.length:=by omega
  rw[bx (by omega)];have h2:kr=3\/r=[]:=hc;refine .go 60 ?_
  by_cases hv:r=[]
  ·simp(disch:=omega) [q1,h2,hv];exact .back (by simp)
  ·obtain rfl:kr=3:=h2.resolve_right hv;simp(disch:=omega) [q1,hv];exact .back (by simp)
 |succ n ih=>
  intro i hi out ho
  have q1:i<l.length:=by omega
  have q2:=bG (hb.of q1);have hp:=akO (Γ:=Γ) l[i] (hx _ (bA q1));have hh:=ih (i+1) (by omega) (out++[eO l[i]]) (by simp;omega)
  have e:out++(l.drop i).map eO++r=out++[eO l[i]]++(l.drop (i+1)).map eO++r:=by rw[bJ q1];simp only[bX,cR,eH,kF]
  rw[e];refine .go 60 ?_;simp(disch:=omega) [q1,q2];refine .call 60 (by simp) hp ?_;simp(disch:=omega);refine .aI ?_;simp;refine .drop 2 rfl (by simp) (by simp) (by simp) ?_;refine .reset (i:=1) rfl (by simp) (by simp) (by simp) ?_;simp[q2]at hh⊢;exact hh
theorem Ef:ni (.int .i64 0) [.int .i64 1]=some (.int .i64 0):=rfl
theorem sU:ni (.int .i64 1) [.int .i64 1]=some (.int .i64 1):=rfl
theorem D6(n:Nat):ni (.int .i64 ((n:Int)+1)) [.int .i64 1]=some (.int .i64 1):=by
 by_cases h:(1:Int)<(n:Int)+1
 ·simp only[ni,cE,if_pos h]
 ·have e:(n:Int)+1=1:=by omega
  rw[e];rfl
theorem JC(l:List Li){kl:Nat}(hb:Kd 2 kl l)(hc:l.length<2^40)(hx:∀x∈l,x.1<2^40)(r:List Fm){kr:Nat}(hk:Kd 3 kr r)(hr:r.length<2^40):
 aQ ak Γ vD [.list false kl (l.map ew),.list false kr (r.map bm)] (.own 3 a_ ((fm l r).map bm)):=by
 refine .run 100 acy.1 (by simp) ?_;have q0:(1<l.length+min (kR r).length 1)\/¬(1<l.length+min (kR r).length 1):=Decidable.em _
 cases r with
 |nil=>
  have e0:kR []=[]:=rfl;unfold fm rl;rw[e0]at q0⊢;simp only[c_,Nat.zero_min,iz]at q0⊢;have hv:((1:Int)<l.length)=(1<l.length):=propext (by omega)
  rcases q0 with q0|q0
  ·have hh:=wF (Γ:=Γ) l hb hc hx [] (kr:=kr) (.inr rfl) (by simp) false l.length 0 (by omega) [⟨3,0,l.length⟩] (by simp);simp(disch:=omega) [q0,Ef,sU,hv];refine .inLoop ?_;simp;refine .drop 2 rfl (by simp) (by simp) (by simp) ?_;refine .reset (i:=1) rfl (by simp) (by simp) (by simp) ?_;simp[q0]at hh⊢;exact hh
  ·have hh:=wF (Γ:=Γ) l hb hc hx [] (kr:=kr) (.inr rfl) (by simp) false l.length 0 (by omega) [] (by simp);simp(disch:=omega) [q0,Ef,sU,hv];refine .inLoop ?_;simp[q0]at hh⊢;exact hh
 |cons f r=>
  obtain rfl:kr=3:=hk.of (i:=0) (by simp)
  by_cases ht:uA (f::r)=true
  ·have e0:kR (f::r)=[]:=by rw[kR,if_pos ht]
   obtain⟨hf,rfl⟩:f.kind=1/\r=[]:=by
    cases r with
    |nil=>simpa[uA]using ht
    |cons _ _=>cases ht
   unfold fm rl;rw[e0]at q0⊢;simp only[c_,Nat.zero_min,iz]at q0⊢;have hv:((1:Int)<l.length)=(1<l.length):=propext (by omega)
   rcases q0 with q0|q0
   ·have hh:=wF (Γ:=Γ) l hb hc hx [] (kr:=3) (.inr rfl) (by simp) false l.length 0 (by omega) [⟨3,0,l.length⟩] (by simp);simp(disch:=omega) [q0,Ef,sU,hv,hf];refine .inLoop ?_;simp;refine .trees [1] ?_;simp;refine .gc 1 [1] (by simp) (by decide) ?_;simp;refine .reset (i:=1) rfl (by simp) (by simp) (by simp) ?_;simp[q0]at hh⊢;exact hh
   ·have hh:=wF (Γ:=Γ) l hb hc hx [] (kr:=3) (.inr rfl) (by simp) false l.length 0 (by omega) [] (by simp);simp(disch:=omega) [q0,Ef,sU,hv,hf];refine .inLoop ?_;simp;refine .trees [1] ?_;simp;refine .gc 1 [1] (by simp) (by decide) ?_;simp[q0]at hh⊢;exact hh
  ·have e0:kR (f::r)=f::r:=by rw[kR,if_neg ht]
   unfold fm rl;rw[e0]at q0⊢
   have e1:min (f::r).length 1=1:=by simp
   have e2:((r.length:Int)+1=1)=(r=[]):=propext ⟨fun h=>lq.1 (by omega),fun h=>by rw[h];rfl⟩
   have e4:f.kind=1->¬r=[]:=fun h h2=>ht (by rw[h2];simp[uA,h])
   rw[e1]at q0⊢
   rcases q0 with q0|q0
   ·have q3:0<l.length:=by omega
    have hv:((1:Int)<(l.length:Int)+1)=True:=bG (by omega);have hh:=wF (Γ:=Γ) l hb hc hx (f::r) (kr:=3) (.inl rfl) hr false l.length 0 (by omega) [⟨3,0,l.length+1⟩] (by simp)
    by_cases h5:r=[]
    ·have h6:¬f.kind=1:=fun h=>e4 h h5
     simp(disch:=omega) [h5,h6,q3,sU,D6,hv];refine .inLoop ?_;simp;refine .drop 2 rfl (by simp) (by simp) (by simp) ?_;refine .reset (i:=1) rfl (by simp) (by simp) (by simp) ?_;simp[q3,hv,h5]at hh⊢;exact hh
    ·simp(disch:=omega) [h5,q3,sU,D6,hv,e2];refine .inLoop ?_;simp;refine .drop 2 rfl (by simp) (by simp) (by simp) ?_;refine .reset (i:=1) rfl (by simp) (by simp) (by simp) ?_;simp[q3,hv,h5]at hh⊢;exact hh
   ·have q3:l.length=0:=by omega
    have hv:((1:Int)<1)=False:=jC (by omega);obtain rfl:l=[]:=lq.1 q3;have hh:=wF (Γ:=Γ) [] hb hc hx (f::r) (kr:=3) (.inl rfl) hr false 0 0 (by simp) [] (by simp)
    by_cases h5:r=[]
    ·have h6:¬f.kind=1:=fun h=>e4 h h5
     simp(disch:=omega) [h5,h6,sU,D6,hv];refine .inLoop ?_;simp[h5]at hh⊢;exact hh
    ·simp(disch:=omega) [h5,sU,D6,hv,e2];refine .inLoop ?_;simp[h5]at hh⊢;exact hh
def mZ(rows:List Bs)(b:Li×Nat)(x:Li):Li×Nat:=if b.2<eu x rows then(x,eu x rows)else b
def o6(rows:List Bs):Nat->Nat->Li×Nat->Li×Nat
 |0,_,b=>b
 |n+1,i,b=>o6 rows n (i+1) (mZ rows (mZ rows b (i,49)) (i,48))
def dj(rows:List Bs)(n:Nat):Li×Nat:=o6 rows n 0 ((0,0),0)
theorem oz:Utf8.decode {data:=#[49,48]} 0=(49,1):=by kernel_rfl
theorem qh:Utf8.decode {data:=#[49,48]} 1=(48,1):=by kernel_rfl
theorem aiV(rows:List Bs){k:Nat}(hk:Kd 1 k rows)(hl:rows.length<2^40)(hs:∀s∈rows,s.length<2^40)(L:Nat)(hL:L<2^40):∀n i:Nat,i+n=L->∀b:Li×Nat,
 aA ak Γ (yCl (.list false k (rows.map .str)) (.ptr 0 0) (.ptr 1 0) (.int .i64 b.2) (.int .i64 L) (.int .i64 i) [.cells [.int .i64 0,.int .i64 0],.cells (ew b.1).cells]) (.ret (.aH [ew (o6 rows n i b).1,.int .i64 (o6 rows n i b).2])):=by
 intro n
 induction n with
 |zero=>
  intro i hi b
  have q1:¬i<L:=by omega
  refine .go 60 ?_;simp[q1];exact .back (by simp[o6])
 |succ n ih=>
  intro i hi b
  have q1:i<L:=by omega
  have h2:=I1 (Γ:=Γ) rows (i,49) hk hl hs;have hv:=I1 (Γ:=Γ) rows (i,48) hk hl hs;rw[o6]
  have half:∀b1:Li×Nat,aA ak Γ (yCj (.list false k (rows.map .str)) (.ptr 0 0) (.ptr 1 0) (.int .i64 b1.2) (.int .i64 i) (.int .i64 L) (.int .i64 i) (.it 2) [.cells [.int .i64 0,.int .i64 0],.cells (ew b1.1).cells,.jf [49,48] 1])
   (.ret (.aH [ew (o6 rows n (i+1) (mZ rows b1 (i,48))).1,.int .i64 (o6 rows n (i+1) (mZ rows b1 (i,48))).2])):=by
   intro b1;have hh:=ih (i+1) (by omega) (mZ rows b1 (i,48));refine .go 60 ?_;simp(disch:=omega) [oz,qh];refine .call 60 (by simp) hv ?_
   by_cases h1:b1.2<eu (i,48) rows
   ·have e1:mZ rows b1 (i,48)=((i,48),eu (i,48) rows):=if_pos h1;rw[e1]at hh⊢;simp(disch:=omega) [h1];refine .aI ?_;refine .go 60 ?_;simp(disch:=omega) [oz,qh];refine .aI ?_;simp;refine .drop 2 rfl (by simp) (by simp) (by simp) ?_;simp at hh⊢;exact hh
   ·have e1:mZ rows b1 (i,48)=b1:=if_neg h1;rw[e1]at hh⊢;simp(disch:=omega) [h1];refine .aI ?_;refine .go 60 ?_;simp(disch:=omega) [oz,qh];refine .aI ?_;simp;refine .drop 2 rfl (by simp) (by simp) (by simp) ?_;simp at hh⊢;exact hh
  refine .go 60 ?_;simp(disch:=omega) [q1];refine .inLoop ?_;refine .go 60 ?_;simp(disch:=omega) [oz,qh];refine .call 60 (by simp) h2 ?_
  by_cases h1:b.2<eu (i,49) rows
  ·have e1:mZ rows b (i,49)=((i,49),eu (i,49) rows):=if_pos h1;have hh:=half ((i,49),eu (i,49) rows);rw[e1];simp(disch:=omega) [h1];refine .aI ?_;simp;refine .drop 3 rfl (by simp) (by simp) (by simp) ?_;simp at hh⊢;exact hh
  ·have e1:mZ rows b (i,49)=b:=if_neg h1;have hh:=half b;rw[e1];simp(disch:=omega) [h1];refine .aI ?_;simp;refine .drop 3 rfl (by simp) (by simp) (by simp) ?_;simp at hh⊢;exact hh
theorem akr(rows:List Bs){k:Nat}(hk:Kd 1 k rows)(hl:rows.length<2^40)(hs:∀s∈rows,s.length<2^40)(L:Nat)(s:Bs)(h0:rows[0]? =some s)(hL:s.length=L):
 aQ ak Γ zg [.list false k (rows.map .str)] (.aH [ew (dj rows L).1,.int .i64 (dj rows L).2]):=by
 have q1:0<rows.length:=(cV.1 h0).1;have q3:rows[0]=s:=(cV.1 h0).2;have q2:=bG (hk.of q1)
 have h2:L<2^40:=by rw[<-hL,<-q3];exact hs _ (bA q1)
 have hh:=aiV (Γ:=Γ) rows hk hl hs L h2 L 0 (by omega) ((0,0),0);refine .run 60 abN.1 (by simp) ?_;simp(disch:=omega) [q1,q2,q3,hL];refine .inLoop ?_;simp[dj,q2]at hh⊢;exact hh
abbrev jj(l:List Bs):Ob:=.row 1 aw (l.map .str) none true false
theorem H5{h:List Ob}{i:Nat}{o:Ob}(hi:h[i]? =some o):h.set i o=h:=by
 apply iX;intro j
 by_cases hj:i=j
 ·subst hj;rw[ff (bd hi),hi]
 ·rw[dW hj]
theorem OA{α:Type}(p:α->Bool):∀(l:List α)(i:Nat),(fG p l i=-1/\l.filter (fun x=>!p x)=l)\/∃k,k<l.length/\fG p l i=((i+k:Nat):Int)/\(l.take (k+1)).filter (fun x=>!p x)=l.take k
 |[],i=>.inl ⟨rfl,rfl⟩
 |x::xs,i=>by
  rw[fG]
  cases h:p x with
  |true=>right;exact⟨0,by simp,by simp,by simp[h]⟩
  |false=>
   rcases OA p xs (i+1)with⟨h1,h2⟩|⟨k,h1,h2,h3⟩
   ·left;exact⟨by simpa using h1,by rw[r8];simp[h,h2]⟩
   ·right;exact⟨k+1,by simp;omega,by rw[if_neg (by simp),h2];congr 1;omega,by simp[h,h3]⟩
theorem acp{φ:List Ob->Prop}{f:FuncId}{caps:List AV}{p:Bs->Bool}{l:List Bs}(ha:jJ Tryz.prog Γ φ f caps AV.str p l)(hs:l.length<2^60){h:List Ob}{r:Nat}(hr:h[r]? =some (jj l))(hφ:φ h):
 ∀up,AM.Reach ak Γ (.cl vh [.sl r 0 l.length,.fn (.func f) [] caps] up h) (.back up (.int .i64 (fG p l 0)) h):=by
 intro up
 have key:∀n i:Nat,i+n=l.length->AM.Reach ak Γ (Vj (.sl r 0 l.length) (.fn (.func f) [] caps) (.int .i64 l.length) (.int .i64 i) h ⟨[],.norm,h.length,up⟩) (.back up (.int .i64 (fG p (l.drop i) i)) h):=by
  intro n
  induction n with
  |zero=>
   intro i hi
   have h1:¬i<l.length:=by omega
   refine .aY 60 ?_;rw[bx (by omega)];simp[h1,fG]
  |succ n ih=>
   intro i hi
   have h1:i<l.length:=by omega
   have h2:=ha.2 l[i] (bA h1);rw[bJ h1,fG];have hh:=ih (i+1) (by omega);refine .aY 60 ?_;simp[h1,ha.1,hr];refine .aX 60 (fun up=>h2 up h hφ) ?_
   cases hp:p l[i]with
   |true=>simp(disch:=omega) [hp]
   |false=>
    simp(disch:=omega) [hp];refine .aI ?_;simp at hh⊢;exact hh
 refine .bp 60 Mg.1 ?_;simp;refine .inLoop ?_;have hh:=key l.length 0 (by omega);simp at hh⊢;exact hh
section
variable{φ:List Ob->Prop}{f:FuncId}{caps:List AV}{p:Bs->Bool}{l:List Bs}
abbrev qc:Ob:=.row 1 aw [] none true false
def bO(p:Bs->Bool)(l:List Bs):List Bs:=l.filter fun x=>!p x
theorem ak7(ha:jJ Tryz.prog Γ φ f caps AV.str p l)(hs:l.length<2^40){h:List Ob}{r:Nat}(hr:r<h.length)(hφ:∀l',φ (h.set r (jj l')++[qc]))(up:List Fr):∀n j:Nat,j+n=l.length->∀A B X:List Bs,B≠[]->A=bO p (l.take j)->A.length+B.length=j->X=A++B++l.drop j->
 AM.Reach ak Γ (yCM (.sl r 0 l.length) (.fn (.func f) [] caps) (.int .i64 A.length) (.int .i64 j) (h.set r (jj X)++[qc]) ⟨[],.norm,h.length,up⟩)
  (.back up (.sl r 0 (bO p l).length) (h.set r (jj (bO p l++List.replicate (l.length-(bO p l).length) []))++[qc])):=by
 have hlen:∀o,(h.set r o).length=h.length:=by simp
 have g1:∀(o:Ob)(os:List Ob),(h.set r o++os)[r]? =some o:=fun o os=>by rw[cF (by simp;omega)];simp[hr]
 have g2:∀(o o':Ob)(os:List Ob),(h.set r o++os).set r o'=h.set r o'++os:=fun o o' os=>by rw[lZ _ _ (by simpa using hr)];simp
 intro n
 induction n with
 |zero=>
  intro j hj A B X hB hA hv hX
  have q1:¬j<l.length:=by omega
  have q2:l.take j=l:=cj (by omega);rw[q2]at hA;rw[bx (by omega),ey]at hX
  have x1:X.length=l.length:=by rw[hX,bC];omega
  have x2:List.take A.length (List.map AV.str X)=List.map AV.str A:=by rw[hX,jA,tF (by simp)]
  have x3:List.drop l.length (List.map AV.str X)=[]:=bx (by simp;omega);rw[<-hA];refine .aY 60 ?_;simp(disch:=omega) [q1,g1,g2,x1,x2,x3,jj]
 |succ n ih=>
  intro j hj A B X hB hA hv hX
  have q1:j<l.length:=by omega
  have x1:X.length=l.length:=by rw[hX,bC,bC,Fk];omega
  have x4:j<X.length:=by omega
  have x2:X[j]=l[j]:=by
   subst hX;rw[Fq (by simp;omega)];simp[hv]
  have h2:=ha.2 l[j] (bA q1)
  have x5:bO p (l.take (j+1))=A++(if p l[j]=true then[]else[l[j]]):=by
   rw[iA q1,bO,List.filter_append,hA]
   cases hp:p l[j]<;>simp[bO,hp]
  refine .aY 60 ?_;simp(disch:=omega) [q1,g1,g2,x1,x2,x4,ha.1];refine .aX 60 (fun up=>h2 up _ (hφ X)) ?_
  cases hp:p l[j]with
  |true=>
   have hh:=ih (j+1) (by omega) A (B++[l[j]]) X (by simp) (by rw[x5,if_pos hp,ey]) (by simp;omega) (by rw[hX,bJ q1];simp);simp(disch:=omega) [hp];refine .aI ?_;simp at hh⊢;exact hh
  |false=>
   obtain⟨b,B',rfl⟩:∃b B',B=b::B':=by
    cases B with
    |nil=>exact absurd rfl hB
    |cons b B'=>exact⟨b,B',rfl⟩
   simp only[bL]at hv
   have hh:=ih (j+1) (by omega) (A++[l[j]]) (B'++[l[j]]) (X.set A.length l[j]) (by simp) (by rw[x5,hp];rfl) (by simp;omega) (by
    rw[hX,bJ q1,cR,xR _ _ (aT _)];simp)
   have x6:A.length<X.length:=by omega
   simp(disch:=omega) [hp,g1,g2,x6,x1];refine .aI ?_;simp[jj]at hh⊢;exact hh
theorem MT(ha:jJ Tryz.prog Γ φ f caps AV.str p l)(hs:l.length<2^40){h:List Ob}{r:Nat}(hr:h[r]? =some (jj l))(hφ:∀l',φ (h.set r (jj l')++[qc]))(hw:bN h):∃es,
 ∀up,AM.Reach ak Γ (.cl tJ [.sl r 0 l.length,.fn (.func f) [] caps] up h) (.back up (.sl r 0 (bO p l).length) (h.set r (jj (bO p l++es)))):=by
 have hv:=bd hr
 have hb:(h++[qc])[r]? =some (jj l):=by rw[cF hv];exact hr
 have hc:φ (h++[qc]):=by have:=hφ l;rwa[H5 hr]at this
 have hI:=acp (Γ:=Γ) ha (by omega) hb hc
 have fin:∀es up,AM.Reach ak Γ (.cl tJ [.sl r 0 l.length,.fn (.func f) [] caps] up h) (.back up (.sl r 0 (bO p l).length) (h.set r (jj (bO p l++es))++[qc]))->
  AM.Reach ak Γ (.cl tJ [.sl r 0 l.length,.fn (.func f) [] caps] up h) (.back up (.sl r 0 (bO p l).length) (h.set r (jj (bO p l++es)))):=by
  intro es up h1;have e1:(h.set r (jj (bO p l++es))++[qc]).take h.length=h.set r (jj (bO p l++es)):=tF (by simp);have h2:=AM.Reach.leave h1 (by simpa using hv) (by rw[e1];exact(hw.set (fun m hm=>by simp) r) _ (by simp));rwa[e1]at h2
 rcases OA p l 0 with⟨h1,h2⟩|⟨k,h1,h2,h3⟩
 ·refine⟨[],fun up=>fin _ _ ?_⟩;refine .bp 60 Me.1 ?_;simp;refine .aX 60 hI ?_;have e1:bO p l=l:=h2;rw[h1,e1];simp[H5 hr]
  done
 ·refine⟨List.replicate (l.length-(bO p l).length) [],fun up=>fin _ _ ?_⟩
  have hd:=ak7 (Γ:=Γ) ha hs hv hφ up (l.length-(k+1)) (k+1) (by omega) (l.take k) [l[k]] l (by simp) h3.symm (by simp;omega) (by
   rw[cR,tz,<-bJ h1,lY])
  have e2:(l.take k).length=k:=by simp;omega
  rw[e2,H5 hr]at hd;refine .bp 60 Me.1 ?_;simp;refine .aX 60 hI ?_;rw[h2]
  have q3:¬(k:Int)=-1:=by omega
  simp(disch:=omega) [q3];refine .inLoop ?_;simp at hd⊢;exact hd
end
abbrev D3(x:Nat×List Fm):AV:=.list false x.1 (x.2.map bm)
def c9:List (Nat×List Fm)->List Fm
 |[]=>[]
 |x::xs=>x.2++c9 xs
theorem M5(a b:List (Nat×List Fm)):c9 (a++b)=c9 a++c9 b:=by
 induction a with
 |nil=>rfl
 |cons x a ih=>simp[c9,ih]
theorem OC(xs:List (Nat×List Fm))(i:Nat)(h:i<xs.length):c9 (xs.take (i+1))=c9 (xs.take i)++xs[i].2:=by
 rw[iA h,M5];simp[c9]
theorem RW(xs:List (Nat×List Fm))(i:Nat):(c9 (xs.take i)).length<=(c9 xs).length:=by
 conv=>rhs;rw[<-lY i xs,M5]
 simp
theorem Ym(xs:List (Nat×List Fm))(hk:∀x∈xs,Kd 3 x.1 x.2)(hn:xs.length<2^40)(hs:(c9 xs).length<2^40)(hp:0<(c9 xs).length):
 aQ ak Γ xT [.list false 1 (xs.map D3)] (.own 3 a_ ((c9 xs).map bm)):=by
 refine .run 60 Yn.1 (by simp) ?_
 have hv:∀n i:Nat,i+n=xs.length->∀m:Nat,(c9 (xs.take i)).length+m=(c9 xs).length->
  aA ak Γ (yDm (.sl 2 0 (c9 (xs.take i)).length) (.list false 1 (xs.map D3)) (.int .i64 xs.length) (.int .i64 i) [.row 3 a_ [] none true false,.row 3 a_ [] none true false,.row 3 a_ ((c9 (xs.take i)).map bm++List.replicate m (AV.agg [AV.int .i64 0,AV.int .i64 0,AV.int .i64 0])) none true false])
   (.ret (.own 3 a_ ((c9 xs).map bm))):=by
  intro n
  induction n with
  |zero=>
   intro i hi m hm
   have q1:¬i<xs.length:=by omega
   have q2:xs.take i=xs:=cj (by omega);rw[q2]at hm⊢
   have hb:m=0:=by omega
   subst hb;refine .go 60 ?_;simp[q1];exact .back (by simp)
  |succ n ih=>
   intro i hi m hm
   have q1:i<xs.length:=by omega
   have q2:=OC xs i q1;have q3:=RW xs (i+1);rw[q2,bC]at q3;have q4:=hk xs[i] (bA q1);have q5:xs[i].1=3\/xs[i].2=[]:=q4;have hh:=ih (i+1) (by omega) (m-xs[i].2.length) (by rw[q2,bC];omega);rw[q2]at hh
   have hd:(List.replicate m (AV.agg [AV.int .i64 0,AV.int .i64 0,AV.int .i64 0])).drop xs[i].2.length=List.replicate (m-xs[i].2.length) (AV.agg [AV.int .i64 0,AV.int .i64 0,AV.int .i64 0]):=by simp
   refine .go 60 ?_
   by_cases q6:(c9 (xs.take i)).length=(c9 xs).length
   ·have q7:xs[i].2=[]:=lq.1 (by omega)
    have hb:m=0:=by omega
    subst hb;simp[q7]at hh;simp(disch:=(first|omega|(simp;omega))) [q1,q5,q7];refine .aI ?_;simp;exact hh
   ·simp(disch:=(first|omega|(simp;omega))) [q1,q5]
    by_cases q7:m=0
    ·omega
    ·have c1:¬(c9 (List.take i xs)).length=(c9 (List.take i xs)).length+m:=by omega
     have c2:(c9 (List.take i xs)).length+xs[i].snd.length<=(c9 (List.take i xs)).length+m:=by omega
     simp(disch:=(first|omega|(simp;omega))) [q1,q5,c1,c2,q7];refine .aI ?_;have oz:((c9 (xs.take i)).map bm).drop ((c9 (xs.take i)).length+xs[i].2.length)=[]:=bx (by simp);simp[vc,hd,oz]at hh⊢;exact hh
 have hc:∀n i:Nat,i+n=xs.length->
  aA ak Γ (yDo (.list false 1 (xs.map D3)) (.int .i64 (c9 (xs.take i)).length) (.list false 1 (xs.map D3)) (.int .i64 xs.length) (.int .i64 i) [.row 3 a_ [] none true false])
   (.ret (.own 3 a_ ((c9 xs).map bm))):=by
  intro n
  induction n with
  |zero=>
   intro i hi
   have q1:¬i<xs.length:=by omega
   have q2:xs.take i=xs:=cj (by omega);have q3:0<(c9 xs).length:=hp;have hh:=hv xs.length 0 (by omega) (c9 xs).length (by simp[c9]);refine .go 60 ?_;rw[q2];simp[q1];refine .enter 60 Yq.1 ?_
   have q4:¬(c9 xs).length=0:=by omega
   have q5:c9 xs≠[]:=fun e=>by rw[e]at hp;simp at hp
   obtain⟨m,hm⟩:∃m,(c9 xs).length=m+1:=⟨(c9 xs).length-1,by omega⟩
   have h2:List.replicate (c9 xs).length (AV.agg [AV.int .i64 0,AV.int .i64 0,AV.int .i64 0])=(AV.agg [AV.int .i64 0,AV.int .i64 0,AV.int .i64 0])::List.replicate m (AV.agg [AV.int .i64 0,AV.int .i64 0,AV.int .i64 0]):=by rw[hm];rfl
   simp(disch:=(first|omega|(simp;omega))) [q3,q4,q5,h2];refine .inLoop ?_;simp[c9,h2]at hh⊢;exact hh
  |succ n ih=>
   intro i hi
   have q1:i<xs.length:=by omega
   have q2:=OC xs i q1;have q3:=RW xs (i+1);rw[q2,bC]at q3;have hh:=ih (i+1) (by omega);rw[q2]at hh;refine .go 60 ?_
   have q4:¬((c9 (xs.take i)).length:Int)+xs[i].2.length<0:=by omega
   simp(disch:=(first|omega|(simp;omega))) [q1,q4];refine .aI ?_;simp at hh⊢;exact hh
 simp;refine .inLoop ?_;have hh:=hc xs.length 0 (by omega);simp[c9]at hh⊢;exact hh
def nV(s:Bs):Bool:=s.all fun c=>decide (c=45)
theorem afU(s:Bs):(Lib.trimS s [45]=[])↔nV s=true:=by
 have e:(fun c=>([45]:Bs).contains c)=fun c=>decide (c=45):=by funext c;simp[eq_comm]
 unfold Lib.trimS Lib.trimLeftS Lib.trimRightS nV;rw[e];constructor
 ·intro h
  have h1:=dropWhile_nil _ s.reverse fun x hx=>tQ.1 h x (by simpa using hx)
  have h2:=tQ.1 h1;rw[eh];intro x hx;exact h2 x (by simpa using hx)
 ·intro h
  have h1:s.reverse.dropWhile (fun c=>decide (c=45))=[]:=tQ.2 fun x hx=>eh.1 h x (by simpa using hx)
  rw[h1];rfl
theorem ain(s:Bs)(hs:s.length<2^40):aQ ak Γ vv [.str s,.str [45]] (.str (Lib.trimS s [45])):=by
 refine aQ.JP (by simp) (fun _=>rfl) rfl fun N g h w us _ hV=>?_
 obtain⟨us,rfl,h1⟩:=DC hV;obtain⟨us,rfl,h2⟩:=DC h1;obtain rfl:=I9 h2;refine(Any.strings_Trim_laid Tryz.R5 (by kernel_rfl) ⟨s.toArray⟩ ⟨([45]:Bs).toArray⟩ w (by simp[ByteArray.size];omega) (by decide) (ascii_of_all (by decide))).mono ?_
 rintro e' w' ⟨rfl,hB⟩
 exact⟨⟨_,rfl,fun _ _=>by simp[V]⟩,hB⟩
theorem akg(l:List Bs)(hs:∀s∈l,s.length<2^40):jJ Tryz.prog Γ (fun _=>True) F_ [] AV.str nV l:=by
 refine⟨by simp,fun s hm up h _=>?_⟩;have hT:=ain (Γ:=Γ) s (hs s hm)
 have h2:decide (Lib.trimS s [45]=[])=nV s:=by rw[gV,Yg];exact afU s
 refine .bp 60 Z3.1 ?_;simp;refine .ji 60 (by simp) hT ?_;simp[h2]
theorem akY(x:Li)(i j:Nat)(l:List Bs)(hl:∀s∈l,s.length<2^40):jJ Tryz.prog Γ (fun h=>h[j]? =some (.cells [.fn (.func sd) [] [.ptr i 0]])/\h[i]? =some (.cells (ew x).cells)/\bN h) BT [.ptr j 0] AV.str (fun s=>!cZ x s) l:=by
 refine⟨by simp,fun s hs up h hφ=>?_⟩;have ha:=(Jy (Γ:=Γ) x i l hl).2 s hs;refine .bp 60 Z0.1 ?_;simp[hφ.1];refine .aX 60 (fun up=>ha up h hφ.2) ?_;simp
def dL(rows:List Bs)(s:Bs):List Li:=(bu s 0).filter fun x=>decide (eu x rows=rows.length)
def KZ(rows:List Bs):List Fm:=⟨4,0,rows.length⟩::rows.flatMap fun s=>fm (bu s 0) []
def gf:Nat->List Bs->List Fm
 |0,_=>[]
 |_+1,[]=>[⟨0,0,0⟩]
 |f+1,s::r=>
  if bE nV (s::r)=true then[⟨1,0,0⟩]
  else if dL (s::r) s≠[]then fm (dL (s::r) s) (gf f (dP (dL (s::r) s) (s::r)))
  else if(dj (s::r) s.length).2<2 then KZ (s::r)
  else⟨4,0,2⟩::fm [(dj (s::r) s.length).1] (gf f (dP [(dj (s::r) s.length).1] (bO (fun t=>!cZ (dj (s::r) s.length).1 t) (s::r))))++gf f (bO (cZ (dj (s::r) s.length).1) (s::r))
theorem lz{x:Li}:∀{s:Bs}{i:Nat},x∈bu s i↔i<=x.1/\s[x.1-i]? =some x.2/\x.2≠45
 |[],i=>by simp[bu]
 |c::s,i=>by
  have ih:=lz (x:=x) (s:=s) (i:=i+1)
  have e:i+1<=x.1->(c::s)[x.1-i]? =s[x.1-(i+1)]? :=fun h=>by rw[show x.1-i=(x.1-(i+1))+1 by omega];rfl
  rw[bu]
  by_cases h:c=45
  ·rw[if_pos h,ih];constructor
   ·rintro⟨h1,h2,h3⟩;exact⟨by omega,by rw[e h1];exact h2,h3⟩
   ·rintro⟨h1,h2,h3⟩
    have h4:i+1<=x.1:=by
     refine xL fun hn=>h3 ?_
     rw[show x.1-i=0 by omega]at h2;simp only[rV,an]at h2;rw[<-h2,h]
    exact⟨h4,by rw[<-e h4];exact h2,h3⟩
  ·rw[if_neg h,bD,ih];constructor
   ·rintro(h1|⟨h1,h2,h3⟩)
    ·subst h1;exact⟨aT _,by simp,h⟩
    ·exact⟨by omega,by rw[e h1];exact h2,h3⟩
   ·rintro⟨h1,h2,h3⟩
    by_cases h4:x.1=i
    ·left;rw[show x.1-i=0 by omega]at h2;simp only[rV,an]at h2;exact Prod.ext h4 h2.symm
    ·right;exact⟨by omega,by rw[<-e (by omega)];exact h2,h3⟩
theorem Hf:∀(s:Bs)(i:Nat),(bu s i).Pairwise (fun a b=>a.1≠b.1)
 |[],i=>.nil
 |c::s,i=>by
  rw[bu]
  split
  ·exact Hf s (i+1)
  ·refine List.pairwise_cons.2 ⟨fun y hy=>?_,Hf s (i+1)⟩;have:=(lz.1 hy).1
   simp only;omega
theorem Pl{x:Li}:∀{s:Bs}{i:Nat},x∈bu s i->(bu (s.set (x.1-i) 45) i).length+1=(bu s i).length
 |[],i,h=>by simp[bu]at h
 |c::s,i,h=>by
  have hm:=lz.1 h
  by_cases h4:x.1=i
  ·have h2:=hm.2.1;rw[show x.1-i=0 by omega]at h2⊢;simp only[rV,an]at h2
   have h5:¬c=45:=fun hc=>hm.2.2 (by rw[<-h2,hc])
   rw[xv,bu,bu,if_pos rfl,if_neg h5,bL]
  ·have h5:x∈bu s (i+1):=lz.2 ⟨by omega,by have:=hm.2.1;rw[show x.1-i=(x.1-(i+1))+1 by omega]at this;exact this,hm.2.2⟩;have ih:=Pl h5;rw[show x.1-i=(x.1-(i+1))+1 by omega,rQ,bu,bu]
   split
   ·exact ih
   ·simp only[bL];omega
theorem CU:∀(s:Bs)(i:Nat),(bu s i).length<=s.length
 |[],i=>aT _
 |c::s,i=>by rw[bu];have:=CU s (i+1);split<;>simp only[bL]<;>omega
theorem OY:∀(l:List Li)(s:Bs),l.Pairwise (fun a b=>a.1≠b.1)->(∀x∈l,x∈bu s 0)->(bu (gI l s) 0).length+l.length=(bu s 0).length
 |[],s,_,_=>rfl
 |x::l,s,hp,hm=>by
  rw[List.pairwise_cons]at hp;have h1:=Pl (hm x (by simp))
  have h2:=OY l (s.set x.1 45) hp.2 fun y hy=>by
   have h3:=lz.1 (hm y (by simp[hy]));exact lz.2 ⟨by omega,by rw[dW (by have:=hp.1 y hy;omega)];exact h3.2.1,h3.2.2⟩
  simp only[bL];rw[Fp]at h1;have:gI (x::l) s=gI l (s.set x.1 45):=rfl
  rw[this];omega
def cw:List Bs->Nat
 |[]=>0
 |s::r=>(bu s 0).length+cw r
theorem HJ(l:List Li)(hp:l.Pairwise (fun a b=>a.1≠b.1)):∀rows:List Bs,(∀s∈rows,∀x∈l,x∈bu s 0)->cw (dP l rows)+rows.length*l.length=cw rows
 |[],_=>by simp[dP,cw]
 |s::r,h=>by
  have h1:=HJ l hp r fun t ht=>h t (by simp[ht])
  have h2:=OY l s hp (h s (by simp));simp only[dP,bX,cw,bL]at h1⊢
  rw[Fz];omega
theorem NJ(p:Bs->Bool):∀rows:List Bs,cw (bO p rows)+cw (bO (fun t=>!p t) rows)=cw rows
 |[]=>rfl
 |s::r=>by
  have ih:=NJ p r
  cases h:p s<;>simp[bO,h,cw]at ih⊢<;>omega
theorem Cb(x:Li):∀rows:List Bs,(bO (fun t=>!cZ x t) rows).length=eu x rows
 |[]=>rfl
 |s::r=>by
  have ih:=Cb x r
  cases h:cZ x s<;>simp[bO,h,eu]at ih⊢<;>omega
theorem NL{x:Li}:∀{rows:List Bs},eu x rows=rows.length↔∀s∈rows,x∈bu s 0
 |[]=>by simp[eu]
 |s::r=>by
  have ih:=NL (x:=x) (rows:=r);have hle:=Om x r;rw[eu,bL]
  by_cases h:cZ x s=true
  ·rw[if_pos h]
   have h':x∈bu s 0:=by simpa[cZ]using h
   simp only[bD,L9];rw[<-ih];exact⟨fun h1=>⟨h',by omega⟩,fun h1=>by omega⟩
  ·rw[if_neg h]
   have h':¬x∈bu s 0:=by simpa[cZ]using h
   exact⟨fun h1=>by omega,fun h1=>absurd (h1 s (by simp)) h'⟩
theorem uf{x:Li}{rows:List Bs}{s:Bs}(h:s∈bO (fun t=>!cZ x t) rows):s∈rows/\x∈bu s 0:=by
 simp only[bO,dX,Bool.not_not]at h;exact⟨h.1,by simpa[cZ]using h.2⟩
theorem Qi(rows:List Bs){b:Li×Nat}(hb:0<b.2->b.2=eu b.1 rows)(x:Li):0<(mZ rows b x).2->(mZ rows b x).2=eu (mZ rows b x).1 rows:=by
 unfold mZ
 split
 ·intro _;rfl
 ·exact hb
theorem Py(rows:List Bs):∀(n i:Nat)(b:Li×Nat),(0<b.2->b.2=eu b.1 rows)->0<(o6 rows n i b).2->(o6 rows n i b).2=eu (o6 rows n i b).1 rows
 |0,_,b,hb=>hb
 |n+1,i,b,hb=>Py rows n (i+1) _ (Qi rows (Qi rows hb _) _)
theorem Ic(rows:List Bs)(n:Nat):0<(dj rows n).2->(dj rows n).2=eu (dj rows n).1 rows:=Py rows n 0 _ (by simp)
theorem Np(rows:List Bs)(s:Bs):(dL rows s).Pairwise (fun a b=>a.1≠b.1):=(Hf s 0).filter _
theorem Cn{rows:List Bs}{s:Bs}{x:Li}(h:x∈dL rows s):∀t∈rows,x∈bu t 0:=by
 simp only[dL,dX,bj]at h;exact NL.1 h.2
theorem Hz{s:Bs}:nV s=true↔bu s 0=[]:=by
 constructor
 ·intro h
  refine L'.2 fun x hx=>?_
  have:=lz.1 hx;rw[nV,eh]at h;have h2:=h x.2 (jz this.2.1);exact this.2.2 (by simpa using h2)
 ·intro h;rw[nV,eh];intro c hc;obtain⟨i,hi⟩:=List.getElem?_of_mem hc;refine tH (xL fun hn=>?_);have:(i,c)∈bu s 0:=lz.2 ⟨by omega,by simpa using hi,hn⟩;rw[h]at this
  cases this
theorem ae1(r:List Fm):(kR r).length<=r.length:=by unfold kR;split<;>simp
theorem aeF(n:Nat):(rl n).length<=1:=by unfold rl;split<;>simp
theorem z_(l:List Li)(r:List Fm):(fm l r).length<=1+l.length+r.length:=by
 have h1:=ae1 r;have h2:=aeF (l.length+min (kR r).length 1)
 simp only[fm,bC,fy];omega
theorem Q4:∀rows:List Bs,(rows.flatMap fun s=>fm (bu s 0) []).length<=rows.length+cw rows
 |[]=>by simp
 |s::r=>by
  have ih:=Q4 r;have h:=z_ (bu s 0) [];simp only[oD,bC,bL,cw,c_]at h ih⊢;omega
theorem Ox:∀rows:List Bs,bE nV rows=false->rows.length<=cw rows
 |[],_=>by simp
 |s::r,h=>by
  rw[lB,lx]at h;have ih:=Ox r h.2
  have h1:0<(bu s 0).length:=by
   refine xL fun hn=>?_
   have:=Hz.2 (lq.1 (by omega:(bu s 0).length=0))
   rw[h.1]at this;cases this
  simp only[bL,cw];omega
theorem GQ{s:Bs}{r:List Bs}(h:dL (s::r) s≠[]):cw (dP (dL (s::r) s) (s::r))+(dL (s::r) s).length<=cw (s::r):=by
 have h1:=HJ (dL (s::r) s) (Np _ _) (s::r) fun t ht x hx=>Cn hx t ht
 have h2:(dL (s::r) s).length<=(s::r).length*(dL (s::r) s).length:=Nat.le_mul_of_pos_left _ (by simp);omega
theorem HY{s:Bs}{r:List Bs}(h:¬(dj (s::r) s.length).2<2):
 cw (dP [(dj (s::r) s.length).1] (bO (fun t=>!cZ (dj (s::r) s.length).1 t) (s::r)))+cw (bO (cZ (dj (s::r) s.length).1) (s::r))+2<=cw (s::r):=by
 have h0:=Ic (s::r) s.length (by omega);generalize(dj (s::r) s.length).1=x at*
 have h1:=HJ [x] (by simp) (bO (fun t=>!cZ x t) (s::r)) fun t ht y hy=>by simp only[cL]at hy;subst hy;exact(uf ht).2
 have h2:=NJ (cZ x) (s::r);have h3:=Cb x (s::r);simp only[bL,c_,Nat.mul_one,jw]at h1;omega
theorem tX:∀(f:Nat)(rows:List Bs),(gf f rows).length<=3*cw rows+1
 |0,_=>by simp[gf]
 |_+1,[]=>by simp[gf]
 |f+1,s::r=>by
  rw[gf]
  split
  ·simp
  ·rename_i hv
   split
   ·rename_i hc;have h1:=tX f (dP (dL (s::r) s) (s::r));have h2:=GQ hc;have h3:=z_ (dL (s::r) s) (gf f (dP (dL (s::r) s) (s::r)));have h4:0<(dL (s::r) s).length:=rW.2 hc;omega
   ·split
    ·have h1:=Q4 (s::r);have h2:=Ox (s::r) (by simpa using hv)
     simp only[KZ,bL]at h1 h2⊢;omega
    ·rename_i hm;have h0:=HY hm;have h1:=tX f (dP [(dj (s::r) s.length).1] (bO (fun t=>!cZ (dj (s::r) s.length).1 t) (s::r)));have h2:=tX f (bO (cZ (dj (s::r) s.length).1) (s::r));have h3:=z_ [(dj (s::r) s.length).1] (gf f (dP [(dj (s::r) s.length).1] (bO (fun t=>!cZ (dj (s::r) s.length).1 t) (s::r))));simp only[bL,bC,c_]at h3⊢;omega
abbrev wT(n:Nat)(b:Bool)(st:LoopState)(c:List Li):List Ob:=[.row 2 mI [] none true false,.cells [.sl (n+5) 0 c.length],.row 2 mI [] none true false,.bK b,
 .loop st .none FD [U,U,.ptr (n+1) 0,U,.sl (n+2) 0 0,U,U,U,U,U,U,U,U] [7] (.av Xv) X1,.row 2 mI (c.map ew) none true false]
theorem ajM(i:Nat)(s:Bs)(hs:s.length<2^40){h:List Ob}(hi:h[i]? =some (.cells [.str s]))(hw:bN h)(hb:eT h)(up:List Fr)(hv:∀m,up.all (iQ (h.length+5) m)=true):∀n j:Nat,j+n=s.length->∀c:List Li,c.length<=j->
 AM.Reach ak Γ (Kz (.de (h.length+4)) (.ptr i 0) (.int .i64 s.length) (.int .i64 j) (h++wT h.length true .ready c) ⟨[],.norm,h.length+5,up⟩)
  (.back up (.aH []) (h++wT h.length true .ready (c++bu (s.drop j) j))):=by
 have h4:=bd hi
 have h2:=fun os=>ez hi os
 have hx:∀c:UInt8,IntKind.i64.wrap (c.toNat:Int)=c.toNat:=fun c=>wrap64 (by omega) (by have:=c.toNat_lt;omega)
 have hk:=hw (h.length+6) (by omega);intro n
 induction n with
 |zero=>
  intro j hj c hc
  have q1:¬j<s.length:=by omega
  rw[bx (by omega),bu];refine .aY 60 ?_;simp[q1]
 |succ n ih=>
  intro j hj c hc
  have q1:j<s.length:=by omega
  rw[bJ q1,bu]
  by_cases a:s[j]=45
  ·have hh:=ih (j+1) (by omega) c (by omega);rw[if_pos a];refine .aY 60 ?_;simp(disch:=omega) [q1,a,h2];refine .aI ?_;simp at hh⊢;exact hh
  ·rw[if_neg a];have hh:=ih (j+1) (by omega) (c++[(j,s[j])]) (by simp;omega);refine .aY 60 ?_;simp(disch:=omega) [q1,a,kf,hx,h2];refine .trans (.pop _) (.aY 60 ?_);simp(disch:=omega);refine .aI ?_;simp;refine .lF (h.length+6) (by simp;rfl) (by simp) (by simp;omega) (by simp[hk]) ?_
   have hl:=fun m=>hb (h.length+5) m (by omega)
   refine .IH (i:=h.length+5) (k:=2) (E:=mI) (es:=(c++[(j,s[j])]).map ew) (fl:=true) (sh:=false) (by simp) (by simp) (hv _) (by simp[hl]) ?_;simp[wT]at hh⊢;exact hh
theorem afX(i:Nat)(s:Bs)(hs:s.length<2^40){h:List Ob}(hi:h[i]? =some (.cells [.str s]))(hw:bN h)(hc:eT h)(up:List Fr)(hv:∀m,up.all (iQ (h.length+5) m)=true):
 AM.Reach ak Γ (.cl FF [.fn (.func vp) [] [.ptr i 0]] up h) (.back up (.sl (h.length+5) 0 (bu s 0).length) (h++wT h.length false .exhausted (bu s 0))):=by
 have h2:=fun os=>ez hi os
 refine .bp 60 Yz.1 ?_;simp;refine .bp 60 Yj.1 ?_;simp;refine .bp 60 FW.1 ?_;simp[h2];refine .inLoop ?_;simp;refine .trans (.mN (i:=h.length+1) (j:=0) (k:=2) mI (by simp;rfl) rfl (by omega)) ?_
 have hh:=fun up hv=>ajM (Γ:=Γ) i s hs hi hw hc up hv s.length 0 (by omega) [] (by simp)
 simp[wT]at hh⊢
 have hb:=fun m=>hv m
 simp at hb;refine .trans (hh _ (by simp;exact hb)) ?_;have hx:h.length+3+1=h.length+4:=rfl;refine .trans (.pop _) (.aY 60 ?_);simp[hx];refine .trans (.pop _) (.aY 60 ?_);simp
abbrev cx5:Cx:=⟨[.mark 5],.norm,0,[]⟩
theorem alN(rows:List Bs)(hl:rows.length<=128)(hlen:∀t∈rows,t.length<=40){h8:List Ob}(hv:h8.length=8)(hf:h8[5]? =some (.bK true))(hw:∀m,8<=m->cz m h8=true)(hy:∀i m,8<=i->c8 i m h8=true):∀n i:Nat,i+n=rows.length->∀out:List Fm,out.length<=42*i+1->
 aA ak Γ (yyf (.sl 8 0 out.length) (.list false 1 (rows.map .str)) (.int .i64 rows.length) (.int .i64 i) (h8++[.row 3 a_ (out.map bm) none true false]) cx5)
  (.ret (.own 3 a_ ((out++(rows.drop i).flatMap fun s=>fm (bu s 0) []).map bm))):=by
 have g0:∀os:List Ob,(h8++os)[8]? =os[0]? :=fun os=>by rw[<-hv,af2]
 have g1:∀(os:List Ob)(k:Nat),8<=k->(h8++os)[k]? =os[k-8]? :=fun os k hk=>by rw[dB (by omega),hv]
 have s0:∀(os:List Ob)(o:Ob),(h8++os).set 8 o=h8++os.set 0 o:=fun os o=>by rw[<-hv,agI]
 have h5:=hw 9 (by omega);have hc:h8[5]=.bK true:=(cV.1 hf).2
 have g15:∀os:List Ob,(h8++os)[15]? =os[7]? :=fun os=>g1 os 15 (by omega)
 have g5:∀os:List Ob,(h8++os)[5]? =some (.bK true):=fun os=>by rw[cF (by omega)];exact hf
 have s5:∀(os:List Ob)(o:Ob),(h8++os).set 5 o=h8.set 5 o++os:=fun os o=>lZ _ _ (by omega)
 have g6:∀(os:List Ob)(o:Ob),(h8.set 5 o++os)[8]? =os[0]? :=fun os o=>by rw[dB (by simp;omega)];simp[hv]
 have hq:=fun m=>hy 8 m (by omega)
 intro n
 induction n with
 |zero=>
  intro i hi out ho
  have q1:¬i<rows.length:=by omega
  rw[bx (by omega),List.flatMap_nil,ey];refine .go 60 ?_;simp[q1,g0,hv,g5,s5,hc];refine .back ?_;simp[g6]
  done
 |succ n ih=>
  intro i hi out ho
  have q1:i<rows.length:=by omega
  have q3:=hlen _ (bA q1);have hd:=CU rows[i] 0;have hp:=z_ (bu rows[i] 0) [];have hb:=JC (Γ:=Γ) (bu rows[i] 0) (.inl rfl:Kd 2 2 _) (by omega) (fun x hx=>by have:=lz.1 hx;have:=(cV.1 this.2.1).1;omega) [] (.inr rfl:Kd 3 0 _) (by simp);have hh:=ih (i+1) (by omega) (out++fm (bu rows[i] 0) []) (by simp only[bC,c_]at hp⊢;omega);rw[bJ q1,oD,<-cR]
  have h2:=afX (Γ:=Γ) 9 rows[i] (by omega) (h:=h8++[.row 3 a_ (out.map bm) none true false,.cells [.str rows[i]]]) (by rw[g1 _ _ (by omega)];rfl)
   (fun m hm=>by simp at hm;simp[hw m (by omega)]) (fun j m hj=>by simp at hj;simp[hy j m (by omega)])
  refine .go 60 ?_;simp(disch:=omega) [q1];refine .aX 60 (G_ rows[i]) ?_;simp[hv,wT]at h2⊢;refine .reach (h2 _ (by simp)) ?_;refine .go 60 ?_;simp;simp at hb;refine .call 60 (by simp[g15]) hb ?_
  have h4:(out.length+(fm (bu rows[i] 0) []).length)*24<=140737488355328:=by simp only[c_]at hp;omega
  simp[hv,g0,s0,h4];refine .aI ?_;simp;refine .drop (h':=h8++[.row 3 a_ (List.map bm out++List.map bm (fm (bu rows[i] 0) [])) (if fm (bu rows[i] 0) []=[]then none else some 0) true false]) 9 (by rw[show(9:Nat)=h8.length+1 by omega,List.take_length_add_append];rfl) (by simp) (by simp) (by simp[h5]) ?_;refine .nR (i:=8) (k:=3) (E:=a_) (es:=List.map bm out++List.map bm (fm (bu rows[i] 0) [])) (gr:=if fm (bu rows[i] 0) []=[]then none else some 0) (fl:=true) (sh:=false) (by simp[g0]) (by split<;>simp) (by simp) (by simp) (by simp[hq]) ?_;rw[s0];have ht:IntKind.i64.wrap ((i:Int)+1)=i+1:=wrap64 (by omega) (by omega);simp[ht]at hh⊢;exact hh
abbrev TR(h2:AV):List AV:=[U,.ptr 0 0,U,U,U,U,.ptr 7 0,U,U,U,U,.ptr 9 0,.fn (.func BT) [] [.ptr 9 0],h2]++List.replicate 87 U
abbrev w7(rows:List Bs)(s:Bs)(x:Li)(lo:List AV):List Ob:=[.cells [.list false 1 (rows.map .str)],.row 3 a_ [] none true false,.cells [.sl 3 0 0],.row 2 mI [] none true false,.cells [.str s],.bK true,
 .loop .exhausted .none j5 lo [31] (.av Fi) Eo,.cells (ew x).cells,.cells (ew x).cells,.cells [.fn (.func sd) [] [.ptr 8 0]]]
def El(x:Li)(q r:List Fm):List Fm:=⟨4,0,2⟩::fm [x] q++r
theorem akf(rows:List Bs)(h0:rows≠[])(hl:rows.length<=128)(hlen:∀t∈rows,t.length<2^40)(s:Bs)(x:Li)(hx:x.1<2^40)(lo:List AV)(h4:∀m,10<=m->aN m lo=true)(q r:List Fm)(hq:q.length<2^30)(hr:r.length<2^30)
 (hb:aQ ak Γ j5 [.list false 1 ((bO (cZ x) rows).map .str)] (.own 3 a_ (r.map bm))):
 aA ak Γ (.fr ⟨.run,j5,[It.code ((aj.aR [O,O,I,O,O,O] [2,4,4,5,7,7] EX).seq ((aj.av EV).seq aj.ret))],TR (.sl 10 0 q.length),[.mark 5],.norm,0⟩ [] (w7 rows s x lo++[.row 3 a_ (q.map bm) none true false]))
  (.ret (.own 3 a_ ((El x q r).map bm))):=by
 have h2:=vl (Γ:=Γ) rows (.inl rfl:Kd 1 1 rows) (by omega);have hc:=JC (Γ:=Γ) [x] (.inl rfl:Kd 2 2 _) (by simp) (fun y hy=>by simp only[cL]at hy;subst hy;exact hx) q (.inl rfl:Kd 3 3 _) (by omega);have ih:=z_ [x] q
 have hf:(c9 [(3,[⟨4,0,2⟩]),(3,fm [x] q),(3,r)]).length<2^40:=by
  simp only[c9,bC,bL,c_,ey]at ih⊢;omega
 have hk:=Ym (Γ:=Γ) [(3,[⟨4,0,2⟩]),(3,fm [x] q),(3,r)] (by simp[Kd]) (by simp) hf (by simp[c9]);refine .go 60 ?_;simp;refine .dr 60 ?_;simp;refine .call (by simp) h2 ?_
 have hj:∀os,(∀m,10<=m->cz m os=true)->bN (w7 rows s x lo++os):=fun os ho m hm=>by
  have q1:10<=m:=by simp at hm;omega
  simp[ho m q1,h4 m q1];omega
 obtain⟨es,hv⟩:=MT (Γ:=Γ) (Jy x 8 rows hlen) (by omega) (h:=w7 rows s x lo++[.row 3 a_ (q.map bm) none true false,jj rows]) (r:=11) rfl (fun l'=>⟨rfl,hj [.row 3 a_ (q.map bm) none true false,jj l',qc] (fun m hm=>by simp)⟩) (hj _ (fun m hm=>by simp));simp[jj]at hv;simp;refine .reach (by simp) hv ?_;simp;refine .call (by simp) hb ?_;simp;refine .call 60 (by simp) hc ?_;simp;refine .call 60 (by simp) hk ?_;simp;exact .back (by simp[c9,El])
theorem ab0{P:Program}(n:Nat){f:FuncId}{args:List AV}{up:List Fr}{h:List Ob}{v:AV}{h':List Ob}{o:Out}(h1:∀up,AM.Reach P Γ (.cl f args up h) (.back up v h'))(h2:aA P Γ (AM.mC P Γ n (.back up v h')) o):aA P Γ (.cl f args up h) o:=.reach (h1 up) (.reach (.wK n _) h2)
theorem ajP:gA (o9 Bj) Bj.length []=[[0,1,2,3,4,5,6,7,8],[0,1,2,4,3,5,6,7,8],[0,1,2,4,5,3,6,7,8],[0,1,4,2,3,5,6,7,8],[0,1,4,2,5,3,6,7,8],[0,1,4,5,2,3,6,7,8],[0,2,1,3,4,5,6,7,8],[0,2,1,4,3,5,6,7,8],[0,2,1,4,5,3,6,7,8],[0,2,4,1,3,5,6,7,8],[0,2,4,1,5,3,6,7,8],[0,2,4,5,1,3,6,7,8],[0,4,1,2,3,5,6,7,8],[0,4,1,2,5,3,6,7,8],[0,4,1,5,2,3,6,7,8],[0,4,2,1,3,5,6,7,8],[0,4,2,1,5,3,6,7,8],[0,4,2,5,1,3,6,7,8],[0,4,5,1,2,3,6,7,8],[0,4,5,2,1,3,6,7,8],[2,0,1,3,4,5,6,7,8],[2,0,1,4,3,5,6,7,8],[2,0,1,4,5,3,6,7,8],[2,0,4,1,3,5,6,7,8],[2,0,4,1,5,3,6,7,8],[2,0,4,5,1,3,6,7,8],[2,4,0,1,3,5,6,7,8],[2,4,0,1,5,3,6,7,8],[2,4,0,5,1,3,6,7,8],[2,4,5,0,1,3,6,7,8],[4,0,1,2,3,5,6,7,8],[4,0,1,2,5,3,6,7,8],[4,0,1,5,2,3,6,7,8],[4,0,2,1,3,5,6,7,8],[4,0,2,1,5,3,6,7,8],[4,0,2,5,1,3,6,7,8],[4,0,5,1,2,3,6,7,8],[4,0,5,2,1,3,6,7,8],[4,2,0,1,3,5,6,7,8],[4,2,0,1,5,3,6,7,8],[4,2,0,5,1,3,6,7,8],[4,2,5,0,1,3,6,7,8],[4,5,0,1,2,3,6,7,8],[4,5,0,2,1,3,6,7,8],[4,5,2,0,1,3,6,7,8]]:=by rfl
set_option maxHeartbeats 4000000 in
theorem alL(rows:List Bs)(h0:rows≠[])(hl:rows.length<=128)(hlen:∀t∈rows,t.length<2^40)(s:Bs)(x:Li)(hx:x.1<2^40)(ih:∀t∈rows,x.1<t.length)(lo:List AV)(hk:∀m,10<=m->aN m lo=true)(q r:List Fm)(hq:q.length<2^30)(hr:r.length<2^30)
 (hv:aQ ak Γ j5 [.list false 1 ((dP [x] (bO (fun t=>!cZ x t) rows)).map .str)] (.own 3 a_ (q.map bm)))
 (hj:aQ ak Γ j5 [.list false 1 ((bO (cZ x) rows).map .str)] (.own 3 a_ (r.map bm))):
 aA ak Γ (.fr ⟨.run,j5,[It.code (.aR [I,I,O,I,O,O,O,O,O] [7,7,7,7,6,7,8,10,10] Bj),It.code ((aj.aR [O,O,I,O,O,O] [2,4,4,5,7,7] EX).seq ((aj.av EV).seq aj.ret))],TR U,[.mark 5],.norm,0⟩ [] (w7 rows s x lo))
  (.ret (.own 3 a_ ((El x q r).map bm))):=by
 have hb:=akf (Γ:=Γ) rows h0 hl hlen s x hx lo hk q r hq hr hj;have h2:=vl (Γ:=Γ) rows (.inl rfl:Kd 1 1 rows) (by omega)
 have hdiv:=P1 (Γ:=Γ) (bO (fun t=>!cZ x t) rows) [x] (.inl rfl:Kd 1 1 _) (.inl rfl:Kd 2 2 _) (by have:(bO (fun t=>!cZ x t) rows).length<=rows.length:=FA _ _;omega) (by simp) fun t ht=>by
  have h1:=(uf ht).1;exact⟨hlen t h1,fun y hy=>by simp only[cL]at hy;subst hy;exact ih t h1⟩
 simp at hdiv
 have q1:∀os,(∀m,10<=m->cz m os=true)->bN (w7 rows s x lo++os):=fun os ho m hm=>by
  have h4:10<=m:=by simp at hm;omega
  simp[ho m h4,hk m h4];omega
 obtain⟨es,hc⟩:=MT (Γ:=Γ) (akY x 8 9 rows hlen) (by omega) (h:=w7 rows s x lo++[jj rows]) (r:=10) rfl (fun l'=>⟨rfl,rfl,q1 [jj l',qc] (fun m hm=>by simp)⟩) (q1 _ (fun m hm=>by simp));simp[jj]at hc;refine .Vo 60 ?_;rw[ajP];intro l hm;simp only[bD,px,po]at hm
 rcases hm with rfl|rfl|rfl|rfl|rfl|rfl|rfl|rfl|rfl|rfl|rfl|rfl|rfl|rfl|rfl|rfl|rfl|rfl|rfl|rfl|rfl|rfl|rfl|rfl|rfl|rfl|rfl|rfl|rfl|rfl|rfl|rfl|rfl|rfl|rfl|rfl|rfl|rfl|rfl|rfl|rfl|rfl|rfl|rfl|rfl
 all_goals
  simp;refine .AN 60 (by simp) h2 ?_;simp;refine ab0 60 hc ?_;simp;refine .AN 60 (by simp) hdiv ?_;simp;refine .AN 60 (by simp) hv ?_;simp;refine .na [79,80,81,82,83,84,85,86] ?_;simp[nn];refine .gc 10 [2] (by simp[hk 10 (by omega)]) (by decide) ?_;simp[ma (hk 10 (by omega))];refine .go 1 ?_;simp at hb⊢;exact hb
def pM(n:Nat)(rows:List Bs):Prop:=rows.length<=128/\(∀s∈rows,s.length=n)/\n<=40
theorem Is{n:Nat}:∀{rows:List Bs},(∀s∈rows,s.length=n)->cw rows<=rows.length*n
 |[],_=>by simp[cw]
 |s::r,h=>by
  have h1:=CU s 0
  have h2:=Is (rows:=r) fun t ht=>h t (by simp[ht])
  have h3:=h s (by simp)
  simp only[cw,bL,Fz];omega
theorem pM.cost{n:Nat}{rows:List Bs}(h:pM n rows):cw rows<=5120:=by
 have h1:=Is h.2.1;have h2:rows.length*n<=128*40:=Nat.mul_le_mul h.1 h.2.2;omega
abbrev J1:List AV:=[U,.ptr 0 0,.sl 1 0 0,U,.ptr 2 0]++List.replicate 96 U
abbrev Ee(rows:List Bs)(s:Bs)(c:List Li)(gr:Option Nat):List Ob:=[.cells [.list false 1 (rows.map .str)],.row 3 a_ [] none true false,.cells [.sl 3 0 c.length],.row 2 mI (c.map ew) gr true false,.cells [.str s],.bK true,
 .loop .ready .none j5 J1 [31] (.av Fi) Eo]
theorem agM(rows:List Bs)(hl:rows.length<2^40)(s:Bs)(hs:∀t∈rows,t.length<2^40)(hs1:s.length<2^40)(up:List Fr)(hv:∀m,up.all (iQ 3 m)=true):∀n j:Nat,j+n=s.length->∀c:List Li,c.length<=j->
 AM.Reach ak Γ (Kz (.de 6) (.ptr 4 0) (.int .i64 s.length) (.int .i64 j) (Ee rows s c none) ⟨[],.norm,7,up⟩)
  (.back up (.aH []) (Ee rows s (c++(bu (s.drop j) j).filter fun x=>decide (eu x rows=rows.length)) none)):=by
 have hb:∀c:UInt8,IntKind.i64.wrap (c.toNat:Int)=c.toNat:=fun c=>wrap64 (by omega) (by have:=c.toNat_lt;omega)
 intro n
 induction n with
 |zero=>
  intro j hj c hc
  have q1:¬j<s.length:=by omega
  rw[bx (by omega),bu];refine .aY 60 ?_;simp[q1]
 |succ n ih=>
  intro j hj c hc
  have q1:j<s.length:=by omega
  rw[bJ q1,bu]
  by_cases a:s[j]=45
  ·have hh:=ih (j+1) (by omega) c (by omega);rw[if_pos a];refine .aY 60 ?_;simp(disch:=omega) [q1,a];refine .aI ?_;simp at hh⊢;exact hh
  ·rw[if_neg a];have hp:=I1 (Γ:=Γ) rows (j,s[j]) (.inl rfl) hl hs;refine .aY 60 ?_;simp(disch:=omega) [q1,a,kf,hb];refine .ei 60 ?_;simp;refine .call (by simp) hp ?_
   by_cases h3:eu (j,s[j]) rows=rows.length
   ·have h2:((eu (j,s[j]) rows:Nat):Int)=rows.length:=by omega
    have hh:=ih (j+1) (by omega) (c++[(j,s[j])]) (by simp;omega);rw[List.filter_cons_of_pos (by simpa using h3)];simp(disch:=omega) [h3,h2];refine .trans (.pop _) (.aY 60 ?_);simp(disch:=omega);refine .aI ?_;simp;refine .lF 7 rfl (by simp) (by simp) (by simp) ?_;refine .IH (i:=3) rfl (by simp) (hv _) (by simp) ?_;simp[Ee]at hh⊢;exact hh
   ·have h2:¬((eu (j,s[j]) rows:Nat):Int)=rows.length:=by omega
    have hh:=ih (j+1) (by omega) c (by omega);rw[List.filter_cons_of_neg (by simpa using h3)];simp(disch:=omega) [h3,h2];refine .trans (.pop _) (.aY 60 ?_);simp(disch:=omega);refine .aI ?_;simp;refine .lF 7 rfl (by simp) (by simp) (by simp) ?_;simp at hh⊢;exact hh
theorem afr(f n:Nat)(s:Bs)(r:List Bs)(hw:pM n (s::r))
 (ih:∀rows:List Bs,cw rows<cw (s::r)->pM n rows->∀k,Kd 1 k rows->aQ ak Γ j5 [.list false k (rows.map .str)] (.own 3 a_ ((gf f rows).map bm))):aQ ak Γ j5 [.list false 1 ((s::r).map .str)] (.own 3 a_ ((gf (f+1) (s::r)).map bm)):=by
 obtain⟨b1,b2,b3⟩:=hw
 have hlen:∀t∈s::r,t.length<2^40:=fun t ht=>by rw[b2 t ht];omega
 have hC:=fun(h:List Ob)=>y0 (Γ:=Γ) (fl:=false) (k:=1) (akg (s::r) hlen) (.inl rfl) (by omega) (h:=h) trivial
 rw[gf];generalize hR:(if bE nV (s::r)=true then _ else _:List Fm)=R;refine .run 100 gz.1 (by simp) ?_;simp
 have q1:¬(r.length:Int)+1=0:=by omega
 simp[q1];simp at hC
 by_cases hf:bE nV (s::r)=true
 ·rw[if_pos hf]at hR;subst hR
  first
   |(refine .aX 4 (hC _) ?_;simp[hf];refine .cN 60 a_ (es:=[bm ⟨1,0,0⟩]) (by simp) (by simp) ?_)
   |(refine .aX 5 (hC _) ?_;simp[hf];refine .cN 60 a_ (es:=[bm ⟨1,0,0⟩]) (by simp) (by simp) ?_)
   |(refine .aX 6 (hC _) ?_;simp[hf];refine .cN 60 a_ (es:=[bm ⟨1,0,0⟩]) (by simp) (by simp) ?_)
   |(refine .aX 7 (hC _) ?_;simp[hf];refine .cN 60 a_ (es:=[bm ⟨1,0,0⟩]) (by simp) (by simp) ?_)
   |(refine .aX 8 (hC _) ?_;simp[hf];refine .cN 60 a_ (es:=[bm ⟨1,0,0⟩]) (by simp) (by simp) ?_)
   |(refine .aX 9 (hC _) ?_;simp[hf];refine .cN 60 a_ (es:=[bm ⟨1,0,0⟩]) (by simp) (by simp) ?_)
   |(refine .aX 10 (hC _) ?_;simp[hf];refine .cN 60 a_ (es:=[bm ⟨1,0,0⟩]) (by simp) (by simp) ?_)
   |(refine .aX 11 (hC _) ?_;simp[hf];refine .cN 60 a_ (es:=[bm ⟨1,0,0⟩]) (by simp) (by simp) ?_)
  simp;exact .back (by simp)
 ·rw[if_neg hf]at hR;refine .aX 60 (hC _) ?_;simp[hf];refine .aX 60 (G_ s) ?_;simp;refine .enter 60 FW.1 ?_;simp;refine .inLoop ?_;have hs1:=hlen s (by simp)
  have hq:=fun up hv=>agM (Γ:=Γ) (s::r) (by omega) s hlen hs1 up hv s.length 0 (by omega) [] (by simp)
  simp[Ee]at hq;refine .reach (hq _ (by simp)) ?_;have e1:List.filter (fun x=>decide (eu x (s::r)=r.length+1)) (bu s 0)=dL (s::r) s:=rfl;rw[e1]
  have hj:∀x∈dL (s::r) s,∀t∈s::r,x.1<t.length:=fun x hx t ht=>by
   have:=lz.1 (Cn hx t ht);exact(cV.1 this.2.1).1
  have hd:(dL (s::r) s).length<=40:=by
   have h1:(dL (s::r) s).length<=(bu s 0).length:=FA _ _;have h2:=CU s 0;have:=b2 s (by simp);omega
  refine .go 60 ?_
  by_cases hc:dL (s::r) s≠[]
  ·rw[if_pos hc]at hR;have hy:0<(dL (s::r) s).length:=rW.2 hc;have hg:=GQ hc;simp[hy]
   have q2:pM n (dP (dL (s::r) s) (s::r)):=⟨by simpa[dP]using b1,fun t ht=>by
    simp only[dP,cd]at ht;obtain⟨t0,h1,rfl⟩:=ht
    rw[sv];exact b2 _ h1,b3⟩
   have hdiv:=P1 (Γ:=Γ) (s::r) (dL (s::r) s) (.inl rfl:Kd 1 1 (s::r)) (.inl rfl:Kd 2 2 _) (by omega) (by omega) fun t ht=>⟨hlen t ht,fun x hx=>hj x hx t ht⟩
   have hp:=ih _ (by omega) q2 1 (.inl rfl);have ck:=tX f (dP (dL (s::r) s) (s::r));have h5:=JC (Γ:=Γ) (dL (s::r) s) (.inl rfl:Kd 2 2 _) (by omega) (fun x hx=>by have:=hj x hx s (by simp);omega) (gf f (dP (dL (s::r) s) (s::r))) (.inl rfl:Kd 3 3 _) (by have:=q2.cost;omega);generalize dL (s::r) s=c at*;subst hR;simp at hdiv;refine .dr 60 ?_;simp;refine .call (by simp) hdiv ?_;simp;refine .call (by simp) hp ?_;simp;refine .call (by simp) h5 ?_;simp;exact .back (by simp)
  ·rw[if_neg hc]at hR
   have h6:dL (s::r) s=[]:=by simpa using hc
   have hb:=akr (Γ:=Γ) (s::r) (.inl rfl:Kd 1 1 (s::r)) (by omega) hlen s.length s rfl rfl;simp at hb;simp[h6]
   by_cases hm:(dj (s::r) s.length).2<2
   ·rw[if_pos hm]at hR
    have hk:(((dj (s::r) s.length).2:Nat):Int)<2:=by omega
    subst hR
    first
     |(refine .call 14 (by simp) hb ?_;simp[hk];refine .cN 60 a_ (es:=[bm ⟨4,0,(r.length:Int)+1⟩]) (by simp) (by simp) ?_)
     |(refine .call 15 (by simp) hb ?_;simp[hk];refine .cN 60 a_ (es:=[bm ⟨4,0,(r.length:Int)+1⟩]) (by simp) (by simp) ?_)
     |(refine .call 16 (by simp) hb ?_;simp[hk];refine .cN 60 a_ (es:=[bm ⟨4,0,(r.length:Int)+1⟩]) (by simp) (by simp) ?_)
     |(refine .call 17 (by simp) hb ?_;simp[hk];refine .cN 60 a_ (es:=[bm ⟨4,0,(r.length:Int)+1⟩]) (by simp) (by simp) ?_)
     |(refine .call 18 (by simp) hb ?_;simp[hk];refine .cN 60 a_ (es:=[bm ⟨4,0,(r.length:Int)+1⟩]) (by simp) (by simp) ?_)
     |(refine .call 19 (by simp) hb ?_;simp[hk];refine .cN 60 a_ (es:=[bm ⟨4,0,(r.length:Int)+1⟩]) (by simp) (by simp) ?_)
     |(refine .call 20 (by simp) hb ?_;simp[hk];refine .cN 60 a_ (es:=[bm ⟨4,0,(r.length:Int)+1⟩]) (by simp) (by simp) ?_)
     |(refine .call 21 (by simp) hb ?_;simp[hk];refine .cN 60 a_ (es:=[bm ⟨4,0,(r.length:Int)+1⟩]) (by simp) (by simp) ?_)
     |(refine .call 22 (by simp) hb ?_;simp[hk];refine .cN 60 a_ (es:=[bm ⟨4,0,(r.length:Int)+1⟩]) (by simp) (by simp) ?_)
     |(refine .call 23 (by simp) hb ?_;simp[hk];refine .cN 60 a_ (es:=[bm ⟨4,0,(r.length:Int)+1⟩]) (by simp) (by simp) ?_)
     |(refine .call 24 (by simp) hb ?_;simp[hk];refine .cN 60 a_ (es:=[bm ⟨4,0,(r.length:Int)+1⟩]) (by simp) (by simp) ?_)
     |(refine .call 25 (by simp) hb ?_;simp[hk];refine .cN 60 a_ (es:=[bm ⟨4,0,(r.length:Int)+1⟩]) (by simp) (by simp) ?_)
    simp;refine .inLoop ?_
    have ps:=alN (Γ:=Γ) (s::r) b1 (fun t ht=>by rw[b2 t ht];exact b3) (h8:=[.cells [.list false 1 ((s::r).map .str)],.row 3 a_ [] none true false,.cells [.sl 3 0 0],.row 2 mI [] none true false,.cells [.str s],.bK true,
     .loop .exhausted .none j5 J1 [31] (.av Fi) Eo,.cells (ew (dj (s::r) s.length).1).cells]) rfl rfl (fun m hm=>by simp;omega) (fun i m hi=>by simp;omega) (s::r).length 0 (by omega) [⟨4,0,(s::r).length⟩] (by simp)
    simp[KZ]at ps⊢;exact ps
   ·rw[if_neg hm]at hR
    have hk:¬(((dj (s::r) s.length).2:Nat):Int)<2:=by omega
    refine .call 60 (by simp) hb ?_;simp[hk];refine .aX 60 (Tb _) ?_;simp
    have e2:∀t∈s::r,(dj (s::r) s.length).1.1<t.length:=fun t ht=>by
     have h0:=Ic (s::r) s.length (by omega);have h1:=Cb (dj (s::r) s.length).1 (s::r);obtain⟨t0,h2⟩:=Fu (l:=bO (fun t=>!cZ (dj (s::r) s.length).1 t) (s::r)) (by omega);have h3:=uf h2;have h4:=(cV.1 (lz.1 h3.2).2.1).1
     rw[b2 t ht,<-b2 t0 h3.1];omega
    have hz:=HY hm;have ys:=tX f (dP [(dj (s::r) s.length).1] (bO (fun t=>!cZ (dj (s::r) s.length).1 t) (s::r)));have h7:=tX f (bO (cZ (dj (s::r) s.length).1) (s::r));have q3:=pM.cost ⟨b1,b2,b3⟩
    have k2:pM n (dP [(dj (s::r) s.length).1] (bO (fun t=>!cZ (dj (s::r) s.length).1 t) (s::r))):=⟨by
     have:(bO (fun t=>!cZ (dj (s::r) s.length).1 t) (s::r)).length<=(s::r).length:=FA _ _
     simp only[dP,fy];omega,fun t ht=>by
     simp only[dP,cd]at ht;obtain⟨t0,h1,rfl⟩:=ht
     rw[sv];exact b2 _ (uf h1).1,b3⟩
    have fz:pM n (bO (cZ (dj (s::r) s.length).1) (s::r)):=⟨by
     have:(bO (cZ (dj (s::r) s.length).1) (s::r)).length<=(s::r).length:=FA _ _
     omega,fun t ht=>b2 t (dX.1 ht).1,b3⟩
    have hl:=alL (Γ:=Γ) (s::r) (by simp) b1 hlen s (dj (s::r) s.length).1 (by have:=e2 s (by simp);omega) e2 J1 (fun m hm=>by simp;omega) _ _ (by omega) (by omega) (ih _ (by omega) k2 1 (.inl rfl)) (ih _ (by omega) fz 1 (.inl rfl));subst hR;refine .na [0,2,3,4,7,15,16,17,18,21,22,23,24,27,28,29,30,42,43,44,51,52,53,54,55,56,57,76,77,78] ?_;simp[nn];simp[El]at hl⊢;exact hl
theorem GY(l:List (List UInt8))(s:List UInt8){k:Nat}(hk:Kd 1 k l)(hl:l.length<2^40):aQ ak Γ BF [.list false k (l.map .str),.str s] (.bool (l.contains s)):=by
 refine .run 60 Yy.1 (by simp) ?_;simp;refine .call 60 (by simp) (Ql l s hk hl) ?_;have e:=IC s l 0;simp[e];exact .back (by simp)
theorem PS(n:Nat):∀(f:Nat)(rows:List Bs),cw rows<f->pM n rows->∀k,Kd 1 k rows->aQ ak Γ j5 [.list false k (rows.map .str)] (.own 3 a_ ((gf f rows).map bm))
 |0,rows,hc,_,_,_=>by omega
 |f+1,[],hc,hw,k,hk=>by
  first
   |(refine .run 12 gz.1 (by simp) ?_;simp;refine .cN 60 a_ (es:=[bm ⟨0,0,0⟩]) (by simp) (by simp) ?_)
   |(refine .run 13 gz.1 (by simp) ?_;simp;refine .cN 60 a_ (es:=[bm ⟨0,0,0⟩]) (by simp) (by simp) ?_)
   |(refine .run 14 gz.1 (by simp) ?_;simp;refine .cN 60 a_ (es:=[bm ⟨0,0,0⟩]) (by simp) (by simp) ?_)
   |(refine .run 15 gz.1 (by simp) ?_;simp;refine .cN 60 a_ (es:=[bm ⟨0,0,0⟩]) (by simp) (by simp) ?_)
   |(refine .run 16 gz.1 (by simp) ?_;simp;refine .cN 60 a_ (es:=[bm ⟨0,0,0⟩]) (by simp) (by simp) ?_)
   |(refine .run 17 gz.1 (by simp) ?_;simp;refine .cN 60 a_ (es:=[bm ⟨0,0,0⟩]) (by simp) (by simp) ?_)
   |(refine .run 18 gz.1 (by simp) ?_;simp;refine .cN 60 a_ (es:=[bm ⟨0,0,0⟩]) (by simp) (by simp) ?_)
   |(refine .run 19 gz.1 (by simp) ?_;simp;refine .cN 60 a_ (es:=[bm ⟨0,0,0⟩]) (by simp) (by simp) ?_)
   |(refine .run 20 gz.1 (by simp) ?_;simp;refine .cN 60 a_ (es:=[bm ⟨0,0,0⟩]) (by simp) (by simp) ?_)
   |(refine .run 21 gz.1 (by simp) ?_;simp;refine .cN 60 a_ (es:=[bm ⟨0,0,0⟩]) (by simp) (by simp) ?_)
   |(refine .run 22 gz.1 (by simp) ?_;simp;refine .cN 60 a_ (es:=[bm ⟨0,0,0⟩]) (by simp) (by simp) ?_)
   |(refine .run 23 gz.1 (by simp) ?_;simp;refine .cN 60 a_ (es:=[bm ⟨0,0,0⟩]) (by simp) (by simp) ?_)
   |(refine .run 24 gz.1 (by simp) ?_;simp;refine .cN 60 a_ (es:=[bm ⟨0,0,0⟩]) (by simp) (by simp) ?_)
   |(refine .run 25 gz.1 (by simp) ?_;simp;refine .cN 60 a_ (es:=[bm ⟨0,0,0⟩]) (by simp) (by simp) ?_)
   |(refine .run 26 gz.1 (by simp) ?_;simp;refine .cN 60 a_ (es:=[bm ⟨0,0,0⟩]) (by simp) (by simp) ?_)
   |(refine .run 27 gz.1 (by simp) ?_;simp;refine .cN 60 a_ (es:=[bm ⟨0,0,0⟩]) (by simp) (by simp) ?_)
   |(refine .run 28 gz.1 (by simp) ?_;simp;refine .cN 60 a_ (es:=[bm ⟨0,0,0⟩]) (by simp) (by simp) ?_)
   |(refine .run 29 gz.1 (by simp) ?_;simp;refine .cN 60 a_ (es:=[bm ⟨0,0,0⟩]) (by simp) (by simp) ?_)
   |(refine .run 30 gz.1 (by simp) ?_;simp;refine .cN 60 a_ (es:=[bm ⟨0,0,0⟩]) (by simp) (by simp) ?_)
   |(refine .run 31 gz.1 (by simp) ?_;simp;refine .cN 60 a_ (es:=[bm ⟨0,0,0⟩]) (by simp) (by simp) ?_)
   |(refine .run 32 gz.1 (by simp) ?_;simp;refine .cN 60 a_ (es:=[bm ⟨0,0,0⟩]) (by simp) (by simp) ?_)
   |(refine .run 33 gz.1 (by simp) ?_;simp;refine .cN 60 a_ (es:=[bm ⟨0,0,0⟩]) (by simp) (by simp) ?_)
  simp;exact .back (by simp[gf])
 |f+1,s::r,hc,hw,k,hk=>by
  obtain rfl:k=1:=hk.of (i:=0) (by simp)
  exact afr f n s r hw fun rows h1 h2 k hk=>PS n f rows (by omega) h2 k hk
def fX:List Bs->List Bs->List Bs
 |a,[]=>a
 |a,s::r=>fX (if a.contains s=true then a else a++[s]) r
def sD(n:Int)(rows:List Bs):Bool:=decide (n<0)||(decide (8<n)||(decide (128<rows.length)||bE (fun s=>!o8 n.toNat s) rows))
def lR(rows:List Bs)(n:Int):List Fm:=if sD n rows=true then[]else gf (cw (fX [] rows)+1) (fX [] rows)
def TM(rows:List Bs)(n:Int):Int:=if sD n rows=true then 1 else 0
theorem zL{t:Bs}:∀(r a:List Bs),t∈fX a r↔t∈a\/t∈r
 |[],a=>by simp[fX]
 |s::r,a=>by
  rw[fX,zL r]
  by_cases h:a.contains s=true
  ·rw[if_pos h]
   have h':s∈a:=by simpa using h
   simp only[bD];constructor
   ·rintro(h1|h1)
    ·exact .inl h1
    ·exact .inr (.inr h1)
   ·rintro(h1|h1|h1)
    ·exact .inl h1
    ·subst h1;exact .inl h'
    ·exact .inr h1
  ·rw[if_neg h];simp only[a8,cL,bD,or_assoc,px,false_or]
theorem aiB(l:List Bs)(n:Nat)(i:Nat)(hn:n<=8):jJ Tryz.prog Γ (fun h=>h[i]? =some (.cells [.int .i64 n])) F8 [.ptr i 0] AV.str (fun s=>!o8 n s) l:=by
 refine⟨by simp,fun s hm up h hφ=>?_⟩
 have h2:decide (Lib.trimS s [48,49,45]=[])=s.all nj:=by
  rw[gV,Yg];exact QE s
 refine .bp 60 ZZ.1 ?_;unfold o8
 by_cases h:s.length=n
 ·have h':(s.length:Int)=n:=by omega
  have hT:=Sy (Γ:=Γ) s (by omega);unfold qm at hT;simp[hφ,h,h'];refine .ji 60 (by simp) hT ?_;simp[h2]
 ·have h':¬(s.length:Int)=n:=by omega
  simp[hφ,h,h']
theorem agz(rows:List Bs)(n:Int){k:Nat}(hk:Kd 1 k rows):aQ ak Γ BY [.list false k (rows.map .str),.int .i64 n] (.aH [.own 3 a_ ((lR rows n).map bm),.int .i64 (TM rows n)]):=by
 have key:∀m i:Nat,i+m=rows.length->rows.length<=128->(∀t∈rows,t.length=n.toNat)->n.toNat<=40->∀a:List Bs,a.length<=i->fX a (rows.drop i)=fX [] rows->aA ak Γ (yrW (.sl 2 0 a.length) (.list false k (rows.map .str)) (.int .i64 rows.length) (.int .i64 i) [.cells [.int .i64 n],.row 3 a_ [] none true false,.row 1 aw (a.map .str) none true false])
  (.ret (.aH [.own 3 a_ ((gf (cw (fX [] rows)+1) (fX [] rows)).map bm),.int .i64 0])):=by
  intro m
  induction m with
  |zero=>
   intro i hi hx hv hn a ha hu
   have q1:¬i<rows.length:=by omega
   rw[bx (by omega),fX]at hu
   have hw:pM n.toNat a:=⟨by omega,fun t ht=>by
    rw[hu]at ht
    exact hv t (by simpa using(zL rows []).1 ht),hn⟩
   have hf:=PS (Γ:=Γ) n.toNat (cw a+1) a (by omega) hw 1 (.inl rfl);rw[<-hu];refine .go 60 ?_;simp[q1];refine .call 60 (by simp) hf ?_;simp;exact .back (by simp)
  |succ m ih=>
   intro i hi hx hv hn a ha hu
   have q1:i<rows.length:=by omega
   have q2:=bG (hk.of q1);have hc:=GY (Γ:=Γ) a rows[i] (.inl rfl:Kd 1 1 a) (by omega);rw[bJ q1,fX]at hu;refine .go 60 ?_;simp(disch:=omega) [q1,q2];refine .call 60 (by simp) hc ?_
   by_cases h:a.contains rows[i]=true
   ·rw[if_pos h]at hu;have hh:=ih (i+1) (by omega) hx hv hn a (by omega) hu
    have h':rows[i]∈a:=by simpa using h
    simp(disch:=omega) [h'];refine .aI ?_;simp[q2]at hh⊢;exact hh
   ·rw[if_neg h]at hu;have hh:=ih (i+1) (by omega) hx hv hn (a++[rows[i]]) (by simp;omega) hu
    have h':¬rows[i]∈a:=by simpa using h
    simp(disch:=omega) [h'];refine .aI ?_;simp;refine .drop 3 rfl (by simp) (by simp) (by simp) ?_;refine .reset (i:=2) rfl (by simp) (by simp) (by simp) ?_;simp[q2]at hh⊢;exact hh
 refine .run 100 aaF.1 (by simp) ?_;unfold lR TM sD
 by_cases h1:n<0
 ·simp[h1];exact .back (by simp)
 ·obtain⟨m,rfl⟩:=gW (show 0<=n by omega)
  by_cases h2:(8:Int)<m
  ·simp[h2];exact .back (by simp)
  ·by_cases h3:128<rows.length
   ·have hj:(128:Int)<rows.length:=by omega
    simp[h2,h3,hj];exact .back (by simp)
   ·have hj:¬(128:Int)<rows.length:=by omega
    have hC:=fun(h:List Ob) hφ=>y0 (Γ:=Γ) (fl:=false) (aiB rows m 0 (by omega)) hk (by omega) (h:=h) hφ
    simp[h2,h3,hj];refine .aX 60 (hC _ rfl) ?_
    cases hb:bE (fun s=>!o8 m s) rows with
    |true=>
     simp[hb];exact .back (by simp)
    |false=>
     have hh:=key rows.length 0 (by omega) (by omega) (fun t ht=>by
      have:=kK.1 hb t ht;simp only[Fw,o8,aB,bj]at this
      simpa using this.2) (by simp;omega) [] (by simp) rfl
     simp[hb];refine .inLoop ?_;simp at hh⊢;exact hh
section
variable{n:Int}{val:Int->Bool}
def nv(n:Int)(val:Int->Bool)(l:List Fm)(v:Bool):Prop:=∀rest fuel,(l++rest).length<=fuel->fB n val fuel (l++rest)=some (v,rest)
theorem nv.pos{l:List Fm}{v:Bool}(h:nv n val l v):0<l.length:=by
 cases l with
 |nil=>
  have:=h [] 0 (by simp)
  cases this
 |cons _ _=>simp
theorem I6{x:Li}(h:(x.1:Int)<n):nv n val [eO x] (val (eO x).lit):=by
 intro rest fuel hf
 cases fuel with
 |zero=>simp at hf
 |succ fuel=>
  have h2:fK n (eO x)=true:=by
   unfold fK eO
   by_cases hx:x.2=48
   ·simp[hx];omega
   ·simp[hx];omega
  have hk:(eO x).kind=2:=rfl;simp[fB,h2,hk]
theorem akw:nv n val [⟨0,0,0⟩] false:=by
 intro rest fuel hf
 cases fuel with
 |zero=>simp at hf
 |succ fuel=>simp[fB,fK,gF]
theorem ai0:nv n val [⟨1,0,0⟩] true:=by
 intro rest fuel hf
 cases fuel with
 |zero=>simp at hf
 |succ fuel=>simp[fB,fK,gF]
def oW(a:Bool):List (List Fm×Bool)->Bool->Bool
 |[],v=>v
 |k::ks,v=>oW a ks (if a then k.2&&v else k.2||v)
theorem HF:∀(ks:List (List Fm×Bool))(v:Bool),oW true ks v=(v&&ks.all (·.2))
 |[],v=>by simp[oW]
 |k::ks,v=>by
  show oW true ks (k.2&&v)=_
  rw[HF ks,tw,Bool.and_comm k.2 v,pw]
theorem H6:∀(ks:List (List Fm×Bool))(v:Bool),oW false ks v=(v||ks.any (·.2))
 |[],v=>by simp[oW]
 |k::ks,v=>by
  show oW false ks (k.2||v)=_
  rw[H6 ks,List.any_cons,Bool.or_comm k.2 v,Bool.or_assoc]
theorem PI(a:Bool)(fuel:Nat):∀(ks:List (List Fm×Bool))(v:Bool)(rest:List Fm),(∀k∈ks,nv n val k.1 k.2)->(ks.flatMap (·.1)++rest).length<=fuel->gF (fB n val fuel) a ks.length v (ks.flatMap (·.1)++rest)=some (oW a ks v,rest)
 |[],v,rest,_,_=>by simp[gF,oW]
 |k::ks,v,rest,h,hf=>by
  simp only[oD,cR,bC]at hf;have h1:=h k (by simp) (ks.flatMap (·.1)++rest) fuel (by simp only[bC];omega);simp only[bL,gF,oD,cR,h1,oW];exact PI a fuel ks _ rest (fun k' h2=>h k' (by simp[h2])) (by simp only[bC];omega)
theorem C4(kd:Int)(hv:kd=3\/kd=4)(ks:List (List Fm×Bool))(h2:2<=ks.length)(h:∀k∈ks,nv n val k.1 k.2):nv n val (⟨kd,0,ks.length⟩::ks.flatMap (·.1)) (oW (decide (kd=3)) ks (decide (kd=3))):=by
 intro rest fuel hf
 cases fuel with
 |zero=>simp at hf
 |succ fuel=>
  have hb:fK n ⟨kd,0,ks.length⟩=true:=by
   unfold fK;rw[if_neg (by simp only;omega),if_pos hv]
   simp;omega
  have h3:¬kd=2:=by omega
  have h4:¬kd=1:=by omega
  have hk:=PI (n:=n) (val:=val) (decide (kd=3)) fuel ks (decide (kd=3)) rest h (by simp at hf⊢;omega);simp only[eH,fB,hb,cE,h3,dq,eo,h4,nD,pr];exact hk
theorem afh{r:List Fm}{v:Bool}(h:nv n val r v)(ht:uA r=true):v=true:=by
 match r,ht with
 |[f],ht=>
  have hk:f.kind=1:=by simpa[uA]using ht
  have h1:=h [] 1 (by simp);simp only[ey,fB]at h1
  split at h1
  ·rename_i h2
   have h0:f.kids=0:=by
    simp only[fK,hk]at h2;simp at h2;exact h2.2
   simp[hk,h0,gF]at h1;exact h1
  ·cases h1
theorem I3(l:List Li)(hl:∀x∈l,(x.1:Int)<n)(h0:l≠[])(r:List Fm)(v:Bool)(hr:r=[]/\v=true\/nv n val r v):nv n val (fm l r) ((l.all fun x=>val (eO x).lit)&&v):=by
 have hb:∀l:List Li,(l.map fun x=>([eO x],val (eO x).lit)).flatMap (·.1)=l.map eO:=fun l=>by
  induction l with
  |nil=>rfl
  |cons x l ih=>simp only[bX,oD,ih];rfl
 have hc:0<l.length:=rW.2 h0
 have hv:(kR r=[]/\v=true)\/(kR r=r/\0<r.length/\nv n val r v):=by
  rcases hr with⟨rfl,rfl⟩|hr
  ·left;exact⟨rfl,rfl⟩
  ·by_cases ht:uA r=true
   ·left;exact⟨by rw[kR,if_pos ht],afh hr ht⟩
   ·right;exact⟨by rw[kR,if_neg ht],hr.pos,hr⟩
 unfold fm
 rcases hv with⟨e,rfl⟩|⟨e,hp,hr⟩
 ·rw[e,qt];simp only[c_,Nat.zero_min,iz,ey]
  by_cases h1:1<l.length
  ·have hh:=C4 (n:=n) (val:=val) 3 (.inl rfl) (l.map fun x=>([eO x],val (eO x).lit)) (by simp;omega) fun k hk=>by
    obtain⟨x,h2,rfl⟩:=cd.1 hk;exact I6 (hl x h2)
   rw[hb,show decide ((3:Int)=3)=true from rfl,HF]at hh;simp only[rl,if_pos h1];simpa[BC]using hh
  ·obtain⟨x,rfl⟩:∃x,l=[x]:=by
    match l,hc,h1 with
    |[x],_,_=>exact⟨x,rfl⟩
    |x::y::l,_,h1=>simp at h1
   have hh:=I6 (val:=val) (hl x (by simp));simpa[rl]using hh
 ·rw[e]
  have hm:min r.length 1=1:=by omega
  rw[hm]
  have h1:1<l.length+1:=by omega
  have hh:=C4 (n:=n) (val:=val) 3 (.inl rfl) ((l.map fun x=>([eO x],val (eO x).lit))++[(r,v)]) (by simp;omega) fun k hk=>by
   simp only[a8,cL]at hk
   rcases hk with hk|rfl
   ·obtain⟨x,h2,rfl⟩:=cd.1 hk;exact I6 (hl x h2)
   ·exact hr
  rw[List.flatMap_append,hb,show decide ((3:Int)=3)=true from rfl,HF]at hh;simp only[rl,if_pos h1];simpa[BC]using hh
end
def fS(val:Int->Bool)(s:Bs):Bool:=(bu s 0).all fun x=>val (eO x).lit
theorem agm(val:Int->Bool):∀(l:List Li)(s:Bs),l.Pairwise (fun a b=>a.1≠b.1)->(∀x∈l,x∈bu s 0)->((l.all fun x=>val (eO x).lit)&&fS val (gI l s))=fS val s:=by
 intro l s hp hm
 have h1:∀y:Li,y∈bu (gI l s) 0↔y∈bu s 0/\∀x∈l,x.1≠y.1:=by
  clear hp hm
  induction l generalizing s with
  |nil=>intro y;simp[gI]
  |cons x l ih=>
   intro y;have e:gI (x::l) s=gI l (s.set x.1 45):=rfl;rw[e,ih];simp only[bD,L9,lz,Fp];constructor
   ·rintro⟨⟨_,h2,h3⟩,h4⟩
    by_cases h5:x.1=y.1
    ·rw[h5]at h2
     by_cases h6:y.1<s.length
     ·rw[ff h6]at h2;exact absurd (Option.some.inj h2).symm h3
     ·rw[gy (by simp;omega)]at h2;cases h2
    ·rw[dW h5]at h2;exact⟨⟨by omega,h2,h3⟩,h5,h4⟩
   ·rintro⟨⟨_,h2,h3⟩,h5,h4⟩
    exact⟨⟨by omega,by rw[dW h5];exact h2,h3⟩,h4⟩
 rw[gV];simp only[fS,aB,eh,h1];constructor
 ·rintro⟨h2,h3⟩ y hy
  by_cases h4:∀x∈l,x.1≠y.1
  ·exact h3 y ⟨hy,h4⟩
  ·have h4:∃x,x∈l/\x.1=y.1:=by
    refine xL fun hn=>h4 fun x hx he=>hn ⟨x,hx,he⟩
   obtain⟨x,hx,he⟩:=h4;have h5:=lz.1 (hm x hx);have h6:=lz.1 hy;rw[he]at h5;have h7:x.2=y.2:=Option.some.inj (h5.2.1.symm.trans h6.2.1);have h8:x=y:=Prod.ext he h7
   rw[<-h8];exact h2 x hx
 ·intro h2;exact⟨fun x hx=>h2 x (hm x hx),fun y hy=>h2 y hy.1⟩
theorem Ig(val:Int->Bool)(l:List Li)(hp:l.Pairwise (fun a b=>a.1≠b.1)):∀rows:List Bs,(∀s∈rows,∀x∈l,x∈bu s 0)->((l.all fun x=>val (eO x).lit)&&bE (fS val) (dP l rows))=bE (fS val) rows
 |[],_=>by simp[dP]
 |s::r,h=>by
  have h1:=agm val l s hp (h s (by simp))
  have h2:=Ig val l hp r fun t ht=>h t (by simp[ht])
  have e:dP l (s::r)=gI l s::dP l r:=rfl;rw[e,lB,lB,<-h1,<-h2]
  cases(l.all fun x=>val (eO x).lit)<;>simp
theorem Pq(val:Int->Bool)(p:Bs->Bool):∀rows:List Bs,(bE (fS val) (bO (fun t=>!p t) rows)||bE (fS val) (bO p rows))=bE (fS val) rows
 |[]=>rfl
 |s::r=>by
  have ih:=Pq val p r;rw[lB,<-ih]
  cases h:p s
  ·have e1:bO (fun t=>!p t) (s::r)=bO (fun t=>!p t) r:=by simp[bO,h]
   have e2:bO p (s::r)=s::bO p r:=by simp[bO,h]
   rw[e1,e2,lB]
   cases fS val s<;>simp
  ·have e1:bO (fun t=>!p t) (s::r)=s::bO (fun t=>!p t) r:=by simp[bO,h]
   have e2:bO p (s::r)=bO p r:=by simp[bO,h]
   rw[e1,e2,lB]
   cases fS val s<;>simp
theorem afs(val:Int->Bool){rows:List Bs}(h:bE nV rows=true):bE (fS val) rows=true:=by
 obtain⟨s,h1,h2⟩:=CX.1 h;exact CX.2 ⟨s,h1,by rw[fS,Hz.1 h2];rfl⟩
theorem Cz(N:Nat)(val:Int->Bool):∀(f:Nat)(rows:List Bs),cw rows<f->(∀s∈rows,s.length=N)->nv N val (gf f rows) (bE (fS val) rows)
 |0,rows,h,_=>by omega
 |f+1,[],_,_=>by rw[gf];exact akw
 |f+1,s::r,h,hN=>by
  rw[gf]
  have hv:∀x:Li,∀t∈s::r,x∈bu t 0->(x.1:Int)<N:=fun x t ht hx=>by
   have h1:=(cV.1 (lz.1 hx).2.1).1;have:=hN t ht;omega
  split
  ·rename_i hb;rw[afs val hb];exact ai0
  ·rename_i hb
   split
   ·rename_i hc;have h1:=GQ hc;have h4:0<(dL (s::r) s).length:=rW.2 hc
    have hd:=Ig val (dL (s::r) s) (Np _ _) (s::r) fun t ht x hx=>Cn hx t ht
    have ih:=Cz N val f (dP (dL (s::r) s) (s::r)) (by omega) fun t ht=>by
     simp only[dP,cd]at ht;obtain⟨t0,h5,rfl⟩:=ht
     rw[sv];exact hN _ h5
    rw[<-hd];exact I3 _ (fun x hx=>hv x s (by simp) (Cn hx s (by simp))) hc _ _ (.inr ih)
   ·split
    ·have hl:∀t∈s::r,bu t 0≠[]:=fun t ht he=>by
      have h1:=kK.1 (by simpa using hb) t ht
      rw[Hz.2 he]at h1;cases h1
     have hf:∀rows:List Bs,(rows.map fun t=>(fm (bu t 0) [],fS val t)).flatMap (·.1)=rows.flatMap fun s=>fm (bu s 0) []:=fun rows=>by
      induction rows with
      |nil=>rfl
      |cons t r ih=>simp only[bX,oD,ih]
     have h2:2<=(s::r).length:=by
      rename_i hj hm
      have hj:dL (s::r) s=[]:=by simpa using hj
      cases r with
      |nil=>
       exfalso
       have:dL [s] s=bu s 0:=by
        unfold dL;rw[Bx];intro x hx;simp[eu,cZ,hx]
       rw[hj]at this;exact hl s (by simp) this.symm
      |cons t r=>simp
     have hh:=C4 (n:=N) (val:=val) 4 (.inr rfl) ((s::r).map fun t=>(fm (bu t 0) [],fS val t)) (by simpa using h2) fun k hk=>by
      obtain⟨t,h5,rfl⟩:=cd.1 hk;have:=I3 (n:=N) (val:=val) (bu t 0) (fun x hx=>hv x t h5 hx) (hl t h5) [] true (.inl ⟨rfl,rfl⟩);simpa[fS]using this
     rw[hf]at hh
     have e:decide ((4:Int)=3)=false:=by decide
     rw[e,H6]at hh;simp only[fy,List.any_map]at hh
     have e2:(false||(s::r).any ((fun x=>x.2)∘fun t=>(fm (bu t 0) [],fS val t)))=bE (fS val) (s::r):=by rw[pr];rfl
     rw[e2]at hh;exact hh
    ·rename_i hm;have h0:=Ic (s::r) s.length (by omega);have h1:=HY hm;have h3:=Cb (dj (s::r) s.length).1 (s::r);generalize(dj (s::r) s.length).1=x at*;obtain⟨t0,h2⟩:=Fu (l:=bO (fun t=>!cZ x t) (s::r)) (by omega);have q1:=uf h2
     have hp:=Cz N val f (dP [x] (bO (fun t=>!cZ x t) (s::r))) (by omega) fun t ht=>by
      simp only[dP,cd]at ht;obtain⟨t0,h5,rfl⟩:=ht
      rw[sv];exact hN _ (uf h5).1
     have hq:=Cz N val f (bO (cZ x) (s::r)) (by omega) fun t ht=>hN _ (dX.1 ht).1
     have hd:=Ig val [x] (by simp) (bO (fun t=>!cZ x t) (s::r)) fun t ht y hy=>by
      simp only[cL]at hy;subst hy;exact(uf ht).2
     have hk:=Pq val (cZ x) (s::r);have ha:=I3 (n:=N) (val:=val) [x] (fun y hy=>by simp only[cL]at hy;subst hy;exact hv y t0 q1.1 q1.2) (by simp) _ _ (.inr hp);rw[hd]at ha;rw[<-hk];generalize bE (fS val) (bO (fun t=>!cZ x t) (s::r))=va at*;generalize bE (fS val) (bO (cZ x) (s::r))=vb at*;generalize fm [x] (gf f (dP [x] (bO (fun t=>!cZ x t) (s::r))))=A at*;generalize gf f (bO (cZ x) (s::r))=B at*
     have hh:=C4 (n:=N) (val:=val) 4 (.inr rfl) [(A,va),(B,vb)] (by simp) (by
      intro k hk;simp only[bD,px,po]at hk
      rcases hk with rfl|rfl
      ·exact ha
      ·exact hq)
     have e:decide ((4:Int)=3)=false:=by decide
     rw[e,H6]at hh;simpa using hh
theorem M1:∀a b:List Bs,cw (a++b)=cw a+cw b
 |[],b=>by simp[cw]
 |s::a,b=>by rw[eH,cw,cw,M1 a b];omega
theorem Nx:∀(r a:List Bs),cw (fX a r)<=cw a+cw r
 |[],a=>by simp[fX,cw]
 |s::r,a=>by
  rw[fX];have h:=Nx r (if a.contains s=true then a else a++[s])
  have h2:cw (if a.contains s=true then a else a++[s])<=cw a+(bu s 0).length:=by
   split
   ·omega
   ·rw[M1];simp[cw]
  rw[cw];omega
theorem P6{rows:List Bs}{n:Int}(h:sD n rows=false):∃m:Nat,n=m/\m<=8/\rows.length<=128/\∀s∈rows,s.all nj=true/\s.length=m:=by
 simp only[sD,lx,jB]at h;obtain⟨h1,h2,h3,h4⟩:=h;obtain⟨m,rfl⟩:=gW (show 0<=n by omega);refine⟨m,rfl,by omega,by omega,fun s hs=>?_⟩;have:=kK.1 h4 s hs;simpa[o8]using this
theorem aht{rows:List Bs}{m:Nat}(hm:m<=8)(hl:rows.length<=128)(hs:∀s∈rows,s.length=m):cw (fX [] rows)<=1024:=by
 have h1:=Nx rows [];have h2:=Is hs;have h3:rows.length*m<=128*8:=Nat.mul_le_mul hl hm;have h0:cw []=0:=rfl;omega
theorem Qg{rows:List Bs}{n:Int}(h:sD n rows=false)(val:Int->Bool):DZ n val (lR rows n)=some (bE (fS val) rows):=by
 obtain⟨m,rfl,h1,h2,h3⟩:=P6 h
 have hc:=aht h1 h2 fun s hs=>(h3 s hs).2
 have hl:=tX (cw (fX [] rows)+1) (fX [] rows)
 have hr:=Cz m val (cw (fX [] rows)+1) (fX [] rows) (by omega) fun s hs=>(h3 s (by simpa using(zL rows []).1 hs)).2
 have he:bE (fS val) (fX [] rows)=bE (fS val) rows:=by
  rw[gV,CX,CX];constructor
  ·rintro⟨s,h4,h5⟩;exact⟨s,by simpa using(zL rows []).1 h4,h5⟩
  ·rintro⟨s,h4,h5⟩;exact⟨s,(zL rows []).2 (.inr h4),h5⟩
 have h4:=hr [] (gf (cw (fX [] rows)+1) (fX [] rows)).length (by simp);rw[ey,he]at h4
 have e0:lR rows m=gf (cw (fX [] rows)+1) (fX [] rows):=by unfold lR;rw[h];rfl
 rw[e0];unfold DZ;rw[if_pos ⟨by omega,by omega,by omega⟩,h4]
def eE:List Bool->Nat
 |[]=>0
 |v::l=>(if v=true then 1 else 0)+eE l
theorem RM:∀l:List Bool,eE l<=l.length
 |[]=>aT _
 |v::l=>by rw[eE,bL];have:=RM l;split<;>omega
theorem Gs(l:List Bool){k:Nat}(hk:Kd 1 k l)(hl:l.length<2^40):aQ ak Γ vy [.list false k (l.map .bool)] (.int .i64 (eE l)):=by
 have key:∀n i:Nat,i+n=l.length->∀a:Nat,a+n<2^41->aA ak Γ (yGB (.int .i64 a) (.list false k (l.map .bool)) (.int .i64 l.length) (.int .i64 i) []) (.ret (.int .i64 (a+eE (l.drop i):Nat))):=by
  intro n
  induction n with
  |zero=>
   intro i hi a ha
   have q1:¬i<l.length:=by omega
   rw[bx (by omega),eE];refine .go 60 ?_;simp[q1];exact .back (by simp)
  |succ n ih=>
   intro i hi a ha
   have q1:i<l.length:=by omega
   have q2:=bG (hk.of q1);rw[bJ q1,eE];refine .go 60 ?_
   cases h3:l[i]with
   |true=>
    have hh:=ih (i+1) (by omega) (a+1) (by omega);simp(disch:=omega) [q1,q2,h3];refine .aI ?_;simp[q2,<-Int.add_assoc]at hh⊢;exact hh
   |false=>
    have hh:=ih (i+1) (by omega) a (by omega);simp(disch:=omega) [q1,q2,h3];refine .aI ?_;simp[q2]at hh⊢;exact hh
 refine .run 60 abo.1 (by simp) ?_;simp;refine .inLoop ?_;have hh:=key l.length 0 (by omega) 0 (by omega);simp at hh⊢;exact hh
def nX:Bs->List Bool->Bool
 |c::s,v::l=>(decide (c=45)||decide (decide (c=49)=v))&&nX s l
 |_,_=>true
theorem ajJ(s:Bs)(l:List Bool){k:Nat}(hk:Kd 1 k l)(hl:l.length=s.length)(hs:s.length<2^40):aQ ak Γ Cf [.str s,.list false k (l.map .bool)] (.bool (nX s l)):=by
 have key:∀n i:Nat,i+n=l.length->aA ak Γ (yEH (.str s) (.list false k (l.map .bool)) (.int .i64 l.length) (.int .i64 i) []) (.ret (.bool (nX (s.drop i) (l.drop i)))):=by
  intro n
  induction n with
  |zero=>
   intro i hi
   have q1:¬i<l.length:=by omega
   rw[bx (by omega),bx (by omega)];refine .go 60 ?_;simp[q1,nX];exact .back (by simp)
  |succ n ih=>
   intro i hi
   have q1:i<l.length:=by omega
   have q3:i<s.length:=by omega
   have q2:=bG (hk.of q1);have hh:=ih (i+1) (by omega);rw[bJ q1,bJ q3,nX];refine .go 60 ?_
   by_cases a:s[i]=45
   ·simp(disch:=omega) [q1,q2,q3,a];refine .aI ?_;simp[q2]at hh⊢;exact hh
   ·by_cases b:s[i]=49
    ·cases c:l[i]with
     |true=>
      simp(disch:=omega) [q1,q2,q3,b,c];refine .aI ?_;simp[q2]at hh⊢;exact hh
     |false=>
      simp(disch:=omega) [q1,q2,q3,b,c];exact .back (by simp)
    ·cases c:l[i]with
     |true=>
      simp(disch:=omega) [q1,q2,q3,a,b,c];exact .back (by simp[a,b])
     |false=>
      simp(disch:=omega) [q1,q2,q3,a,b,c];refine .aI ?_;simp[q2]at hh⊢;exact hh
 refine .run 60 acU.1 (by simp) ?_;simp;refine .inLoop ?_;have hh:=key l.length 0 (by omega);simp at hh⊢;exact hh
def Bi(op:Int)(l:List Bool):Bool:=if op=0\/op=1 then false else if op=2\/op=3\/op=4\/op=5 then decide (eE l=l.length)else if op=6\/op=7 then decide (0<eE l)else decide (eE l%2=1)
def uZ(op:Int):Bool:=decide (op=1\/op=3\/op=5\/op=7\/op=9)
def ED(op:Int):AV:=if op=0\/op=1 then .fn (.func Ci) [] []else if op=2\/op=3\/op=4\/op=5 then .fn (.func Cc) [] []else if op=6\/op=7 then .fn (.func Ce) [] []else if op=8\/op=9 then .fn (.func Cg) [] []else .dn
theorem QB{op:Int}(h0:0<=op)(h1:op<=10):op=0\/op=1\/op=2\/op=3\/op=4\/op=5\/op=6\/op=7\/op=8\/op=9\/op=10:=by omega
theorem afC(op:Int)(h0:0<=op)(h1:op<=10):aQ ak Γ HB [.int .i64 op] (.agg [ED op,.bool (uZ op)]):=by
 refine .run 200 aeu.1 (by simp) ?_
 rcases QB h0 h1 with rfl|rfl|rfl|rfl|rfl|rfl|rfl|rfl|rfl|rfl|rfl
 all_goals
  simp;exact .back (by simp[ED,uZ])
theorem R_(l:List Bool){k:Nat}(hk:Kd 1 k l):aQ ak Γ Ci [.list false k (l.map .bool)] (.bool false):=by
 refine .run 60 acf.1 (by simp) ?_;simp;exact .back (by simp)
theorem DL(l:List Bool){k:Nat}(hk:Kd 1 k l)(hl:l.length<2^40):aQ ak Γ Cc [.list false k (l.map .bool)] (.bool (decide (eE l=l.length))):=by
 have e:((eE l:Int)=l.length)=(eE l=l.length):=propext (by omega);refine .run 60 ab2.1 (by simp) ?_;simp;refine .call 60 (by simp) (Gs l hk hl) ?_;simp[e];exact .back (by simp)
theorem SO(l:List Bool){k:Nat}(hk:Kd 1 k l)(hl:l.length<2^40):aQ ak Γ Ce [.list false k (l.map .bool)] (.bool (decide (0<eE l))):=by
 refine .run 60 acX.1 (by simp) ?_;simp;refine .call 60 (by simp) (Gs l hk hl) ?_;simp;exact .back (by simp)
theorem SG(l:List Bool){k:Nat}(hk:Kd 1 k l)(hl:l.length<2^40):aQ ak Γ Cg [.list false k (l.map .bool)] (.bool (decide (eE l%2=1))):=by
 refine .run 60 ab4.1 (by simp) ?_;simp;refine .call 60 (by simp) (Gs l hk hl) ?_;have e2:((eE l:Int)%2=1)=(eE l%2=1):=propext (by omega);simp[e2];exact .back (by simp)
def DJ(g:Gt)(ins:List Bool):Bool:=ig g&&decide (ins.length=g.ins.length)
def uF(g:Gt)(ins:List Bool):Bool:=if g.op=10 then !decide (bE (fun s=>nX s ins) g.rows=g.off)else !decide (Bi g.op ins=uZ g.op)
def sP(g:Gt)(ins:List Bool):Bool:=DJ g ins&&uF g ins
def S8(g:Gt)(ins:List Bool):Int:=if DJ g ins=true then 0 else 1
theorem aku(g:Gt)(ins:List Bool){k:Nat}(hk:Kd 1 k ins)(i:Nat)(hl:∀s∈g.rows,ins.length=s.length/\s.length<2^40):jJ Tryz.prog Γ (fun h=>h[i]? =some (.cells [.list false k (ins.map .bool)])) Gb [.ptr i 0] AV.str (fun s=>nX s ins) g.rows:=by
 refine⟨by simp,fun s hs up h hφ=>?_⟩;have hf:=ajJ (Γ:=Γ) s ins hk (hl s hs).1 (hl s hs).2;refine .bp 60 aaf.1 ?_;simp[hφ];refine .ji 60 (by simp) hf ?_;simp
theorem aiW(g:Gt)(hg:wL g)(ins:List Bool){k:Nat}(hk:Kd 1 k ins)(j:Nat)(hl:∀s∈g.rows,ins.length=s.length/\s.length<2^40){h:List Ob}(hj:h[j]? =some (.cells (AV.cells (df g)))):∀up,AM.Reach ak Γ (.cl Gh [.list false k (ins.map .bool),.ptr j 0] up h) (.back up (.bool (bE (fun s=>nX s ins) g.rows)) (h++[.cells [.list false k (ins.map .bool)]])):=by
 intro up
 have h2:=fun os=>ez hj os
 have hC:=y0 (Γ:=Γ) (fl:=false) (aku g ins hk h.length hl) g.hr (by have:=hg.2.2.1;omega) (h:=h++[.cells [.list false k (ins.map .bool)]]) (by simp);refine .bp 60 aba.1 ?_;simp[h2];refine .aX 60 hC ?_;simp
theorem aca(hΓ:fE Γ)(g:Gt)(hg:wL g)(ins:List Bool){k:Nat}(hk:Kd 1 k ins)(hv:ins.length<2^40):aQ ak Γ GM [df g,.list false k (ins.map .bool)] (.aH [.bool (sP g ins),.int .i64 (S8 g ins)]):=by
 have kG:=Sm hΓ g hg;have e:((ins.length:Int)=g.ins.length)=(ins.length=g.ins.length):=propext (by omega);unfold sP S8 DJ;refine .run 200 ack.1 (by simp) ?_;simp;refine .call 200 (by simp) kG ?_
 cases hb:ig g with
 |false=>
  simp;exact .back (by simp)
 |true=>
  by_cases hn:ins.length=g.ins.length
  ·have hc:0<=g.op/\g.op<=10:=by
    unfold ig ll at hb
    by_cases h2:g.op=10
    ·omega
    ·rw[if_neg h2]at hb;simp only[aB]at hb;have hx:=hb.2
     split at hx
     ·omega
     ·split at hx
      ·omega
      ·split at hx
       ·omega
       ·cases hx
   have kO:=afC (Γ:=Γ) g.op hc.1 hc.2
   by_cases h2:g.op=10
   ·have hl:∀s∈g.rows,ins.length=s.length/\s.length<2^40:=fun s hs=>by
     unfold ig at hb;rw[if_pos h2]at hb;simp only[aB,j4]at hb;have:=kK.1 hb.2.2 s hs;simp only[Fw,o8,aB,bj]at this;exact⟨by omega,hg.2.2.2.2 s hs⟩
    have hR:=fun(h:List Ob) hj=>aiW (Γ:=Γ) g hg ins hk 0 hl (h:=h) hj
    have h4:ED 10=.dn:=rfl;have ih:uZ 10=false:=rfl;rw[h2,h4,ih]at kO;simp[hn,e,h2];refine .call 200 (by simp) kO ?_;simp[uF,h2];refine .dr 200 ?_;simp;refine .reach (by simp) (hR _ (by simp[h2])) ?_;simp;exact .back (by simp)
   ·obtain⟨f,e1,q1,hf⟩:∃f,ED g.op=.fn (.func f) [] []/\dv ak f=true/\aQ ak Γ f [.list false k (ins.map .bool)] (.bool (Bi g.op ins)):=by
     rcases QB hc.1 hc.2 with c|c|c|c|c|c|c|c|c|c|c
     ·rw[c];exact⟨_,rfl,by simp,R_ ins hk⟩
     ·rw[c];exact⟨_,rfl,by simp,R_ ins hk⟩
     ·rw[c];exact⟨_,rfl,by simp,DL ins hk hv⟩
     ·rw[c];exact⟨_,rfl,by simp,DL ins hk hv⟩
     ·rw[c];exact⟨_,rfl,by simp,DL ins hk hv⟩
     ·rw[c];exact⟨_,rfl,by simp,DL ins hk hv⟩
     ·rw[c];exact⟨_,rfl,by simp,SO ins hk hv⟩
     ·rw[c];exact⟨_,rfl,by simp,SO ins hk hv⟩
     ·rw[c];exact⟨_,rfl,by simp,SG ins hk hv⟩
     ·rw[c];exact⟨_,rfl,by simp,SG ins hk hv⟩
     ·exact absurd c h2
    rw[e1]at kO;simp[hn,e,h2,uF];refine .call 200 (by simp) kO ?_;simp[h2,q1];refine .dr 200 ?_;simp[q1];refine .call (by simp) hf ?_;simp;exact .back (by simp)
  ·simp[hn,e];exact .back (by simp)
def rD(n:Int):FuncId:=if n<=1 then BN else if n<=5 then yE else if n<=7 then xY else xZ
abbrev KO(f:FuncId)(t:Int):AV:=.agg [.fn (.func f) [] [],.int .i64 t]
def D_(n:Int):Option AV:=if 0<=n/\n<=9 then some (KO (rD n) (n%2))else none
def AT(Γ:Nat->Option AV):Prop:=∃ks vs,Γ Tu=some (.dG ks vs)/\∀n:Int,fg (.sc .int) (.int .i64 n) (ks.zip vs)=some (D_ n)
def oa(n:Int)(x:Gr)(ins:List Nat):Gr×Option Nat:=if n<=1 then(x,some 0)else if n<=5 then jc 0 x ins else if n<=7 then eY (·^^^1) (jc 1 x ins)else AJ x ins
def JD(x:Gr)(g:Gt)(ins:List Nat):Gr×Option (Nat×List Fm):=jS ins (lR g.rows g.ins.length).length x (lR g.rows g.ins.length)
def ku(x:Gr)(g:Gt)(ins:List Nat):Gr×Option Nat:=
 if 0<=g.op/\g.op<=9 then eY (·^^^(g.op%2).toNat) (oa g.op x ins)else eY (fun p=>if g.off=true then p.1^^^1 else p.1) (JD x g ins)
theorem Pu(n:Int){x:Gr}(ok:x.Ok){ins:List Nat}(hi:∀a∈ins,a<x.lits):lf x (oa n x ins):=by
 unfold oa
 split
 ·exact⟨.refl ok,fun d hd=>by cases hd;exact zY x⟩
 ·split
  ·exact zz (by omega) ok hi
  ·split
   ·exact(zz (by omega) ok hi).D4 (by omega)
   ·exact adJ ok hi
theorem NV{x:Gr}(ok:x.Ok)(g:Gt){ins:List Nat}(hi:∀a∈ins,a<x.lits):lf x (ku x g ins):=by
 unfold ku
 split
 ·exact(Pu _ ok hi).D4 (by omega)
 ·have h:=t_ ins (lR g.rows g.ins.length).length x (lR g.rows g.ins.length) ok hi;refine⟨h.1,fun d hd=>?_⟩;simp only[eY,cm]at hd;obtain⟨p,hp,rfl⟩:=hd;have:=h.2 p hp
  split
  ·exact Jd (n:=(JD x g ins).1.all) this
  ·exact this
theorem Re{g:Gt}(h:ig g=true):(0<=g.op/\g.op<=9/\ll g.op g.ins.length=true)\/(g.op=10/\g.ins.length<=8/\sD g.ins.length g.rows=false):=by
 unfold ig at h
 by_cases hv:g.op=10
 ·rw[if_pos hv]at h;simp only[aB,bj,j4]at h;refine .inr ⟨hv,h.1,?_⟩;unfold sD;simp only[lx,jB,eo];exact⟨by omega,by omega,by omega,h.2.2⟩
 ·rw[if_neg hv]at h;simp only[aB]at h;have h2:=h.2;refine .inl ?_;unfold ll at h2
  split at h2
  ·exact⟨by omega,by omega,h.2⟩
  ·split at h2
   ·exact⟨by omega,by omega,h.2⟩
   ·split at h2
    ·exact⟨by omega,by omega,h.2⟩
    ·cases h2
theorem SC{op:Int}{n:Nat}(h:ll op n=true)(h2:2<=op):n≠0:=by
 unfold ll at h
 rintro rfl
 split at h
 ·simp at h
 ·rw[if_neg (by omega)]at h
  split at h
  ·simp at h
  ·cases h
theorem amb(n:Int)(h0:0<=n)(h9:n<=9)(ins:List Nat)(h2:2<=n->ins≠[])(hl:ins.length<2^40){ki:Nat}(hv:Kd 1 ki ins){i:Nat}(x:Gr){h:List Ob}(hi:h[i]? =some (cT x))(hw:bN h)(ok:x.Ok)(hb:∀a∈ins,a<x.lits)(up:List Fr):
 AM.Reach ak Γ (.cl (rD n) [.ptr i 0,.list false ki (ins.map iN)] up h) (dd iN i up h (oa n x ins)):=by
 unfold rD oa
 split
 ·simp only[dd,Ag hi];exact ajf up
 ·split
  ·exact SM ins (h2 (by omega)) hl hv x hi hw ok hb up
  ·split
   ·exact SQ ins (h2 (by omega)) hl hv x hi hw ok hb up
   ·exact akG ins (h2 (by omega)) hl hv x hi hw ok hb up
theorem ajv(n:Int):dv ak (rD n)=true:=by
 unfold rD
 split
 ·simp
 ·split
  ·simp
  ·split<;>simp
theorem ajB(hΓ:AT Γ)(g:Gt)(hg:ig g=true)(hf:wL g)(ins:List Nat)(hk:ins.length=g.ins.length){ki:Nat}(q2:Kd 1 ki ins){i:Nat}(x:Gr){h:List Ob}(hi:h[i]? =some (cT x))(hw:bN h)(hv:eT h)(ok:x.Ok)(ih:∀a∈ins,a<x.lits)(up:List Fr):
 AM.Reach ak Γ (.cl BM [.ptr i 0,df g,.list false ki (ins.map iN)] up h) (dd iN i up h (ku x g ins)):=by
 obtain⟨ks,vs,hG,hF⟩:=hΓ;have hF:=hF g.op;simp only[Tu]at hG;have hy:=bd hi;have hle:=lC ok
 have hj:=fun os=>ez hi os
 have hl:∀(o:Ob)(os:List Ob),(h++os).set i o=h.set i o++os:=fun o os=>lZ _ _ hy
 have k2:=hf.2.1
 rcases Re hg with⟨h0,h9,ho⟩|⟨fz,h8,hz⟩
 ·have hB:=amb (Γ:=Γ) g.op h0 h9 ins (fun h2=>by
   have:=SC ho h2
   rintro rfl
   simp at hk;omega) (by omega) q2 x (h:=h++[.cells (AV.cells (df g)),.cells [.fn (.func (rD g.op)) [] [],.int .i64 (g.op%2)]]) (hj _) (by
   intro m hm;simp at hm
   simp[hw m (by omega)]) ok ih
  have ps:=Pu g.op ok ih;have e1:=ajv g.op
  have ht:(g.op%2).toNat<=1:=by omega
  refine ui [.cells (AV.cells (df g)),.cells [.fn (.func (rD g.op)) [] [],.int .i64 (g.op%2)]] hw hy (by simp) ?_;unfold ku;rw[if_pos ⟨h0,h9⟩];unfold D_ at hF;rw[if_pos ⟨h0,h9⟩]at hF;refine .bp 60 Mv.1 ?_;simp[hG,hF,isKey,bM,bV];unfold eY;unfold dd at hB⊢;simp only[hl]at hB⊢
  cases h9:(oa g.op x ins).2 with
  |none=>
   simp only[h9,u_]at hB⊢;refine .Td ?_;simp;refine fI.die (.int .i64 0) e1 (fun its t' _=>.lS 60 hB ?_) ?_
   ·simp
   ·simp;exact .of (by simp)
  |some d=>
   have hd:=ps.2 d h9;have hp:=lC ps.1.ok;have hx:=Tl (a:=d) (t:=(g.op%2).toNat) ht (by omega);rw[show(((g.op%2).toNat:Nat):Int)=g.op%2 by omega]at hx;simp only[h9,dC]at hB⊢;refine .ei 60 ?_;simp;refine fI.reach e1 hB ?_;simp[hx]
 ·have ys:=agz (Γ:=Γ) g.rows g.ins.length g.hr;have hV:=Qg hz (fun _=>false);have e2:=t_ ins (lR g.rows g.ins.length).length x (lR g.rows g.ins.length) ok ih;unfold ku;rw[if_neg (by omega)];unfold D_ at hF;rw[if_neg (by omega)]at hF
  have hq:∃v l',fB g.ins.length (fun _=>false) (lR g.rows g.ins.length).length (lR g.rows g.ins.length)=some (v,l')/\(lR g.rows g.ins.length).length<=4000:=by
   unfold DZ at hV
   split at hV
   ·rename_i h4
    split at hV
    ·rename_i v h5;exact⟨v,[],h5,h4.1⟩
    ·cases hV
   ·cases hV
  obtain⟨v,l',hq,ck⟩:=hq;unfold JD;generalize lR g.rows g.ins.length=F at*
  have hb:=RS (Γ:=Γ) ins q2 (by omega) (fun _=>false) F.length F (by omega) (v:=v) (l':=l') (by rw[hk];exact hq) x
   (h++[.cells (AV.cells (df g)),.cells [.dn,.int .i64 0],.row 3 a_ (F.map bm) none true true]) i (hj _) (by
    intro m hm;simp at hm
    simp[hw m (by omega)]) (by
    intro m k hm;simp at hm
    simp[hv m k (by omega)]) ok ih
  refine ui [.cells (AV.cells (df g)),.cells [.dn,.int .i64 0],.row 3 a_ (F.map bm) none true true] hw hy (by simp) ?_;refine .bp 60 Mv.1 ?_;simp[hG,hF,isKey,bM,bV];refine .ji 7 (by simp) ys ?_;simp;refine .trees [9] ?_;simp[Tf,eI];have q3:(F.map bm).take F.length=F.map bm:=cj (by simp);refine .aY 60 ?_;simp[q3];unfold dd at hb⊢;unfold eY;simp only[hl]at hb⊢
  cases h9:(jS ins F.length x F).2 with
  |none=>
   simp only[h9,u_]at hb⊢;refine .lS 60 hb ?_;simp
  |some p=>
   obtain⟨c,l2⟩:=p;have hc:=e2.2 _ h9;have hp:=lC e2.1.ok;simp only at hc;simp only[h9,dC]at hb⊢;refine .aX 60 hb ?_
   have h7:∀o,(h.set i o).length=h.length:=by simp
   have h8:∀(o:Ob)(os:List Ob)(k:Nat),(h.set i o++os)[h.length+k]? =os[k]? :=fun o os k=>by rw[<-h7 o,ah9]
   have h6:∀(o:Ob)(os:List Ob),(h.set i o++os)[h.length]? =os[0]? :=fun o os=>h8 o os 0
   cases q1:g.off with
   |true=>simp(disch:=omega) [h8,h6,q1]
   |false=>simp(disch:=omega) [h8,h6,q1]
theorem Rq{n:Nat}{τ:List Nat}{k:Nat}{E:TypeId}{es:List AV}(ho:eG n τ es=true):∀{h:List Ob}(j:Nat),gO n τ h=true->gO n τ (h.set j (.row k E es none false false))=true
 |[],_,h1=>h1
 |o'::h,0,h1=>by
  have h2:gO n τ h=true:=by cases o'<;>simp only[gO,aB]at h1<;>exact h1.2
  simp[gO,mw,ho,h2]
 |o'::h,j+1,h1=>by
  cases o'<;>simp only[gO,aB,rQ]at h1⊢<;>exact⟨h1.1,Rq ho j h1.2⟩
theorem Q2{n:Nat}{τ:List Nat}(o:Ob):∀{h:List Ob}(j:Nat),cz n h=true->jZ n τ (h.set j o)=h.set j (lW n τ o)
 |[],_,_=>rfl
 |o'::h,0,h1=>by
  simp only[cz,aB]at h1;simp only[xv,jZ,nQ h1.2]
 |o'::h,j+1,h1=>by
  simp only[cz,aB]at h1;simp only[rQ,jZ,RV h1.1,Q2 o j h1.2]
theorem acg{n N m:Nat}(h:m<N)(v:AV):(dZ n N m).set m v=(List.range m).map (fun i=>AV.mp (n+(3+(N+i))))++(v::List.replicate (N-(m+1)) .dk):=by
 rw[dZ,xR _ _ (by simp),show N-m=(N-(m+1))+1 by omega,mE];simp
theorem adI{n N m:Nat}(h:m<N):(List.range m).map (fun i=>AV.mp (n+(3+(N+i))))++(.mp (n+(3+(N+m)))::List.replicate (N-(m+1)) .dk)=dZ n N (m+1):=by
 rw[dZ,Fx];simp
theorem aiH{n N m q:Nat}(h:n+(3+(N+m))<=q):aN q ((List.range m).map (fun i=>AV.mp (n+(3+(N+i)))))=true:=by
 have:=Hn h;rw[dZ,GK,aB]at this;exact this.1
theorem P_(q:Nat):∀k,aN q (List.replicate k AV.dk)=true
 |0=>rfl
 |k+1=>by simp[mE,P_ q k]
theorem ake{H:List Ob}{nd b:List (List Nat)}(h:nd.length<b.length):(hQ H nd b).set (H.length+1) (.row 1 oF (dZ H.length b.length (nd.length+1)) none false false)++[.map [] true]=hQ H (nd++[[]]) b:=by
 have e:H.length+1=H.length+1:=rfl;rw[hQ,DB,hQ,cR];have f6:decide ((nd++[[]]).length=0)=false:=xS (by simp);simp[hF,jq]
theorem abC(c:AV):fN [c] .dk=c:=rfl
def gD(pl:List (Bs×Nat)):List Gt->Nat->List (List Nat)->List (List Nat)->List (List Nat)×List (List Nat)
 |[],_,nd,b=>(nd,b)
 |g::r,i,nd,b=>gD pl r (i+1) (nd++[fV pl g.ins []]) (kz pl i g.ins [] b)
theorem An(pl:List (Bs×Nat))(i:Nat):∀(l:List Bs)(a:List Nat)(b:List (List Nat)),(kz pl i l a b).length=b.length
 |[],_,_=>rfl
 |s::r,a,b=>by
  rw[kz]
  split
  ·exact An pl i r a b
  ·rw[An];split<;>simp
theorem IW(pl:List (Bs×Nat))(i M:Nat):∀(l:List Bs)(a:List Nat)(b:List (List Nat)),(∀x∈b,x.length<=M)->∀x∈kz pl i l a b,x.length<=M+l.length
 |[],_,_,h=>fun x hx=>by have:=h x hx;simpa using this
 |s::r,a,b,h=>fun x hx=>by
  rw[kz]at hx
  have hM:∀x∈b,x.length<=M+1:=fun x hx=>by have:=h x hx;omega
  have key:∀(b':List (List Nat))(a':List Nat),(∀x∈b',x.length<=M+1)->x∈kz pl i r a' b'->x.length<=M+(s::r).length:=fun b' a' h1 h2=>by
   have:=IW pl i (M+1) r a' b' h1 x h2
   simp only[bL];omega
  split at hx
  ·exact key _ _ hM hx
  ·rename_i k _
   split at hx
   ·exact key _ _ hM hx
   ·refine key _ _ (fun y hy=>?_) hx
    rcases qu hy with h1|h1
    ·exact hM y h1
    ·rw[h1,bC,ve]
     by_cases hk:k<b.length
     ·rw[bz,aW hk];have:=h _ (bA hk)
      simp only[kH];omega
     ·rw[bz,gy (by omega)];simp
theorem ahh{H:List Ob}{nd b:List (List Nat)}{p:Nat}(h:p<H.length)(o:Ob):(hQ H nd b).set p o=hQ (H.set p o) nd b:=by
 rw[hQ,lZ _ _ h,hQ,kD]
theorem aiA(c:Ct)(hc:cH c){H:List Ob}(hw:bN H)(hv:eT H){m0:Nat}(hm:H[m0]? =some (.map ((cB c).map ju) true))(up:List Fr)(base:Nat)(h2:base<=H.length)(p2:Nat)(e1:p2<H.length)(C:AM.ar)(i:Nat)(hi:i<c.af.length)(nd b:List (List Nat))(ih:nd.length=i)(hb:b.length=c.af.length)(hd:∀l∈b,l.length<=2^20+i*2^10)
 (hC:AM.Reach ak Γ (KY (.ptr p2 0) (.mp m0) (.ptr H.length 0) (.list false c.kG (c.af.map df)) (.int .i64 c.af.length) (.int .i64 (i+1:Nat)) (hQ H (nd++[fV (cB c) c.af[i].ins []]) (kz (cB c) i c.af[i].ins [] b)) ⟨[],.norm,base,up⟩) C):
 AM.Reach ak Γ (KY (.ptr p2 0) (.mp m0) (.ptr H.length 0) (.list false c.kG (c.af.map df)) (.int .i64 c.af.length) (.int .i64 i) (hQ H nd b) ⟨[],.norm,base,up⟩) C:=by
 have q2:=bG (c.hG.of hi);have xw:=JM (H:=H) (nd:=nd) (b:=b);have xn:=J5 (H:=H) (nd:=nd) (b:=b);have yl:=CI (n:=H.length) (N:=b.length) (m:=nd.length) (by omega);have hlen:=mS (H:=H) (nd:=nd) (b:=b);have e2:=bd hm;have hx:=ake (H:=H) (nd:=nd) (b:=b) (by omega);have hf:=acg (n:=H.length) (N:=b.length) (m:=nd.length) (by omega) (.mp ((hQ H nd b).length+3));have hk:=adI (n:=H.length) (N:=b.length) (m:=nd.length) (by omega);have hy:=alD (nd:=nd) (b:=b) hw (hQ H nd b).length (aT _);have hj:=aiH (n:=H.length) (N:=b.length) (m:=nd.length) (q:=(hQ H nd b).length) (by omega);have q1:=P_ (hQ H nd b).length (b.length-(nd.length+1))
 have yc:∀h,(dZ H.length b.length nd.length)[nd.length]'h=.dk:=fun h=>by
  have e:(dZ H.length b.length nd.length)[nd.length]? =some .dk:=by
   rw[dZ,dB (by simp),fy,qw,Fs,show b.length-nd.length=(b.length-(nd.length+1))+1 by omega,mE];rfl
  exact(cV.1 e).2
 have hp:=ai7 (Γ:=Γ) c hc hw hv hm nd i hi ih up base h2 p2 c.af[i].ins.length 0 (by omega) [] b hb (fun l hl=>by have:=hd l hl;omega);subst ih;rw[hb]at xw xn yl hlen hx hf hk hj q1 yc
 have w1:∀os,(hQ H nd b++os)[H.length]? =some (.cells [.sl (H.length+1) 0 c.af.length,.sl (H.length+2) 0 c.af.length]):=fun os=>ez xw os
 have w2:∀os,(hQ H nd b++os)[H.length+1]? =some (.row 1 oF (dZ H.length c.af.length nd.length) none (decide (nd.length=0)) false):=fun os=>ez xn os
 have w3:∀os o,(hQ H nd b++os).set (H.length+1) o=(hQ H nd b).set (H.length+1) o++os:=fun os o=>lZ _ _ (by rw[hlen];omega)
 have w4:∀o os,((hQ H nd b).set (H.length+1) o++os)[(hQ H nd b).length]? =os[0]? :=fun o os=>by rw[dB (by simp)];simp
 have hX:(hQ H nd b).length=H.length+(3+(c.af.length+nd.length)):=hlen;generalize hQ H nd b=X at*;clear hlen
 have hg:base<=X.length:=by omega
 have h5:H.length<X.length:=by omega
 have h6:H.length+1<X.length:=by omega
 have hq:p2<X.length:=by omega
 have ht:m0<X.length:=by omega
 refine .aY 60 ?_;simp(disch:=omega) [hi,q2,w1,w2,w3,w4,yl,yc,abC];rw[hf]
 have ps:(AV.mp (H.length+(3+(c.af.length+nd.length))))=.mp X.length:=by rw[hX]
 rw[ps]at hk;refine .trans (.na [6,27,28,29,30,31,32,33,34,35] _) ?_;simp[nn]
 refine .nq X.length [3] (by
  simp[hg,h5,hq,ht]
  exact Rq (by simp[nO hj,nO q1]) _ (nP hy)) (by decide) ?_
 have h4:(X.length+3<X.length)=False:=jC (by omega);simp[h5,hq,ht,Q2 _ _ hy,ma hj,ma q1,h4];rw[hk,hx];refine .inLoop ?_;simp at hp⊢;refine .trans hp ?_;refine .aY 60 ?_
 have hB:nd.length<2^10:=by have:=hc.2.2.2.1;omega
 simp(disch:=omega);refine .aI ?_;simp at hC⊢;exact hC
theorem ai2(c:Ct)(hc:cH c){H:List Ob}(hw:bN H)(hv:eT H){m0:Nat}(hm:H[m0]? =some (.map ((cB c).map ju) true))(up:List Fr)(base:Nat)(h2:base<=H.length)(p2:Nat)(hx:p2<H.length){r0 r1:AV}(hr:H[p2]? =some (.cells [r0,r1])):∀n i:Nat,i+n=c.af.length->∀nd b:List (List Nat),nd.length=i->b.length=c.af.length->(∀l∈b,l.length<=2^20+i*2^10)->
 AM.Reach ak Γ (KY (.ptr p2 0) (.mp m0) (.ptr H.length 0) (.list false c.kG (c.af.map df)) (.int .i64 c.af.length) (.int .i64 i) (hQ H nd b) ⟨[],.norm,base,up⟩)
  (.back up (.agg [.sl (H.length+1) 0 c.af.length,.sl (H.length+2) 0 c.af.length]) (hQ (H.set p2 (.cells [.sl (H.length+1) 0 c.af.length,.sl (H.length+2) 0 c.af.length])) (gD (cB c) (c.af.drop i) i nd b).1 (gD (cB c) (c.af.drop i) i nd b).2)):=by
 intro n
 induction n with
 |zero=>
  intro i hi nd b hk hb hj
  have q1:¬i<c.af.length:=by omega
  rw[bx (by omega),gD];have xw:=JM (H:=H) (nd:=nd) (b:=b)
  have xp:(hQ H nd b)[p2]? =some (.cells [r0,r1]):=by rw[JH hx];exact hr
  have xs:=fun o=>ahh (nd:=nd) (b:=b) hx o
  have h4:∀o,((hQ H nd b).set p2 o)[p2]? =some o:=fun o=>by rw[ff (by rw[mS];omega)]
  rw[hb]at xw;refine .aY 60 ?_;simp[q1,xw,xp,h4];rw[xs];exact .refl _
 |succ n ih=>
  intro i hi nd b hk hb hj
  have q1:i<c.af.length:=by omega
  have hf:c.af[i].ins.length<2^10:=(hc.2.2.2.2.1 _ (bA q1)).2.1;rw[bJ q1,gD];refine aiA c hc hw hv hm up base h2 p2 hx _ i q1 nd b hk hb hj ?_
  exact ih (i+1) (by omega) _ _ (by simp[hk]) (by rw[An];exact hb) (fun l hl=>by
   have:=IW (cB c) i (2^20+i*2^10) c.af[i].ins [] b hj l hl
   rw[Fz];omega)
def eL(c:Ct):List (List Nat):=(gD (cB c) c.af 0 [] (List.replicate c.af.length [])).1
def bQ(c:Ct):List (List Nat):=(gD (cB c) c.af 0 [] (List.replicate c.af.length [])).2
def jr(c:Ct)(n:Nat)(x y:AV):List Ob:=[.cells (AV.cells (bU c)),.cells [x,y],.row 1 oF [] none true false,.row 1 j9 [] none true false,.cells (AV.cells (bU c)),.map ((cB c).map ju) true]
def je(c:Ct)(h:List Ob):List Ob:=h++jr c h.length (.sl (h.length+7) 0 c.af.length) (.sl (h.length+8) 0 c.af.length)
theorem lA(c:Ct)(h:List Ob):(je c h).length=h.length+6:=by simp[je,jr]
theorem qY(i m:Nat):∀l:List (Bs×Nat),o_ i m (l.map ju)=true
 |[]=>rfl
 |x::l=>by simp[qY i m l]
theorem akq(c:Ct)(hc:cH c)(hd:(c.af.map (·.name)).Nodup){h:List Ob}(hw:bN h)(hv:eT h):∀up,AM.Reach ak Γ (.cl pB [bU c] up h)
 (.back up (.agg [.sl ((je c h).length+1) 0 c.af.length,.sl ((je c h).length+2) 0 c.af.length]) (hQ (je c h) (eL c) (bQ c))):=by
 intro up;have hN:=hc.2.2.2.1;generalize hH:h++jr c h.length (.sl (h.length+2) 0 0) (.sl (h.length+3) 0 0)=H
 have hj:H.length=h.length+6:=by rw[<-hH];simp[jr]
 have hp:H[h.length]? =some (.cells (AV.cells (bU c))):=by rw[<-hH];simp[jr]
 have h4:H[h.length+1]? =some (.cells [.sl (h.length+2) 0 0,.sl (h.length+3) 0 0]):=by rw[<-hH];simp[jr]
 have hm:H[h.length+5]? =some (.map ((cB c).map ju) true):=by rw[<-hH];simp[jr]
 have hl:bN H:=fun m hm=>by
  have h1:=hw m (by omega);have h2:=pL m (cB c);rw[<-hH,qE,h1]
  simp[jr,h2];omega
 have ih:eT H:=fun i m hi=>by
  have h1:=hv i m (by omega);have h2:=qY i m (cB c);rw[<-hH,j6,h1]
  simp[jr,h2];omega
 have hx:H.set (h.length+1) (.cells [.sl (H.length+1) 0 c.af.length,.sl (H.length+2) 0 c.af.length])=je c h:=by
  rw[<-hH,DB,je];simp[jr]
 have hL:=ai2 (Γ:=Γ) c hc hl ih hm up h.length (by omega) (h.length+1) (by omega) h4 c.af.length 0 (by omega) [] (List.replicate c.af.length []) rfl (by simp) (by simp)
 have q1:=fun f=>akt (Γ:=Γ) H c.af.length f up c.af.length 0 (by omega)
 rw[afL,adL]at q1;rw[hx,fM,hj]at hL;refine .bp 60 abH.1 ?_;simp;refine .trans (PR c hc hd ?_ _) ?_
 ·intro m hm;simp at hm;have h1:=hw m (by omega)
  simp[h1];omega
 have e2:h.length+1+1=h.length+2:=rfl;have e3:h.length+1+1+1=h.length+3:=rfl;have e5:h.length+4+1=h.length+5:=rfl;refine .trans (.pop _) (.aY 60 ?_);simp[e2,e3,e5];refine .trans (.na [0,11,12] _) ?_;simp[nn]
 have hR:=fun k hk C hC=>aiM (Γ:=Γ) (c:=c) (p:=h.length) (x2:=.ptr (h.length+1) 0) (x3:=.mp (h.length+5)) (H:=H) (up:=up) (base:=h.length) (k:=k) (C:=C) hc hp (hl _ (aT _)) (by omega) (by simp;omega) (by simp;omega) hk hC
 rw[<-hH]at hR;simp[jr]at hR;refine hR _ ?_ _ ?_
 ·simp
 have hb:∀f,AM.Reach ak Γ (.fr f up (h++(jr c h.length (.sl (h.length+2) 0 0) (.sl (h.length+3) 0 0)++hW c (h.length+6)))) (.fr f up (hQ H [] (List.replicate c.af.length []))):=fun f=>by
  rw[<-cR,hH,<-hj];exact q1 f
 simp[jr]at hb;refine .trans (hb _) ?_;refine .aY 60 ?_;have hq:=JH (H:=H) (nd:=[]) (b:=List.replicate c.af.length []) (bd hp);rw[hp]at hq;simp[hq];refine .inLoop ?_;simp at hL⊢;rw[lA];simp[eL,bQ];exact hL
def hP(A:List Ob)(l s:List Nat)(g:Option Nat):List Ob:=A++[.row 1 au ((l++s).map iN) g true false,.cells [.sl A.length 0 l.length]]
def swp(l:List Nat)(i j:Nat):List Nat:=(l.set i (l.getD j 0)).set j (l.getD i 0)
section
variable{A:List Ob}{l s:List Nat}{g:Option Nat}
theorem Ay:(hP A l s g).length=A.length+2:=by simp[hP]
theorem wY:(hP A l s g)[A.length]? =some (.row 1 au ((l++s).map iN) g true false):=by simp[hP]
theorem p9:(hP A l s g)[A.length+1]? =some (.cells [.sl A.length 0 l.length]):=by
 rw[hP,dB (by omega)];simp
theorem rz{i:Nat}(h:i<A.length):(hP A l s g)[i]? =A[i]? :=by rw[hP,cF h]
theorem ajE{l' s':List Nat}(h:l'.length=l.length):(hP A l s g).set A.length (.row 1 au ((l'++s').map iN) g true false)=hP A l' s' g:=by
 have:=DB A [.row 1 au ((l++s).map iN) g true false,.cells [.sl A.length 0 l.length]] 0 (.row 1 au ((l'++s').map iN) g true false);rw[iz]at this
 rw[hP,this,hP,h];rfl
theorem ep(i j:Nat):(swp l i j).length=l.length:=by simp[swp]
theorem DQ{L:List Nat}{i:Nat}(h:i<L.length):(L.map iN)[i]? =some (.int .i64 (L.getD i 0:Nat)):=by simp[h]
end
theorem DT(A:List Ob)(l s:List Nat)(g:Option Nat)(hg:g=none\/g=some 0/\s=[]):∀up,AM.Reach ak Γ (.cl y5 [.sl A.length 0 l.length] up (hP A l s g)) (.back up (.int .i64 l.length) (hP A l s g)):=by
 intro up;have xr:=wY (A:=A) (l:=l) (s:=s) (g:=g)
 have h2:s=[]->((l++s).map iN).length=l.length:=fun h=>by rw[h];simp
 generalize hP A l s g=X at*;generalize hL:(l++s).map iN=L at*
 have hl:l.length<=L.length:=by rw[<-hL];simp
 rcases hg with rfl|⟨rfl,rfl⟩
 ·refine .bp 60 ME.1 ?_;simp[xr]
 ·have hv:=h2 rfl;refine .bp 60 ME.1 ?_;simp[xr,hv]
theorem Au(A:List Ob)(l s:List Nat)(g:Option Nat)(hg:g=none\/g=some 0/\s=[]){i j:Nat}(hi:i<l.length)(hj:j<l.length):∀up,AM.Reach ak Γ (.cl BR [.sl A.length 0 l.length,.int .i64 i,.int .i64 j] up (hP A l s g)) (.back up (.bool (decide (l.getD i 0<l.getD j 0))) (hP A l s g)):=by
 intro up;have xr:=wY (A:=A) (l:=l) (s:=s) (g:=g)
 have e:∀k,k<l.length->(l++s).getD k 0=l.getD k 0:=fun k hk=>by simp[cF hk]
 have gi:=DQ (L:=l++s) (i:=i) (by simp;omega);have gj:=DQ (L:=l++s) (i:=j) (by simp;omega);rw[e i hi]at gi;rw[e j hj]at gj;generalize hP A l s g=X at*;generalize hL:(l++s).map iN=L at*
 have hl:l.length<=L.length:=by rw[<-hL];simp
 obtain⟨_,h2⟩:=cV.1 gi;obtain⟨_,hv⟩:=cV.1 gj;generalize l.getD i 0=vi at*;generalize l.getD j 0=vj at*
 have hb:s=[]->L.length=l.length:=fun h=>by rw[<-hL,h];simp
 rcases hg with rfl|⟨rfl,rfl⟩
 ·refine .bp 60 Mz.1 ?_;simp(disch:=omega) [xr,gi,gj,h2,hv,hi,hj,hl,fN]
 ·have hc:=hb rfl;refine .bp 60 Mz.1 ?_;simp(disch:=omega) [xr,gi,gj,h2,hv,hi,hj,hc,fN]
theorem TC{A:List Ob}{l s:List Nat}{i:Nat}{v:Nat}(hi:i<l.length):((l++s).map iN).set i (.int .i64 v)=(l.set i v++s).map iN:=by
 rw[jA,lZ _ _ (by simpa using hi),jA,rX]
theorem Ax(A:List Ob)(l s:List Nat)(g:Option Nat)(hg:g=none\/g=some 0/\s=[]){i j:Nat}(hi:i<l.length)(hj:j<l.length):∀up,AM.Reach ak Γ (.cl BS [.sl A.length 0 l.length,.int .i64 i,.int .i64 j] up (hP A l s g)) (.back up (.aH []) (hP A (swp l i j) s g)):=by
 intro up;have xr:=wY (A:=A) (l:=l) (s:=s) (g:=g);have xl:=Ay (A:=A) (l:=l) (s:=s) (g:=g)
 have e:∀k,k<l.length->(l++s).getD k 0=l.getD k 0:=fun k hk=>by simp[cF hk]
 have gi:=DQ (L:=l++s) (i:=i) (by simp;omega);have gj:=DQ (L:=l++s) (i:=j) (by simp;omega);rw[e i hi]at gi;rw[e j hj]at gj
 have fin:(hP A l s g).set A.length (.row 1 au ((((l++s).map iN).set i (.int .i64 (l.getD j 0))).set j (.int .i64 (l.getD i 0))) g true false)=hP A (swp l i j) s g:=by
  rw[TC (A:=A) hi,TC (A:=A) (by simpa using hj)];exact ajE (by simp)
 have hr:A.length<(hP A l s g).length:=by omega
 clear xl;generalize hP A l s g=X at*;generalize hL:(l++s).map iN=L at*
 have hl:l.length<=L.length:=by rw[<-hL];simp
 have h2:i<L.length:=by omega
 have hv:j<L.length:=by omega
 generalize l.getD i 0=vi at*;generalize l.getD j 0=vj at*;obtain⟨_,hb⟩:=cV.1 gi;obtain⟨_,hc⟩:=cV.1 gj;obtain⟨_,hx⟩:=cV.1 xr
 have gs:(L.set i (.int .i64 vj))[j]? =some (.int .i64 vj):=by
  by_cases q1:i=j
  ·subst q1;rw[ff h2]
  ·rw[dW q1];exact gj
 have h4:s=[]->L.length=l.length:=fun h=>by rw[<-hL,h];simp
 rcases hg with rfl|⟨rfl,rfl⟩
 ·refine .bp 60 MA.1 ?_;simp(disch:=omega) [xr,hx,gs,gi,gj,hb,hc,hi,hj,hl,h2,hv,fN];rw[fin];exact .refl _
 ·have ih:=h4 rfl;refine .bp 60 MA.1 ?_;simp(disch:=omega) [xr,hx,gs,gi,gj,hb,hc,hi,hj,ih,h2,hv,fN];rw[fin];exact .refl _
def oh(l:List Nat)(j:Nat):List Nat:=
 if j=0 then l else if l.getD j 0<l.getD ((j-1)/2) 0 then oh (swp l ((j-1)/2) j) ((j-1)/2)else l
termination_by j
decreasing_by omega
theorem ajc(j:Nat):∀l:List Nat,(oh l j).length=l.length:=by
 induction j using Nat.strongRecOn with
 |_ j ih=>
  intro l;rw[oh]
  split
  ·rfl
  ·rename_i h0
   split
   ·rw[ih _ (by omega),ep]
   ·rfl
theorem TN(j:Nat)(h:j≠0):((j:Int)-1).tdiv 2=(((j-1)/2:Nat):Int):=by
 have e:(j:Int)-1=((j-1:Nat):Int):=by omega
 rw[e,Int.tdiv_eq_ediv_of_nonneg (by omega)];rfl
theorem amc(A:List Ob)(s:List Nat)(g:Option Nat)(hg:g=none\/g=some 0/\s=[])(up:List Fr)(base:Nat):∀(j:Nat)(l:List Nat),j<l.length->l.length<2^40->
 AM.Reach ak Γ (ywV (.bW l5 (.ptr (A.length+1) 0)) (.int .i64 j) (hP A l s g) ⟨[],.norm,base,up⟩) (.back up (.aH []) (hP A (oh l j) s g)):=by
 intro j
 induction j using Nat.strongRecOn with
 |_ j ih=>
  intro l hj hl;have xc:=p9 (A:=A) (l:=l) (s:=s) (g:=g);rw[oh]
  by_cases h0:j=0
  ·rw[if_pos h0];subst h0;generalize hP A l s g=X at*;refine .aY 60 ?_;simp[xc]
  ·rw[if_neg h0];have hq:=TN j h0
   have hv:(j-1)/2<j:=by omega
   have h2:((((j-1)/2:Nat):Int)=(j:Int))=False:=jC (by omega);have hL:=Au (Γ:=Γ) A l s g hg hj (show(j-1)/2<l.length by omega);have hS:=Ax (Γ:=Γ) A l s g hg (show(j-1)/2<l.length by omega) hj
   by_cases hc:l.getD j 0<l.getD ((j-1)/2) 0
   ·rw[if_pos hc];have hh:=ih _ hv (swp l ((j-1)/2) j) (by rw[ep];omega) (by rw[ep];exact hl);rw[tH hc]at hL;generalize hP A l s g=X at*;generalize(j-1)/2=i at*;refine .aY 60 ?_;simp(disch:=omega) [xc,hq,h2];refine .aX 60 hL ?_;simp[xc];refine .aX 60 hS ?_;simp;refine .aI ?_;simp at hh⊢;exact hh
   ·rw[if_neg hc];rw[xS hc]at hL;generalize hP A l s g=X at*;generalize(j-1)/2=i at*;refine .aY 60 ?_;simp(disch:=omega) [xc,hq,h2];refine .aX 60 hL ?_;simp[xc]
theorem alb(A:List Ob)(s:List Nat)(g:Option Nat)(hg:g=none\/g=some 0/\s=[])(j:Nat)(l:List Nat)(hj:j<l.length)(hl:l.length<2^40):∀up,
 AM.Reach ak Γ (.cl BQ [.bW l5 (.ptr (A.length+1) 0),.int .i64 j] up (hP A l s g)) (.back up (.aH []) (hP A (oh l j) s g)):=by
 intro up;have h:=amc (Γ:=Γ) A s g hg up (hP A l s g).length j l hj hl;generalize hP A l s g=X at*;refine .bp 60 Zw.1 ?_;simp;refine .inLoop ?_;simp at h⊢;exact h
def iq(l:List Nat)(j n:Nat):Nat:=if j+1<n/\l.getD (j+1) 0<l.getD j 0 then j+1 else j
def iF(n:Nat)(l:List Nat)(i:Nat):List Nat×Nat:=
 if n<=2*i+1 then(l,i)else if l.getD (iq l (2*i+1) n) 0<l.getD i 0 then iF n (swp l i (iq l (2*i+1) n)) (iq l (2*i+1) n)else(l,i)
termination_by n-i
decreasing_by
 have:2*i+1<=iq l (2*i+1) n:=by unfold iq;split<;>omega
 omega
theorem At(l:List Nat)(j n:Nat):j<=iq l j n:=by unfold iq;split<;>omega
theorem DP(l:List Nat){j n:Nat}(h:j<n):iq l j n<n:=by unfold iq;split<;>omega
theorem aeH(n:Nat):∀(m i:Nat)(l:List Nat),n-i<=m->(iF n l i).1.length=l.length:=by
 intro m
 induction m with
 |zero=>
  intro i l h;rw[iF,if_pos (by omega)]
 |succ m ih=>
  intro i l h;rw[iF]
  split
  ·rfl
  ·split
   ·have:=At l (2*i+1) n;rw[ih _ _ (by omega),ep]
   ·rfl
theorem ajW(A:List Ob)(s:List Nat)(g:Option Nat)(hg:g=none\/g=some 0/\s=[])(up:List Fr)(base:Nat)(n i0:Nat)(hn:n<2^40):∀(m i:Nat)(l:List Nat),n-i<=m->i<2^41->n<=l.length->(i<l.length)->
 AM.Reach ak Γ (yxn (.bW l5 (.ptr (A.length+1) 0)) (.int .i64 i0) (.int .i64 n) (.int .i64 i) (hP A l s g) ⟨[],.norm,base,up⟩) (.back up (.bool (decide (i0<(iF n l i).2))) (hP A (iF n l i).1 s g)):=by
 intro m
 induction m with
 |zero=>
  intro i l hm hi hl hb;obtain⟨j1,hj⟩:∃j1,j1=2*i+1:=⟨_,rfl⟩
  have e1:2*(i:Int)+1=(j1:Int):=by omega
  rw[iF,if_pos (by omega)]
  have q1:¬j1<n:=by omega
  have q2:n<=j1:=by omega
  generalize hP A l s g=X at*;refine .aY 60 ?_;simp(disch:=omega) [e1,q1,q2]
 |succ m ih=>
  intro i l hm hi hl hb;obtain⟨j1,hj⟩:∃j1,j1=2*i+1:=⟨_,rfl⟩
  have e1:2*(i:Int)+1=(j1:Int):=by omega
  obtain⟨j2,hx⟩:∃j2,j2=j1+1:=⟨_,rfl⟩
  have e2:(j1:Int)+1=(j2:Int):=by omega
  rw[iF]
  by_cases h1:n<=2*i+1
  ·rw[if_pos h1]
   have q1:¬j1<n:=by omega
   have q2:n<=j1:=by omega
   generalize hP A l s g=X at*;refine .aY 60 ?_;simp(disch:=omega) [e1,q1,q2]
  ·rw[if_neg h1]
   have q1:j1<n:=by omega
   have q2:¬n<=j1:=by omega
   have q3:(n:Int)<=(j1:Int)↔False:=⟨fun h=>by omega,False.elim⟩;have h4:=At l j1 n;have hf:=DP l q1;rw[<-hj];have xc:=p9 (A:=A) (l:=l) (s:=s) (g:=g)
   by_cases h2:j2<n
   ·have hL:=Au (Γ:=Γ) A l s g hg (show j2<l.length by omega) (show j1<l.length by omega)
    by_cases h3:l.getD (j2) 0<l.getD j1 0
    ·rw[tH h3]at hL
     have hk:iq l j1 n=j2:=by unfold iq;rw[<-hx,if_pos ⟨h2,h3⟩]
     rw[hk];have hv:=Au (Γ:=Γ) A l s g hg (show j2<l.length by omega) hb
     by_cases hc:l.getD (j2) 0<l.getD i 0
     ·rw[if_pos hc];have hS:=Ax (Γ:=Γ) A l s g hg hb (show j2<l.length by omega);have hh:=ih (j2) (swp l i (j2)) (by omega) (by omega) (by rw[ep];omega) (by rw[ep];omega);rw[tH hc]at hv;generalize hP A l s g=X at*;refine .aY 60 ?_;simp(disch:=omega) [xc,e1,e2,q1,q2,h2];refine .aX 60 hL ?_;simp[xc];refine .aX 60 hv ?_;simp[xc];refine .aX 60 hS ?_;simp;refine .aI ?_;simp at hh⊢;exact hh
     ·rw[if_neg hc];rw[xS hc]at hv;generalize hP A l s g=X at*;refine .aY 60 ?_;simp(disch:=omega) [xc,e1,e2,q1,q2,h2];refine .aX 60 hL ?_;simp[xc];refine .aX 60 hv ?_;simp[xc]
    ·rw[xS h3]at hL
     have hk:iq l j1 n=j1:=by unfold iq;rw[<-hx,if_neg (fun h=>h3 h.2)]
     rw[hk];have hv:=Au (Γ:=Γ) A l s g hg (show j1<l.length by omega) hb
     by_cases hc:l.getD (j1) 0<l.getD i 0
     ·rw[if_pos hc];have hS:=Ax (Γ:=Γ) A l s g hg hb (show j1<l.length by omega);have hh:=ih (j1) (swp l i (j1)) (by omega) (by omega) (by rw[ep];omega) (by rw[ep];omega);rw[tH hc]at hv;generalize hP A l s g=X at*;refine .aY 60 ?_;simp(disch:=omega) [xc,e1,e2,q1,q2,h2];refine .aX 60 hL ?_;simp[xc];refine .aX 60 hv ?_;simp[xc];refine .aX 60 hS ?_;simp;refine .aI ?_;simp at hh⊢;exact hh
     ·rw[if_neg hc];rw[xS hc]at hv;generalize hP A l s g=X at*;refine .aY 60 ?_;simp(disch:=omega) [xc,e1,e2,q1,q2,h2];refine .aX 60 hL ?_;simp[xc];refine .aX 60 hv ?_;simp[xc]
   ·have hk:iq l j1 n=j1:=by unfold iq;rw[<-hx,if_neg (fun h=>h2 h.1)]
    rw[hk];have hv:=Au (Γ:=Γ) A l s g hg (show j1<l.length by omega) hb
    by_cases hc:l.getD (j1) 0<l.getD i 0
    ·rw[if_pos hc];have hS:=Ax (Γ:=Γ) A l s g hg hb (show j1<l.length by omega);have hh:=ih (j1) (swp l i (j1)) (by omega) (by omega) (by rw[ep];omega) (by rw[ep];omega);rw[tH hc]at hv;generalize hP A l s g=X at*;refine .aY 60 ?_;simp(disch:=omega) [xc,e1,e2,q1,q2,h2];refine .aX 60 hv ?_;simp[xc];refine .aX 60 hS ?_;simp;refine .aI ?_;simp at hh⊢;exact hh
    ·rw[if_neg hc];rw[xS hc]at hv;generalize hP A l s g=X at*;refine .aY 60 ?_;simp(disch:=omega) [xc,e1,e2,q1,q2,h2];refine .aX 60 hv ?_;simp[xc]
theorem aix(A:List Ob)(s:List Nat)(g:Option Nat)(hg:g=none\/g=some 0/\s=[])(n i:Nat)(hn:n<2^40)(l:List Nat)(h2:n<=l.length)(hi:i<l.length)(hv:i<2^40):∀up,
 AM.Reach ak Γ (.cl BL [.bW l5 (.ptr (A.length+1) 0),.int .i64 i,.int .i64 n] up (hP A l s g)) (.back up (.bool (decide (i<(iF n l i).2))) (hP A (iF n l i).1 s g)):=by
 intro up;have h:=ajW (Γ:=Γ) A s g hg up (hP A l s g).length n i hn (n-i) i l (aT _) (by omega) h2 hi;generalize hP A l s g=X at*;refine .bp 60 Y9.1 ?_;simp;refine .inLoop ?_;simp at h⊢;exact h
def gP(s:List Nat):Option Nat:=if s=[]then some 0 else none
theorem Tm(s:List Nat):gP s=none\/gP s=some 0/\s.tail=[]:=by
 unfold gP
 split
 ·rename_i h;exact .inr ⟨rfl,by rw[h];rfl⟩
 ·exact .inl rfl
theorem ah8(A:List Ob)(l s:List Nat)(x:Nat)(hx:x<2^40)(hl:l.length<2^40):∀up,AM.Reach ak Γ (.cl FZ [.ptr (A.length+1) 0,.bW au (.int .i64 x)] up (hP A l s none)) (.back up (.aH []) (hP A (l++[x]) s.tail (gP s))):=by
 intro up;have xr:=wY (A:=A) (l:=l) (s:=s) (g:=none);have xc:=p9 (A:=A) (l:=l) (s:=s) (g:=none)
 have b8:(l.length+1)*8<=140737488355328:=by omega
 have hr:A.length<(hP A l s none).length:=by rw[Ay];omega
 have hk:A.length+1<(hP A l s none).length:=by rw[Ay];omega
 cases s with
 |nil=>
  have fin:((hP A l [] none).set A.length (.row 1 au (l.map iN++[.int .i64 x]) (some 0) true false)).set (A.length+1) (.cells [.sl A.length 0 (l.length+1)])=hP A (l++[x]) [] (some 0):=by
   simp[hP]
  rw[ey]at xr;rw[show gP []=some 0 from rfl];generalize hP A l [] none=X at*;obtain⟨_,h2⟩:=cV.1 xr;obtain⟨_,hv⟩:=cV.1 xc;refine .bp 60 MD.1 ?_;simp(disch:=omega) [xr,xc,h2,hv,b8,fN];refine .ei 60 ?_;simp(disch:=omega) [xr,xc,h2,hv,b8,fN];rw[fin];exact .refl _
 |cons a s=>
  have fin:((hP A l (a::s) none).set A.length (.row 1 au (l.map iN++(AV.int .i64 x)::s.map iN) none true false)).set (A.length+1) (.cells [.sl A.length 0 (l.length+1)])=hP A (l++[x]) s none:=by
   simp[hP]
  rw[show gP (a::s)=none from rfl]
  have hL:((l++a::s).map iN)=l.map iN++.int .i64 a::s.map iN:=by simp
  rw[hL]at xr
  have tk:(l.map iN++AV.int .i64 a::s.map iN).take l.length=l.map iN:=by rw[List.take_append_of_le_length (by simp)];simp
  have dr:(l.map iN++AV.int .i64 a::s.map iN).drop (l.length+1)=s.map iN:=by rw[vc,bx (by simp),show l.length+1-(l.map iN).length=1 by simp];rfl
  have ln:¬(l.length=(l.map iN++AV.int .i64 a::s.map iN).length):=by simp
  have hb:l.length+1<=(l.map iN++AV.int .i64 a::s.map iN).length:=by simp
  have hc:l.length<=(l.map iN++AV.int .i64 a::s.map iN).length:=by simp
  generalize hP A l (a::s) none=X at*;generalize(l.map iN++AV.int .i64 a::s.map iN)=L at*;obtain⟨_,h2⟩:=cV.1 xr;obtain⟨_,hv⟩:=cV.1 xc;refine .bp 60 MD.1 ?_;simp(disch:=omega) [xr,xc,h2,hv,b8,fN];refine .ei 60 ?_;simp(disch:=omega) [xr,xc,h2,hv,b8,fN,ln,hb,hc,tk,dr];rw[fin];exact .refl _
theorem akb(A:List Ob)(l s:List Nat)(x:Nat)(hl:l.length<2^40):∀up,AM.Reach ak Γ (.cl F7 [.ptr (A.length+1) 0] up (hP A (l++[x]) s none)) (.back up (.bW au (.int .i64 x)) (hP A l (x::s) none)):=by
 intro up;have xr:=wY (A:=A) (l:=l++[x]) (s:=s) (g:=none);have xc:=p9 (A:=A) (l:=l++[x]) (s:=s) (g:=none)
 have hc:A.length+1<(hP A (l++[x]) s none).length:=by rw[Ay];omega
 have fin:(hP A (l++[x]) s none).set (A.length+1) (.cells [.sl A.length 0 l.length])=hP A l (x::s) none:=by simp[hP]
 have e:(l++[x]).length=l.length+1:=by simp
 rw[e]at xc
 have gx:(((l++[x])++s).map iN)[l.length]? =some (.int .i64 x):=by simp
 generalize hP A (l++[x]) s none=X at*;generalize hL:(((l++[x])++s).map iN)=L at*
 have hx:l.length<L.length:=by rw[<-hL];simp
 obtain⟨_,h2⟩:=cV.1 gx;obtain⟨_,hv⟩:=cV.1 xr;obtain⟨_,hb⟩:=cV.1 xc;refine .bp 60 Z1.1 ?_;simp(disch:=omega) [xr,xc,hv,hb,gx,h2,fN];rw[fin];exact .refl _
def gH(l:List Nat)(x:Nat):List Nat:=oh (l++[x]) l.length
theorem R'(A:List Ob)(l s:List Nat)(x:Nat)(hx:x<2^40)(hl:l.length<2^39):∀up,AM.Reach ak Γ (.cl BK [.bW l5 (.ptr (A.length+1) 0),.bW au (.int .i64 x)] up (hP A l s none)) (.back up (.aH []) (hP A (gH l x) s.tail (gP s))):=by
 intro up;have h1:=ah8 (Γ:=Γ) A l s x hx (by omega);have h2:=DT (Γ:=Γ) A (l++[x]) s.tail (gP s) (Tm s);have h3:=alb (Γ:=Γ) A s.tail (gP s) (Tm s) l.length (l++[x]) (by simp) (by simp;omega);have hv:=p9 (A:=A) (l:=l++[x]) (s:=s.tail) (g:=gP s)
 have e:(l++[x]).length=l.length+1:=by simp
 rw[e]at hv h2;rw[gH];refine .bp 60 Y'.1 ?_;simp;refine .aX 60 h1 ?_;generalize hP A (l++[x]) s.tail (gP s)=X at*;simp[hv];refine .aX 60 h2 ?_;simp(disch:=omega);refine .aX 60 h3 ?_;simp
def dQ(l:List Nat):List Nat:=(iF (l.length-1) (swp l 0 (l.length-1)) 0).1
theorem C3(l:List Nat):(dQ l).length=l.length:=by rw[dQ,aeH _ _ _ _ (aT _),ep]
theorem aly(A:List Ob)(l s:List Nat)(h0:0<l.length)(hl:l.length<2^39):∀up,AM.Reach ak Γ (.cl FO [.bW l5 (.ptr (A.length+1) 0)] up (hP A l s none)) (.back up (.bW au (.int .i64 ((dQ l).getD (l.length-1) 0:Nat))) (hP A ((dQ l).take (l.length-1)) ((dQ l).getD (l.length-1) 0::s) none)):=by
 intro up;obtain⟨n,hn⟩:∃n,l.length=n+1:=⟨l.length-1,by omega⟩;have h1:=DT (Γ:=Γ) A l s none (.inl rfl);have h2:=Ax (Γ:=Γ) A l s none (.inl rfl) h0 (show n<l.length by omega);have h3:=aix (Γ:=Γ) A s none (.inl rfl) n 0 (by omega) (swp l 0 n) (by rw[ep];omega) (by rw[ep];omega) (by omega)
 have e:(iF n (swp l 0 n) 0).1=dQ l:=by rw[dQ,hn];rfl
 have el:=C3 l
 have e2:dQ l=(dQ l).take n++[(dQ l).getD n 0]:=by
  have hv:n<(dQ l).length:=by omega
  have h5:(dQ l).getD n 0=(dQ l)[n]:=by rw[bz,aW hv];rfl
  rw[h5]
  conv=>lhs;rw[<-lY n (dQ l)]
  congr 1;rw[bJ hv,bx (by omega)]
 have h4:=akb (Γ:=Γ) A ((dQ l).take n) s ((dQ l).getD n 0) (by rw[fw];omega);have c1:=p9 (A:=A) (l:=l) (s:=s) (g:=none);have c2:=p9 (A:=A) (l:=swp l 0 n) (s:=s) (g:=none);have c3:=p9 (A:=A) (l:=dQ l) (s:=s) (g:=none);rw[<-e2]at h4;rw[e]at h3;rw[hn]at h1 h2 c1;rw[ep,hn]at c2;rw[el,hn]at c3
 have en:l.length-1=n:=by omega
 have hb:n<2^40:=by omega
 rw[en];clear hn en h0 hl el e2 e;generalize(dQ l).getD n 0=x at*;generalize(dQ l).take n=l' at*;generalize hP A l s none=X at*;generalize hP A (swp l 0 n) s none=Y at*;generalize hP A (dQ l) s none=Z at*;refine .bp 60 Zd.1 ?_;simp[c1];refine .aX 60 h1 ?_;simp(disch:=omega) [c1];simp at h2 h3;refine .aX 60 h2 ?_;simp(disch:=omega) [c2];refine .aX 60 h3 ?_;simp(disch:=omega) [c3];refine .aX 60 h4 ?_;simp
theorem Reach.ak9{P:Program}{fn:FuncId}{k:List It}{ds:List dO}{kind:FK}{base:Nat}{up:List Fr}{h h':List Ob}{t:List AV}{d:Option Nat}{a:AO}{os:List AG}{l:Nat}{args:List AV}{v:AV}{C:AM.ar}
 (ha:aD P Γ t h a=.yield l args)(hb:AM.Reach P Γ ((jM.yl l).cfg args (⟨.run,fn,.ops (⟨d,none,a⟩::os)::k,t,ds,kind,base⟩::up) h) (.back (⟨.run,fn,.ops (⟨d,none,a⟩::os)::k,t,ds,kind,base⟩::up) v h'))
 (hn:AM.Reach P Γ (.fr ⟨.run,fn,.ops os::k,bl t d v,ds,kind,base⟩ up h') C):AM.Reach P Γ (.fr ⟨.run,fn,.ops (⟨d,none,a⟩::os)::k,t,ds,kind,base⟩ up h) C:=by
 refine .aY 1 ?_;rw[alo,ha];exact .trans hb (.trans (.pop _) hn)
theorem NR(pl:List (Bs×Nat)):∀(l:List Gt)(i:Nat)(nd b:List (List Nat)),(gD pl l i nd b).1.length=nd.length+l.length
 |[],_,_,_=>by simp[gD]
 |g::r,i,nd,b=>by rw[gD,NR pl r];simp;omega
theorem NS(pl:List (Bs×Nat)):∀(l:List Gt)(i:Nat)(nd b:List (List Nat)),(gD pl l i nd b).2.length=b.length
 |[],_,_,_=>by simp[gD]
 |g::r,i,nd,b=>by rw[gD,NS pl r,An]
theorem vH(c:Ct):(eL c).length=c.af.length:=by rw[eL,NR];simp
theorem i_(c:Ct):(bQ c).length=c.af.length:=by rw[bQ,NS];simp
def aC(c:Ct)(M:List Ob)(nd:List (List Nat)):List Ob:=hQ (je c M) nd (bQ c)++[.cells [.sl (M.length+7) 0 c.af.length,.sl (M.length+8) 0 c.af.length]]
def tC(c:Ct)(n:Nat)(nd:List (List Nat)):List Ob:=
 jr c n (.sl (n+7) 0 c.af.length) (.sl (n+8) 0 c.af.length)++(hF (n+6) c.af.length nd.length (bQ c)++((bQ c).map gK++nd.map jq))++[.cells [.sl (n+7) 0 c.af.length,.sl (n+8) 0 c.af.length]]
section
variable{c:Ct}{M:List Ob}{nd:List (List Nat)}
theorem AL:aC c M nd=M++tC c M.length nd:=by
 have hl:(M++jr c M.length (.sl (M.length+7) 0 c.af.length) (.sl (M.length+8) 0 c.af.length)).length=M.length+6:=by simp[jr]
 simp only[aC,hQ,tC,je,hl,i_,cR]
theorem q9(hn:nd.length=c.af.length):(aC c M nd).length=M.length+(10+(c.af.length+c.af.length)):=by
 simp[aC,mS,lA,i_,hn];omega
theorem DY{i:Nat}(h:i<(hQ (je c M) nd (bQ c)).length):(aC c M nd)[i]? =(hQ (je c M) nd (bQ c))[i]? :=by rw[aC,cF h]
theorem JZ(hn:nd.length=c.af.length):(aC c M nd)[M.length+(9+(c.af.length+c.af.length))]? =some (.cells [.sl (M.length+7) 0 c.af.length,.sl (M.length+8) 0 c.af.length]):=by
 have hl:(hQ (je c M) nd (bQ c)).length=M.length+(9+(c.af.length+c.af.length)):=by rw[mS,lA,i_,hn];omega
 rw[aC,dB (by omega),hl,Fs];rfl
theorem TG(hn:nd.length=c.af.length):(aC c M nd)[M.length+7]? =some (.row 1 oF (dZ (M.length+6) c.af.length c.af.length) none (decide (c.af.length=0)) false):=by
 have h:=J5 (H:=je c M) (nd:=nd) (b:=bQ c);rw[lA,i_,hn]at h
 rw[DY (by rw[mS,lA];omega)];exact h
theorem al5:(aC c M nd)[M.length+8]? =some (.row 1 j9 (gQ (M.length+6) (bQ c)) none (decide (c.af.length=0)) false):=by
 have h:=TT (H:=je c M) (nd:=nd) (b:=bQ c);rw[lA,i_]at h
 rw[DY (by rw[mS,lA];omega)];exact h
theorem ama{k:Nat}(hk:k<c.af.length):(aC c M nd)[M.length+(9+k)]? =some (gK ((bQ c).getD k [])):=by
 have h:=JU (H:=je c M) (nd:=nd) (b:=bQ c) (k:=k) (by rw[i_];exact hk);rw[lA]at h
 rw[DY (by rw[mS,lA,i_];omega),show M.length+(9+k)=M.length+6+(3+k) by omega,h,bz,aW (by rw[i_];exact hk)];rfl
theorem TD{i:Nat}(hn:nd.length=c.af.length)(hi:i<c.af.length):(aC c M nd)[M.length+(9+(c.af.length+i))]? =some (jq (nd.getD i [])):=by
 have h:=Ts (H:=je c M) (nd:=nd) (b:=bQ c) (i:=i) (by omega);rw[lA,i_]at h
 rw[DY (by rw[mS,lA,i_];omega),show M.length+(9+(c.af.length+i))=M.length+6+(3+(c.af.length+i)) by omega,h,bz,aW (by omega)];rfl
theorem ai8{i:Nat}(l:List Nat)(hn:nd.length=c.af.length)(hi:i<c.af.length):(aC c M nd).set (M.length+(9+(c.af.length+i))) (jq l)=aC c M (nd.set i l):=by
 have h:=RI (H:=je c M) (b:=bQ c) (nd:=nd) (i:=i) l (by omega);rw[lA,i_]at h;rw[aC,lZ _ _ (by rw[mS,lA,i_];omega),show M.length+(9+(c.af.length+i))=M.length+6+(3+(c.af.length+i)) by omega,h,aC]
theorem akH(c:Ct){n m:Nat}(h:n+8<m):cz m (jr c n (.sl (n+7) 0 c.af.length) (.sl (n+8) 0 c.af.length))=true:=by
 have h2:=pL m (cB c)
 simp[jr,h2];omega
theorem SJ(hv:eT M){i m:Nat}(hi:M.length+(9+c.af.length)<=i):c8 i m (aC c M nd)=true:=by
 have h1:=hv i m (by omega);have h2:=qY i m (cB c)
 have h3:dx i m (gQ (M.length+6) (bQ c))=true:=IL _ fun j hj he=>by rw[i_]at hj;omega
 have h4:=Ho (n:=M.length+6) (N:=c.af.length) (m:=nd.length) (i:=i) (q:=m);rw[AL,j6,tC,j6,j6,j6,j6,h1,CZ,C6];simp[jr,hF,h2,h3,h4];omega
theorem aka{r m:Nat}(n:Nat)(hr:r<n):c8 r m (tC c n nd)=true:=by
 have h2:=qY r m (cB c)
 have h3:dx r m (gQ (n+6) (bQ c))=true:=IL _ fun j hj he=>by omega
 have h4:=Ho (n:=n+6) (N:=c.af.length) (m:=nd.length) (i:=r) (q:=m);rw[tC,j6,j6,j6,j6,CZ,C6];simp[jr,hF,h2,h3,h4];omega
end
end Go.Proofs.YtchjijfjidlpjaaGreatDoor
