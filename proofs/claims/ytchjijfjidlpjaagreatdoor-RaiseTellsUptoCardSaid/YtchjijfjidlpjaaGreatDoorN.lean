/- The reference's Raise. -/
import Derived.Test.YtchjijfjidlpjaaGreatDoorM
set_option linter.unusedSimpArgs false
set_option linter.unusedVariables false
namespace Go.Proofs.YtchjijfjidlpjaaGreatDoor
open Go.AM Go.Proofs
variable{Γ:Nat->Option AV}
def iX(n:Md):Rm:=Rm.begin (n.ak++n.ai) n.aq (ju (n.ak++n.ai) (n.ak++n.ai).length (List.replicate (2*(n.g.first+n.g.ands.length)) []))
def gR(n:Md):Rm×List Lt:=er n.ai n.g.next n.g.init (gU n.g.first n.g.ands 0 (iX n)) []
def lY(n:Md):Rm:=j0 n n.aq n.g.outs (gR n).1
def wM(l:List Lt):Nat:=if l=[]then 0 else 3
theorem Zm(l:List Lt):Kd 3 (wM l) l:=by
 unfold wM
 by_cases h:l=[]
 ·exact .inr h
 ·rw[if_neg h];exact .self
def j6(n:Md):Ct:=⟨n.ak,n.aq,(gR n).2,(lY n).af,n.kI,n.kO,wM (gR n).2,(lY n).kG,n.hI,n.hO,Zm _,(lY n).hG⟩
def rR(c:Ct):Bool:=decide (200<c.ak.length+c.ai.length+c.af.length)||decide (200<c.aq.length)
theorem LF(f:Nat):∀(l:List (Int×Int))(i:Nat)(x:Rm),(gU f l i x).ar.length=x.ar.length/\(gU f l i x).af.length<=x.af.length+3*l.length/\(gU f l i x).used.length<=x.used.length+3*l.length
 |[],i,x=>by simp[gU]
 |p::l,i,x=>by
  rw[gU];obtain⟨a1,a2,a3⟩:=LF f l (i+1) (x.lV p.1.toNat p.2.toNat (2*(f+i)));obtain⟨b1,b2,b3⟩:=x.zF p.1.toNat p.2.toNat (2*(f+i));simp only[bC];exact⟨by omega,by omega,by omega⟩
theorem Lv:∀(l:List Bs)(r t:List Int)(x:Rm)(acc:List Lt),(er l r t x acc).1.ar.length=x.ar.length/\(er l r t x acc).1.af.length<=x.af.length+l.length/\(er l r t x acc).1.used.length<=x.used.length+l.length
 |[],r,t,x,acc=>by simp[er]
 |s::l,[],t,x,acc=>by simp[er]
 |s::l,a::r,[],x,acc=>by simp[er]
 |s::l,a::r,b::t,x,acc=>by
  rw[er];obtain⟨a1,a2,a3⟩:=Lv l r t (x.aP a.toNat) (acc++[⟨s,(x.aP a.toNat).ar.getD a.toNat [],b⟩]);obtain⟨b1,b2,b3⟩:=x.tw a.toNat;simp only[bC];exact⟨by omega,by omega,by omega⟩
theorem Mz:∀(l:List Bs)(r t:List Int)(x:Rm)(acc:List Lt),(er l r t x acc).2.length<=acc.length+l.length
 |[],r,t,x,acc=>by simp[er]
 |s::l,[],t,x,acc=>by simp[er]
 |s::l,a::r,[],x,acc=>by simp[er]
 |s::l,a::r,b::t,x,acc=>by
  rw[er];have:=Mz l r t (x.aP a.toNat) (acc++[⟨s,(x.aP a.toNat).ar.getD a.toNat [],b⟩]);simp only[bp,bC,cN]at this⊢;omega
theorem L_(n:Md):∀(l:List Bs)(r:List Int)(x:Rm),(j0 n l r x).af.length<=x.af.length+l.length
 |[],r,x=>by simp[j0]
 |s::l,[],x=>by simp[j0]
 |s::l,a::r,x=>by
  rw[j0];have h1:=L_ n l r (if cA n s<0 then x.out s a.toNat else x)
  have h2:(if cA n s<0 then x.out s a.toNat else x).af.length<=x.af.length+1:=by
   split
   ·rw[(x.Mu s a.toNat).2.1];omega
   ·omega
  simp only[bC];omega
structure abR(n:Md):Prop where
 g:n.g.Ok
 lI:n.ak.length<=4000
 lL:n.ai.length=n.g.next.length
 lO:n.aq.length=n.g.outs.length
 first:(n.ak++n.ai).length+1=n.g.first
theorem aaH{m:Md}(h0:cO m=0){b:Gr}(h1:dN m.g.normal b=true):abR (fX m b):=by
 obtain⟨ok,hs⟩:=(zt h0).norm;obtain⟨c1,c2,c3,c4,c5⟩:=pZ h1;have hck:m.g.normal.check=0:=ok.g;have ob:b.Ok:=Gr.lH (by rw[<-(vy h1).2.1];exact hck);have l1:(m.ak.length:Int)=m.g.normal.ins:=ok.lI;have l2:m.ai.length=m.g.normal.next.length:=ok.lL;have l3:m.aq.length=m.g.normal.outs.length:=ok.lO;have oi:=ob.ins;refine⟨ob,?_,?_,?_,?_⟩
 ·show m.ak.length<=4000
  rw[c1]at l1;omega
 ·show m.ai.length=b.next.length
  rw[<-c2];exact l2
 ·show m.aq.length=b.outs.length
  rw[<-c5];exact l3
 ·show(m.ak++m.ai).length+1=b.first
  rw[c1]at l1;rw[c2]at l2
  rw[bp]
  unfold Gr.first
  omega
set_option maxRecDepth 8000 in
theorem Up(m:Md)(hb:mb m)(hS:∀s∈m.ak++m.ai++m.aq,s.length<2^60):
 ∃b:Gr,dN m.g.normal b=true/\aN Tryz.prog Γ my [cp m] (.aL [if cO m=0 then(if rR (j6 (fX m b))=true then dT eY else dT (j6 (fX m b)))else dT eY,.int .i64 (if cO m=0 then(if rR (j6 (fX m b))=true then 8 else 0)else cO m)]):=by
 obtain⟨b,h1,hN⟩:=Iz (Γ:=Γ) m hb hS;refine⟨b,h1,?_⟩
 by_cases h0:cO m=0
 ·rw[if_pos h0]at hN;have R:=aaH h0 h1;generalize fX m b=n at*;have og:=R.g;have oi:=og.ins;have osum:=og.sum;have ool:=og.eT;have lI:=R.lI;have lL:=R.lL;have lO:=R.lO
  have hfs:n.g.first<=4001:=by unfold Gr.first;omega
  have hB:aN Tryz.prog Γ mw [cp n] (kY (iX n)):=T2 (Γ:=Γ) n (by omega) (by omega) (by omega) og R.first
  have hF:=mA (Γ:=Γ) n.g oi.1 oi.2 (by omega);refine .run 60 IN (by simp) ?_;simp;refine .call 60 (by simp) hN ?_;simp[h0];refine .call 60 (by simp) hB ?_;simp;refine .call 60 (by simp) hF ?_;simp
  have hlits:n.g.lits=2*(n.g.first+n.g.ands.length):=by simp[Gr.lits,Gr.all]
  have x1:(iX n).ar.length=2*(n.g.first+n.g.ands.length):=by simp[iX,Rm.begin,tH]
  have x2:(iX n).af.length=0:=rfl
  have x3:(iX n).used.length<=20000:=by simp[iX,Rm.begin];omega
  obtain⟨y1,y2,y3⟩:=LF n.g.first n.g.ands 0 (iX n)
  obtain⟨z1,z2,z3⟩:=Lv n.ai n.g.next n.g.init (gU n.g.first n.g.ands 0 (iX n)) []
  have k1:=abq (Γ:=Γ) m n (by omega) (2*(n.g.first+n.g.ands.length)) (by omega) n.g.first (by omega) (fun j hj=>by
   have:=og.ands j hj;omega) n.g.ands.length 0 (by omega) (iX n) x1 (by omega) (by omega)
  have k2:=aaP (Γ:=Γ) m n lL (by rw[og.same]) (by omega) (2*(n.g.first+n.g.ands.length)) (by omega) (fun a ha=>by
   have:=og.next a ha;omega) n.ai.length 0 (by omega) (gU n.g.first n.g.ands 0 (iX n)) [] rfl (by omega) (by omega) (by omega)
  have k3:=abX (Γ:=Γ) m n (gR n).2 (by omega) (by omega) lO (by omega) (2*(n.g.first+n.g.ands.length)) (by omega) (fun a ha=>by
   have:=og.outs a ha;omega) n.aq.length 0 (by omega) (gR n).1 (by unfold gR;omega) (by unfold gR;omega) (by unfold gR;omega)
  simp only[dV]at k1 k2 k3;have e0:er n.ai n.g.next n.g.init (gU n.g.first n.g.ands 0 (iX n)) []=gR n:=rfl;have e9:j0 n n.aq n.g.outs (gR n).1=lY n:=rfl;rw[e0]at k2;rw[e9]at k3
  have w2:(gR n).2.length<2^30:=by
   have h5:=Mz n.ai n.g.next n.g.init (gU n.g.first n.g.ands 0 (iX n)) [];rw[e0]at h5;simp only[cN]at h5;omega
  have gx:(lY n).af.length<2^40:=by
   have h5:=L_ n n.aq n.g.outs (gR n).1;rw[e9]at h5;rw[e0]at z2;omega
  generalize gU n.g.first n.g.ands 0 (iX n)=XA at*
  refine .inLoop ?_;simp[fP]at k1⊢;refine .reach k1 ?_;refine .go 60 ?_;simp;refine .inLoop ?_;simp[gW,fP]at k2⊢;refine .reach k2 ?_;have hov:rR (j6 n)=(decide (200<n.ak.length+(gR n).2.length+(lY n).af.length)||decide (200<n.aq.length)):=rfl;rw[hov]
  have w1:n.ak.length<2^40:=by omega
  by_cases hz:(gR n).2=[]
  ·refine .go 90 ?_;simp[hz];refine .inLoop ?_;simp[gW,fP,hz]at k3⊢;refine .reach k3 ?_
   by_cases o1:200<n.ak.length+(lY n).af.length
   ·have o1':(200:Int)<(n.ak.length:Int)+((lY n).af.length:Int):=by omega
    refine .go 90 ?_;simp(disch:=omega) [o1,o1'];exact .back (by simp[eY])
   ·have o1':¬(200:Int)<(n.ak.length:Int)+((lY n).af.length:Int):=by omega
    by_cases o2:200<n.aq.length
    ·have o2':(200:Int)<(n.aq.length:Int):=by omega
     refine .go 90 ?_;simp(disch:=omega) [o1,o1',o2,o2'];exact .back (by simp[eY])
    ·have o2':¬(200:Int)<(n.aq.length:Int):=by omega
     refine .go 90 ?_;simp(disch:=omega) [o1,o1',o2,o2'];exact .back (by simp[j6,wM,hz])
  ·refine .go 90 ?_;simp[hz];refine .inLoop ?_;simp[gW,fP,hz]at k3⊢;refine .reach k3 ?_
   by_cases o1:200<n.ak.length+(gR n).2.length+(lY n).af.length
   ·have o1':(200:Int)<(n.ak.length:Int)+((gR n).2.length:Int)+((lY n).af.length:Int):=by omega
    refine .go 90 ?_;simp(disch:=omega) [o1,o1'];exact .back (by simp[eY])
   ·have o1':¬(200:Int)<(n.ak.length:Int)+((gR n).2.length:Int)+((lY n).af.length:Int):=by omega
    by_cases o2:200<n.aq.length
    ·have o2':(200:Int)<(n.aq.length:Int):=by omega
     refine .go 90 ?_;simp(disch:=omega) [o1,o1',o2,o2'];exact .back (by simp[eY])
    ·have o2':¬(200:Int)<(n.aq.length:Int):=by omega
     refine .go 90 ?_;simp(disch:=omega) [o1,o1',o2,o2'];exact .back (by simp[j6,wM,hz])
 ·rw[if_neg h0]at hN;refine .run 60 IN (by simp) ?_;simp;refine .call 60 (by simp) hN ?_;simp[h0,j_,kW,eY];exact .back (by simp)
end Go.Proofs.YtchjijfjidlpjaaGreatDoor
namespace Go.Proofs.YtchjijfjidlpjaaGreatDoor
open Go.AM Go.Proofs
theorem rp(a b:Nat)(s:Bs):∀m:List (Nat×Bs),getM a (m++[(b,s)])=(match getM a m with|some v=>some v|none=>if a=b then some s else none)
 |[]=>by simp[getM]
 |(c,v)::m=>by
  rw[ek,getM,getM]
  split
  ·rfl
  ·exact rp a b s m
theorem X5(u:List Bs):dt u dD≠[]:=by
 obtain⟨j,_,_,h⟩:=Ed (used:=u) (stem:=dD) u.length 1;unfold dt;rw[h];simp[dD]
structure bn(B N:Nat)(x:Ra)(y:Rm):Prop where
 g:y.af=x.af
 u:y.used=x.used
 len:y.ar.length=N
 at':∀a,a<N->y.ar.getD a []=cC x.ar a
 ne:∀a s,getM a x.ar=some s->s≠[]
 lt:∀a,B<=a->getM a x.ar=none
 even:∀k,1<=k->2*k<B->getM (2*k) x.ar≠none
theorem bn.nil{B N:Nat}{x:Ra}{y:Rm}(h:bn B N x y){a:Nat}(ha:a<N):y.ar.getD a []=[]↔getM a x.ar=none:=by
 rw[h.at' a ha];unfold cC
 cases hg:getM a x.ar with
 |none=>simp
 |some s=>simpa using h.ne a s hg
theorem K2(l:List Bs)(a b:Nat)(s:Bs)(hb:b<l.length):(l.set a s).getD b []=if a=b then s else l.getD b []:=by
 simp only[bz,mn]
 by_cases h:a=b
 ·subst h;simp[hb]
 ·simp[h]
theorem bn.jA{B B2 N:Nat}{x:Ra}{y:Rm}(h:bn B N x y){a:Nat}(ha:a<N)(h0:getM a x.ar=none)(hB:B<=B2)(haB:a<B2)(hev:∀k,B<=2*k->2*k<B2->2*k=a)(b:By){op:Int}{ins:List Bs}{ki:Nat}{hi:Kd 1 ki ins}
 (hg:∀s,b.gate x.ar s=⟨s,op,ins,[],false,ki,0,hi,.nil⟩):bn B2 N (x.make a b) (y.k9 a op ins ki hi):=by
 have hf:y.fresh=dt x.used dD:=by unfold Rm.fresh;rw[h.u]
 unfold Rm.k9;rw[hf];refine⟨?_,?_,?_,fun c hc=>?_,fun c s hs=>?_,fun c hc=>?_,fun k h1 h2=>?_⟩
 ·simp only[Rm.jA,Ra.make,h.g,hg]
 ·simp only[Rm.jA,Ra.make,h.u]
 ·simp only[Rm.jA,kp,h.len]
 ·simp only[Rm.jA,Ra.make];rw[K2 _ _ _ _ (by rw[h.len];exact hc),cC,rp]
  by_cases e:a=c
  ·subst e;rw[if_pos rfl,h0];simp
  ·rw[if_neg e,h.at' c hc,cC]
   cases hq:getM c x.ar with
   |none=>simp[Ne.symm e]
   |some s=>rfl
 ·simp only[Ra.make]at hs;rw[rp]at hs
  cases hq:getM c x.ar with
  |none=>
   rw[hq]at hs;simp only at hs
   by_cases e:c=a
   ·rw[if_pos e]at hs
    cases hs
    exact X5 _
   ·rw[if_neg e]at hs;cases hs
  |some v=>
   rw[hq]at hs
   cases hs
   exact h.ne c _ hq
 ·simp only[Ra.make];rw[rp,h.lt c (by omega)];simp only;rw[if_neg (by omega)]
 ·simp only[Ra.make];rw[rp]
  cases hq:getM (2*k) x.ar with
  |some v=>simp
  |none=>
   have:¬2*k<B:=fun hl=>h.even k h1 hl hq
   simp[hev k (by omega) h2]
theorem bn.aP{B N:Nat}{x:Ra}{y:Rm}(h:bn B N x y)(hB:B<=N)(hB2:B%2=0){a:Nat}(ha:a<B):bn B N (x.aP a) (y.aP a)/\getM a (x.aP a).ar≠none:=by
 have hnil:=h.nil (a:=a) (by omega);unfold Ra.aP Rm.aP
 cases hq:getM a x.ar with
 |some s=>
  have:¬y.ar.getD a []=[]:=by rw[hnil,hq];simp
  rw[if_pos this];exact⟨h,by simp[hq]⟩
 |none=>
  have h1:y.ar.getD a []=[]:=hnil.2 hq;rw[if_neg (fun h=>h h1)];refine⟨?_,by simp only[Ra.make];rw[rp,hq];simp⟩;unfold dY
  by_cases c0:a=0
  ·rw[if_pos c0];subst c0;exact h.jA (by omega) hq (aU _) ha (fun k h1 h2=>by omega) _ (fun s=>by simp[By.gate,nK])
  ·rw[if_neg c0]
   by_cases c1:a=1
   ·rw[if_pos c1];subst c1;exact h.jA (by omega) hq (aU _) ha (fun k h1 h2=>by omega) _ (fun s=>by simp[By.gate,nK])
   ·rw[if_neg c1,if_neg (show¬a<2 by omega)]
    have ho:a%2=1:=by
     refine HW fun hn=>?_
     have:=h.even (a/2) (by omega) (by omega);rw[show 2*(a/2)=a by omega]at this;exact this hq
    unfold Rm.wS;rw[h.at' (a-1) (by omega)];exact h.jA (by omega) hq (aU _) ha (fun k h1 h2=>by omega) _ (fun s=>by simp[By.gate,dP,EH ho])
theorem W6{x:Ra}{a b:Nat}(h:getM a x.ar≠none):getM a (x.aP b).ar≠none:=by
 unfold Ra.aP
 cases getM b x.ar with
 |some s=>exact h
 |none=>
  simp only[Ra.make];rw[rp]
  cases hq:getM a x.ar with
  |some s=>simp
  |none=>exact absurd hq h
theorem bn.and{first t N:Nat}{x:Ra}{y:Rm}(h:bn (2*(first+t)) N x y)(hN:2*(first+t)+2<=N){p q:Nat}(hp:p<2*(first+t))(hq:q<2*(first+t)):
 bn (2*(first+(t+1))) N (((x.aP p).aP q).make (2*(first+t)) (.both p q)) (y.lV p q (2*(first+t))):=by
 obtain⟨s1,k1⟩:=h.aP (by omega) (by omega) hp;obtain⟨s2,k2⟩:=s1.aP (by omega) (by omega) hq;have k3:getM p ((x.aP p).aP q).ar≠none:=W6 k1;unfold Rm.lV;have e1:=s2.at' p (by omega);have e2:=s2.at' q (by omega);exact s2.jA (by omega) (s2.lt _ (aU _)) (by omega) (by omega) (fun k h1 h2=>by omega) _ (fun s=>by simp only[By.gate,dP,Gt.mk.injEq,e1,e2,uT,pD])
theorem bn.ands{first N:Nat}{ands:List (Int×Int)}(hN:2*(first+ands.length)<=N)(hw:∀i(hi:i<ands.length),(0<=ands[i].1/\ands[i].1<2*(first+i))/\0<=ands[i].2/\ands[i].2<2*(first+i)):∀n i,i+n=ands.length->∀(x:Ra)(y:Rm),bn (2*(first+i)) N x y->
 bn (2*(first+ands.length)) N (jq first (ands.drop i) i x) (gU first (ands.drop i) i y):=by
 intro n
 induction n with
 |zero=>
  intro i hi x y h
  obtain rfl:i=ands.length:=by omega
  rw[uR,jq,gU];exact h
 |succ n ih=>
  intro i hi x y h
  have q1:i<ands.length:=by omega
  obtain⟨⟨a1,a2⟩,a3,a4⟩:=hw i q1;rw[br q1,jq,gU];exact ih (i+1) (by omega) _ _ (h.and (by omega) (by omega) (by omega))
theorem bn.ai{B N:Nat}(hB:B<=N)(hB2:B%2=0):∀(l:List Bs)(r t:List Int),(∀a∈r,0<=a/\a<B)->∀(x:Ra)(y:Rm)(acc:List Lt),bn B N x y->
 bn B N (ec l r t x).1 (er l r t y acc).1/\(er l r t y acc).2=acc++(ec l r t x).2
 |[],r,t,_,x,y,acc,h=>by simpa[ec,er]using h
 |s::l,[],t,_,x,y,acc,h=>by simpa[ec,er]using h
 |s::l,a::r,[],_,x,y,acc,h=>by simpa[ec,er]using h
 |s::l,a::r,b::t,hr,x,y,acc,h=>by
  obtain⟨b1,b2⟩:=hr a (by simp);obtain⟨s1,_⟩:=h.aP hB hB2 (a:=a.toNat) (by omega);obtain⟨i1,i2⟩:=bn.ai hB hB2 l r t (fun c hc=>hr c (by simp[hc])) _ _ (acc++[⟨s,(y.aP a.toNat).ar.getD a.toNat [],b⟩]) s1;rw[ec,er];refine⟨i1,?_⟩;rw[i2,s1.at' _ (by omega)];simp
theorem aaM{B N:Nat}{x:Ra}{y:Rm}(h:bn B N x y)(s:Bs){a:Nat}(ha:a<N):AD s a (y.ar.getD (a-a%2) [])=iV x.ar s a:=by
 rw[h.at' _ (by omega)];unfold AD iV dY
 by_cases c0:a=0
 ·subst c0;simp[By.gate,nK]
 ·rw[if_neg c0]
  by_cases c1:a=1
  ·subst c1;simp[By.gate,nK]
  ·rw[if_neg c1]
   by_cases c2:a%2=1
   ·rw[if_pos c2,if_neg (by omega),if_neg (show¬a<2 by omega),c2];simp[By.gate,dP,EH c2]
   ·rw[if_neg c2,if_pos (by omega),show a%2=0 by omega];simp[dP]
theorem bn.outs{B N:Nat}(n:Md):∀(l:List Bs)(r:List Int),(∀a∈r,0<=a/\a<N)->∀(x:Ra)(y:Rm),bn B N x y->
 (j0 n l r y).af=x.af++ep n x.ar l r
 |[],r,_,x,y,h=>by simp[j0,ep,h.g]
 |s::l,[],_,x,y,h=>by simp[j0,ep,h.g]
 |s::l,a::r,hr,x,y,h=>by
  obtain⟨b1,b2⟩:=hr a (by simp);rw[j0,ep]
  by_cases hp:cA n s<0
  ·rw[if_pos hp,if_pos hp]
   have h2:bn B N ⟨x.af++[iV x.ar s a.toNat],x.used,x.ar⟩ (y.out s a.toNat):=by
    refine⟨?_,h.u,h.len,h.at',h.ne,h.lt,h.even⟩;simp only[Rm.out,Rm.plus,h.g];rw[aaM h s (by omega)]
   rw[bn.outs n l r (fun c hc=>hr c (by simp[hc])) _ _ h2];simp
  ·rw[if_neg hp,if_neg hp];exact bn.outs n l r (fun c hc=>hr c (by simp[hc])) _ _ h
theorem J9(names:List Bs):∀(i:Nat)(ar:List Bs)(a:Nat),a<ar.length->(ju names i ar).getD a []=if a%2=0/\2<=a/\a<=2*i then names.getD (a/2-1) []else ar.getD a []
 |0,ar,a,ha=>by
  rw[ju,if_neg (by omega)]
 |i+1,ar,a,ha=>by
  rw[ju,K2 _ _ _ _ (by rw[tH];exact ha),J9 names i ar a ha]
  by_cases e:2*(i+1)=a
  ·subst e;rw[if_pos rfl,if_pos (by omega),show 2*(i+1)/2-1=i by omega]
  ·rw[if_neg e]
   by_cases c:a%2=0/\2<=a/\a<=2*i
   ·rw[if_pos c,if_pos (by omega)]
   ·rw[if_neg c,if_neg (by omega)]
theorem vK:∀(l:List Bs)(k a:Nat),getM a (eR k l)=if a%2=0/\2*(k+1)<=a then l[a/2-1-k]? else none
 |[],k,a=>by simp[eR,getM]
 |s::l,k,a=>by
  rw[eR,getM,vK l (k+1) a]
  by_cases e:a=2*(k+1)
  ·rw[if_pos e,if_pos (by omega),show a/2-1-k=0 by omega];rfl
  ·rw[if_neg e]
   by_cases c:a%2=0/\2*(k+1)<=a
   ·rw[if_pos c,if_pos (by omega),show a/2-1-k=(a/2-1-(k+1))+1 by omega,ni]
   ·rw[if_neg c,if_neg (by omega)]
theorem acj{n:Md}(ok:gG n):bn (2*(n.g.first+0)) (2*(n.g.first+n.g.ands.length)) (fF n) (iX n):=by
 have hf:=ok.first
 have hn:∀s∈n.ak++n.ai,s≠[]:=fun s hs=>by
  have:=ok.names s (jJ _ hs)
  rintro rfl
  exact absurd this (by decide)
 unfold iX fF;generalize n.ak++n.ai=names at*;refine⟨rfl,rfl,?_,fun a ha=>?_,fun a s hs=>?_,fun a ha=>?_,fun k h1 h2=>?_⟩
 ·simp[Rm.begin,tH]
 ·simp only[Rm.begin];rw[J9 _ _ _ _ (by simpa using ha),cC,vK]
  have hr:(List.replicate (2*(n.g.first+n.g.ands.length)) ([]:Bs)).getD a []=[]:=by simp[bz,ha]
  rw[hr]
  by_cases c:a%2=0/\2*(0+1)<=a
  ·rw[if_pos c,xm]
   by_cases c2:a<=2*names.length
   ·rw[if_pos (by omega),bz]
    cases names[a/2-1]? <;>rfl
   ·rw[if_neg (by omega),mh (by omega)]
  ·rw[if_neg c,if_neg (by omega)]
 ·simp only[vK]at hs
  split at hs
  ·exact hn s (fQ hs)
  ·cases hs
 ·simp only[vK]
  split
  ·exact mh (by omega)
  ·rfl
 ·simp only[vK];rw[if_pos (by omega),a_ (by omega)];simp
theorem M_{n:Md}(ok:gG n)(hs:n.g.strict=true):(j6 n).ai=(aY n).ai/\(j6 n).af=(aY n).af:=by
 obtain⟨o,_,_⟩:=pX hs;have hl:n.g.lits=2*(n.g.first+n.g.ands.length):=rfl;have h1:=bn.ands (N:=2*(n.g.first+n.g.ands.length)) (aU _) o.ands n.g.ands.length 0 (by omega) _ _ (acj ok);rw[dV]at h1
 obtain⟨h2,h3⟩:=bn.ai (aU _) (by omega) n.ai n.g.next n.g.init (fun a ha=>by
  have:=o.next a ha
  omega) _ _ [] h1
 have h4:=bn.outs n n.aq n.g.outs (fun a ha=>by
  have:=o.outs a ha
  omega) _ _ h2
 exact⟨by simpa[j6,aY,gR,cR,l0]using h3,h4⟩
theorem Ye{n:Md}(ok:gG n)(hs:n.g.strict=true):rX (aY n) (j6 n)=true:=by
 obtain⟨h1,h2⟩:=M_ ok hs;simp only[rX,h1,h2,Dd,pF,aC,a8];exact⟨rfl,rfl,trivial⟩
theorem Xo{n:Md}(ok:gG n)(hs:n.g.strict=true):rR (j6 n)=fD (aY n):=by
 obtain⟨V,ts,D⟩:=Gf ok hs;obtain⟨h1,h2⟩:=M_ ok hs
 have h3:aZ oL (aY n).af=false:=ji.2 fun g hg=>by
  obtain⟨i,hi,rfl⟩:=jK hg;obtain⟨d,_,h8⟩:=D.gd i hi;obtain⟨s1,s2⟩:=h8.small;unfold oL;rw[s2];simp only[cN,jI,gK];omega
 unfold rR fD;rw[h1,h2,h3,lp];rfl
end Go.Proofs.YtchjijfjidlpjaaGreatDoor
namespace Go.Proofs.YtchjijfjidlpjaaGreatDoor
open Go.AM Go.Proofs
variable{Γ:Nat->Option AV}
abbrev j7(g b:Gr)(v:List Bool)(l:List Int):List Ob:=[.cells (AV.cells (cg g)),.cells (AV.cells (cg b)),.row 1 az [] none true false,.row 1 az [] none true false,.row 2 bI [] none true false,.row 1 az [] none true false,.row 1 fW (v.map .bool) none true false,.row 1 az (l.map i64) none true false]
set_option maxRecDepth 8000 in
theorem aaS(g b:Gr)(L:List Int)(n A:Nat)(hn:n<=8001)(hA:A<=4000)(hL:∀a∈L,0<=a/\a<2*n)(hl:L.length<2^20):∀k i:Nat,i+k=L.length->∀(v:List Bool)(s:List Nat),v.length=n->(∀j(h:j<v.length),v[j]=decide (2*j+1∈s))->s.length<=i->
 aB Tryz.prog Γ (ydy (.sl 6 0 n) (.int .i64 ((A+s.length:Nat):Int)) (.sl 7 0 L.length) (.int .i64 i) (j7 g b v L)) (.ret (.int .i64 ((A+(((L.drop i).map (·.toNat)).foldl eF s).length:Nat):Int))):=by
 intro k
 induction k with
 |zero=>
  intro i hi v s hv hs hsl
  have q1:¬i<L.length:=by omega
  rw[bq (by omega)];refine .go 60 ?_;simp[q1,j7];exact .back (by simp)
 |succ k ih=>
  intro i hi v s hv hs hsl
  have q1:i<L.length:=by omega
  obtain⟨b1,b2⟩:=hL _ (bZ q1);obtain⟨a,ha⟩:=cS b1
  have q5:a/2<v.length:=by omega
  have q6:a/2<n:=by omega
  have hbit:=hs (a/2) q5;have r1:(a:Int).tmod 2=((a%2:Nat):Int):=(Int.ofNat_tmod a 2).symm;have r2:(a:Int).tdiv 2=((a/2:Nat):Int):=(Int.ofNat_tdiv a 2).symm;rw[br q1,cv,sw,ha];simp only[cZ];refine .go 60 ?_
  by_cases c1:a%2=1
  ·have e0:2*(a/2)+1=a:=by omega
   rw[e0]at hbit
   by_cases c2:a∈s
   ·have hh:=ih (i+1) (by omega) v s hv hs (by omega)
    have e:eF s a=s:=by simp[eF,c2]
    rw[e];rw[xz c2]at hbit;simp(disch:=omega) [q1,ha,r1,r2,c1,q5,q6,hbit,hv,j7,-Int.natCast_ediv,-Int.natCast_emod];refine .aT ?_;simp(disch:=omega) [j7]at hh⊢;exact hh
   ·have e:eF s a=s++[a]:=by simp[eF,c1,c2]
    have hh:=ih (i+1) (by omega) (v.set (a/2) true) (s++[a]) (by simp[hv]) (fun j hj=>by
     rw[List.getElem_set]
     by_cases h2:a/2=j
     ·rw[if_pos h2];exact(xz (sD _ (by simp;omega))).symm
     ·rw[if_neg h2,hs j (by simpa using hj)]
      by_cases h3:2*j+1∈s
      ·rw[xz h3,xz (jJ _ h3)]
      ·rw[HZ h3,HZ];simp only[ba,bw,mr,mi]
       rintro(h|h)
       ·exact h3 h
       ·omega) (by simp;omega)
    rw[e];rw[HZ c2]at hbit;simp(disch:=omega) [q1,ha,r1,r2,c1,q5,q6,hbit,hv,j7,-Int.natCast_ediv,-Int.natCast_emod];refine .aT ?_;simp(disch:=omega) [j7,<-Int.add_assoc,lj]at hh⊢;exact hh
  ·have hh:=ih (i+1) (by omega) v s hv hs (by omega)
   have e:eF s a=s:=by simp[eF,c1]
   rw[e]
   have c3:a%2=0:=by omega
   simp(disch:=omega) [q1,ha,r1,r2,c1,c3,q5,q6,hbit,hv,j7,-Int.natCast_ediv,-Int.natCast_emod];refine .aT ?_;simp(disch:=omega) [j7]at hh⊢;exact hh
abbrev two(p:Int×Int):List Int:=[p.1,p.2]
set_option maxRecDepth 8000 in
theorem ZP(g b:Gr)(n:Nat)(hn:n=b.first+b.ands.length)(ob:b.Ok):∀k i:Nat,i+k=b.ands.length->∀l:List Int,l=(b.ands.take i).flatMap two->l.length=2*i->
 aB Tryz.prog Γ (ydA (.ptr 1 0) (.sl 6 0 n) (.int .i64 b.ands.length) (.sl 7 0 l.length) (.int .i64 i) (j7 g b (List.replicate n false) l)) (.ret (.int .i64 ((b.ands.length+(rV b).length:Nat):Int))):=by
 have o1:=ob.ins;have o3:=ob.sum
 have hfs:b.first<=4001:=by unfold Gr.first;omega
 have hal:b.all=b.first+b.ands.length:=rfl
 have hlt:=wa ob;intro k
 induction k with
 |zero=>
  intro i hi l hl hle
  have q1:¬i<b.ands.length:=by omega
  have ht:b.ands.take i=b.ands:=cF (by omega);rw[ht]at hl;have hn1:b.kn=1\/b.next=[]:=b.hn
  have hh:=aaS (Γ:=Γ) g b (l++b.next) n b.ands.length (by omega) (by omega) (by
   intro a ha
   rcases ba.1 ha with ha|ha
   ·rw[hl]at ha;obtain⟨p,hp,hap⟩:=od.1 ha;obtain⟨j,hj,rfl⟩:=jK hp;have:=ob.ands j hj;simp only[two,bw,mr,mi]at hap
    rcases hap with rfl|rfl<;>omega
   ·have:=ob.next a ha
    have e:b.lits=2*(b.first+b.ands.length):=by simp[Gr.lits,Gr.all]
    omega) (by rw[bp,hle];omega) (l++b.next).length 0 (by omega) (List.replicate n false) [] (by simp) (by intro j hj;simp) (by simp)
  have e:((l++b.next).drop 0).map (·.toNat)=asked b:=by
   rw[dV,nk,asked,hl];congr 1;rw[List.map_flatMap];rfl
  rw[e]at hh;unfold rV
  have hbd:(l.length+b.next.length)*8<=140737488355328:=by omega
  refine .go 60 ?_;simp(disch:=omega) [q1,j7,hn1,hbd];refine .inLoop ?_;simp;refine .iF (i:=7) rfl (by by_cases hq:b.next=[]<;>simp[hq]) (by simp) (by simp) (by simp) ?_;simp[j7]at hh⊢;exact hh
 |succ k ih=>
  intro i hi l hl hle
  have q1:i<b.ands.length:=by omega
  have q2:=bl (b.ha.of q1);have hh:=ih (i+1) (by omega) (l++two b.ands[i]) (by rw[pN q1,List.flatMap_append,hl];simp) (by simp;omega)
  have hbd:(l.length+2)*8<=140737488355328:=by omega
  refine .go 60 ?_;simp[q1,q2,j7,hbd];refine .aT ?_;simp;refine .iF (i:=7) rfl (by simp) (by simp) (by simp) (by simp) ?_;simp(disch:=omega) [j7]at hh⊢;exact hh
set_option maxRecDepth 8000 in
theorem Ud(g:Gr)(hf:g.dJ):aN Tryz.prog Γ sU [cg g] (.int .i64 (t_ g)):=by
 obtain⟨b,hs,hN⟩:=IA (Γ:=Γ) g hf;unfold t_;refine .run 60 Um (by simp) ?_;simp;refine .call 60 (by simp) hN ?_
 by_cases h:g.check=0
 ·obtain⟨s1,s2,_⟩:=xO h;have ox:g.normal.Ok:=Gr.lH s2;have ob:b.Ok:=Gr.lH (by rw[<-(vy hs).2.1];exact s2);have oi:=ob.ins;have osum:=ob.sum;have hF:=mA (Γ:=Γ) b oi.1 oi.2 (by omega)
  have hfb:b.first<=4001:=by unfold Gr.first;omega
  obtain⟨n,hn⟩:∃n,n=b.first+b.ands.length:=⟨_,rfl⟩
  have e1:((b.first:Int)+(b.ands.length:Int))=(n:Int):=by omega
  have hn2:n<=8001:=by omega
  have e2:((n:Int)<0)=False:=by simp
  simp[h];refine .dr 60 ?_;simp;refine .call (by simp) hF ?_;simp(disch:=omega) [e1,e2];refine .inLoop ?_;have hh:=ZP (Γ:=Γ) g b n hn ob b.ands.length 0 (by omega) [] (by simp) (by simp)
  have e3:b.ands.length+(rV b).length=g.normal.ands.length+(rV g.normal).length:=by
   obtain⟨_,k2,_,k4,_⟩:=pZ hs;unfold rV asked;rw[k2,k4]
  rw[e3]at hh;simp[j7]at hh⊢;exact hh
 ·simp[h];exact .back (by simp)
theorem JC(c:Ct):rX c c=true:=by
 have:∀l:List Gt,kM l l=true:=fun l=>Dd l
 simp[rX,this]
def pc(m n:Md):Ct×Int:=if cO m=0 then(if rR (j6 n)=true then(eY,8)else(j6 n,0))else(eY,cO m)
theorem VH{m:Md}(h0:cO m=0){b:Gr}(hs:dN m.g.normal b=true):gG (fX m b)/\(fX m b).g.strict=true/\oW (cB m) (fX m b)=true:=by
 obtain⟨ok,hst⟩:=(zt h0).norm;obtain⟨e1,e2,e3,e4,e5⟩:=pZ hs;obtain⟨l1,l2,l3,l4,l5,l6⟩:=vy hs;refine⟨⟨?_,?_,?_,?_,ok.names,ok.nd,ok.BZ,fun i h1 h2 h3=>?_⟩,?_,?_⟩
 ·show b.check=0
  rw[<-l2];exact ok.g
 ·show(m.ak.length:Int)=b.ins
  rw[<-e1];exact ok.lI
 ·show m.ai.length=b.next.length
  rw[<-e2];exact ok.lL
 ·show m.aq.length=b.outs.length
  rw[<-e5];exact ok.lO
 ·have h2':i<m.g.normal.outs.length:=by rw[e5];exact h2
  have:=ok.out i h1 h2' h3;have e:b.outs[i]'h2=m.g.normal.outs[i]:=(List.getElem_of_eq e5 h2').symm
  show b.outs[i]'h2=_
  rw[e];exact this
 ·show b.strict=true
  rw[<-l5];exact hst
 ·simp only[oW,aC,a8];exact⟨hs,rfl,rfl,rfl⟩
theorem JX{m:Md}{b:Gr}(hs:dN m.g.normal b=true):rX (ig m).1 (pc m (fX m b)).1=true/\(ig m).2=(pc m (fX m b)).2/\eP (ig m).1/\oW (fL m).1 (if cO m=0 then fX m b else j_)=true:=by
 by_cases h0:cO m=0
 ·obtain⟨ok,hst,hsm⟩:=VH h0 hs;obtain⟨_,_,hCB,hor⟩:=Lz h0;have hcc:=X8 hsm;have ho:=Xo ok hst;have hrs:=Ye ok hst;rw[<-hcc]at ho hrs
  have hn:(fL m).1=cB m:=by rw[fL,if_pos h0]
  rw[hn,if_pos h0];unfold pc;rw[if_pos h0,ho]
  rcases hor with⟨a1,a2⟩|⟨a1,a2,_,_⟩
  ·rw[if_pos a1,a2];exact⟨JC _,rfl,by unfold eP eY;simp,hsm⟩
  ·rw[if_neg (by simp[a1]),a2];exact⟨hrs,rfl,I_ hCB a1,hsm⟩
 ·unfold pc
  have e1:ig m=(eY,cO m):=by rw[ig,if_neg h0]
  have e2:(fL m).1=j_:=by rw[fL,if_neg h0]
  rw[if_neg h0,if_neg h0,e1,e2];exact⟨JC _,rfl,by unfold eP eY;simp,by simp[oW,CJ]⟩
set_option maxRecDepth 8000 in
theorem Tu(hΓ:lU Γ)(hP:mY Γ)(m:Md)(hb:mb m):
 aN Tryz.prog Γ Co [cp m] (.bool true):=by
 have hF:=Zz (Γ:=Γ) m;refine .run 90 Sa (by simp) ?_;simp;refine .call 90 (by simp) (Y0 hΓ hP) ?_;simp;refine .call 90 (by simp) hF ?_
 cases hp:wD m with
 |false=>
  simp;exact .back (by simp)
 |true=>
  have hsh:=WX hp
  have hS:∀s∈m.ak++m.ai++m.aq,s.length<2^60:=fun s hs=>by
   have:=hsh s hs;omega
  have hR:=Em hΓ hP m hb;obtain⟨b,hsb,hR2⟩:=Up (Γ:=Γ) m hb hS;have hN:=DI (Γ:=Γ) m hb;obtain⟨b2,hsb2,hN2⟩:=Iz (Γ:=Γ) m hb hS;have hG:=Lf (Γ:=Γ) m.g hb.1;have hG2:=Ud (Γ:=Γ) m.g hb.1;obtain⟨t1,t2,t3,_⟩:=JX hsb;obtain⟨_,_,_,t4⟩:=JX hsb2
  have hR2':aN Tryz.prog Γ my [cp m] (.aL [dT (pc m (fX m b)).1,.int .i64 (pc m (fX m b)).2]):=by
   unfold pc
   by_cases h0:cO m=0
   ·simp only[h0,bY]at hR2⊢
    by_cases h1:rR (j6 (fX m b))=true
    ·simp only[h1,bY]at hR2⊢;exact hR2
    ·simp only[h1,cE]at hR2⊢;exact hR2
   ·simp only[h0,cE]at hR2⊢;exact hR2
  have hSc:=Uz (Γ:=Γ) (ig m).1 (pc m (fX m b)).1 t3
  have hnb:mb (fL m).1:=by
   by_cases h0:cO m=0
   ·rw[fL,if_pos h0];exact⟨(Gr.lH (xO (zt h0).g).2.1).dJ,hb.2⟩
   ·rw[fL,if_neg h0];exact⟨Zv,by simp[j_],by simp[j_],by simp[j_]⟩
  have hSm:=Vr (Γ:=Γ) (fL m).1 (if cO m=0 then fX m b2 else j_) hnb
  have e2:(fL m).2=cO m:=by unfold fL;split<;>simp[*]
  rw[t1]at hSc;rw[t4]at hSm;rw[<-t2]at hR2';rw[e2]at hN;clear hR2 hsb hsb2 t1 t2 t3 t4 hnb;generalize pc m (fX m b)=C2 at*;generalize(if cO m=0 then fX m b2 else j_)=M2 at*;generalize ig m=C1 at*;generalize(fL m).1=M1 at*;generalize cO m=z at*;generalize t_ m.g=w at*;simp;refine .call 90 (by simp) hR ?_;simp;refine .call 90 (by simp) hR2' ?_;simp;refine .call 90 (by simp) hN ?_;simp;refine .call 90 (by simp) hN2 ?_;simp;refine .call 90 (by simp) hG2 ?_;simp;refine .call 90 (by simp) hSc ?_;simp;refine .call 90 (by simp) hSm ?_;simp;refine .call 90 (by simp) hG ?_;simp;exact .back (by simp)
end Go.Proofs.YtchjijfjidlpjaaGreatDoor
