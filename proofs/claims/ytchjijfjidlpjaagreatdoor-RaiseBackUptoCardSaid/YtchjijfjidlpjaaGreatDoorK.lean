/- Graphs: Normal does what the graph does. No program in sight. -/
import Derived.Test.YtchjijfjidlpjaaGreatDoorJ
import Derived.Test.YtchjijfjidlpjaaGreatDoorH
import Derived.Test.YtchjijfjidlpjaaGreatDoorF
import Derived.Test.YtchjijfjidlpjaaGreatDoorCode
import Derived.Test.YtchjijfjidlpjaaGreatDoorAMd
import Derived.Test.YtchjijfjidlpjaaGreatDoorI
import Derived.Test.YtchjijfjidlpjaaGreatDoorG
set_option linter.unusedSimpArgs false
set_option linter.unusedVariables false
namespace Go.Proofs.YtchjijfjidlpjaaGreatDoor
open Go.AM Go.Proofs
theorem vQ(w:List Bool)(to:List Nat)(a:Nat):bW w (bo to a)=(bW w (to.getD (a/2) 0) !=decide (a%2=1)):=by
 unfold bo
 rcases(show a%2=0\/a%2=1 by omega)with h2|h2
 ·rw[h2,xq];simp
 ·rw[h2,Ci];simp
theorem BW(v:List Bool)(n:Nat):bW v (2*n)=v.getD n false:=by
 unfold bW
 rw[show 2*n/2=n by omega,show 2*n%2=0 by omega];simp
theorem aav{v:List Bool}{c:Bool}{n:Nat}(h:n<v.length):(v++[c]).getD n false=v.getD n false:=by
 rw[bq,bq,cz h]
theorem acK{v:List Bool}{c:Bool}{n:Nat}(h:n=v.length):(v++[c]).getD n false=c:=by
 subst h
 rw[bq];simp
theorem NZ{first:Nat}{v0:List Bool}(hv:v0.length=first)(hz:bW v0 0=false)(h1:1<=first):∀(ps l:List (Int×Int))(to:List Nat)(V:List Bool),pK first l->nE first l to->V.length=to.length->
 (∀n,n<to.length->bW (cg l v0) (to.getD n 0)=V.getD n false)->(∀i(h:i<ps.length),ps[i].1.toNat/2<to.length+i/\ps[i].2.toNat/2<to.length+i)->
 ∀n,n<to.length+ps.length->bW (cg (fv first ps l to).1 v0) ((fv first ps l to).2.getD n 0)=(cg ps V).getD n false
 |[],l,to,V,_,_,hl,hh,_=>hh
 |p::ps,l,to,V,hw,ht,hl,hh,hp=>by
  have h0:=hp 0 (by simp);simp only[E6,gZ]at h0;have ha:=om ht.lt h0.1;have hb:=om ht.lt h0.2;obtain⟨hlt,hge⟩:=vR ha hb h1;have hval:=Pt hv hz h1 hw ha hb
  have b1:bW (cg l v0) (bo to p.1.toNat)=bW V p.1.toNat:=by rw[vQ,hh _ h0.1];rfl
  have b2:bW (cg l v0) (bo to p.2.toNat)=bW V p.2.toNat:=by rw[vQ,hh _ h0.2];rfl
  rw[b1,b2]at hval;intro n hn;rw[fv,cg]
  refine NZ hv hz h1 ps _ _ _ (hw.and ha hb) ⟨fun z hz=>by
   rcases aT.1 hz with hz|hz
   ·have:=ht.lt z hz;omega
   ·simp at hz;omega⟩ (by simp[hl]) (fun n hn=>?_) (fun i hi=>by
   have:=hp (i+1) (by simpa using hi);simp only[sV]at this
   simp;omega) n (by rw[bE]at hn;simp;omega)
  by_cases hn2:n<to.length
  ·rw[na hn2,aav (by omega),<-hh n hn2];refine adh hv ?_;refine ht.lt _ ?_;rw[bq,aR hn2];exact bw hn2
  ·have e:n=to.length:=by simp at hn;omega
   rw[Cr e,acK (by omega),hval]
theorem agt{x:Gr}(ok:x.Ok)(s:gK x.first x.ands){v0:List Bool}(hv:v0.length=x.first):∀N n,n<N->n<x.first+x.ands.length->Live x.first x.aY n->
 bW (cg x.c9.ands v0) ((dK x.first x.aY x.ands 0 [] (ids x.first)).2.getD n 0)=(cg x.ands v0).getD n false:=by
 have I:=Gr.Sw ok s;have sK:=(CQ ok).1;have w2:=sK.ands;rw[show x.c9.first=x.first from vC _ _]at w2;intro N
 induction N with
 |zero=>intro n hn;omega
 |succ N ih=>
  intro n hn hn2 hl
  by_cases h1:n<x.first
  ·rw[I.low n h1,vw _ (by omega),BW];obtain⟨e,he⟩:=GS x.ands v0;rw[he,bq,bq,cz (by omega)]
  ·rcases hl with h2|h2
   ·omega
   ·have hk:n-x.first<x.ands.length:=by omega
    have en:x.first+(n-x.first)=n:=by omega
    obtain⟨j,hj,e1,e2⟩:=I.at_ (n-x.first) hk hk (by rw[en];exact h2);rw[en]at e1;have hj2:j<x.c9.ands.length:=hj
    have e3:x.c9.ands[j]=lV (dK x.first x.aY x.ands 0 [] (ids x.first)).2 x.ands[n-x.first]:=by
     have:x.c9.ands[j]? =some (lV (dK x.first x.aY x.ands 0 [] (ids x.first)).2 x.ands[n-x.first]):=e2;rw[aR hj2]at this;exact Option.some.inj this
    have hw:=w2 j hj2;have hx:=ok.ands (n-x.first) hk;obtain⟨c1,c2⟩:=BO ok hk (by rw[en];exact h2);have va:=GN (v:=v0) hj2 (by omega) (by omega);have vb:=GN (v:=v0) hk (by omega) (by omega);rw[hv]at va vb;rw[e1,va,e3];simp only[lV,dX];rw[vQ,vQ,ih _ (by omega) (by omega) (.inr c1),ih _ (by omega) (by omega) (.inr c2)];rw[en,BW]at vb;rw[vb];rfl
theorem PG{g:Gr}{r:List (Int×Int)×List Nat}(ok:g.Ok)(sK:(g.dj r).Ok){state ins:List Bool}
 (h:g.ia state ins=0->∀a∈g.next++g.outs,bW (cg r.1 (false::(ins++state))) (bo r.2 a.toNat)=bW (g.ux state ins) a.toNat):
 (g.dj r).ia state ins=g.ia state ins/\(g.dj r).ic state ins=g.ic state ins/\(g.dj r).mD state ins=g.mD state ins:=by
 have hE:(g.dj r).ia state ins=g.ia state ins:=by
  unfold Gr.ia;rw[Gr.qn ok,Gr.qn sK]
  have h1:(g.dj r).next.length=g.next.length:=by simp[Gr.dj]
  have:(g.dj r).fits state ins=g.fits state ins:=by unfold Gr.fits;rw[h1];rfl
  rw[this]
 refine⟨hE,?_,?_⟩
 ·unfold Gr.ic;rw[hE]
  split
  ·rename_i h0;have hh:=h h0;unfold sb Gr.dj eh Gr.ux;simp only[iB]
   refine mb fun a ha=>?_
   exact hh a (xo _ ha)
  ·rfl
 ·unfold Gr.mD;rw[hE]
  split
  ·rename_i h0;have hh:=h h0;unfold sb Gr.dj eh Gr.ux;simp only[iB]
   refine mb fun a ha=>?_
   exact hh a (mW _ ha)
  ·rfl
theorem Rr{g:Gr}{state ins:List Bool}(h:g.ia state ins=0):(false::(ins++state)).length=g.first:=by
 obtain⟨ok,d1,d2⟩:=Gr.ai3 h;have:=ok.ins
 simp[Gr.first];omega
theorem Rg{g:Gr}(ok:g.Ok){a:Int}(h:a∈g.next++g.outs):a.toNat/2<g.first+g.ands.length:=by
 have hl:g.lits=2*(g.first+g.ands.length):=rfl
 rcases aT.1 h with h|h
 ·have:=ok.next a h;omega
 ·have:=ok.outs a h;omega
theorem acx{g:Gr}(ok:g.Ok)(state ins:List Bool):g.dq.ia state ins=g.ia state ins/\g.dq.ic state ins=g.ic state ins/\g.dq.mD state ins=g.mD state ins:=by
 refine PG ok (CU ok).1 (fun hE a ha=>?_);have hv:=Rr hE
 have hi:∀n,n<g.first->(ids g.first).getD n 0=2*n:=fun n hn=>by
  rw[bq,aR (by simpa using hn)];simp[ids]
 have:=NZ hv (by simp[bW]) (by unfold Gr.first;omega) g.ands [] (ids g.first) (false::(ins++state)) (fun i hi=>by simp at hi) (C5 _) (by rw[hv];simp)
  (fun n hn=>by rw[Qo]at hn;rw[hi n hn,cg,BW]) (HN ok) (a.toNat/2) (by rw[Qo];exact Rg ok ha)
 rw[vQ,this];rfl
theorem abW{g:Gr}(ok:g.Ok)(s:gK g.first g.ands)(state ins:List Bool):g.c9.ia state ins=g.ia state ins/\g.c9.ic state ins=g.ic state ins/\g.c9.mD state ins=g.mD state ins:=by
 refine PG ok (CQ ok).1 (fun hE a ha=>?_);have:=agt ok s (Rr hE) (a.toNat/2+1) (a.toNat/2) (by omega) (Rg ok ha) (.inr (Hs ok ha));rw[vQ];have e:g.c9.ands=(dK g.first g.aY g.ands 0 [] (ids g.first)).1:=rfl;rw[e]at this;rw[this];rfl
theorem ZQ{g:Gr}(h:g.check=0)(state ins:List Bool):g.normal.ia state ins=g.ia state ins/\g.normal.ic state ins=g.ic state ins/\g.normal.mD state ins=g.mD state ins:=by
 have ok:=Gr.qP h;obtain⟨o1,s1,l1⟩:=CU ok
 have e:g.normal=g.dq.c9:=by unfold Gr.normal;rw[if_pos h]
 rw[e]
 have hf:g.dq.first=g.first:=vC _ _
 obtain⟨a1,a2,a3⟩:=abW o1 (by rw[hf];exact s1) state ins;obtain⟨b1,b2,b3⟩:=acx ok state ins;exact⟨a1.trans b1,a2.trans b2,a3.trans b3⟩
end Go.Proofs.YtchjijfjidlpjaaGreatDoor
namespace Go.Proofs.YtchjijfjidlpjaaGreatDoor
open Go.AM Go.Proofs
variable{Γ:Nat->Option AV}
theorem NQ(ins:List Bool):∀(s:Bs)(i:Nat),s.all mM=true->s.length=(ins.drop i).length->(bp s i).all (fun x=>rb ins (ew x).lit)=wv s (ins.drop i)
 |[],i,_,_=>by simp[bp,wv]
 |c::s,i,hg,hl=>by
  have hi:i<ins.length:=by
   refine xk fun hn=>?_
   rw[bA (by omega)]at hl;simp at hl
  rw[bJ hi]at hl⊢;rw[sN,ay]at hg;have ih:=NQ ins s (i+1) hg.2 (by simp at hl⊢;omega);rw[wv,<-ih,bp]
  by_cases a:c=45
  ·rw[if_pos a];simp[a]
  ·rw[if_neg a,sN];congr 1;have hc:=hg.1;simp only[mM,ff,aZ]at hc
   rcases hc with b|b|b
   ·subst b
    have e1:((2*(i:Int)+1)/2).toNat=i:=by omega
    have e2:(2*(i:Int)+1)%2=1:=by omega
    simp[ew,rb,e1,e2,bq,aR hi]
   ·subst b
    have e1:((2*(i:Int))/2).toNat=i:=by omega
    have e2:¬(2*(i:Int))%2=1:=by omega
    simp[ew,rb,e1,e2,bq,aR hi]
   ·exact absurd b a
def wu(c:Ct)(ins state:List Bool):Bool:=decide (ins.length=c.an.length)&&decide (state.length=c.ah.length)
def ic(c:Ct)(ins state:List Bool):List Bool×List Bool×Int:=if wu c ins state=true then(aim c ins state,ah3 c ins state,0)else([],[],11)
def Dk(c:Ct)(ins state:List Bool):List Bool×List Bool×Int:=if nQ c=true then ic c ins state else([],[],1)
@[simp] theorem aAw(n:Nat)(c:Ct)(N:List Bs)(l:List Nat):iu n (DU c N l)=true:=by simp[DU]
@[simp] theorem aAm(n m:Nat)(c:Ct)(N:List Bs)(l:List Nat):mO n m (DU c N l)=true:=by simp[DU]
end Go.Proofs.YtchjijfjidlpjaaGreatDoor
namespace Go.Proofs.YtchjijfjidlpjaaGreatDoor
open Go.AM Go.Proofs
def bP(v0:List Bool)(x:Gr)(a:Nat):Bool:=bW (cg x.ands v0) a
structure V0(x:Gr)(v0:List Bool):Prop where
 len:v0.length=x.first
 zero:bW v0 0=false
theorem V0.grow{x y:Gr}{v0:List Bool}(h:V0 x v0)(g:il x y):V0 y v0:=⟨by rw[g.first];exact h.len,h.zero⟩
theorem ql{x y:Gr}(g:il x y){v0:List Bool}(hv:V0 x v0){c:Nat}(hc:c<x.lits):bP v0 y c=bP v0 x c:=by
 obtain⟨e,he⟩:=g.ands;unfold bP;rw[he,xY];refine vw e ?_;rw[ze,hv.len];unfold Gr.lits Gr.all at hc;omega
theorem nf{v0:List Bool}{x:Gr}{a:Nat}:bP v0 x (a^^^1)=!bP v0 x a:=Ci
theorem N5{v0:List Bool}{x:Gr}{a t:Nat}(ht:t<=1):bP v0 x (a^^^t)=(bP v0 x a !=decide (t=1)):=by
 obtain rfl|rfl:t=0\/t=1:=by omega
 ·simp
 ·rw[nf];simp
theorem GH{v0:List Bool}{x:Gr}(hv:V0 x v0):bP v0 x 0=false:=by
 unfold bP;rw[vw _ (by rw[hv.len];unfold Gr.first;omega),hv.zero]
theorem CA{x y:Gr}{v0:List Bool}(ok:x.Ok)(hv:V0 x v0){p q d:Nat}(h:eY x p q=(y,some d)):bP v0 y d=(bP v0 x p&&bP v0 x q):=by
 obtain⟨he,rfl,rfl⟩:=acR h;have a:=Sl he
 have hf1:1<=x.first:=by unfold Gr.first;omega
 have h1:=a.a1;have h2:=a.b1;simp only[Gr.lits,Gr.all]at h1 h2;unfold bP;rw[a.R,a.C];have:=Pt (first:=x.first) (l:=x.ands) hv.len hv.zero hf1 (fun i hi=>ok.ands i hi) (a:=p) (b:=q) (by omega) (by omega);simpa using this
theorem NB{turn:Nat}(ht:turn<=1){v0:List Bool}:∀(l:List Nat)(x y:Gr)(c d:Nat),x.Ok->V0 x v0->c<x.lits->(∀a∈l,a<x.lits)->kX turn x c l=(y,some d)->bP v0 y d=(bP v0 x c&&l.all fun a=>bP v0 x (a^^^turn))
 |[],x,y,c,d,ok,hv,hc,hl,h=>by
  rw[kX]at h;cases h;simp
 |a::l,x,y,c,d,ok,hv,hc,hl,h=>by
  rw[kX]at h
  cases h1:eY x c (a^^^turn)with
  |mk z r=>
   rw[h1]at h
   cases r with
   |none=>cases h
   |some e=>
    obtain⟨g1,g2⟩:=o_ ok h1;have ih:=NB ht l z y e d g1.ok (hv.grow g1) (g2 e rfl) (fun b hb=>lu (hl b (by simp[hb])) g1.lits) h;rw[ih,CA ok hv h1,sN,oZ];congr 2;rw[fT,dU,dU]
    have e1:∀b∈l,bP v0 z (b^^^turn)=bP v0 x (b^^^turn):=fun b hb=>ql g1 hv (vS (n:=x.all) ht (hl b (by simp[hb])))
    exact⟨fun h b hb=>by rw[<-e1 b hb];exact h b hb,fun h b hb=>by rw[e1 b hb];exact h b hb⟩
theorem Cb{turn:Nat}(ht:turn<=1){v0:List Bool}{l:List Nat}(h0:l≠[]){x y:Gr}{d:Nat}(ok:x.Ok)(hv:V0 x v0)(hl:∀a∈l,a<x.lits)(h:iJ turn x l=(y,some d)):bP v0 y d=l.all fun a=>bP v0 x (a^^^turn):=by
 cases l with
 |nil=>exact absurd rfl h0
 |cons a r=>exact NB ht r x y _ d ok hv (vS (n:=x.all) ht (hl a (by simp))) (fun b hb=>hl b (by simp[hb])) h
theorem vh{α β:Type}{r:Gr×Option α}{f:Gr->α->Gr×Option β}{y:Gr}{b:β}(h:fL r f=(y,some b)):∃z a,r=(z,some a)/\f z a=(y,some b):=by
 obtain⟨z,o⟩:=r
 cases o with
 |none=>cases h
 |some a=>exact⟨z,a,rfl,h⟩
theorem vt{α β:Type}{r:Gr×Option α}{f:α->β}{y:Gr}{b:β}(h:eF f r=(y,some b)):∃a,r=(y,some a)/\f a=b:=by
 obtain⟨z,o⟩:=r
 cases o with
 |none=>cases h
 |some a=>
  simp only[eF,dm,bY,ak]at h;exact⟨a,by rw[h.1],h.2⟩
theorem ad7{x y:Gr}{v0:List Bool}(ok:x.Ok)(hv:V0 x v0){c a d:Nat}(hc:c<x.lits)(ha:a<x.lits)(h:DB x c a=(y,some d)):bP v0 y d=(bP v0 x c !=bP v0 x a):=by
 obtain⟨z,p,h1,h⟩:=vh h;obtain⟨w,q,h2,h⟩:=vh h;obtain⟨e,h3,rfl⟩:=vt h;obtain⟨g1,b1⟩:=o_ ok h1;obtain⟨g2,b2⟩:=o_ g1.ok h2;have hp:=b1 p rfl;have hq:=b2 q rfl;have e3:=CA g2.ok ((hv.grow g1).grow g2) h3;have e2:=CA g1.ok (hv.grow g1) h2;have e1:=CA ok hv h1;rw[nf,e3,nf,nf,ql g2 (hv.grow g1) hp,e2,e1,nf,nf,ql g1 hv hc,ql g1 hv ha]
 cases bP v0 x c<;>cases bP v0 x a<;>rfl
theorem PE(v:Bool)(l:List Bool):decide (jk (v::l)%2=1)=(v !=decide (jk l%2=1)):=by
 rw[jk]
 cases v
 ·simp
 ·simp only[cy];rw[fT];simp;omega
theorem Nz{v0:List Bool}:∀(l:List Nat)(x y:Gr)(c d:Nat),x.Ok->V0 x v0->c<x.lits->(∀a∈l,a<x.lits)->qO x c l=(y,some d)->bP v0 y d=(bP v0 x c !=decide (jk (l.map (bP v0 x))%2=1))
 |[],x,y,c,d,ok,hv,hc,hl,h=>by
  rw[qO]at h;cases h;simp[jk]
 |a::l,x,y,c,d,ok,hv,hc,hl,h=>by
  rw[qO]at h;obtain⟨z,e,h1,h⟩:=vh h;have g:=OM ok c a;rw[h1]at g;have ih:=Nz l z y e d g.1.ok (hv.grow g.1) (g.2 e rfl) (fun b hb=>lu (hl b (by simp[hb])) g.1.lits) h
  have e1:l.map (bP v0 z)=l.map (bP v0 x):=mb fun b hb=>ql g.1 hv (hl b (by simp[hb]))
  rw[ih,ad7 ok hv hc (hl a (by simp)) h1,e1,bU,PE]
  cases bP v0 x c<;>cases bP v0 x a<;>simp
theorem abX{v0:List Bool}{l:List Nat}(h0:l≠[]){x y:Gr}{d:Nat}(ok:x.Ok)(hv:V0 x v0)(hl:∀a∈l,a<x.lits)(h:Ac x l=(y,some d)):bP v0 y d=decide (jk (l.map (bP v0 x))%2=1):=by
 cases l with
 |nil=>exact absurd rfl h0
 |cons a r=>rw[Nz r x y a d ok hv (hl a (by simp)) (fun b hb=>hl b (by simp[hb])) h,bU,PE]
theorem QP:∀l:List Bool,decide (jk l=l.length)=l.all id
 |[]=>rfl
 |v::l=>by
  have:=Qk l;rw[jk,sN,<-QP l,bE]
  cases v
  ·have h:¬(0+jk l=l.length+1):=by omega
   simp;omega
  ·have h:(1+jk l=l.length+1)↔jk l=l.length:=by omega
   simp[h]
theorem Qq:∀l:List Bool,decide (0<jk l)=l.any id
 |[]=>rfl
 |v::l=>by
  rw[jk,List.any_cons,<-Qq l]
  cases v<;>simp<;>omega
theorem adl{n:Int}(h0:0<=n)(h9:n<=9){v0:List Bool}{l:List Nat}(hl0:2<=n->l≠[]){x y:Gr}{d:Nat}(ok:x.Ok)(hv:V0 x v0)(hl:∀a∈l,a<x.lits)(h:nH n x l=(y,some d)):bP v0 y d=Et n (l.map (bP v0 x)):=by
 unfold nH at h;unfold Et
 by_cases c1:n<=1
 ·rw[if_pos c1]at h
  cases h
  rw[if_pos (by omega),GH hv]
 ·rw[if_neg c1]at h;rw[if_neg (by omega)]
  by_cases c2:n<=5
  ·rw[if_pos c2]at h;rw[if_pos (by omega),Cb (by omega) (hl0 (by omega)) ok hv hl h,QP,List.all_map];simp[E_]
  ·rw[if_neg c2]at h;rw[if_neg (by omega)]
   by_cases c3:n<=7
   ·rw[if_pos c3]at h;obtain⟨e,h1,rfl⟩:=vt h;rw[if_pos (by omega),nf,Cb (by omega) (hl0 (by omega)) ok hv hl h1,Qq,List.any_map];simp only[nf];rw[fT];simp
   ·rw[if_neg c3]at h;rw[if_neg (by omega),abX (hl0 (by omega)) ok hv hl h]
theorem MN{α:Type}{p q:α->Bool}:∀{l:List α},(∀s∈l,p s=q s)->bH p l=bH q l
 |[],_=>by simp
 |a::l,h=>by rw[lE,lE,h a (by simp),MN fun s hs=>h s (by simp[hs])]
theorem F5{x y:Gr}(g:il x y){v0:List Bool}(hv:V0 x v0){l:List Nat}(hl:∀a∈l,a<x.lits):l.map (bP v0 y)=l.map (bP v0 x):=mb fun b hb=>ql g hv (hl b hb)
def Qz(v0:List Bool)(ins:List Nat)(vs:List Bool)(f:Nat):Prop:=
 ∀(x y:Gr)(l:List Fm)(c:Nat)(l':List Fm),x.Ok->V0 x v0->(∀a∈ins,a<x.lits)->ins.map (bP v0 x)=vs->jw ins f x l=(y,some (c,l'))->∀(w:Bool)(l2:List Fm),eU ins.length (rb vs) f l=some (w,l2)->bP v0 y c=w
theorem OH{v0:List Bool}{ins:List Nat}{vs:List Bool}{f:Nat}(ih:Qz v0 ins vs f)(a:Bool):∀(k:Nat)(x y:Gr)(ks:List Nat)(l:List Fm)(v:Bool)(q:List Nat)(l':List Fm)(w:Bool)(l2:List Fm),x.Ok->V0 x v0->(∀b∈ins,b<x.lits)->ins.map (bP v0 x)=vs->(∀b∈ks,b<x.lits)->
 kV (jw ins f) k x ks l=(y,some (q,l'))->f_ (eU ins.length (rb vs) f) a k v l=some (w,l2)->∃new,q=ks++new/\new.length=k/\w=if a=true then v&&new.all (bP v0 y)else v||new.any (bP v0 y)
 |0,x,y,ks,l,v,q,l',w,l2,ok,hv,hi,hm,hk,h1,h2=>by
  rw[kV]at h1;rw[f_]at h2
  cases h1;cases h2
  exact⟨[],by simp,rfl,by simp⟩
 |k+1,x,y,ks,l,v,q,l',w,l2,ok,hv,hi,hm,hk,h1,h2=>by
  rw[kV]at h1;rw[f_]at h2;obtain⟨z,p,h3,h1⟩:=vh h1;obtain⟨c,l1⟩:=p
  cases h4:eU ins.length (rb vs) f l with
  |none=>rw[h4]at h2;cases h2
  |some u=>
   rw[h4]at h2;obtain⟨u1,u2⟩:=u;have e1:=Gi ins _ _ f x l z c l1 u1 u2 h3 h4;subst e1;have hf:=tE ins f x l ok hi;rw[h3]at hf;have hc:=hf.2 _ rfl;simp only at hc hf h1 h2;have hz:=ih x z l c l1 ok hv hi hm h3 u1 l1 h4
   have hk2:∀b∈ks++[c],b<z.lits:=fun b hb=>by
    rcases aT.1 hb with hb|hb
    ·exact lu (hk b hb) hf.1.lits
    ·simp only[cE]at hb;subst hb;exact hc
   have hi2:∀b∈ins,b<z.lits:=fun b hb=>lu (hi b hb) hf.1.lits
   obtain⟨new,rfl,hn,rfl⟩:=OH ih a k z y (ks++[c]) l1 _ q l' w l2 hf.1.ok (hv.grow hf.1) hi2 (by rw[F5 hf.1 hv hi];exact hm) hk2 h1 h2;have g2:=(BM ins (tE ins f) k z (ks++[c]) l1 hf.1.ok hi2 hk2).1;rw[h1]at g2
   have hy:bP v0 y c=u1:=by rw[ql g2 (hv.grow hf.1) hc];exact hz
   refine⟨c::new,by simp,by simp[hn],?_⟩;rw[sN,List.any_cons,hy]
   cases a
   ·simp only[eH,da];rw[Bool.or_comm u1 v,Bool.or_assoc]
   ·simp only[cy];rw[Bool.and_comm u1 v,oZ]
theorem NP(v0:List Bool)(ins:List Nat)(vs:List Bool):∀f,Qz v0 ins vs f
 |0,x,y,l,c,l',ok,hv,hi,hm,h1,w,l2,h2=>by cases h1
 |f+1,x,y,[],c,l',ok,hv,hi,hm,h1,w,l2,h2=>by cases h1
 |f+1,x,y,t::l,c,l',ok,hv,hi,hm,h1,w,l2,h2=>by
  rw[jw]at h1;rw[eU]at h2
  split at h2
  ·rename_i ho;unfold fe at ho
   by_cases k2:t.kind=2
   ·rw[if_pos k2]at h1 h2 ho;simp only[ay,aZ]at ho
    cases h1;cases h2
    have q1:(t.lit/2).toNat<ins.length:=by omega
    subst hm;rw[N5 (by omega)];unfold rb;simp only[bq,jn,aR q1,dm,j4]
    have e1:((t.lit%2).toNat=1)↔t.lit%2=1:=by omega
    simp only[e1]
    cases bP v0 x ins[(t.lit/2).toNat]<;>simp
   ·rw[if_neg k2]at h1 h2 ho
    by_cases k34:t.kind=3\/t.kind=4
    ·rw[if_neg (by omega)]at h1;rw[if_pos k34]at ho;simp only[ay,aZ]at ho;obtain⟨z,p,h3,h1⟩:=vh h1;obtain⟨ks,l1⟩:=p;obtain⟨e,h4,he⟩:=vt h1;have hkf:=BM ins (tE ins f) t.kids.toNat x [] l ok hi (fun a ha=>by cases ha);rw[h3]at hkf;have hks:=hkf.2 _ rfl;simp only at hks;obtain⟨new,hq,hn,hw⟩:=OH (NP v0 ins vs f) _ _ _ _ _ _ _ _ _ _ _ ok hv hi hm (fun a ha=>by cases ha) h3 h2;rw[j3]at hq;rw[<-hq]at hn hw;simp only[bY]at he;obtain⟨rfl,_⟩:=he
     have h0:ks≠[]:=by
      rintro rfl
      simp at hn;omega
     have hvz:=hv.grow hkf.1
     by_cases k3:t.kind=3
     ·rw[if_pos k3]at h4;rw[Cb (by omega) h0 hkf.1.ok hvz hks h4,hw];simp[k3]
     ·have k4:t.kind=4:=by omega
      rw[if_neg k3]at h4;obtain⟨e2,h5,rfl⟩:=vt h4;rw[nf,Cb (by omega) h0 hkf.1.ok hvz hks h5,hw];simp only[nf,k4];rw[fT];simp
    ·rw[if_neg k34]at ho
     split at ho
     ·rename_i k01;simp only[ay,aZ]at ho;rw[if_pos k01]at h1
      cases h1
      rw[ho.2]at h2;simp only[Int.toNat_zero,f_,ak,bY]at h2;rw[<-h2.1]
      rcases k01 with k|k
      ·rw[k];simpa using GH hv
      ·rw[k];have:=nf (v0:=v0) (x:=x) (a:=0);rw[GH hv]at this;simpa using this
     ·cases ho
  ·cases h2
theorem acb{g:Gt}(hg:jj g=true){v0:List Bool}{ins:List Nat}(hlen:ins.length=g.ins.length){x y:Gr}{d:Nat}(ok:x.Ok)(hv:V0 x v0)(hl:∀a∈ins,a<x.lits)(h:jS x g ins=(y,some d)):bP v0 y d=Ae g (ins.map (bP v0 x)):=by
 unfold jS at h
 rcases Qn hg with⟨h0,h9,ho⟩|⟨h10,h8,hwr⟩
 ·rw[if_pos ⟨h0,h9⟩]at h;obtain⟨e,h1,rfl⟩:=vt h
  rw[N5 (by omega),adl h0 h9 (fun h2=>by
   have:=Re ho h2
   rintro rfl
   simp at hlen;omega) ok hv hl h1]
  unfold Ae;rw[if_neg (by omega)]
  have e2:decide ((g.op%2).toNat=1)=EF g.op:=by
   unfold EF;rw[fT];simp only[aZ];omega
  rw[e2]
  cases Et g.op (ins.map (bP v0 x))<;>cases EF g.op<;>rfl
 ·rw[if_neg (by omega)]at h;obtain⟨p,h1,rfl⟩:=vt h;obtain⟨c,l'⟩:=p;have hV:=P5 hwr (rb (ins.map (bP v0 x)));unfold Dw at hV
  split at hV
  ·split at hV
   ·rename_i v h5;have hfv:=NP v0 ins (ins.map (bP v0 x)) _ x y _ c l' ok hv hl rfl h1 v [] (by rw[hlen];exact h5);have hvv:=Option.some.inj hV
    have hfit:bH (fo (rb (ins.map (bP v0 x)))) g.rows=bH (fun s=>wv s (ins.map (bP v0 x))) g.rows:=by
     obtain⟨m,hm,_,_,h3⟩:=Pc hwr
     refine MN fun s hs=>?_
     have h6:=h3 s hs;have:=NQ (ins.map (bP v0 x)) s 0 h6.1 (by simp;omega);simpa[fo]using this
    unfold Ae;rw[if_pos h10,<-hfit,<-hvv,<-hfv];simp only
    cases g.off
    ·simp only[eH,da]
     cases bP v0 y c<;>rfl
    ·simp only[cy,nf]
     cases bP v0 y c<;>rfl
   ·cases hV
  ·cases hV
abbrev iR(c:Ct):Nat:=c.an.length+c.ah.length
structure pD(c:Ct)(v0:List Bool)(x:Gr)(v p:List Nat):Prop where
 grow:il (dC c) x
 len:v.length=(aD c).length
 inv:uq c x v p
 low:∀k(hk:k<v.length),k<iR c->v[k]=2*(k+1)
 eq:∀j∈p,∀h:j<c.af.length,∀hk:iR c+j<v.length,bP v0 x v[iR c+j]=Ae c.af[j] ((cD ((aD c).zip v) c.af[j].ins).map (bP v0 x))
 ins:∀j∈p,∀h:j<c.af.length,∀s∈c.af[j].ins,∃k,∃hk:k<(aD c).length,(aD c)[k]=s/\sv c p k
theorem OI{c:Ct}{p q:List Nat}{k:Nat}(h:sv c p k):sv c (p++q) k:=by
 rcases h with h|⟨j,hj,rfl⟩
 ·exact .inl h
 ·exact .inr ⟨j,mW _ hj,rfl⟩
theorem O6{c:Ct}(hn:(aD c).Nodup){v p:List Nat}(hv:v.length=(aD c).length){a d:Nat}(ha:a∉p){l:List Bs}(hl:∀s∈l,∃k,∃hk:k<(aD c).length,(aD c)[k]=s/\sv c p k):cD ((aD c).zip (v.set (iR c+a) d)) l=cD ((aD c).zip v) l:=by
 refine mb fun s hs=>?_
 obtain⟨k,hk,rfl,hc⟩:=hl s hs;rw[qN _ _ k hn hk (by simpa using hv),qN _ _ k hn hk hv,LB]
 rcases hc with hc|⟨j,hj,rfl⟩
 ·simp only[iR];omega
 ·simp only[iR]
  rintro e
  have:a=j:=by omega
  exact ha (this▸hj)
theorem pD.step{c:Ct}(okc:e_ c)(hn:(aD c).Nodup){v0:List Bool}(hv0:V0 (dC c) v0){i:Nat}(hi:i<(bm c).length){x y:Gr}{v:List Nat}{d:Nat}(h:pD c v0 x v ((bm c).take i))
 (hg:jS x (c.af[(bm c)[i]]'(qp c _ (bw hi))) (cD ((aD c).zip v) (c.af[(bm c)[i]]'(qp c _ (bw hi))).ins)=(y,some d)):
 pD c v0 y (v.set (iR c+(bm c)[i]) d) ((bm c).take (i+1)):=by
 have ha:=qp c _ (bw hi)
 have hic:=fun s hs=>Pz okc hi (s:=s) hs
 have hlt:=zD hn h.len h.inv hic;have hgb:=okc.af _ (bw ha);have hfi:=MI h.grow.ok (c.af[(bm c)[i]]) hlt;rw[hg]at hfi;have hd:=hfi.2 d rfl
 have hap:(bm c)[i]∉(bm c).take i:=by
  intro hm;obtain⟨x,hx,he⟩:=gC hm;rw[w9]at he;have:=(E8 (xs:=bm c) (h₀:=by simp at hx;omega) (h₁:=hi) (Mh c)).1 he
  simp at hx;omega
 have hval:=acb hgb (mY _ _) h.grow.ok (hv0.grow h.grow) hlt hg;have hst:(bm c).take (i+1)=(bm c).take i++[(bm c)[i]]:=kK hi;rw[hst];have hinsA:=O6 hn h.len (d:=d) hap hic;refine⟨h.grow.trans hfi.1,by simpa using h.len,h.inv.step hfi.1.lits hd,fun k hk hk2=>?_,fun j hj hjl hk=>?_,fun j hj hjl s hs=>?_⟩
 ·rw[LB (by simp only[iR]at hk2⊢;omega)];exact h.low k (by simpa using hk) hk2
 ·rcases aT.1 hj with hj|hj
  ·have hne:¬iR c+(bm c)[i]=iR c+j:=by
    rintro e
    have:(bm c)[i]=j:=by omega
    exact hap (this▸hj)
   have hij:=h.ins j hj hjl;rw[LB hne,O6 hn h.len hap hij]
   have hk':iR c+j<v.length:=by simpa using hk
   have hlj:=zD hn h.len h.inv hij;have e:=h.eq j hj hjl hk';rw[F5 hfi.1 (hv0.grow h.grow) hlj,<-e];exact ql hfi.1 (hv0.grow h.grow) (h.inv _ hk' (.inr ⟨j,hj,rfl⟩))
  ·simp only[cE]at hj;subst hj;rw[List.getElem_set_self,hinsA,hval,F5 hfi.1 (hv0.grow h.grow) hlt]
 ·rcases aT.1 hj with hj|hj
  ·obtain⟨k,hk,e,hc⟩:=h.ins j hj hjl s hs;exact⟨k,hk,e,OI hc⟩
  ·simp only[cE]at hj;subst hj;obtain⟨k,hk,e,hc⟩:=hic s hs;exact⟨k,hk,e,OI hc⟩
theorem adv{c:Ct}(okc:e_ c)(hn:(aD c).Nodup){v0:List Bool}(hv0:V0 (dC c) v0){y:Gr}{w:List Nat}:∀n i,i+n=(bm c).length->∀(x:Gr)(v:List Nat),pD c v0 x v ((bm c).take i)->ku c ((bm c).drop i) x v=(y,some w)->pD c v0 y w (bm c):=by
 intro n
 induction n with
 |zero=>
  intro i hi x v h h1;rw[bA (by omega),ku]at h1;rw[cR (by omega)]at h
  cases h1
  exact h
 |succ n ih=>
  intro i hi x v h h1
  have q1:i<(bm c).length:=by omega
  rw[bJ q1,GC c (qp c _ (bw q1))]at h1;obtain⟨z,d,h2,h1⟩:=vh h1;exact ih (i+1) (by omega) z _ (h.step okc hn hv0 q1 h2) h1
theorem ajf{c:Ct}(hc:cK c)(okc:e_ c)(v0:List Bool):pD c v0 (dC c) (gM (aD c).length) []:=
 ⟨.refl (Ig hc okc),vy _,PH hc,fun k hk _=>by simp[gM],fun j hj=>(by cases hj),fun j hj=>(by cases hj)⟩
theorem HD{c:Ct}(hc:cK c)(okc:e_ c)(hn:(aD c).Nodup){v0:List Bool}(hv0:V0 (dC c) v0){y:Gr}{w:List Nat}(h:pJ c=(y,some w)):pD c v0 y w (bm c):=
 adv okc hn hv0 (bm c).length 0 (by omega) _ _ (ajf hc okc v0) h
theorem M3(c:Ct):(dC c).first=1+iR c:=by simp[Gr.first,dC,iR,lx]
theorem CO{c:Ct}{state ins:List Bool}(hi:ins.length=c.an.length)(hs:state.length=c.ah.length):V0 (dC c) (false::(ins++state)):=⟨by rw[M3];simp[iR,hi,hs,Nat.add_comm],rfl⟩
theorem agQ(c:Ct){k:Nat}(hk:k<c.an.length):∃h:k<(aD c).length,(aD c)[k]=c.an[k]:=by
 have h:k<(aD c).length:=by rw[vL];omega
 refine⟨h,?_⟩
 have:(aD c)[k]? =some c.an[k]:=by
  rw[aD,cz (by simp;omega),cz hk,aR hk]
 exact(db.1 this).2
theorem agF(c:Ct){k:Nat}(hk:k<c.ah.length):∃h:c.an.length+k<(aD c).length,(aD c)[c.an.length+k]=c.ah[k].name:=by
 have h:c.an.length+k<(aD c).length:=by rw[vL];omega
 refine⟨h,?_⟩
 have:(aD c)[c.an.length+k]? =some c.ah[k].name:=by
  rw[aD,cz (by simp;omega),dk (by omega),rB,jn,aR hk];rfl
 exact(db.1 this).2
def Ag(c:Ct)(v0:List Bool)(y:Gr)(v:List Nat)(s:Bs):Bool:=bP v0 y (oR ((aD c).zip v) s)
theorem QA{c:Ct}{v0:List Bool}(hv0:V0 (dC c) v0){y:Gr}{v p:List Nat}(h:pD c v0 y v p){k:Nat}(hk:k<v.length)(hk2:k<iR c):bP v0 y v[k]=v0.getD (k+1) false:=by
 rw[h.low k hk hk2];have e:=M3 c
 have hlt:2*(k+1)<(dC c).lits:=by unfold Gr.lits Gr.all;omega
 rw[ql h.grow hv0 hlt];unfold bP;simp only[dC,cg];exact BW v0 (k+1)
theorem adU{c:Ct}(okc:e_ c)(hn:(aD c).Nodup)(hall:∀i<c.af.length,i∈bm c){state ins:List Bool}(hi:ins.length=c.an.length)(hs:state.length=c.ah.length){y:Gr}{v:List Nat}(h:pD c (false::(ins++state)) y v (bm c)):Dl c ins state (Ag c (false::(ins++state)) y v):=by
 have hv0:=CO hi hs;have hnl:=vL c;have hl:=h.len;refine⟨fun i hi2=>?_,fun i hi2=>?_,fun i hi2=>?_⟩
 ·obtain⟨h1,h2⟩:=agQ c hi2;unfold Ag;rw[<-h2,qN _ _ i hn h1 h.len,QA hv0 h (by omega) (by simp only[iR];omega)];simp only[bq,nT];rw[cz (by omega)]
 ·obtain⟨h1,h2⟩:=agF c hi2;unfold Ag;rw[<-h2,qN _ _ _ hn h1 h.len,QA hv0 h (by omega) (by simp only[iR];omega)];simp only[bq,nT];rw[dk (by omega),hi,rB]
 ·obtain⟨h1,h2⟩:=Db c hi2;have e:=h.eq i (hall i hi2) hi2 (by simp only[iR];omega)
  have e2:Ag c (false::(ins++state)) y v c.af[i].name=bP (false::(ins++state)) y (v[iR c+i]'(by simp only[iR];omega)):=by
   unfold Ag;rw[<-h2,qN _ _ _ hn h1 h.len]
  rw[e2,e];unfold z_ Rj;rw[okc.af _ (bw hi2)];simp only[fC,decide_true,sR,cD,iB];rfl
theorem PC{c:Ct}(hall:∀i<c.af.length,i∈bm c){s:Bs}(hs:s∈aD c):∃k,∃hk:k<(aD c).length,(aD c)[k]=s/\sv c (bm c) k:=by
 obtain⟨k,hk,he⟩:=gC hs;refine⟨k,hk,he,?_⟩;have hl:=vL c
 by_cases h1:k<c.an.length+c.ah.length
 ·exact .inl h1
 ·exact .inr ⟨k-(c.an.length+c.ah.length),hall _ (by omega),by omega⟩
theorem RR{c:Ct}(hc:cK c)(okc:e_ c)(hn:(aD c).Nodup)(hall:∀i<c.af.length,i∈bm c){v0:List Bool}{y:Gr}{v:List Nat}(h:pD c v0 y v (bm c)):(cv c y v).Ok:=by
 have ok:=h.grow.ok;have h0:=okc.mS;simp only[gf,kJ,iD]at h0
 have hnl:(c.ah.map (·.next)).length=c.ah.length:=by simp
 have hyn:y.next.length=c.ah.length:=by rw[h.grow.next];simp[dC]
 have hyi:y.init.length=c.ah.length:=by rw[h.grow.init];simp[dC]
 have hl1:=zD hn h.len h.inv (l:=c.ah.map (·.next)) (fun s hs=>PC hall (okc.used s (by simp only[fm,aT];exact .inl (.inr hs))));have hl2:=zD hn h.len h.inv (l:=c.aw) (fun s hs=>PC hall (okc.used s (by simp only[fm,aT];exact .inl (.inl hs))))
 have hfirst:(cv c y v).first=y.first:=by simp[Gr.first,cv,mY,hyn]
 have hall':(cv c y v).all=y.all:=by unfold Gr.all;rw[hfirst];rfl
 have hlits:(cv c y v).lits=y.lits:=by unfold Gr.lits;rw[hall']
 refine⟨ok.ins,?_,?_,?_,ok.init,fun a ha=>?_,fun a ha=>?_,fun i hi=>?_⟩
 ·have:=ok.sum;simp[cv,mY]at this⊢;omega
 ·simp[cv,mY];omega
 ·simp[cv,mY,hyi]
 ·rw[hlits];simp only[cv,cd]at ha;obtain⟨n,hn2,rfl⟩:=ha;have:=hl1 n hn2;omega
 ·rw[hlits];simp only[cv,cd]at ha;obtain⟨n,hn2,rfl⟩:=ha;have:=hl2 n hn2;omega
 ·have:=ok.ands i hi;rw[hfirst];exact this
theorem OX{c:Ct}{y:Gr}{v:List Nat}(state ins:List Bool)(ok:(cv c y v).Ok)(h1:y.ins=c.an.length):(cv c y v).ia state ins=if wu c ins state=true then 0 else 11:=by
 unfold Gr.ia;rw[Gr.qn ok];simp only[ne_eq,not_true_eq_false,da]
 have e:(cv c y v).fits state ins=wu c ins state:=by
  unfold Gr.fits wu;rw[fT];simp only[cv,fC,mY,h1,ay,aZ];omega
 rw[e]
theorem aei{c:Ct}(hb:kF c)(ho:nQ c=true){y:Gr}{v:List Nat}(hg:pJ c=(y,some v))(state ins:List Bool):
 (cv c y v).normal.check=0/\(cv c y v).normal.ia state ins=(Dk c ins state).2.2/\(cv c y v).normal.ic state ins=(Dk c ins state).1/\(cv c y v).normal.mD state ins=(Dk c ins state).2.1:=by
 obtain⟨hr,hnv,_⟩:=CE ho;obtain⟨okc,_⟩:=zn hr;have hc:=rP hb hr
 have hn:(aD c).Nodup:=by
  have:=BL okc;simpa[aD,fM]using this
 have hall:∀i<c.af.length,i∈bm c:=fun i hi=>by
  refine Fa fun hni=>?_
  have h1:=(Pm (tn hr) (bm c) hi).2 hni
  have h2:mr c=j9 (bm c) c.af 0:=by simp[mr,hr]
  rw[<-h2,hnv]at h1
  cases h1
 have nL:=HD hc okc hn (v0:=false::(List.replicate c.an.length false++List.replicate c.ah.length false)) (CO (by simp) (by simp)) hg;have hok:=RR hc okc hn hall nL;have hck:=Gr.qn hok;obtain⟨hn1,hn2,hn3⟩:=ZQ hck state ins;have hns:=(Bq hck).2.1;refine⟨hns,?_⟩;rw[hn1,hn2,hn3,OX state ins hok (by rw[nL.grow.ins];rfl)];unfold Dk ic Gr.ic Gr.mD;rw[if_pos ho,OX state ins hok (by rw[nL.grow.ins];rfl)]
 cases hlb:wu c ins state with
 |false=>simp
 |true=>
  simp only[cy];simp only[wu,ay,aZ]at hlb;obtain⟨hi,hs⟩:=hlb;have hL:=HD hc okc hn (CO hi hs) hg;have hV:=adU okc hn hall hi hs hL;have hone:=adG okc hall hV (abv okc hall hi hs)
  have e0:∀l:List Bs,(∀s∈l,s∈aD c)->sb ((cv c y v).ux state ins) ((cD ((aD c).zip v) l).map fun n:Nat=>(n:Int))=l.map (jY (qV c ins state)):=by
   intro l hl;unfold sb cD;rw[iB,iB]
   refine mb fun s hs=>?_
   rw[<-hone s (hl s hs)];rfl
  refine⟨trivial,?_,?_⟩
  ·have:=e0 c.aw (fun s hs=>Ik okc hs);exact this
  ·have:=e0 (c.ah.map (·.next)) (fun s hs=>by
    obtain⟨q,hq,rfl⟩:=cd.1 hs
    exact zr okc hq)
   rw[iB]at this;exact this
end Go.Proofs.YtchjijfjidlpjaaGreatDoor
namespace Go.Proofs.YtchjijfjidlpjaaGreatDoor
open Go.AM Go.Proofs
variable{Γ:Nat->Option AV}
theorem Md.ajk{c:Ct}(hb:kF c):rj (tZ c).1:=by
 unfold tZ
 split
 ·rename_i h0
  split
  ·exact⟨QV,by simp[kC],by simp[kC],by simp[kC]⟩
  ·rename_i v hv
   have ho:nQ c=true:=by simp[nQ,h0]
   obtain⟨hr,_,_⟩:=CE ho;have hc:=rP hb hr;have hS:=(aei hb ho (y:=(pJ c).1) (v:=v) (by rw[<-hv]) [] []).1;exact⟨(Gr.qP hS).iA,by have:=hc.1;simp[ep];omega,by have:=hc.2.2.1;simp[ep];omega,by have:=hc.2.1;simp[ep];omega⟩
 ·exact⟨QV,by simp[kC],by simp[kC],by simp[kC]⟩
end Go.Proofs.YtchjijfjidlpjaaGreatDoor
namespace Go.Proofs.YtchjijfjidlpjaaGreatDoor
open Go.AM Go.Proofs
def Can{α:Type}(k:Nat)(x:Gr)(r:Gr×Option α):Prop:=∃a,r.2=some a/\r.1.ands.length<=x.ands.length+k
theorem Can.map{α β:Type}{k:Nat}{x:Gr}{r:Gr×Option α}(h:Can k x r)(f:α->β):Can k x (eF f r):=by
 obtain⟨a,h1,h2⟩:=h;exact⟨f a,by simp[eF,h1],h2⟩
theorem Can.then{α β:Type}{k m:Nat}{x:Gr}{r:Gr×Option α}{f:Gr->α->Gr×Option β}(h:Can k x r)(hf:∀a,r.2=some a->r.1.ands.length<=x.ands.length+k->Can m r.1 (f r.1 a)):Can (k+m) x (fL r f):=by
 obtain⟨a,h1,h2⟩:=h;obtain⟨y,o⟩:=r;simp only at h1 h2 hf;subst h1;obtain⟨b,h3,h4⟩:=hf a rfl h2;exact⟨b,h3,by simp only[fL];omega⟩
theorem Can.more{α:Type}{k m:Nat}{x:Gr}{r:Gr×Option α}(h:Can k x r)(hk:k<=m):Can m x r:=by
 obtain⟨a,h1,h2⟩:=h;exact⟨a,h1,by omega⟩
theorem OR(first:Nat):∀(ps l:List (Int×Int))(to:List Nat),∃e,(fv first ps l to).2=to++e
 |[],l,to=>⟨[],by simp[fv]⟩
 |p::ps,l,to=>by
  rw[fv]
  obtain⟨e,he⟩:=OR first ps (bO first l (bo to p.1.toNat) (bo to p.2.toNat)).1 (to++[(bO first l (bo to p.1.toNat) (bo to p.2.toNat)).2])
  exact⟨_::e,by rw[he,cI];rfl⟩
theorem Hr(first:Nat)(aY:List Bool):∀(ps:List (Int×Int))(i:Nat)(l:List (Int×Int))(to:List Nat),∃e,(dK first aY ps i l to).2=to++e
 |[],i,l,to=>⟨[],by simp[dK]⟩
 |p::ps,i,l,to=>by
  rw[dK]
  split
  ·obtain⟨e,he⟩:=Hr first aY ps (i+1) (bO first l (bo to p.1.toNat) (bo to p.2.toNat)).1 (to++[(bO first l (bo to p.1.toNat) (bo to p.2.toNat)).2])
   exact⟨_::e,by rw[he,cI];rfl⟩
  ·obtain⟨e,he⟩:=Hr first aY ps (i+1) l (to++[0])
   exact⟨_::e,by rw[he,cI];rfl⟩
theorem OK{first k:Nat}(h:k<first)(e:List Nat):bo (ids first++e) (2*k)=2*k:=by
 unfold bo;rw[show 2*k/2=k by omega,show 2*k%2=0 by omega,bq,cz (by simpa using h),aR (by simpa using h)];simp[ids]
theorem Ml{g:Gr}(h:g.check=0):∃F:Nat->Nat,(∀k<g.first,F (2*k)=2*k)/\g.normal.outs=g.outs.map (fun a=>(F a.toNat:Int))/\g.normal.next=g.next.map (fun a=>(F a.toNat:Int))/\g.normal.init=g.init/\g.normal.ins=g.ins:=by
 have e:g.normal=g.dq.c9:=by unfold Gr.normal;rw[if_pos h]
 obtain⟨e1,h1⟩:=OR g.first g.ands [] (ids g.first)
 obtain⟨e2,h2⟩:=Hr g.dq.first g.dq.aY g.dq.ands 0 [] (ids g.dq.first)
 have hf:g.dq.first=g.first:=vC _ _
 refine⟨fun a=>bo (dK g.dq.first g.dq.aY g.dq.ands 0 [] (ids g.dq.first)).2 (bo (fv g.first g.ands [] (ids g.first)).2 a),fun k hk=>?_,?_,?_,?_,?_⟩
 ·simp only;rw[h1,h2,OK hk,hf,OK hk]
 ·rw[e];simp[Gr.c9,Gr.dj,eh,Gr.dq]
 ·rw[e];simp[Gr.c9,Gr.dj,eh,Gr.dq]
 ·rw[e];rfl
 ·rw[e];rfl
theorem QB(m:Md)(F:Bs->Int):∀l:List Bs,(∀s∈l,0<=dn m s->F s=2*dn m s)->qW m l (l.map F)=false
 |[],_=>rfl
 |s::l,h=>by
  rw[bU,qW,QB m F l fun t ht=>h t (by simp[ht])];simp only[Bool.or_false,Bool.and_eq_false_iff,iD,E4,aZ]
  by_cases h1:0<=dn m s
  ·exact .inr (h s (by simp) h1)
  ·exact .inl h1
theorem G'(s:Bs):∀(l:List Bs)(i:Nat),0<=fy s l i->∃k,∃hk:k<l.length,l[k]=s/\fy s l i=((i+k:Nat):Int)
 |[],i,h=>by simp[fy]at h
 |a::l,i,h=>by
  rw[fy]at h⊢
  split
  ·rename_i h1;exact⟨0,by simp,by simp[h1],by simp⟩
  ·rename_i h1;rw[if_neg h1]at h;obtain⟨k,hk,e1,e2⟩:=G' s l (i+1) h;exact⟨k+1,by simp;omega,by simpa using e1,by rw[e2];congr 1;omega⟩
theorem Cc{α:Type}{p:α->Bool}:∀{l:List α},(∀x∈l,p x=false)->bH p l=false
 |[],_=>rfl
 |a::l,h=>by
  rw[lE,h a (by simp),Cc fun x hx=>h x (by simp[hx])];rfl
theorem aeg{c:Ct}(hb:kF c)(ho:nQ c=true){y:Gr}{v:List Nat}(hg:pJ c=(y,some v)):
 jc (ep c y v)=0/\(ep c y v).g.strict=true/\(ep c y v).g.init=c.ah.map (·.init):=by
 obtain⟨hr,hnv,_⟩:=CE ho;obtain⟨okc,_⟩:=zn hr;have hc:=rP hb hr;have hn:(aD c).Nodup:=okc.nodup
 have hall:∀i<c.af.length,i∈bm c:=fun i hi=>by
  refine Fa fun hni=>?_
  have h1:=(Pm (tn hr) (bm c) hi).2 hni
  have h2:mr c=j9 (bm c) c.af 0:=by simp[mr,hr]
  rw[<-h2,hnv]at h1
  cases h1
 have nL:=HD hc okc hn (v0:=false::(List.replicate c.an.length false++List.replicate c.ah.length false)) (CO (by simp) (by simp)) hg;have hok:=RR hc okc hn hall nL;have hck:=Gr.qn hok;obtain⟨hs,hns,_⟩:=Bq hck;obtain⟨F,f1,f2,f3,f4,f5⟩:=Ml hck
 have hyi:y.ins=c.an.length:=by rw[nL.grow.ins];rfl
 have hyn:y.next.length=c.ah.length:=by rw[nL.grow.next];simp[dC]
 have hinit:(cv c y v).normal.init=c.ah.map (·.init):=by rw[f4];exact nL.grow.init
 have hfirst:(cv c y v).first=1+c.an.length+c.ah.length:=by simp[Gr.first,cv,mY,hyi]
 have hbase:(c.an++c.ah.map (·.name)).Nodup:=by
  rw[aD,ly]at hn;exact hn.1
 refine⟨?_,hs,hinit⟩;unfold jc;rw[if_neg (by simp only[ep];rw[hns];decide),if_neg,if_neg,if_neg,if_neg]
 ·have ho2:(ep c y v).g.outs=c.aw.map fun s=>(F (oR ((aD c).zip v) s):Int):=by
   simp only[ep];rw[f2];simp only[cv,cD,iB]
   exact mb fun s _=>by simp
  rw[ho2,show(ep c y v).aw=c.aw from rfl,QB]
  ·simp
  ·intro s hs2 hp
   have e0:dn (ep c y v) s=if fy s (c.an++c.ah.map (·.name)) 0<0 then-1 else fy s (c.an++c.ah.map (·.name)) 0+1:=rfl
   have hp2:0<=fy s (c.an++c.ah.map (·.name)) 0:=by
    rw[e0]at hp
    split at hp<;>omega
   have he:dn (ep c y v) s=fy s (c.an++c.ah.map (·.name)) 0+1:=by
    rw[e0,if_neg (by omega)]
   obtain⟨k,hk,k1,k2⟩:=G' s _ 0 hp2
   have hk3:k<c.an.length+c.ah.length:=by simpa using hk
   have hkn:k<(aD c).length:=by simp[aD];omega
   have e1:(aD c)[k]=s:=by
    rw[<-k1];simp only[aD];rw[uF hk]
   have hkv:k<v.length:=by rw[nL.len];exact hkn
   have hlk:oR ((aD c).zip v) s=2*(k+1):=by
    rw[<-e1,qN _ _ k hn hkn nL.len];exact nL.low k hkv hk3
   rw[he,k2,hlk,f1 (k+1) (by rw[hfirst];omega)];omega
 ·have t1:nS (c.an++c.ah.map (·.name))=false:=by simp[nS,Hk hbase]
  have t2:nS c.aw=false:=by simp[nS,okc.outs]
  simp[ep,t1,t2]
 ·have n1:∀s∈mB c,(!fK s)=false:=fun s hs=>by rw[okc.names s hs];rfl
  simp only[Dz,ep]
  rw[Cc fun s hs=>n1 s (by simp[mB,hs]),Cc fun s hs=>n1 s (by
   obtain⟨q,hq,rfl⟩:=cd.1 hs;simp only[mB,pt,aT,oV]
   exact .inl (.inr ⟨q,hq,by simp⟩)),Cc fun s hs=>n1 s (by simp[mB,hs])]
  simp
 ·have l1:((ep c y v).an.length:Int)=(ep c y v).g.ins:=by
   show(c.an.length:Int)=(cv c y v).normal.ins
   rw[f5];exact hyi.symm
  have l2:(ep c y v).ah.length=(ep c y v).g.next.length:=by
   show(c.ah.map (·.name)).length=(cv c y v).normal.next.length
   rw[f3];simp[cv,mY]
  have l3:(ep c y v).aw.length=(ep c y v).g.outs.length:=by
   show c.aw.length=(cv c y v).normal.outs.length
   rw[f2];simp[cv,mY]
  simp[oC,l1,l2,l3]
structure jU(m:Md):Prop where
 g:m.g.check=0
 lI:(m.an.length:Int)=m.g.ins
 lL:m.ah.length=m.g.next.length
 lO:m.aw.length=m.g.outs.length
 names:∀s∈m.an++m.ah++m.aw,fK s=true
 nd:(m.an++m.ah).Nodup
 JS:m.aw.Nodup
 out:∀i(h:i<m.aw.length)(h2:i<m.g.outs.length),0<=dn m m.aw[i]->m.g.outs[i]=2*dn m m.aw[i]
theorem O_(m:Md):∀(l:List Bs)(r:List Int),qW m l r=false->∀i(h:i<l.length)(h2:i<r.length),0<=dn m l[i]->r[i]=2*dn m l[i]
 |[],r,_,i,h,_=>by simp at h
 |s::l,[],_,i,_,h=>by simp at h
 |s::l,a::r,h,i,h1,h2=>by
  rw[qW]at h;simp only[kJ,Bool.and_eq_false_iff,iD,E4,aZ]at h
  cases i with
  |zero=>
   intro h3
   rcases h.1 with h|h
   ·exact absurd h3 h
   ·exact h
  |succ i=>exact O_ m l r h.2 i (by simpa using h1) (by simpa using h2)
theorem Rb{l:List Bs}(h:nS l=false):l.Nodup:=by
 unfold nS je at h;exact(FG l [] (by simpa using h)).1
theorem adb{m:Md}(h:jc m=0):jU m:=by
 unfold jc at h
 split at h
 ·rename_i h1;exact absurd h h1
 ·rename_i h1
  split at h
  ·cases h
  ·rename_i h2
   split at h
   ·cases h
   ·rename_i h3
    split at h
    ·cases h
    ·rename_i h4
     split at h
     ·cases h
     ·rename_i h5;simp only[oC,Dz,ff,not_or,j7,iD,ET,Bool.not_eq_true]at h1 h2 h3 h4 h5;refine⟨h1,h2.1,h2.2.1,h2.2.2,fun s hs=>?_,Rb h4.1,Rb h4.2,O_ m _ _ h5⟩;simp only[aT]at hs
      rcases hs with(hs|hs)|hs
      ·simpa using kR.1 h3.1 s hs
      ·simpa using kR.1 h3.2.1 s hs
      ·simpa using kR.1 h3.2.2 s hs
theorem MO(m:Md)(s:Bs):dn (bI m) s=dn m s:=rfl
theorem jU.first{m:Md}(h:jU m):m.g.first=1+(m.an++m.ah).length:=by
 have h1:=h.lI;have h2:=h.lL
 unfold Gr.first
 simp only[bu];omega
theorem jU.norm{m:Md}(h:jU m):jU (bI m)/\(bI m).g.strict=true:=by
 obtain⟨F,f1,f2,f3,f4,f5⟩:=Ml h.g;obtain⟨s1,s2,_⟩:=Bq h.g;refine⟨⟨s2,(show(m.an.length:Int)=m.g.normal.ins by rw[h.lI];exact f5.symm),?_,?_,h.names,h.nd,h.JS,fun i h1 h2 h3=>?_⟩,s1⟩
 ·show m.ah.length=m.g.normal.next.length
  rw[f3];simp[h.lL]
 ·show m.aw.length=m.g.normal.outs.length
  rw[f2];simp[h.lO]
 ·have h4:i<m.g.outs.length:=by rw[<-h.lO];exact h1
  have e:=h.out i h1 h4 h3
  have e2:(bI m).g.outs[i]=(F (m.g.outs[i]).toNat:Int):=by
   show m.g.normal.outs[i]'h2=_
   have:m.g.normal.outs[i]? =some (F (m.g.outs[i]).toNat:Int):=by rw[f2,jn,aR h4];rfl
   exact(db.1 this).2
  rw[e2,MO];rw[MO]at h3;obtain⟨p1,p2⟩:=Mr m m.aw[i];obtain⟨k,hk⟩:=gB (show 0<=dn m m.aw[i]from h3)
  have e3:(m.g.outs[i]).toNat=2*k:=by rw[e,hk];omega
  have hf:=h.first
  simp only[bu]at hf;have hk2:dn m m.aw[i]=(k:Int):=hk;rw[e3,f1 k (by omega),show(bI m).aw[i]=m.aw[i]from rfl,hk2];omega
theorem abm{m:Md}{s:Bs}:dn m s<0↔s∉m.an++m.ah:=by
 unfold dn;have h:=CT s (m.an++m.ah) 0;have h2:=G9 s (m.an++m.ah) 0;constructor
 ·intro h1 hm
  split at h1
  ·rename_i h3;rw[E1.2 hm,aZ]at h2;omega
  ·omega
 ·intro hm
  have:(m.an++m.ah).contains s=false:=by simpa using hm
  rw[this,iD]at h2;rw[if_pos (by omega)];omega
theorem abp{m:Md}{s:Bs}(h:0<=dn m s):∃k,∃hk:k<(m.an++m.ah).length,(m.an++m.ah)[k]=s/\dn m s=k+1:=by
 unfold dn at h⊢
 split at h
 ·omega
 ·rename_i h1;obtain⟨k,hk,e1,e2⟩:=G' s (m.an++m.ah) 0 (by omega);exact⟨k,hk,e1,by rw[if_neg h1,e2];omega⟩
end Go.Proofs.YtchjijfjidlpjaaGreatDoor
