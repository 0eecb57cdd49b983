/- Graphs: Normal does what the graph does. No program in sight. -/
import Derived.Test.YtchjijfjidlpjaaGreatDoorJ
import Derived.Test.YtchjijfjidlpjaaGreatDoorH
import Derived.Test.YtchjijfjidlpjaaGreatDoorF
import Derived.Test.YtchjijfjidlpjaaGreatDoorCode
import Derived.Test.YtchjijfjidlpjaaGreatDoorAMd
import Derived.Test.YtchjijfjidlpjaaGreatDoorI
import Derived.Test.YtchjijfjidlpjaaGreatDoorG
set_option linter.unusedSimpArgs false
set_option linter.unusedVariables false
namespace Go.Proofs.YtchjijfjidlpjaaGreatDoor
open Go.AM Go.Proofs
theorem eQ.wf{first:Nat}{l:List (Int×Int)}(h:eQ first l):n8 first l:=by
 intro i hi;obtain⟨p,q,e,s1,s2,s3,s4⟩:=h.at_ i hi
 rw[e];simp only;omega
theorem aba{g:Gr}(ok:g.Ok){a:Int}(h:a∈g.next++g.outs):a.toNat/2<g.first+g.ands.length:=by
 have hl:g.lits=2*(g.first+g.ands.length):=rfl
 rcases ba.1 h with h|h
 ·have:=ok.next a h;omega
 ·have:=ok.outs a h;omega
end Go.Proofs.YtchjijfjidlpjaaGreatDoor
namespace Go.Proofs.YtchjijfjidlpjaaGreatDoor
open Go.AM Go.Proofs
variable{Γ:Nat->Option AV}
theorem KJ(ins:List Bool):∀(s:Bs)(i:Nat),s.all lZ=true->s.length=(ins.drop i).length->(bJ s i).all (fun x=>ph ins (fK x).lit)=uk s (ins.drop i)
 |[],i,_,_=>by simp[bJ,uk]
 |c::s,i,hg,hl=>by
  have hi:i<ins.length:=by
   refine xy fun hn=>?_
   rw[bq (by omega)]at hl;simp at hl
  rw[br hi]at hl⊢;rw[sx,aC]at hg;have ih:=KJ ins s (i+1) hg.2 (by simp at hl⊢;omega);rw[uk,<-ih,bJ]
  by_cases a:c=45
  ·rw[if_pos a];simp[a]
  ·rw[if_neg a,sx];congr 1;have hc:=hg.1;simp only[lZ,fR,a8]at hc
   rcases hc with b|b|b
   ·subst b
    have e1:((2*(i:Int)+1)/2).toNat=i:=by omega
    have e2:(2*(i:Int)+1)%2=1:=by omega
    simp[fK,ph,e1,e2,bz,a_ hi]
   ·subst b
    have e1:((2*(i:Int))/2).toNat=i:=by omega
    have e2:¬(2*(i:Int))%2=1:=by omega
    simp[fK,ph,e1,e2,bz,a_ hi]
   ·exact absurd b a
def abA(c:Ct)(ins state:List Bool):Bool:=decide (ins.length=c.ak.length)&&decide (state.length=c.ai.length)
def qu(c:Ct)(ins state:List Bool):List Bool×List Bool×Int:=if abA c ins state=true then(ab2 c ins state,abY c ins state,0)else([],[],11)
@[simp] theorem aqD(n:Nat)(c:Ct)(N:List Bs)(l:List Nat):mZ n (AT c N l)=true:=by simp[AT]
@[simp] theorem aqK(n m:Nat)(c:Ct)(N:List Bs)(l:List Nat):mV n m (AT c N l)=true:=by simp[AT]
end Go.Proofs.YtchjijfjidlpjaaGreatDoor
namespace Go.Proofs.YtchjijfjidlpjaaGreatDoor
open Go.AM Go.Proofs
def bE(v0:List Bool)(x:Gr)(a:Nat):Bool:=bR (cD x.ands v0) a
structure V0(x:Gr)(v0:List Bool):Prop where
 len:v0.length=x.first
 zero:bR v0 0=false
theorem V0.grow{x y:Gr}{v0:List Bool}(h:V0 x v0)(g:fA x y):V0 y v0:=⟨by rw[g.first];exact h.len,h.zero⟩
theorem qb{x y:Gr}(g:fA x y){v0:List Bool}(hv:V0 x v0){c:Nat}(hc:c<x.lits):bE v0 y c=bE v0 x c:=by
 obtain⟨e,he⟩:=g.ands;unfold bE;rw[he,sQ];refine vI e ?_;rw[vH,hv.len];unfold Gr.lits Gr.all at hc;omega
theorem ly{v0:List Bool}{x:Gr}{a:Nat}:bE v0 x (a^^^1)=!bE v0 x a:=D4
theorem KM{v0:List Bool}{x:Gr}{a t:Nat}(ht:t<=1):bE v0 x (a^^^t)=(bE v0 x a !=decide (t=1)):=by
 obtain rfl|rfl:t=0\/t=1:=by omega
 ·simp
 ·rw[ly];simp
theorem Du{v0:List Bool}{x:Gr}(hv:V0 x v0):bE v0 x 0=false:=by
 unfold bE;rw[vI _ (by rw[hv.len];unfold Gr.first;omega),hv.zero]
theorem zE{x y:Gr}{v0:List Bool}(ok:x.Ok)(hv:V0 x v0){p q d:Nat}(h:gS x p q=(y,some d)):bE v0 y d=(bE v0 x p&&bE v0 x q):=by
 obtain⟨he,rfl,rfl⟩:=Wb h;have a:=NF he
 have hf1:1<=x.first:=by unfold Gr.first;omega
 have h1:=a.a1;have h2:=a.b1;simp only[Gr.lits,Gr.all]at h1 h2;unfold bE;rw[a.R,a.C];have:=Lc (first:=x.first) (l:=x.ands) hv.len hv.zero hf1 (fun i hi=>ok.ands i hi) (a:=p) (b:=q) (by omega) (by omega);simpa using this
theorem KH{turn:Nat}(ht:turn<=1){v0:List Bool}:∀(l:List Nat)(x y:Gr)(c d:Nat),x.Ok->V0 x v0->c<x.lits->(∀a∈l,a<x.lits)->nJ turn x c l=(y,some d)->bE v0 y d=(bE v0 x c&&l.all fun a=>bE v0 x (a^^^turn))
 |[],x,y,c,d,ok,hv,hc,hl,h=>by
  rw[nJ]at h;cases h;simp
 |a::l,x,y,c,d,ok,hv,hc,hl,h=>by
  rw[nJ]at h
  cases h1:gS x c (a^^^turn)with
  |mk z r=>
   rw[h1]at h
   cases r with
   |none=>cases h
   |some e=>
    obtain⟨g1,g2⟩:=ta ok h1;have ih:=KH ht l z y e d g1.ok (hv.grow g1) (g2 e rfl) (fun b hb=>nh (hl b (by simp[hb])) g1.lits) h;rw[ih,zE ok hv h1,sx,pM];congr 2;rw[gL,dL,dL]
    have e1:∀b∈l,bE v0 z (b^^^turn)=bE v0 x (b^^^turn):=fun b hb=>qb g1 hv (v7 (n:=x.all) ht (hl b (by simp[hb])))
    exact⟨fun h b hb=>by rw[<-e1 b hb];exact h b hb,fun h b hb=>by rw[e1 b hb];exact h b hb⟩
theorem zm{turn:Nat}(ht:turn<=1){v0:List Bool}{l:List Nat}(h0:l≠[]){x y:Gr}{d:Nat}(ok:x.Ok)(hv:V0 x v0)(hl:∀a∈l,a<x.lits)(h:qt turn x l=(y,some d)):bE v0 y d=l.all fun a=>bE v0 x (a^^^turn):=by
 cases l with
 |nil=>exact absurd rfl h0
 |cons a r=>exact KH ht r x y _ d ok hv (v7 (n:=x.all) ht (hl a (by simp))) (fun b hb=>hl b (by simp[hb])) h
theorem vA{α β:Type}{r:Gr×Option α}{f:Gr->α->Gr×Option β}{y:Gr}{b:β}(h:nN r f=(y,some b)):∃z a,r=(z,some a)/\f z a=(y,some b):=by
 obtain⟨z,o⟩:=r
 cases o with
 |none=>cases h
 |some a=>exact⟨z,a,rfl,h⟩
theorem tj{α β:Type}{r:Gr×Option α}{f:α->β}{y:Gr}{b:β}(h:iT f r=(y,some b)):∃a,r=(y,some a)/\f a=b:=by
 obtain⟨z,o⟩:=r
 cases o with
 |none=>cases h
 |some a=>
  simp only[iT,eb,bH,al]at h;exact⟨a,by rw[h.1],h.2⟩
theorem Y1{x y:Gr}{v0:List Bool}(ok:x.Ok)(hv:V0 x v0){c a d:Nat}(hc:c<x.lits)(ha:a<x.lits)(h:Fz x c a=(y,some d)):bE v0 y d=(bE v0 x c !=bE v0 x a):=by
 obtain⟨z,p,h1,h⟩:=vA h;obtain⟨w,q,h2,h⟩:=vA h;obtain⟨e,h3,rfl⟩:=tj h;obtain⟨g1,b1⟩:=ta ok h1;obtain⟨g2,b2⟩:=ta g1.ok h2;have hp:=b1 p rfl;have hq:=b2 q rfl;have e3:=zE g2.ok ((hv.grow g1).grow g2) h3;have e2:=zE g1.ok (hv.grow g1) h2;have e1:=zE ok hv h1;rw[ly,e3,ly,ly,qb g2 (hv.grow g1) hp,e2,e1,ly,ly,qb g1 hv hc,qb g1 hv ha]
 cases bE v0 x c<;>cases bE v0 x a<;>rfl
theorem La(v:Bool)(l:List Bool):decide (gH (v::l)%2=1)=(v !=decide (gH l%2=1)):=by
 rw[gH]
 cases v
 ·simp
 ·simp only[bY];rw[gL];simp;omega
theorem Kq{v0:List Bool}:∀(l:List Nat)(x y:Gr)(c d:Nat),x.Ok->V0 x v0->c<x.lits->(∀a∈l,a<x.lits)->ud x c l=(y,some d)->bE v0 y d=(bE v0 x c !=decide (gH (l.map (bE v0 x))%2=1))
 |[],x,y,c,d,ok,hv,hc,hl,h=>by
  rw[ud]at h;cases h;simp[gH]
 |a::l,x,y,c,d,ok,hv,hc,hl,h=>by
  rw[ud]at h;obtain⟨z,e,h1,h⟩:=vA h;have g:=Kf ok c a;rw[h1]at g;have ih:=Kq l z y e d g.1.ok (hv.grow g.1) (g.2 e rfl) (fun b hb=>nh (hl b (by simp[hb])) g.1.lits) h
  have e1:l.map (bE v0 z)=l.map (bE v0 x):=pK fun b hb=>qb g.1 hv (hl b (by simp[hb]))
  rw[ih,Y1 ok hv hc (hl a (by simp)) h1,e1,cv,La]
  cases bE v0 x c<;>cases bE v0 x a<;>simp
theorem Ws{v0:List Bool}{l:List Nat}(h0:l≠[]){x y:Gr}{d:Nat}(ok:x.Ok)(hv:V0 x v0)(hl:∀a∈l,a<x.lits)(h:Fq x l=(y,some d)):bE v0 y d=decide (gH (l.map (bE v0 x))%2=1):=by
 cases l with
 |nil=>exact absurd rfl h0
 |cons a r=>rw[Kq r x y a d ok hv (hl a (by simp)) (fun b hb=>hl b (by simp[hb])) h,cv,La]
theorem Mn:∀l:List Bool,decide (gH l=l.length)=l.all id
 |[]=>rfl
 |v::l=>by
  have:=MW l;rw[gH,sx,<-Mn l,bC]
  cases v
  ·have h:¬(0+gH l=l.length+1):=by omega
   simp;omega
  ·have h:(1+gH l=l.length+1)↔gH l=l.length:=by omega
   simp[h]
theorem Mf:∀l:List Bool,decide (0<gH l)=l.any id
 |[]=>rfl
 |v::l=>by
  rw[gH,List.any_cons,<-Mf l]
  cases v<;>simp<;>omega
theorem XP{n:Int}(h0:0<=n)(h9:n<=9){v0:List Bool}{l:List Nat}(hl0:2<=n->l≠[]){x y:Gr}{d:Nat}(ok:x.Ok)(hv:V0 x v0)(hl:∀a∈l,a<x.lits)(h:wC n x l=(y,some d)):bE v0 y d=B0 n (l.map (bE v0 x)):=by
 unfold wC at h;unfold B0
 by_cases c1:n<=1
 ·rw[if_pos c1]at h
  cases h
  rw[if_pos (by omega),Du hv]
 ·rw[if_neg c1]at h;rw[if_neg (by omega)]
  by_cases c2:n<=5
  ·rw[if_pos c2]at h;rw[if_pos (by omega),zm (by omega) (hl0 (by omega)) ok hv hl h,Mn,List.all_map];simp[Function.comp_def]
  ·rw[if_neg c2]at h;rw[if_neg (by omega)]
   by_cases c3:n<=7
   ·rw[if_pos c3]at h;obtain⟨e,h1,rfl⟩:=tj h;rw[if_pos (by omega),ly,zm (by omega) (hl0 (by omega)) ok hv hl h1,Mf,List.any_map];simp only[ly];rw[gL];simp
   ·rw[if_neg c3]at h;rw[if_neg (by omega),Ws (hl0 (by omega)) ok hv hl h]
theorem JB{α:Type}{p q:α->Bool}:∀{l:List α},(∀s∈l,p s=q s)->aZ p l=aZ q l
 |[],_=>by simp
 |a::l,h=>by rw[jM,jM,h a (by simp),JB fun s hs=>h s (by simp[hs])]
theorem CP{x y:Gr}(g:fA x y){v0:List Bool}(hv:V0 x v0){l:List Nat}(hl:∀a∈l,a<x.lits):l.map (bE v0 y)=l.map (bE v0 x):=pK fun b hb=>qb g hv (hl b hb)
def Mx(v0:List Bool)(ins:List Nat)(vs:List Bool)(f:Nat):Prop:=
 ∀(x y:Gr)(l:List Fm)(c:Nat)(l':List Fm),x.Ok->V0 x v0->(∀a∈ins,a<x.lits)->ins.map (bE v0 x)=vs->mT ins f x l=(y,some (c,l'))->∀(w:Bool)(l2:List Fm),jr ins.length (ph vs) f l=some (w,l2)->bE v0 y c=w
theorem KQ{v0:List Bool}{ins:List Nat}{vs:List Bool}{f:Nat}(ih:Mx v0 ins vs f)(a:Bool):∀(k:Nat)(x y:Gr)(ks:List Nat)(l:List Fm)(v:Bool)(q:List Nat)(l':List Fm)(w:Bool)(l2:List Fm),x.Ok->V0 x v0->(∀b∈ins,b<x.lits)->ins.map (bE v0 x)=vs->(∀b∈ks,b<x.lits)->
 lJ (mT ins f) k x ks l=(y,some (q,l'))->iJ (jr ins.length (ph vs) f) a k v l=some (w,l2)->∃new,q=ks++new/\new.length=k/\w=if a=true then v&&new.all (bE v0 y)else v||new.any (bE v0 y)
 |0,x,y,ks,l,v,q,l',w,l2,ok,hv,hi,hm,hk,h1,h2=>by
  rw[lJ]at h1;rw[iJ]at h2
  cases h1;cases h2
  exact⟨[],by simp,rfl,by simp⟩
 |k+1,x,y,ks,l,v,q,l',w,l2,ok,hv,hi,hm,hk,h1,h2=>by
  rw[lJ]at h1;rw[iJ]at h2;obtain⟨z,p,h3,h1⟩:=vA h1;obtain⟨c,l1⟩:=p
  cases h4:jr ins.length (ph vs) f l with
  |none=>rw[h4]at h2;cases h2
  |some u=>
   rw[h4]at h2;obtain⟨u1,u2⟩:=u;have e1:=Jq ins _ _ f x l z c l1 u1 u2 h3 h4;subst e1;have hf:=vC ins f x l ok hi;rw[h3]at hf;have hc:=hf.2 _ rfl;simp only at hc hf h1 h2;have hz:=ih x z l c l1 ok hv hi hm h3 u1 l1 h4
   have hk2:∀b∈ks++[c],b<z.lits:=fun b hb=>by
    rcases ba.1 hb with hb|hb
    ·exact nh (hk b hb) hf.1.lits
    ·simp only[cG]at hb;subst hb;exact hc
   have hi2:∀b∈ins,b<z.lits:=fun b hb=>nh (hi b hb) hf.1.lits
   obtain⟨new,rfl,hn,rfl⟩:=KQ ih a k z y (ks++[c]) l1 _ q l' w l2 hf.1.ok (hv.grow hf.1) hi2 (by rw[CP hf.1 hv hi];exact hm) hk2 h1 h2;have g2:=(zb ins (vC ins f) k z (ks++[c]) l1 hf.1.ok hi2 hk2).1;rw[h1]at g2
   have hy:bE v0 y c=u1:=by rw[qb g2 (hv.grow hf.1) hc];exact hz
   refine⟨c::new,by simp,by simp[hn],?_⟩;rw[sx,List.any_cons,hy]
   cases a
   ·simp only[dU,cE];rw[Bool.or_comm u1 v,Bool.or_assoc]
   ·simp only[bY];rw[Bool.and_comm u1 v,pM]
theorem J6(v0:List Bool)(ins:List Nat)(vs:List Bool):∀f,Mx v0 ins vs f
 |0,x,y,l,c,l',ok,hv,hi,hm,h1,w,l2,h2=>by cases h1
 |f+1,x,y,[],c,l',ok,hv,hi,hm,h1,w,l2,h2=>by cases h1
 |f+1,x,y,t::l,c,l',ok,hv,hi,hm,h1,w,l2,h2=>by
  rw[mT]at h1;rw[jr]at h2
  split at h2
  ·rename_i ho;unfold ey at ho
   by_cases k2:t.kind=2
   ·rw[if_pos k2]at h1 h2 ho;simp only[aC,a8]at ho
    cases h1;cases h2
    have q1:(t.lit/2).toNat<ins.length:=by omega
    subst hm;rw[KM (by omega)];unfold ph;simp only[bz,jc,a_ q1,eb,gZ]
    have e1:((t.lit%2).toNat=1)↔t.lit%2=1:=by omega
    simp only[e1]
    cases bE v0 x ins[(t.lit/2).toNat]<;>simp
   ·rw[if_neg k2]at h1 h2 ho
    by_cases k34:t.kind=3\/t.kind=4
    ·rw[if_neg (by omega)]at h1;rw[if_pos k34]at ho;simp only[aC,a8]at ho;obtain⟨z,p,h3,h1⟩:=vA h1;obtain⟨ks,l1⟩:=p;obtain⟨e,h4,he⟩:=tj h1;have hkf:=zb ins (vC ins f) t.kids.toNat x [] l ok hi (fun a ha=>by cases ha);rw[h3]at hkf;have hks:=hkf.2 _ rfl;simp only at hks;obtain⟨new,hq,hn,hw⟩:=KQ (J6 v0 ins vs f) _ _ _ _ _ _ _ _ _ _ _ ok hv hi hm (fun a ha=>by cases ha) h3 h2;rw[lg]at hq;rw[<-hq]at hn hw;simp only[bH]at he;obtain⟨rfl,_⟩:=he
     have h0:ks≠[]:=by
      rintro rfl
      simp at hn;omega
     have hvz:=hv.grow hkf.1
     by_cases k3:t.kind=3
     ·rw[if_pos k3]at h4;rw[zm (by omega) h0 hkf.1.ok hvz hks h4,hw];simp[k3]
     ·have k4:t.kind=4:=by omega
      rw[if_neg k3]at h4;obtain⟨e2,h5,rfl⟩:=tj h4;rw[ly,zm (by omega) h0 hkf.1.ok hvz hks h5,hw];simp only[ly,k4];rw[gL];simp
    ·rw[if_neg k34]at ho
     split at ho
     ·rename_i k01;simp only[aC,a8]at ho;rw[if_pos k01]at h1
      cases h1
      rw[ho.2]at h2;simp only[Int.toNat_zero,iJ,al,bH]at h2;rw[<-h2.1]
      rcases k01 with k|k
      ·rw[k];simpa using Du hv
      ·rw[k];have:=ly (v0:=v0) (x:=x) (a:=0);rw[Du hv]at this;simpa using this
     ·cases ho
  ·cases h2
theorem Xa{g:Gt}(hg:iM g=true){v0:List Bool}{ins:List Nat}(hlen:ins.length=g.ins.length){x y:Gr}{d:Nat}(ok:x.Ok)(hv:V0 x v0)(hl:∀a∈ins,a<x.lits)(h:wq x g ins=(y,some d)):bE v0 y d=wA g (ins.map (bE v0 x)):=by
 unfold wq at h
 rcases Z2 hg with⟨h0,h9,ho⟩|⟨h10,h8,hwr⟩
 ·rw[if_pos ⟨h0,h9⟩]at h;obtain⟨e,h1,rfl⟩:=tj h
  rw[KM (by omega),XP h0 h9 (fun h2=>by
   have:=aaE ho h2
   rintro rfl
   simp at hlen;omega) ok hv hl h1]
  unfold wA;rw[if_neg (by omega)]
  have e2:decide ((g.op%2).toNat=1)=Bd g.op:=by
   unfold Bd;rw[gL];simp only[a8];omega
  rw[e2]
  cases B0 g.op (ins.map (bE v0 x))<;>cases Bd g.op<;>rfl
 ·rw[if_neg (by omega)]at h;obtain⟨p,h1,rfl⟩:=tj h;obtain⟨c,l'⟩:=p;have hV:=X' hwr (ph (ins.map (bE v0 x)));unfold Fo at hV
  split at hV
  ·split at hV
   ·rename_i v h5;have hfv:=J6 v0 ins (ins.map (bE v0 x)) _ x y _ c l' ok hv hl rfl h1 v [] (by rw[hlen];exact h5);have hvv:=Option.some.inj hV
    have hfit:aZ (eo (ph (ins.map (bE v0 x)))) g.rows=aZ (fun s=>uk s (ins.map (bE v0 x))) g.rows:=by
     obtain⟨m,hm,_,_,h3⟩:=Lo hwr
     refine JB fun s hs=>?_
     have h6:=h3 s hs;have:=KJ (ins.map (bE v0 x)) s 0 h6.1 (by simp;omega);simpa[eo]using this
    unfold wA;rw[if_pos h10,<-hfit,<-hvv,<-hfv];simp only
    cases g.off
    ·simp only[dU,cE]
     cases bE v0 y c<;>rfl
    ·simp only[bY,ly]
     cases bE v0 y c<;>rfl
   ·cases hV
  ·cases hV
abbrev mW(c:Ct):Nat:=c.ak.length+c.ai.length
structure FC(c:Ct)(v0:List Bool)(x:Gr)(v p:List Nat):Prop where
 grow:fA (wu c) x
 len:v.length=(bt c).length
 inv:wJ c x v p
 low:∀k(hk:k<v.length),k<mW c->v[k]=2*(k+1)
 eq:∀j∈p,∀h:j<c.af.length,∀hk:mW c+j<v.length,bE v0 x v[mW c+j]=wA c.af[j] ((rN ((bt c).zip v) c.af[j].ins).map (bE v0 x))
 ins:∀j∈p,∀h:j<c.af.length,∀s∈c.af[j].ins,∃k,∃hk:k<(bt c).length,(bt c)[k]=s/\r_ c p k
theorem Kp{c:Ct}{p q:List Nat}{k:Nat}(h:r_ c p k):r_ c (p++q) k:=by
 rcases h with h|⟨j,hj,rfl⟩
 ·exact .inl h
 ·exact .inr ⟨j,jJ _ hj,rfl⟩
theorem Ls{c:Ct}(hn:(bt c).Nodup){v p:List Nat}(hv:v.length=(bt c).length){a d:Nat}(ha:a∉p){l:List Bs}(hl:∀s∈l,∃k,∃hk:k<(bt c).length,(bt c)[k]=s/\r_ c p k):rN ((bt c).zip (v.set (mW c+a) d)) l=rN ((bt c).zip v) l:=by
 refine pK fun s hs=>?_
 obtain⟨k,hk,rfl,hc⟩:=hl s hs;rw[AK _ _ k hn hk (by simpa using hv),AK _ _ k hn hk hv,Q']
 rcases hc with hc|⟨j,hj,rfl⟩
 ·simp only[mW];omega
 ·simp only[mW]
  rintro e
  have:a=j:=by omega
  exact ha (this▸hj)
theorem FC.step{c:Ct}(okc:pa c)(hn:(bt c).Nodup){v0:List Bool}(hv0:V0 (wu c) v0){i:Nat}(hi:i<(cH c).length){x y:Gr}{v:List Nat}{d:Nat}(h:FC c v0 x v ((cH c).take i))
 (hg:wq x (c.af[(cH c)[i]]'(tu c _ (bZ hi))) (rN ((bt c).zip v) (c.af[(cH c)[i]]'(tu c _ (bZ hi))).ins)=(y,some d)):
 FC c v0 y (v.set (mW c+(cH c)[i]) d) ((cH c).take (i+1)):=by
 have ha:=tu c _ (bZ hi)
 have hic:=fun s hs=>YS okc hi (s:=s) hs
 have hlt:=MH hn h.len h.inv hic;have hgb:=okc.af _ (bZ ha);have hfi:=VC h.grow.ok (c.af[(cH c)[i]]) hlt;rw[hg]at hfi;have hd:=hfi.2 d rfl
 have hap:(cH c)[i]∉(cH c).take i:=by
  intro hm;obtain⟨x,hx,he⟩:=jK hm;rw[xk]at he;have:=(List.getElem_inj (xs:=cH c) (h₀:=by simp at hx;omega) (h₁:=hi) (IS c)).1 he
  simp at hx;omega
 have hval:=Xa hgb (Vv _ _) h.grow.ok (hv0.grow h.grow) hlt hg;have hst:(cH c).take (i+1)=(cH c).take i++[(cH c)[i]]:=pN hi;rw[hst];have hinsA:=Ls hn h.len (d:=d) hap hic;refine⟨h.grow.trans hfi.1,by simpa using h.len,h.inv.step hfi.1.lits hd,fun k hk hk2=>?_,fun j hj hjl hk=>?_,fun j hj hjl s hs=>?_⟩
 ·rw[Q' (by simp only[mW]at hk2⊢;omega)];exact h.low k (by simpa using hk) hk2
 ·rcases ba.1 hj with hj|hj
  ·have hne:¬mW c+(cH c)[i]=mW c+j:=by
    rintro e
    have:(cH c)[i]=j:=by omega
    exact hap (this▸hj)
   have hij:=h.ins j hj hjl;rw[Q' hne,Ls hn h.len hap hij]
   have hk':mW c+j<v.length:=by simpa using hk
   have hlj:=MH hn h.len h.inv hij;have e:=h.eq j hj hjl hk';rw[CP hfi.1 (hv0.grow h.grow) hlj,<-e];exact qb hfi.1 (hv0.grow h.grow) (h.inv _ hk' (.inr ⟨j,hj,rfl⟩))
  ·simp only[cG]at hj;subst hj;rw[List.getElem_set_self,hinsA,hval,CP hfi.1 (hv0.grow h.grow) hlt]
 ·rcases ba.1 hj with hj|hj
  ·obtain⟨k,hk,e,hc⟩:=h.ins j hj hjl s hs;exact⟨k,hk,e,Kp hc⟩
  ·simp only[cG]at hj;subst hj;obtain⟨k,hk,e,hc⟩:=hic s hs;exact⟨k,hk,e,Kp hc⟩
end Go.Proofs.YtchjijfjidlpjaaGreatDoor
namespace Go.Proofs.YtchjijfjidlpjaaGreatDoor
open Go.AM Go.Proofs
variable{Γ:Nat->Option AV}
end Go.Proofs.YtchjijfjidlpjaaGreatDoor
namespace Go.Proofs.YtchjijfjidlpjaaGreatDoor
open Go.AM Go.Proofs
def Can{α:Type}(k:Nat)(x:Gr)(r:Gr×Option α):Prop:=∃a,r.2=some a/\r.1.ands.length<=x.ands.length+k
def Room(x:Gr)(k:Nat):Prop:=x.ins+x.next.length+x.ands.length+k<=4000
theorem Room.of{x y:Gr}{k m:Nat}(h:Room x k)(g:fA x y)(hk:y.ands.length+m<=x.ands.length+k):Room y m:=by
 unfold Room at h⊢
 rw[g.ins,g.next];omega
theorem Can.map{α β:Type}{k:Nat}{x:Gr}{r:Gr×Option α}(h:Can k x r)(f:α->β):Can k x (iT f r):=by
 obtain⟨a,h1,h2⟩:=h;exact⟨f a,by simp[iT,h1],h2⟩
theorem Can.then{α β:Type}{k m:Nat}{x:Gr}{r:Gr×Option α}{f:Gr->α->Gr×Option β}(h:Can k x r)(hf:∀a,r.2=some a->r.1.ands.length<=x.ands.length+k->Can m r.1 (f r.1 a)):Can (k+m) x (nN r f):=by
 obtain⟨a,h1,h2⟩:=h;obtain⟨y,o⟩:=r;simp only at h1 h2 hf;subst h1;obtain⟨b,h3,h4⟩:=hf a rfl h2;exact⟨b,h3,by simp only[nN];omega⟩
theorem Can.more{α:Type}{k m:Nat}{x:Gr}{r:Gr×Option α}(h:Can k x r)(hk:k<=m):Can m x r:=by
 obtain⟨a,h1,h2⟩:=h;exact⟨a,h1,by omega⟩
theorem K5(first:Nat):∀(ps l:List (Int×Int))(to:List Nat),∃e,(fu first ps l to).2=to++e
 |[],l,to=>⟨[],by simp[fu]⟩
 |p::ps,l,to=>by
  rw[fu]
  obtain⟨e,he⟩:=K5 first ps (bo first l (aX to p.1.toNat) (aX to p.2.toNat)).1 (to++[(bo first l (aX to p.1.toNat) (aX to p.2.toNat)).2])
  exact⟨_::e,by rw[he,c8];rfl⟩
theorem Ei(first:Nat)(aE:List Bool):∀(ps:List (Int×Int))(i:Nat)(l:List (Int×Int))(to:List Nat),∃e,(c_ first aE ps i l to).2=to++e
 |[],i,l,to=>⟨[],by simp[c_]⟩
 |p::ps,i,l,to=>by
  rw[c_]
  split
  ·obtain⟨e,he⟩:=Ei first aE ps (i+1) (bo first l (aX to p.1.toNat) (aX to p.2.toNat)).1 (to++[(bo first l (aX to p.1.toNat) (aX to p.2.toNat)).2])
   exact⟨_::e,by rw[he,c8];rfl⟩
  ·obtain⟨e,he⟩:=Ei first aE ps (i+1) l (to++[0])
   exact⟨_::e,by rw[he,c8];rfl⟩
theorem KO{first k:Nat}(h:k<first)(e:List Nat):aX (ids first++e) (2*k)=2*k:=by
 unfold aX;rw[show 2*k/2=k by omega,show 2*k%2=0 by omega,bz,dk (by simpa using h),a_ (by simpa using h)];simp[ids]
theorem T3{g:Gr}(h:g.check=0):∃F:Nat->Nat,(∀k<g.first,F (2*k)=2*k)/\g.normal.outs=g.outs.map (fun a=>(F a.toNat:Int))/\g.normal.next=g.next.map (fun a=>(F a.toNat:Int))/\g.normal.init=g.init/\g.normal.ins=g.ins:=by
 have e:g.normal=g.cI.dR:=by unfold Gr.normal;rw[if_pos h]
 obtain⟨e1,h1⟩:=K5 g.first g.ands [] (ids g.first)
 obtain⟨e2,h2⟩:=Ei g.cI.first g.cI.aE g.cI.ands 0 [] (ids g.cI.first)
 have hf:g.cI.first=g.first:=vL _ _
 refine⟨fun a=>aX (c_ g.cI.first g.cI.aE g.cI.ands 0 [] (ids g.cI.first)).2 (aX (fu g.first g.ands [] (ids g.first)).2 a),fun k hk=>?_,?_,?_,?_,?_⟩
 ·simp only;rw[h1,h2,KO hk,hf,KO hk]
 ·rw[e];simp[Gr.dR,Gr.dv,cd,Gr.cI]
 ·rw[e];simp[Gr.dR,Gr.dv,cd,Gr.cI]
 ·rw[e];rfl
 ·rw[e];rfl
theorem Lb(s:Bs):∀(l:List Bs)(i:Nat),0<=ee s l i->∃k,∃hk:k<l.length,l[k]=s/\ee s l i=((i+k:Nat):Int)
 |[],i,h=>by simp[ee]at h
 |a::l,i,h=>by
  rw[ee]at h⊢
  split
  ·rename_i h1;exact⟨0,by simp,by simp[h1],by simp⟩
  ·rename_i h1;rw[if_neg h1]at h;obtain⟨k,hk,e1,e2⟩:=Lb s l (i+1) h;exact⟨k+1,by simp;omega,by simpa using e1,by rw[e2];congr 1;omega⟩
structure gG(m:Md):Prop where
 g:m.g.check=0
 lI:(m.ak.length:Int)=m.g.ins
 lL:m.ai.length=m.g.next.length
 lO:m.aq.length=m.g.outs.length
 names:∀s∈m.ak++m.ai++m.aq,dd s=true
 nd:(m.ak++m.ai).Nodup
 BZ:m.aq.Nodup
 out:∀i(h:i<m.aq.length)(h2:i<m.g.outs.length),0<=cA m m.aq[i]->m.g.outs[i]=2*cA m m.aq[i]
theorem Lp(m:Md):∀(l:List Bs)(r:List Int),nZ m l r=false->∀i(h:i<l.length)(h2:i<r.length),0<=cA m l[i]->r[i]=2*cA m l[i]
 |[],r,_,i,h,_=>by simp at h
 |s::l,[],_,i,_,h=>by simp at h
 |s::l,a::r,h,i,h1,h2=>by
  rw[nZ]at h;simp only[jI,Bool.and_eq_false_iff,gK,Q7,a8]at h
  cases i with
  |zero=>
   intro h3
   rcases h.1 with h|h
   ·exact absurd h3 h
   ·exact h
  |succ i=>exact Lp m l r h.2 i (by simpa using h1) (by simpa using h2)
theorem M8{l:List Bs}(h:mc l=false):l.Nodup:=by
 unfold mc jn at h;exact(Iw l [] (by simpa using h)).1
theorem zt{m:Md}(h:cO m=0):gG m:=by
 unfold cO at h
 split at h
 ·rename_i h1;exact absurd h h1
 ·rename_i h1
  split at h
  ·cases h
  ·rename_i h2
   split at h
   ·cases h
   ·rename_i h3
    split at h
    ·cases h
    ·rename_i h4
     split at h
     ·cases h
     ·rename_i h5;simp only[gT,A4,fR,not_or,je,gK,B9,Bool.not_eq_true]at h1 h2 h3 h4 h5;refine⟨h1,h2.1,h2.2.1,h2.2.2,fun s hs=>?_,M8 h4.1,M8 h4.2,Lp m _ _ h5⟩;simp only[ba]at hs
      rcases hs with(hs|hs)|hs
      ·simpa using ji.1 h3.1 s hs
      ·simpa using ji.1 h3.2.1 s hs
      ·simpa using ji.1 h3.2.2 s hs
theorem Jm(m:Md)(s:Bs):cA (cB m) s=cA m s:=rfl
theorem gG.first{m:Md}(h:gG m):m.g.first=1+(m.ak++m.ai).length:=by
 have h1:=h.lI;have h2:=h.lL
 unfold Gr.first
 simp only[bp];omega
theorem gG.norm{m:Md}(h:gG m):gG (cB m)/\(cB m).g.strict=true:=by
 obtain⟨F,f1,f2,f3,f4,f5⟩:=T3 h.g;obtain⟨s1,s2,_⟩:=xO h.g;refine⟨⟨s2,(show(m.ak.length:Int)=m.g.normal.ins by rw[h.lI];exact f5.symm),?_,?_,h.names,h.nd,h.BZ,fun i h1 h2 h3=>?_⟩,s1⟩
 ·show m.ai.length=m.g.normal.next.length
  rw[f3];simp[h.lL]
 ·show m.aq.length=m.g.normal.outs.length
  rw[f2];simp[h.lO]
 ·have h4:i<m.g.outs.length:=by rw[<-h.lO];exact h1
  have e:=h.out i h1 h4 h3
  have e2:(cB m).g.outs[i]=(F (m.g.outs[i]).toNat:Int):=by
   show m.g.normal.outs[i]'h2=_
   have:m.g.normal.outs[i]? =some (F (m.g.outs[i]).toNat:Int):=by rw[f2,jc,a_ h4];rfl
   exact(pJ.1 this).2
  rw[e2,Jm];rw[Jm]at h3;obtain⟨p1,p2⟩:=CB m m.aq[i];obtain⟨k,hk⟩:=cS (show 0<=cA m m.aq[i]from h3)
  have e3:(m.g.outs[i]).toNat=2*k:=by rw[e,hk];omega
  have hf:=h.first
  simp only[bp]at hf;have hk2:cA m m.aq[i]=(k:Int):=hk;rw[e3,f1 k (by omega),show(cB m).aq[i]=m.aq[i]from rfl,hk2];omega
theorem Vt{m:Md}{s:Bs}:cA m s<0↔s∉m.ak++m.ai:=by
 unfold cA;have h:=z6 s (m.ak++m.ai) 0;have h2:=D5 s (m.ak++m.ai) 0;constructor
 ·intro h1 hm
  split at h1
  ·rename_i h3;rw[Cc.2 hm,a8]at h2;omega
  ·omega
 ·intro hm
  have:(m.ak++m.ai).contains s=false:=by simpa using hm
  rw[this,gK]at h2;rw[if_pos (by omega)];omega
theorem Vd{m:Md}{s:Bs}(h:0<=cA m s):∃k,∃hk:k<(m.ak++m.ai).length,(m.ak++m.ai)[k]=s/\cA m s=k+1:=by
 unfold cA at h⊢
 split at h
 ·omega
 ·rename_i h1;obtain⟨k,hk,e1,e2⟩:=Lb s (m.ak++m.ai) 0 (by omega);exact⟨k,hk,e1,by rw[if_neg h1,e2];omega⟩
end Go.Proofs.YtchjijfjidlpjaaGreatDoor
