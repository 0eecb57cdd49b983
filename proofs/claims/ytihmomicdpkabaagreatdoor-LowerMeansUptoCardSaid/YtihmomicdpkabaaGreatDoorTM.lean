/- Steps: steps, one after the other. -/
import Derived.Test.YtihmomicdpkabaaGreatDoorJ
import Derived.Test.YtihmomicdpkabaaGreatDoorI
import Derived.Test.YtihmomicdpkabaaGreatDoorG
import Derived.Test.YtihmomicdpkabaaGreatDoorH
import Derived.JoinedCond
set_option linter.unusedSimpArgs false
set_option linter.unusedVariables false
namespace Go.Proofs.YtihmomicdpkabaaGreatDoor
open Go.AM Go.Proofs
variable{Γ:Nat->Option AV}
@[simp] theorem ayw(n:Nat)(c:Ct)(N:List Bs)(l:List Nat):gu n (ie c N l)=true:=by simp[ie]
@[simp] theorem ayr(n m:Nat)(c:Ct)(N:List Bs)(l:List Nat):lM n m (ie c N l)=true:=by simp[ie]
end Go.Proofs.YtihmomicdpkabaaGreatDoor
namespace Go.Proofs.YtihmomicdpkabaaGreatDoor
open Go.AM Go.Proofs
def bI(v0:List Bool)(x:Gr)(a:Nat):Bool:=bF (bK x.ands v0) a
structure V0(x:Gr)(v0:List Bool):Prop where
 len:v0.length=x.first
 zero:bF v0 0=false
theorem V0.grow{x y:Gr}{v0:List Bool}(h:V0 x v0)(g:gJ x y):V0 y v0:=⟨by rw[g.first];exact h.len,h.zero⟩
theorem oK{x y:Gr}(g:gJ x y){v0:List Bool}(hv:V0 x v0){c:Nat}(hc:c<x.lits):bI v0 y c=bI v0 x c:=by
 obtain⟨e,he⟩:=g.ands;unfold bI;rw[he,tg];refine tN e ?_;rw[rA,hv.len];unfold Gr.lits Gr.all at hc;omega
theorem l0{v0:List Bool}{x:Gr}{a:Nat}:bI v0 x (a^^^1)=!bI v0 x a:=AH
theorem Lf{v0:List Bool}{x:Gr}{a t:Nat}(ht:t<=1):bI v0 x (a^^^t)=(bI v0 x a !=decide (t=1)):=by
 obtain rfl|rfl:t=0\/t=1:=by omega
 ·simp
 ·rw[l0];simp
theorem Ez{v0:List Bool}{x:Gr}(hv:V0 x v0):bI v0 x 0=false:=by
 unfold bI;rw[tN _ (by rw[hv.len];unfold Gr.first;omega),hv.zero]
theorem AQ{x y:Gr}{v0:List Bool}(ok:x.Ok)(hv:V0 x v0){p q d:Nat}(h:gS x p q=(y,some d)):bI v0 y d=(bI v0 x p&&bI v0 x q):=by
 obtain⟨he,rfl,rfl⟩:=ZM h;have a:=Pm he
 have hf1:1<=x.first:=by unfold Gr.first;omega
 have h1:=a.a1;have h2:=a.b1;simp only[Gr.lits,Gr.all]at h1 h2;unfold bI;rw[a.R,a.C];have:=Mo (first:=x.first) (l:=x.ands) hv.len hv.zero hf1 (fun i hi=>ok.ands i hi) (a:=p) (b:=q) (by omega) (by omega);simpa using this
theorem LH{turn:Nat}(ht:turn<=1){v0:List Bool}:∀(l:List Nat)(x y:Gr)(c d:Nat),x.Ok->V0 x v0->c<x.lits->(∀a∈l,a<x.lits)->lE turn x c l=(y,some d)->bI v0 y d=(bI v0 x c&&l.all fun a=>bI v0 x (a^^^turn))
 |[],x,y,c,d,ok,hv,hc,hl,h=>by
  rw[lE]at h;cases h;simp
 |a::l,x,y,c,d,ok,hv,hc,hl,h=>by
  rw[lE]at h
  cases h1:gS x c (a^^^turn)with
  |mk z r=>
   rw[h1]at h
   cases r with
   |none=>cases h
   |some e=>
    obtain⟨g1,g2⟩:=oF ok h1;have ih:=LH ht l z y e d g1.ok (hv.grow g1) (g2 e rfl) (fun b hb=>kj (hl b (by simp[hb])) g1.lits) h;rw[ih,AQ ok hv h1,qP,nC];congr 2;rw[fE,dA,dA]
    have e1:∀b∈l,bI v0 z (b^^^turn)=bI v0 x (b^^^turn):=fun b hb=>oK g1 hv (ua (n:=x.all) ht (hl b (by simp[hb])))
    exact⟨fun h b hb=>by rw[<-e1 b hb];exact h b hb,fun h b hb=>by rw[e1 b hb];exact h b hb⟩
theorem Ao{turn:Nat}(ht:turn<=1){v0:List Bool}{l:List Nat}(h0:l≠[]){x y:Gr}{d:Nat}(ok:x.Ok)(hv:V0 x v0)(hl:∀a∈l,a<x.lits)(h:jz turn x l=(y,some d)):bI v0 y d=l.all fun a=>bI v0 x (a^^^turn):=by
 cases l with
 |nil=>exact absurd rfl h0
 |cons a r=>exact LH ht r x y _ d ok hv (ua (n:=x.all) ht (hl a (by simp))) (fun b hb=>hl b (by simp[hb])) h
theorem tw{α β:Type}{r:Gr×Option α}{f:Gr->α->Gr×Option β}{y:Gr}{b:β}(h:hY r f=(y,some b)):∃z a,r=(z,some a)/\f z a=(y,some b):=by
 obtain⟨z,o⟩:=r
 cases o with
 |none=>cases h
 |some a=>exact⟨z,a,rfl,h⟩
theorem tK{α β:Type}{r:Gr×Option α}{f:α->β}{y:Gr}{b:β}(h:fO f r=(y,some b)):∃a,r=(y,some a)/\f a=b:=by
 obtain⟨z,o⟩:=r
 cases o with
 |none=>cases h
 |some a=>
  simp only[fO,du,bP,aj]at h;exact⟨a,by rw[h.1],h.2⟩
theorem aaF{x y:Gr}{v0:List Bool}(ok:x.Ok)(hv:V0 x v0){c a d:Nat}(hc:c<x.lits)(ha:a<x.lits)(h:BW x c a=(y,some d)):bI v0 y d=(bI v0 x c !=bI v0 x a):=by
 obtain⟨z,p,h1,h⟩:=tw h;obtain⟨w,q,h2,h⟩:=tw h;obtain⟨e,h3,rfl⟩:=tK h;obtain⟨g1,b1⟩:=oF ok h1;obtain⟨g2,b2⟩:=oF g1.ok h2;have hp:=b1 p rfl;have hq:=b2 q rfl;have e3:=AQ g2.ok ((hv.grow g1).grow g2) h3;have e2:=AQ g1.ok (hv.grow g1) h2;have e1:=AQ ok hv h1;rw[l0,e3,l0,l0,oK g2 (hv.grow g1) hp,e2,e1,l0,l0,oK g1 hv hc,oK g1 hv ha]
 cases bI v0 x c<;>cases bI v0 x a<;>rfl
theorem Mt(v:Bool)(l:List Bool):decide (dO (v::l)%2=1)=(v !=decide (dO l%2=1)):=by
 rw[dO]
 cases v
 ·simp
 ·simp only[cy];rw[fE];simp;omega
theorem Lb{v0:List Bool}:∀(l:List Nat)(x y:Gr)(c d:Nat),x.Ok->V0 x v0->c<x.lits->(∀a∈l,a<x.lits)->pe x c l=(y,some d)->bI v0 y d=(bI v0 x c !=decide (dO (l.map (bI v0 x))%2=1))
 |[],x,y,c,d,ok,hv,hc,hl,h=>by
  rw[pe]at h;cases h;simp[dO]
 |a::l,x,y,c,d,ok,hv,hc,hl,h=>by
  rw[pe]at h;obtain⟨z,e,h1,h⟩:=tw h;have g:=LC ok c a;rw[h1]at g;have ih:=Lb l z y e d g.1.ok (hv.grow g.1) (g.2 e rfl) (fun b hb=>kj (hl b (by simp[hb])) g.1.lits) h
  have e1:l.map (bI v0 z)=l.map (bI v0 x):=oq fun b hb=>oK g.1 hv (hl b (by simp[hb]))
  rw[ih,aaF ok hv hc (hl a (by simp)) h1,e1,b_,Mt]
  cases bI v0 x c<;>cases bI v0 x a<;>simp
theorem ZH{v0:List Bool}{l:List Nat}(h0:l≠[]){x y:Gr}{d:Nat}(ok:x.Ok)(hv:V0 x v0)(hl:∀a∈l,a<x.lits)(h:xu x l=(y,some d)):bI v0 y d=decide (dO (l.map (bI v0 x))%2=1):=by
 cases l with
 |nil=>exact absurd rfl h0
 |cons a r=>rw[Lb r x y a d ok hv (hl a (by simp)) (fun b hb=>hl b (by simp[hb])) h,b_,Mt]
theorem N_:∀l:List Bool,decide (dO l=l.length)=l.all id
 |[]=>rfl
 |v::l=>by
  have:=N2 l;rw[dO,qP,<-N_ l,bX]
  cases v
  ·have h:¬(0+dO l=l.length+1):=by omega
   simp;omega
  ·have h:(1+dO l=l.length+1)↔dO l=l.length:=by omega
   simp[h]
theorem Oy:∀l:List Bool,decide (0<dO l)=l.any id
 |[]=>rfl
 |v::l=>by
  rw[dO,List.any_cons,<-Oy l]
  cases v<;>simp<;>omega
theorem aaH{n:Int}(h0:0<=n)(h9:n<=9){v0:List Bool}{l:List Nat}(hl0:2<=n->l≠[]){x y:Gr}{d:Nat}(ok:x.Ok)(hv:V0 x v0)(hl:∀a∈l,a<x.lits)(h:qy n x l=(y,some d)):bI v0 y d=x_ n (l.map (bI v0 x)):=by
 unfold qy at h;unfold x_
 by_cases c1:n<=1
 ·rw[if_pos c1]at h
  cases h
  rw[if_pos (by omega),Ez hv]
 ·rw[if_neg c1]at h;rw[if_neg (by omega)]
  by_cases c2:n<=5
  ·rw[if_pos c2]at h;rw[if_pos (by omega),Ao (by omega) (hl0 (by omega)) ok hv hl h,N_,List.all_map];simp[zf]
  ·rw[if_neg c2]at h;rw[if_neg (by omega)]
   by_cases c3:n<=7
   ·rw[if_pos c3]at h;obtain⟨e,h1,rfl⟩:=tK h;rw[if_pos (by omega),l0,Ao (by omega) (hl0 (by omega)) ok hv hl h1,Oy,List.any_map];simp only[l0];rw[fE];simp
   ·rw[if_neg c3]at h;rw[if_neg (by omega),ZH (hl0 (by omega)) ok hv hl h]
theorem KK{α:Type}{p q:α->Bool}:∀{l:List α},(∀s∈l,p s=q s)->bt p l=bt q l
 |[],_=>by simp
 |a::l,h=>by rw[iT,iT,h a (by simp),KK fun s hs=>h s (by simp[hs])]
theorem DL{x y:Gr}(g:gJ x y){v0:List Bool}(hv:V0 x v0){l:List Nat}(hl:∀a∈l,a<x.lits):l.map (bI v0 y)=l.map (bI v0 x):=oq fun b hb=>oK g hv (hl b hb)
def Oh(v0:List Bool)(ins:List Nat)(vs:List Bool)(f:Nat):Prop:=
 ∀(x y:Gr)(l:List Fm)(c:Nat)(l':List Fm),x.Ok->V0 x v0->(∀a∈ins,a<x.lits)->ins.map (bI v0 x)=vs->iF ins f x l=(y,some (c,l'))->∀(w:Bool)(l2:List Fm),ey ins.length (pr vs) f l=some (w,l2)->bI v0 y c=w
theorem LF{v0:List Bool}{ins:List Nat}{vs:List Bool}{f:Nat}(ih:Oh v0 ins vs f)(a:Bool):∀(k:Nat)(x y:Gr)(ks:List Nat)(l:List Fm)(v:Bool)(q:List Nat)(l':List Fm)(w:Bool)(l2:List Fm),x.Ok->V0 x v0->(∀b∈ins,b<x.lits)->ins.map (bI v0 x)=vs->(∀b∈ks,b<x.lits)->
 j3 (iF ins f) k x ks l=(y,some (q,l'))->ff (ey ins.length (pr vs) f) a k v l=some (w,l2)->∃new,q=ks++new/\new.length=k/\w=if a=true then v&&new.all (bI v0 y)else v||new.any (bI v0 y)
 |0,x,y,ks,l,v,q,l',w,l2,ok,hv,hi,hm,hk,h1,h2=>by
  rw[j3]at h1;rw[ff]at h2
  cases h1;cases h2
  exact⟨[],by simp,rfl,by simp⟩
 |k+1,x,y,ks,l,v,q,l',w,l2,ok,hv,hi,hm,hk,h1,h2=>by
  rw[j3]at h1;rw[ff]at h2;obtain⟨z,p,h3,h1⟩:=tw h1;obtain⟨c,l1⟩:=p
  cases h4:ey ins.length (pr vs) f l with
  |none=>rw[h4]at h2;cases h2
  |some u=>
   rw[h4]at h2;obtain⟨u1,u2⟩:=u;have e1:=D0 ins _ _ f x l z c l1 u1 u2 h3 h4;subst e1;have hf:=ru ins f x l ok hi;rw[h3]at hf;have hc:=hf.2 _ rfl;simp only at hc hf h1 h2;have hz:=ih x z l c l1 ok hv hi hm h3 u1 l1 h4
   have hk2:∀b∈ks++[c],b<z.lits:=fun b hb=>by
    rcases bm.1 hb with hb|hb
    ·exact kj (hk b hb) hf.1.lits
    ·simp only[dE]at hb;subst hb;exact hc
   have hi2:∀b∈ins,b<z.lits:=fun b hb=>kj (hi b hb) hf.1.lits
   obtain⟨new,rfl,hn,rfl⟩:=LF ih a k z y (ks++[c]) l1 _ q l' w l2 hf.1.ok (hv.grow hf.1) hi2 (by rw[DL hf.1 hv hi];exact hm) hk2 h1 h2;have g2:=(z6 ins (ru ins f) k z (ks++[c]) l1 hf.1.ok hi2 hk2).1;rw[h1]at g2
   have hy:bI v0 y c=u1:=by rw[oK g2 (hv.grow hf.1) hc];exact hz
   refine⟨c::new,by simp,by simp[hn],?_⟩;rw[qP,List.any_cons,hy]
   cases a
   ·simp only[eb,db];rw[Bool.or_comm u1 v,Bool.or_assoc]
   ·simp only[cy];rw[Bool.and_comm u1 v,nC]
theorem LJ(v0:List Bool)(ins:List Nat)(vs:List Bool):∀f,Oh v0 ins vs f
 |0,x,y,l,c,l',ok,hv,hi,hm,h1,w,l2,h2=>by cases h1
 |f+1,x,y,[],c,l',ok,hv,hi,hm,h1,w,l2,h2=>by cases h1
 |f+1,x,y,t::l,c,l',ok,hv,hi,hm,h1,w,l2,h2=>by
  rw[iF]at h1;rw[ey]at h2
  split at h2
  ·rename_i ho;unfold eD at ho
   by_cases k2:t.kind=2
   ·rw[if_pos k2]at h1 h2 ho;simp only[av,bf]at ho
    cases h1;cases h2
    have q1:(t.lit/2).toNat<ins.length:=by omega
    subst hm;rw[Lf (by omega)];unfold pr;simp only[bp,vc,bl q1,du,jP]
    have e1:((t.lit%2).toNat=1)↔t.lit%2=1:=by omega
    simp only[e1]
    cases bI v0 x ins[(t.lit/2).toNat]<;>simp
   ·rw[if_neg k2]at h1 h2 ho
    by_cases k34:t.kind=3\/t.kind=4
    ·rw[if_neg (by omega)]at h1;rw[if_pos k34]at ho;simp only[av,bf]at ho;obtain⟨z,p,h3,h1⟩:=tw h1;obtain⟨ks,l1⟩:=p;obtain⟨e,h4,he⟩:=tK h1;have hkf:=z6 ins (ru ins f) t.kids.toNat x [] l ok hi (fun a ha=>by cases ha);rw[h3]at hkf;have hks:=hkf.2 _ rfl;simp only at hks;obtain⟨new,hq,hn,hw⟩:=LF (LJ v0 ins vs f) _ _ _ _ _ _ _ _ _ _ _ ok hv hi hm (fun a ha=>by cases ha) h3 h2;rw[lf]at hq;rw[<-hq]at hn hw;simp only[bP]at he;obtain⟨rfl,_⟩:=he
     have h0:ks≠[]:=by
      rintro rfl
      simp at hn;omega
     have hvz:=hv.grow hkf.1
     by_cases k3:t.kind=3
     ·rw[if_pos k3]at h4;rw[Ao (by omega) h0 hkf.1.ok hvz hks h4,hw];simp[k3]
     ·have k4:t.kind=4:=by omega
      rw[if_neg k3]at h4;obtain⟨e2,h5,rfl⟩:=tK h4;rw[l0,Ao (by omega) h0 hkf.1.ok hvz hks h5,hw];simp only[l0,k4];rw[fE];simp
    ·rw[if_neg k34]at ho
     split at ho
     ·rename_i k01;simp only[av,bf]at ho;rw[if_pos k01]at h1
      cases h1
      rw[ho.2]at h2;simp only[Int.toNat_zero,ff,aj,bP]at h2;rw[<-h2.1]
      rcases k01 with k|k
      ·rw[k];simpa using Ez hv
      ·rw[k];have:=l0 (v0:=v0) (x:=x) (a:=0);rw[Ez hv]at this;simpa using this
     ·cases ho
  ·cases h2
theorem Zd{g:Gt}(hg:jE g=true){v0:List Bool}{ins:List Nat}(hlen:ins.length=g.ins.length){x y:Gr}{d:Nat}(ok:x.Ok)(hv:V0 x v0)(hl:∀a∈ins,a<x.lits)(h:na x g ins=(y,some d)):bI v0 y d=rX g (ins.map (bI v0 x)):=by
 unfold na at h
 rcases Nx hg with⟨h0,h9,ho⟩|⟨h10,h8,hwr⟩
 ·rw[if_pos ⟨h0,h9⟩]at h;obtain⟨e,h1,rfl⟩:=tK h
  rw[Lf (by omega),aaH h0 h9 (fun h2=>by
   have:=OL ho h2
   rintro rfl
   simp at hlen;omega) ok hv hl h1]
  unfold rX;rw[if_neg (by omega)]
  have e2:decide ((g.op%2).toNat=1)=sx g.op:=by
   unfold sx;rw[fE];simp only[bf];omega
  rw[e2]
  cases x_ g.op (ins.map (bI v0 x))<;>cases sx g.op<;>rfl
 ·rw[if_neg (by omega)]at h;obtain⟨p,h1,rfl⟩:=tK h;obtain⟨c,l'⟩:=p;have hV:=Mc hwr (pr (ins.map (bI v0 x)));unfold BG at hV
  split at hV
  ·split at hV
   ·rename_i v h5;have hfv:=LJ v0 ins (ins.map (bI v0 x)) _ x y _ c l' ok hv hl rfl h1 v [] (by rw[hlen];exact h5);have hvv:=Option.some.inj hV
    have hfit:bt (eH (pr (ins.map (bI v0 x)))) g.rows=bt (fun s=>mo s (ins.map (bI v0 x))) g.rows:=by
     obtain⟨m,hm,_,_,h3⟩:=Mz hwr
     refine KK fun s hs=>?_
     have h6:=h3 s hs;have:=LL (ins.map (bI v0 x)) s 0 h6.1 (by simp;omega);simpa[eH]using this
    unfold rX;rw[if_pos h10,<-hfit,<-hvv,<-hfv];simp only
    cases g.off
    ·simp only[eb,db]
     cases bI v0 y c<;>rfl
    ·simp only[cy,l0]
     cases bI v0 y c<;>rfl
   ·cases hV
  ·cases hV
abbrev gT(c:Ct):Nat:=c.aE.length+c.ak.length
structure nZ(c:Ct)(v0:List Bool)(x:Gr)(v p:List Nat):Prop where
 grow:gJ (dL c) x
 len:v.length=(aD c).length
 inv:sk c x v p
 low:∀k(hk:k<v.length),k<gT c->v[k]=2*(k+1)
 eq:∀j∈p,∀h:j<c.af.length,∀hk:gT c+j<v.length,bI v0 x v[gT c+j]=rX c.af[j] ((dd ((aD c).zip v) c.af[j].ins).map (bI v0 x))
 ins:∀j∈p,∀h:j<c.af.length,∀s∈c.af[j].ins,∃k,∃hk:k<(aD c).length,(aD c)[k]=s/\qx c p k
theorem L5{c:Ct}{p q:List Nat}{k:Nat}(h:qx c p k):qx c (p++q) k:=by
 rcases h with h|⟨j,hj,rfl⟩
 ·exact .inl h
 ·exact .inr ⟨j,sL _ hj,rfl⟩
theorem Ma{c:Ct}(hn:(aD c).Nodup){v p:List Nat}(hv:v.length=(aD c).length){a d:Nat}(ha:a∉p){l:List Bs}(hl:∀s∈l,∃k,∃hk:k<(aD c).length,(aD c)[k]=s/\qx c p k):dd ((aD c).zip (v.set (gT c+a) d)) l=dd ((aD c).zip v) l:=by
 refine oq fun s hs=>?_
 obtain⟨k,hk,rfl,hc⟩:=hl s hs;rw[sb _ _ k hn hk (by simpa using hv),sb _ _ k hn hk hv,Jf]
 rcases hc with hc|⟨j,hj,rfl⟩
 ·simp only[gT];omega
 ·simp only[gT]
  rintro e
  have:a=j:=by omega
  exact ha (this▸hj)
theorem nZ.step{c:Ct}(okc:eU c)(hn:(aD c).Nodup){v0:List Bool}(hv0:V0 (dL c) v0){i:Nat}(hi:i<(aP c).length){x y:Gr}{v:List Nat}{d:Nat}(h:nZ c v0 x v ((aP c).take i))
 (hg:na x (c.af[(aP c)[i]]'(oP c _ (bz hi))) (dd ((aD c).zip v) (c.af[(aP c)[i]]'(oP c _ (bz hi))).ins)=(y,some d)):
 nZ c v0 y (v.set (gT c+(aP c)[i]) d) ((aP c).take (i+1)):=by
 have ha:=oP c _ (bz hi)
 have hic:=fun s hs=>MP okc hi (s:=s) hs
 have hlt:=wP hn h.len h.inv hic;have hgb:=okc.af _ (bz ha);have hfi:=KQ h.grow.ok (c.af[(aP c)[i]]) hlt;rw[hg]at hfi;have hd:=hfi.2 d rfl
 have hap:(aP c)[i]∉(aP c).take i:=by
  intro hm;obtain⟨x,hx,he⟩:=ku hm;rw[pI]at he;have:=(ze (xs:=aP c) (h₀:=by simp at hx;omega) (h₁:=hi) (J8 c)).1 he
  simp at hx;omega
 have hval:=Zd hgb (oG _ _) h.grow.ok (hv0.grow h.grow) hlt hg;have hst:(aP c).take (i+1)=(aP c).take i++[(aP c)[i]]:=gC hi;rw[hst];have hinsA:=Ma hn h.len (d:=d) hap hic;refine⟨h.grow.trans hfi.1,by simpa using h.len,h.inv.step hfi.1.lits hd,fun k hk hk2=>?_,fun j hj hjl hk=>?_,fun j hj hjl s hs=>?_⟩
 ·rw[Jf (by simp only[gT]at hk2⊢;omega)];exact h.low k (by simpa using hk) hk2
 ·rcases bm.1 hj with hj|hj
  ·have hne:¬gT c+(aP c)[i]=gT c+j:=by
    rintro e
    have:(aP c)[i]=j:=by omega
    exact hap (this▸hj)
   have hij:=h.ins j hj hjl;rw[Jf hne,Ma hn h.len hap hij]
   have hk':gT c+j<v.length:=by simpa using hk
   have hlj:=wP hn h.len h.inv hij;have e:=h.eq j hj hjl hk';rw[DL hfi.1 (hv0.grow h.grow) hlj,<-e];exact oK hfi.1 (hv0.grow h.grow) (h.inv _ hk' (.inr ⟨j,hj,rfl⟩))
  ·simp only[dE]at hj;subst hj;rw[List.getElem_set_self,hinsA,hval,DL hfi.1 (hv0.grow h.grow) hlt]
 ·rcases bm.1 hj with hj|hj
  ·obtain⟨k,hk,e,hc⟩:=h.ins j hj hjl s hs;exact⟨k,hk,e,L5 hc⟩
  ·simp only[dE]at hj;subst hj;obtain⟨k,hk,e,hc⟩:=hic s hs;exact⟨k,hk,e,L5 hc⟩
theorem abK{c:Ct}(okc:eU c)(hn:(aD c).Nodup){v0:List Bool}(hv0:V0 (dL c) v0){y:Gr}{w:List Nat}:∀n i,i+n=(aP c).length->∀(x:Gr)(v:List Nat),nZ c v0 x v ((aP c).take i)->n5 c ((aP c).drop i) x v=(y,some w)->nZ c v0 y w (aP c):=by
 intro n
 induction n with
 |zero=>
  intro i hi x v h h1;rw[bw (by omega),n5]at h1;rw[cd (by omega)]at h
  cases h1
  exact h
 |succ n ih=>
  intro i hi x v h h1
  have q1:i<(aP c).length:=by omega
  rw[bQ q1,Le c (oP c _ (bz q1))]at h1;obtain⟨z,d,h2,h1⟩:=tw h1;exact ih (i+1) (by omega) z _ (h.step okc hn hv0 q1 h2) h1
theorem afX{c:Ct}(hc:bW c)(okc:eU c)(v0:List Bool):nZ c v0 (dL c) (gI (aD c).length) []:=
 ⟨.refl (Of hc okc),wj _,Nl hc,fun k hk _=>by simp[gI],fun j hj=>(by cases hj),fun j hj=>(by cases hj)⟩
theorem Nd{c:Ct}(hc:bW c)(okc:eU c)(hn:(aD c).Nodup){v0:List Bool}(hv0:V0 (dL c) v0){y:Gr}{w:List Nat}(h:n4 c=(y,some w)):nZ c v0 y w (aP c):=
 abK okc hn hv0 (aP c).length 0 (by omega) _ _ (afX hc okc v0) h
theorem KE(c:Ct):(dL c).first=1+gT c:=by simp[Gr.first,dL,gT,nv]
theorem Fw{c:Ct}{state ins:List Bool}(hi:ins.length=c.aE.length)(hs:state.length=c.ak.length):V0 (dL c) (false::(ins++state)):=⟨by rw[KE];simp[gT,hi,hs,Nat.add_comm],rfl⟩
theorem adg(c:Ct){k:Nat}(hk:k<c.aE.length):∃h:k<(aD c).length,(aD c)[k]=c.aE[k]:=by
 have h:k<(aD c).length:=by rw[wE];omega
 refine⟨h,?_⟩
 have:(aD c)[k]? =some c.aE[k]:=by
  rw[aD,cV (by simp;omega),cV hk,bl hk]
 exact(cW.1 this).2
theorem adH(c:Ct){k:Nat}(hk:k<c.ak.length):∃h:c.aE.length+k<(aD c).length,(aD c)[c.aE.length+k]=c.ak[k].name:=by
 have h:c.aE.length+k<(aD c).length:=by rw[wE];omega
 refine⟨h,?_⟩
 have:(aD c)[c.aE.length+k]? =some c.ak[k].name:=by
  rw[aD,cV (by simp;omega),dD (by omega),vg,vc,bl hk];rfl
 exact(cW.1 this).2
def xE(c:Ct)(v0:List Bool)(y:Gr)(v:List Nat)(s:Bs):Bool:=bI v0 y (sB ((aD c).zip v) s)
theorem Oo{c:Ct}{v0:List Bool}(hv0:V0 (dL c) v0){y:Gr}{v p:List Nat}(h:nZ c v0 y v p){k:Nat}(hk:k<v.length)(hk2:k<gT c):bI v0 y v[k]=v0.getD (k+1) false:=by
 rw[h.low k hk hk2];have e:=KE c
 have hlt:2*(k+1)<(dL c).lits:=by unfold Gr.lits Gr.all;omega
 rw[oK h.grow hv0 hlt];unfold bI;simp only[dL,bK];exact Ap v0 (k+1)
theorem abp{c:Ct}(okc:eU c)(hn:(aD c).Nodup)(hall:∀i<c.af.length,i∈aP c){state ins:List Bool}(hi:ins.length=c.aE.length)(hs:state.length=c.ak.length){y:Gr}{v:List Nat}(h:nZ c (false::(ins++state)) y v (aP c)):BB c ins state (xE c (false::(ins++state)) y v):=by
 have hv0:=Fw hi hs;have hnl:=wE c;have hl:=h.len;refine⟨fun i hi2=>?_,fun i hi2=>?_,fun i hi2=>?_⟩
 ·obtain⟨h1,h2⟩:=adg c hi2;unfold xE;rw[<-h2,sb _ _ i hn h1 h.len,Oo hv0 h (by omega) (by simp only[gT];omega)];simp only[bp,mP];rw[cV (by omega)]
 ·obtain⟨h1,h2⟩:=adH c hi2;unfold xE;rw[<-h2,sb _ _ _ hn h1 h.len,Oo hv0 h (by omega) (by simp only[gT];omega)];simp only[bp,mP];rw[dD (by omega),hi,vg]
 ·obtain⟨h1,h2⟩:=F5 c hi2;have e:=h.eq i (hall i hi2) hi2 (by simp only[gT];omega)
  have e2:xE c (false::(ins++state)) y v c.af[i].name=bI (false::(ins++state)) y (v[gT c+i]'(by simp only[gT];omega)):=by
   unfold xE;rw[<-h2,sb _ _ _ hn h1 h.len]
  rw[e2,e];unfold qm Bh;rw[okc.af _ (bz hi2)];simp only[iq,decide_true,sK,dd,iO];rfl
theorem Me{c:Ct}(hall:∀i<c.af.length,i∈aP c){s:Bs}(hs:s∈aD c):∃k,∃hk:k<(aD c).length,(aD c)[k]=s/\qx c (aP c) k:=by
 obtain⟨k,hk,he⟩:=ku hs;refine⟨k,hk,he,?_⟩;have hl:=wE c
 by_cases h1:k<c.aE.length+c.ak.length
 ·exact .inl h1
 ·exact .inr ⟨k-(c.aE.length+c.ak.length),hall _ (by omega),by omega⟩
theorem aeH{c:Ct}(hc:bW c)(okc:eU c)(hn:(aD c).Nodup)(hall:∀i<c.af.length,i∈aP c){v0:List Bool}{y:Gr}{v:List Nat}(h:nZ c v0 y v (aP c)):(d_ c y v).Ok:=by
 have ok:=h.grow.ok;have h0:=okc.lR;simp only[jd,jQ,jn]at h0
 have hnl:(c.ak.map (·.next)).length=c.ak.length:=by simp
 have hyn:y.next.length=c.ak.length:=by rw[h.grow.next];simp[dL]
 have hyi:y.init.length=c.ak.length:=by rw[h.grow.init];simp[dL]
 have hl1:=wP hn h.len h.inv (l:=c.ak.map (·.next)) (fun s hs=>Me hall (okc.used s (by simp only[eS,bm];exact .inl (.inr hs))));have hl2:=wP hn h.len h.inv (l:=c.bg) (fun s hs=>Me hall (okc.used s (by simp only[eS,bm];exact .inl (.inl hs))))
 have hfirst:(d_ c y v).first=y.first:=by simp[Gr.first,d_,oG,hyn]
 have hall':(d_ c y v).all=y.all:=by unfold Gr.all;rw[hfirst];rfl
 have hlits:(d_ c y v).lits=y.lits:=by unfold Gr.lits;rw[hall']
 refine⟨ok.ins,?_,?_,?_,ok.init,fun a ha=>?_,fun a ha=>?_,fun i hi=>?_⟩
 ·have:=ok.sum;simp[d_,oG]at this⊢;omega
 ·simp[d_,oG];omega
 ·simp[d_,oG,hyi]
 ·rw[hlits];simp only[d_,cI]at ha;obtain⟨n,hn2,rfl⟩:=ha;have:=hl1 n hn2;omega
 ·rw[hlits];simp only[d_,cI]at ha;obtain⟨n,hn2,rfl⟩:=ha;have:=hl2 n hn2;omega
 ·have:=ok.ands i hi;rw[hfirst];exact this
theorem L'{c:Ct}{y:Gr}{v:List Nat}(state ins:List Bool)(ok:(d_ c y v).Ok)(h1:y.ins=c.aE.length):(d_ c y v).eu state ins=if rZ c ins state=true then 0 else 11:=by
 unfold Gr.eu;rw[Gr.tS ok];simp only[ne_eq,not_true_eq_false,db]
 have e:(d_ c y v).fits state ins=rZ c ins state:=by
  unfold Gr.fits rZ;rw[fE];simp only[d_,iq,oG,h1,av,bf];omega
 rw[e]
theorem M9{c:Ct}(hb:iJ c)(ho:k6 c=true){y:Gr}{v:List Nat}(hg:n4 c=(y,some v))(state ins:List Bool):
 (d_ c y v).normal.check=0/\(d_ c y v).normal.eu state ins=(ic c ins state).2.2/\(d_ c y v).normal.dB state ins=(ic c ins state).1/\(d_ c y v).normal.iZ state ins=(ic c ins state).2.1:=by
 obtain⟨hr,hnv,_⟩:=wX ho;obtain⟨okc,_⟩:=wH hr;have hc:=rz hb hr
 have hn:(aD c).Nodup:=by
  have:=Ac okc;simpa[aD,eI]using this
 have hall:∀i<c.af.length,i∈aP c:=fun i hi=>by
  refine Classical.byContradiction fun hni=>?_
  have h1:=(abe (tn hr) (aP c) hi).2 hni
  have h2:o6 c=mf (aP c) c.af 0:=by simp[o6,hr]
  rw[<-h2,hnv]at h1
  cases h1
 have CT:=Nd hc okc hn (v0:=false::(List.replicate c.aE.length false++List.replicate c.ak.length false)) (Fw (by simp) (by simp)) hg;have hok:=aeH hc okc hn hall CT;have hck:=Gr.tS hok;obtain⟨hn1,hn2,hn3⟩:=WT hck state ins;have hns:=(VP hck).2.1;refine⟨hns,?_⟩;rw[hn1,hn2,hn3,L' state ins hok (by rw[CT.grow.ins];rfl)];unfold ic dB Gr.dB Gr.iZ;rw[if_pos ho,L' state ins hok (by rw[CT.grow.ins];rfl)]
 cases hlb:rZ c ins state with
 |false=>simp
 |true=>
  simp only[cy];simp only[rZ,av,bf]at hlb;obtain⟨hi,hs⟩:=hlb;have hL:=Nd hc okc hn (Fw hi hs) hg;have hV:=abp okc hn hall hi hs hL;have hone:=ab2 okc hall hV (Zm okc hall hi hs)
  have e0:∀l:List Bs,(∀s∈l,s∈aD c)->j4 ((d_ c y v).j_ state ins) ((dd ((aD c).zip v) l).map fun n:Nat=>(n:Int))=l.map (dP (gO c ins state)):=by
   intro l hl;unfold j4 dd;rw[iO,iO]
   refine oq fun s hs=>?_
   rw[<-hone s (hl s hs)];rfl
  refine⟨trivial,?_,?_⟩
  ·have:=e0 c.bg (fun s hs=>adT okc hs);exact this
  ·have:=e0 (c.ak.map (·.next)) (fun s hs=>by
    obtain⟨q,hq,rfl⟩:=cI.1 hs
    exact aa2 okc hq)
   rw[iO]at this;exact this
end Go.Proofs.YtihmomicdpkabaaGreatDoor
namespace Go.Proofs.YtihmomicdpkabaaGreatDoor
open Go.AM Go.Proofs
variable{Γ:Nat->Option AV}
def Cj:Ct:=⟨[[97],[98]],[[122]],[⟨[113],[122],1⟩],[⟨[122],6,[[97],[98]],[],false,1,0,.self,.nil⟩],1,1,3,5,.self,.self,.self,.self⟩
def CD:Ct:=⟨[[97],[98]],[[121]],[⟨[113],[122],1⟩],[⟨[122],6,[[97],[98]],[],false,1,0,.self,.nil⟩],1,1,3,5,.self,.self,.self,.self⟩
def pC:Gr:=⟨2,[9],[1],[(5,3)],[9],1,1,2,1,.self,.self,.self,.self⟩
def kc:Md:=⟨pC,[[97],[98]],[[113]],[[122]],1,1,1,.self,.self,.self⟩
def uO:Md:=⟨pC,[[97],[98]],[[113]],[[97]],1,1,1,.self,.self,.self⟩
theorem acS:bW Cj:=NJ (by kernel_rfl)
theorem acC:bW CD:=NJ (by kernel_rfl)
theorem Fx:pC.iK:=by unfold Gr.iK pC;decide
theorem Gc:xL kc:=⟨Fx,by decide,by decide,by decide⟩
theorem afU:xL uO:=⟨Fx,by decide,by decide,by decide⟩
theorem acN:uG (jX Cj)=.aB [qK kc,.int .i64 0,.str []]:=by kernel_rfl
theorem adB:uG (jX CD)=.aB [qK kZ,.int .i64 6,.str [121]]:=by kernel_rfl
set_option maxRecDepth 8000 in
theorem abu(hΓ:eT Γ)(hΩ:uJ Γ):aL Tryz.prog Γ zV [] (.bool true):=by
 have hL1:=FA hΓ hΩ Cj acS.CI;have hL2:=FA hΓ hΩ CD acC.CI;rw[acN]at hL1;rw[adB]at hL2;have hS:=KT (Γ:=Γ) pC pC Fx;rw[show w_ pC pC=true by kernel_rfl]at hS;have hT:=Xy (Γ:=Γ) [[113]] [[113]] (ka:=1) (kb:=1) .self .self (by simp);have hC1:=MO (Γ:=Γ) kc Gc;rw[show BA kc=0 by kernel_rfl]at hC1;have hC2:=MO (Γ:=Γ) uO afU;rw[show BA uO=5 by kernel_rfl]at hC2;have hP1:=Fj (Γ:=Γ) kc [113] (by decide) (by decide);rw[show nP kc [113]=3 by kernel_rfl]at hP1;have hP2:=Fj (Γ:=Γ) kc [122] (by decide) (by decide);rw[show nP kc [122]=-1 by kernel_rfl]at hP2;have hS1:=NT (Γ:=Γ) kc kc Gc;rw[show BN kc kc=true by kernel_rfl]at hS1;have hS2:=NT (Γ:=Γ) kc uO Gc;rw[show BN kc uO=false by kernel_rfl]at hS2;unfold Cj at hL1;unfold CD at hL2
 unfold kc uO pC at*;unfold kZ fv at hL2;simp at hL1 hL2 hS hT hC1 hC2 hP1 hP2 hS1 hS2;refine .run 90 Xa (by simp) ?_;simp;refine .call 90 (by simp) hL1 ?_;simp;refine .call 90 (by simp) hL2 ?_;simp;refine .call 90 (by simp) hS ?_;simp;refine .call 90 (by simp) hT ?_;simp;refine .call 90 (by simp) hC1 ?_;simp;refine .call 90 (by simp) hC2 ?_;simp;refine .call 90 (by simp) hP1 ?_;simp;refine .call 90 (by simp) hP2 ?_;simp;refine .call 90 (by simp) hS1 ?_;simp;refine .call 90 (by simp) hS2 ?_;simp;exact .back (by simp)
def xg:List Gt->Nat
 |[]=>0
 |g::l=>g.rows.length+xg l
def Gb(c:Ct):Bool:=wU c&&(decide (xg c.af<=40)&&decide (c.af.length<=16))
set_option maxRecDepth 8000 in
theorem ab7(c:Ct)(hc:c.af.length<2^40)(hr:∀g∈c.af,g.rows.length<2^21)(b:Bool):∀n i:Nat,i+n=c.af.length->∀k:Nat,k<=i*2^21->
 aw Tryz.prog Γ (yO (.ptr 0 0) (.bool b) (.int .i64 k) (.int .i64 i) [.cells (AV.cells (bL c))]) (.ret (.bool (b&&(decide (k+xg (c.af.drop i)<=40)&&decide (c.af.length<=16))))):=by
 intro n
 induction n with
 |zero=>
  intro i hi k hk
  have q1:¬i<c.af.length:=by omega
  rw[bw (by omega),xg];have e1:((k:Int)<=40)=(k<=40):=propext (by omega);have e2:((c.af.length:Int)<=16)=(c.af.length<=16):=propext (by omega);refine .go 60 ?_
  cases b
  ·simp[q1];exact .back (by simp)
  ·by_cases h:k<=40
   ·simp[q1,e1,e2,h];exact .back (by simp[h])
   ·simp[q1,e1,e2,h];exact .back (by simp[h])
 |succ n ih=>
  intro i hi k hk
  have q1:i<c.af.length:=by omega
  have q2:=bY (c.hG.of q1);have hrr:=hr _ (bz q1);have hh:=ih (i+1) (by omega) (k+c.af[i].rows.length) (by omega);rw[bQ q1,xg,<-nv];refine .go 60 ?_;simp(disch:=omega) [q1,q2];refine .aH ?_;simp at hh⊢;exact hh
set_option maxRecDepth 8000 in
theorem abL(c:Ct)(hc:c.af.length<2^40)(hr:∀g∈c.af,g.rows.length<2^21):aL Tryz.prog Γ vS [bL c] (.bool (Gb c)):=by
 have hL:=abr (Γ:=Γ) c;have hf:=ab7 (Γ:=Γ) c hc hr (wU c) c.af.length 0 (by omega) 0 (by omega);unfold Gb;generalize wU c=b at*;refine .run 60 Xs (by simp) ?_;simp;refine .call 60 (by simp) hL ?_;simp;refine .inLoop ?_;simp at hf⊢;exact hf
def R6(c:Ct):Prop:=iJ c/\∀g∈c.af,g.rows.length<2^21
end Go.Proofs.YtihmomicdpkabaaGreatDoor
namespace Go.Proofs.YtihmomicdpkabaaGreatDoor
open Go.AM Go.Proofs Go.ChangeShapes Go.WideShapes Go.ChangeAt Go.RowKit
theorem aaT{H:Type}(d:DataW H):1<=Rows.uptoBulk d:=by
 cases d with
 |lit l=>cases l<;>simp[Rows.uptoBulk]
 |_=>simp[Rows.uptoBulk]
theorem M3{H:Type}:∀ds:List (DataW H),ds.length<=Rows.uptoBulkAll ds
 |[]=>by simp
 |d::ds=>by have:=M3 ds;have:=aaT d;simp only[bX,Rows.uptoBulkAll];omega
theorem AF{H:Type}:∀{ds:List (DataW H)}{d:DataW H},d∈ds->Rows.uptoBulk d<=Rows.uptoBulkAll ds
 |e::ds,d,h=>by
  simp only[Rows.uptoBulkAll]
  rcases bu.1 h with rfl|h
  ·omega
  ·have:=AF h;omega
def Small{H:Type}(d:DataW H):Prop:=Rows.uptoBulk d<=1048576
theorem afd{H:Type}:Down (H:=H) 1048576 Small:=by
 refine⟨fun e r h _=>?_,fun ps h d hd=>?_,fun b h _=>?_⟩
 ·simp only[Small,Rows.uptoBulk]at h;refine⟨by have:=M3 e;omega,fun d hd=>?_⟩;have:=AF hd
  simp only[Small];omega
 ·simp only[Small,Rows.uptoBulk]at h⊢;have:=AF hd;omega
 ·simp only[Small,Rows.uptoBulk]at h;omega
theorem ab9{H:Type}{ds gs:List (DataW H)}(hk:Rows.uptoSmall H (ds++gs)=true):∀d∈ds,Small d:=by
 intro d hd;have h:=Df hk;have:=AF (sL gs hd)
 simp only[Small];omega
theorem KC{B:Nat}{cs:List AV}(h:ea B Gv cs):∃l:List Bool,cs=[.list false 1 (l.map .bool)]/\l.length<=B:=by
 simp only[ea]at h;obtain⟨xs,rfl,h0,h1⟩:=h
 obtain⟨l,hl,hn⟩:=wW (f:=lS false) (e:=AV.bool) (fun x hx=>by
  obtain⟨⟨n,rfl⟩,_⟩:=h1 x hx
  exact⟨n,rfl⟩)
 exact⟨l,by rw[hl],by omega⟩
theorem xT.toL{c:Ct}(h:xT 1048576 c):R6 c:=⟨h.CI (by decide),fun g hg=>by
 have:=(h.2.2.2.2.1 g hg).2.2.1
 omega⟩
end Go.Proofs.YtihmomicdpkabaaGreatDoor
namespace Go.Proofs.YtihmomicdpkabaaGreatDoor
open Go.AM Go.Proofs
variable{Γ:Nat->Option AV}
theorem Md.af6{c:Ct}(hb:iJ c):xL (jX c).1:=by
 unfold jX
 split
 ·rename_i h0
  split
  ·exact⟨Ol,by simp[kZ],by simp[kZ],by simp[kZ]⟩
  ·rename_i v hv
   have ho:k6 c=true:=by simp[k6,h0]
   obtain⟨hr,_,_⟩:=wX ho;have hc:=rz hb hr;have hS:=(M9 hb ho (y:=(n4 c).1) (v:=v) (by rw[<-hv]) [] []).1;exact⟨(Gr.qn hS).iK,by have:=hc.1;simp[qc];omega,by have:=hc.2.2.1;simp[qc];omega,by have:=hc.2.1;simp[qc];omega⟩
 ·exact⟨Ol,by simp[kZ],by simp[kZ],by simp[kZ]⟩
theorem aa9{c:Ct}(h:(jX c).2.1=0):k6 c=true/\∃v,(n4 c).2=some v/\jX c=(qc c (n4 c).1 v,0,[]):=by
 unfold jX at h⊢
 by_cases h0:(me c).1=0
 ·rw[if_pos h0]at h⊢
  cases hv:(n4 c).2 with
  |none=>rw[hv]at h;cases h
  |some v=>exact⟨by simp[k6,h0],v,rfl,rfl⟩
 ·rw[if_neg h0]at h;exact absurd h h0
theorem ZW(c:Ct)(ins state:List Bool):(ic c ins state).1.length<=c.bg.length/\(ic c ins state).2.1.length<=c.ak.length:=by
 unfold ic dB
 split
 ·split
  ·simp[xq,fe,xh]
  ·simp
 ·simp
set_option maxRecDepth 8000 in
theorem Wg(hΓ:eT Γ)(hΩ:uJ Γ)(c:Ct)(hb:R6 c)(state ins:List Bool)(hs2:state.length<2^40)(hi2:ins.length<2^40){ks ki:Nat}(hks:Kd 1 ks state)(hki:Kd 1 ki ins):
 aL Tryz.prog Γ Dx [bL c,.list false ks (state.map .bool),.list false ki (ins.map .bool)] (.bool true):=by
 have hP:=abL (Γ:=Γ) c hb.1.2.2.2.1 hb.2;have hL:=FA hΓ hΩ c hb.1;have hbm:=Md.af6 hb.1;refine .run 90 UX (by simp) ?_;simp;refine .call 90 (by simp) (abu hΓ hΩ) ?_;simp;refine .call 90 (by simp) hP ?_;simp;refine .call 90 (by simp) hL ?_
 cases hp:Gb c with
 |false=>
  simp;exact .back (by simp)
 |true=>
  by_cases h0:(jX c).2.1=0
  ·have e1:((60:Int)<state.length)=(60<state.length):=propext (by omega);have e2:((60:Int)<ins.length)=(60<ins.length):=propext (by omega)
   by_cases h1:60<state.length
   ·simp[h0,e1,h1];exact .back (by simp)
   ·by_cases h2:60<ins.length
    ·simp[h0,e1,h1,e2,h2];exact .back (by simp)
    ·obtain⟨ho,v,hv,he⟩:=aa9 h0;obtain⟨s0,s1,s2,s3⟩:=M9 hb.1 ho (y:=(n4 c).1) (v:=v) (by rw[<-hv]) state ins;have hS:=Xk hΓ c hb.1 ins state hi2 hs2 hki hks;have hA:=YF (Γ:=Γ) (jX c).1.g hbm.1 state ins hks hki hs2 hi2
     have t1:(jX c).1.g.dB state ins=(ic c ins state).1:=by rw[he];exact s2
     have t2:(jX c).1.g.iZ state ins=(ic c ins state).2.1:=by rw[he];exact s3
     have t3:(jX c).1.g.eu state ins=(ic c ins state).2.2:=by rw[he];exact s1
     rw[t1,t2,t3]at hA;obtain⟨l1,l2⟩:=ZW c ins state;have b1:=hb.1.2.1;have b2:=hb.1.2.2.1;have hB1:=Kf (Γ:=Γ) (ic c ins state).1 (ic c ins state).1 (ka:=1) (kb:=1) .self .self (by omega);have hB2:=Kf (Γ:=Γ) (ic c ins state).2.1 (ic c ins state).2.1 (ka:=1) (kb:=1) .self .self (by omega);clear t1 t2 t3 he hbm hL;generalize jX c=L at hA h0⊢;generalize ic c ins state=R at hA hS hB1 hB2⊢;simp[h0,e1,h1,e2,h2];refine .call 90 (by simp) hS ?_;simp;refine .call 90 (by simp) hA ?_;simp;simp at hB1 hB2;have k1:(R.1.map AV.bool).take R.1.length=R.1.map AV.bool:=cd (by simp);have k2:(R.2.1.map AV.bool).take R.2.1.length=R.2.1.map AV.bool:=cd (by simp);refine .call 90 (by simp[k1]) hB1 ?_;simp;refine .call 90 (by simp[k2]) hB2 ?_;simp;exact .back (by simp)
  ·simp[h0];exact .back (by simp)
end Go.Proofs.YtihmomicdpkabaaGreatDoor
namespace Go.Proofs.YtihmomicdpkabaaGreatDoor
open Go.AM Go.Proofs Go.ChangeShapes Go.WideShapes Go.ChangeAt Go.RowKit
theorem U'(os:Os){H:Type}(enc:TypeId×Value->H):∃places,DataW.whole enc Tryz.prog ((FZ os).forCall (fun _ _=>0) ⟨#[],#[.agg #[.slice none 0 0,.slice none 0 0,.slice none 0 0,.slice none 0 0],.slice none 0 0,.slice none 0 0],[]⟩).memory Tryz.f5.params.toList Rows.lowerMeansSpec.vars false (#[.agg #[.slice none 0 0,.slice none 0 0,.slice none 0 0,.slice none 0 0],.slice none 0 0,.slice none 0 0]:Array Value).toList 8=some ([.agg [.nil,.nil,.nil,.nil],.nil,.nil],[],places):=
 ⟨[],by kernel_rfl⟩
set_option maxRecDepth 100000 in
theorem UW(os:Os)(started:os.Started)(H:Type)(enc:TypeId×Value->H)(F:Stop.Interp):
 ReturnsInHanded {} Tryz.checked os 5 .any ((Rows.OpenSpec.upto Rows.lowerMeansSpec).preRow enc Tryz.prog Tryz.f5 Rows.lowerMeansUptoRow.domain false Rows.lowerMeansUptoRow.laid) (((Rows.OpenSpec.upto Rows.lowerMeansSpec).at F).post enc Tryz.prog Tryz.f5 false true false false):=by
 obtain⟨places,hx⟩:=U' os enc
 refine returnsInHanded_of_row (C:=Tryz.checked) (s:=Rows.OpenSpec.upto Rows.lowerMeansSpec) own started (by kernel_rfl) Tryz.func5
  (witness_row_at (enc:=enc) (C:=Tryz.checked) false (FZ os) #[.agg #[.slice none 0 0,.slice none 0 0,.slice none 0 0,.slice none 0 0],.slice none 0 0,.slice none 0 0] rfl (by kernel_rfl) (by kernel_rfl) (by kernel_rfl)
   (OpenSpec.preRow_of_cond 8 hx (by kernel_rfl) (fun k hk=>by cases hk;kernel_rfl) (by kernel_rfl) (abg os _))) ?_
 intro W base args ds gs before hval hW _ hcond _ hL hsh _;obtain⟨Γ,hΓ,hok⟩:=abN hL;refine Yw afd (Γ:=Γ) (shs:=[(true,PW),(false,Gv),(false,Gv)]) laid afN (tb:=4) (by kernel_rfl) u4 (Df (by kernel_rfl)) (by kernel_rfl) rfl ?_ hok ?_ hval hW (ab9 (hcond _ rfl))
 ·intro ds hds
  match ds,hds with
  |[d1,d2,d3],_=>exact⟨rfl,rfl,rfl⟩
 ·intro xs has;simp only[rS]at has;obtain⟨_,_,rfl,h1,_,_,_,rfl,h2,_,_,_,rfl,h3,_,rfl⟩:=has;obtain⟨a1,l1,a1b⟩:=aeI h1;obtain⟨a2,rfl,a2b⟩:=KC h2;obtain⟨a3,rfl,a3b⟩:=KC h3;simp only[lS,l1];exact Wg hΓ.1 hΓ.2 a1 a1b.toL a2 a3 (by omega) (by omega) .self .self
theorem Vj:Rows.LowerMeansUptoSaid:=
 OpenClaim.holds_of_cond 5 Tryz.f5 rfl rfl rfl rfl rfl rfl rfl ⟨rfl,rfl,rfl,rfl,rfl⟩ rfl rfl rfl rfl rfl (by kernel_rfl) Tryz.func5 (by kernel_rfl)
  (Df (by kernel_rfl)) (by unfold Func.isWrapper;first|(rw[if_pos (by decide+kernel)];kernel_rfl)|(rw[if_neg (by decide+kernel)];exact⟨rfl,rfl⟩))
  (fun os started H enc _ F=>by rw[OpenClaim.pre_eq_preRow];exact UW os started H enc F)
theorem Vb(f:FuncId)(fn:Func)(hf:Tryz.pinned.checked.prog.funcNamed "patchbay/patchbaylaw11.LowerMeans" =some f)(hfn:Tryz.pinned.checked.prog.funcs[f]? =some fn):
 true=Tryz.pinned.checked.prog.looks []/\∀(j:Nat) t,fn.params[j]? =some t->Tryz.pinned.checked.prog.wantsStandIn t=false:=by
 obtain rfl:f=5:=Option.some.inj ((show Tryz.prog.funcNamed "patchbay/patchbaylaw11.LowerMeans" =some 5 by kernel_rfl).symm.trans hf)|>.symm
 obtain rfl:fn=Tryz.f5:=(Option.some.inj (Tryz.func5.symm.trans hfn)).symm;refine⟨by kernel_rfl,fun j t ht=>?_⟩
 have h1:(Tryz.f5.params.toList.all fun t=>!Tryz.prog.wantsStandIn t)=true:=by kernel_rfl
 have h2:=dA.1 h1 t (by simpa using Array.mem_of_getElem? ht)
 revert h2
 show(!Tryz.prog.wantsStandIn t)=true->Tryz.prog.wantsStandIn t=false
 cases Tryz.prog.wantsStandIn t<;>intro h<;>first|rfl|cases h
theorem lowerMeans_holds:Rows.LowerMeansUptoCardSaid:=
 Claim7.holds_tied_plain_at .later [] _ _ _ _ Vj (fun _ h=>by cases h) (by kernel_rfl) (fun _ h=>by cases h) lowerMeansUpto_row_tie rfl ⟨rfl,rfl⟩ (by kernel_rfl) rfl Vb (by kernel_rfl)
#print axioms lowerMeans_holds
end Go.Proofs.YtihmomicdpkabaaGreatDoor
