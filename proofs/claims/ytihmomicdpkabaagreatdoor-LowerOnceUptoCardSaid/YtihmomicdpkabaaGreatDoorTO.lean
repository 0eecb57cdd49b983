/- Steps: steps, one after the other. -/
import Derived.Test.YtihmomicdpkabaaGreatDoorJ
import Derived.Test.YtihmomicdpkabaaGreatDoorI
import Derived.Test.YtihmomicdpkabaaGreatDoorG
import Derived.Test.YtihmomicdpkabaaGreatDoorH
import Derived.JoinedCond
set_option linter.unusedSimpArgs false
set_option linter.unusedVariables false
namespace Go.Proofs.YtihmomicdpkabaaGreatDoor
open Go.AM Go.Proofs
variable{Γ:Nat->Option AV}
@[simp] theorem axm(n:Nat)(c:Ct)(N:List Bs)(l:List Nat):fW n (A3 c N l)=true:=by simp[A3]
@[simp] theorem axk(n m:Nat)(c:Ct)(N:List Bs)(l:List Nat):k6 n m (A3 c N l)=true:=by simp[A3]
end Go.Proofs.YtihmomicdpkabaaGreatDoor
namespace Go.Proofs.YtihmomicdpkabaaGreatDoor
open Go.AM Go.Proofs
def bI(v0:List Bool)(x:Gr)(a:Nat):Bool:=cO (cP x.al v0) a
structure V0(x:Gr)(v0:List Bool):Prop where
 len:v0.length=x.first
 zero:cO v0 0=false
theorem V0.grow{x y:Gr}{v0:List Bool}(h:V0 x v0)(g:eB x y):V0 y v0:=⟨by rw[g.first];exact h.len,h.zero⟩
theorem pt{x y:Gr}(g:eB x y){v0:List Bool}(hv:V0 x v0){c:Nat}(hc:c<x.lits):bI v0 y c=bI v0 x c:=by
 obtain⟨e,he⟩:=g.al;unfold bI;rw[he,xU];refine zo e ?_;rw[zd,hv.len];unfold Gr.lits Gr.all at hc;omega
theorem lj{v0:List Bool}{x:Gr}{a:Nat}:bI v0 x (a^^^1)=!bI v0 x a:=Em
theorem KV{v0:List Bool}{x:Gr}{a t:Nat}(ht:t<=1):bI v0 x (a^^^t)=(bI v0 x a !=decide (t=1)):=by
 obtain rfl|rfl:t=0\/t=1:=by omega
 ·simp
 ·rw[lj];simp
theorem DX{v0:List Bool}{x:Gr}(hv:V0 x v0):bI v0 x 0=false:=by
 unfold bI;rw[zo _ (by rw[hv.len];unfold Gr.first;omega),hv.zero]
theorem zE{x y:Gr}{v0:List Bool}(ok:x.Ok)(hv:V0 x v0){p q d:Nat}(h:ej x p q=(y,some d)):bI v0 y d=(bI v0 x p&&bI v0 x q):=by
 obtain⟨he,rfl,rfl⟩:=J4 h;have a:=NX he
 have hf1:1<=x.first:=by unfold Gr.first;omega
 have h1:=a.a1;have h2:=a.b1;simp only[Gr.lits,Gr.all]at h1 h2;unfold bI;rw[a.R,a.C];have:=Yz (first:=x.first) (l:=x.al) hv.len hv.zero hf1 (fun i hi=>ok.al i hi) (a:=p) (b:=q) (by omega) (by omega);simpa using this
theorem KO{turn:Nat}(ht:turn<=1){v0:List Bool}:∀(l:List Nat)(x y:Gr)(c d:Nat),x.Ok->V0 x v0->c<x.lits->(∀a∈l,a<x.lits)->gS turn x c l=(y,some d)->bI v0 y d=(bI v0 x c&&l.all fun a=>bI v0 x (a^^^turn))
 |[],x,y,c,d,ok,hv,hc,hl,h=>by
  rw[gS]at h;cases h;simp
 |a::l,x,y,c,d,ok,hv,hc,hl,h=>by
  rw[gS]at h
  cases h1:ej x c (a^^^turn)with
  |mk z r=>
   rw[h1]at h
   cases r with
   |none=>cases h
   |some e=>
    obtain⟨g1,g2⟩:=mb ok h1;have ih:=KO ht l z y e d g1.ok (hv.grow g1) (g2 e rfl) (fun b hb=>jO (hl b (by simp[hb])) g1.lits) h;rw[ih,zE ok hv h1,qf,mQ];congr 2;rw[fN,dy,dy]
    have e1:∀b∈l,bI v0 z (b^^^turn)=bI v0 x (b^^^turn):=fun b hb=>pt g1 hv (tg (n:=x.all) ht (hl b (by simp[hb])))
    exact⟨fun h b hb=>by rw[<-e1 b hb];exact h b hb,fun h b hb=>by rw[e1 b hb];exact h b hb⟩
theorem zj{turn:Nat}(ht:turn<=1){v0:List Bool}{l:List Nat}(h0:l≠[]){x y:Gr}{d:Nat}(ok:x.Ok)(hv:V0 x v0)(hl:∀a∈l,a<x.lits)(h:iJ turn x l=(y,some d)):bI v0 y d=l.all fun a=>bI v0 x (a^^^turn):=by
 cases l with
 |nil=>exact absurd rfl h0
 |cons a r=>exact KO ht r x y _ d ok hv (tg (n:=x.all) ht (hl a (by simp))) (fun b hb=>hl b (by simp[hb])) h
theorem po{α β:Type}{r:Gr×Option α}{f:Gr->α->Gr×Option β}{y:Gr}{b:β}(h:eD r f=(y,some b)):∃z a,r=(z,some a)/\f z a=(y,some b):=by
 obtain⟨z,o⟩:=r
 cases o with
 |none=>cases h
 |some a=>exact⟨z,a,rfl,h⟩
theorem qO{α β:Type}{r:Gr×Option α}{f:α->β}{y:Gr}{b:β}(h:eo f r=(y,some b)):∃a,r=(y,some a)/\f a=b:=by
 obtain⟨z,o⟩:=r
 cases o with
 |none=>cases h
 |some a=>
  simp only[eo,dp,bN,aj]at h;exact⟨a,by rw[h.1],h.2⟩
theorem Zn{x y:Gr}{v0:List Bool}(ok:x.Ok)(hv:V0 x v0){c a d:Nat}(hc:c<x.lits)(ha:a<x.lits)(h:wh x c a=(y,some d)):bI v0 y d=(bI v0 x c !=bI v0 x a):=by
 obtain⟨z,p,h1,h⟩:=po h;obtain⟨w,q,h2,h⟩:=po h;obtain⟨e,h3,rfl⟩:=qO h;obtain⟨g1,b1⟩:=mb ok h1;obtain⟨g2,b2⟩:=mb g1.ok h2;have hp:=b1 p rfl;have hq:=b2 q rfl;have e3:=zE g2.ok ((hv.grow g1).grow g2) h3;have e2:=zE g1.ok (hv.grow g1) h2;have e1:=zE ok hv h1;rw[lj,e3,lj,lj,pt g2 (hv.grow g1) hp,e2,e1,lj,lj,pt g1 hv hc,pt g1 hv ha]
 cases bI v0 x c<;>cases bI v0 x a<;>rfl
theorem Lf(v:Bool)(l:List Bool):decide (gT (v::l)%2=1)=(v !=decide (gT l%2=1)):=by
 rw[gT]
 cases v
 ·simp
 ·simp only[cu];rw[fN];simp;omega
theorem Ka{v0:List Bool}:∀(l:List Nat)(x y:Gr)(c d:Nat),x.Ok->V0 x v0->c<x.lits->(∀a∈l,a<x.lits)->nc x c l=(y,some d)->bI v0 y d=(bI v0 x c !=decide (gT (l.map (bI v0 x))%2=1))
 |[],x,y,c,d,ok,hv,hc,hl,h=>by
  rw[nc]at h;cases h;simp[gT]
 |a::l,x,y,c,d,ok,hv,hc,hl,h=>by
  rw[nc]at h;obtain⟨z,e,h1,h⟩:=po h;have g:=Kr ok c a;rw[h1]at g;have ih:=Ka l z y e d g.1.ok (hv.grow g.1) (g.2 e rfl) (fun b hb=>jO (hl b (by simp[hb])) g.1.lits) h
  have e1:l.map (bI v0 z)=l.map (bI v0 x):=wZ fun b hb=>pt g.1 hv (hl b (by simp[hb]))
  rw[ih,Zn ok hv hc (hl a (by simp)) h1,e1,cn,Lf]
  cases bI v0 x c<;>cases bI v0 x a<;>simp
theorem Ye{v0:List Bool}{l:List Nat}(h0:l≠[]){x y:Gr}{d:Nat}(ok:x.Ok)(hv:V0 x v0)(hl:∀a∈l,a<x.lits)(h:wa x l=(y,some d)):bI v0 y d=decide (gT (l.map (bI v0 x))%2=1):=by
 cases l with
 |nil=>exact absurd rfl h0
 |cons a r=>rw[Ka r x y a d ok hv (hl a (by simp)) (fun b hb=>hl b (by simp[hb])) h,cn,Lf]
theorem M7:∀l:List Bool,decide (gT l=l.length)=l.all id
 |[]=>rfl
 |v::l=>by
  have:=Mr l;rw[gT,qf,<-M7 l,b9]
  cases v
  ·have h:¬(0+gT l=l.length+1):=by omega
   simp;omega
  ·have h:(1+gT l=l.length+1)↔gT l=l.length:=by omega
   simp[h]
theorem Mu:∀l:List Bool,decide (0<gT l)=l.any id
 |[]=>rfl
 |v::l=>by
  rw[gT,List.any_cons,<-Mu l]
  cases v<;>simp<;>omega
theorem Zh{n:Int}(h0:0<=n)(h9:n<=9){v0:List Bool}{l:List Nat}(hl0:2<=n->l≠[]){x y:Gr}{d:Nat}(ok:x.Ok)(hv:V0 x v0)(hl:∀a∈l,a<x.lits)(h:ni n x l=(y,some d)):bI v0 y d=Bz n (l.map (bI v0 x)):=by
 unfold ni at h;unfold Bz
 by_cases c1:n<=1
 ·rw[if_pos c1]at h
  cases h
  rw[if_pos (by omega),DX hv]
 ·rw[if_neg c1]at h;rw[if_neg (by omega)]
  by_cases c2:n<=5
  ·rw[if_pos c2]at h;rw[if_pos (by omega),zj (by omega) (hl0 (by omega)) ok hv hl h,M7,List.all_map];simp[xe]
  ·rw[if_neg c2]at h;rw[if_neg (by omega)]
   by_cases c3:n<=7
   ·rw[if_pos c3]at h;obtain⟨e,h1,rfl⟩:=qO h;rw[if_pos (by omega),lj,zj (by omega) (hl0 (by omega)) ok hv hl h1,Mu,List.any_map];simp only[lj];rw[fN];simp
   ·rw[if_neg c3]at h;rw[if_neg (by omega),Ye (hl0 (by omega)) ok hv hl h]
theorem JK{α:Type}{p q:α->Bool}:∀{l:List α},(∀s∈l,p s=q s)->bo p l=bo q l
 |[],_=>by simp
 |a::l,h=>by rw[iy,iy,h a (by simp),JK fun s hs=>h s (by simp[hs])]
theorem Db{x y:Gr}(g:eB x y){v0:List Bool}(hv:V0 x v0){l:List Nat}(hl:∀a∈l,a<x.lits):l.map (bI v0 y)=l.map (bI v0 x):=wZ fun b hb=>pt g hv (hl b hb)
def MN(v0:List Bool)(ins:List Nat)(vs:List Bool)(f:Nat):Prop:=
 ∀(x y:Gr)(l:List Fm)(c:Nat)(l':List Fm),x.Ok->V0 x v0->(∀a∈ins,a<x.lits)->ins.map (bI v0 x)=vs->gA ins f x l=(y,some (c,l'))->∀(w:Bool)(l2:List Fm),eg ins.length (oL vs) f l=some (w,l2)->bI v0 y c=w
theorem Kb{v0:List Bool}{ins:List Nat}{vs:List Bool}{f:Nat}(ih:MN v0 ins vs f)(a:Bool):∀(k:Nat)(x y:Gr)(ks:List Nat)(l:List Fm)(v:Bool)(q:List Nat)(l':List Fm)(w:Bool)(l2:List Fm),x.Ok->V0 x v0->(∀b∈ins,b<x.lits)->ins.map (bI v0 x)=vs->(∀b∈ks,b<x.lits)->
 jb (gA ins f) k x ks l=(y,some (q,l'))->eU (eg ins.length (oL vs) f) a k v l=some (w,l2)->∃new,q=ks++new/\new.length=k/\w=if a=true then v&&new.all (bI v0 y)else v||new.any (bI v0 y)
 |0,x,y,ks,l,v,q,l',w,l2,ok,hv,hi,hm,hk,h1,h2=>by
  rw[jb]at h1;rw[eU]at h2
  cases h1;cases h2
  exact⟨[],by simp,rfl,by simp⟩
 |k+1,x,y,ks,l,v,q,l',w,l2,ok,hv,hi,hm,hk,h1,h2=>by
  rw[jb]at h1;rw[eU]at h2;obtain⟨z,p,h3,h1⟩:=po h1;obtain⟨c,l1⟩:=p
  cases h4:eg ins.length (oL vs) f l with
  |none=>rw[h4]at h2;cases h2
  |some u=>
   rw[h4]at h2;obtain⟨u1,u2⟩:=u;have e1:=Du ins _ _ f x l z c l1 u1 u2 h3 h4;subst e1;have hf:=qJ ins f x l ok hi;rw[h3]at hf;have hc:=hf.2 _ rfl;simp only at hc hf h1 h2;have hz:=ih x z l c l1 ok hv hi hm h3 u1 l1 h4
   have hk2:∀b∈ks++[c],b<z.lits:=fun b hb=>by
    rcases bF.1 hb with hb|hb
    ·exact jO (hk b hb) hf.1.lits
    ·simp only[dA]at hb;subst hb;exact hc
   have hi2:∀b∈ins,b<z.lits:=fun b hb=>jO (hi b hb) hf.1.lits
   obtain⟨new,rfl,hn,rfl⟩:=Kb ih a k z y (ks++[c]) l1 _ q l' w l2 hf.1.ok (hv.grow hf.1) hi2 (by rw[Db hf.1 hv hi];exact hm) hk2 h1 h2;have g2:=(y6 ins (qJ ins f) k z (ks++[c]) l1 hf.1.ok hi2 hk2).1;rw[h1]at g2
   have hy:bI v0 y c=u1:=by rw[pt g2 (hv.grow hf.1) hc];exact hz
   refine⟨c::new,by simp,by simp[hn],?_⟩;rw[qf,List.any_cons,hy]
   cases a
   ·simp only[dX,de];rw[Bool.or_comm u1 v,Bool.or_assoc]
   ·simp only[cu];rw[Bool.and_comm u1 v,mQ]
theorem KK(v0:List Bool)(ins:List Nat)(vs:List Bool):∀f,MN v0 ins vs f
 |0,x,y,l,c,l',ok,hv,hi,hm,h1,w,l2,h2=>by cases h1
 |f+1,x,y,[],c,l',ok,hv,hi,hm,h1,w,l2,h2=>by cases h1
 |f+1,x,y,t::l,c,l',ok,hv,hi,hm,h1,w,l2,h2=>by
  rw[gA]at h1;rw[eg]at h2
  split at h2
  ·rename_i ho;unfold ep at ho
   by_cases k2:t.kind=2
   ·rw[if_pos k2]at h1 h2 ho;simp only[aw,bd]at ho
    cases h1;cases h2
    have q1:(t.lit/2).toNat<ins.length:=by omega
    subst hm;rw[KV (by omega)];unfold oL;simp only[bG,wV,bn q1,dp,jt]
    have e1:((t.lit%2).toNat=1)↔t.lit%2=1:=by omega
    simp only[e1]
    cases bI v0 x ins[(t.lit/2).toNat]<;>simp
   ·rw[if_neg k2]at h1 h2 ho
    by_cases k34:t.kind=3\/t.kind=4
    ·rw[if_neg (by omega)]at h1;rw[if_pos k34]at ho;simp only[aw,bd]at ho;obtain⟨z,p,h3,h1⟩:=po h1;obtain⟨ks,l1⟩:=p;obtain⟨e,h4,he⟩:=qO h1;have hkf:=y6 ins (qJ ins f) t.kids.toNat x [] l ok hi (fun a ha=>by cases ha);rw[h3]at hkf;have hks:=hkf.2 _ rfl;simp only at hks;obtain⟨new,hq,hn,hw⟩:=Kb (KK v0 ins vs f) _ _ _ _ _ _ _ _ _ _ _ ok hv hi hm (fun a ha=>by cases ha) h3 h2;rw[ld]at hq;rw[<-hq]at hn hw;simp only[bN]at he;obtain⟨rfl,_⟩:=he
     have h0:ks≠[]:=by
      rintro rfl
      simp at hn;omega
     have hvz:=hv.grow hkf.1
     by_cases k3:t.kind=3
     ·rw[if_pos k3]at h4;rw[zj (by omega) h0 hkf.1.ok hvz hks h4,hw];simp[k3]
     ·have k4:t.kind=4:=by omega
      rw[if_neg k3]at h4;obtain⟨e2,h5,rfl⟩:=qO h4;rw[lj,zj (by omega) h0 hkf.1.ok hvz hks h5,hw];simp only[lj,k4];rw[fN];simp
    ·rw[if_neg k34]at ho
     split at ho
     ·rename_i k01;simp only[aw,bd]at ho;rw[if_pos k01]at h1
      cases h1
      rw[ho.2]at h2;simp only[Int.toNat_zero,eU,aj,bN]at h2;rw[<-h2.1]
      rcases k01 with k|k
      ·rw[k];simpa using DX hv
      ·rw[k];have:=lj (v0:=v0) (x:=x) (a:=0);rw[DX hv]at this;simpa using this
     ·cases ho
  ·cases h2
theorem X4{g:Gt}(hg:kR g=true){v0:List Bool}{ins:List Nat}(hlen:ins.length=g.ins.length){x y:Gr}{d:Nat}(ok:x.Ok)(hv:V0 x v0)(hl:∀a∈ins,a<x.lits)(h:iE x g ins=(y,some d)):bI v0 y d=v8 g (ins.map (bI v0 x)):=by
 unfold iE at h
 rcases Mg hg with⟨h0,h9,ho⟩|⟨h10,h8,hwr⟩
 ·rw[if_pos ⟨h0,h9⟩]at h;obtain⟨e,h1,rfl⟩:=qO h
  rw[KV (by omega),Zh h0 h9 (fun h2=>by
   have:=Ny ho h2
   rintro rfl
   simp at hlen;omega) ok hv hl h1]
  unfold v8;rw[if_neg (by omega)]
  have e2:decide ((g.op%2).toNat=1)=B7 g.op:=by
   unfold B7;rw[fN];simp only[bd];omega
  rw[e2]
  cases Bz g.op (ins.map (bI v0 x))<;>cases B7 g.op<;>rfl
 ·rw[if_neg (by omega)]at h;obtain⟨p,h1,rfl⟩:=qO h;obtain⟨c,l'⟩:=p;have hV:=LL hwr (oL (ins.map (bI v0 x)));unfold Ay at hV
  split at hV
  ·split at hV
   ·rename_i v h5;have hfv:=KK v0 ins (ins.map (bI v0 x)) _ x y _ c l' ok hv hl rfl h1 v [] (by rw[hlen];exact h5);have hvv:=Option.some.inj hV
    have hfit:bo (eC (oL (ins.map (bI v0 x)))) g.rows=bo (fun s=>tx s (ins.map (bI v0 x))) g.rows:=by
     obtain⟨m,hm,_,_,h3⟩:=Lz hwr
     refine JK fun s hs=>?_
     have h6:=h3 s hs;have:=KF (ins.map (bI v0 x)) s 0 h6.1 (by simp;omega);simpa[eC]using this
    unfold v8;rw[if_pos h10,<-hfit,<-hvv,<-hfv];simp only
    cases g.off
    ·simp only[dX,de]
     cases bI v0 y c<;>rfl
    ·simp only[cu,lj]
     cases bI v0 y c<;>rfl
   ·cases hV
  ·cases hV
abbrev c_(c:Ct):Nat:=c.aM.length+c.an.length
structure nh(c:Ct)(v0:List Bool)(x:Gr)(v p:List Nat):Prop where
 grow:eB (dQ c) x
 len:v.length=(aK c).length
 inv:rH c x v p
 low:∀k(hk:k<v.length),k<c_ c->v[k]=2*(k+1)
 eq:∀j∈p,∀h:j<c.af.length,∀hk:c_ c+j<v.length,bI v0 x v[c_ c+j]=v8 c.af[j] ((cU ((aK c).zip v) c.af[j].ins).map (bI v0 x))
 ins:∀j∈p,∀h:j<c.af.length,∀s∈c.af[j].ins,∃k,∃hk:k<(aK c).length,(aK c)[k]=s/\pY c p k
theorem Kf{c:Ct}{p q:List Nat}{k:Nat}(h:pY c p k):pY c (p++q) k:=by
 rcases h with h|⟨j,hj,rfl⟩
 ·exact .inl h
 ·exact .inr ⟨j,uw _ hj,rfl⟩
theorem zG{c:Ct}(hn:(aK c).Nodup){v p:List Nat}(hv:v.length=(aK c).length){a d:Nat}(ha:a∉p){l:List Bs}(hl:∀s∈l,∃k,∃hk:k<(aK c).length,(aK c)[k]=s/\pY c p k):cU ((aK c).zip (v.set (c_ c+a) d)) l=cU ((aK c).zip v) l:=by
 refine wZ fun s hs=>?_
 obtain⟨k,hk,rfl,hc⟩:=hl s hs;rw[v_ _ _ k hn hk (by simpa using hv),v_ _ _ k hn hk hv,Ch]
 rcases hc with hc|⟨j,hj,rfl⟩
 ·simp only[c_];omega
 ·simp only[c_]
  rintro e
  have:a=j:=by omega
  exact ha (this▸hj)
theorem nh.step{c:Ct}(okc:gU c)(hn:(aK c).Nodup){v0:List Bool}(hv0:V0 (dQ c) v0){i:Nat}(hi:i<(aT c).length){x y:Gr}{v:List Nat}{d:Nat}(h:nh c v0 x v ((aT c).take i))
 (hg:iE x (c.af[(aT c)[i]]'(me c _ (bC hi))) (cU ((aK c).zip v) (c.af[(aT c)[i]]'(me c _ (bC hi))).ins)=(y,some d)):
 nh c v0 y (v.set (c_ c+(aT c)[i]) d) ((aT c).take (i+1)):=by
 have ha:=me c _ (bC hi)
 have hic:=fun s hs=>Ep okc hi (s:=s) hs
 have hlt:=vL hn h.len h.inv hic;have hgb:=okc.af _ (bC ha);have hfi:=Jk h.grow.ok (c.af[(aT c)[i]]) hlt;rw[hg]at hfi;have hd:=hfi.2 d rfl
 have hap:(aT c)[i]∉(aT c).take i:=by
  intro hm;obtain⟨x,hx,he⟩:=o7 hm;rw[rS]at he;have:=(Cg (xs:=aT c) (h₀:=by simp at hx;omega) (h₁:=hi) (Ja c)).1 he
  simp at hx;omega
 have hval:=X4 hgb (pn _ _) h.grow.ok (hv0.grow h.grow) hlt hg;have hst:(aT c).take (i+1)=(aT c).take i++[(aT c)[i]]:=kz hi;rw[hst];have hinsA:=zG hn h.len (d:=d) hap hic;refine⟨h.grow.trans hfi.1,by simpa using h.len,h.inv.step hfi.1.lits hd,fun k hk hk2=>?_,fun j hj hjl hk=>?_,fun j hj hjl s hs=>?_⟩
 ·rw[Ch (by simp only[c_]at hk2⊢;omega)];exact h.low k (by simpa using hk) hk2
 ·rcases bF.1 hj with hj|hj
  ·have hne:¬c_ c+(aT c)[i]=c_ c+j:=by
    rintro e
    have:(aT c)[i]=j:=by omega
    exact hap (this▸hj)
   have hij:=h.ins j hj hjl;rw[Ch hne,zG hn h.len hap hij]
   have hk':c_ c+j<v.length:=by simpa using hk
   have hlj:=vL hn h.len h.inv hij;have e:=h.eq j hj hjl hk';rw[Db hfi.1 (hv0.grow h.grow) hlj,<-e];exact pt hfi.1 (hv0.grow h.grow) (h.inv _ hk' (.inr ⟨j,hj,rfl⟩))
  ·simp only[dA]at hj;subst hj;rw[Rx,hinsA,hval,Db hfi.1 (hv0.grow h.grow) hlt]
 ·rcases bF.1 hj with hj|hj
  ·obtain⟨k,hk,e,hc⟩:=h.ins j hj hjl s hs;exact⟨k,hk,e,Kf hc⟩
  ·simp only[dA]at hj;subst hj;obtain⟨k,hk,e,hc⟩:=hic s hs;exact⟨k,hk,e,Kf hc⟩
theorem YG{c:Ct}(okc:gU c)(hn:(aK c).Nodup){v0:List Bool}(hv0:V0 (dQ c) v0){y:Gr}{w:List Nat}:∀n i,i+n=(aT c).length->∀(x:Gr)(v:List Nat),nh c v0 x v ((aT c).take i)->lQ c ((aT c).drop i) x v=(y,some w)->nh c v0 y w (aT c):=by
 intro n
 induction n with
 |zero=>
  intro i hi x v h h1;rw[bu (by omega),lQ]at h1;rw[cL (by omega)]at h
  cases h1
  exact h
 |succ n ih=>
  intro i hi x v h h1
  have q1:i<(aT c).length:=by omega
  rw[bT q1,DG c (me c _ (bC q1))]at h1;obtain⟨z,d,h2,h1⟩:=po h1;exact ih (i+1) (by omega) z _ (h.step okc hn hv0 q1 h2) h1
theorem Ow{c:Ct}(hc:bY c)(okc:gU c)(v0:List Bool):nh c v0 (dQ c) (gy (aK c).length) []:=
 ⟨.refl (MU hc okc),vn _,Lq hc,fun k hk _=>by simp[gy],fun j hj=>(by cases hj),fun j hj=>(by cases hj)⟩
theorem ZP{c:Ct}(hc:bY c)(okc:gU c)(hn:(aK c).Nodup){v0:List Bool}(hv0:V0 (dQ c) v0){y:Gr}{w:List Nat}(h:oM c=(y,some w)):nh c v0 y w (aT c):=
 YG okc hn hv0 (aT c).length 0 (by omega) _ _ (Ow hc okc v0) h
theorem We(c:Ct):(dQ c).first=1+c_ c:=by simp[Gr.first,dQ,c_,mL]
theorem aaO{c:Ct}{state ins:List Bool}(hi:ins.length=c.aM.length)(hs:state.length=c.an.length):V0 (dQ c) (false::(ins++state)):=⟨by rw[We];simp[c_,hi,hs,Nat.add_comm],rfl⟩
theorem LN{c:Ct}(hall:∀i<c.af.length,i∈aT c){s:Bs}(hs:s∈aK c):∃k,∃hk:k<(aK c).length,(aK c)[k]=s/\pY c (aT c) k:=by
 obtain⟨k,hk,he⟩:=o7 hs;refine⟨k,hk,he,?_⟩;have hl:=K0 c
 by_cases h1:k<c.aM.length+c.an.length
 ·exact .inl h1
 ·exact .inr ⟨k-(c.aM.length+c.an.length),hall _ (by omega),by omega⟩
theorem abU{c:Ct}(hc:bY c)(okc:gU c)(hn:(aK c).Nodup)(hall:∀i<c.af.length,i∈aT c){v0:List Bool}{y:Gr}{v:List Nat}(h:nh c v0 y v (aT c)):(gF c y v).Ok:=by
 have ok:=h.grow.ok;have h0:=okc.k9;simp only[iO,ju,iV]at h0
 have hnl:(c.an.map (·.next)).length=c.an.length:=by simp
 have hyn:y.next.length=c.an.length:=by rw[h.grow.next];simp[dQ]
 have hyi:y.init.length=c.an.length:=by rw[h.grow.init];simp[dQ]
 have hl1:=vL hn h.len h.inv (l:=c.an.map (·.next)) (fun s hs=>LN hall (okc.used s (by simp only[gz,bF];exact .inl (.inr hs))));have hl2:=vL hn h.len h.inv (l:=c.bg) (fun s hs=>LN hall (okc.used s (by simp only[gz,bF];exact .inl (.inl hs))))
 have hfirst:(gF c y v).first=y.first:=by simp[Gr.first,gF,pn,hyn]
 have hall':(gF c y v).all=y.all:=by unfold Gr.all;rw[hfirst];rfl
 have hlits:(gF c y v).lits=y.lits:=by unfold Gr.lits;rw[hall']
 refine⟨ok.ins,?_,?_,?_,ok.init,fun a ha=>?_,fun a ha=>?_,fun i hi=>?_⟩
 ·have:=ok.sum;simp[gF,pn]at this⊢;omega
 ·simp[gF,pn];omega
 ·simp[gF,pn,hyi]
 ·rw[hlits];simp only[gF,dn]at ha;obtain⟨n,hn2,rfl⟩:=ha;have:=hl1 n hn2;omega
 ·rw[hlits];simp only[gF,dn]at ha;obtain⟨n,hn2,rfl⟩:=ha;have:=hl2 n hn2;omega
 ·have:=ok.al i hi;rw[hfirst];exact this
end Go.Proofs.YtihmomicdpkabaaGreatDoor
namespace Go.Proofs.YtihmomicdpkabaaGreatDoor
open Go.AM Go.Proofs
variable{Γ:Nat->Option AV}
def BN:Ct:=⟨[[97],[98]],[[122]],[⟨[113],[122],1⟩],[⟨[122],6,[[97],[98]],[],false,1,0,.self,.nil⟩],1,1,3,5,.self,.self,.self,.self⟩
def Bp:Ct:=⟨[[97],[98]],[[121]],[⟨[113],[122],1⟩],[⟨[122],6,[[97],[98]],[],false,1,0,.self,.nil⟩],1,1,3,5,.self,.self,.self,.self⟩
def oT:Gr:=⟨2,[9],[1],[(5,3)],[9],1,1,2,1,.self,.self,.self,.self⟩
def jL:Md:=⟨oT,[[97],[98]],[[113]],[[122]],1,1,1,.self,.self,.self⟩
def ub:Md:=⟨oT,[[97],[98]],[[113]],[[97]],1,1,1,.self,.self,.self⟩
theorem aaC:bY BN:=EJ (by kernel_rfl)
theorem aat:bY Bp:=EJ (by kernel_rfl)
theorem EH:oT.k_:=by unfold Gr.k_ oT;decide
theorem Fx:BV jL:=⟨EH,by decide,by decide,by decide⟩
theorem ac5:BV ub:=⟨EH,by decide,by decide,by decide⟩
theorem aaU:tJ (m5 BN)=.aG [p8 jL,.int .i64 0,.str []]:=by kernel_rfl
theorem aaG:tJ (m5 Bp)=.aG [p8 qb,.int .i64 6,.str [121]]:=by kernel_rfl
set_option maxRecDepth 8000 in
theorem ZS(hΓ:jh Γ)(hΩ:tN Γ):aS Tryz.prog Γ uY [] (.bool true):=by
 have hL1:=EZ hΓ hΩ BN aaC.Bl;have hL2:=EZ hΓ hΩ Bp aat.Bl;rw[aaU]at hL1;rw[aaG]at hL2;have hS:=JE (Γ:=Γ) oT oT EH;rw[show vU oT oT=true by kernel_rfl]at hS;have hT:=UP (Γ:=Γ) [[113]] [[113]] (ka:=1) (kb:=1) .self .self (by simp);have hC1:=L3 (Γ:=Γ) jL Fx;rw[show Ar jL=0 by kernel_rfl]at hC1;have hC2:=L3 (Γ:=Γ) ub ac5;rw[show Ar ub=5 by kernel_rfl]at hC2;have hP1:=Eh (Γ:=Γ) jL [113] (by decide) (by decide);rw[show m4 jL [113]=3 by kernel_rfl]at hP1;have hP2:=Eh (Γ:=Γ) jL [122] (by decide) (by decide);rw[show m4 jL [122]=-1 by kernel_rfl]at hP2;have hS1:=Mh (Γ:=Γ) jL jL Fx;rw[show AD jL jL=true by kernel_rfl]at hS1;have hS2:=Mh (Γ:=Γ) jL ub Fx;rw[show AD jL ub=false by kernel_rfl]at hS2;unfold BN at hL1;unfold Bp at hL2
 unfold jL ub oT at*;unfold qb gm at hL2;simp at hL1 hL2 hS hT hC1 hC2 hP1 hP2 hS1 hS2;refine .run 90 Vt (by simp) ?_;simp;refine .call 90 (by simp) hL1 ?_;simp;refine .call 90 (by simp) hL2 ?_;simp;refine .call 90 (by simp) hS ?_;simp;refine .call 90 (by simp) hT ?_;simp;refine .call 90 (by simp) hC1 ?_;simp;refine .call 90 (by simp) hC2 ?_;simp;refine .call 90 (by simp) hP1 ?_;simp;refine .call 90 (by simp) hP2 ?_;simp;refine .call 90 (by simp) hS1 ?_;simp;refine .call 90 (by simp) hS2 ?_;simp;exact .back (by simp)
def v7:List Gt->Nat
 |[]=>0
 |g::l=>g.rows.length+v7 l
def vS(c:Ct):Bool:=s_ c&&(decide (v7 c.af<=40)&&decide (c.af.length<=16))
set_option maxRecDepth 8000 in
theorem YY(c:Ct)(hc:c.af.length<2^40)(hr:∀g∈c.af,g.rows.length<2^21)(b:Bool):∀n i:Nat,i+n=c.af.length->∀k:Nat,k<=i*2^21->
 az Tryz.prog Γ (ybh (.ptr 0 0) (.bool b) (.int .i64 k) (.int .i64 i) [.cells (AV.cells (bR c))]) (.ret (.bool (b&&(decide (k+v7 (c.af.drop i)<=40)&&decide (c.af.length<=16))))):=by
 intro n
 induction n with
 |zero=>
  intro i hi k hk
  have q1:¬i<c.af.length:=by omega
  rw[bu (by omega),v7];have e1:((k:Int)<=40)=(k<=40):=propext (by omega);have e2:((c.af.length:Int)<=16)=(c.af.length<=16):=propext (by omega);refine .go 60 ?_
  cases b
  ·simp[q1];exact .back (by simp)
  ·by_cases h:k<=40
   ·simp[q1,e1,e2,h];exact .back (by simp[h])
   ·simp[q1,e1,e2,h];exact .back (by simp[h])
 |succ n ih=>
  intro i hi k hk
  have q1:i<c.af.length:=by omega
  have q2:=cF (c.hG.of q1);have hrr:=hr _ (bC q1);have hh:=ih (i+1) (by omega) (k+c.af[i].rows.length) (by omega);rw[bT q1,v7,<-mL];refine .go 60 ?_;simp(disch:=omega) [q1,q2];refine .aN ?_;simp at hh⊢;exact hh
set_option maxRecDepth 8000 in
theorem YE(c:Ct)(hc:c.af.length<2^40)(hr:∀g∈c.af,g.rows.length<2^21):aS Tryz.prog Γ sC [bR c] (.bool (vS c)):=by
 have hL:=Zc (Γ:=Γ) c;have hf:=YY (Γ:=Γ) c hc hr (s_ c) c.af.length 0 (by omega) 0 (by omega);unfold vS;generalize s_ c=b at*;refine .run 60 U3 (by simp) ?_;simp;refine .call 60 (by simp) hL ?_;simp;refine .inLoop ?_;simp at hf⊢;exact hf
def P3(c:Ct):Prop:=jo c/\∀g∈c.af,g.rows.length<2^21
theorem XF{c:Ct}(h:vS c=true):bY c/\c.af.length<=16:=by
 simp only[vS,s_,aw,bd]at h;exact⟨EJ h.1.1,h.2.2⟩
end Go.Proofs.YtihmomicdpkabaaGreatDoor
namespace Go.Proofs.YtihmomicdpkabaaGreatDoor
open Go.AM Go.Proofs Go.ChangeShapes Go.WideShapes Go.ChangeAt Go.RowKit
theorem Y5{H:Type}(d:DataW H):1<=Rows.uptoBulk d:=by
 cases d with
 |lit l=>cases l<;>simp[Rows.uptoBulk]
 |_=>simp[Rows.uptoBulk]
theorem Lv{H:Type}:∀ds:List (DataW H),ds.length<=Rows.uptoBulkAll ds
 |[]=>by simp
 |d::ds=>by have:=Lv ds;have:=Y5 d;simp only[b9,Rows.uptoBulkAll];omega
theorem zT{H:Type}:∀{ds:List (DataW H)}{d:DataW H},d∈ds->Rows.uptoBulk d<=Rows.uptoBulkAll ds
 |e::ds,d,h=>by
  simp only[Rows.uptoBulkAll]
  rcases bq.1 h with rfl|h
  ·omega
  ·have:=zT h;omega
def Small{H:Type}(d:DataW H):Prop:=Rows.uptoBulk d<=1048576
theorem acU{H:Type}:Down (H:=H) 1048576 Small:=by
 refine⟨fun e r h _=>?_,fun ps h d hd=>?_,fun b h _=>?_⟩
 ·simp only[Small,Rows.uptoBulk]at h;refine⟨by have:=Lv e;omega,fun d hd=>?_⟩;have:=zT hd
  simp only[Small];omega
 ·simp only[Small,Rows.uptoBulk]at h⊢;have:=zT hd;omega
 ·simp only[Small,Rows.uptoBulk]at h;omega
theorem YL{H:Type}{ds gs:List (DataW H)}(hk:Rows.uptoSmall H (ds++gs)=true):∀d∈ds,Small d:=by
 intro d hd;have h:=Cj hk;have:=zT (uw gs hd)
 simp only[Small];omega
theorem wA.toL{c:Ct}(h:wA 1048576 c):P3 c:=⟨h.Bl (by decide),fun g hg=>by
 have:=(h.2.2.2.2.1 g hg).2.2.1
 omega⟩
theorem abY{B:Nat}{cs:List AV}(h:dW B (.int .u8) cs):∃m:Nat,cs=[.int .u8 m]/\m<256:=by
 simp only[dW]at h;obtain⟨n,rfl,h1,h2⟩:=h
 have e1:IntKind.min .u8=0:=by decide
 have e2:IntKind.max .u8=255:=by decide
 exact⟨n.toNat,by rw[Int.toNat_of_nonneg (by omega)],by omega⟩
end Go.Proofs.YtihmomicdpkabaaGreatDoor
namespace Go.Proofs.YtihmomicdpkabaaGreatDoor
open Go.AM Go.Proofs
variable{Γ:Nat->Option AV}
theorem Yy{c:Ct}(h:(m5 c).2.1=0):ud c=true/\∃v,(oM c).2=some v/\m5 c=(rh c (oM c).1 v,0,[]):=by
 unfold m5 at h⊢
 by_cases h0:(kP c).1=0
 ·rw[if_pos h0]at h⊢
  cases hv:(oM c).2 with
  |none=>rw[hv]at h;cases h
  |some v=>exact⟨by simp[ud,h0],v,rfl,rfl⟩
 ·rw[if_neg h0]at h;exact absurd h h0
end Go.Proofs.YtihmomicdpkabaaGreatDoor
namespace Go.Proofs.YtihmomicdpkabaaGreatDoor
open Go.AM Go.Proofs
def Can{α:Type}(k:Nat)(x:Gr)(r:Gr×Option α):Prop:=∃a,r.2=some a/\r.1.al.length<=x.al.length+k
def Room(x:Gr)(k:Nat):Prop:=x.ins+x.next.length+x.al.length+k<=4000
theorem Room.of{x y:Gr}{k m:Nat}(h:Room x k)(g:eB x y)(hk:y.al.length+m<=x.al.length+k):Room y m:=by
 unfold Room at h⊢
 rw[g.ins,g.next];omega
theorem Can.map{α β:Type}{k:Nat}{x:Gr}{r:Gr×Option α}(h:Can k x r)(f:α->β):Can k x (eo f r):=by
 obtain⟨a,h1,h2⟩:=h;exact⟨f a,by simp[eo,h1],h2⟩
theorem Can.then{α β:Type}{k m:Nat}{x:Gr}{r:Gr×Option α}{f:Gr->α->Gr×Option β}(h:Can k x r)(hf:∀a,r.2=some a->r.1.al.length<=x.al.length+k->Can m r.1 (f r.1 a)):Can (k+m) x (eD r f):=by
 obtain⟨a,h1,h2⟩:=h;obtain⟨y,o⟩:=r;simp only at h1 h2 hf;subst h1;obtain⟨b,h3,h4⟩:=hf a rfl h2;exact⟨b,h3,by simp only[eD];omega⟩
theorem Can.more{α:Type}{k m:Nat}{x:Gr}{r:Gr×Option α}(h:Can k x r)(hk:k<=m):Can m x r:=by
 obtain⟨a,h1,h2⟩:=h;exact⟨a,h1,by omega⟩
theorem VQ(turn:Nat)(x:Gr)(c a:Nat)(l:List Nat):gS turn x c (a::l)=eD (ej x c (a^^^turn)) fun y d=>gS turn y d l:=by
 rw[gS]
 cases ej x c (a^^^turn)with
 |mk y r=>cases r<;>rfl
theorem LW(first:Nat):∀(ps l:List (Int×Int))(to:List Nat),∃e,(gQ first ps l to).2=to++e
 |[],l,to=>⟨[],by simp[gQ]⟩
 |p::ps,l,to=>by
  rw[gQ]
  obtain⟨e,he⟩:=LW first ps (bz first l (bH to p.1.toNat) (bH to p.2.toNat)).1 (to++[(bz first l (bH to p.1.toNat) (bH to p.2.toNat)).2])
  exact⟨_::e,by rw[he,eQ];rfl⟩
theorem Ev(first:Nat)(dd:List Bool):∀(ps:List (Int×Int))(i:Nat)(l:List (Int×Int))(to:List Nat),∃e,(mC first dd ps i l to).2=to++e
 |[],i,l,to=>⟨[],by simp[mC]⟩
 |p::ps,i,l,to=>by
  rw[mC]
  split
  ·obtain⟨e,he⟩:=Ev first dd ps (i+1) (bz first l (bH to p.1.toNat) (bH to p.2.toNat)).1 (to++[(bz first l (bH to p.1.toNat) (bH to p.2.toNat)).2])
   exact⟨_::e,by rw[he,eQ];rfl⟩
  ·obtain⟨e,he⟩:=Ev first dd ps (i+1) l (to++[0])
   exact⟨_::e,by rw[he,eQ];rfl⟩
theorem KH{first k:Nat}(h:k<first)(e:List Nat):bH (ids first++e) (2*k)=2*k:=by
 unfold bH;rw[show 2*k/2=k by omega,show 2*k%2=0 by omega,bG,dz (by simpa using h),bn (by simpa using h)];simp[ids]
theorem Vd{g:Gr}(h:g.check=0):∃F:Nat->Nat,(∀k<g.first,F (2*k)=2*k)/\g.normal.outs=g.outs.map (fun a=>(F a.toNat:Int))/\g.normal.next=g.next.map (fun a=>(F a.toNat:Int))/\g.normal.init=g.init/\g.normal.ins=g.ins:=by
 have e:g.normal=g.eO.mD:=by unfold Gr.normal;rw[if_pos h]
 obtain⟨e1,h1⟩:=LW g.first g.al [] (ids g.first)
 obtain⟨e2,h2⟩:=Ev g.eO.first g.eO.dd g.eO.al 0 [] (ids g.eO.first)
 have hf:g.eO.first=g.first:=WU _ _
 refine⟨fun a=>bH (mC g.eO.first g.eO.dd g.eO.al 0 [] (ids g.eO.first)).2 (bH (gQ g.first g.al [] (ids g.first)).2 a),fun k hk=>?_,?_,?_,?_,?_⟩
 ·simp only;rw[h1,h2,KH hk,hf,KH hk]
 ·rw[e];simp[Gr.mD,Gr.gf,eE,Gr.eO]
 ·rw[e];simp[Gr.mD,Gr.gf,eE,Gr.eO]
 ·rw[e];rfl
 ·rw[e];rfl
def Still{α:Type}(z:Gr)(r:Gr×Option α)(d:α):Prop:=r.2=some d/\eB z r.1/\r.1.al=z.al
def gh{α:Type}(f:Gr->Gr×Option α):Prop:=∀x y d,x.Ok->f x=(y,some d)->eB x y/\∀z,eB y z->Still z (f z) d
theorem VK(first:Nat)(l:List (Int×Int))(a b:Nat)(e:List (Int×Int)):bz first ((bz first l a b).1++e) a b=((bz first l a b).1++e,(bz first l a b).2):=by
 unfold bz
 cases hk:kX (max a b) (min a b)with
 |some c=>rfl
 |none=>
  simp only
  cases hi:eX (((max a b:Nat):Int),((min a b:Nat):Int)) l 0 with
  |some i=>
   simp only;rw[u7,hi]
  |none=>
   simp only;rw[eQ,u7,hi];simp[eX]
theorem zX(p q:Nat):gh fun x=>ej x p q:=by
 intro x y d ok h;simp only at h;obtain⟨g1,g2⟩:=mb ok h;refine⟨g1,fun z hz=>?_⟩;obtain⟨e0,e1,e2⟩:=J4 h;obtain⟨e,he⟩:=hz.al
 have hA:y.al=(bz x.first x.al p q).1:=by rw[e1];simp[Gr.dF,e0,Gr.gW]
 have hG:bz z.first z.al p q=(z.al,(bz x.first x.al p q).2):=by
  rw[hz.first,g1.first,he,hA];exact VK _ _ _ _ _
 have hd:d=(bz x.first x.al p q).2:=by rw[e2];simp[Gr.ek,e0]
 have hE:z.ji p q=0:=by
  have hs:=hz.ok.sum;have hl:=(g1.trans hz).lits;have a0:=e0;unfold Gr.ji at a0⊢;rw[if_neg (by rw[Gr.sU ok];decide)]at a0
  split at a0
  ·cases a0
  ·rename_i hb;rw[if_neg (by rw[Gr.sU hz.ok];decide),if_neg,if_neg]
   ·simp only[jr,hG];omega
   ·simp only[dV,eH,bd]at hb⊢;omega
 unfold Still
 have hO:ej z p q=(z.dF p q,some (z.ek p q)):=by unfold ej;rw[if_pos hE]
 have hgz:=(mb hz.ok hO).1;simp only[hO];refine⟨?_,hgz,?_⟩
 ·rw[hd];simp[Gr.ek,hE,hG]
 ·simp[Gr.dF,hE,Gr.gW,hG]
theorem pw{α:Type}(c:α):gh fun x=>(x,some c):=by
 intro x y d ok h
 cases h
 exact⟨.refl ok,fun z hz=>⟨rfl,.refl hz.ok,rfl⟩⟩
theorem K4{α:Type}:gh fun x=>(x,(none:Option α)):=by
 intro x y d ok h
 cases h
theorem gh.map{α β:Type}{f:Gr->Gr×Option α}(h:gh f)(m:α->β):gh fun x=>eo m (f x):=by
 intro x y d ok he;obtain⟨a,h1,rfl⟩:=qO he;obtain⟨g,hz⟩:=h x y a ok h1;refine⟨g,fun z h2=>?_⟩;obtain⟨s1,s2,s3⟩:=hz z h2;exact⟨by simp[eo,s1],s2,s3⟩
theorem gh.then{α β:Type}{f:Gr->Gr×Option α}{g:Gr->α->Gr×Option β}(h:gh f)(hg:∀a,gh fun y=>g y a):gh fun x=>eD (f x) g:=by
 intro x y d ok he;obtain⟨x1,a,h1,h2⟩:=po he;obtain⟨g1,s1⟩:=h x x1 a ok h1;obtain⟨g2,s2⟩:=hg a x1 y d g1.ok h2;refine⟨g1.trans g2,fun z hz=>?_⟩;obtain⟨t1,t2,t3⟩:=s1 z (g2.trans hz);simp only
 cases hf:f z with
 |mk z1 o=>
  rw[hf]at t1 t2 t3;simp only at t1 t2 t3;subst t1;obtain⟨u1,u2,u3⟩:=s2 z1 (hz.trans t2);exact⟨u1,t2.trans u2,by simp only[eD];rw[u3,t3]⟩
theorem Kx(turn:Nat):∀(l:List Nat)(c:Nat),gh fun x=>gS turn x c l
 |[],c=>pw c
 |a::l,c=>by
  have e:(fun x=>gS turn x c (a::l))=fun x=>eD (ej x c (a^^^turn)) fun y d=>gS turn y d l:=funext fun x=>VQ turn x c a l
  rw[e]
  exact(zX c (a^^^turn)).then fun d=>Kx turn l d
theorem zm(turn:Nat)(l:List Nat):gh fun x=>iJ turn x l:=by
 cases l with
 |nil=>exact pw 0
 |cons a l=>exact Kx turn l _
theorem Z6(c a:Nat):gh fun x=>wh x c a:=
 (zX _ _).then fun p=>(zX _ _).then fun q=>(zX _ _).map _
theorem Kv:∀(l:List Nat)(c:Nat),gh fun x=>nc x c l
 |[],c=>pw c
 |a::l,c=>(Z6 c a).then fun d=>Kv l d
theorem Zr(n:Int)(l:List Nat):gh fun x=>ni n x l:=by
 unfold ni
 split
 ·exact pw 0
 ·split
  ·exact zm 0 l
  ·split
   ·exact(zm 1 l).map _
   ·cases l with
    |nil=>exact pw 0
    |cons a l=>exact Kv l a
theorem LS{rd:Gr->List Fm->Gr×Option (Nat×List Fm)}(h:∀l,gh fun x=>rd x l):∀(k:Nat)(ks:List Nat)(l:List Fm),gh fun x=>jb rd k x ks l
 |0,ks,l=>pw (ks,l)
 |k+1,ks,l=>(h l).then fun p=>LS h k (ks++[p.1]) p.2
theorem abj(t:Fm)(p:List Nat×List Fm):gh fun y=>pU t y p:=by
 unfold pU;refine gh.map ?_ _
 split
 ·exact zm 0 p.1
 ·exact(zm 1 p.1).map _
theorem Lx(ins:List Nat):∀(f:Nat)(l:List Fm),gh fun x=>gA ins f x l
 |0,l=>K4
 |f+1,[]=>K4
 |f+1,t::l=>by
  simp only[gA]
  split
  ·exact pw _
  ·split
   ·exact pw _
   ·exact(LS (fun l=>Lx ins f l) t.kids.toNat [] l).then fun p=>abj t p
theorem YC(g:Gt)(ins:List Nat):gh fun x=>iE x g ins:=by
 unfold iE
 split
 ·exact(Zr g.op ins).map _
 ·exact(Lx ins _ _).map _
def wk(c:Ct)(x:Gr)(v p:List Nat):Prop:=∀j∈p,∀(h:j<c.af.length)(hk:c_ c+j<v.length)(z:Gr),eB x z->Still z (iE z c.af[j] (cU ((aK c).zip v) c.af[j].ins)) v[c_ c+j]
theorem wk.step{c:Ct}(okc:gU c)(hn:(aK c).Nodup){v0:List Bool}{i:Nat}(hi:i<(aT c).length){x y:Gr}{v:List Nat}{d:Nat}(hI:nh c v0 x v ((aT c).take i))(h:wk c x v ((aT c).take i))
 (hg:iE x (c.af[(aT c)[i]]'(me c _ (bC hi))) (cU ((aK c).zip v) (c.af[(aT c)[i]]'(me c _ (bC hi))).ins)=(y,some d)):
 wk c y (v.set (c_ c+(aT c)[i]) d) ((aT c).take (i+1)):=by
 have ha:=me c _ (bC hi)
 have hic:=fun s hs=>Ep okc hi (s:=s) hs
 have hap:(aT c)[i]∉(aT c).take i:=by
  intro hm;obtain⟨x,hx,he⟩:=o7 hm;rw[rS]at he;have:=(Cg (xs:=aT c) (h₀:=by simp at hx;omega) (h₁:=hi) (Ja c)).1 he
  simp at hx;omega
 have hst:(aT c).take (i+1)=(aT c).take i++[(aT c)[i]]:=kz hi;have hA:=YC (c.af[(aT c)[i]]) (cU ((aK c).zip v) c.af[(aT c)[i]].ins) x y d hI.grow.ok hg;rw[hst];intro j hj hjl hk z hz
 rcases bF.1 hj with hj|hj
 ·have hne:¬c_ c+(aT c)[i]=c_ c+j:=by
   rintro e
   have:(aT c)[i]=j:=by omega
   exact hap (this▸hj)
  have hk':c_ c+j<v.length:=by simpa using hk
  have e1:(v.set (c_ c+(aT c)[i]) d)[c_ c+j]=v[c_ c+j]:=Ch hne _;rw[e1,zG hn hI.len hap (hI.ins j hj hjl)];exact h j hj hjl hk' z (hA.1.trans hz)
 ·simp only[dA]at hj;subst hj;have e1:(v.set (c_ c+(aT c)[i]) d)[c_ c+(aT c)[i]]=d:=Rx _;rw[e1,zG hn hI.len hap hic];exact hA.2 z hz
theorem V3{c:Ct}(okc:gU c)(hn:(aK c).Nodup){v0:List Bool}(hv0:V0 (dQ c) v0){y:Gr}{w:List Nat}:∀n i,i+n=(aT c).length->∀(x:Gr)(v:List Nat),nh c v0 x v ((aT c).take i)->wk c x v ((aT c).take i)->lQ c ((aT c).drop i) x v=(y,some w)->wk c y w (aT c):=by
 intro n
 induction n with
 |zero=>
  intro i hi x v h hA h1;rw[bu (by omega),lQ]at h1;rw[cL (by omega)]at hA
  cases h1
  exact hA
 |succ n ih=>
  intro i hi x v h hA h1
  have q1:i<(aT c).length:=by omega
  rw[bT q1,DG c (me c _ (bC q1))]at h1;obtain⟨z,d,h2,h1⟩:=po h1;exact ih (i+1) (by omega) z _ (h.step okc hn hv0 q1 h2) (hA.step okc hn q1 h h2) h1
theorem X0{c:Ct}(hb:jo c)(ho:ud c=true){y:Gr}{v:List Nat}(hg:oM c=(y,some v)){a b:Nat}(ha:a<c.af.length)(hb2:b<c.af.length)
 (hsame:∀z ins,iE z c.af[a] ins=iE z c.af[b] ins)(hins:c.af[a].ins=c.af[b].ins)(hout:c.bg=[c.af[a].name,c.af[b].name]):∃n:Int,(rh c y v).g.outs=[n,n]:=by
 obtain⟨hr,hnv,_⟩:=ML ho;obtain⟨okc,_⟩:=zz hr;have hc:=zw hb hr;have hn:(aK c).Nodup:=okc.nodup
 have hall:∀i<c.af.length,i∈aT c:=fun i hi=>by
  refine Classical.byContradiction fun hni=>?_
  have h1:=(Yw (xW hr) (aT c) hi).2 hni
  have h2:mr c=lq (aT c) c.af 0:=by simp[mr,hr]
  rw[<-h2,hnv]at h1
  cases h1
 have hv0:V0 (dQ c) (false::(List.replicate c.aM.length false++List.replicate c.an.length false)):=aaO (by simp) (by simp);have p7:=ZP hc okc hn hv0 hg;have hA:=V3 okc hn hv0 (aT c).length 0 (by omega) _ _ (Ow hc okc _) (fun j hj=>by cases hj) hg;have hok:=abU hc okc hn hall p7;have hck:=Gr.sU hok;obtain⟨F,f1,f2,_⟩:=Vd hck
 have hlen:(aK c).length=c_ c+c.af.length:=by simp only[aK,c_,bM,iq]
 have hat:∀j(hj:j<c.af.length),rM ((aK c).zip v) c.af[j].name=v[c_ c+j]'(by rw[p7.len,hlen];omega):=fun j hj=>by
  have e0:(aK c)[c_ c+j]? =some c.af[j].name:=by
   simp only[aK,c_];rw[dL (by simp),show c.aM.length+c.an.length+j-(c.aM++c.an.map (·.name)).length=j by simp];simp[hj]
  have e1:(aK c)[c_ c+j]'(by omega)=c.af[j].name:=(dB.1 e0).2;rw[<-e1];exact v_ _ _ _ hn (by omega) p7.len
 have hka:c_ c+a<v.length:=by rw[p7.len,hlen];omega
 have hkb:c_ c+b<v.length:=by rw[p7.len,hlen];omega
 have s1:=(hA a (hall a ha) ha hka y (.refl p7.grow.ok)).1;have s2:=(hA b (hall b hb2) hb2 hkb y (.refl p7.grow.ok)).1;rw[hsame,hins,s2]at s1;have hv:v[c_ c+b]=v[c_ c+a]:=Option.some.inj s1;refine⟨F (v[c_ c+a]),?_⟩;simp only[rh];rw[f2];simp only[gF,cU,la];rw[hout];simp[hat a ha,hat b hb2,hv]
end Go.Proofs.YtihmomicdpkabaaGreatDoor
namespace Go.Proofs.YtihmomicdpkabaaGreatDoor
open Go.AM Go.Proofs
variable{Γ:Nat->Option AV}
abbrev tB:Bs:=[99,111,112,121]
def AE(g:Gt):Gt:={g with name:=tB}
def iI(c:Ct)(g:Gt):Ct:={c with bg:=[g.name,tB],kO:=1,hO:=.self,af:=c.af++[AE g],kG:=5,hG:=.self}
theorem MY{c:Ct}(hb:jo c)(h16:c.af.length<=16){g:Gt}(hg:g∈c.af):jo (iI c g):=by
 obtain⟨h1,h2,h3,h4,h5,h6,h7,h8⟩:=hb;obtain⟨a1,a2,a3,a4,a5⟩:=h5 g hg;refine⟨h1,by simp[iI],h3,by simp[iI];omega,fun x hx=>?_,h6,fun s hs=>?_,h8⟩
 ·simp only[iI,bF,dA]at hx
  rcases hx with hx|rfl
  ·exact h5 x hx
  ·exact⟨by simp[AE,tB],a2,a3,a4,a5⟩
 ·simp only[iI,bq,nP,nG]at hs
  rcases hs with rfl|rfl
  ·exact a1
  ·simp[tB]
theorem Yc{c:Ct}(hb:jo c)(h16:c.af.length<=16){j:Nat}(hj:j<c.af.length)(h:(m5 (iI c c.af[j])).2.1=0):∃n:Int,(m5 (iI c c.af[j])).1.g.outs=[n,n]:=by
 have hb2:=MY hb h16 (bC hj);obtain⟨ho,v,hv,he⟩:=Yy h
 have l1:(iI c c.af[j]).af.length=c.af.length+1:=by simp[iI]
 have ga:(iI c c.af[j]).af[j]'(by omega)=c.af[j]:=by simp[iI,hj]
 have gb:(iI c c.af[j]).af[c.af.length]'(by omega)=AE c.af[j]:=by simp[iI]
 obtain⟨n,hn⟩:=X0 hb2 ho (y:=(oM (iI c c.af[j])).1) (v:=v) (by rw[<-hv]) (a:=j) (b:=c.af.length) (by omega) (by omega) (fun z ins=>by rw[ga,gb];rfl) (by rw[ga,gb];rfl) (by rw[ga,gb];rfl);exact⟨n,by rw[he];exact hn⟩
theorem adB{n:Nat}(h:n<=16):n*80<=140737488355328/\(n+1)*80<=140737488355328:=by omega
set_option maxRecDepth 8000 in
set_option maxHeartbeats 1000000 in
theorem US(hΓ:jh Γ)(hΩ:tN Γ)(c:Ct)(hb:P3 c)(at_:Nat)(ha:at_<256):aS Tryz.prog Γ CG [bR c,.int .u8 at_] (.bool true):=by
 have hP:=YE (Γ:=Γ) c hb.1.2.2.2.1 hb.2;refine .run 90 Tx (by simp) ?_;simp;refine .call 90 (by simp) (ZS hΓ hΩ) ?_;simp;refine .call 90 (by simp) hP ?_
 cases hp:vS c with
 |false=>
  simp;exact .back (by simp)
 |true=>
  obtain⟨hc,hg16⟩:=XF hp;have hPl:=aaV (Γ:=Γ) c hc tB
  by_cases h1:c.af.length=0
  ·have e1:(c.af.length:Int)<1:=by omega
   simp[e1];exact .back (by simp)
  ·have e1:¬(c.af.length:Int)<1:=by omega
   simp[e1];refine .call 90 (by simp) hPl ?_
   by_cases h2:0<=Fc c tB
   ·simp[h2];exact .back (by simp)
   ·simp[h2];have hj:at_%c.af.length<c.af.length:=w7 _ (by omega);have q3:=c.hG.of hj
    have hne:¬c.af=[]:=fun h=>h1 (by rw[h];rfl)
    have hmod:(at_:Int).tmod (c.af.length:Int)=((at_%c.af.length:Nat):Int):=rfl;generalize hJ:at_%c.af.length=j at*;refine .dr 60 ?_;simp(disch:=omega) [q3,hj,hne,hmod]
    obtain⟨e0,er,hE⟩:∃e0 er,c.af.map cZ=e0::er:=by
     cases hm:c.af with
     |nil=>exact absurd hm hne
     |cons a l=>exact⟨_,_,rfl⟩
    have hEl:er.length+1=c.af.length:=by have:=congrArg List.length hE;simpa using this.symm
    have hle:=adB (show er.length+1<=16 by rw[hEl];exact hg16);refine .lN [0,1,3,9,10,11,12,13,14,15,16,17,18,19,20,21,22,23,24,25,26,27,28,29,30,31,32,33,34,35,36,37,38,39,40,41,42,43,44,45,46] ?_;simp[lM];rw[hE];have hLd:=EZ hΓ hΩ (iI c c.af[j]) (MY hb.1 hg16 (bC hj));have hout:=Yc hb.1 hg16 hj;generalize m5 (iI c c.af[j])=L at hLd hout;simp[iI,AE,hE]at hLd;apply az.reach
    ·apply Reach.og 30
     repeat' (first|refine H7.2 ⟨?_,?_⟩|exact Rv _)
     all_goals
      simp(disch:=omega) [hE,hle.1,hle.2]<;>exact .refl _
    ·have htk:∀x:AV,(er++[x]).take (er.length+1)=er++[x]:=fun x=>cL (by simp)
     refine .call 90 (by simp[htk];rw[hE];rfl) hLd ?_
     by_cases h0:L.2.1=0
     ·obtain⟨n,hn⟩:=hout h0;have q7:=L.1.g.ho.of (show 0<L.1.g.outs.length by rw[hn];simp);simp[h0,hn,q7];exact .back (by simp)
     ·simp[h0];exact .back (by simp)
end Go.Proofs.YtihmomicdpkabaaGreatDoor
namespace Go.Proofs.YtihmomicdpkabaaGreatDoor
open Go.AM Go.Proofs Go.ChangeShapes Go.WideShapes Go.ChangeAt Go.RowKit
theorem Tw(os:Os){H:Type}(enc:TypeId×Value->H):∃places,DataW.whole enc Tryz.prog ((E9 os).forCall (fun _ _=>0) ⟨#[],#[.agg #[.slice none 0 0,.slice none 0 0,.slice none 0 0,.slice none 0 0],.int .u8 0],[]⟩).memory Tryz.f3.params.toList Rows.lowerOnceSpec.vars false (#[.agg #[.slice none 0 0,.slice none 0 0,.slice none 0 0,.slice none 0 0],.int .u8 0]:Array Value).toList 8=some ([.agg [.nil,.nil,.nil,.nil],.lit (.int .u8 0)],[],places):=
 ⟨[],by kernel_rfl⟩
set_option maxRecDepth 100000 in
theorem Tj(os:Os)(started:os.Started)(H:Type)(enc:TypeId×Value->H)(F:Stop.Interp):
 ReturnsInHanded {} Tryz.checked os 3 .any ((Rows.OpenSpec.upto Rows.lowerOnceSpec).preRow enc Tryz.prog Tryz.f3 Rows.lowerOnceUptoRow.domain false Rows.lowerOnceUptoRow.laid) (((Rows.OpenSpec.upto Rows.lowerOnceSpec).at F).post enc Tryz.prog Tryz.f3 false true false false):=by
 obtain⟨places,hx⟩:=Tw os enc
 refine returnsInHanded_of_row (C:=Tryz.checked) (s:=Rows.OpenSpec.upto Rows.lowerOnceSpec) own started (by kernel_rfl) Tryz.func3
  (witness_row_at (enc:=enc) (C:=Tryz.checked) false (E9 os) #[.agg #[.slice none 0 0,.slice none 0 0,.slice none 0 0,.slice none 0 0],.int .u8 0] rfl (by kernel_rfl) (by kernel_rfl) (by kernel_rfl)
   (OpenSpec.preRow_of_cond 8 hx (by kernel_rfl) (fun k hk=>by cases hk;kernel_rfl) (by kernel_rfl) (YX os _))) ?_
 intro W base args ds gs before hval hW _ hcond _ hL hsh _;obtain⟨Γ,hΓ,hok⟩:=ZM hL;refine VO acU (Γ:=Γ) (shs:=[(true,Og),(false,(.int .u8))]) laid acY (tb:=4) (by kernel_rfl) u4 (Cj (by kernel_rfl)) (by kernel_rfl) rfl ?_ hok ?_ hval hW (YL (hcond _ rfl))
 ·intro ds hds
  match ds,hds with
  |[d1,d2],_=>exact⟨rfl,rfl,rfl⟩
 ·intro xs has;simp only[qZ]at has;obtain⟨_,_,rfl,h1,_,_,_,rfl,h2,_,rfl⟩:=has;obtain⟨a1,l1,a1b⟩:=acb h1;obtain⟨a2,rfl,a2b⟩:=abY h2;simp only[lT,l1];exact US hΓ.1 hΓ.2 a1 a1b.toL a2 a2b
theorem TE:Rows.LowerOnceUptoSaid:=
 OpenClaim.holds_of_cond 3 Tryz.f3 rfl rfl rfl rfl rfl rfl rfl ⟨rfl,rfl,rfl,rfl,rfl⟩ rfl rfl rfl rfl rfl (by kernel_rfl) Tryz.func3 (by kernel_rfl)
  (Cj (by kernel_rfl)) (by unfold Func.isWrapper;first|(rw[if_pos (by decide+kernel)];kernel_rfl)|(rw[if_neg (by decide+kernel)];exact⟨rfl,rfl⟩))
  (fun os started H enc _ F=>by rw[OpenClaim.pre_eq_preRow];exact Tj os started H enc F)
theorem To(f:FuncId)(fn:Func)(hf:Tryz.pinned.checked.prog.funcNamed "patchbay/patchbaylaw11.LowerOnce" =some f)(hfn:Tryz.pinned.checked.prog.funcs[f]? =some fn):
 true=Tryz.pinned.checked.prog.looks []/\∀(j:Nat) t,fn.params[j]? =some t->Tryz.pinned.checked.prog.wantsStandIn t=false:=by
 obtain rfl:f=3:=Option.some.inj ((show Tryz.prog.funcNamed "patchbay/patchbaylaw11.LowerOnce" =some 3 by kernel_rfl).symm.trans hf)|>.symm
 obtain rfl:fn=Tryz.f3:=(Option.some.inj (Tryz.func3.symm.trans hfn)).symm;refine⟨by kernel_rfl,fun j t ht=>?_⟩
 have h1:(Tryz.f3.params.toList.all fun t=>!Tryz.prog.wantsStandIn t)=true:=by kernel_rfl
 have h2:=dy.1 h1 t (by simpa using Array.mem_of_getElem? ht)
 revert h2
 show(!Tryz.prog.wantsStandIn t)=true->Tryz.prog.wantsStandIn t=false
 cases Tryz.prog.wantsStandIn t<;>intro h<;>first|rfl|cases h
theorem lowerOnce_holds:Rows.LowerOnceUptoCardSaid:=
 Claim7.holds_tied_plain_at .later [] _ _ _ _ TE (fun _ h=>by cases h) (by kernel_rfl) (fun _ h=>by cases h) lowerOnceUpto_row_tie rfl ⟨rfl,rfl⟩ (by kernel_rfl) rfl To (by kernel_rfl)
#print axioms lowerOnce_holds
end Go.Proofs.YtihmomicdpkabaaGreatDoor
