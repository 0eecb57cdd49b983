/- Steps: steps, one after the other. -/
import Derived.Test.YtihmomicdpkabaaGreatDoorJ
import Derived.Test.YtihmomicdpkabaaGreatDoorI
import Derived.Test.YtihmomicdpkabaaGreatDoorG
import Derived.Test.YtihmomicdpkabaaGreatDoorH
import Derived.JoinedCond
set_option linter.unusedSimpArgs false
set_option linter.unusedVariables false
namespace Go.Proofs.YtihmomicdpkabaaGreatDoor
open Go.AM Go.Proofs
variable{Γ:Nat->Option AV}
@[simp] theorem ayG(n:Nat)(c:Ct)(N:List Bs)(l:List Nat):gA n (BG c N l)=true:=by simp[BG]
@[simp] theorem ayC(n m:Nat)(c:Ct)(N:List Bs)(l:List Nat):lB n m (BG c N l)=true:=by simp[BG]
end Go.Proofs.YtihmomicdpkabaaGreatDoor
namespace Go.Proofs.YtihmomicdpkabaaGreatDoor
open Go.AM Go.Proofs
def bJ(v0:List Bool)(x:Gr)(a:Nat):Bool:=bK (bT x.ands v0) a
structure V0(x:Gr)(v0:List Bool):Prop where
 len:v0.length=x.first
 zero:bK v0 0=false
theorem V0.grow{x y:Gr}{v0:List Bool}(h:V0 x v0)(g:fK x y):V0 y v0:=⟨by rw[g.first];exact h.len,h.zero⟩
theorem oN{x y:Gr}(g:fK x y){v0:List Bool}(hv:V0 x v0){c:Nat}(hc:c<x.lits):bJ v0 y c=bJ v0 x c:=by
 obtain⟨e,he⟩:=g.ands;unfold bJ;rw[he,vK];refine tM e ?_;rw[wi,hv.len];unfold Gr.lits Gr.all at hc;omega
theorem lO{v0:List Bool}{x:Gr}{a:Nat}:bJ v0 x (a^^^1)=!bJ v0 x a:=Aj
theorem Lv{v0:List Bool}{x:Gr}{a t:Nat}(ht:t<=1):bJ v0 x (a^^^t)=(bJ v0 x a !=decide (t=1)):=by
 obtain rfl|rfl:t=0\/t=1:=by omega
 ·simp
 ·rw[lO];simp
theorem EU{v0:List Bool}{x:Gr}(hv:V0 x v0):bJ v0 x 0=false:=by
 unfold bJ;rw[tM _ (by rw[hv.len];unfold Gr.first;omega),hv.zero]
theorem Ay{x y:Gr}{v0:List Bool}(ok:x.Ok)(hv:V0 x v0){p q d:Nat}(h:eL x p q=(y,some d)):bJ v0 y d=(bJ v0 x p&&bJ v0 x q):=by
 obtain⟨he,rfl,rfl⟩:=Ys h;have a:=Pe he
 have hf1:1<=x.first:=by unfold Gr.first;omega
 have h1:=a.a1;have h2:=a.b1;simp only[Gr.lits,Gr.all]at h1 h2;unfold bJ;rw[a.R,a.C];have:=Nd (first:=x.first) (l:=x.ands) hv.len hv.zero hf1 (fun i hi=>ok.ands i hi) (a:=p) (b:=q) (by omega) (by omega);simpa using this
theorem LL{turn:Nat}(ht:turn<=1){v0:List Bool}:∀(l:List Nat)(x y:Gr)(c d:Nat),x.Ok->V0 x v0->c<x.lits->(∀a∈l,a<x.lits)->iA turn x c l=(y,some d)->bJ v0 y d=(bJ v0 x c&&l.all fun a=>bJ v0 x (a^^^turn))
 |[],x,y,c,d,ok,hv,hc,hl,h=>by
  rw[iA]at h;cases h;simp
 |a::l,x,y,c,d,ok,hv,hc,hl,h=>by
  rw[iA]at h
  cases h1:eL x c (a^^^turn)with
  |mk z r=>
   rw[h1]at h
   cases r with
   |none=>cases h
   |some e=>
    obtain⟨g1,g2⟩:=oF ok h1;have ih:=LL ht l z y e d g1.ok (hv.grow g1) (g2 e rfl) (fun b hb=>gD (hl b (by simp[hb])) g1.lits) h;rw[ih,Ay ok hv h1,qR,nr];congr 2;rw[eZ,dE,dE]
    have e1:∀b∈l,bJ v0 z (b^^^turn)=bJ v0 x (b^^^turn):=fun b hb=>oN g1 hv (lQ (n:=x.all) ht (hl b (by simp[hb])))
    exact⟨fun h b hb=>by rw[<-e1 b hb];exact h b hb,fun h b hb=>by rw[e1 b hb];exact h b hb⟩
theorem Aa{turn:Nat}(ht:turn<=1){v0:List Bool}{l:List Nat}(h0:l≠[]){x y:Gr}{d:Nat}(ok:x.Ok)(hv:V0 x v0)(hl:∀a∈l,a<x.lits)(h:fN turn x l=(y,some d)):bJ v0 y d=l.all fun a=>bJ v0 x (a^^^turn):=by
 cases l with
 |nil=>exact absurd rfl h0
 |cons a r=>exact LL ht r x y _ d ok hv (lQ (n:=x.all) ht (hl a (by simp))) (fun b hb=>hl b (by simp[hb])) h
theorem tv{α β:Type}{r:Gr×Option α}{f:Gr->α->Gr×Option β}{y:Gr}{b:β}(h:eF r f=(y,some b)):∃z a,r=(z,some a)/\f z a=(y,some b):=by
 obtain⟨z,o⟩:=r
 cases o with
 |none=>cases h
 |some a=>exact⟨z,a,rfl,h⟩
theorem tG{α β:Type}{r:Gr×Option α}{f:α->β}{y:Gr}{b:β}(h:dZ f r=(y,some b)):∃a,r=(y,some a)/\f a=b:=by
 obtain⟨z,o⟩:=r
 cases o with
 |none=>cases h
 |some a=>
  simp only[dZ,dt,bL,aj]at h;exact⟨a,by rw[h.1],h.2⟩
theorem aad{x y:Gr}{v0:List Bool}(ok:x.Ok)(hv:V0 x v0){c a d:Nat}(hc:c<x.lits)(ha:a<x.lits)(h:uO x c a=(y,some d)):bJ v0 y d=(bJ v0 x c !=bJ v0 x a):=by
 obtain⟨z,p,h1,h⟩:=tv h;obtain⟨w,q,h2,h⟩:=tv h;obtain⟨e,h3,rfl⟩:=tG h;obtain⟨g1,b1⟩:=oF ok h1;obtain⟨g2,b2⟩:=oF g1.ok h2;have hp:=b1 p rfl;have hq:=b2 q rfl;have e3:=Ay g2.ok ((hv.grow g1).grow g2) h3;have e2:=Ay g1.ok (hv.grow g1) h2;have e1:=Ay ok hv h1;rw[lO,e3,lO,lO,oN g2 (hv.grow g1) hp,e2,e1,lO,lO,oN g1 hv hc,oN g1 hv ha]
 cases bJ v0 x c<;>cases bJ v0 x a<;>rfl
theorem Mc(v:Bool)(l:List Bool):decide (ie (v::l)%2=1)=(v !=decide (ie l%2=1)):=by
 rw[ie]
 cases v
 ·simp
 ·simp only[cq];rw[eZ];simp;omega
theorem K1{v0:List Bool}:∀(l:List Nat)(x y:Gr)(c d:Nat),x.Ok->V0 x v0->c<x.lits->(∀a∈l,a<x.lits)->l6 x c l=(y,some d)->bJ v0 y d=(bJ v0 x c !=decide (ie (l.map (bJ v0 x))%2=1))
 |[],x,y,c,d,ok,hv,hc,hl,h=>by
  rw[l6]at h;cases h;simp[ie]
 |a::l,x,y,c,d,ok,hv,hc,hl,h=>by
  rw[l6]at h;obtain⟨z,e,h1,h⟩:=tv h;have g:=Ew ok c a;rw[h1]at g;have ih:=K1 l z y e d g.1.ok (hv.grow g.1) (g.2 e rfl) (fun b hb=>gD (hl b (by simp[hb])) g.1.lits) h
  have e1:l.map (bJ v0 z)=l.map (bJ v0 x):=nk fun b hb=>oN g.1 hv (hl b (by simp[hb]))
  rw[ih,aad ok hv hc (hl a (by simp)) h1,e1,b9,Mc]
  cases bJ v0 x c<;>cases bJ v0 x a<;>simp
theorem YO{v0:List Bool}{l:List Nat}(h0:l≠[]){x y:Gr}{d:Nat}(ok:x.Ok)(hv:V0 x v0)(hl:∀a∈l,a<x.lits)(h:uC x l=(y,some d)):bJ v0 y d=decide (ie (l.map (bJ v0 x))%2=1):=by
 cases l with
 |nil=>exact absurd rfl h0
 |cons a r=>rw[K1 r x y a d ok hv (hl a (by simp)) (fun b hb=>hl b (by simp[hb])) h,b9,Mc]
theorem Od:∀l:List Bool,decide (ie l=l.length)=l.all id
 |[]=>rfl
 |v::l=>by
  have:=Nv l;rw[ie,qR,<-Od l,bP]
  cases v
  ·have h:¬(0+ie l=l.length+1):=by omega
   simp;omega
  ·have h:(1+ie l=l.length+1)↔ie l=l.length:=by omega
   simp[h]
theorem Ny:∀l:List Bool,decide (0<ie l)=l.any id
 |[]=>rfl
 |v::l=>by
  rw[ie,List.any_cons,<-Ny l]
  cases v<;>simp<;>omega
theorem ZV{n:Int}(h0:0<=n)(h9:n<=9){v0:List Bool}{l:List Nat}(hl0:2<=n->l≠[]){x y:Gr}{d:Nat}(ok:x.Ok)(hv:V0 x v0)(hl:∀a∈l,a<x.lits)(h:nW n x l=(y,some d)):bJ v0 y d=Cr n (l.map (bJ v0 x)):=by
 unfold nW at h;unfold Cr
 by_cases c1:n<=1
 ·rw[if_pos c1]at h
  cases h
  rw[if_pos (by omega),EU hv]
 ·rw[if_neg c1]at h;rw[if_neg (by omega)]
  by_cases c2:n<=5
  ·rw[if_pos c2]at h;rw[if_pos (by omega),Aa (by omega) (hl0 (by omega)) ok hv hl h,Od,List.all_map];simp[x_]
  ·rw[if_neg c2]at h;rw[if_neg (by omega)]
   by_cases c3:n<=7
   ·rw[if_pos c3]at h;obtain⟨e,h1,rfl⟩:=tG h;rw[if_pos (by omega),lO,Aa (by omega) (hl0 (by omega)) ok hv hl h1,Ny,List.any_map];simp only[lO];rw[eZ];simp
   ·rw[if_neg c3]at h;rw[if_neg (by omega),YO (hl0 (by omega)) ok hv hl h]
theorem Kx{α:Type}{p q:α->Bool}:∀{l:List α},(∀s∈l,p s=q s)->br p l=br q l
 |[],_=>by simp
 |a::l,h=>by rw[gX,gX,h a (by simp),Kx fun s hs=>h s (by simp[hs])]
theorem DU{x y:Gr}(g:fK x y){v0:List Bool}(hv:V0 x v0){l:List Nat}(hl:∀a∈l,a<x.lits):l.map (bJ v0 y)=l.map (bJ v0 x):=nk fun b hb=>oN g hv (hl b hb)
def Nk(v0:List Bool)(ins:List Nat)(vs:List Bool)(f:Nat):Prop:=
 ∀(x y:Gr)(l:List Fm)(c:Nat)(l':List Fm),x.Ok->V0 x v0->(∀a∈ins,a<x.lits)->ins.map (bJ v0 x)=vs->gk ins f x l=(y,some (c,l'))->∀(w:Bool)(l2:List Fm),dY ins.length (pv vs) f l=some (w,l2)->bJ v0 y c=w
theorem LO{v0:List Bool}{ins:List Nat}{vs:List Bool}{f:Nat}(ih:Nk v0 ins vs f)(a:Bool):∀(k:Nat)(x y:Gr)(ks:List Nat)(l:List Fm)(v:Bool)(q:List Nat)(l':List Fm)(w:Bool)(l2:List Fm),x.Ok->V0 x v0->(∀b∈ins,b<x.lits)->ins.map (bJ v0 x)=vs->(∀b∈ks,b<x.lits)->
 gN (gk ins f) k x ks l=(y,some (q,l'))->ef (dY ins.length (pv vs) f) a k v l=some (w,l2)->∃new,q=ks++new/\new.length=k/\w=if a=true then v&&new.all (bJ v0 y)else v||new.any (bJ v0 y)
 |0,x,y,ks,l,v,q,l',w,l2,ok,hv,hi,hm,hk,h1,h2=>by
  rw[gN]at h1;rw[ef]at h2
  cases h1;cases h2
  exact⟨[],by simp,rfl,by simp⟩
 |k+1,x,y,ks,l,v,q,l',w,l2,ok,hv,hi,hm,hk,h1,h2=>by
  rw[gN]at h1;rw[ef]at h2;obtain⟨z,p,h3,h1⟩:=tv h1;obtain⟨c,l1⟩:=p
  cases h4:dY ins.length (pv vs) f l with
  |none=>rw[h4]at h2;cases h2
  |some u=>
   rw[h4]at h2;obtain⟨u1,u2⟩:=u;have e1:=Ea ins _ _ f x l z c l1 u1 u2 h3 h4;subst e1;have hf:=oC ins f x l ok hi;rw[h3]at hf;have hc:=hf.2 _ rfl;simp only at hc hf h1 h2;have hz:=ih x z l c l1 ok hv hi hm h3 u1 l1 h4
   have hk2:∀b∈ks++[c],b<z.lits:=fun b hb=>by
    rcases bl.1 hb with hb|hb
    ·exact gD (hk b hb) hf.1.lits
    ·simp only[dC]at hb;subst hb;exact hc
   have hi2:∀b∈ins,b<z.lits:=fun b hb=>gD (hi b hb) hf.1.lits
   obtain⟨new,rfl,hn,rfl⟩:=LO ih a k z y (ks++[c]) l1 _ q l' w l2 hf.1.ok (hv.grow hf.1) hi2 (by rw[DU hf.1 hv hi];exact hm) hk2 h1 h2;have g2:=(vV ins (oC ins f) k z (ks++[c]) l1 hf.1.ok hi2 hk2).1;rw[h1]at g2
   have hy:bJ v0 y c=u1:=by rw[oN g2 (hv.grow hf.1) hc];exact hz
   refine⟨c::new,by simp,by simp[hn],?_⟩;rw[qR,List.any_cons,hy]
   cases a
   ·simp only[eb,c9];rw[Bool.or_comm u1 v,Bool.or_assoc]
   ·simp only[cq];rw[Bool.and_comm u1 v,nr]
theorem LP(v0:List Bool)(ins:List Nat)(vs:List Bool):∀f,Nk v0 ins vs f
 |0,x,y,l,c,l',ok,hv,hi,hm,h1,w,l2,h2=>by cases h1
 |f+1,x,y,[],c,l',ok,hv,hi,hm,h1,w,l2,h2=>by cases h1
 |f+1,x,y,t::l,c,l',ok,hv,hi,hm,h1,w,l2,h2=>by
  rw[gk]at h1;rw[dY]at h2
  split at h2
  ·rename_i ho;unfold ep at ho
   by_cases k2:t.kind=2
   ·rw[if_pos k2]at h1 h2 ho;simp only[av,a_]at ho
    cases h1;cases h2
    have q1:(t.lit/2).toNat<ins.length:=by omega
    subst hm;rw[Lv (by omega)];unfold pv;simp only[bo,vd,bg q1,dt,jj]
    have e1:((t.lit%2).toNat=1)↔t.lit%2=1:=by omega
    simp only[e1]
    cases bJ v0 x ins[(t.lit/2).toNat]<;>simp
   ·rw[if_neg k2]at h1 h2 ho
    by_cases k34:t.kind=3\/t.kind=4
    ·rw[if_neg (by omega)]at h1;rw[if_pos k34]at ho;simp only[av,a_]at ho;obtain⟨z,p,h3,h1⟩:=tv h1;obtain⟨ks,l1⟩:=p;obtain⟨e,h4,he⟩:=tG h1;have hkf:=vV ins (oC ins f) t.kids.toNat x [] l ok hi (fun a ha=>by cases ha);rw[h3]at hkf;have hks:=hkf.2 _ rfl;simp only at hks;obtain⟨new,hq,hn,hw⟩:=LO (LP v0 ins vs f) _ _ _ _ _ _ _ _ _ _ _ ok hv hi hm (fun a ha=>by cases ha) h3 h2;rw[kY]at hq;rw[<-hq]at hn hw;simp only[bL]at he;obtain⟨rfl,_⟩:=he
     have h0:ks≠[]:=by
      rintro rfl
      simp at hn;omega
     have hvz:=hv.grow hkf.1
     by_cases k3:t.kind=3
     ·rw[if_pos k3]at h4;rw[Aa (by omega) h0 hkf.1.ok hvz hks h4,hw];simp[k3]
     ·have k4:t.kind=4:=by omega
      rw[if_neg k3]at h4;obtain⟨e2,h5,rfl⟩:=tG h4;rw[lO,Aa (by omega) h0 hkf.1.ok hvz hks h5,hw];simp only[lO,k4];rw[eZ];simp
    ·rw[if_neg k34]at ho
     split at ho
     ·rename_i k01;simp only[av,a_]at ho;rw[if_pos k01]at h1
      cases h1
      rw[ho.2]at h2;simp only[Int.toNat_zero,ef,aj,bL]at h2;rw[<-h2.1]
      rcases k01 with k|k
      ·rw[k];simpa using EU hv
      ·rw[k];have:=lO (v0:=v0) (x:=x) (a:=0);rw[EU hv]at this;simpa using this
     ·cases ho
  ·cases h2
theorem Ye{g:Gt}(hg:jV g=true){v0:List Bool}{ins:List Nat}(hlen:ins.length=g.ins.length){x y:Gr}{d:Nat}(ok:x.Ok)(hv:V0 x v0)(hl:∀a∈ins,a<x.lits)(h:ky x g ins=(y,some d)):bJ v0 y d=w6 g (ins.map (bJ v0 x)):=by
 unfold ky at h
 rcases AS hg with⟨h0,h9,ho⟩|⟨h10,h8,hwr⟩
 ·rw[if_pos ⟨h0,h9⟩]at h;obtain⟨e,h1,rfl⟩:=tG h
  rw[Lv (by omega),ZV h0 h9 (fun h2=>by
   have:=OY ho h2
   rintro rfl
   simp at hlen;omega) ok hv hl h1]
  unfold w6;rw[if_neg (by omega)]
  have e2:decide ((g.op%2).toNat=1)=CV g.op:=by
   unfold CV;rw[eZ];simp only[a_];omega
  rw[e2]
  cases Cr g.op (ins.map (bJ v0 x))<;>cases CV g.op<;>rfl
 ·rw[if_neg (by omega)]at h;obtain⟨p,h1,rfl⟩:=tG h;obtain⟨c,l'⟩:=p;have hV:=Fs hwr (pv (ins.map (bJ v0 x)));unfold xa at hV
  split at hV
  ·split at hV
   ·rename_i v h5;have hfv:=LP v0 ins (ins.map (bJ v0 x)) _ x y _ c l' ok hv hl rfl h1 v [] (by rw[hlen];exact h5);have hvv:=Option.some.inj hV
    have hfit:br (eG (pv (ins.map (bJ v0 x)))) g.rows=br (fun s=>uy s (ins.map (bJ v0 x))) g.rows:=by
     obtain⟨m,hm,_,_,h3⟩:=E8 hwr
     refine Kx fun s hs=>?_
     have h6:=h3 s hs;have:=KV (ins.map (bJ v0 x)) s 0 h6.1 (by simp;omega);simpa[eG]using this
    unfold w6;rw[if_pos h10,<-hfit,<-hvv,<-hfv];simp only
    cases g.off
    ·simp only[eb,c9]
     cases bJ v0 y c<;>rfl
    ·simp only[cq,lO]
     cases bJ v0 y c<;>rfl
   ·cases hV
  ·cases hV
abbrev gQ(c:Ct):Nat:=c.aB.length+c.ak.length
structure nS(c:Ct)(v0:List Bool)(x:Gr)(v p:List Nat):Prop where
 grow:fK (de c) x
 len:v.length=(aD c).length
 inv:qC c x v p
 low:∀k(hk:k<v.length),k<gQ c->v[k]=2*(k+1)
 eq:∀j∈p,∀h:j<c.af.length,∀hk:gQ c+j<v.length,bJ v0 x v[gQ c+j]=w6 c.af[j] ((cT ((aD c).zip v) c.af[j].ins).map (bJ v0 x))
 ins:∀j∈p,∀h:j<c.af.length,∀s∈c.af[j].ins,∃k,∃hk:k<(aD c).length,(aD c)[k]=s/\qy c p k
theorem Lw{c:Ct}{p q:List Nat}{k:Nat}(h:qy c p k):qy c (p++q) k:=by
 rcases h with h|⟨j,hj,rfl⟩
 ·exact .inl h
 ·exact .inr ⟨j,sN _ hj,rfl⟩
theorem Mp{c:Ct}(hn:(aD c).Nodup){v p:List Nat}(hv:v.length=(aD c).length){a d:Nat}(ha:a∉p){l:List Bs}(hl:∀s∈l,∃k,∃hk:k<(aD c).length,(aD c)[k]=s/\qy c p k):cT ((aD c).zip (v.set (gQ c+a) d)) l=cT ((aD c).zip v) l:=by
 refine nk fun s hs=>?_
 obtain⟨k,hk,rfl,hc⟩:=hl s hs;rw[qn _ _ k hn hk (by simpa using hv),qn _ _ k hn hk hv,Jj]
 rcases hc with hc|⟨j,hj,rfl⟩
 ·simp only[gQ];omega
 ·simp only[gQ]
  rintro e
  have:a=j:=by omega
  exact ha (this▸hj)
theorem nS.step{c:Ct}(okc:fQ c)(hn:(aD c).Nodup){v0:List Bool}(hv0:V0 (de c) v0){i:Nat}(hi:i<(aR c).length){x y:Gr}{v:List Nat}{d:Nat}(h:nS c v0 x v ((aR c).take i))
 (hg:ky x (c.af[(aR c)[i]]'(oL c _ (bC hi))) (cT ((aD c).zip v) (c.af[(aR c)[i]]'(oL c _ (bC hi))).ins)=(y,some d)):
 nS c v0 y (v.set (gQ c+(aR c)[i]) d) ((aR c).take (i+1)):=by
 have ha:=oL c _ (bC hi)
 have hic:=fun s hs=>Fw okc hi (s:=s) hs
 have hlt:=ud hn h.len h.inv hic;have hgb:=okc.af _ (bC ha);have hfi:=Em h.grow.ok (c.af[(aR c)[i]]) hlt;rw[hg]at hfi;have hd:=hfi.2 d rfl
 have hap:(aR c)[i]∉(aR c).take i:=by
  intro hm;obtain⟨x,hx,he⟩:=k8 hm;rw[qQ]at he;have:=(C8 (xs:=aR c) (h₀:=by simp at hx;omega) (h₁:=hi) (J6 c)).1 he
  simp at hx;omega
 have hval:=Ye hgb (k_ _ _) h.grow.ok (hv0.grow h.grow) hlt hg;have hst:(aR c).take (i+1)=(aR c).take i++[(aR c)[i]]:=k5 hi;rw[hst];have hinsA:=Mp hn h.len (d:=d) hap hic;refine⟨h.grow.trans hfi.1,by simpa using h.len,h.inv.step hfi.1.lits hd,fun k hk hk2=>?_,fun j hj hjl hk=>?_,fun j hj hjl s hs=>?_⟩
 ·rw[Jj (by simp only[gQ]at hk2⊢;omega)];exact h.low k (by simpa using hk) hk2
 ·rcases bl.1 hj with hj|hj
  ·have hne:¬gQ c+(aR c)[i]=gQ c+j:=by
    rintro e
    have:(aR c)[i]=j:=by omega
    exact hap (this▸hj)
   have hij:=h.ins j hj hjl;rw[Jj hne,Mp hn h.len hap hij]
   have hk':gQ c+j<v.length:=by simpa using hk
   have hlj:=ud hn h.len h.inv hij;have e:=h.eq j hj hjl hk';rw[DU hfi.1 (hv0.grow h.grow) hlj,<-e];exact oN hfi.1 (hv0.grow h.grow) (h.inv _ hk' (.inr ⟨j,hj,rfl⟩))
  ·simp only[dC]at hj;subst hj;rw[List.getElem_set_self,hinsA,hval,DU hfi.1 (hv0.grow h.grow) hlt]
 ·rcases bl.1 hj with hj|hj
  ·obtain⟨k,hk,e,hc⟩:=h.ins j hj hjl s hs;exact⟨k,hk,e,Lw hc⟩
  ·simp only[dC]at hj;subst hj;obtain⟨k,hk,e,hc⟩:=hic s hs;exact⟨k,hk,e,Lw hc⟩
theorem aa4{c:Ct}(okc:fQ c)(hn:(aD c).Nodup){v0:List Bool}(hv0:V0 (de c) v0){y:Gr}{w:List Nat}:∀n i,i+n=(aR c).length->∀(x:Gr)(v:List Nat),nS c v0 x v ((aR c).take i)->mi c ((aR c).drop i) x v=(y,some w)->nS c v0 y w (aR c):=by
 intro n
 induction n with
 |zero=>
  intro i hi x v h h1;rw[bw (by omega),mi]at h1;rw[cS (by omega)]at h
  cases h1
  exact h
 |succ n ih=>
  intro i hi x v h h1
  have q1:i<(aR c).length:=by omega
  rw[bM q1,ER c (oL c _ (bC q1))]at h1;obtain⟨z,d,h2,h1⟩:=tv h1;exact ih (i+1) (by omega) z _ (h.step okc hn hv0 q1 h2) h1
theorem afj{c:Ct}(hc:cj c)(okc:fQ c)(v0:List Bool):nS c v0 (de c) (gM (aD c).length) []:=
 ⟨.refl (F9 hc okc),tE _,E_ hc,fun k hk _=>by simp[gM],fun j hj=>(by cases hj),fun j hj=>(by cases hj)⟩
theorem E7{c:Ct}(hc:cj c)(okc:fQ c)(hn:(aD c).Nodup){v0:List Bool}(hv0:V0 (de c) v0){y:Gr}{w:List Nat}(h:ml c=(y,some w)):nS c v0 y w (aR c):=
 aa4 okc hn hv0 (aR c).length 0 (by omega) _ _ (afj hc okc v0) h
theorem KH(c:Ct):(de c).first=1+gQ c:=by simp[Gr.first,de,gQ,nh]
theorem AR{c:Ct}{state ins:List Bool}(hi:ins.length=c.aB.length)(hs:state.length=c.ak.length):V0 (de c) (false::(ins++state)):=⟨by rw[KH];simp[gQ,hi,hs,xS],rfl⟩
theorem acO(c:Ct){k:Nat}(hk:k<c.aB.length):∃h:k<(aD c).length,(aD c)[k]=c.aB[k]:=by
 have h:k<(aD c).length:=by rw[wk];omega
 refine⟨h,?_⟩
 have:(aD c)[k]? =some c.aB[k]:=by
  rw[aD,cR (by simp;omega),cR hk,bg hk]
 exact(dD.1 this).2
theorem abA(c:Ct){k:Nat}(hk:k<c.ak.length):∃h:c.aB.length+k<(aD c).length,(aD c)[c.aB.length+k]=c.ak[k].name:=by
 have h:c.aB.length+k<(aD c).length:=by rw[wk];omega
 refine⟨h,?_⟩
 have:(aD c)[c.aB.length+k]? =some c.ak[k].name:=by
  rw[aD,cR (by simp;omega),dF (by omega),vh,vd,bg hk];rfl
 exact(dD.1 this).2
def xg(c:Ct)(v0:List Bool)(y:Gr)(v:List Nat)(s:Bs):Bool:=bJ v0 y (pD ((aD c).zip v) s)
theorem Oh{c:Ct}{v0:List Bool}(hv0:V0 (de c) v0){y:Gr}{v p:List Nat}(h:nS c v0 y v p){k:Nat}(hk:k<v.length)(hk2:k<gQ c):bJ v0 y v[k]=v0.getD (k+1) false:=by
 rw[h.low k hk hk2];have e:=KH c
 have hlt:2*(k+1)<(de c).lits:=by unfold Gr.lits Gr.all;omega
 rw[oN h.grow hv0 hlt];unfold bJ;simp only[de,bT];exact z7 v0 (k+1)
theorem aaY{c:Ct}(okc:fQ c)(hn:(aD c).Nodup)(hall:∀i<c.af.length,i∈aR c){state ins:List Bool}(hi:ins.length=c.aB.length)(hs:state.length=c.ak.length){y:Gr}{v:List Nat}(h:nS c (false::(ins++state)) y v (aR c)):Bo c ins state (xg c (false::(ins++state)) y v):=by
 have hv0:=AR hi hs;have hnl:=wk c;have hl:=h.len;refine⟨fun i hi2=>?_,fun i hi2=>?_,fun i hi2=>?_⟩
 ·obtain⟨h1,h2⟩:=acO c hi2;unfold xg;rw[<-h2,qn _ _ i hn h1 h.len,Oh hv0 h (by omega) (by simp only[gQ];omega)];simp only[bo,mB];rw[cR (by omega)]
 ·obtain⟨h1,h2⟩:=abA c hi2;unfold xg;rw[<-h2,qn _ _ _ hn h1 h.len,Oh hv0 h (by omega) (by simp only[gQ];omega)];simp only[bo,mB];rw[dF (by omega),hi,vh]
 ·obtain⟨h1,h2⟩:=Gn c hi2;have e:=h.eq i (hall i hi2) hi2 (by simp only[gQ];omega)
  have e2:xg c (false::(ins++state)) y v c.af[i].name=bJ (false::(ins++state)) y (v[gQ c+i]'(by simp only[gQ];omega)):=by
   unfold xg;rw[<-h2,qn _ _ _ hn h1 h.len]
  rw[e2,e];unfold xd On;rw[okc.af _ (bC hi2)];simp only[il,decide_true,sM,cT,ij];rfl
theorem MF{c:Ct}(hall:∀i<c.af.length,i∈aR c){s:Bs}(hs:s∈aD c):∃k,∃hk:k<(aD c).length,(aD c)[k]=s/\qy c (aR c) k:=by
 obtain⟨k,hk,he⟩:=k8 hs;refine⟨k,hk,he,?_⟩;have hl:=wk c
 by_cases h1:k<c.aB.length+c.ak.length
 ·exact .inl h1
 ·exact .inr ⟨k-(c.aB.length+c.ak.length),hall _ (by omega),by omega⟩
theorem OB{c:Ct}(hc:cj c)(okc:fQ c)(hn:(aD c).Nodup)(hall:∀i<c.af.length,i∈aR c){v0:List Bool}{y:Gr}{v:List Nat}(h:nS c v0 y v (aR c)):(da c y v).Ok:=by
 have ok:=h.grow.ok;have h0:=okc.lG;simp only[iZ,jK,iO]at h0
 have hnl:(c.ak.map (·.next)).length=c.ak.length:=by simp
 have hyn:y.next.length=c.ak.length:=by rw[h.grow.next];simp[de]
 have hyi:y.init.length=c.ak.length:=by rw[h.grow.init];simp[de]
 have hl1:=ud hn h.len h.inv (l:=c.ak.map (·.next)) (fun s hs=>MF hall (okc.used s (by simp only[eS,bl];exact .inl (.inr hs))));have hl2:=ud hn h.len h.inv (l:=c.aW) (fun s hs=>MF hall (okc.used s (by simp only[eS,bl];exact .inl (.inl hs))))
 have hfirst:(da c y v).first=y.first:=by simp[Gr.first,da,k_,hyn]
 have hall':(da c y v).all=y.all:=by unfold Gr.all;rw[hfirst];rfl
 have hlits:(da c y v).lits=y.lits:=by unfold Gr.lits;rw[hall']
 refine⟨ok.ins,?_,?_,?_,ok.init,fun a ha=>?_,fun a ha=>?_,fun i hi=>?_⟩
 ·have:=ok.sum;simp[da,k_]at this⊢;omega
 ·simp[da,k_];omega
 ·simp[da,k_,hyi]
 ·rw[hlits];simp only[da,cC]at ha;obtain⟨n,hn2,rfl⟩:=ha;have:=hl1 n hn2;omega
 ·rw[hlits];simp only[da,cC]at ha;obtain⟨n,hn2,rfl⟩:=ha;have:=hl2 n hn2;omega
 ·have:=ok.ands i hi;rw[hfirst];exact this
theorem Mh{c:Ct}{y:Gr}{v:List Nat}(state ins:List Bool)(ok:(da c y v).Ok)(h1:y.ins=c.aB.length):(da c y v).gh state ins=if uE c ins state=true then 0 else 11:=by
 unfold Gr.gh;rw[Gr.p5 ok];simp only[ne_eq,not_true_eq_false,c9]
 have e:(da c y v).fits state ins=uE c ins state:=by
  unfold Gr.fits uE;rw[eZ];simp only[da,il,k_,h1,av,a_];omega
 rw[e]
theorem aaj{c:Ct}(hb:jb c)(ho:mo c=true){y:Gr}{v:List Nat}(hg:ml c=(y,some v))(state ins:List Bool):
 (da c y v).normal.check=0/\(da c y v).normal.gh state ins=(Bv c ins state).2.2/\(da c y v).normal.gp state ins=(Bv c ins state).1/\(da c y v).normal.kD state ins=(Bv c ins state).2.1:=by
 obtain⟨hr,hnv,_⟩:=ub ho;obtain⟨okc,_⟩:=tQ hr;have hc:=rE hb hr
 have hn:(aD c).Nodup:=by
  have:=vX okc;simpa[aD,eH]using this
 have hall:∀i<c.af.length,i∈aR c:=fun i hi=>by
  refine SJ fun hni=>?_
  have h1:=(MB (ry hr) (aR c) hi).2 hni
  have h2:mR c=lr (aR c) c.af 0:=by simp[mR,hr]
  rw[<-h2,hnv]at h1
  cases h1
 have mn:=E7 hc okc hn (v0:=false::(List.replicate c.aB.length false++List.replicate c.ak.length false)) (AR (by simp) (by simp)) hg;have hok:=OB hc okc hn hall mn;have hck:=Gr.p5 hok;obtain⟨hn1,hn2,hn3⟩:=Wk hck state ins;have hns:=(JJ hck).2.1;refine⟨hns,?_⟩;rw[hn1,hn2,hn3,Mh state ins hok (by rw[mn.grow.ins];rfl)];unfold Bv gp Gr.gp Gr.kD;rw[if_pos ho,Mh state ins hok (by rw[mn.grow.ins];rfl)]
 cases hlb:uE c ins state with
 |false=>simp
 |true=>
  simp only[cq];simp only[uE,av,a_]at hlb;obtain⟨hi,hs⟩:=hlb;have hL:=E7 hc okc hn (AR hi hs) hg;have hV:=aaY okc hn hall hi hs hL;have hone:=abd okc hall hV (Y8 okc hall hi hs)
  have e0:∀l:List Bs,(∀s∈l,s∈aD c)->qo ((da c y v).su state ins) ((cT ((aD c).zip v) l).map fun n:Nat=>(n:Int))=l.map (jd (pn c ins state)):=by
   intro l hl;unfold qo cT;rw[ij,ij]
   refine nk fun s hs=>?_
   rw[<-hone s (hl s hs)];rfl
  refine⟨trivial,?_,?_⟩
  ·have:=e0 c.aW (fun s hs=>ack okc hs);exact this
  ·have:=e0 (c.ak.map (·.next)) (fun s hs=>by
    obtain⟨q,hq,rfl⟩:=cC.1 hs
    exact ZH okc hq)
   rw[ij]at this;exact this
end Go.Proofs.YtihmomicdpkabaaGreatDoor
namespace Go.Proofs.YtihmomicdpkabaaGreatDoor
open Go.AM Go.Proofs
variable{Γ:Nat->Option AV}
def Cm:Ct:=⟨[[97],[98]],[[122]],[⟨[113],[122],1⟩],[⟨[122],6,[[97],[98]],[],false,1,0,.self,.nil⟩],1,1,3,5,.self,.self,.self,.self⟩
def CE:Ct:=⟨[[97],[98]],[[121]],[⟨[113],[122],1⟩],[⟨[122],6,[[97],[98]],[],false,1,0,.self,.nil⟩],1,1,3,5,.self,.self,.self,.self⟩
def pz:Gr:=⟨2,[9],[1],[(5,3)],[9],1,1,2,1,.self,.self,.self,.self⟩
def j0:Md:=⟨pz,[[97],[98]],[[113]],[[122]],1,1,1,.self,.self,.self⟩
def uW:Md:=⟨pz,[[97],[98]],[[113]],[[97]],1,1,1,.self,.self,.self⟩
theorem acR:cj Cm:=NY (by kernel_rfl)
theorem abM:cj CE:=NY (by kernel_rfl)
theorem FL:pz.jc:=by unfold Gr.jc pz;decide
theorem Gs:uS j0:=⟨FL,by decide,by decide,by decide⟩
theorem aeP:uS uW:=⟨FL,by decide,by decide,by decide⟩
theorem ab8:uN (jS Cm)=.aH [py j0,.int .i64 0,.str []]:=by kernel_rfl
theorem acb:uN (jS CE)=.aH [py jH,.int .i64 6,.str [121]]:=by kernel_rfl
set_option maxRecDepth 8000 in
theorem aat(hΓ:jB Γ)(hΩ:uF Γ):aP Tryz.prog Γ vT [] (.bool true):=by
 have hL1:=F4 hΓ hΩ Cm acR.Cb;have hL2:=F4 hΓ hΩ CE abM.Cb;rw[ab8]at hL1;rw[acb]at hL2;have hS:=KL (Γ:=Γ) pz pz FL;rw[show wS pz pz=true by kernel_rfl]at hS;have hT:=DH (Γ:=Γ) [[113]] [[113]] (ka:=1) (kb:=1) .self .self (by simp);have hC1:=E6 (Γ:=Γ) j0 Gs;rw[show rT j0=0 by kernel_rfl]at hC1;have hC2:=E6 (Γ:=Γ) uW aeP;rw[show rT uW=5 by kernel_rfl]at hC2;have hP1:=Fj (Γ:=Γ) j0 [113] (by decide) (by decide);rw[show jT j0 [113]=3 by kernel_rfl]at hP1;have hP2:=Fj (Γ:=Γ) j0 [122] (by decide) (by decide);rw[show jT j0 [122]=-1 by kernel_rfl]at hP2;have hS1:=N8 (Γ:=Γ) j0 j0 Gs;rw[show Br j0 j0=true by kernel_rfl]at hS1;have hS2:=N8 (Γ:=Γ) j0 uW Gs;rw[show Br j0 uW=false by kernel_rfl]at hS2;unfold Cm at hL1;unfold CE at hL2
 unfold j0 uW pz at*;unfold jH fv at hL2;simp at hL1 hL2 hS hT hC1 hC2 hP1 hP2 hS1 hS2;refine .run 90 Wv (by simp) ?_;simp;refine .call 90 (by simp) hL1 ?_;simp;refine .call 90 (by simp) hL2 ?_;simp;refine .call 90 (by simp) hS ?_;simp;refine .call 90 (by simp) hT ?_;simp;refine .call 90 (by simp) hC1 ?_;simp;refine .call 90 (by simp) hC2 ?_;simp;refine .call 90 (by simp) hP1 ?_;simp;refine .call 90 (by simp) hP2 ?_;simp;refine .call 90 (by simp) hS1 ?_;simp;refine .call 90 (by simp) hS2 ?_;simp;exact .back (by simp)
def pf:List Gt->Nat
 |[]=>0
 |g::l=>g.rows.length+pf l
def ur(c:Ct):Bool:=uc c&&(decide (pf c.af<=40)&&decide (c.af.length<=16))
set_option maxRecDepth 8000 in
theorem aao(c:Ct)(hc:c.af.length<2^40)(hr:∀g∈c.af,g.rows.length<2^21)(b:Bool):∀n i:Nat,i+n=c.af.length->∀k:Nat,k<=i*2^21->
 ay Tryz.prog Γ (ybs (.ptr 0 0) (.bool b) (.int .i64 k) (.int .i64 i) [.cells (AV.cells (bX c))]) (.ret (.bool (b&&(decide (k+pf (c.af.drop i)<=40)&&decide (c.af.length<=16))))):=by
 intro n
 induction n with
 |zero=>
  intro i hi k hk
  have q1:¬i<c.af.length:=by omega
  rw[bw (by omega),pf];have e1:((k:Int)<=40)=(k<=40):=propext (by omega);have e2:((c.af.length:Int)<=16)=(c.af.length<=16):=propext (by omega);refine .go 60 ?_
  cases b
  ·simp[q1];exact .back (by simp)
  ·by_cases h:k<=40
   ·simp[q1,e1,e2,h];exact .back (by simp[h])
   ·simp[q1,e1,e2,h];exact .back (by simp[h])
 |succ n ih=>
  intro i hi k hk
  have q1:i<c.af.length:=by omega
  have q2:=cv (c.hG.of q1);have hrr:=hr _ (bC q1);have hh:=ih (i+1) (by omega) (k+c.af[i].rows.length) (by omega);rw[bM q1,pf,<-nh];refine .go 60 ?_;simp(disch:=omega) [q1,q2];refine .aL ?_;simp at hh⊢;exact hh
set_option maxRecDepth 8000 in
theorem aar(c:Ct)(hc:c.af.length<2^40)(hr:∀g∈c.af,g.rows.length<2^21):aP Tryz.prog Γ tm [bX c] (.bool (ur c)):=by
 have hL:=aaJ (Γ:=Γ) c;have hf:=aao (Γ:=Γ) c hc hr (uc c) c.af.length 0 (by omega) 0 (by omega);unfold ur;generalize uc c=b at*;refine .run 60 Wc (by simp) ?_;simp;refine .call 60 (by simp) hL ?_;simp;refine .inLoop ?_;simp at hf⊢;exact hf
def Sf(c:Ct):Prop:=jb c/\∀g∈c.af,g.rows.length<2^21
end Go.Proofs.YtihmomicdpkabaaGreatDoor
namespace Go.Proofs.YtihmomicdpkabaaGreatDoor
open Go.AM Go.Proofs Go.ChangeShapes Go.WideShapes Go.ChangeAt Go.RowKit
theorem abe{H:Type}(d:DataW H):1<=Rows.uptoBulk d:=by
 cases d with
 |lit l=>cases l<;>simp[Rows.uptoBulk]
 |_=>simp[Rows.uptoBulk]
theorem MT{H:Type}:∀ds:List (DataW H),ds.length<=Rows.uptoBulkAll ds
 |[]=>by simp
 |d::ds=>by have:=MT ds;have:=abe d;simp only[bP,Rows.uptoBulkAll];omega
theorem Au{H:Type}:∀{ds:List (DataW H)}{d:DataW H},d∈ds->Rows.uptoBulk d<=Rows.uptoBulkAll ds
 |e::ds,d,h=>by
  simp only[Rows.uptoBulkAll]
  rcases bt.1 h with rfl|h
  ·omega
  ·have:=Au h;omega
def Small{H:Type}(d:DataW H):Prop:=Rows.uptoBulk d<=1048576
theorem aeF{H:Type}:Down (H:=H) 1048576 Small:=by
 refine⟨fun e r h _=>?_,fun ps h d hd=>?_,fun b h _=>?_⟩
 ·simp only[Small,Rows.uptoBulk]at h;refine⟨by have:=MT e;omega,fun d hd=>?_⟩;have:=Au hd
  simp only[Small];omega
 ·simp only[Small,Rows.uptoBulk]at h⊢;have:=Au hd;omega
 ·simp only[Small,Rows.uptoBulk]at h;omega
theorem aaU{H:Type}{ds gs:List (DataW H)}(hk:Rows.uptoSmall H (ds++gs)=true):∀d∈ds,Small d:=by
 intro d hd;have h:=C9 hk;have:=Au (sN gs hd)
 simp only[Small];omega
theorem xL.toL{c:Ct}(h:xL 1048576 c):Sf c:=⟨h.Cb (by decide),fun g hg=>by
 have:=(h.2.2.2.2.1 g hg).2.2.1
 omega⟩
end Go.Proofs.YtihmomicdpkabaaGreatDoor
namespace Go.Proofs.YtihmomicdpkabaaGreatDoor
open Go.AM Go.Proofs
variable{Γ:Nat->Option AV}
theorem Md.aeY{c:Ct}(hb:jb c):uS (jS c).1:=by
 unfold jS
 split
 ·rename_i h0
  split
  ·exact⟨N1,by simp[jH],by simp[jH],by simp[jH]⟩
  ·rename_i v hv
   have ho:mo c=true:=by simp[mo,h0]
   obtain⟨hr,_,_⟩:=ub ho;have hc:=rE hb hr;have hS:=(aaj hb ho (y:=(ml c).1) (v:=v) (by rw[<-hv]) [] []).1;exact⟨(Gr.qx hS).jc,by have:=hc.1;simp[eE];omega,by have:=hc.2.2.1;simp[eE];omega,by have:=hc.2.1;simp[eE];omega⟩
 ·exact⟨N1,by simp[jH],by simp[jH],by simp[jH]⟩
theorem aba{c:Ct}(h:(jS c).2.1=0):mo c=true/\∃v,(ml c).2=some v/\jS c=(eE c (ml c).1 v,0,[]):=by
 unfold jS at h⊢
 by_cases h0:(jo c).1=0
 ·rw[if_pos h0]at h⊢
  cases hv:(ml c).2 with
  |none=>rw[hv]at h;cases h
  |some v=>exact⟨by simp[mo,h0],v,rfl,rfl⟩
 ·rw[if_neg h0]at h;exact absurd h h0
end Go.Proofs.YtihmomicdpkabaaGreatDoor
namespace Go.Proofs.YtihmomicdpkabaaGreatDoor
open Go.AM Go.Proofs
def Can{α:Type}(k:Nat)(x:Gr)(r:Gr×Option α):Prop:=∃a,r.2=some a/\r.1.ands.length<=x.ands.length+k
def Room(x:Gr)(k:Nat):Prop:=x.ins+x.next.length+x.ands.length+k<=4000
theorem Room.of{x y:Gr}{k m:Nat}(h:Room x k)(g:fK x y)(hk:y.ands.length+m<=x.ands.length+k):Room y m:=by
 unfold Room at h⊢
 rw[g.ins,g.next];omega
theorem As{x:Gr}(ok:x.Ok){p q:Nat}(hp:p<x.lits)(hq:q<x.lits)(h:Room x 1):Can 1 x (eL x p q):=by
 have hl:=wv x.first x.ands p q
 have hE:x.jA p q=0:=by
  unfold Gr.jA Room at*;rw[if_neg (by rw[Gr.p5 ok];decide),if_neg (by simp[d_];omega),if_neg (by simp only[fB];omega)]
 refine⟨x.eV p q,by unfold eL;rw[if_pos hE],?_⟩;unfold eL Gr.eg;rw[if_pos hE];simp only[hE,cq,Gr.iI,fB];exact hl
theorem Can.map{α β:Type}{k:Nat}{x:Gr}{r:Gr×Option α}(h:Can k x r)(f:α->β):Can k x (dZ f r):=by
 obtain⟨a,h1,h2⟩:=h;exact⟨f a,by simp[dZ,h1],h2⟩
theorem Can.then{α β:Type}{k m:Nat}{x:Gr}{r:Gr×Option α}{f:Gr->α->Gr×Option β}(h:Can k x r)(hf:∀a,r.2=some a->r.1.ands.length<=x.ands.length+k->Can m r.1 (f r.1 a)):Can (k+m) x (eF r f):=by
 obtain⟨a,h1,h2⟩:=h;obtain⟨y,o⟩:=r;simp only at h1 h2 hf;subst h1;obtain⟨b,h3,h4⟩:=hf a rfl h2;exact⟨b,h3,by simp only[eF];omega⟩
theorem Can.more{α:Type}{k m:Nat}{x:Gr}{r:Gr×Option α}(h:Can k x r)(hk:k<=m):Can m x r:=by
 obtain⟨a,h1,h2⟩:=h;exact⟨a,h1,by omega⟩
theorem W1(turn:Nat)(x:Gr)(c a:Nat)(l:List Nat):iA turn x c (a::l)=eF (eL x c (a^^^turn)) fun y d=>iA turn y d l:=by
 rw[iA]
 cases eL x c (a^^^turn)with
 |mk y r=>cases r<;>rfl
theorem K9{turn:Nat}(ht:turn<=1):∀(l:List Nat)(x:Gr)(c:Nat),x.Ok->c<x.lits->(∀a∈l,a<x.lits)->Room x l.length->Can l.length x (iA turn x c l)
 |[],x,c,ok,hc,hl,hr=>⟨c,rfl,by simp[iA]⟩
 |a::l,x,c,ok,hc,hl,hr=>by
  rw[W1,bP,xS];have hf:=tK ok c (a^^^turn)
  refine(As ok hc (lQ ht (hl a (by simp))) (hr.of (.refl ok) (by simp))).then fun d hd hle=>?_
  exact K9 ht l _ d hf.1.ok (hf.2 d hd) (fun b hb=>gD (hl b (by simp[hb])) hf.1.lits) (hr.of hf.1 (by simp;omega))
theorem zV{turn:Nat}(ht:turn<=1){x:Gr}(ok:x.Ok){l:List Nat}(hl:∀a∈l,a<x.lits)(hr:Room x l.length):Can l.length x (fN turn x l):=by
 cases l with
 |nil=>exact⟨0,rfl,by simp[fN]⟩
 |cons a l=>exact(K9 ht l x _ ok (lQ ht (hl a (by simp))) (fun b hb=>hl b (by simp[hb])) (hr.of (.refl ok) (by simp))).more (by simp)
theorem aaw{x:Gr}(ok:x.Ok){c a:Nat}(hc:c<x.lits)(ha:a<x.lits)(hr:Room x 3):Can 3 x (uO x c a):=by
 unfold uO;have hf:=tK ok c (a^^^1)
 refine(As ok hc (lQ (by omega) ha) (hr.of (.refl ok) (by omega))).then (m:=2) fun p hp hle=>?_
 have hg:=tK hf.1.ok (c^^^1) a
 refine(As hf.1.ok (lQ (n:=Gr.all _) (by omega) (gD hc hf.1.lits)) (gD ha hf.1.lits) (hr.of hf.1 (by omega))).then (m:=1) fun q hq hle2=>?_
 exact(As hg.1.ok (lQ (n:=Gr.all _) (by omega) (gD (hf.2 p hp) hg.1.lits)) (lQ (n:=Gr.all _) (by omega) (hg.2 q hq)) (hr.of (hf.1.trans hg.1) (by omega))).map _
theorem KW:∀(l:List Nat)(x:Gr)(c:Nat),x.Ok->c<x.lits->(∀a∈l,a<x.lits)->Room x (3*l.length)->Can (3*l.length) x (l6 x c l)
 |[],x,c,ok,hc,hl,hr=>⟨c,rfl,by simp[l6]⟩
 |a::l,x,c,ok,hc,hl,hr=>by
  rw[l6,bP,Nat.mul_add,xS];have hf:=Ew ok c a
  refine(aaw ok hc (hl a (by simp)) (hr.of (.refl ok) (by simp;omega))).then fun d hd hle=>?_
  exact KW l _ d hf.1.ok (hf.2 d hd) (fun b hb=>gD (hl b (by simp[hb])) hf.1.lits) (hr.of hf.1 (by simp;omega))
theorem aa7(n:Int){x:Gr}(ok:x.Ok){l:List Nat}(hl:∀a∈l,a<x.lits)(hr:Room x (3*l.length)):Can (3*l.length) x (nW n x l):=by
 unfold nW
 split
 ·exact⟨0,rfl,by simp⟩
 ·split
  ·exact(zV (by omega) ok hl (hr.of (.refl ok) (by omega))).more (by omega)
  ·split
   ·exact((zV (by omega) ok hl (hr.of (.refl ok) (by omega))).more (by omega)).map _
   ·cases l with
    |nil=>exact⟨0,rfl,by simp[uC]⟩
    |cons a l=>exact(KW l x a ok (hl a (by simp)) (fun b hb=>hl b (by simp[hb])) (hr.of (.refl ok) (by simp;omega))).more (by simp;omega)
def Pv(x:Gr)(l l':List Fm)(r:Gr×Option (Nat×List Fm)):Prop:=∃c,r.2=some (c,l')/\r.1.ands.length+l'.length+1<=x.ands.length+l.length
theorem Lo{rd:Gr->List Fm->Gr×Option (Nat×List Fm)}{rf:List Fm->Option (Bool×List Fm)}{a:Bool}{ins:List Nat}(hf:∀x l,x.Ok->(∀a∈ins,a<x.lits)->Bu x (rd x l))
 (hc:∀x l v l',x.Ok->(∀a∈ins,a<x.lits)->rf l=some (v,l')->Room x l.length->Pv x l l' (rd x l)):∀(k:Nat)(x:Gr)(ks:List Nat)(v:Bool)(l:List Fm)(w:Bool)(l':List Fm),x.Ok->(∀a∈ins,a<x.lits)->ef rf a k v l=some (w,l')->Room x l.length->
  ∃ks',(gN rd k x ks l).2=some (ks',l')/\ks'.length=ks.length+k/\(gN rd k x ks l).1.ands.length+l'.length+k<=x.ands.length+l.length
 |0,x,ks,v,l,w,l',ok,hi,h,hr=>by
  rw[ef]at h
  cases h
  exact⟨ks,rfl,rfl,by simp[gN]⟩
 |k+1,x,ks,v,l,w,l',ok,hi,h,hr=>by
  rw[ef]at h
  cases h1:rf l with
  |none=>rw[h1]at h;cases h
  |some u=>
   obtain⟨u1,l1⟩:=u;rw[h1]at h;simp only at h;obtain⟨c,h2,h3⟩:=hc x l u1 l1 ok hi h1 hr;have h4:=hf x l ok hi;rw[gN]
   cases h5:rd x l with
   |mk y r=>
    rw[h5]at h2 h3 h4;simp only at h2 h3 h4;subst h2;simp only[eF];obtain⟨ks',e1,e2,e3⟩:=Lo hf hc k y (ks++[c]) _ l1 w l' h4.1.ok (fun a ha=>gD (hi a ha) h4.1.lits) h (hr.of h4.1 (by omega));exact⟨ks',e1,by simp at e2;omega,by omega⟩
theorem LW(ins:List Nat)(n:Int)(val:Int->Bool):∀(f:Nat)(x:Gr)(l:List Fm)(v:Bool)(l':List Fm),x.Ok->(∀a∈ins,a<x.lits)->dY n val f l=some (v,l')->Room x l.length->Pv x l l' (gk ins f x l)
 |0,x,l,v,l',ok,hi,h,hr=>by cases h
 |f+1,x,[],v,l',ok,hi,h,hr=>by cases h
 |f+1,x,t::l,v,l',ok,hi,h,hr=>by
  rw[dY]at h;rw[gk]
  split at h
  ·rename_i ho
   split at h
   ·rename_i k2;rw[if_pos k2]
    cases h
    exact⟨_,rfl,by simp;omega⟩
   ·rename_i k2;rw[if_neg k2]
    split
    ·rename_i k01
     have hk:t.kids=0:=by
      unfold ep at ho;rw[if_neg k2,if_neg (by omega),if_pos k01]at ho;simp at ho;exact ho.2
     rw[hk]at h;simp only[Int.toNat_zero,ef]at h
     cases h
     exact⟨_,rfl,by simp;omega⟩
    ·have hr2:Room x l.length:=hr.of (.refl ok) (by simp);have hff:=vV ins (fun x l=>oC ins f x l) t.kids.toNat x [] l ok hi (fun a ha=>by cases ha);obtain⟨ks',e1,e2,e3⟩:=Lo (fun x l=>oC ins f x l) (fun x l v l'=>LW ins n val f x l v l') t.kids.toNat x [] _ l v l' ok hi h hr2
     cases h5:gN (gk ins f) t.kids.toNat x [] l with
     |mk y r=>
      rw[h5]at e1 e3 hff;simp only at e1 e3 hff;subst e1;simp only[eF,sg];have hlt:=hff.2 _ rfl;have hy:Room y ks'.length:=hr.of hff.1 (by simp at e2⊢;omega)
      have hC:Can ks'.length y (if t.kind=3 then fN 0 y ks' else dZ (·^^^1) (fN 1 y ks')):=by
       split
       ·exact zV (by omega) hff.1.ok hlt hy
       ·exact(zV (by omega) hff.1.ok hlt hy).map _
      obtain⟨c,c1,c2⟩:=hC;generalize(if t.kind=3 then fN 0 y ks' else dZ (·^^^1) (fN 1 y ks'))=q at*;refine⟨c,by simp only[dZ,c1,dt],?_⟩;simp only[dZ];simp at e2⊢;omega
  ·cases h
def mX(g:Gt):Nat:=if 0<=g.op/\g.op<=9 then 3*g.ins.length else(iG g.rows g.ins.length).length
theorem X6{g:Gt}(hg:jV g=true){ins:List Nat}(hl:ins.length=g.ins.length){x:Gr}(ok:x.Ok)(hi:∀a∈ins,a<x.lits)(hr:Room x (mX g)):Can (mX g) x (ky x g ins):=by
 unfold mX ky at*
 split
 ·rename_i h1;rw[if_pos h1]at hr;rw[<-hl]at hr⊢;exact(aa7 _ ok hi hr).map _
 ·rename_i h1;rw[if_neg h1]at hr
  rcases AS hg with⟨h0,h9,ho⟩|⟨h10,h8,hwr⟩
  ·exact absurd ⟨h0,h9⟩ h1
  ·have hV:=Fs hwr (fun _=>false);unfold xa at hV
   split at hV
   ·split at hV
    ·rename_i v h5;obtain⟨c,e1,e2⟩:=LW ins g.ins.length (fun _=>false) _ x _ v [] ok hi h5 hr;exact Can.map (r:=w8 x g ins) ⟨(c,[]),e1,by have:=e2;simp only[dh]at this;unfold w8;omega⟩ _
    ·cases hV
   ·cases hV
theorem Z5{g:Gt}(hg:jV g=true)(hf:ph g=true):mX g<=36+24*g.rows.length:=by
 unfold mX
 rcases AS hg with⟨h0,h9,ho⟩|⟨h10,h8,hwr⟩
 ·rw[if_pos ⟨h0,h9⟩];simp only[ph,hY,av,a_]at hf;omega
 ·rw[if_neg (by omega)];obtain⟨m,hm,h1,h2,h3⟩:=E8 hwr;have hl:=pX (bQ (dR [] g.rows)+1) (dR [] g.rows);have h4:=En g.rows []
  have h5:=Ak fun s hs=>(h3 s hs).2
  have h6:g.rows.length*m<=g.rows.length*8:=Nat.mul_le_mul_left _ h1;have h0:bQ []=0:=rfl
  have e0:iG g.rows g.ins.length=eC (bQ (dR [] g.rows)+1) (dR [] g.rows):=by unfold iG;rw[hwr];rfl
  rw[e0];omega
def m_(f:Nat->Nat)(p:List Nat):Nat->Nat
 |0=>0
 |n+1=>m_ f p n+if p.contains n then f n else 0
theorem Mq{f:Nat->Nat}{p:List Nat}{a:Nat}(ha:a∉p):∀n,m_ f (p++[a]) n=m_ f p n+if a<n then f a else 0
 |0=>by simp[m_]
 |n+1=>by
  rw[m_,m_,Mq ha n]
  by_cases h:n=a
  ·subst h
   have h1:p.contains n=false:=by simpa using ha
   have h2:(p++[n]).contains n=true:=by simp
   rw[h1,h2];simp
  ·have h1:(p++[a]).contains n=p.contains n:=by
    rw[eZ];simp[h]
   rw[h1]
   by_cases h2:a<n
   ·rw[show(if a<n then f a else 0)=f a from if_pos h2,show(if a<n+1 then f a else 0)=f a from if_pos (by omega)];omega
   ·rw[show(if a<n then f a else 0)=0 from if_neg h2,show(if a<n+1 then f a else 0)=0 from if_neg (by omega)];omega
def qw(c:Ct)(i:Nat):Nat:=match c.af[i]? with|some g=>mX g|none=>0
theorem NN(c:Ct)(p:List Nat)(hc:∀g∈c.af,mX g<=36+24*g.rows.length):∀n,n<=c.af.length->m_ (qw c) p n+24*pf (c.af.drop n)<=36*n+24*pf c.af
 |0,_=>by simp[m_]
 |n+1,h=>by
  have ih:=NN c p hc n (by omega);have h1:=hc _ (bC (show n<c.af.length by omega));rw[bM (show n<c.af.length by omega),pf]at ih
  have hi:qw c n=mX c.af[n]:=by simp only[qw];rw[bg (by omega)]
  rw[m_,hi]
  split<;>omega
theorem aaD{c:Ct}(hc:cj c)(okc:fQ c)(hn:(aD c).Nodup)(hl:∀p,(de c).ins+(de c).next.length+m_ (qw c) p c.af.length<=4000):∀n i,i+n=(aR c).length->∀(x:Gr)(v:List Nat),fK (de c) x->v.length=(aD c).length->qC c x v ((aR c).take i)->
 x.ands.length<=m_ (qw c) ((aR c).take i) c.af.length->∃w,(mi c ((aR c).drop i) x v).2=some w:=by
 intro n
 induction n with
 |zero=>
  intro i hi x v hg hv hI hx;rw[bw (by omega),mi];exact⟨v,rfl⟩
 |succ n ih=>
  intro i hi x v hg hv hI hx
  have q1:i<(aR c).length:=by omega
  have ha:=oL c _ (bC q1)
  have hap:(aR c)[i]∉(aR c).take i:=by
   intro hm;obtain⟨x,hx,he⟩:=k8 hm;rw[qQ]at he;have:=(C8 (xs:=aR c) (h₀:=by simp at hx;omega) (h₁:=q1) (J6 c)).1 he
   simp at hx;omega
  have hic:=fun s hs=>Fw okc q1 (s:=s) hs
  have hlt:=ud hn hv hI hic;have hgb:=okc.af _ (bC ha);have hst:(aR c).take (i+1)=(aR c).take i++[(aR c)[i]]:=k5 q1;have hsum:=Mq (f:=qw c) hap c.af.length;have hL:=hl ((aR c).take (i+1));rw[hst]at hL
  have hca:qw c (aR c)[i]=mX c.af[(aR c)[i]]:=by simp only[qw];rw[bg ha]
  rw[if_pos ha,hca]at hsum
  have hr:Room x (mX c.af[(aR c)[i]]):=by unfold Room;rw[hg.ins,hg.next];omega
  obtain⟨d,h1,h2⟩:=X6 hgb (k_ _ _) hg.ok hlt hr;have hfi:=Em hg.ok (c.af[(aR c)[i]]) hlt;rw[bM q1,ER c ha];generalize ky x c.af[(aR c)[i]] (cT ((aD c).zip v) c.af[(aR c)[i]].ins)=R at h1 h2 hfi⊢;obtain⟨y,o⟩:=R;simp only at h1 h2 hfi;subst h1;simp only[eF];have hI2:=hI.step hfi.1.lits (a:=(aR c)[i]) (hfi.2 d rfl);rw[<-hst]at hI2 hsum;exact ih (i+1) (by omega) y _ (hg.trans hfi.1) (by simpa using hv) hI2 (by omega)
theorem abV{c:Ct}(hb:jb c)(hp:ur c=true)(h0:(jo c).1=0):∃v,(ml c).2=some v:=by
 have ho:mo c=true:=by simp[mo,h0]
 obtain⟨hr,hnv,_⟩:=ub ho;obtain⟨okc,_⟩:=tQ hr;have hc:=rE hb hr
 have hn:(aD c).Nodup:=by
  have:=vX okc;simpa[aD,eH]using this
 simp only[ur,uc,sk,av,jl,a_]at hp;obtain⟨⟨⟨hf,-⟩,hg24,hi24,hl24⟩,hrows,hg16⟩:=hp
 have hcost:∀g∈c.af,mX g<=36+24*g.rows.length:=fun g hg=>by
  rw[cS (by omega)]at hf;have:=Gi hf g hg;exact Z5 (okc.af g hg) (by simpa using this)
 refine aaD hc okc hn (fun p=>?_) (aR c).length 0 (by omega) _ _ (.refl (F9 hc okc)) (tE _) (E_ hc) (by simp[de]);have:=NN c p hcost c.af.length (by omega);rw[I8]at this;simp only[pf]at this;simp only[de,oj];omega
theorem Mk(first:Nat):∀(ps l:List (Int×Int))(to:List Nat),∃e,(fL first ps l to).2=to++e
 |[],l,to=>⟨[],by simp[fL]⟩
 |p::ps,l,to=>by
  rw[fL]
  obtain⟨e,he⟩:=Mk first ps (bI first l (bp to p.1.toNat) (bp to p.2.toNat)).1 (to++[(bI first l (bp to p.1.toNat) (bp to p.2.toNat)).2])
  exact⟨_::e,by rw[he,eQ];rfl⟩
theorem Fl(first:Nat)(aX:List Bool):∀(ps:List (Int×Int))(i:Nat)(l:List (Int×Int))(to:List Nat),∃e,(dJ first aX ps i l to).2=to++e
 |[],i,l,to=>⟨[],by simp[dJ]⟩
 |p::ps,i,l,to=>by
  rw[dJ]
  split
  ·obtain⟨e,he⟩:=Fl first aX ps (i+1) (bI first l (bp to p.1.toNat) (bp to p.2.toNat)).1 (to++[(bI first l (bp to p.1.toNat) (bp to p.2.toNat)).2])
   exact⟨_::e,by rw[he,eQ];rfl⟩
  ·obtain⟨e,he⟩:=Fl first aX ps (i+1) l (to++[0])
   exact⟨_::e,by rw[he,eQ];rfl⟩
theorem L0{first k:Nat}(h:k<first)(e:List Nat):bp (ids first++e) (2*k)=2*k:=by
 unfold bp;rw[show 2*k/2=k by omega,show 2*k%2=0 by omega,bo,cR (by simpa using h),bg (by simpa using h)];simp[ids]
theorem WJ{g:Gr}(h:g.check=0):∃F:Nat->Nat,(∀k<g.first,F (2*k)=2*k)/\g.normal.outs=g.outs.map (fun a=>(F a.toNat:Int))/\g.normal.next=g.next.map (fun a=>(F a.toNat:Int))/\g.normal.init=g.init/\g.normal.ins=g.ins:=by
 have e:g.normal=g.dy.dz:=by unfold Gr.normal;rw[if_pos h]
 obtain⟨e1,h1⟩:=Mk g.first g.ands [] (ids g.first)
 obtain⟨e2,h2⟩:=Fl g.dy.first g.dy.aX g.dy.ands 0 [] (ids g.dy.first)
 have hf:g.dy.first=g.first:=tJ _ _
 refine⟨fun a=>bp (dJ g.dy.first g.dy.aX g.dy.ands 0 [] (ids g.dy.first)).2 (bp (fL g.first g.ands [] (ids g.first)).2 a),fun k hk=>?_,?_,?_,?_,?_⟩
 ·simp only;rw[h1,h2,L0 hk,hf,L0 hk]
 ·rw[e];simp[Gr.dz,Gr.du,ea,Gr.dy]
 ·rw[e];simp[Gr.dz,Gr.du,ea,Gr.dy]
 ·rw[e];rfl
 ·rw[e];rfl
theorem NK(m:Md)(F:Bs->Int):∀l:List Bs,(∀s∈l,0<=jT m s->F s=2*jT m s)->sd m l (l.map F)=false
 |[],_=>rfl
 |s::l,h=>by
  rw[b9,sd,NK m F l fun t ht=>h t (by simp[ht])];simp only[Bool.or_false,Bool.and_eq_false_iff,iO,SF,a_]
  by_cases h1:0<=jT m s
  ·exact .inr (h s (by simp) h1)
  ·exact .inl h1
theorem Ng(s:Bs):∀(l:List Bs)(i:Nat),0<=eM s l i->∃k,∃hk:k<l.length,l[k]=s/\eM s l i=((i+k:Nat):Int)
 |[],i,h=>by simp[eM]at h
 |a::l,i,h=>by
  rw[eM]at h⊢
  split
  ·rename_i h1;exact⟨0,by simp,by simp[h1],by simp⟩
  ·rename_i h1;rw[if_neg h1]at h;obtain⟨k,hk,e1,e2⟩:=Ng s l (i+1) h;exact⟨k+1,by simp;omega,by simpa using e1,by rw[e2];congr 1;omega⟩
theorem z6{α:Type}{p:α->Bool}:∀{l:List α},(∀x∈l,p x=false)->br p l=false
 |[],_=>rfl
 |a::l,h=>by
  rw[gX,h a (by simp),z6 fun x hx=>h x (by simp[hx])];rfl
theorem aan{c:Ct}(hb:jb c)(ho:mo c=true){y:Gr}{v:List Nat}(hg:ml c=(y,some v)):
 rT (eE c y v)=0/\(eE c y v).g.strict=true/\(eE c y v).g.init=c.ak.map (·.init):=by
 obtain⟨hr,hnv,_⟩:=ub ho;obtain⟨okc,_⟩:=tQ hr;have hc:=rE hb hr;have hn:(aD c).Nodup:=okc.nodup
 have hall:∀i<c.af.length,i∈aR c:=fun i hi=>by
  refine SJ fun hni=>?_
  have h1:=(MB (ry hr) (aR c) hi).2 hni
  have h2:mR c=lr (aR c) c.af 0:=by simp[mR,hr]
  rw[<-h2,hnv]at h1
  cases h1
 have mn:=E7 hc okc hn (v0:=false::(List.replicate c.aB.length false++List.replicate c.ak.length false)) (AR (by simp) (by simp)) hg;have hok:=OB hc okc hn hall mn;have hck:=Gr.p5 hok;obtain⟨hs,hns,_⟩:=JJ hck;obtain⟨F,f1,f2,f3,f4,f5⟩:=WJ hck
 have hyi:y.ins=c.aB.length:=by rw[mn.grow.ins];rfl
 have hyn:y.next.length=c.ak.length:=by rw[mn.grow.next];simp[de]
 have hinit:(da c y v).normal.init=c.ak.map (·.init):=by rw[f4];exact mn.grow.init
 have hfirst:(da c y v).first=1+c.aB.length+c.ak.length:=by simp[Gr.first,da,k_,hyi]
 have hbase:(c.aB++c.ak.map (·.name)).Nodup:=by
  rw[aD,q9]at hn;exact hn.1
 refine⟨?_,hs,hinit⟩;unfold rT;rw[if_neg (by simp only[eE];rw[hns];decide),if_neg,if_neg,if_neg,if_neg]
 ·have ho2:(eE c y v).g.outs=c.aW.map fun s=>(F (pD ((aD c).zip v) s):Int):=by
   simp only[eE];rw[f2];simp only[da,cT,ij]
   exact nk fun s _=>by simp
  rw[ho2,show(eE c y v).aW=c.aW from rfl,NK]
  ·simp
  ·intro s hs2 hp
   have e0:jT (eE c y v) s=if eM s (c.aB++c.ak.map (·.name)) 0<0 then-1 else eM s (c.aB++c.ak.map (·.name)) 0+1:=rfl
   have hp2:0<=eM s (c.aB++c.ak.map (·.name)) 0:=by
    rw[e0]at hp
    split at hp<;>omega
   have he:jT (eE c y v) s=eM s (c.aB++c.ak.map (·.name)) 0+1:=by
    rw[e0,if_neg (by omega)]
   obtain⟨k,hk,k1,k2⟩:=Ng s _ 0 hp2
   have hk3:k<c.aB.length+c.ak.length:=by simpa using hk
   have hkn:k<(aD c).length:=by simp[aD];omega
   have e1:(aD c)[k]=s:=by
    rw[<-k1];simp only[aD];rw[C0 hk]
   have hkv:k<v.length:=by rw[mn.len];exact hkn
   have hlk:pD ((aD c).zip v) s=2*(k+1):=by
    rw[<-e1,qn _ _ k hn hkn mn.len];exact mn.low k hkv hk3
   rw[he,k2,hlk,f1 (k+1) (by rw[hfirst];omega)];omega
 ·have t1:n6 (c.aB++c.ak.map (·.name))=false:=by simp[n6,aai hbase]
  have t2:n6 c.aW=false:=by simp[n6,okc.outs]
  simp[eE,t1,t2]
 ·have n1:∀s∈l9 c,(!iC s)=false:=fun s hs=>by rw[okc.names s hs];rfl
  simp only[GK,eE]
  rw[z6 fun s hs=>n1 s (by simp[l9,hs]),z6 fun s hs=>n1 s (by
   obtain⟨q,hq,rfl⟩:=cC.1 hs;simp only[l9,o6,bl,pM]
   exact .inl (.inr ⟨q,hq,by simp⟩)),z6 fun s hs=>n1 s (by simp[l9,hs])]
  simp
 ·have l1:((eE c y v).aB.length:Int)=(eE c y v).g.ins:=by
   show(c.aB.length:Int)=(da c y v).normal.ins
   rw[f5];exact hyi.symm
  have l2:(eE c y v).ak.length=(eE c y v).g.next.length:=by
   show(c.ak.map (·.name)).length=(da c y v).normal.next.length
   rw[f3];simp[da,k_]
  have l3:(eE c y v).aW.length=(eE c y v).g.outs.length:=by
   show c.aW.length=(da c y v).normal.outs.length
   rw[f2];simp[da,k_]
  simp[nX,l1,l2,l3]
end Go.Proofs.YtihmomicdpkabaaGreatDoor
namespace Go.Proofs.YtihmomicdpkabaaGreatDoor
open Go.AM Go.Proofs
variable{Γ:Nat->Option AV}
theorem Zp{c:Ct}(hb:jb c)(hp:ur c=true)(h:(jS c).2.1≠0):(jo c).1≠0/\jS c=(jH,jo c):=by
 by_cases h0:(jo c).1=0
 ·obtain⟨v,hv⟩:=abV hb hp h0;unfold jS at h;rw[if_pos h0,hv]at h;exact absurd rfl h
 ·exact⟨h0,by unfold jS;rw[if_neg h0]⟩
abbrev hLn(c:Ct)(m:Md):List Ob:=[.cells (AV.cells (bX c)),.cells (AV.cells (py m))]
set_option maxRecDepth 8000 in
theorem aeI(c:Ct)(m:Md)(hm:uS m)(hl:m.ak=c.ak.map (·.name))(hi:m.g.init=c.ak.map (·.init))(h1:m.aB=c.aB)(h2:m.aW=c.aW)(hck:rT m=0)(hst:m.g.strict=true):∀n i:Nat,i+n=c.ak.length->
 ay Tryz.prog Γ (yI (.ptr 0 0) (.bool true) (.ptr 1 0) (.int .i64 0) (.int .i64 i) (hLn c m) ⟨[],.norm,0,[]⟩) (.ret (.bool true)):=by
 obtain⟨f,b1,b2,b3⟩:=hm
 have hll:m.ak.length=c.ak.length:=by rw[hl];simp
 have hil:m.g.init.length=c.ak.length:=by rw[hi];simp
 have hT1:aP Tryz.prog Γ oA [.list false m.kI (m.aB.map .str),.list false c.kI (c.aB.map .str)] (.bool true):=by
  have:=DH (Γ:=Γ) m.aB c.aB m.hI c.hI (by omega);rwa[show decide (m.aB=c.aB)=true from oo h1]at this
 have hT2:aP Tryz.prog Γ oA [.list false m.kO (m.aW.map .str),.list false c.kO (c.aW.map .str)] (.bool true):=by
  have:=DH (Γ:=Γ) m.aW c.aW m.hO c.hO (by omega);rwa[show decide (m.aW=c.aW)=true from oo h2]at this
 have hC:=E6 (Γ:=Γ) m ⟨f,b1,b2,b3⟩;rw[hck]at hC;have hS:=V3 (Γ:=Γ) m.g f;rw[hst]at hS;intro n
 induction n with
 |zero=>
  intro i hi'
  have q1:¬i<c.ak.length:=by omega
  refine .go 60 ?_;simp[q1];refine .call 60 (by simp) hT1 ?_;simp;refine .call 60 (by simp) hT2 ?_;simp;refine .call 60 (by simp) hC ?_;simp;refine .call 60 (by simp) hS ?_;simp[hll];exact .back (by simp)
 |succ n ih=>
  intro i hi'
  have q1:i<c.ak.length:=by omega
  have hh:=ih (i+1) (by omega);have q3:=c.hL.of q1
  have e1:m.ak[i]'(by omega)=c.ak[i].name:=by simp[hl]
  have e2:m.g.init[i]'(by omega)=c.ak[i].init:=by simp[hi]
  have q4:¬c.ak.length<=i:=by omega
  have q5:=m.hL.of (show i<m.ak.length by omega);have q6:=m.g.hi.of (show i<m.g.init.length by omega);refine .go 12 ?_;simp[q1,q3];refine .go 3 ?_;simp[q1,q3,q4,q5,q6,e1,e2,hll,hil];refine .go 60 ?_;simp(disch:=omega);refine .aL ?_;simp(disch:=omega);simp at hh⊢;exact hh
set_option maxRecDepth 8000 in
theorem VG(hΓ:jB Γ)(hΩ:uF Γ)(c:Ct)(hb:Sf c):aP Tryz.prog Γ zg [bX c] (.bool true):=by
 have hP:=aar (Γ:=Γ) c hb.1.2.2.2.1 hb.2;have hL:=F4 hΓ hΩ c hb.1;have hO:=Mm hΓ c hb.1;have hbm:=Md.aeY hb.1;refine .run 90 Us (by simp) ?_;simp;refine .call 90 (by simp) (aat hΓ hΩ) ?_;simp;refine .call 90 (by simp) hP ?_;simp;refine .call 90 (by simp) hL ?_;simp;refine .call 90 (by simp) hO ?_
 cases hp:ur c with
 |false=>
  simp;exact .back (by simp)
 |true=>
  by_cases h0:(jS c).2.1=0
  ·obtain⟨ho,v,hv,he⟩:=aba h0;have hc0:jo c=(0,[]):=(ub ho).2.2;obtain⟨m1,m2,m3⟩:=aan hb.1 ho (y:=(ml c).1) (v:=v) (by rw[<-hv]);have key:=aeI (Γ:=Γ) c (jS c).1 hbm (by rw[he];rfl) (by rw[he];exact m3) (by rw[he];rfl) (by rw[he];rfl) (by rw[he];exact m1) (by rw[he];exact m2) c.ak.length 0 (by omega);simp[h0,hc0];refine .inLoop ?_;simp;refine .gc 0 [0,1] (by simp) (by decide) ?_;simp at key⊢;exact key
  ·obtain⟨h1,he⟩:=Zp hb.1 hp h0;rw[he];simp[h1,jH];exact .back (by simp)
end Go.Proofs.YtihmomicdpkabaaGreatDoor
namespace Go.Proofs.YtihmomicdpkabaaGreatDoor
open Go.AM Go.Proofs Go.ChangeShapes Go.WideShapes Go.ChangeAt Go.RowKit
theorem UC(os:Os){H:Type}(enc:TypeId×Value->H):∃places,DataW.whole enc Tryz.prog ((Gg os).forCall (fun _ _=>0) ⟨#[],#[.agg #[.slice none 0 0,.slice none 0 0,.slice none 0 0,.slice none 0 0]],[]⟩).memory Tryz.f4.params.toList Rows.lowerNamesSpec.vars false (#[.agg #[.slice none 0 0,.slice none 0 0,.slice none 0 0,.slice none 0 0]]:Array Value).toList 8=some ([.agg [.nil,.nil,.nil,.nil]],[],places):=
 ⟨[],by kernel_rfl⟩
set_option maxRecDepth 100000 in
theorem Un(os:Os)(started:os.Started)(H:Type)(enc:TypeId×Value->H)(F:Stop.Interp):
 ReturnsInHanded {} Tryz.checked os 4 .any ((Rows.OpenSpec.upto Rows.lowerNamesSpec).preRow enc Tryz.prog Tryz.f4 Rows.lowerNamesUptoRow.domain false Rows.lowerNamesUptoRow.laid) (((Rows.OpenSpec.upto Rows.lowerNamesSpec).at F).post enc Tryz.prog Tryz.f4 false true false false):=by
 obtain⟨places,hx⟩:=UC os enc
 refine returnsInHanded_of_row (C:=Tryz.checked) (s:=Rows.OpenSpec.upto Rows.lowerNamesSpec) own started (by kernel_rfl) Tryz.func4
  (witness_row_at (enc:=enc) (C:=Tryz.checked) false (Gg os) #[.agg #[.slice none 0 0,.slice none 0 0,.slice none 0 0,.slice none 0 0]] rfl (by kernel_rfl) (by kernel_rfl) (by kernel_rfl)
   (OpenSpec.preRow_of_cond 8 hx (by kernel_rfl) (fun k hk=>by cases hk;kernel_rfl) (by kernel_rfl) (Z2 os _))) ?_
 intro W base args ds gs before hval hW _ hcond _ hL hsh _;obtain⟨Γ,hΓ,hok⟩:=aaT hL;refine Xy aeF (Γ:=Γ) (shs:=[(true,Pm)]) laid aec (tb:=4) (by kernel_rfl) u4 (C9 (by kernel_rfl)) (by kernel_rfl) rfl ?_ hok ?_ hval hW (aaU (hcond _ rfl))
 ·intro ds hds
  match ds,hds with
  |[d1],_=>exact⟨rfl,rfl,rfl⟩
 ·intro xs has;simp only[rP]at has;obtain⟨_,_,rfl,h1,_,rfl⟩:=has;obtain⟨a1,l1,a1b⟩:=adD h1;simp only[mr,l1];exact VG hΓ.1 hΓ.2 a1 a1b.toL
theorem UK:Rows.LowerNamesUptoSaid:=
 OpenClaim.holds_of_cond 4 Tryz.f4 rfl rfl rfl rfl rfl rfl rfl ⟨rfl,rfl,rfl,rfl,rfl⟩ rfl rfl rfl rfl rfl (by kernel_rfl) Tryz.func4 (by kernel_rfl)
  (C9 (by kernel_rfl)) (by unfold Func.isWrapper;first|(rw[if_pos (by decide+kernel)];kernel_rfl)|(rw[if_neg (by decide+kernel)];exact⟨rfl,rfl⟩))
  (fun os started H enc _ F=>by rw[OpenClaim.pre_eq_preRow];exact Un os started H enc F)
theorem UE(f:FuncId)(fn:Func)(hf:Tryz.pinned.checked.prog.funcNamed "patchbay/patchbaylaw11.LowerNames" =some f)(hfn:Tryz.pinned.checked.prog.funcs[f]? =some fn):
 true=Tryz.pinned.checked.prog.looks []/\∀(j:Nat) t,fn.params[j]? =some t->Tryz.pinned.checked.prog.wantsStandIn t=false:=by
 obtain rfl:f=4:=Option.some.inj ((show Tryz.prog.funcNamed "patchbay/patchbaylaw11.LowerNames" =some 4 by kernel_rfl).symm.trans hf)|>.symm
 obtain rfl:fn=Tryz.f4:=(Option.some.inj (Tryz.func4.symm.trans hfn)).symm;refine⟨by kernel_rfl,fun j t ht=>?_⟩
 have h1:(Tryz.f4.params.toList.all fun t=>!Tryz.prog.wantsStandIn t)=true:=by kernel_rfl
 have h2:=dE.1 h1 t (by simpa using Array.mem_of_getElem? ht)
 revert h2
 show(!Tryz.prog.wantsStandIn t)=true->Tryz.prog.wantsStandIn t=false
 cases Tryz.prog.wantsStandIn t<;>intro h<;>first|rfl|cases h
theorem lowerNames_holds:Rows.LowerNamesUptoCardSaid:=
 Claim7.holds_tied_plain_at .later [] _ _ _ _ UK (fun _ h=>by cases h) (by kernel_rfl) (fun _ h=>by cases h) lowerNamesUpto_row_tie rfl ⟨rfl,rfl⟩ (by kernel_rfl) rfl UE (by kernel_rfl)
#print axioms lowerNames_holds
end Go.Proofs.YtihmomicdpkabaaGreatDoor
