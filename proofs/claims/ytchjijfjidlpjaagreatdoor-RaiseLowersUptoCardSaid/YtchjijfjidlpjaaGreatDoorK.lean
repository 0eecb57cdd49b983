/- Graphs: Normal does what -/
import Derived.Test.YtchjijfjidlpjaaGreatDoorJ
import Derived.Test.YtchjijfjidlpjaaGreatDoorH
import Derived.Test.YtchjijfjidlpjaaGreatDoorF
import Derived.Test.YtchjijfjidlpjaaGreatDoorCode
import Derived.Test.YtchjijfjidlpjaaGreatDoorAMd
import Derived.Test.YtchjijfjidlpjaaGreatDoorI
import Derived.Test.YtchjijfjidlpjaaGreatDoorG
set_option linter.unusedSimpArgs false
set_option linter.unusedVariables false
namespace Go.Proofs.YtchjijfjidlpjaaGreatDoor
set_option maxRecDepth 8000
open Go.AM Go.Proofs
theorem wA(w:List Bool)(to:List Nat)(a:Nat):bZ w (bt to a)=(bZ w (to.getD (a/2) 0) !=decide (a%2=1)):=by
 unfold bt
 rcases(show a%2=0\/a%2=1 by omega)with h2|h2
 ·rw[h2,xO];simp
 ·rw[h2,De];simp
theorem CP(v:List Bool)(n:Nat):bZ v (2*n)=v.getD n false:=by
 unfold bZ
 rw[show 2*n/2=n by omega,show 2*n%2=0 by omega];simp
theorem ac4{v:List Bool}{c:Bool}{n:Nat}(h:n<v.length):(v++[c]).getD n false=v.getD n false:=by
 rw[bz,bz,cF h]
theorem afz{v:List Bool}{c:Bool}{n:Nat}(h:n=v.length):(v++[c]).getD n false=c:=by
 subst h
 rw[bz];simp
theorem Oj{first:Nat}{v0:List Bool}(hv:v0.length=first)(hz:bZ v0 0=false)(h1:1<=first):∀(ps l:List (Int×Int))(to:List Nat)(V:List Bool),qn first l->n_ first l to->V.length=to.length->
 (∀n,n<to.length->bZ (cn l v0) (to.getD n 0)=V.getD n false)->(∀i(h:i<ps.length),ps[i].1.toNat/2<to.length+i/\ps[i].2.toNat/2<to.length+i)->
 ∀n,n<to.length+ps.length->bZ (cn (fQ first ps l to).1 v0) ((fQ first ps l to).2.getD n 0)=(cn ps V).getD n false
 |[],l,to,V,_,_,hl,hh,_=>hh
 |p::ps,l,to,V,hw,ht,hl,hh,hp=>by
  have h0:=hp 0 (by simp);simp only[Fy,iz]at h0;have ha:=oU ht.lt h0.1;have hb:=oU ht.lt h0.2;obtain⟨hx,hk⟩:=wz ha hb h1;have h2:=PL hv hz h1 hw ha hb
  have b1:bZ (cn l v0) (bt to p.1.toNat)=bZ V p.1.toNat:=by rw[wA,hh _ h0.1];rfl
  have b2:bZ (cn l v0) (bt to p.2.toNat)=bZ V p.2.toNat:=by rw[wA,hh _ h0.2];rfl
  rw[b1,b2]at h2;intro n hn;rw[fQ,cn]
  refine Oj hv hz h1 ps _ _ _ (hw.and ha hb) ⟨fun z hz=>by
   rcases a8.1 hz with hz|hz
   ·have:=ht.lt z hz;omega
   ·simp at hz;omega⟩ (by simp[hl]) (fun n hn=>?_) (fun i hi=>by
   have:=hp (i+1) (by simpa using hi);simp only[tE]at this
   simp;omega) n (by rw[bL]at hn;simp;omega)
  by_cases hc:n<to.length
  ·rw[nI hc,ac4 (by omega),<-hh n hc];refine ahy hv ?_;refine ht.lt _ ?_;rw[bz,aW hc];exact bA hc
  ·have e:n=to.length:=by simp at hn;omega
   rw[C8 e,afz (by omega),h2]
theorem ah1{x:Gr}(ok:x.Ok)(s:ie x.first x.ands){v0:List Bool}(hv:v0.length=x.first):∀N n,n<N->n<x.first+x.ands.length->Live x.first x.bg n->
 bZ (cn x.dm.ands v0) ((dU x.first x.bg x.ands 0 [] (ids x.first)).2.getD n 0)=(cn x.ands v0).getD n false:=by
 have I:=Gr.TP ok s;have s6:=(Dp ok).1;have w2:=s6.ands;rw[show x.dm.first=x.first from vM _ _]at w2;intro N
 induction N with
 |zero=>intro n hn;omega
 |succ N ih=>
  intro n hn hc hl
  by_cases h1:n<x.first
  ·rw[I.low n h1,vW _ (by omega),CP];obtain⟨e,he⟩:=HA x.ands v0;rw[he,bz,bz,cF (by omega)]
  ·rcases hl with h2|h2
   ·omega
   ·have hk:n-x.first<x.ands.length:=by omega
    have en:x.first+(n-x.first)=n:=by omega
    obtain⟨j,hj,e1,e2⟩:=I.at_ (n-x.first) hk hk (by rw[en];exact h2);rw[en]at e1;have hb:j<x.dm.ands.length:=hj
    have e3:x.dm.ands[j]=ml (dU x.first x.bg x.ands 0 [] (ids x.first)).2 x.ands[n-x.first]:=by
     have:x.dm.ands[j]? =some (ml (dU x.first x.bg x.ands 0 [] (ids x.first)).2 x.ands[n-x.first]):=e2;rw[aW hb]at this;exact Option.some.inj this
    have hw:=w2 j hb;have hx:=ok.ands (n-x.first) hk;obtain⟨c1,c2⟩:=Cp ok hk (by rw[en];exact h2);have va:=Hs (v:=v0) hb (by omega) (by omega);have vb:=Hs (v:=v0) hk (by omega) (by omega);rw[hv]at va vb;rw[e1,va,e3];simp only[ml,eo];rw[wA,wA,ih _ (by omega) (by omega) (.inr c1),ih _ (by omega) (by omega) (.inr c2)];rw[en,CP]at vb;rw[vb];rfl
theorem Qy{g:Gr}{r:List (Int×Int)×List Nat}(ok:g.Ok)(s6:(g.dz r).Ok){state ins:List Bool}
 (h:g.eA state ins=0->∀a∈g.next++g.outs,bZ (cn r.1 (false::(ins++state))) (bt r.2 a.toNat)=bZ (g.rF state ins) a.toNat):
 (g.dz r).eA state ins=g.eA state ins/\(g.dz r).dI state ins=g.dI state ins/\(g.dz r).jb state ins=g.jb state ins:=by
 have hE:(g.dz r).eA state ins=g.eA state ins:=by
  unfold Gr.eA;rw[Gr.su ok,Gr.su s6]
  have h1:(g.dz r).next.length=g.next.length:=by simp[Gr.dz]
  have:(g.dz r).fits state ins=g.fits state ins:=by unfold Gr.fits;rw[h1];rfl
  rw[this]
 refine⟨hE,?_,?_⟩
 ·unfold Gr.dI;rw[hE]
  split
  ·rename_i h0;have hh:=h h0;unfold sM Gr.dz eD Gr.rF;simp only[iW]
   refine nB fun a ha=>?_
   exact hh a (xM _ ha)
  ·rfl
 ·unfold Gr.jb;rw[hE]
  split
  ·rename_i h0;have hh:=h h0;unfold sM Gr.dz eD Gr.rF;simp only[iW]
   refine nB fun a ha=>?_
   exact hh a (nE _ ha)
  ·rfl
theorem SV{g:Gr}{state ins:List Bool}(h:g.eA state ins=0):(false::(ins++state)).length=g.first:=by
 obtain⟨ok,d1,d2⟩:=Gr.al9 h;have:=ok.ins
 simp[Gr.first];omega
theorem Si{g:Gr}(ok:g.Ok){a:Int}(h:a∈g.next++g.outs):a.toNat/2<g.first+g.ands.length:=by
 have hl:g.lits=2*(g.first+g.ands.length):=rfl
 rcases a8.1 h with h|h
 ·have:=ok.next a h;omega
 ·have:=ok.outs a h;omega
theorem aeB{g:Gr}(ok:g.Ok)(state ins:List Bool):g.dD.eA state ins=g.eA state ins/\g.dD.dI state ins=g.dI state ins/\g.dD.jb state ins=g.jb state ins:=by
 refine Qy ok (Di ok).1 (fun hE a ha=>?_);have hv:=SV hE
 have hi:∀n,n<g.first->(ids g.first).getD n 0=2*n:=fun n hn=>by
  rw[bz,aW (by simpa using hn)];simp[ids]
 have:=Oj hv (by simp[bZ]) (by unfold Gr.first;omega) g.ands [] (ids g.first) (false::(ins++state)) (fun i hi=>by simp at hi) (Dz _) (by rw[hv];simp)
  (fun n hn=>by rw[RO]at hn;rw[hi n hn,cn,CP]) (I0 ok) (a.toNat/2) (by rw[RO];exact Si ok ha)
 rw[wA,this];rfl
theorem afx{g:Gr}(ok:g.Ok)(s:ie g.first g.ands)(state ins:List Bool):g.dm.eA state ins=g.eA state ins/\g.dm.dI state ins=g.dI state ins/\g.dm.jb state ins=g.jb state ins:=by
 refine Qy ok (Dp ok).1 (fun hE a ha=>?_);have:=ah1 ok s (SV hE) (a.toNat/2+1) (a.toNat/2) (by omega) (Si ok ha) (.inr (Iz ok ha));rw[wA];have e:g.dm.ands=(dU g.first g.bg g.ands 0 [] (ids g.first)).1:=rfl;rw[e]at this;rw[this];rfl
theorem Nk{g:Gr}(h:g.check=0)(state ins:List Bool):g.normal.eA state ins=g.eA state ins/\g.normal.dI state ins=g.dI state ins/\g.normal.jb state ins=g.jb state ins:=by
 have ok:=Gr.rk h;obtain⟨o1,s1,l1⟩:=Di ok
 have e:g.normal=g.dD.dm:=by unfold Gr.normal;rw[if_pos h]
 rw[e]
 have hf:g.dD.first=g.first:=vM _ _
 obtain⟨a1,a2,a3⟩:=afx o1 (by rw[hf];exact s1) state ins;obtain⟨b1,b2,b3⟩:=aeB ok state ins;exact⟨a1.trans b1,a2.trans b2,a3.trans b3⟩
variable{Γ:Nat->Option AV}
theorem Oc(ins:List Bool):∀(s:Bs)(i:Nat),s.all nj=true->s.length=(ins.drop i).length->(bu s i).all (fun x=>rB ins (eO x).lit)=nX s (ins.drop i)
 |[],i,_,_=>by simp[bu,nX]
 |c::s,i,hg,hl=>by
  have hi:i<ins.length:=by
   refine xL fun hn=>?_
   rw[bx (by omega)]at hl;simp at hl
  rw[bJ hi]at hl⊢;rw[tw,aB]at hg;have ih:=Oc ins s (i+1) hg.2 (by simp at hl⊢;omega);rw[nX,<-ih,bu]
  by_cases a:c=45
  ·rw[if_pos a];simp[a]
  ·rw[if_neg a,tw];congr 1;have hc:=hg.1;simp only[nj,fL,bj]at hc
   rcases hc with b|b|b
   ·subst b
    have e1:((2*(i:Int)+1)/2).toNat=i:=by omega
    have e2:(2*(i:Int)+1)%2=1:=by omega
    simp[eO,rB,e1,e2,bz,aW hi]
   ·subst b
    have e1:((2*(i:Int))/2).toNat=i:=by omega
    have e2:¬(2*(i:Int))%2=1:=by omega
    simp[eO,rB,e1,e2,bz,aW hi]
   ·exact absurd b a
theorem S4{h os:List Ob}{a b c d:Ob}:(h++a::b::c::d::os)[h.length+3]? =some d:=by simp
abbrev xj(h:List Ob)(m:List (Bs×Bool))(nx:List Bool):List Ob:=h++[.row 1 bT [] none true false,.row 1 bT [] none true false,iM m,.row 1 bT (nx.map .bool) none true false]
theorem ak0(c:Ct)(hc:cH c)(m:List (Bs×Bool)){j:Nat}{h:List Ob}(h4:j<h.length)(hw:bN h)(hv:eT h)(up:List Fr):∀n i:Nat,i+n=c.ah.length->
 AM.Reach ak Γ (ymf (.ptr j 0) (.mp (h.length+2)) (.sl (h.length+3) 0 i) (.list false c.kL (c.ah.map ov)) (.int .i64 c.ah.length) (.int .i64 i) (xj h m ((c.ah.take i).map fun q=>eF m q.next)) ⟨[],.norm,h.length,up⟩)
  (ymg (.ptr j 0) (.mp (h.length+2)) (.sl (h.length+3) 0 c.ah.length) (xj h m (c.ah.map fun q=>eF m q.next)) ⟨[],.norm,h.length,up⟩):=by
 have b2:=hc.2.2.1
 have hb:=fun m=>hv (h.length+3) m (by omega)
 have hx:=hw (h.length+4) (by omega)
 have hk:j<h.length+4:=by omega
 have hj:=Dn (h.length+4) m
 have hl:=fun k=>RE (h.length+3) k m
 intro n
 induction n with
 |zero=>
  intro i hi
  have q1:¬i<c.ah.length:=by omega
  have he:i=c.ah.length:=by omega
  subst he;rw[cj (by omega)];refine .dh 60 ?_;simp[q1];exact .exit rfl rfl
 |succ n ih=>
  intro i hi
  have q1:i<c.ah.length:=by omega
  have q2:=bG (c.hL.of q1);have hh:=ih (i+1) (by omega)
  have e1:((c.ah.take (i+1)).map fun q=>eF m q.next)=((c.ah.take i).map fun q=>eF m q.next)++[eF m c.ah[i].next]:=by
   rw[iA q1,jA];rfl
  have hlen:((c.ah.take i).map fun q=>eF m q.next).length=i:=by simp;omega
  rw[e1]at hh;have hf:=R6 c.ah[i].next m;have h2:eF m c.ah[i].next=(match getM c.ah[i].next m with|some v=>v|none=>false):=rfl
  have hle:((i:Int)+1)<=140737488355328:=by omega
  generalize((c.ah.take i).map fun q=>eF m q.next)=P at*;generalize(c.ah.map fun q=>eF m q.next)=P2 at*;refine .dh 60 ?_
  cases hg:getM c.ah[i].next m with
  |none=>
   rw[hg]at hf h2;simp at hf h2;rw[h2]at hh;simp(disch:=omega) [q1,q2,iM,hf,isKey,bM,bV,hle,hlen];refine .aI ?_;simp;refine .lF (h.length+4) (by simp;rfl) (by simp) (by simp[hk]) (by simp[hx,hj]) ?_;refine .nN (i:=h.length+3) S4 (by simp) (by simp[hlen]) (by simp[hb,hl]) ?_;simp[xj,iM]at hh⊢;exact hh
  |some v=>
   rw[hg]at hf h2;simp at hf h2;rw[h2]at hh;simp(disch:=omega) [q1,q2,iM,hf,isKey,bM,bV,hle,hlen];refine .aI ?_;simp;refine .lF (h.length+4) (by simp;rfl) (by simp) (by simp[hk]) (by simp[hx,hj]) ?_;refine .nN (i:=h.length+3) S4 (by simp) (by simp[hlen]) (by simp[hb,hl]) ?_;simp[xj,iM]at hh⊢;exact hh
def uJ(c:Ct)(ins state:List Bool):Bool:=decide (ins.length=c.aq.length)&&decide (state.length=c.ah.length)
def dI(c:Ct)(ins state:List Bool):List Bool×List Bool×Int:=if uJ c ins state=true then(AK c ins state,AF c ins state,0)else([],[],11)
theorem ajx(hΓ:fE Γ)(c:Ct)(hc:cH c)(ok:eR c)(ins state:List Bool)(hy:ins.length<2^40)(hp:state.length<2^40){fi fs:Bool}{ki ks:Nat}(h5:Kd 1 ki ins)(hq:Kd 1 ks state){j:Nat}{h:List Ob}(hj:h[j]? =some (jL c (aE c) (aS c)))(hw:bN h)(hv:eT h):
 ∀up,AM.Reach ak Γ (.cl x_ [.ptr j 0,.list fs ks (state.map .bool),.list fi ki (ins.map .bool)] up h) (.back up (.aH [.sl h.length 0 (dI c ins state).1.length,.sl (h.length+1) 0 (dI c ins state).2.1.length,.int .i64 (dI c ins state).2.2]) (h++[rm (dI c ins state).1,rm (dI c ins state).2.1])):=by
 intro up;have hx:j<h.length:=(cV.1 hj).1
 have h2:=fun os=>ez hj os
 have hk:=hw h.length (aT _);unfold dI uJ
 by_cases hl:ins.length=c.aq.length/\state.length=c.ah.length
 ·have hV:=ajY hΓ c hc ok ins state hl.1 hl.2 (fi:=fi) (fs:=fs) h5 hq (j:=j) (h:=h++[.row 1 bT [] none true false,.row 1 bT [] none true false]) (h2 _) (by
   intro n hn;simp at hn
   simp[hw n (by omega)]) (by
   intro n k hn;simp at hn
   simp[hv n k (by omega)])
  simp at hV;have h1:=ak0 (Γ:=Γ) c hc (jk c ins state) hx hw hv up c.ah.length 0 (by omega)
  have hP:=Sn (Γ:=Γ) (jk c ins state) c.az (fl:=false) c.hO (by have:=hc.2.1;omega) (j:=h.length+2) (h:=xj h (jk c ins state) (c.ah.map fun q=>eF (jk c ins state) q.next)) (by simp) (by
   intro n hn;simp at hn
   simp[hw n (by omega),iM]) (by
   intro n k hn;simp at hn
   simp[hv n k (by omega),iM])
  unfold jL at h2
  have ih:(AK c ins state).length=c.az.length:=by simp[AK,gB]
  have hf:=afl c ins state;rw[if_pos (by simp[hl.1,hl.2])];unfold AK AF at*;simp only at ih hf⊢;generalize gB (jk c ins state) c.az=PO at*;generalize(c.ah.map fun q=>eF (jk c ins state) q.next)=PN at*;generalize jk c ins state=m at*;simp at h1 hP;refine .bp 60 Mx.1 ?_;simp;refine .aX 60 hV ?_;simp[h2,iM];refine .inLoop ?_;simp[xj,iM,rm]at h1 hP⊢;refine .trans h1 ?_;refine .aY 60 ?_;simp[h2];refine .aX 4 hP ?_;simp;refine .trans (.na [9,11,42,48,49] _) ?_;simp[nn];have hb:(h.length+3<h.length)=False:=jC (by omega);have q1:(h.length+4<h.length)=False:=jC (by omega);refine .nq h.length [4,3] (by simp[nP hk,hx]) (by decide) ?_;simp[nQ hk,hx,hb,q1];refine .aY 60 ?_;simp[ih,hf]
 ·have hV:=ajy (Γ:=Γ) c hc (aE c) (aS c) ins state (fi:=fi) (fs:=fs) (ki:=ki) (ks:=ks) hy hp hl (j:=j) (h:=h++[.row 1 bT [] none true false,.row 1 bT [] none true false]) (h2 _);rw[if_neg (by simpa using hl)];refine .bp 60 Mx.1 ?_;simp;refine .aX 12 hV ?_;simp;refine .aY 6 ?_;simp;have hb:(h.length+3<h.length)=False:=jC (by omega);have h4:(h.length+2<h.length)=False:=jC (by omega);refine .nq h.length [2,3] (by simp[nP hk,hx]) (by decide) ?_;simp[nQ hk,hx,hb,h4];refine .aY 60 ?_;simp[rm]
def h_(c:Ct)(ins state:List Bool):List Bool×List Bool×Int:=if j3 c=true then dI c ins state else([],[],1)
theorem Ng(hΓ:fE Γ)(c:Ct)(hb:gR c)(ins state:List Bool)(h2:ins.length<2^40)(hv:state.length<2^40){ki ks:Nat}(hx:Kd 1 ki ins)(hk:Kd 1 ks state):
 aQ ak Γ Ch [bU c,.list false ks (state.map .bool),.list false ki (ins.map .bool)] (.aH [.own 1 bT ((h_ c ins state).1.map .bool),.own 1 bT ((h_ c ins state).2.1.map .bool),.int .i64 (h_ c ins state).2.2]):=by
 unfold h_
 cases ho:j3 c with
 |false=>
  have hB:=ag7 hΓ c hb ho (h:=[.cells (AV.cells (bU c)),.row 1 bT [] none true false,.row 1 bT [] none true false]);simp at hB;refine .run 60 Nr.1 (by simp) ?_;simp;refine .aX 60 hB ?_;simp;exact .back (by simp)
 |true=>
  obtain⟨hr,_,_⟩:=Ap ho;obtain⟨ok,_⟩:=Ac hr;have hc:=sq hb hr;have hB:=ajg hΓ c hb ho (h:=[.cells (AV.cells (bU c)),.row 1 bT [] none true false,.row 1 bT [] none true false]) (by intro n hn;simp) (by intro n k hn;simp);have hM:=ajx hΓ c hc ok ins state h2 hv (fi:=false) (fs:=false) hx hk (j:=3) (h:=[.cells (AV.cells (bU c)),.row 1 bT [] none true false,.row 1 bT [] none true false,jL c (aE c) (aS c)]) rfl (by intro n hn;simp[jL]) (by intro n k hn;simp at hn;simp[jL]);generalize dI c ins state=R at*;obtain⟨o,nx,e⟩:=R;simp at hB hM;refine .run 60 Nr.1 (by simp) ?_;simp;refine .aX 60 hB ?_;simp;refine .aX 60 hM ?_;simp[rm];exact .back (by simp)
@[simp] theorem aC7(n:Nat)(c:Ct)(N:List Bs)(l:List Nat):iL n (jL c N l)=true:=by simp[jL]
@[simp] theorem aC9(n m:Nat)(c:Ct)(N:List Bs)(l:List Nat):nh n m (jL c N l)=true:=by simp[jL]
def bS(v0:List Bool)(x:Gr)(a:Nat):Bool:=bZ (cn x.ands v0) a
structure V0(x:Gr)(v0:List Bool):Prop where
 len:v0.length=x.first
 zero:bZ v0 0=false
theorem V0.grow{x y:Gr}{v0:List Bool}(h:V0 x v0)(g:iJ x y):V0 y v0:=⟨by rw[g.first];exact h.len,h.zero⟩
theorem qQ{x y:Gr}(g:iJ x y){v0:List Bool}(hv:V0 x v0){c:Nat}(hc:c<x.lits):bS v0 y c=bS v0 x c:=by
 obtain⟨e,he⟩:=g.ands;unfold bS;rw[he,zi];refine vW e ?_;rw[zM,hv.len];unfold Gr.lits Gr.all at hc;omega
theorem nK{v0:List Bool}{x:Gr}{a:Nat}:bS v0 x (a^^^1)=!bS v0 x a:=De
theorem Og{v0:List Bool}{x:Gr}{a t:Nat}(ht:t<=1):bS v0 x (a^^^t)=(bS v0 x a !=decide (t=1)):=by
 obtain rfl|rfl:t=0\/t=1:=by omega
 ·simp
 ·rw[nK];simp
theorem HT{v0:List Bool}{x:Gr}(hv:V0 x v0):bS v0 x 0=false:=by
 unfold bS;rw[vW _ (by rw[hv.len];unfold Gr.first;omega),hv.zero]
theorem CW{x y:Gr}{v0:List Bool}(ok:x.Ok)(hv:V0 x v0){p q d:Nat}(h:fH x p q=(y,some d)):bS v0 y d=(bS v0 x p&&bS v0 x q):=by
 obtain⟨he,rfl,rfl⟩:=afR h;have a:=SY he
 have hb:1<=x.first:=by unfold Gr.first;omega
 have h1:=a.a1;have h2:=a.b1;simp only[Gr.lits,Gr.all]at h1 h2;unfold bS;rw[a.R,a.C];have:=PL (first:=x.first) (l:=x.ands) hv.len hv.zero hb (fun i hi=>ok.ands i hi) (a:=p) (b:=q) (by omega) (by omega);simpa using this
theorem Ov{turn:Nat}(ht:turn<=1){v0:List Bool}:∀(l:List Nat)(x y:Gr)(c d:Nat),x.Ok->V0 x v0->c<x.lits->(∀a∈l,a<x.lits)->lM turn x c l=(y,some d)->bS v0 y d=(bS v0 x c&&l.all fun a=>bS v0 x (a^^^turn))
 |[],x,y,c,d,ok,hv,hc,hl,h=>by
  rw[lM]at h;cases h;simp
 |a::l,x,y,c,d,ok,hv,hc,hl,h=>by
  rw[lM]at h
  cases h1:fH x c (a^^^turn)with
  |mk z r=>
   rw[h1]at h
   cases r with
   |none=>cases h
   |some e=>
    obtain⟨g1,g2⟩:=pE ok h1;have ih:=Ov ht l z y e d g1.ok (hv.grow g1) (g2 e rfl) (fun b hb=>lX (hl b (by simp[hb])) g1.lits) h;rw[ih,CW ok hv h1,tw,pw];congr 2;rw[gV,eh,eh]
    have e1:∀b∈l,bS v0 z (b^^^turn)=bS v0 x (b^^^turn):=fun b hb=>qQ g1 hv (wv (n:=x.all) ht (hl b (by simp[hb])))
    exact⟨fun h b hb=>by rw[<-e1 b hb];exact h b hb,fun h b hb=>by rw[e1 b hb];exact h b hb⟩
theorem CE{turn:Nat}(ht:turn<=1){v0:List Bool}{l:List Nat}(h0:l≠[]){x y:Gr}{d:Nat}(ok:x.Ok)(hv:V0 x v0)(hl:∀a∈l,a<x.lits)(h:jc turn x l=(y,some d)):bS v0 y d=l.all fun a=>bS v0 x (a^^^turn):=by
 cases l with
 |nil=>exact absurd rfl h0
 |cons a r=>exact Ov ht r x y _ d ok hv (wv (n:=x.all) ht (hl a (by simp))) (fun b hb=>hl b (by simp[hb])) h
theorem vL{α β:Type}{r:Gr×Option α}{f:Gr->α->Gr×Option β}{y:Gr}{b:β}(h:gn r f=(y,some b)):∃z a,r=(z,some a)/\f z a=(y,some b):=by
 obtain⟨z,o⟩:=r
 cases o with
 |none=>cases h
 |some a=>exact⟨z,a,rfl,h⟩
theorem vP{α β:Type}{r:Gr×Option α}{f:α->β}{y:Gr}{b:β}(h:eY f r=(y,some b)):∃a,r=(y,some a)/\f a=b:=by
 obtain⟨z,o⟩:=r
 cases o with
 |none=>cases h
 |some a=>
  simp only[eY,dC,b9,an]at h;exact⟨a,by rw[h.1],h.2⟩
theorem agi{x y:Gr}{v0:List Bool}(ok:x.Ok)(hv:V0 x v0){c a d:Nat}(hc:c<x.lits)(ha:a<x.lits)(h:Ec x c a=(y,some d)):bS v0 y d=(bS v0 x c !=bS v0 x a):=by
 obtain⟨z,p,h1,h⟩:=vL h;obtain⟨w,q,h2,h⟩:=vL h;obtain⟨e,h3,rfl⟩:=vP h;obtain⟨g1,b1⟩:=pE ok h1;obtain⟨g2,b2⟩:=pE g1.ok h2;have hp:=b1 p rfl;have hq:=b2 q rfl;have e3:=CW g2.ok ((hv.grow g1).grow g2) h3;have e2:=CW g1.ok (hv.grow g1) h2;have e1:=CW ok hv h1;rw[nK,e3,nK,nK,qQ g2 (hv.grow g1) hp,e2,e1,nK,nK,qQ g1 hv hc,qQ g1 hv ha]
 cases bS v0 x c<;>cases bS v0 x a<;>rfl
theorem Qr(v:Bool)(l:List Bool):decide (eE (v::l)%2=1)=(v !=decide (eE l%2=1)):=by
 rw[eE]
 cases v
 ·simp
 ·simp only[cE];rw[gV];simp;omega
theorem Oz{v0:List Bool}:∀(l:List Nat)(x y:Gr)(c d:Nat),x.Ok->V0 x v0->c<x.lits->(∀a∈l,a<x.lits)->rq x c l=(y,some d)->bS v0 y d=(bS v0 x c !=decide (eE (l.map (bS v0 x))%2=1))
 |[],x,y,c,d,ok,hv,hc,hl,h=>by
  rw[rq]at h;cases h;simp[eE]
 |a::l,x,y,c,d,ok,hv,hc,hl,h=>by
  rw[rq]at h;obtain⟨z,e,h1,h⟩:=vL h;have g:=O_ ok c a;rw[h1]at g;have ih:=Oz l z y e d g.1.ok (hv.grow g.1) (g.2 e rfl) (fun b hb=>lX (hl b (by simp[hb])) g.1.lits) h
  have e1:l.map (bS v0 z)=l.map (bS v0 x):=nB fun b hb=>qQ g.1 hv (hl b (by simp[hb]))
  rw[ih,agi ok hv hc (hl a (by simp)) h1,e1,bX,Qr]
  cases bS v0 x c<;>cases bS v0 x a<;>simp
theorem aet{v0:List Bool}{l:List Nat}(h0:l≠[]){x y:Gr}{d:Nat}(ok:x.Ok)(hv:V0 x v0)(hl:∀a∈l,a<x.lits)(h:AJ x l=(y,some d)):bS v0 y d=decide (eE (l.map (bS v0 x))%2=1):=by
 cases l with
 |nil=>exact absurd rfl h0
 |cons a r=>rw[Oz r x y a d ok hv (hl a (by simp)) (fun b hb=>hl b (by simp[hb])) h,bX,Qr]
theorem RY:∀l:List Bool,decide (eE l=l.length)=l.all id
 |[]=>rfl
 |v::l=>by
  have:=RM l;rw[eE,tw,<-RY l,bL]
  cases v
  ·have h:¬(0+eE l=l.length+1):=by omega
   simp;omega
  ·have h:(1+eE l=l.length+1)↔eE l=l.length:=by omega
   simp[h]
theorem Q1:∀l:List Bool,decide (0<eE l)=l.any id
 |[]=>rfl
 |v::l=>by
  rw[eE,List.any_cons,<-Q1 l]
  cases v<;>simp<;>omega
theorem ahF{n:Int}(h0:0<=n)(h9:n<=9){v0:List Bool}{l:List Nat}(h2:2<=n->l≠[]){x y:Gr}{d:Nat}(ok:x.Ok)(hv:V0 x v0)(hl:∀a∈l,a<x.lits)(h:oa n x l=(y,some d)):bS v0 y d=Bi n (l.map (bS v0 x)):=by
 unfold oa at h;unfold Bi
 by_cases c1:n<=1
 ·rw[if_pos c1]at h
  cases h
  rw[if_pos (by omega),HT hv]
 ·rw[if_neg c1]at h;rw[if_neg (by omega)]
  by_cases c2:n<=5
  ·rw[if_pos c2]at h;rw[if_pos (by omega),CE (by omega) (h2 (by omega)) ok hv hl h,RY,List.all_map];simp[BC]
  ·rw[if_neg c2]at h;rw[if_neg (by omega)]
   by_cases c3:n<=7
   ·rw[if_pos c3]at h;obtain⟨e,h1,rfl⟩:=vP h;rw[if_pos (by omega),nK,CE (by omega) (h2 (by omega)) ok hv hl h1,Q1,List.any_map];simp only[nK];rw[gV];simp
   ·rw[if_neg c3]at h;rw[if_neg (by omega),aet (h2 (by omega)) ok hv hl h]
theorem NO{α:Type}{p q:α->Bool}:∀{l:List α},(∀s∈l,p s=q s)->bE p l=bE q l
 |[],_=>by simp
 |a::l,h=>by rw[lB,lB,h a (by simp),NO fun s hs=>h s (by simp[hs])]
theorem GJ{x y:Gr}(g:iJ x y){v0:List Bool}(hv:V0 x v0){l:List Nat}(hl:∀a∈l,a<x.lits):l.map (bS v0 y)=l.map (bS v0 x):=nB fun b hb=>qQ g hv (hl b hb)
def QZ(v0:List Bool)(ins:List Nat)(vs:List Bool)(f:Nat):Prop:=
 ∀(x y:Gr)(l:List Fm)(c:Nat)(l':List Fm),x.Ok->V0 x v0->(∀a∈ins,a<x.lits)->ins.map (bS v0 x)=vs->jS ins f x l=(y,some (c,l'))->∀(w:Bool)(l2:List Fm),fB ins.length (rB vs) f l=some (w,l2)->bS v0 y c=w
theorem Pc{v0:List Bool}{ins:List Nat}{vs:List Bool}{f:Nat}(ih:QZ v0 ins vs f)(a:Bool):∀(k:Nat)(x y:Gr)(ks:List Nat)(l:List Fm)(v:Bool)(q:List Nat)(l':List Fm)(w:Bool)(l2:List Fm),x.Ok->V0 x v0->(∀b∈ins,b<x.lits)->ins.map (bS v0 x)=vs->(∀b∈ks,b<x.lits)->
 lK (jS ins f) k x ks l=(y,some (q,l'))->gF (fB ins.length (rB vs) f) a k v l=some (w,l2)->∃new,q=ks++new/\new.length=k/\w=if a=true then v&&new.all (bS v0 y)else v||new.any (bS v0 y)
 |0,x,y,ks,l,v,q,l',w,l2,ok,hv,hi,hm,hk,h1,h2=>by
  rw[lK]at h1;rw[gF]at h2
  cases h1;cases h2
  exact⟨[],by simp,rfl,by simp⟩
 |k+1,x,y,ks,l,v,q,l',w,l2,ok,hv,hi,hm,hk,h1,h2=>by
  rw[lK]at h1;rw[gF]at h2;obtain⟨z,p,h3,h1⟩:=vL h1;obtain⟨c,l1⟩:=p
  cases h4:fB ins.length (rB vs) f l with
  |none=>rw[h4]at h2;cases h2
  |some u=>
   rw[h4]at h2;obtain⟨u1,u2⟩:=u;have e1:=G5 ins _ _ f x l z c l1 u1 u2 h3 h4;subst e1;have hf:=t_ ins f x l ok hi;rw[h3]at hf;have hc:=hf.2 _ rfl;simp only at hc hf h1 h2;have hz:=ih x z l c l1 ok hv hi hm h3 u1 l1 h4
   have hx:∀b∈ks++[c],b<z.lits:=fun b hb=>by
    rcases a8.1 hb with hb|hb
    ·exact lX (hk b hb) hf.1.lits
    ·simp only[cL]at hb;subst hb;exact hc
   have hj:∀b∈ins,b<z.lits:=fun b hb=>lX (hi b hb) hf.1.lits
   obtain⟨new,rfl,hn,rfl⟩:=Pc ih a k z y (ks++[c]) l1 _ q l' w l2 hf.1.ok (hv.grow hf.1) hj (by rw[GJ hf.1 hv hi];exact hm) hx h1 h2;have g2:=(Cv ins (t_ ins f) k z (ks++[c]) l1 hf.1.ok hj hx).1;rw[h1]at g2
   have hy:bS v0 y c=u1:=by rw[qQ g2 (hv.grow hf.1) hc];exact hz
   refine⟨c::new,by simp,by simp[hn],?_⟩;rw[tw,List.any_cons,hy]
   cases a
   ·simp only[fe,dq];rw[Bool.or_comm u1 v,Bool.or_assoc]
   ·simp only[cE];rw[Bool.and_comm u1 v,pw]
theorem Pb(v0:List Bool)(ins:List Nat)(vs:List Bool):∀f,QZ v0 ins vs f
 |0,x,y,l,c,l',ok,hv,hi,hm,h1,w,l2,h2=>by cases h1
 |f+1,x,y,[],c,l',ok,hv,hi,hm,h1,w,l2,h2=>by cases h1
 |f+1,x,y,t::l,c,l',ok,hv,hi,hm,h1,w,l2,h2=>by
  rw[jS]at h1;rw[fB]at h2
  split at h2
  ·rename_i ho;unfold fK at ho
   by_cases k2:t.kind=2
   ·rw[if_pos k2]at h1 h2 ho;simp only[aB,bj]at ho
    cases h1;cases h2
    have q1:(t.lit/2).toNat<ins.length:=by omega
    subst hm;rw[Og (by omega)];unfold rB;simp only[bz,jP,aW q1,dC,kH]
    have e1:((t.lit%2).toNat=1)↔t.lit%2=1:=by omega
    simp only[e1]
    cases bS v0 x ins[(t.lit/2).toNat]<;>simp
   ·rw[if_neg k2]at h1 h2 ho
    by_cases hx:t.kind=3\/t.kind=4
    ·rw[if_neg (by omega)]at h1;rw[if_pos hx]at ho;simp only[aB,bj]at ho;obtain⟨z,p,h3,h1⟩:=vL h1;obtain⟨ks,l1⟩:=p;obtain⟨e,h4,he⟩:=vP h1;have hb:=Cv ins (t_ ins f) t.kids.toNat x [] l ok hi (fun a ha=>by cases ha);rw[h3]at hb;have hc:=hb.2 _ rfl;simp only at hc;obtain⟨new,hq,hn,hw⟩:=Pc (Pb v0 ins vs f) _ _ _ _ _ _ _ _ _ _ _ ok hv hi hm (fun a ha=>by cases ha) h3 h2;rw[kF]at hq;rw[<-hq]at hn hw;simp only[b9]at he;obtain⟨rfl,_⟩:=he
     have h0:ks≠[]:=by
      rintro rfl
      simp at hn;omega
     have hk:=hv.grow hb.1
     by_cases k3:t.kind=3
     ·rw[if_pos k3]at h4;rw[CE (by omega) h0 hb.1.ok hk hc h4,hw];simp[k3]
     ·have k4:t.kind=4:=by omega
      rw[if_neg k3]at h4;obtain⟨e2,h5,rfl⟩:=vP h4;rw[nK,CE (by omega) h0 hb.1.ok hk hc h5,hw];simp only[nK,k4];rw[gV];simp
    ·rw[if_neg hx]at ho
     split at ho
     ·rename_i hj;simp only[aB,bj]at ho;rw[if_pos hj]at h1
      cases h1
      rw[ho.2]at h2;simp only[Int.toNat_zero,gF,an,b9]at h2;rw[<-h2.1]
      rcases hj with k|k
      ·rw[k];simpa using HT hv
      ·rw[k];have:=nK (v0:=v0) (x:=x) (a:=0);rw[HT hv]at this;simpa using this
     ·cases ho
  ·cases h2
theorem afo{g:Gt}(hg:ig g=true){v0:List Bool}{ins:List Nat}(hlen:ins.length=g.ins.length){x y:Gr}{d:Nat}(ok:x.Ok)(hv:V0 x v0)(hl:∀a∈ins,a<x.lits)(h:ku x g ins=(y,some d)):bS v0 y d=uF g (ins.map (bS v0 x)):=by
 unfold ku at h
 rcases Re hg with⟨h0,h9,ho⟩|⟨hx,h8,hc⟩
 ·rw[if_pos ⟨h0,h9⟩]at h;obtain⟨e,h1,rfl⟩:=vP h
  rw[Og (by omega),ahF h0 h9 (fun h2=>by
   have:=SC ho h2
   rintro rfl
   simp at hlen;omega) ok hv hl h1]
  unfold uF;rw[if_neg (by omega)]
  have e2:decide ((g.op%2).toNat=1)=uZ g.op:=by
   unfold uZ;rw[gV];simp only[bj];omega
  rw[e2]
  cases Bi g.op (ins.map (bS v0 x))<;>cases uZ g.op<;>rfl
 ·rw[if_neg (by omega)]at h;obtain⟨p,h1,rfl⟩:=vP h;obtain⟨c,l'⟩:=p;have hV:=Qg hc (rB (ins.map (bS v0 x)));unfold DZ at hV
  split at hV
  ·split at hV
   ·rename_i v h5;have hk:=Pb v0 ins (ins.map (bS v0 x)) _ x y _ c l' ok hv hl rfl h1 v [] (by rw[hlen];exact h5);have hj:=Option.some.inj hV
    have hb:bE (fS (rB (ins.map (bS v0 x)))) g.rows=bE (fun s=>nX s (ins.map (bS v0 x))) g.rows:=by
     obtain⟨m,hm,_,_,h3⟩:=P6 hc
     refine NO fun s hs=>?_
     have h6:=h3 s hs;have:=Oc (ins.map (bS v0 x)) s 0 h6.1 (by simp;omega);simpa[fS]using this
    unfold uF;rw[if_pos hx,<-hb,<-hj,<-hk];simp only
    cases g.off
    ·simp only[fe,dq]
     cases bS v0 y c<;>rfl
    ·simp only[cE,nK]
     cases bS v0 y c<;>rfl
   ·cases hV
  ·cases hV
abbrev jl(c:Ct):Nat:=c.aq.length+c.ah.length
structure qd(c:Ct)(v0:List Bool)(x:Gr)(v p:List Nat):Prop where
 grow:iJ (dT c) x
 len:v.length=(aE c).length
 inv:uM c x v p
 low:∀k(hk:k<v.length),k<jl c->v[k]=2*(k+1)
 eq:∀j∈p,∀h:j<c.af.length,∀hk:jl c+j<v.length,bS v0 x v[jl c+j]=uF c.af[j] ((cO ((aE c).zip v) c.af[j].ins).map (bS v0 x))
 ins:∀j∈p,∀h:j<c.af.length,∀s∈c.af[j].ins,∃k,∃hk:k<(aE c).length,(aE c)[k]=s/\sS c p k
theorem Ou{c:Ct}{p q:List Nat}{k:Nat}(h:sS c p k):sS c (p++q) k:=by
 rcases h with h|⟨j,hj,rfl⟩
 ·exact .inl h
 ·exact .inr ⟨j,nE _ hj,rfl⟩
theorem QH{c:Ct}(hn:(aE c).Nodup){v p:List Nat}(hv:v.length=(aE c).length){a d:Nat}(ha:a∉p){l:List Bs}(hl:∀s∈l,∃k,∃hk:k<(aE c).length,(aE c)[k]=s/\sS c p k):cO ((aE c).zip (v.set (jl c+a) d)) l=cO ((aE c).zip v) l:=by
 refine nB fun s hs=>?_
 obtain⟨k,hk,rfl,hc⟩:=hl s hs;rw[sN _ _ k hn hk (by simpa using hv),sN _ _ k hn hk hv,L_]
 rcases hc with hc|⟨j,hj,rfl⟩
 ·simp only[jl];omega
 ·simp only[jl]
  rintro e
  have:a=j:=by omega
  exact ha (this▸hj)
theorem qd.step{c:Ct}(hy:eR c)(hn:(aE c).Nodup){v0:List Bool}(hb:V0 (dT c) v0){i:Nat}(hi:i<(aS c).length){x y:Gr}{v:List Nat}{d:Nat}(h:qd c v0 x v ((aS c).take i))
 (hg:ku x (c.af[(aS c)[i]]'(pH c _ (bA hi))) (cO ((aE c).zip v) (c.af[(aS c)[i]]'(pH c _ (bA hi))).ins)=(y,some d)):
 qd c v0 y (v.set (jl c+(aS c)[i]) d) ((aS c).take (i+1)):=by
 have ha:=pH c _ (bA hi)
 have q1:=fun s hs=>Qb hy hi (s:=s) hs
 have h4:=Aj hn h.len h.inv q1;have ht:=hy.af _ (bA ha);have h2:=NV h.grow.ok (c.af[(aS c)[i]]) h4;rw[hg]at h2;have hd:=h2.2 d rfl
 have ih:(aS c)[i]∉(aS c).take i:=by
  intro hm;obtain⟨x,hx,he⟩:=gb hm;rw[qp]at he;have:=(xQ (xs:=aS c) (h₀:=by simp at hx;omega) (h₁:=hi) (GB c)).1 he
  simp at hx;omega
 have hf:=afo ht (qG _ _) h.grow.ok (hb.grow h.grow) h4 hg;have q2:(aS c).take (i+1)=(aS c).take i++[(aS c)[i]]:=iA hi;rw[q2];have hv:=QH hn h.len (d:=d) ih q1;refine⟨h.grow.trans h2.1,by simpa using h.len,h.inv.step h2.1.lits hd,fun k hk hp=>?_,fun j hj hl hk=>?_,fun j hj hl s hs=>?_⟩
 ·rw[L_ (by simp only[jl]at hp⊢;omega)];exact h.low k (by simpa using hk) hp
 ·rcases a8.1 hj with hj|hj
  ·have ps:¬jl c+(aS c)[i]=jl c+j:=by
    rintro e
    have:(aS c)[i]=j:=by omega
    exact ih (this▸hj)
   have h5:=h.ins j hj hl;rw[L_ ps,QH hn h.len ih h5]
   have hq:jl c+j<v.length:=by simpa using hk
   have e1:=Aj hn h.len h.inv h5;have e:=h.eq j hj hl hq;rw[GJ h2.1 (hb.grow h.grow) e1,<-e];exact qQ h2.1 (hb.grow h.grow) (h.inv _ hq (.inr ⟨j,hj,rfl⟩))
  ·simp only[cL]at hj;subst hj;rw[List.getElem_set_self,hv,hf,GJ h2.1 (hb.grow h.grow) h4]
 ·rcases a8.1 hj with hj|hj
  ·obtain⟨k,hk,e,hc⟩:=h.ins j hj hl s hs;exact⟨k,hk,e,Ou hc⟩
  ·simp only[cL]at hj;subst hj;obtain⟨k,hk,e,hc⟩:=q1 s hs;exact⟨k,hk,e,Ou hc⟩
theorem ag4{c:Ct}(hv:eR c)(hn:(aE c).Nodup){v0:List Bool}(hb:V0 (dT c) v0){y:Gr}{w:List Nat}:∀n i,i+n=(aS c).length->∀(x:Gr)(v:List Nat),qd c v0 x v ((aS c).take i)->k9 c ((aS c).drop i) x v=(y,some w)->qd c v0 y w (aS c):=by
 intro n
 induction n with
 |zero=>
  intro i hi x v h h1;rw[bx (by omega),k9]at h1;rw[cj (by omega)]at h
  cases h1
  exact h
 |succ n ih=>
  intro i hi x v h h1
  have q1:i<(aS c).length:=by omega
  rw[bJ q1,HO c (pH c _ (bA q1))]at h1;obtain⟨z,d,h2,h1⟩:=vL h1;exact ih (i+1) (by omega) z _ (h.step hv hn hb q1 h2) h1
theorem al0{c:Ct}(hc:cH c)(h2:eR c)(v0:List Bool):qd c v0 (dT c) (ij (aE c).length) []:=
 ⟨.refl (IZ hc h2),vY _,P9 hc,fun k hk _=>by simp[ij],fun j hj=>(by cases hj),fun j hj=>(by cases hj)⟩
theorem PU{c:Ct}(hc:cH c)(h2:eR c)(hn:(aE c).Nodup){v0:List Bool}(hv:V0 (dT c) v0){y:Gr}{w:List Nat}(h:kZ c=(y,some w)):qd c v0 y w (aS c):=
 ag4 h2 hn hv (aS c).length 0 (by omega) _ _ (al0 hc h2 v0) h
theorem N7(c:Ct):(dT c).first=1+jl c:=by simp[Gr.first,dT,jl,lu]
theorem I_{c:Ct}{state ins:List Bool}(hi:ins.length=c.aq.length)(hs:state.length=c.ah.length):V0 (dT c) (false::(ins++state)):=⟨by rw[N7];simp[jl,hi,hs,Nat.add_comm],rfl⟩
theorem aip(c:Ct){k:Nat}(hk:k<c.aq.length):∃h:k<(aE c).length,(aE c)[k]=c.aq[k]:=by
 have h:k<(aE c).length:=by rw[wa];omega
 refine⟨h,?_⟩
 have:(aE c)[k]? =some c.aq[k]:=by
  rw[aE,cF (by simp;omega),cF hk,aW hk]
 exact(cV.1 this).2
theorem aiw(c:Ct){k:Nat}(hk:k<c.ah.length):∃h:c.aq.length+k<(aE c).length,(aE c)[c.aq.length+k]=c.ah[k].name:=by
 have h:c.aq.length+k<(aE c).length:=by rw[wa];omega
 refine⟨h,?_⟩
 have:(aE c)[c.aq.length+k]? =some c.ah[k].name:=by
  rw[aE,cF (by simp;omega),dB (by omega),rY,jP,aW hk];rfl
 exact(cV.1 this).2
def A4(c:Ct)(v0:List Bool)(y:Gr)(v:List Nat)(s:Bs):Bool:=bS v0 y (rJ ((aE c).zip v) s)
theorem RA{c:Ct}{v0:List Bool}(h2:V0 (dT c) v0){y:Gr}{v p:List Nat}(h:qd c v0 y v p){k:Nat}(hk:k<v.length)(hv:k<jl c):bS v0 y v[k]=v0.getD (k+1) false:=by
 rw[h.low k hk hv];have e:=N7 c
 have hb:2*(k+1)<(dT c).lits:=by unfold Gr.lits Gr.all;omega
 rw[qQ h.grow h2 hb];unfold bS;simp only[dT,cn];exact CP v0 (k+1)
theorem af3{c:Ct}(hx:eR c)(hn:(aE c).Nodup)(hb:∀i<c.af.length,i∈aS c){state ins:List Bool}(hi:ins.length=c.aq.length)(hs:state.length=c.ah.length){y:Gr}{v:List Nat}(h:qd c (false::(ins++state)) y v (aS c)):D2 c ins state (A4 c (false::(ins++state)) y v):=by
 have hc:=I_ hi hs;have hk:=wa c;have hl:=h.len;refine⟨fun i hv=>?_,fun i hv=>?_,fun i hv=>?_⟩
 ·obtain⟨h1,h2⟩:=aip c hv;unfold A4;rw[<-h2,sN _ _ i hn h1 h.len,RA hc h (by omega) (by simp only[jl];omega)];simp only[bz,oB];rw[cF (by omega)]
 ·obtain⟨h1,h2⟩:=aiw c hv;unfold A4;rw[<-h2,sN _ _ _ hn h1 h.len,RA hc h (by omega) (by simp only[jl];omega)];simp only[bz,oB];rw[dB (by omega),hi,rY]
 ·obtain⟨h1,h2⟩:=DM c hv;have e:=h.eq i (hb i hv) hv (by simp only[jl];omega)
  have e2:A4 c (false::(ins++state)) y v c.af[i].name=bS (false::(ins++state)) y (v[jl c+i]'(by simp only[jl];omega)):=by
   unfold A4;rw[<-h2,sN _ _ _ hn h1 h.len]
  rw[e2,e];unfold sP DJ;rw[hx.af _ (bA hv)];simp only[fy,decide_true,tA,cO,iW];rfl
theorem QF{c:Ct}(h2:∀i<c.af.length,i∈aS c){s:Bs}(hs:s∈aE c):∃k,∃hk:k<(aE c).length,(aE c)[k]=s/\sS c (aS c) k:=by
 obtain⟨k,hk,he⟩:=gb hs;refine⟨k,hk,he,?_⟩;have hl:=wa c
 by_cases h1:k<c.aq.length+c.ah.length
 ·exact .inl h1
 ·exact .inr ⟨k-(c.aq.length+c.ah.length),h2 _ (by omega),by omega⟩
theorem akk{c:Ct}(hc:cH c)(hk:eR c)(hn:(aE c).Nodup)(hb:∀i<c.af.length,i∈aS c){v0:List Bool}{y:Gr}{v:List Nat}(h:qd c v0 y v (aS c)):(cX c y v).Ok:=by
 have ok:=h.grow.ok;have h0:=hk.nz;simp only[gN,lx,jB]at h0
 have hf:(c.ah.map (·.next)).length=c.ah.length:=by simp
 have hl:y.next.length=c.ah.length:=by rw[h.grow.next];simp[dT]
 have q1:y.init.length=c.ah.length:=by rw[h.grow.init];simp[dT]
 have h4:=Aj hn h.len h.inv (l:=c.ah.map (·.next)) (fun s hs=>QF hb (hk.used s (by simp only[fT,a8];exact .inl (.inr hs))));have ih:=Aj hn h.len h.inv (l:=c.az) (fun s hs=>QF hb (hk.used s (by simp only[fT,a8];exact .inl (.inl hs))))
 have h2:(cX c y v).first=y.first:=by simp[Gr.first,cX,qG,hl]
 have hx:(cX c y v).all=y.all:=by unfold Gr.all;rw[h2];rfl
 have hv:(cX c y v).lits=y.lits:=by unfold Gr.lits;rw[hx]
 refine⟨ok.ins,?_,?_,?_,ok.init,fun a ha=>?_,fun a ha=>?_,fun i hi=>?_⟩
 ·have:=ok.sum;simp[cX,qG]at this⊢;omega
 ·simp[cX,qG];omega
 ·simp[cX,qG,q1]
 ·rw[hv];simp only[cX,cd]at ha;obtain⟨n,hj,rfl⟩:=ha;have:=h4 n hj;omega
 ·rw[hv];simp only[cX,cd]at ha;obtain⟨n,hj,rfl⟩:=ha;have:=ih n hj;omega
 ·have:=ok.ands i hi;rw[h2];exact this
theorem Qu{c:Ct}{y:Gr}{v:List Nat}(state ins:List Bool)(ok:(cX c y v).Ok)(h1:y.ins=c.aq.length):(cX c y v).eA state ins=if uJ c ins state=true then 0 else 11:=by
 unfold Gr.eA;rw[Gr.su ok];simp only[ne_eq,not_true_eq_false,dq]
 have e:(cX c y v).fits state ins=uJ c ins state:=by
  unfold Gr.fits uJ;rw[gV];simp only[cX,fy,qG,h1,aB,bj];omega
 rw[e]
theorem H8{c:Ct}(hb:gR c)(ho:j3 c=true){y:Gr}{v:List Nat}(hg:kZ c=(y,some v))(state ins:List Bool):
 (cX c y v).normal.check=0/\(cX c y v).normal.eA state ins=(h_ c ins state).2.2/\(cX c y v).normal.dI state ins=(h_ c ins state).1/\(cX c y v).normal.jb state ins=(h_ c ins state).2.1:=by
 obtain⟨hr,ih,_⟩:=Ap ho;obtain⟨hv,_⟩:=Ac hr;have hc:=sq hb hr
 have hn:(aE c).Nodup:=by
  have:=Ck hv;simpa[aE,fW]using this
 have hx:∀i<c.af.length,i∈aS c:=fun i hi=>by
  refine Ma fun hf=>?_
  have h1:=(ahl (vA hr) (aS c) hi).2 hf
  have h2:oS c=lE (aS c) c.af 0:=by simp[oS,hr]
  rw[<-h2,ih]at h1
  cases h1
 have Fh:=PU hc hv hn (v0:=false::(List.replicate c.aq.length false++List.replicate c.ah.length false)) (I_ (by simp) (by simp)) hg;have hk:=akk hc hv hn hx Fh;have q1:=Gr.su hk;obtain⟨hy,hp,h5⟩:=Nk q1 state ins;have ht:=(B0 q1).2.1;refine⟨ht,?_⟩;rw[hy,hp,h5,Qu state ins hk (by rw[Fh.grow.ins];rfl)];unfold h_ dI Gr.dI Gr.jb;rw[if_pos ho,Qu state ins hk (by rw[Fh.grow.ins];rfl)]
 cases h4:uJ c ins state with
 |false=>simp
 |true=>
  simp only[cE];simp only[uJ,aB,bj]at h4;obtain⟨hi,hs⟩:=h4;have hL:=PU hc hv hn (I_ hi hs) hg;have hV:=af3 hv hn hx hi hs hL;have hj:=ahH hv hx hV (afT hv hx hi hs)
  have e0:∀l:List Bs,(∀s∈l,s∈aE c)->sM ((cX c y v).rF state ins) ((cO ((aE c).zip v) l).map fun n:Nat=>(n:Int))=l.map (eF (jk c ins state)):=by
   intro l hl;unfold sM cO;rw[iW,iW]
   refine nB fun s hs=>?_
   rw[<-hj s (hl s hs)];rfl
  refine⟨trivial,?_,?_⟩
  ·have:=e0 c.az (fun s hs=>IU hv hs);exact this
  ·have:=e0 (c.ah.map (·.next)) (fun s hs=>by
    obtain⟨q,hq,rfl⟩:=cd.1 hs
    exact zU hv hq)
   rw[iW]at this;exact this
def AH:List Gt->Nat
 |[]=>0
 |g::l=>g.rows.length+AH l
def Jo(c:Ct):Bool:=Ae c&&(decide (AH c.af<=40)&&decide (c.af.length<=16))
theorem ago(c:Ct)(hc:c.af.length<2^40)(hr:∀g∈c.af,g.rows.length<2^21)(b:Bool):∀n i:Nat,i+n=c.af.length->∀k:Nat,k<=i*2^21->
 aA ak Γ (yfp (.ptr 0 0) (.bool b) (.int .i64 k) (.int .i64 i) [.cells (AV.cells (bU c))]) (.ret (.bool (b&&(decide (k+AH (c.af.drop i)<=40)&&decide (c.af.length<=16))))):=by
 intro n
 induction n with
 |zero=>
  intro i hi k hk
  have q1:¬i<c.af.length:=by omega
  rw[bx (by omega),AH];have e1:((k:Int)<=40)=(k<=40):=propext (by omega);have e2:((c.af.length:Int)<=16)=(c.af.length<=16):=propext (by omega);refine .go 60 ?_
  cases b
  ·simp[q1];exact .back (by simp)
  ·by_cases h:k<=40
   ·simp[q1,e1,e2,h];exact .back (by simp[h])
   ·simp[q1,e1,e2,h];exact .back (by simp[h])
 |succ n ih=>
  intro i hi k hk
  have q1:i<c.af.length:=by omega
  have q2:=bG (c.hG.of q1);have h2:=hr _ (bA q1);have hh:=ih (i+1) (by omega) (k+c.af[i].rows.length) (by omega);rw[bJ q1,AH,<-lu];refine .go 60 ?_;simp(disch:=omega) [q1,q2];refine .aI ?_;simp at hh⊢;exact hh
theorem ahw(c:Ct)(hc:c.af.length<2^40)(hr:∀g∈c.af,g.rows.length<2^21):aQ ak Γ Cd [bU c] (.bool (Jo c)):=by
 have hL:=agB (Γ:=Γ) c;have hf:=ago (Γ:=Γ) c hc hr (Ae c) c.af.length 0 (by omega) 0 (by omega);unfold Jo;generalize Ae c=b at*;refine .run 60 acP.1 (by simp) ?_;simp;refine .call 60 (by simp) hL ?_;simp;refine .inLoop ?_;simp at hf⊢;exact hf
def Xc(c:Ct):Prop:=gR c/\∀g∈c.af,g.rows.length<2^21
theorem Md.amd{c:Ct}(hb:gR c):uY (cv c).1:=by
 unfold cv
 split
 ·rename_i h0
  split
  ·exact⟨Rf,by simp[lj],by simp[lj],by simp[lj]⟩
  ·rename_i v hv
   have ho:j3 c=true:=by simp[j3,h0]
   obtain⟨hr,_,_⟩:=Ap ho;have hc:=sq hb hr;have hS:=(H8 hb ho (y:=(kZ c).1) (v:=v) (by rw[<-hv]) [] []).1;exact⟨(Gr.rk hS).iU,by have:=hc.1;simp[oT];omega,by have:=hc.2.2.1;simp[oT];omega,by have:=hc.2.1;simp[oT];omega⟩
 ·exact⟨Rf,by simp[lj],by simp[lj],by simp[lj]⟩
theorem agC{c:Ct}(h:(cv c).2.1=0):j3 c=true/\∃v,(kZ c).2=some v/\cv c=(oT c (kZ c).1 v,0,[]):=by
 unfold cv at h⊢
 by_cases h0:(mW c).1=0
 ·rw[if_pos h0]at h⊢
  cases hv:(kZ c).2 with
  |none=>rw[hv]at h;cases h
  |some v=>exact⟨by simp[j3,h0],v,rfl,rfl⟩
 ·rw[if_neg h0]at h;exact absurd h h0
theorem aeU(c:Ct)(ins state:List Bool):(h_ c ins state).1.length<=c.az.length/\(h_ c ins state).2.1.length<=c.ah.length:=by
 unfold h_ dI
 split
 ·split
  ·simp[AK,gB,AF]
  ·simp
 ·simp
def Can{α:Type}(k:Nat)(x:Gr)(r:Gr×Option α):Prop:=∃a,r.2=some a/\r.1.ands.length<=x.ands.length+k
theorem Can.map{α β:Type}{k:Nat}{x:Gr}{r:Gr×Option α}(h:Can k x r)(f:α->β):Can k x (eY f r):=by
 obtain⟨a,h1,h2⟩:=h;exact⟨f a,by simp[eY,h1],h2⟩
theorem Can.then{α β:Type}{k m:Nat}{x:Gr}{r:Gr×Option α}{f:Gr->α->Gr×Option β}(h:Can k x r)(hf:∀a,r.2=some a->r.1.ands.length<=x.ands.length+k->Can m r.1 (f r.1 a)):Can (k+m) x (gn r f):=by
 obtain⟨a,h1,h2⟩:=h;obtain⟨y,o⟩:=r;simp only at h1 h2 hf;subst h1;obtain⟨b,h3,h4⟩:=hf a rfl h2;exact⟨b,h3,by simp only[gn];omega⟩
theorem Can.more{α:Type}{k m:Nat}{x:Gr}{r:Gr×Option α}(h:Can k x r)(hk:k<=m):Can m x r:=by
 obtain⟨a,h1,h2⟩:=h;exact⟨a,h1,by omega⟩
theorem PV(first:Nat):∀(ps l:List (Int×Int))(to:List Nat),∃e,(fQ first ps l to).2=to++e
 |[],l,to=>⟨[],by simp[fQ]⟩
 |p::ps,l,to=>by
  rw[fQ]
  obtain⟨e,he⟩:=PV first ps (bR first l (bt to p.1.toNat) (bt to p.2.toNat)).1 (to++[(bR first l (bt to p.1.toNat) (bt to p.2.toNat)).2])
  exact⟨_::e,by rw[he,cR];rfl⟩
theorem Il(first:Nat)(bg:List Bool):∀(ps:List (Int×Int))(i:Nat)(l:List (Int×Int))(to:List Nat),∃e,(dU first bg ps i l to).2=to++e
 |[],i,l,to=>⟨[],by simp[dU]⟩
 |p::ps,i,l,to=>by
  rw[dU]
  split
  ·obtain⟨e,he⟩:=Il first bg ps (i+1) (bR first l (bt to p.1.toNat) (bt to p.2.toNat)).1 (to++[(bR first l (bt to p.1.toNat) (bt to p.2.toNat)).2])
   exact⟨_::e,by rw[he,cR];rfl⟩
  ·obtain⟨e,he⟩:=Il first bg ps (i+1) l (to++[0])
   exact⟨_::e,by rw[he,cR];rfl⟩
theorem OU{first k:Nat}(h:k<first)(e:List Nat):bt (ids first++e) (2*k)=2*k:=by
 unfold bt;rw[show 2*k/2=k by omega,show 2*k%2=0 by omega,bz,cF (by simpa using h),aW (by simpa using h)];simp[ids]
theorem aco{g:Gr}(h:g.check=0):∃F:Nat->Nat,(∀k<g.first,F (2*k)=2*k)/\g.normal.outs=g.outs.map (fun a=>(F a.toNat:Int))/\g.normal.next=g.next.map (fun a=>(F a.toNat:Int))/\g.normal.init=g.init/\g.normal.ins=g.ins:=by
 have e:g.normal=g.dD.dm:=by unfold Gr.normal;rw[if_pos h]
 obtain⟨e1,h1⟩:=PV g.first g.ands [] (ids g.first)
 obtain⟨e2,h2⟩:=Il g.dD.first g.dD.bg g.dD.ands 0 [] (ids g.dD.first)
 have hf:g.dD.first=g.first:=vM _ _
 refine⟨fun a=>bt (dU g.dD.first g.dD.bg g.dD.ands 0 [] (ids g.dD.first)).2 (bt (fQ g.first g.ands [] (ids g.first)).2 a),fun k hk=>?_,?_,?_,?_,?_⟩
 ·simp only;rw[h1,h2,OU hk,hf,OU hk]
 ·rw[e];simp[Gr.dm,Gr.dz,eD,Gr.dD]
 ·rw[e];simp[Gr.dm,Gr.dz,eD,Gr.dD]
 ·rw[e];rfl
 ·rw[e];rfl
theorem Qw(s:Bs):∀(l:List Bs)(i:Nat),0<=iO s l i->∃k,∃hk:k<l.length,l[k]=s/\iO s l i=((i+k:Nat):Int)
 |[],i,h=>by simp[iO]at h
 |a::l,i,h=>by
  rw[iO]at h⊢
  split
  ·rename_i h1;exact⟨0,by simp,by simp[h1],by simp⟩
  ·rename_i h1;rw[if_neg h1]at h;obtain⟨k,hk,e1,e2⟩:=Qw s l (i+1) h;exact⟨k+1,by simp;omega,by simpa using e1,by rw[e2];congr 1;omega⟩
structure kx(m:Md):Prop where
 g:m.g.check=0
 lI:(m.aq.length:Int)=m.g.ins
 lL:m.ah.length=m.g.next.length
 lO:m.az.length=m.g.outs.length
 names:∀s∈m.aq++m.ah++m.az,gC s=true
 nd:(m.aq++m.ah).Nodup
 Lo:m.az.Nodup
 out:∀i(h:i<m.az.length)(h2:i<m.g.outs.length),0<=eM m m.az[i]->m.g.outs[i]=2*eM m m.az[i]
theorem PE(m:Md):∀(l:List Bs)(r:List Int),uP m l r=false->∀i(h:i<l.length)(h2:i<r.length),0<=eM m l[i]->r[i]=2*eM m l[i]
 |[],r,_,i,h,_=>by simp at h
 |s::l,[],_,i,_,h=>by simp at h
 |s::l,a::r,h,i,h1,h2=>by
  rw[uP]at h;simp only[lx,Bool.and_eq_false_iff,jB,Fw,bj]at h
  cases i with
  |zero=>
   intro h3
   rcases h.1 with h|h
   ·exact absurd h3 h
   ·exact h
  |succ i=>exact PE m l r h.2 i (by simpa using h1) (by simpa using h2)
theorem SE{l:List Bs}(h:tn l=false):l.Nodup:=by
 unfold tn jF at h;exact(Gv l [] (by simpa using h)).1
theorem O'{m:Md}(h:kh m=0):kx m:=by
 unfold kh at h
 split at h
 ·rename_i h1;exact absurd h h1
 ·rename_i h1
  split at h
  ·cases h
  ·rename_i h2
   split at h
   ·cases h
   ·rename_i h3
    split at h
    ·cases h
    ·rename_i h4
     split at h
     ·cases h
     ·rename_i h5;simp only[pX,JO,fL,not_or,j4,jB,Fo,Bool.not_eq_true]at h1 h2 h3 h4 h5;refine⟨h1,h2.1,h2.2.1,h2.2.2,fun s hs=>?_,SE h4.1,SE h4.2,PE m _ _ h5⟩;simp only[a8]at hs
      rcases hs with(hs|hs)|hs
      ·simpa using kK.1 h3.1 s hs
      ·simpa using kK.1 h3.2.1 s hs
      ·simpa using kK.1 h3.2.2 s hs
theorem NW(m:Md)(s:Bs):eM (bI m) s=eM m s:=rfl
theorem kx.first{m:Md}(h:kx m):m.g.first=1+(m.aq++m.ah).length:=by
 have h1:=h.lI;have h2:=h.lL
 unfold Gr.first
 simp only[bC];omega
theorem kx.norm{m:Md}(h:kx m):kx (bI m)/\(bI m).g.strict=true:=by
 obtain⟨F,f1,f2,f3,f4,f5⟩:=aco h.g;obtain⟨s1,s2,_⟩:=B0 h.g;refine⟨⟨s2,(show(m.aq.length:Int)=m.g.normal.ins by rw[h.lI];exact f5.symm),?_,?_,h.names,h.nd,h.Lo,fun i h1 h2 h3=>?_⟩,s1⟩
 ·show m.ah.length=m.g.normal.next.length
  rw[f3];simp[h.lL]
 ·show m.az.length=m.g.normal.outs.length
  rw[f2];simp[h.lO]
 ·have h4:i<m.g.outs.length:=by rw[<-h.lO];exact h1
  have e:=h.out i h1 h4 h3
  have e2:(bI m).g.outs[i]=(F (m.g.outs[i]).toNat:Int):=by
   show m.g.normal.outs[i]'h2=_
   have:m.g.normal.outs[i]? =some (F (m.g.outs[i]).toNat:Int):=by rw[f2,jP,aW h4];rfl
   exact(cV.1 this).2
  rw[e2,NW];rw[NW]at h3;obtain⟨p1,p2⟩:=Ni m m.az[i];obtain⟨k,hk⟩:=gW (show 0<=eM m m.az[i]from h3)
  have e3:(m.g.outs[i]).toNat=2*k:=by rw[e,hk];omega
  have hf:=h.first
  simp only[bC]at hf;have hv:eM m m.az[i]=(k:Int):=hk;rw[e3,f1 k (by omega),show(bI m).az[i]=m.az[i]from rfl,hv];omega
theorem adH{m:Md}{s:Bs}:eM m s<0↔s∉m.aq++m.ah:=by
 unfold eM;have h:=Ds s (m.aq++m.ah) 0;have h2:=IC s (m.aq++m.ah) 0;constructor
 ·intro h1 hm
  split at h1
  ·rename_i h3;rw[Fv.2 hm,bj]at h2;omega
  ·omega
 ·intro hm
  have:(m.aq++m.ah).contains s=false:=by simpa using hm
  rw[this,jB]at h2;rw[if_pos (by omega)];omega
theorem ac2{m:Md}{s:Bs}(h:0<=eM m s):∃k,∃hk:k<(m.aq++m.ah).length,(m.aq++m.ah)[k]=s/\eM m s=k+1:=by
 unfold eM at h⊢
 split at h
 ·omega
 ·rename_i h1;obtain⟨k,hk,e1,e2⟩:=Qw s (m.aq++m.ah) 0 (by omega);exact⟨k,hk,e1,by rw[if_neg h1,e2];omega⟩
end Go.Proofs.YtchjijfjidlpjaaGreatDoor
