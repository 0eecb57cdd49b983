/- Graphs: Normal does what the graph does. No program in sight. -/
import Derived.Test.YtchjijfjidlpjaaGreatDoorJ
import Derived.Test.YtchjijfjidlpjaaGreatDoorH
import Derived.Test.YtchjijfjidlpjaaGreatDoorF
import Derived.Test.YtchjijfjidlpjaaGreatDoorCode
import Derived.Test.YtchjijfjidlpjaaGreatDoorAMd
import Derived.Test.YtchjijfjidlpjaaGreatDoorI
import Derived.Test.YtchjijfjidlpjaaGreatDoorG
set_option linter.unusedSimpArgs false
set_option linter.unusedVariables false
namespace Go.Proofs.YtchjijfjidlpjaaGreatDoor
open Go.AM Go.Proofs
theorem uT(w:List Bool)(to:List Nat)(a:Nat):bB w (bg to a)=(bB w (to.getD (a/2) 0) !=decide (a%2=1)):=by
 unfold bg
 rcases(show a%2=0\/a%2=1 by omega)with h2|h2
 ·rw[h2,wu];simp
 ·rw[h2,Bo];simp
theorem A4(v:List Bool)(n:Nat):bB v (2*n)=v.getD n false:=by
 unfold bB
 rw[show 2*n/2=n by omega,show 2*n%2=0 by omega];simp
theorem X8{v:List Bool}{c:Bool}{n:Nat}(h:n<v.length):(v++[c]).getD n false=v.getD n false:=by
 rw[bj,bj,cz h]
theorem YQ{v:List Bool}{c:Bool}{n:Nat}(h:n=v.length):(v++[c]).getD n false=c:=by
 subst h
 rw[bj];simp
theorem MF{first:Nat}{v0:List Bool}(hv:v0.length=first)(hz:bB v0 0=false)(h1:1<=first):∀(ps l:List (Int×Int))(to:List Nat)(V:List Bool),pg first l->nf first l to->V.length=to.length->
 (∀n,n<to.length->bB (bI l v0) (to.getD n 0)=V.getD n false)->(∀i(h:i<ps.length),ps[i].1.toNat/2<to.length+i/\ps[i].2.toNat/2<to.length+i)->
 ∀n,n<to.length+ps.length->bB (bI (eY first ps l to).1 v0) ((eY first ps l to).2.getD n 0)=(bI ps V).getD n false
 |[],l,to,V,_,_,hl,hh,_=>hh
 |p::ps,l,to,V,hw,ht,hl,hh,hp=>by
  have h0:=hp 0 (by simp);simp only[DH,gM]at h0;have ha:=nT ht.lt h0.1;have hb:=nT ht.lt h0.2;obtain⟨hlt,hge⟩:=u6 ha hb h1;have hval:=N6 hv hz h1 hw ha hb
  have b1:bB (bI l v0) (bg to p.1.toNat)=bB V p.1.toNat:=by rw[uT,hh _ h0.1];rfl
  have b2:bB (bI l v0) (bg to p.2.toNat)=bB V p.2.toNat:=by rw[uT,hh _ h0.2];rfl
  rw[b1,b2]at hval;intro n hn;rw[eY,bI]
  refine MF hv hz h1 ps _ _ _ (hw.and ha hb) ⟨fun z hz=>by
   rcases aN.1 hz with hz|hz
   ·have:=ht.lt z hz;omega
   ·simp at hz;omega⟩ (by simp[hl]) (fun n hn=>?_) (fun i hi=>by
   have:=hp (i+1) (by simpa using hi);simp only[tG]at this
   simp;omega) n (by rw[bz]at hn;simp;omega)
  by_cases hn2:n<to.length
  ·rw[my hn2,X8 (by omega),<-hh n hn2];refine abS hv ?_;refine ht.lt _ ?_;rw[bj,aM hn2];exact bF hn2
  ·have e:n=to.length:=by simp at hn;omega
   rw[Bu e,YQ (by omega),hval]
theorem acd{x:Gr}(ok:x.Ok)(s:ga x.first x.ands){v0:List Bool}(hv:v0.length=x.first):∀N n,n<N->n<x.first+x.ands.length->Live x.first x.aS n->
 bB (bI x.cP.ands v0) ((dx x.first x.aS x.ands 0 [] (ids x.first)).2.getD n 0)=(bI x.ands v0).getD n false:=by
 have I:=Gr.QP ok s;have rE:=(BV ok).1;have w2:=rE.ands;rw[show x.cP.first=x.first from uC _ _]at w2;intro N
 induction N with
 |zero=>intro n hn;omega
 |succ N ih=>
  intro n hn hn2 hl
  by_cases h1:n<x.first
  ·rw[I.low n h1,uy _ (by omega),A4];obtain⟨e,he⟩:=Fb x.ands v0;rw[he,bj,bj,cz (by omega)]
  ·rcases hl with h2|h2
   ·omega
   ·have hk:n-x.first<x.ands.length:=by omega
    have en:x.first+(n-x.first)=n:=by omega
    obtain⟨j,hj,e1,e2⟩:=I.at_ (n-x.first) hk hk (by rw[en];exact h2);rw[en]at e1;have hj2:j<x.cP.ands.length:=hj
    have e3:x.cP.ands[j]=lp (dx x.first x.aS x.ands 0 [] (ids x.first)).2 x.ands[n-x.first]:=by
     have:x.cP.ands[j]? =some (lp (dx x.first x.aS x.ands 0 [] (ids x.first)).2 x.ands[n-x.first]):=e2;rw[aM hj2]at this;exact Option.some.inj this
    have hw:=w2 j hj2;have hx:=ok.ands (n-x.first) hk;obtain⟨c1,c2⟩:=A3 ok hk (by rw[en];exact h2);have va:=Fu (v:=v0) hj2 (by omega) (by omega);have vb:=Fu (v:=v0) hk (by omega) (by omega);rw[hv]at va vb;rw[e1,va,e3];simp only[lp,dt];rw[uT,uT,ih _ (by omega) (by omega) (.inr c1),ih _ (by omega) (by omega) (.inr c2)];rw[en,A4]at vb;rw[vb];rfl
theorem Ou{g:Gr}{r:List (Int×Int)×List Nat}(ok:g.Ok)(rE:(g.cY r).Ok){state ins:List Bool}
 (h:g.dw state ins=0->∀a∈g.next++g.outs,bB (bI r.1 (false::(ins++state))) (bg r.2 a.toNat)=bB (g.jB state ins) a.toNat):
 (g.cY r).dw state ins=g.dw state ins/\(g.cY r).cK state ins=g.cK state ins/\(g.cY r).eC state ins=g.eC state ins:=by
 have hE:(g.cY r).dw state ins=g.dw state ins:=by
  unfold Gr.dw;rw[Gr.qV ok,Gr.qV rE]
  have h1:(g.cY r).next.length=g.next.length:=by simp[Gr.cY]
  have:(g.cY r).fits state ins=g.fits state ins:=by unfold Gr.fits;rw[h1];rfl
  rw[this]
 refine⟨hE,?_,?_⟩
 ·unfold Gr.cK;rw[hE]
  split
  ·rename_i h0;have hh:=h h0;unfold jS Gr.cY dX Gr.jB;simp only[jH]
   refine mq fun a ha=>?_
   exact hh a (wm _ ha)
  ·rfl
 ·unfold Gr.eC;rw[hE]
  split
  ·rename_i h0;have hh:=h h0;unfold jS Gr.cY dX Gr.jB;simp only[jH]
   refine mq fun a ha=>?_
   exact hh a (iU _ ha)
  ·rfl
theorem PG{g:Gr}{state ins:List Bool}(h:g.dw state ins=0):(false::(ins++state)).length=g.first:=by
 obtain⟨ok,d1,d2⟩:=Gr.QN h;have:=ok.ins
 simp[Gr.first];omega
theorem P4{g:Gr}(ok:g.Ok){a:Int}(h:a∈g.next++g.outs):a.toNat/2<g.first+g.ands.length:=by
 have hl:g.lits=2*(g.first+g.ands.length):=rfl
 rcases aN.1 h with h|h
 ·have:=ok.next a h;omega
 ·have:=ok.outs a h;omega
theorem aaq{g:Gr}(ok:g.Ok)(state ins:List Bool):g.da.dw state ins=g.dw state ins/\g.da.cK state ins=g.cK state ins/\g.da.eC state ins=g.eC state ins:=by
 refine Ou ok (BO ok).1 (fun hE a ha=>?_);have hv:=PG hE
 have hi:∀n,n<g.first->(ids g.first).getD n 0=2*n:=fun n hn=>by
  rw[bj,aM (by simpa using hn)];simp[ids]
 have:=MF hv (by simp[bB]) (by unfold Gr.first;omega) g.ands [] (ids g.first) (false::(ins++state)) (fun i hi=>by simp at hi) (Ci _) (by rw[hv];simp)
  (fun n hn=>by rw[OS]at hn;rw[hi n hn,bI,A4]) (Gd ok) (a.toNat/2) (by rw[OS];exact P4 ok ha)
 rw[uT,this];rfl
theorem Y6{g:Gr}(ok:g.Ok)(s:ga g.first g.ands)(state ins:List Bool):g.cP.dw state ins=g.dw state ins/\g.cP.cK state ins=g.cK state ins/\g.cP.eC state ins=g.eC state ins:=by
 refine Ou ok (BV ok).1 (fun hE a ha=>?_);have:=acd ok s (PG hE) (a.toNat/2+1) (a.toNat/2) (by omega) (P4 ok ha) (.inr (FJ ok ha));rw[uT];have e:g.cP.ands=(dx g.first g.aS g.ands 0 [] (ids g.first)).1:=rfl;rw[e]at this;rw[this];rfl
theorem KI{g:Gr}(h:g.check=0)(state ins:List Bool):g.normal.dw state ins=g.dw state ins/\g.normal.cK state ins=g.cK state ins/\g.normal.eC state ins=g.eC state ins:=by
 have ok:=Gr.qk h;obtain⟨o1,s1,l1⟩:=BO ok
 have e:g.normal=g.da.cP:=by unfold Gr.normal;rw[if_pos h]
 rw[e]
 have hf:g.da.first=g.first:=uC _ _
 obtain⟨a1,a2,a3⟩:=Y6 o1 (by rw[hf];exact s1) state ins;obtain⟨b1,b2,b3⟩:=aaq ok state ins;exact⟨a1.trans b1,a2.trans b2,a3.trans b3⟩
end Go.Proofs.YtchjijfjidlpjaaGreatDoor
namespace Go.Proofs.YtchjijfjidlpjaaGreatDoor
open Go.AM Go.Proofs
variable{Γ:Nat->Option AV}
theorem MO(ins:List Bool):∀(s:Bs)(i:Nat),s.all mZ=true->s.length=(ins.drop i).length->(bQ s i).all (fun x=>qp ins (gC x).lit)=mU s (ins.drop i)
 |[],i,_,_=>by simp[bQ,mU]
 |c::s,i,hg,hl=>by
  have hi:i<ins.length:=by
   refine z7 fun hn=>?_
   rw[bT (by omega)]at hl;simp at hl
  rw[bZ hi]at hl⊢;rw[rP,ay]at hg;have ih:=MO ins s (i+1) hg.2 (by simp at hl⊢;omega);rw[mU,<-ih,bQ]
  by_cases a:c=45
  ·rw[if_pos a];simp[a]
  ·rw[if_neg a,rP];congr 1;have hc:=hg.1;simp only[mZ,fv,aW]at hc
   rcases hc with b|b|b
   ·subst b
    have e1:((2*(i:Int)+1)/2).toNat=i:=by omega
    have e2:(2*(i:Int)+1)%2=1:=by omega
    simp[gC,qp,e1,e2,bj,aM hi]
   ·subst b
    have e1:((2*(i:Int))/2).toNat=i:=by omega
    have e2:¬(2*(i:Int))%2=1:=by omega
    simp[gC,qp,e1,e2,bj,aM hi]
   ·exact absurd b a
theorem Qk{h os:List Ob}{a b c d:Ob}:(h++a::b::c::d::os)[h.length+3]? =some d:=by simp
abbrev vO(h:List Ob)(m:List (Bs×Bool))(nx:List Bool):List Ob:=h++[.row 1 aY [] none true false,.row 1 aY [] none true false,gH m,.row 1 aY (nx.map .bool) none true false]
set_option maxRecDepth 8000 in
theorem ae8(c:Ct)(hc:cB c)(m:List (Bs×Bool)){j:Nat}{h:List Ob}(hjl:j<h.length)(hw:cL h)(hv:gp h)(up:List Fr):∀n i:Nat,i+n=c.ah.length->
 AM.Reach Tryz.prog Γ (ylE (.ptr j 0) (.mp (h.length+2)) (.sl (h.length+3) 0 i) (.list false c.kL (c.ah.map qF)) (.int .i64 c.ah.length) (.int .i64 i) (vO h m ((c.ah.take i).map fun q=>d_ m q.next)) ⟨[],.norm,h.length,up⟩)
  (ylF (.ptr j 0) (.mp (h.length+2)) (.sl (h.length+3) 0 c.ah.length) (vO h m (c.ah.map fun q=>d_ m q.next)) ⟨[],.norm,h.length,up⟩):=by
 have b2:=hc.2.2.1
 have hvv:=fun m=>hv (h.length+3) m (by omega)
 have hbb:=hw (h.length+4) (by omega)
 have hj4:j<h.length+4:=by omega
 have hbm:=BW (h.length+4) m
 have hvm:=fun k=>OY (h.length+3) k m
 intro n
 induction n with
 |zero=>
  intro i hi
  have q1:¬i<c.ah.length:=by omega
  have he:i=c.ah.length:=by omega
  subst he;rw[cJ (by omega)];refine .ey 60 ?_;simp[q1];exact .exit rfl rfl
 |succ n ih=>
  intro i hi
  have q1:i<c.ah.length:=by omega
  have q2:=bU (c.hL.of q1);have hh:=ih (i+1) (by omega)
  have e1:((c.ah.take (i+1)).map fun q=>d_ m q.next)=((c.ah.take i).map fun q=>d_ m q.next)++[d_ m c.ah[i].next]:=by
   rw[ke q1,jK];rfl
  have hlen:((c.ah.take i).map fun q=>d_ m q.next).length=i:=by simp;omega
  rw[e1]at hh;have hf:=O2 c.ah[i].next m;have hlk:d_ m c.ah[i].next=(match getM c.ah[i].next m with|some v=>v|none=>false):=rfl
  have hle:((i:Int)+1)<=140737488355328:=by omega
  generalize((c.ah.take i).map fun q=>d_ m q.next)=P at*;generalize(c.ah.map fun q=>d_ m q.next)=P2 at*;refine .ey 60 ?_
  cases hg:getM c.ah[i].next m with
  |none=>
   rw[hg]at hf hlk;simp at hf hlk;rw[hlk]at hh;simp(disch:=omega) [q1,q2,gH,hf,isKey,bM,cj,hle,hlen];refine .aR ?_;simp;refine .vf (h.length+4) (by simp;rfl) (by simp) (by simp[hj4]) (by simp[hbb,hbm]) ?_;refine .oK (i:=h.length+3) Qk (by simp) (by simp[hlen]) (by simp[hvv,hvm]) ?_;simp[vO,gH]at hh⊢;exact hh
  |some v=>
   rw[hg]at hf hlk;simp at hf hlk;rw[hlk]at hh;simp(disch:=omega) [q1,q2,gH,hf,isKey,bM,cj,hle,hlen];refine .aR ?_;simp;refine .vf (h.length+4) (by simp;rfl) (by simp) (by simp[hj4]) (by simp[hbb,hbm]) ?_;refine .oK (i:=h.length+3) Qk (by simp) (by simp[hlen]) (by simp[hvv,hvm]) ?_;simp[vO,gH]at hh⊢;exact hh
def sS(c:Ct)(ins state:List Bool):Bool:=decide (ins.length=c.an.length)&&decide (state.length=c.ah.length)
def cK(c:Ct)(ins state:List Bool):List Bool×List Bool×Int:=if sS c ins state=true then(Cw c ins state,Cu c ins state,0)else([],[],11)
set_option maxRecDepth 8000 in
theorem ado(hΓ:eG Γ)(c:Ct)(hc:cB c)(ok:ew c)(ins state:List Bool)(hi2:ins.length<2^40)(hs2:state.length<2^40){fi fs:Bool}{ki ks:Nat}(hki:Kd 1 ki ins)(hks:Kd 1 ks state){j:Nat}{h:List Ob}(hj:h[j]? =some (iP c (aD c) (aV c)))(hw:cL h)(hv:gp h):
 ∀up,AM.Reach Tryz.prog Γ (.cl tK [.ptr j 0,.list fs ks (state.map .bool),.list fi ki (ins.map .bool)] up h) (.back up (.aE [.sl h.length 0 (cK c ins state).1.length,.sl (h.length+1) 0 (cK c ins state).2.1.length,.int .i64 (cK c ins state).2.2]) (h++[qe (cK c ins state).1,qe (cK c ins state).2.1])):=by
 intro up;have hjl:j<h.length:=(dd.1 hj).1
 have hget:=fun os=>gR hj os
 have hbb:=hw h.length (aO _);unfold cK sS
 by_cases hl:ins.length=c.an.length/\state.length=c.ah.length
 ·have hV:=aen hΓ c hc ok ins state hl.1 hl.2 (fi:=fi) (fs:=fs) hki hks (j:=j) (h:=h++[.row 1 aY [] none true false,.row 1 aY [] none true false]) (hget _) (by
   intro n hn;simp at hn
   simp[hw n (by omega)]) (by
   intro n k hn;simp at hn
   simp[hv n k (by omega)])
  simp at hV;have h1:=ae8 (Γ:=Γ) c hc (gZ c ins state) hjl hw hv up c.ah.length 0 (by omega)
  have hP:=Qa (Γ:=Γ) (gZ c ins state) c.aq (fl:=false) c.hO (by have:=hc.2.1;omega) (j:=h.length+2) (h:=vO h (gZ c ins state) (c.ah.map fun q=>d_ (gZ c ins state) q.next)) (by simp) (by
   intro n hn;simp at hn
   simp[hw n (by omega),gH]) (by
   intro n k hn;simp at hn
   simp[hv n k (by omega),gH])
  unfold iP at hget
  have hol:(Cw c ins state).length=c.aq.length:=by simp[Cw,f_]
  have hnl:=Y8 c ins state;rw[if_pos (by simp[hl.1,hl.2])];unfold Cw Cu at*;simp only at hol hnl⊢;generalize f_ (gZ c ins state) c.aq=PO at*;generalize(c.ah.map fun q=>d_ (gZ c ins state) q.next)=PN at*;generalize gZ c ins state=m at*;simp at h1 hP;refine .bJ 60 J8 ?_;simp;refine .bA 60 hV ?_;simp[hget,gH];refine .inLoop ?_;simp[vO,gH,qe]at h1 hP⊢;refine .trans h1 ?_;refine .bw 60 ?_;simp[hget];refine .bA 4 hP ?_;simp;refine .trans (.n9 [9,11,42,48,49] _) ?_;simp[oa];have hlt3:(h.length+3<h.length)=False:=kc (by omega);have hlt4:(h.length+4<h.length)=False:=kc (by omega);refine .l0 h.length [4,3] (by simp[mD hbb,hjl]) (by decide) ?_;simp[mE hbb,hjl,hlt3,hlt4];refine .bw 60 ?_;simp[hol,hnl]
 ·have hV:=adD (Γ:=Γ) c hc (aD c) (aV c) ins state (fi:=fi) (fs:=fs) (ki:=ki) (ks:=ks) hi2 hs2 hl (j:=j) (h:=h++[.row 1 aY [] none true false,.row 1 aY [] none true false]) (hget _);rw[if_neg (by simpa using hl)];refine .bJ 60 J8 ?_;simp;refine .bA 12 hV ?_;simp;refine .bw 6 ?_;simp;have hlt3:(h.length+3<h.length)=False:=kc (by omega);have hlt2:(h.length+2<h.length)=False:=kc (by omega);refine .l0 h.length [2,3] (by simp[mD hbb,hjl]) (by decide) ?_;simp[mE hbb,hjl,hlt3,hlt2];refine .bw 60 ?_;simp[qe]
def ql(c:Ct)(ins state:List Bool):List Bool×List Bool×Int:=if nw c=true then cK c ins state else([],[],1)
set_option maxRecDepth 8000 in
theorem XE(hΓ:eG Γ)(c:Ct)(hb:jF c)(ins state:List Bool)(hi2:ins.length<2^40)(hs2:state.length<2^40){ki ks:Nat}(hki:Kd 1 ki ins)(hks:Kd 1 ks state):
 aP Tryz.prog Γ AK [bW c,.list false ks (state.map .bool),.list false ki (ins.map .bool)] (.aE [.own 1 aY ((ql c ins state).1.map .bool),.own 1 aY ((ql c ins state).2.1.map .bool),.int .i64 (ql c ins state).2.2]):=by
 unfold ql
 cases ho:nw c with
 |false=>
  have hB:=aaB hΓ c hb ho (h:=[.cells (AV.cells (bW c)),.row 1 aY [] none true false,.row 1 aY [] none true false]);simp at hB;refine .run 60 KM (by simp) ?_;simp;refine .bA 60 hB ?_;simp;exact .back (by simp)
 |true=>
  obtain⟨hr,_,_⟩:=BM ho;obtain⟨ok,_⟩:=Bl hr;have hc:=uB hb hr;have hB:=ach hΓ c hb ho (h:=[.cells (AV.cells (bW c)),.row 1 aY [] none true false,.row 1 aY [] none true false]) (by intro n hn;simp) (by intro n k hn;simp);have hM:=ado hΓ c hc ok ins state hi2 hs2 (fi:=false) (fs:=false) hki hks (j:=3) (h:=[.cells (AV.cells (bW c)),.row 1 aY [] none true false,.row 1 aY [] none true false,iP c (aD c) (aV c)]) rfl (by intro n hn;simp[iP]) (by intro n k hn;simp at hn;simp[iP]);generalize cK c ins state=R at*;obtain⟨o,nx,e⟩:=R;simp at hB hM;refine .run 60 KM (by simp) ?_;simp;refine .bA 60 hB ?_;simp;refine .bA 60 hM ?_;simp[qe];exact .back (by simp)
@[simp] theorem avp(n:Nat)(c:Ct)(N:List Bs)(l:List Nat):hY n (iP c N l)=true:=by simp[iP]
@[simp] theorem avo(n m:Nat)(c:Ct)(N:List Bs)(l:List Nat):l_ n m (iP c N l)=true:=by simp[iP]
end Go.Proofs.YtchjijfjidlpjaaGreatDoor
namespace Go.Proofs.YtchjijfjidlpjaaGreatDoor
open Go.AM Go.Proofs
def bG(v0:List Bool)(x:Gr)(a:Nat):Bool:=bB (bI x.ands v0) a
structure V0(x:Gr)(v0:List Bool):Prop where
 len:v0.length=x.first
 zero:bB v0 0=false
theorem V0.grow{x y:Gr}{v0:List Bool}(h:V0 x v0)(g:gb x y):V0 y v0:=⟨by rw[g.first];exact h.len,h.zero⟩
theorem pM{x y:Gr}(g:gb x y){v0:List Bool}(hv:V0 x v0){c:Nat}(hc:c<x.lits):bG v0 y c=bG v0 x c:=by
 obtain⟨e,he⟩:=g.ands;unfold bG;rw[he,t_];refine uy e ?_;rw[sv,hv.len];unfold Gr.lits Gr.all at hc;omega
theorem mB{v0:List Bool}{x:Gr}{a:Nat}:bG v0 x (a^^^1)=!bG v0 x a:=Bo
theorem Mb{v0:List Bool}{x:Gr}{a t:Nat}(ht:t<=1):bG v0 x (a^^^t)=(bG v0 x a !=decide (t=1)):=by
 obtain rfl|rfl:t=0\/t=1:=by omega
 ·simp
 ·rw[mB];simp
theorem E5{v0:List Bool}{x:Gr}(hv:V0 x v0):bG v0 x 0=false:=by
 unfold bG;rw[uy _ (by rw[hv.len];unfold Gr.first;omega),hv.zero]
theorem BE{x y:Gr}{v0:List Bool}(ok:x.Ok)(hv:V0 x v0){p q d:Nat}(h:h_ x p q=(y,some d)):bG v0 y d=(bG v0 x p&&bG v0 x q):=by
 obtain⟨he,rfl,rfl⟩:=aae h;have a:=Qi he
 have hf1:1<=x.first:=by unfold Gr.first;omega
 have h1:=a.a1;have h2:=a.b1;simp only[Gr.lits,Gr.all]at h1 h2;unfold bG;rw[a.R,a.C];have:=N6 (first:=x.first) (l:=x.ands) hv.len hv.zero hf1 (fun i hi=>ok.ands i hi) (a:=p) (b:=q) (by omega) (by omega);simpa using this
theorem Ma{turn:Nat}(ht:turn<=1){v0:List Bool}:∀(l:List Nat)(x y:Gr)(c d:Nat),x.Ok->V0 x v0->c<x.lits->(∀a∈l,a<x.lits)->mS turn x c l=(y,some d)->bG v0 y d=(bG v0 x c&&l.all fun a=>bG v0 x (a^^^turn))
 |[],x,y,c,d,ok,hv,hc,hl,h=>by
  rw[mS]at h;cases h;simp
 |a::l,x,y,c,d,ok,hv,hc,hl,h=>by
  rw[mS]at h
  cases h1:h_ x c (a^^^turn)with
  |mk z r=>
   rw[h1]at h
   cases r with
   |none=>cases h
   |some e=>
    obtain⟨g1,g2⟩:=uv ok h1;have ih:=Ma ht l z y e d g1.ok (hv.grow g1) (g2 e rfl) (fun b hb=>oi (hl b (by simp[hb])) g1.lits) h;rw[ih,BE ok hv h1,rP,px];congr 2;rw[iB,dU,dU]
    have e1:∀b∈l,bG v0 z (b^^^turn)=bG v0 x (b^^^turn):=fun b hb=>pM g1 hv (xW (n:=x.all) ht (hl b (by simp[hb])))
    exact⟨fun h b hb=>by rw[<-e1 b hb];exact h b hb,fun h b hb=>by rw[e1 b hb];exact h b hb⟩
theorem Bf{turn:Nat}(ht:turn<=1){v0:List Bool}{l:List Nat}(h0:l≠[]){x y:Gr}{d:Nat}(ok:x.Ok)(hv:V0 x v0)(hl:∀a∈l,a<x.lits)(h:mT turn x l=(y,some d)):bG v0 y d=l.all fun a=>bG v0 x (a^^^turn):=by
 cases l with
 |nil=>exact absurd rfl h0
 |cons a r=>exact Ma ht r x y _ d ok hv (xW (n:=x.all) ht (hl a (by simp))) (fun b hb=>hl b (by simp[hb])) h
theorem ur{α β:Type}{r:Gr×Option α}{f:Gr->α->Gr×Option β}{y:Gr}{b:β}(h:ky r f=(y,some b)):∃z a,r=(z,some a)/\f z a=(y,some b):=by
 obtain⟨z,o⟩:=r
 cases o with
 |none=>cases h
 |some a=>exact⟨z,a,rfl,h⟩
theorem uF{α β:Type}{r:Gr×Option α}{f:α->β}{y:Gr}{b:β}(h:g_ f r=(y,some b)):∃a,r=(y,some a)/\f a=b:=by
 obtain⟨z,o⟩:=r
 cases o with
 |none=>cases h
 |some a=>
  simp only[g_,dO,bX,aj]at h;exact⟨a,by rw[h.1],h.2⟩
theorem abD{x y:Gr}{v0:List Bool}(ok:x.Ok)(hv:V0 x v0){c a d:Nat}(hc:c<x.lits)(ha:a<x.lits)(h:Hp x c a=(y,some d)):bG v0 y d=(bG v0 x c !=bG v0 x a):=by
 obtain⟨z,p,h1,h⟩:=ur h;obtain⟨w,q,h2,h⟩:=ur h;obtain⟨e,h3,rfl⟩:=uF h;obtain⟨g1,b1⟩:=uv ok h1;obtain⟨g2,b2⟩:=uv g1.ok h2;have hp:=b1 p rfl;have hq:=b2 q rfl;have e3:=BE g2.ok ((hv.grow g1).grow g2) h3;have e2:=BE g1.ok (hv.grow g1) h2;have e1:=BE ok hv h1;rw[mB,e3,mB,mB,pM g2 (hv.grow g1) hp,e2,e1,mB,mB,pM g1 hv hc,pM g1 hv ha]
 cases bG v0 x c<;>cases bG v0 x a<;>rfl
theorem Od(v:Bool)(l:List Bool):decide (dY (v::l)%2=1)=(v !=decide (dY l%2=1)):=by
 rw[dY]
 cases v
 ·simp
 ·simp only[cG];rw[iB];simp;omega
theorem MI{v0:List Bool}:∀(l:List Nat)(x y:Gr)(c d:Nat),x.Ok->V0 x v0->c<x.lits->(∀a∈l,a<x.lits)->vx x c l=(y,some d)->bG v0 y d=(bG v0 x c !=decide (dY (l.map (bG v0 x))%2=1))
 |[],x,y,c,d,ok,hv,hc,hl,h=>by
  rw[vx]at h;cases h;simp[dY]
 |a::l,x,y,c,d,ok,hv,hc,hl,h=>by
  rw[vx]at h;obtain⟨z,e,h1,h⟩:=ur h;have g:=LS ok c a;rw[h1]at g;have ih:=MI l z y e d g.1.ok (hv.grow g.1) (g.2 e rfl) (fun b hb=>oi (hl b (by simp[hb])) g.1.lits) h
  have e1:l.map (bG v0 z)=l.map (bG v0 x):=mq fun b hb=>pM g.1 hv (hl b (by simp[hb]))
  rw[ih,abD ok hv hc (hl a (by simp)) h1,e1,bL,Od]
  cases bG v0 x c<;>cases bG v0 x a<;>simp
theorem ZI{v0:List Bool}{l:List Nat}(h0:l≠[]){x y:Gr}{d:Nat}(ok:x.Ok)(hv:V0 x v0)(hl:∀a∈l,a<x.lits)(h:G3 x l=(y,some d)):bG v0 y d=decide (dY (l.map (bG v0 x))%2=1):=by
 cases l with
 |nil=>exact absurd rfl h0
 |cons a r=>rw[MI r x y a d ok hv (hl a (by simp)) (fun b hb=>hl b (by simp[hb])) h,bL,Od]
theorem O5:∀l:List Bool,decide (dY l=l.length)=l.all id
 |[]=>rfl
 |v::l=>by
  have:=Pu l;rw[dY,rP,<-O5 l,bz]
  cases v
  ·have h:¬(0+dY l=l.length+1):=by omega
   simp;omega
  ·have h:(1+dY l=l.length+1)↔dY l=l.length:=by omega
   simp[h]
theorem O':∀l:List Bool,decide (0<dY l)=l.any id
 |[]=>rfl
 |v::l=>by
  rw[dY,List.any_cons,<-O' l]
  cases v<;>simp<;>omega
theorem abe{n:Int}(h0:0<=n)(h9:n<=9){v0:List Bool}{l:List Nat}(hl0:2<=n->l≠[]){x y:Gr}{d:Nat}(ok:x.Ok)(hv:V0 x v0)(hl:∀a∈l,a<x.lits)(h:qo n x l=(y,some d)):bG v0 y d=zO n (l.map (bG v0 x)):=by
 unfold qo at h;unfold zO
 by_cases c1:n<=1
 ·rw[if_pos c1]at h
  cases h
  rw[if_pos (by omega),E5 hv]
 ·rw[if_neg c1]at h;rw[if_neg (by omega)]
  by_cases c2:n<=5
  ·rw[if_pos c2]at h;rw[if_pos (by omega),Bf (by omega) (hl0 (by omega)) ok hv hl h,O5,List.all_map];simp[Function.comp_def]
  ·rw[if_neg c2]at h;rw[if_neg (by omega)]
   by_cases c3:n<=7
   ·rw[if_pos c3]at h;obtain⟨e,h1,rfl⟩:=uF h;rw[if_pos (by omega),mB,Bf (by omega) (hl0 (by omega)) ok hv hl h1,O',List.any_map];simp only[mB];rw[iB];simp
   ·rw[if_neg c3]at h;rw[if_neg (by omega),ZI (hl0 (by omega)) ok hv hl h]
theorem Ls{α:Type}{p q:α->Bool}:∀{l:List α},(∀s∈l,p s=q s)->bC p l=bC q l
 |[],_=>by simp
 |a::l,h=>by rw[lF,lF,h a (by simp),Ls fun s hs=>h s (by simp[hs])]
theorem Ef{x y:Gr}(g:gb x y){v0:List Bool}(hv:V0 x v0){l:List Nat}(hl:∀a∈l,a<x.lits):l.map (bG v0 y)=l.map (bG v0 x):=mq fun b hb=>pM g hv (hl b hb)
def Pd(v0:List Bool)(ins:List Nat)(vs:List Bool)(f:Nat):Prop:=
 ∀(x y:Gr)(l:List Fm)(c:Nat)(l':List Fm),x.Ok->V0 x v0->(∀a∈ins,a<x.lits)->ins.map (bG v0 x)=vs->nZ ins f x l=(y,some (c,l'))->∀(w:Bool)(l2:List Fm),kx ins.length (qp vs) f l=some (w,l2)->bG v0 y c=w
theorem Ms{v0:List Bool}{ins:List Nat}{vs:List Bool}{f:Nat}(ih:Pd v0 ins vs f)(a:Bool):∀(k:Nat)(x y:Gr)(ks:List Nat)(l:List Fm)(v:Bool)(q:List Nat)(l':List Fm)(w:Bool)(l2:List Fm),x.Ok->V0 x v0->(∀b∈ins,b<x.lits)->ins.map (bG v0 x)=vs->(∀b∈ks,b<x.lits)->
 mX (nZ ins f) k x ks l=(y,some (q,l'))->jQ (kx ins.length (qp vs) f) a k v l=some (w,l2)->∃new,q=ks++new/\new.length=k/\w=if a=true then v&&new.all (bG v0 y)else v||new.any (bG v0 y)
 |0,x,y,ks,l,v,q,l',w,l2,ok,hv,hi,hm,hk,h1,h2=>by
  rw[mX]at h1;rw[jQ]at h2
  cases h1;cases h2
  exact⟨[],by simp,rfl,by simp⟩
 |k+1,x,y,ks,l,v,q,l',w,l2,ok,hv,hi,hm,hk,h1,h2=>by
  rw[mX]at h1;rw[jQ]at h2;obtain⟨z,p,h3,h1⟩:=ur h1;obtain⟨c,l1⟩:=p
  cases h4:kx ins.length (qp vs) f l with
  |none=>rw[h4]at h2;cases h2
  |some u=>
   rw[h4]at h2;obtain⟨u1,u2⟩:=u;have e1:=Lb ins _ _ f x l z c l1 u1 u2 h3 h4;subst e1;have hf:=xj ins f x l ok hi;rw[h3]at hf;have hc:=hf.2 _ rfl;simp only at hc hf h1 h2;have hz:=ih x z l c l1 ok hv hi hm h3 u1 l1 h4
   have hk2:∀b∈ks++[c],b<z.lits:=fun b hb=>by
    rcases aN.1 hb with hb|hb
    ·exact oi (hk b hb) hf.1.lits
    ·simp only[cq]at hb;subst hb;exact hc
   have hi2:∀b∈ins,b<z.lits:=fun b hb=>oi (hi b hb) hf.1.lits
   obtain⟨new,rfl,hn,rfl⟩:=Ms ih a k z y (ks++[c]) l1 _ q l' w l2 hf.1.ok (hv.grow hf.1) hi2 (by rw[Ef hf.1 hv hi];exact hm) hk2 h1 h2;have g2:=(AT ins (xj ins f) k z (ks++[c]) l1 hf.1.ok hi2 hk2).1;rw[h1]at g2
   have hy:bG v0 y c=u1:=by rw[pM g2 (hv.grow hf.1) hc];exact hz
   refine⟨c::new,by simp,by simp[hn],?_⟩;rw[rP,List.any_cons,hy]
   cases a
   ·simp only[ez,cT];rw[Bool.or_comm u1 v,Bool.or_assoc]
   ·simp only[cG];rw[Bool.and_comm u1 v,px]
theorem L8(v0:List Bool)(ins:List Nat)(vs:List Bool):∀f,Pd v0 ins vs f
 |0,x,y,l,c,l',ok,hv,hi,hm,h1,w,l2,h2=>by cases h1
 |f+1,x,y,[],c,l',ok,hv,hi,hm,h1,w,l2,h2=>by cases h1
 |f+1,x,y,t::l,c,l',ok,hv,hi,hm,h1,w,l2,h2=>by
  rw[nZ]at h1;rw[kx]at h2
  split at h2
  ·rename_i ho;unfold fa at ho
   by_cases k2:t.kind=2
   ·rw[if_pos k2]at h1 h2 ho;simp only[ay,aW]at ho
    cases h1;cases h2
    have q1:(t.lit/2).toNat<ins.length:=by omega
    subst hm;rw[Mb (by omega)];unfold qp;simp only[bj,gK,aM q1,dO,jJ]
    have e1:((t.lit%2).toNat=1)↔t.lit%2=1:=by omega
    simp only[e1]
    cases bG v0 x ins[(t.lit/2).toNat]<;>simp
   ·rw[if_neg k2]at h1 h2 ho
    by_cases k34:t.kind=3\/t.kind=4
    ·rw[if_neg (by omega)]at h1;rw[if_pos k34]at ho;simp only[ay,aW]at ho;obtain⟨z,p,h3,h1⟩:=ur h1;obtain⟨ks,l1⟩:=p;obtain⟨e,h4,he⟩:=uF h1;have hkf:=AT ins (xj ins f) t.kids.toNat x [] l ok hi (fun a ha=>by cases ha);rw[h3]at hkf;have hks:=hkf.2 _ rfl;simp only at hks;obtain⟨new,hq,hn,hw⟩:=Ms (L8 v0 ins vs f) _ _ _ _ _ _ _ _ _ _ _ ok hv hi hm (fun a ha=>by cases ha) h3 h2;rw[kK]at hq;rw[<-hq]at hn hw;simp only[bX]at he;obtain⟨rfl,_⟩:=he
     have h0:ks≠[]:=by
      rintro rfl
      simp at hn;omega
     have hvz:=hv.grow hkf.1
     by_cases k3:t.kind=3
     ·rw[if_pos k3]at h4;rw[Bf (by omega) h0 hkf.1.ok hvz hks h4,hw];simp[k3]
     ·have k4:t.kind=4:=by omega
      rw[if_neg k3]at h4;obtain⟨e2,h5,rfl⟩:=uF h4;rw[mB,Bf (by omega) h0 hkf.1.ok hvz hks h5,hw];simp only[mB,k4];rw[iB];simp
    ·rw[if_neg k34]at ho
     split at ho
     ·rename_i k01;simp only[ay,aW]at ho;rw[if_pos k01]at h1
      cases h1
      rw[ho.2]at h2;simp only[Int.toNat_zero,jQ,aj,bX]at h2;rw[<-h2.1]
      rcases k01 with k|k
      ·rw[k];simpa using E5 hv
      ·rw[k];have:=mB (v0:=v0) (x:=x) (a:=0);rw[E5 hv]at this;simpa using this
     ·cases ho
  ·cases h2
theorem ZD{g:Gt}(hg:gD g=true){v0:List Bool}{ins:List Nat}(hlen:ins.length=g.ins.length){x y:Gr}{d:Nat}(ok:x.Ok)(hv:V0 x v0)(hl:∀a∈ins,a<x.lits)(h:lW x g ins=(y,some d)):bG v0 y d=sQ g (ins.map (bG v0 x)):=by
 unfold lW at h
 rcases adq hg with⟨h0,h9,ho⟩|⟨h10,h8,hwr⟩
 ·rw[if_pos ⟨h0,h9⟩]at h;obtain⟨e,h1,rfl⟩:=uF h
  rw[Mb (by omega),abe h0 h9 (fun h2=>by
   have:=ad1 ho h2
   rintro rfl
   simp at hlen;omega) ok hv hl h1]
  unfold sQ;rw[if_neg (by omega)]
  have e2:decide ((g.op%2).toNat=1)=tu g.op:=by
   unfold tu;rw[iB];simp only[aW];omega
  rw[e2]
  cases zO g.op (ins.map (bG v0 x))<;>cases tu g.op<;>rfl
 ·rw[if_neg (by omega)]at h;obtain⟨p,h1,rfl⟩:=uF h;obtain⟨c,l'⟩:=p;have hV:=aaI hwr (qp (ins.map (bG v0 x)));unfold G6 at hV
  split at hV
  ·split at hV
   ·rename_i v h5;have hfv:=L8 v0 ins (ins.map (bG v0 x)) _ x y _ c l' ok hv hl rfl h1 v [] (by rw[hlen];exact h5);have hvv:=Option.some.inj hV
    have hfit:bC (eV (qp (ins.map (bG v0 x)))) g.rows=bC (fun s=>mU s (ins.map (bG v0 x))) g.rows:=by
     obtain⟨m,hm,_,_,h3⟩:=M6 hwr
     refine Ls fun s hs=>?_
     have h6:=h3 s hs;have:=MO (ins.map (bG v0 x)) s 0 h6.1 (by simp;omega);simpa[eV]using this
    unfold sQ;rw[if_pos h10,<-hfit,<-hvv,<-hfv];simp only
    cases g.off
    ·simp only[ez,cT]
     cases bG v0 y c<;>rfl
    ·simp only[cG,mB]
     cases bG v0 y c<;>rfl
   ·cases hV
  ·cases hV
abbrev ia(c:Ct):Nat:=c.an.length+c.ah.length
structure pe(c:Ct)(v0:List Bool)(x:Gr)(v p:List Nat):Prop where
 grow:gb (dS c) x
 len:v.length=(aD c).length
 inv:vD c x v p
 low:∀k(hk:k<v.length),k<ia c->v[k]=2*(k+1)
 eq:∀j∈p,∀h:j<c.af.length,∀hk:ia c+j<v.length,bG v0 x v[ia c+j]=sQ c.af[j] ((fy ((aD c).zip v) c.af[j].ins).map (bG v0 x))
 ins:∀j∈p,∀h:j<c.af.length,∀s∈c.af[j].ins,∃k,∃hk:k<(aD c).length,(aD c)[k]=s/\rq c p k
theorem LU{c:Ct}{p q:List Nat}{k:Nat}(h:rq c p k):rq c (p++q) k:=by
 rcases h with h|⟨j,hj,rfl⟩
 ·exact .inl h
 ·exact .inr ⟨j,iU _ hj,rfl⟩
theorem M_{c:Ct}(hn:(aD c).Nodup){v p:List Nat}(hv:v.length=(aD c).length){a d:Nat}(ha:a∉p){l:List Bs}(hl:∀s∈l,∃k,∃hk:k<(aD c).length,(aD c)[k]=s/\rq c p k):fy ((aD c).zip (v.set (ia c+a) d)) l=fy ((aD c).zip v) l:=by
 refine mq fun s hs=>?_
 obtain⟨k,hk,rfl,hc⟩:=hl s hs;rw[ri _ _ k hn hk (by simpa using hv),ri _ _ k hn hk hv,JP]
 rcases hc with hc|⟨j,hj,rfl⟩
 ·simp only[ia];omega
 ·simp only[ia]
  rintro e
  have:a=j:=by omega
  exact ha (this▸hj)
theorem pe.step{c:Ct}(okc:ew c)(hn:(aD c).Nodup){v0:List Bool}(hv0:V0 (dS c) v0){i:Nat}(hi:i<(aV c).length){x y:Gr}{v:List Nat}{d:Nat}(h:pe c v0 x v ((aV c).take i))
 (hg:lW x (c.af[(aV c)[i]]'(pJ c _ (bF hi))) (fy ((aD c).zip v) (c.af[(aV c)[i]]'(pJ c _ (bF hi))).ins)=(y,some d)):
 pe c v0 y (v.set (ia c+(aV c)[i]) d) ((aV c).take (i+1)):=by
 have ha:=pJ c _ (bF hi)
 have hic:=fun s hs=>aas okc hi (s:=s) hs
 have hlt:=BX hn h.len h.inv hic;have hgb:=okc.af _ (bF ha);have hfi:=XT h.grow.ok (c.af[(aV c)[i]]) hlt;rw[hg]at hfi;have hd:=hfi.2 d rfl
 have hap:(aV c)[i]∉(aV c).take i:=by
  intro hm;obtain⟨x,hx,he⟩:=eM hm;rw[tx]at he;have:=(z8 (xs:=aV c) (h₀:=by simp at hx;omega) (h₁:=hi) (Ei c)).1 he
  simp at hx;omega
 have hval:=ZD hgb (uu _ _) h.grow.ok (hv0.grow h.grow) hlt hg;have hst:(aV c).take (i+1)=(aV c).take i++[(aV c)[i]]:=ke hi;rw[hst];have hinsA:=M_ hn h.len (d:=d) hap hic;refine⟨h.grow.trans hfi.1,by simpa using h.len,h.inv.step hfi.1.lits hd,fun k hk hk2=>?_,fun j hj hjl hk=>?_,fun j hj hjl s hs=>?_⟩
 ·rw[JP (by simp only[ia]at hk2⊢;omega)];exact h.low k (by simpa using hk) hk2
 ·rcases aN.1 hj with hj|hj
  ·have hne:¬ia c+(aV c)[i]=ia c+j:=by
    rintro e
    have:(aV c)[i]=j:=by omega
    exact hap (this▸hj)
   have hij:=h.ins j hj hjl;rw[JP hne,M_ hn h.len hap hij]
   have hk':ia c+j<v.length:=by simpa using hk
   have hlj:=BX hn h.len h.inv hij;have e:=h.eq j hj hjl hk';rw[Ef hfi.1 (hv0.grow h.grow) hlj,<-e];exact pM hfi.1 (hv0.grow h.grow) (h.inv _ hk' (.inr ⟨j,hj,rfl⟩))
  ·simp only[cq]at hj;subst hj;rw[List.getElem_set_self,hinsA,hval,Ef hfi.1 (hv0.grow h.grow) hlt]
 ·rcases aN.1 hj with hj|hj
  ·obtain⟨k,hk,e,hc⟩:=h.ins j hj hjl s hs;exact⟨k,hk,e,LU hc⟩
  ·simp only[cq]at hj;subst hj;obtain⟨k,hk,e,hc⟩:=hic s hs;exact⟨k,hk,e,LU hc⟩
theorem aaY{c:Ct}(okc:ew c)(hn:(aD c).Nodup){v0:List Bool}(hv0:V0 (dS c) v0){y:Gr}{w:List Nat}:∀n i,i+n=(aV c).length->∀(x:Gr)(v:List Nat),pe c v0 x v ((aV c).take i)->l6 c ((aV c).drop i) x v=(y,some w)->pe c v0 y w (aV c):=by
 intro n
 induction n with
 |zero=>
  intro i hi x v h h1;rw[bT (by omega),l6]at h1;rw[cJ (by omega)]at h
  cases h1
  exact h
 |succ n ih=>
  intro i hi x v h h1
  have q1:i<(aV c).length:=by omega
  rw[bZ q1,MZ c (pJ c _ (bF q1))]at h1;obtain⟨z,d,h2,h1⟩:=ur h1;exact ih (i+1) (by omega) z _ (h.step okc hn hv0 q1 h2) h1
theorem af4{c:Ct}(hc:cB c)(okc:ew c)(v0:List Bool):pe c v0 (dS c) (oR (aD c).length) []:=
 ⟨.refl (O0 hc okc),Mk _,abn hc,fun k hk _=>by simp[oR],fun j hj=>(by cases hj),fun j hj=>(by cases hj)⟩
theorem NB{c:Ct}(hc:cB c)(okc:ew c)(hn:(aD c).Nodup){v0:List Bool}(hv0:V0 (dS c) v0){y:Gr}{w:List Nat}(h:tf c=(y,some w)):pe c v0 y w (aV c):=
 aaY okc hn hv0 (aV c).length 0 (by omega) _ _ (af4 hc okc v0) h
theorem Lr(c:Ct):(dS c).first=1+ia c:=by simp[Gr.first,dS,ia,kJ]
theorem Gp{c:Ct}{state ins:List Bool}(hi:ins.length=c.an.length)(hs:state.length=c.ah.length):V0 (dS c) (false::(ins++state)):=⟨by rw[Lr];simp[ia,hi,hs,Nat.add_comm],rfl⟩
theorem adf(c:Ct){k:Nat}(hk:k<c.an.length):∃h:k<(aD c).length,(aD c)[k]=c.an[k]:=by
 have h:k<(aD c).length:=by rw[uI];omega
 refine⟨h,?_⟩
 have:(aD c)[k]? =some c.an[k]:=by
  rw[aD,cz (by simp;omega),cz hk,aM hk]
 exact(dd.1 this).2
theorem adB(c:Ct){k:Nat}(hk:k<c.ah.length):∃h:c.an.length+k<(aD c).length,(aD c)[c.an.length+k]=c.ah[k].name:=by
 have h:c.an.length+k<(aD c).length:=by rw[uI];omega
 refine⟨h,?_⟩
 have:(aD c)[c.an.length+k]? =some c.ah[k].name:=by
  rw[aD,cz (by simp;omega),df (by omega),qO,gK,aM hk];rfl
 exact(dd.1 this).2
def zk(c:Ct)(v0:List Bool)(y:Gr)(v:List Nat)(s:Bs):Bool:=bG v0 y (tv ((aD c).zip v) s)
theorem OF{c:Ct}{v0:List Bool}(hv0:V0 (dS c) v0){y:Gr}{v p:List Nat}(h:pe c v0 y v p){k:Nat}(hk:k<v.length)(hk2:k<ia c):bG v0 y v[k]=v0.getD (k+1) false:=by
 rw[h.low k hk hk2];have e:=Lr c
 have hlt:2*(k+1)<(dS c).lits:=by unfold Gr.lits Gr.all;omega
 rw[pM h.grow hv0 hlt];unfold bG;simp only[dS,bI];exact A4 v0 (k+1)
theorem aau{c:Ct}(okc:ew c)(hn:(aD c).Nodup)(hall:∀i<c.af.length,i∈aV c){state ins:List Bool}(hi:ins.length=c.an.length)(hs:state.length=c.ah.length){y:Gr}{v:List Nat}(h:pe c (false::(ins++state)) y v (aV c)):Co c ins state (zk c (false::(ins++state)) y v):=by
 have hv0:=Gp hi hs;have hnl:=uI c;have hl:=h.len;refine⟨fun i hi2=>?_,fun i hi2=>?_,fun i hi2=>?_⟩
 ·obtain⟨h1,h2⟩:=adf c hi2;unfold zk;rw[<-h2,ri _ _ i hn h1 h.len,OF hv0 h (by omega) (by simp only[ia];omega)];simp only[bj,nC];rw[cz (by omega)]
 ·obtain⟨h1,h2⟩:=adB c hi2;unfold zk;rw[<-h2,ri _ _ _ hn h1 h.len,OF hv0 h (by omega) (by simp only[ia];omega)];simp only[bj,nC];rw[df (by omega),hi,qO]
 ·obtain⟨h1,h2⟩:=GZ c hi2;have e:=h.eq i (hall i hi2) hi2 (by simp only[ia];omega)
  have e2:zk c (false::(ins++state)) y v c.af[i].name=bG (false::(ins++state)) y (v[ia c+i]'(by simp only[ia];omega)):=by
   unfold zk;rw[<-h2,ri _ _ _ hn h1 h.len]
  rw[e2,e];unfold re Ch;rw[okc.af _ (bF hi2)];simp only[eb,decide_true,rR,fy,jH];rfl
theorem Ox{c:Ct}(hall:∀i<c.af.length,i∈aV c){s:Bs}(hs:s∈aD c):∃k,∃hk:k<(aD c).length,(aD c)[k]=s/\rq c (aV c) k:=by
 obtain⟨k,hk,he⟩:=eM hs;refine⟨k,hk,he,?_⟩;have hl:=uI c
 by_cases h1:k<c.an.length+c.ah.length
 ·exact .inl h1
 ·exact .inr ⟨k-(c.an.length+c.ah.length),hall _ (by omega),by omega⟩
theorem aeX{c:Ct}(hc:cB c)(okc:ew c)(hn:(aD c).Nodup)(hall:∀i<c.af.length,i∈aV c){v0:List Bool}{y:Gr}{v:List Nat}(h:pe c v0 y v (aV c)):(dF c y v).Ok:=by
 have ok:=h.grow.ok;have h0:=okc.ni;simp only[fI,j_,iz]at h0
 have hnl:(c.ah.map (·.next)).length=c.ah.length:=by simp
 have hyn:y.next.length=c.ah.length:=by rw[h.grow.next];simp[dS]
 have hyi:y.init.length=c.ah.length:=by rw[h.grow.init];simp[dS]
 have hl1:=BX hn h.len h.inv (l:=c.ah.map (·.next)) (fun s hs=>Ox hall (okc.used s (by simp only[eU,aN];exact .inl (.inr hs))));have hl2:=BX hn h.len h.inv (l:=c.aq) (fun s hs=>Ox hall (okc.used s (by simp only[eU,aN];exact .inl (.inl hs))))
 have hfirst:(dF c y v).first=y.first:=by simp[Gr.first,dF,uu,hyn]
 have hall':(dF c y v).all=y.all:=by unfold Gr.all;rw[hfirst];rfl
 have hlits:(dF c y v).lits=y.lits:=by unfold Gr.lits;rw[hall']
 refine⟨ok.ins,?_,?_,?_,ok.init,fun a ha=>?_,fun a ha=>?_,fun i hi=>?_⟩
 ·have:=ok.sum;simp[dF,uu]at this⊢;omega
 ·simp[dF,uu];omega
 ·simp[dF,uu,hyi]
 ·rw[hlits];simp only[dF,b_]at ha;obtain⟨n,hn2,rfl⟩:=ha;have:=hl1 n hn2;omega
 ·rw[hlits];simp only[dF,b_]at ha;obtain⟨n,hn2,rfl⟩:=ha;have:=hl2 n hn2;omega
 ·have:=ok.ands i hi;rw[hfirst];exact this
theorem NF{c:Ct}{y:Gr}{v:List Nat}(state ins:List Bool)(ok:(dF c y v).Ok)(h1:y.ins=c.an.length):(dF c y v).dw state ins=if sS c ins state=true then 0 else 11:=by
 unfold Gr.dw;rw[Gr.qV ok];simp only[ne_eq,not_true_eq_false,cT]
 have e:(dF c y v).fits state ins=sS c ins state:=by
  unfold Gr.fits sS;rw[iB];simp only[dF,eb,uu,h1,ay,aW];omega
 rw[e]
theorem abx{c:Ct}(hb:jF c)(ho:nw c=true){y:Gr}{v:List Nat}(hg:tf c=(y,some v))(state ins:List Bool):
 (dF c y v).normal.check=0/\(dF c y v).normal.dw state ins=(ql c ins state).2.2/\(dF c y v).normal.cK state ins=(ql c ins state).1/\(dF c y v).normal.eC state ins=(ql c ins state).2.1:=by
 obtain⟨hr,hnv,_⟩:=BM ho;obtain⟨okc,_⟩:=Bl hr;have hc:=uB hb hr
 have hn:(aD c).Nodup:=by
  have:=EO okc;simpa[aD,fj]using this
 have hall:∀i<c.af.length,i∈aV c:=fun i hi=>by
  refine DJ fun hni=>?_
  have h1:=(abp (ue hr) (aV c) hi).2 hni
  have h2:mH c=kv (aV c) c.af 0:=by simp[mH,hr]
  rw[<-h2,hnv]at h1
  cases h1
 have C3:=NB hc okc hn (v0:=false::(List.replicate c.an.length false++List.replicate c.ah.length false)) (Gp (by simp) (by simp)) hg;have hok:=aeX hc okc hn hall C3;have hck:=Gr.qV hok;obtain⟨hn1,hn2,hn3⟩:=KI hck state ins;have hns:=(Ay hck).2.1;refine⟨hns,?_⟩;rw[hn1,hn2,hn3,NF state ins hok (by rw[C3.grow.ins];rfl)];unfold ql cK Gr.cK Gr.eC;rw[if_pos ho,NF state ins hok (by rw[C3.grow.ins];rfl)]
 cases hlb:sS c ins state with
 |false=>simp
 |true=>
  simp only[cG];simp only[sS,ay,aW]at hlb;obtain⟨hi,hs⟩:=hlb;have hL:=NB hc okc hn (Gp hi hs) hg;have hV:=aau okc hn hall hi hs hL;have hone:=abE okc hall hV (aaj okc hall hi hs)
  have e0:∀l:List Bs,(∀s∈l,s∈aD c)->jS ((dF c y v).jB state ins) ((fy ((aD c).zip v) l).map fun n:Nat=>(n:Int))=l.map (d_ (gZ c ins state)):=by
   intro l hl;unfold jS fy;rw[jH,jH]
   refine mq fun s hs=>?_
   rw[<-hone s (hl s hs)];rfl
  refine⟨trivial,?_,?_⟩
  ·have:=e0 c.aq (fun s hs=>GB okc hs);exact this
  ·have:=e0 (c.ah.map (·.next)) (fun s hs=>by
    obtain⟨q,hq,rfl⟩:=b_.1 hs
    exact xN okc hq)
   rw[jH]at this;exact this
end Go.Proofs.YtchjijfjidlpjaaGreatDoor
namespace Go.Proofs.YtchjijfjidlpjaaGreatDoor
open Go.AM Go.Proofs
variable{Γ:Nat->Option AV}
end Go.Proofs.YtchjijfjidlpjaaGreatDoor
namespace Go.Proofs.YtchjijfjidlpjaaGreatDoor
open Go.AM Go.Proofs
def Can{α:Type}(k:Nat)(x:Gr)(r:Gr×Option α):Prop:=∃a,r.2=some a/\r.1.ands.length<=x.ands.length+k
def Room(x:Gr)(k:Nat):Prop:=x.ins+x.next.length+x.ands.length+k<=4000
theorem Room.of{x y:Gr}{k m:Nat}(h:Room x k)(g:gb x y)(hk:y.ands.length+m<=x.ands.length+k):Room y m:=by
 unfold Room at h⊢
 rw[g.ins,g.next];omega
theorem Can.map{α β:Type}{k:Nat}{x:Gr}{r:Gr×Option α}(h:Can k x r)(f:α->β):Can k x (g_ f r):=by
 obtain⟨a,h1,h2⟩:=h;exact⟨f a,by simp[g_,h1],h2⟩
theorem Can.then{α β:Type}{k m:Nat}{x:Gr}{r:Gr×Option α}{f:Gr->α->Gr×Option β}(h:Can k x r)(hf:∀a,r.2=some a->r.1.ands.length<=x.ands.length+k->Can m r.1 (f r.1 a)):Can (k+m) x (ky r f):=by
 obtain⟨a,h1,h2⟩:=h;obtain⟨y,o⟩:=r;simp only at h1 h2 hf;subst h1;obtain⟨b,h3,h4⟩:=hf a rfl h2;exact⟨b,h3,by simp only[ky];omega⟩
theorem Can.more{α:Type}{k m:Nat}{x:Gr}{r:Gr×Option α}(h:Can k x r)(hk:k<=m):Can m x r:=by
 obtain⟨a,h1,h2⟩:=h;exact⟨a,h1,by omega⟩
theorem Nq(first:Nat):∀(ps l:List (Int×Int))(to:List Nat),∃e,(eY first ps l to).2=to++e
 |[],l,to=>⟨[],by simp[eY]⟩
 |p::ps,l,to=>by
  rw[eY]
  obtain⟨e,he⟩:=Nq first ps (bN first l (bg to p.1.toNat) (bg to p.2.toNat)).1 (to++[(bN first l (bg to p.1.toNat) (bg to p.2.toNat)).2])
  exact⟨_::e,by rw[he,cM];rfl⟩
theorem FC(first:Nat)(aS:List Bool):∀(ps:List (Int×Int))(i:Nat)(l:List (Int×Int))(to:List Nat),∃e,(dx first aS ps i l to).2=to++e
 |[],i,l,to=>⟨[],by simp[dx]⟩
 |p::ps,i,l,to=>by
  rw[dx]
  split
  ·obtain⟨e,he⟩:=FC first aS ps (i+1) (bN first l (bg to p.1.toNat) (bg to p.2.toNat)).1 (to++[(bN first l (bg to p.1.toNat) (bg to p.2.toNat)).2])
   exact⟨_::e,by rw[he,cM];rfl⟩
  ·obtain⟨e,he⟩:=FC first aS ps (i+1) l (to++[0])
   exact⟨_::e,by rw[he,cM];rfl⟩
theorem MD{first k:Nat}(h:k<first)(e:List Nat):bg (ids first++e) (2*k)=2*k:=by
 unfold bg;rw[show 2*k/2=k by omega,show 2*k%2=0 by omega,bj,cz (by simpa using h),aM (by simpa using h)];simp[ids]
theorem K1{g:Gr}(h:g.check=0):∃F:Nat->Nat,(∀k<g.first,F (2*k)=2*k)/\g.normal.outs=g.outs.map (fun a=>(F a.toNat:Int))/\g.normal.next=g.next.map (fun a=>(F a.toNat:Int))/\g.normal.init=g.init/\g.normal.ins=g.ins:=by
 have e:g.normal=g.da.cP:=by unfold Gr.normal;rw[if_pos h]
 obtain⟨e1,h1⟩:=Nq g.first g.ands [] (ids g.first)
 obtain⟨e2,h2⟩:=FC g.da.first g.da.aS g.da.ands 0 [] (ids g.da.first)
 have hf:g.da.first=g.first:=uC _ _
 refine⟨fun a=>bg (dx g.da.first g.da.aS g.da.ands 0 [] (ids g.da.first)).2 (bg (eY g.first g.ands [] (ids g.first)).2 a),fun k hk=>?_,?_,?_,?_,?_⟩
 ·simp only;rw[h1,h2,MD hk,hf,MD hk]
 ·rw[e];simp[Gr.cP,Gr.cY,dX,Gr.da]
 ·rw[e];simp[Gr.cP,Gr.cY,dX,Gr.da]
 ·rw[e];rfl
 ·rw[e];rfl
theorem N_(s:Bs):∀(l:List Bs)(i:Nat),0<=gG s l i->∃k,∃hk:k<l.length,l[k]=s/\gG s l i=((i+k:Nat):Int)
 |[],i,h=>by simp[gG]at h
 |a::l,i,h=>by
  rw[gG]at h⊢
  split
  ·rename_i h1;exact⟨0,by simp,by simp[h1],by simp⟩
  ·rename_i h1;rw[if_neg h1]at h;obtain⟨k,hk,e1,e2⟩:=N_ s l (i+1) h;exact⟨k+1,by simp;omega,by simpa using e1,by rw[e2];congr 1;omega⟩
structure jc(m:Md):Prop where
 g:m.g.check=0
 lI:(m.an.length:Int)=m.g.ins
 lL:m.ah.length=m.g.next.length
 lO:m.aq.length=m.g.outs.length
 names:∀s∈m.an++m.ah++m.aq,fC s=true
 nd:(m.an++m.ah).Nodup
 IY:m.aq.Nodup
 out:∀i(h:i<m.aq.length)(h2:i<m.g.outs.length),0<=dA m m.aq[i]->m.g.outs[i]=2*dA m m.aq[i]
theorem M7(m:Md):∀(l:List Bs)(r:List Int),th m l r=false->∀i(h:i<l.length)(h2:i<r.length),0<=dA m l[i]->r[i]=2*dA m l[i]
 |[],r,_,i,h,_=>by simp at h
 |s::l,[],_,i,_,h=>by simp at h
 |s::l,a::r,h,i,h1,h2=>by
  rw[th]at h;simp only[j_,Bool.and_eq_false_iff,iz,JM,aW]at h
  cases i with
  |zero=>
   intro h3
   rcases h.1 with h|h
   ·exact absurd h3 h
   ·exact h
  |succ i=>exact M7 m l r h.2 i (by simpa using h1) (by simpa using h2)
theorem PB{l:List Bs}(h:rA l=false):l.Nodup:=by
 unfold rA iF at h;exact(D9 l [] (by simpa using h)).1
theorem Ba{m:Md}(h:iY m=0):jc m:=by
 unfold iY at h
 split at h
 ·rename_i h1;exact absurd h h1
 ·rename_i h1
  split at h
  ·cases h
  ·rename_i h2
   split at h
   ·cases h
   ·rename_i h3
    split at h
    ·cases h
    ·rename_i h4
     split at h
     ·cases h
     ·rename_i h5;simp only[o9,Ho,fv,not_or,iA,iz,DA,Bool.not_eq_true]at h1 h2 h3 h4 h5;refine⟨h1,h2.1,h2.2.1,h2.2.2,fun s hs=>?_,PB h4.1,PB h4.2,M7 m _ _ h5⟩;simp only[aN]at hs
      rcases hs with(hs|hs)|hs
      ·simpa using km.1 h3.1 s hs
      ·simpa using km.1 h3.2.1 s hs
      ·simpa using km.1 h3.2.2 s hs
theorem Lw(m:Md)(s:Bs):dA (bp m) s=dA m s:=rfl
theorem jc.first{m:Md}(h:jc m):m.g.first=1+(m.an++m.ah).length:=by
 have h1:=h.lI;have h2:=h.lL
 unfold Gr.first
 simp only[bq];omega
theorem jc.norm{m:Md}(h:jc m):jc (bp m)/\(bp m).g.strict=true:=by
 obtain⟨F,f1,f2,f3,f4,f5⟩:=K1 h.g;obtain⟨s1,s2,_⟩:=Ay h.g;refine⟨⟨s2,(show(m.an.length:Int)=m.g.normal.ins by rw[h.lI];exact f5.symm),?_,?_,h.names,h.nd,h.IY,fun i h1 h2 h3=>?_⟩,s1⟩
 ·show m.ah.length=m.g.normal.next.length
  rw[f3];simp[h.lL]
 ·show m.aq.length=m.g.normal.outs.length
  rw[f2];simp[h.lO]
 ·have h4:i<m.g.outs.length:=by rw[<-h.lO];exact h1
  have e:=h.out i h1 h4 h3
  have e2:(bp m).g.outs[i]=(F (m.g.outs[i]).toNat:Int):=by
   show m.g.normal.outs[i]'h2=_
   have:m.g.normal.outs[i]? =some (F (m.g.outs[i]).toNat:Int):=by rw[f2,gK,aM h4];rfl
   exact(dd.1 this).2
  rw[e2,Lw];rw[Lw]at h3;obtain⟨p1,p2⟩:=KS m m.aq[i];obtain⟨k,hk⟩:=fP (show 0<=dA m m.aq[i]from h3)
  have e3:(m.g.outs[i]).toNat=2*k:=by rw[e,hk];omega
  have hf:=h.first
  simp only[bq]at hf;have hk2:dA m m.aq[i]=(k:Int):=hk;rw[e3,f1 k (by omega),show(bp m).aq[i]=m.aq[i]from rfl,hk2];omega
theorem Yd{m:Md}{s:Bs}:dA m s<0↔s∉m.an++m.ah:=by
 unfold dA;have h:=B2 s (m.an++m.ah) 0;have h2:=FG s (m.an++m.ah) 0;constructor
 ·intro h1 hm
  split at h1
  ·rename_i h3;rw[DE.2 hm,aW]at h2;omega
  ·omega
 ·intro hm
  have:(m.an++m.ah).contains s=false:=by simpa using hm
  rw[this,iz]at h2;rw[if_pos (by omega)];omega
theorem Yv{m:Md}{s:Bs}(h:0<=dA m s):∃k,∃hk:k<(m.an++m.ah).length,(m.an++m.ah)[k]=s/\dA m s=k+1:=by
 unfold dA at h⊢
 split at h
 ·omega
 ·rename_i h1;obtain⟨k,hk,e1,e2⟩:=N_ s (m.an++m.ah) 0 (by omega);exact⟨k,hk,e1,by rw[if_neg h1,e2];omega⟩
end Go.Proofs.YtchjijfjidlpjaaGreatDoor
