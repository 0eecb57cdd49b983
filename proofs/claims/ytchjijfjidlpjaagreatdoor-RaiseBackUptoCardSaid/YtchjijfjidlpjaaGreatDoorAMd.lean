/- The abstract machine: rows of slices whose slices turn no more; literals that are rows of their own. -/
import Derived.Test.YtchjijfjidlpjaaGreatDoorAMc
import Derived.ProofKit
import Derived.OpenShut
import Derived.JoinedCond
import Derived.ChangeStays
import Derived.ChangeBears
import Derived.ChangeCalls
import Derived.Below
import Derived.MakeChecks
import Derived.LaidMore
import Derived.StringKeys
import Derived.ChangeKeys
import Derived.LaidHandle
import Derived.LaidSub
set_option linter.unusedSimpArgs false
set_option linter.unusedVariables false
namespace Go.AM
open Go.RowKit
theorem PX{j:Nat}:∀(is:List Nat)(h:List Ob),j∉is->(share is h)[j]? =h[j]?
 |[],_,_=>rfl
 |i::is,h,hj=>by
  simp only[bz,not_or]at hj;simp only[share]
  have hne:¬i=j:=fun e=>hj.1 e.symm
  rw[PX is _ hj.2,AT];simp[hne]
section
variable{P:Program}{Γ:Nat->Option AV}{N:Env}{g:G}{h:List Ob}{w:World}
theorem OZ{a a':AV}(hv:view h a=some a')(ho:a.one=true):a'.one=true:=by
 cases a with
 |agg _|aH _|undef|own _ _ _=>simp[AV.one]at ho
 |list f k es=>simp only[view,ak]at hv;subst hv;rfl
 |sl i o n=>simp only[view,cf]at hv;obtain⟨p,_,rfl⟩:=hv;rfl
 |ptr _ _|mp _|it _|cY _|di _ _ _ _=>simp[view]at hv
 |du _ _=>simp only[view]at hv;split at hv<;>simp at hv;subst hv;rfl
 |fn f x y=>simp only[view]at hv;split at hv<;>simp at hv;subst hv;rfl
 |bT t x=>simp only[view,cf]at hv;obtain⟨y,_,rfl⟩:=hv;rfl
 |_=>simp only[view,ak]at hv;subst hv;rfl
theorem G6:∀{as as':List AV},cq h as=some as'->as'.length=as.length/\(cm as=true->cm as'=true)
 |[],as',hv=>by simp only[cq,ak]at hv;subst hv;exact⟨rfl,id⟩
 |a::as,as',hv=>by
  simp only[cq]at hv
  split at hv
  ·rename_i a1 as1 h1 h2;simp only[ak]at hv;subst hv;obtain⟨h3,h4⟩:=G6 h2;refine⟨by simp[h3],fun ho=>?_⟩;simp only[cm,ay]at ho⊢;exact⟨OZ h1 ho.1,h4 ho.2⟩
  ·cases hv
theorem abo{a a':AV}(hv:view h a=some a')(ho:cm a.cells=true):a'.cells.length=a.cells.length/\cm a'.cells=true:=by
 by_cases ha:∃cs,a=.agg cs
 ·obtain⟨cs,rfl⟩:=ha;simp only[view,cf]at hv;obtain⟨cs',h1,rfl⟩:=hv;obtain⟨h2,h3⟩:=G6 h1;exact⟨h2,h3 ho⟩
 ·have hc:a.cells=[a]:=by cases a<;>first|rfl|exact absurd ⟨_,rfl⟩ ha
  rw[hc]at ho;simp only[cm,pS]at ho;have h1:=OZ hv ho
  have hc':a'.cells=[a']:=by cases a'<;>first|rfl|simp[AV.one]at h1
  rw[hc,hc'];exact⟨rfl,by simp[cm,h1]⟩
theorem acE{n:Nat}{a:AV}(h:aG n a=true):aK n a.cells=true:=by
 cases a<;>simp_all [AV.cells,aG,aK]
theorem Q1(H:Inv P Γ N g h w){g':G}{h':List Ob}(x:Ext h.length g h g' h'):∀{as as':List AV}{us:List Value},(∀i∈bZ as,rl g' h w g i)->VE g h as us->cq h as=some as'->VE g' h' as' us
 |[],as',us,_,hv,ha=>by
  simp only[cq,ak]at ha;subst ha;simpa only [VE]using hv
 |a::as,as',us,hc,hv,ha=>by
  simp only[cq]at ha
  split at ha
  ·rename_i a1 as1 h1 h2;simp only[ak]at ha;subst ha;simp only[VE]at hv⊢;obtain⟨u,us',h3,rfl,h4⟩:=hv;simp only[bZ,aT]at hc;exact⟨u,us',ub H x (fun i hi=>hc i (Or.inl hi)) h3 h1,rfl,Q1 H x (fun i hi=>hc i (Or.inr hi)) h4 h2⟩
  ·cases ha
theorem Sd(H:Inv P Γ N g h w){k:Nat}:∀{as as':List AV}{us:List Value},ei k as->VE g h as us->cq h as=some as'->cA as' k=true
 |[],as',us,_,_,ha=>by simp only[cq,ak]at ha;subst ha;rfl
 |a::as,as',us,hK,hv,ha=>by
  simp only[cq]at ha
  split at ha
  ·rename_i a1 as1 h1 h2;simp only[ak]at ha;subst ha;simp only[VE]at hv;obtain⟨u,us',h3,rfl,h4⟩:=hv;obtain⟨hk1,hk2⟩:=hK a (by simp);obtain⟨h5,h6⟩:=abo h1 hk2;simp only[cA,ay,aZ];exact⟨⟨⟨by omega,h6⟩,acE (Cg H h3 h1)⟩,Sd H (fun e he=>hK e (dw _ he)) h4 h2⟩
  ·cases ha
theorem Pv{es es':List AV}(h:es'.length=es.length)(gr:Option Nat)(off n:Nat):cM es' gr off n=cM es gr off n:=by
 unfold cM;rw[h]
theorem Inv.freeze(H:Inv P Γ N g h w){i k:Nat}{E:TypeId}{es es':List AV}{gr:Option Nat}{fl sh:Bool}(hi:h[i]? =some (.row k E es gr fl sh))(hg:gr.getD 0=0)
 (hv:cq h es=some es')(hn:(bZ es).contains i=false):
 ∃g',Inv P Γ N g' ((share (bZ es) h).set i (.row k E es' gr true sh)) w/\Ext h.length g h g' ((share (bZ es) h).set i (.row k E es' gr true sh)):=by
 obtain⟨g1,hρ1,hMM1,hM1,H1,hE1,hC1⟩:=o9 (bZ es) H
 have hni:i∉bZ es:=by simpa using hn
 have hi1:(share (bZ es) h)[i]? =some (.row k E es gr fl sh):=by rw[PX _ _ hni];exact hi
 have hlen:=(G6 hv).1;have hil1:=aV hi1;have hob:=H.ob i _ hi;simp only[OV]at hob;obtain⟨hk0,hK,hfl,hgl,hb⟩:=hob
 have hE2:Ext (share (bZ es) h).length g1 (share (bZ es) h) g1 ((share (bZ es) h).set i (.row k E es' gr true sh)):=by
  have:=Ext.qw (E':=E) (es':=es') (gr':=gr) (fl':=true) (sh':=sh) (ρ':=g1.ρ i) hi1 (by omega) (fun off m hom hok=>⟨by rw[<-Pv hlen];exact hok,hlen,fun _ x=>x⟩);rwa[de]at this
 have hokall:es'=[]\/(∃us,VE g h es us):=by
  cases hρ:g.ρ i with
  |none=>
   rw[hρ]at hb;simp only at hb;subst hb;simp only[cq,ak]at hv;exact Or.inl hv.symm
  |some y=>
   obtain⟨b,sz,st⟩:=y;rw[hρ]at hb;obtain⟨_,c,Ty,fz,vs,_,_,_,hVE,_⟩:=hb;rw[hg]at hVE;exact Or.inr ⟨vs,by simpa using hVE⟩
 have hok':cA es' k=true:=by
  rcases hokall with rfl|⟨us,hus⟩
  ·rfl
  ·exact Sd H hK hus hv
 refine⟨g1,?_,?_⟩
 ·have:=Inv.set (r:=g1.ρ i) (w':=w) (o':=.row k E es' gr true sh) H1 hil1 (by rw[de];exact hE2) rfl rfl rfl (fun _ _ _=>rfl) (aQ _)
   (fun b y hy=>⟨Or.inl ⟨y,hy⟩,(H1.own i b y hy).2⟩)
   (fun b y o v _ hv=>H1.mem b o v hv)
   (by
    intro b sz st o v hy hv';obtain⟨k2,E2,es2,gr2,fl2,h2,h3⟩:=H1.eP i b sz st o v hy hv';rw[hi1]at h2;simp only[ak,Ob.row.injEq]at h2;obtain⟨rfl,rfl,rfl,rfl,rfl,rfl⟩:=h2
    exact⟨_,_,_,_,_,rfl,by rw[hlen];exact h3⟩)
   (by
    rw[de];simp only[OV];refine⟨hk0,kM hok',fun _=>hok',by rw[hlen];exact hgl,?_⟩;rw[hρ1]
    cases hρ:g.ρ i with
    |none=>
     rw[hρ]at hb;simp only at hb⊢;subst hb;simp only[cq,ak]at hv;exact hv.symm
    |some y=>
     obtain⟨b,sz,st⟩:=y;rw[hρ]at hb;simp only at hb⊢;obtain⟨q1,c,Ty,fz,vs,q2,q3,q4,hVE,q5⟩:=hb;refine⟨q1,c,Ty,fz,vs,q2,q3,q4,?_,q5⟩;rw[hg]at hVE⊢;simp only[fg]at hVE⊢;have h1:=Q1 H hE1 hC1 hVE hv
     exact gE hE2 (kU h1) h1)
  rwa[de]at this
 ·have:=lC (bZ es) h;rw[this]at hE2;exact hE1.trans hE2
theorem Inv.dP(H:Inv P Γ N g h w){i j k k0:Nat}(E:TypeId){cs:List AV}(hi:h[i]? =some (.cells cs))(hj:cs[j]? =some (.list true k0 []))(hk:0<k):
 ∃g',Inv P Γ N g' ((h++[Ob.row k E [] none true false]).set i (.cells (cs.set j (.sl h.length 0 0)))) w/\Ext h.length g h g' ((h++[Ob.row k E [] none true false]).set i (.cells (cs.set j (.sl h.length 0 0)))):=by
 have hE1:=Ext.push (g:=g) (h:=h) [Ob.row k E [] none true false] none
 have H1:Inv P Γ N (g.bM h.length none) (h++[Ob.row k E [] none true false]) w:=by
  refine Inv.push (r:=none) H rfl rfl rfl (fun _ _=>rfl) (aQ _) (fun b x hb=>by cases hb) ?_ (fun j o hj=>by simp at hj);simp only[OV];rw[dd];exact⟨hk,by simp,fun _=>rfl,by simp,trivial⟩
 have hi1:(h++[Ob.row k E [] none true false])[i]? =some (.cells cs):=by rw[cz (aV hi)];exact hi
 have hE2:=Ext.G8 (g:=g.bM h.length none) (vs':=cs.set j (.sl h.length 0 0)) hi1;have hil1:=aV hi1
 have hni:h.length≠i:=by have:=aV hi;omega
 refine⟨g.bM h.length none,?_,?_⟩
 ·have:=Inv.set (r:=(g.bM h.length none).ρ i) (w':=w) (o':=.cells (cs.set j (.sl h.length 0 0))) H1 hil1 hE2 rfl rfl rfl (fun _ _ _=>rfl) (aQ _)
   (fun b y hy=>⟨Or.inl ⟨y,hy⟩,(H1.own i b y hy).2⟩)
   (fun b y o v _ hv=>H1.mem b o v hv)
   (by
    intro b sz st o v hy hv';obtain⟨k2,E2,es2,gr2,fl2,h2,h3⟩:=H1.eP i b sz st o v hy hv';rw[hi1]at h2
    cases h2)
   (by
    rw[de];simp only[OV];intro b sz st hb;have hob:=H1.ob i _ hi1;simp only[OV]at hob;obtain⟨c,Ty,fz,q1,q2,q3⟩:=hob b sz st hb;refine⟨c,Ty,fz,q1,q2,?_⟩;obtain⟨v,hv1,hv2⟩:=rV q3 hj;simp only[V]at hv2;obtain⟨_,a,cap,rfl,hcap,_,_⟩:=hv2
    have hcap0:cap=0:=by simpa using hcap trivial
    subst hcap0
    have hx:V (g.bM h.length none) ((h++[Ob.row k E [] none true false]).set i (.cells (cs.set j (.sl h.length 0 0)))) (.sl h.length 0 0) (.slice a ([]:List AV).length 0):=by
     simp only[V];refine⟨k,E,[],none,true,false,?_,by simp,a,0,rfl,by simp,by simp,fun _=>⟨by simp,Or.inl ⟨rfl,rfl⟩⟩⟩;rw[dM (Ne.symm hni)];simp
    have hE2':=hE2;rw[de]at hE2';have hvl:=cF hE2' (dB q3) q3;have h5:=qz j hvl hx
    have h6:c.toList.set j (.slice a ([]:List AV).length 0)=c.toList:=by
     apply iC;intro m
     by_cases hm:j=m
     ·subst hm;rw[eI (aV hv1),hv1]
     ·rw[dM hm]
    rwa[h6]at h5)
  rwa[de]at this
 ·rw[de]at hE2;exact hE1.trans (hE2.mono (by simp))
theorem Nv{g:G}{h:List Ob}{r:Nat}(hr:∀a,V g h (.sl r 0 0) (.slice a 0 0)):∀{es:List AV}{vs:List Value}{j k0:Nat},VE g h es vs->es[j]? =some (.list true k0 [])->VE g h (es.set j (.sl r 0 0)) vs
 |[],_,_,_,_,hj=>by simp at hj
 |e::es,vs,0,k0,hv,hj=>by
  simp only[ry,ak]at hj;subst hj;simp only[VE]at hv;obtain⟨v,vs',h1,rfl,h2⟩:=hv;simp only[V]at h1;obtain⟨_,a,cap,rfl,hcap,_,_⟩:=h1
  have hcap0:cap=0:=by simpa using hcap trivial
  subst hcap0;simp only[wX,VE];exact⟨_,vs',hr a,rfl,h2⟩
 |e::es,vs,j+1,k0,hv,hj=>by
  simp only[nT]at hj;simp only[VE]at hv;obtain⟨v,vs',h1,rfl,h2⟩:=hv;simp only[rp,VE];exact⟨v,vs',h1,rfl,Nv hr h2 hj⟩
theorem Inv.CD(H:Inv P Γ N g h w){i j k k0:Nat}(E:TypeId){E0:TypeId}{es:List AV}{fl sh:Bool}(hi:h[i]? =some (.row 1 E0 es none fl sh))(hj:es[j]? =some (.list true k0 []))(hk:0<k):
 ∃g',Inv P Γ N g' ((h++[Ob.row k E [] none true false]).set i (.row 1 E0 (es.set j (.sl h.length 0 0)) none false sh)) w/\Ext h.length g h g' ((h++[Ob.row k E [] none true false]).set i (.row 1 E0 (es.set j (.sl h.length 0 0)) none false sh)):=by
 have hE1:=Ext.push (g:=g) (h:=h) [Ob.row k E [] none true false] none
 have H1:Inv P Γ N (g.bM h.length none) (h++[Ob.row k E [] none true false]) w:=by
  refine Inv.push (r:=none) H rfl rfl rfl (fun _ _=>rfl) (aQ _) (fun b x hb=>by cases hb) ?_ (fun j o hj=>by simp at hj);simp only[OV];rw[dd];exact⟨hk,by simp,fun _=>rfl,by simp,trivial⟩
 have hi1:(h++[Ob.row k E [] none true false])[i]? =some (.row 1 E0 es none fl sh):=by rw[cz (aV hi)];exact hi
 have hlen:(es.set j (.sl h.length 0 0)).length=es.length:=by simp
 have hE2:Ext (h++[Ob.row k E [] none true false]).length (g.bM h.length none) (h++[Ob.row k E [] none true false]) (g.bM h.length none) ((h++[Ob.row k E [] none true false]).set i (.row 1 E0 (es.set j (.sl h.length 0 0)) none false sh)):=by
  have:=Ext.qw (E':=E0) (es':=es.set j (.sl h.length 0 0)) (gr':=none) (fl':=false) (sh':=sh) (ρ':=(g.bM h.length none).ρ i) hi1 (by omega) (fun off m hom hok=>⟨by rw[<-Pv hlen];exact hok,hlen,fun _ x=>x⟩);rwa[de]at this
 have hil1:=aV hi1
 have hni:h.length≠i:=by have:=aV hi;omega
 refine⟨g.bM h.length none,?_,hE1.trans (hE2.mono (by simp))⟩
 have:=Inv.set (r:=(g.bM h.length none).ρ i) (w':=w) (o':=.row 1 E0 (es.set j (.sl h.length 0 0)) none false sh) H1 hil1 (by rw[de];exact hE2) rfl rfl rfl (fun _ _ _=>rfl) (aQ _)
  (fun b y hy=>⟨Or.inl ⟨y,hy⟩,(H1.own i b y hy).2⟩)
  (fun b y o v _ hv=>H1.mem b o v hv)
  (by
   intro b sz st o v hy hv';obtain⟨k2,E2,es2,gr2,fl2,h2,h3⟩:=H1.eP i b sz st o v hy hv';rw[hi1]at h2;simp only[ak,Ob.row.injEq]at h2;obtain⟨rfl,rfl,rfl,rfl,rfl,rfl⟩:=h2
   exact⟨_,_,_,_,_,rfl,by rw[hlen];exact h3⟩)
  (by
   rw[de];have hob:=H1.ob i _ hi1;simp only[OV]at hob⊢;obtain⟨_,hK,_,hgl,hb⟩:=hob;refine⟨by omega,?_,by simp,by simp,?_⟩
   ·intro e he
    rcases pT he with he|rfl
    ·exact hK e he
    ·exact⟨rfl,rfl⟩
   ·cases hρ:(g.bM h.length none).ρ i with
    |none=>
     rw[hρ]at hb;simp only at hb;subst hb;simp at hj
    |some y=>
     obtain⟨b,sz,st⟩:=y;rw[hρ]at hb;simp only at hb⊢;obtain⟨q1,c,Ty,fz,vs,q2,q3,q4,hVE,q5⟩:=hb;refine⟨q1,c,Ty,fz,vs,q2,q3,q4,?_,q5⟩;simp only[uG,fg]at hVE⊢
     have hx:∀a,V (g.bM h.length none) ((h++[Ob.row k E [] none true false]).set i (.row 1 E0 (es.set j (.sl h.length 0 0)) none false sh)) (.sl h.length 0 0) (.slice a ([]:List AV).length 0):=by
      intro a;simp only[V];refine⟨k,E,[],none,true,false,?_,by simp,a,0,rfl,by simp,by simp,fun _=>⟨by simp,Or.inl ⟨rfl,rfl⟩⟩⟩;rw[dM (Ne.symm hni)];simp
     exact Nv hx (gE hE2 (kU hVE) hVE) hj)
 rwa[de]at this
def mR(h:List Ob)(a:AV):AV:=(view h a).getD a
theorem R7(H:Inv P Γ N g h w){g':G}{h':List Ob}(x:Ext h.length g h g' h'){a:AV}{u:Value}(hc:∀i∈rowsOf a,rl g' h w g i)(hv:V g h a u):V g' h' (mR h a) u:=by
 unfold mR
 cases hw:view h a with
 |none=>exact gG x (lT hv) hv
 |some a'=>exact ub H x hc hv hw
theorem Mk{i:Nat}{cs:List AV}:∀(is:List Nat)(h:List Ob),h[i]? =some (.cells cs)->(share is h)[i]? =some (.cells cs)
 |[],h,hi=>hi
 |j::is,h,hi=>Mk is _ (by
   rw[AT,hi]
   by_cases hj:j=i<;>simp[hj,eS])
theorem Inv.iP(H:Inv P Γ N g h w){i:Nat}(j:Nat){cs:List AV}(hi:h[i]? =some (.cells cs)):
 ∃g',Inv P Γ N g' ((share (rowsOf (cs.getD j .undef)) h).set i (.cells (cs.set j (mR h (cs.getD j .undef))))) w/\Ext h.length g h g' ((share (rowsOf (cs.getD j .undef)) h).set i (.cells (cs.set j (mR h (cs.getD j .undef))))):=by
 obtain⟨g1,hρ1,hMM1,hM1,H1,hE1,hC1⟩:=o9 (rowsOf (cs.getD j .undef)) H;have hi1:=Mk (rowsOf (cs.getD j .undef)) h hi;have hE2:=Ext.G8 (g:=g1) (vs':=cs.set j (mR h (cs.getD j .undef))) hi1;have hil1:=aV hi1;refine⟨g1,?_,?_⟩
 ·have:=Inv.set (r:=g1.ρ i) (w':=w) (o':=.cells (cs.set j (mR h (cs.getD j .undef)))) H1 hil1 hE2 rfl rfl rfl (fun _ _ _=>rfl) (aQ _)
   (fun b y hy=>⟨Or.inl ⟨y,hy⟩,(H1.own i b y hy).2⟩)
   (fun b y o v _ hv=>H1.mem b o v hv)
   (by
    intro b sz st o v hy hv';obtain⟨k2,E2,es2,gr2,fl2,h2,h3⟩:=H1.eP i b sz st o v hy hv';rw[hi1]at h2
    cases h2)
   (by
    rw[de];simp only[OV];intro b sz st hb;have hob:=H.ob i _ hi;simp only[OV]at hob;rw[hρ1]at hb;obtain⟨c,Ty,fz,q1,q2,q3⟩:=hob b sz st hb;refine⟨c,Ty,fz,q1,q2,?_⟩;have hE2':=hE2;rw[de,lC]at hE2';have hE3:=hE1.trans hE2';have hx:=R7 H hE3 hC1 (t_ j q3);have h5:=qz j (cF hE3 (dB q3) q3) hx
    have h6:c.toList.set j (c.toList.getD j undef)=c.toList:=by
     apply iC;intro m
     by_cases hm:j=m
     ·subst hm;rw[pX]
      by_cases hl:j<c.toList.length
      ·rw[if_pos rfl,if_pos hl,bq,aR hl];rfl
      ·rw[if_pos rfl,if_neg hl,fS (by omega)]
     ·rw[dM hm]
    rwa[h6]at h5)
  rwa[de]at this
 ·rw[de,lC]at hE2;exact hE1.trans hE2
theorem afU{o:Oper}{k:Nat}{zs:List AV}{ps:List (Nat×AX)}(hc:b_ P o=some (.lit k zs ps)):
 ∃ty n parts e z,o.op=.buildSlice ty n parts/\P.underlying ty=some (.slice e)/\bB P e=some k/\0<k/\eg P e=some z/\lp k z=true/\n*k<=2^24/\zs=List.replicate n z/\ps=parts.toList.map fun q=>(q.1,av q.2):=by
 cases ho:o.op with
 |buildSlice ty n parts=>
  simp only[b_,ho]at hc
  cases hE:lQ P ty with
  |none=>simp[hE]at hc
  |some e=>
  cases hk:bB P e with
  |none=>simp[hE,hk]at hc
  |some k2=>
  cases hz:eg P e with
  |none=>simp[hE,hk,hz]at hc
  |some z=>
  simp only[hE,hk,hz,pY,kH]at hc
  split at hc
  ·cases hc
  ·rename_i hcond;simp only[ak,AO.lit.injEq]at hc;obtain⟨rfl,rfl,rfl⟩:=hc;simp only[not_or]at hcond;obtain⟨c1,c2,c3⟩:=hcond;refine⟨ty,n,parts,e,z,rfl,?_,hk,by omega,hz,by simpa using c3,by omega,rfl,rfl⟩;unfold lQ at hE
   split at hE<;>simp_all
 |call c=>
  exfalso;simp only[b_,ho,nz]at hc
  (repeat' split at hc)<;>first|(cases hc;done)|(simp[oX]at hc;done)|(simp only[pY,oX,cf]at hc;obtain⟨_,_,h1⟩:=hc;revert h1;simp;done)|(simp only[pY,oX]at hc;obtain⟨_,_,_,_,_,_,_,_,h1⟩:=hc;revert h1;split<;>(try split)<;>simp;done)|skip
 |_=>exfalso;simp only[b_,ho]at hc;(repeat' split at hc)<;>first|contradiction|(cases hc;done)|(simp[oX]at hc;done)|skip
theorem acf(H:Inv P Γ N g h w){r:Operand->Value}{t:List AV}{o:Oper}{ty e:TypeId}{n:Nat}{ps:Array (Nat×Operand)}(ho:o.op=.buildSlice ty n ps)(hu:P.underlying ty=some (.slice e)){k:Nat}(hk:bB P e=some k)(hk0:0<k)
 {z:AV}(hz:eg P e=some z)(hzo:lp k z=true)(hnk:n*k<=2^24)(he:∀x,V g h (ax t (av x)) (r x))
 {es:List AV}(hf:oq k (List.replicate n z) ((ps.toList.map fun q=>(q.1,av q.2)).map fun q=>(q.1,ax t q.2))=some es){fl:Bool}(hfl:fl=true->cA es k=true)(E:TypeId):
 aM P Γ N r o w g h (h++[.row k E es none fl false]) (some (.sl h.length 0 es.length)):=by
 obtain⟨zv,hzr,rfl⟩:=vx hz;simp only[lp,ay,aZ]at hzo;obtain⟨⟨hzk,hz1⟩,hzb⟩:=hzo;have hzk':=vl hzk
 have hF:F2 (fun(p:Nat×AV) (q:Nat×Value)=>p.1=q.1/\V g h p.2 q.2) ((ps.toList.map fun q=>(q.1,av q.2)).map fun q=>(q.1,ax t q.2)) (ps.map fun q=>(q.1,r q.2)).toList:=by
  rw[Array.toList_map,iB];generalize ps.toList=l
  induction l with
  |nil=>exact .nil
  |cons q l ih=>exact .cons ⟨rfl,he q.2⟩ ih
 have hVE0:=u_ (oc g h zv) n;have hzl:=vn hzk' n
 let zs:Array Value:=(Array.range (n*k)).map fun i=>(if n*k=0 then#[]else zv.cells)[i%(if n*k=0 then#[]else zv.cells).size]!
 have hzs:zs.toList=(List.replicate n zv.cells.toList).flatten:=by
  simp only[zs]
  by_cases hnk0:n*k=0
  ·have:n=0:=by
    rcases Lr.1 hnk0 with h1|h1
    ·exact h1
    ·omega
   simp[this]
  ·simp only[hnk0,da,hzk'];exact hzl
 obtain⟨us,h1,h2,h3,h4⟩:=FN (zs:=zs) hF hf (kM (uT hzk hz1 hzb n)) (by rw[hzs];exact hVE0)
 have hlen:es.length=n:=by rw[h4,pW]
 have husl:us.toList.length=n*k:=by rw[ja h3 h2,hlen]
 have hrun:(Instr.buildSlice ty n (ps.map fun q=>(q.1,r q.2))).run P w=.ok (.slice (some ⟨w.heap.size,0,none⟩) n n) (w.alloc (.cells (us.toList++[]).toArray e)):=by
  have hus:(us.toList++[]).toArray=us:=by simp
  rw[hus];simp only[Instr.buildSlice,Sem.run_bind,run_underlying hu,Result.andThen_ok,jq hk];rw[if_neg (by omega)]
  by_cases hnk0:n*k=0
  ·have hzs0:zs=(Array.range (n*k)).map fun i=>(#[]:Array Value)[i%(#[]:Array Value).size]! :=by simp only[zs,hnk0,cy]
   rw[hzs0]at h1;rw[if_pos hnk0];simp only[Sem.run_bind,Sem.run_pure,Result.andThen_ok];rw[h1];simp[newRow]
  ·have hzs0:zs=(Array.range (n*k)).map fun i=>zv.cells[i%zv.cells.size]! :=by simp only[zs,hnk0,da]
   rw[hzs0]at h1;rw[if_neg hnk0];simp only[Sem.run_bind,hzr,Sem.run_pure,Result.andThen_ok];rw[h1];simp[newRow]
 refine aM.make (w':=w) H rfl rfl rfl rfl (sz:=n*k) (by simp only[execOp,ho];rw[Sem.run_bind,hrun];rfl) ?_ (by simp) ?_
 ·exact CY (P:=P) hk0 h3 hfl (dd _ _ _) (mi w _) (by simpa using husl.symm) (vD _) (gE (Ext.push _ _) (kU h2) h2)
 ·have:=B6 (h:=h) (g':=g.bM h.length (some (w.heap.size,n*k,0))) (k:=k) (E:=E) (es:=es) (os:=[]) (fl:=fl) (sh:=false) (dd _ _ _) (cap:=n) (by omega) (aQ _);rw[hlen]at this⊢;exact this
end
def gp(n:Nat)(τ:List Nat)(i:Nat):Nat:=if i<n then i else n+τ.idxOf (i-n)
def fe(n:Nat)(τ:List Nat)(i:Nat):Bool:=decide (i<n)||τ.contains (i-n)
mutual
def dT(n:Nat)(τ:List Nat):AV->AV
 |.sl i off m=>.sl (gp n τ i) off m
 |.ptr i off=>.ptr (gp n τ i) off
 |.mp i=>.mp (gp n τ i)
 |.it i=>.it (gp n τ i)
 |.cY i=>.cY (gp n τ i)
 |.di a k ix off=>.di (dT n τ a) k ix off
 |.agg cs=>.agg (cC n τ cs)
 |.aH cs=>.aH (cC n τ cs)
 |.fn f a b=>.fn f (cC n τ a) (cC n τ b)
 |.bT t v=>.bT t (dT n τ v)
 |.du ks vs=>.du (cC n τ ks) (cC n τ vs)
 |.list f k es=>.list f k es
 |.own k E es=>.own k E es
 |.undef=>.undef
 |.bool b=>.bool b
 |.int k x=>.int k x
 |.str s=>.str s
 |.jT=>.jT
 |.dp=>.dp
 |.dS=>.dS
 |.eN=>.eN
 |.eA g off=>.eA g off
def cC(n:Nat)(τ:List Nat):List AV->List AV
 |[]=>[]
 |a::as=>dT n τ a::cC n τ as
end
mutual
def fB(n:Nat)(τ:List Nat):AV->Bool
 |.sl i _ _|.ptr i _|.mp i|.it i|.cY i=>fe n τ i
 |.di a _ _ _=>fB n τ a
 |.agg cs|.aH cs=>ek n τ cs
 |.fn _ a b=>ek n τ a&&ek n τ b
 |.bT _ v=>fB n τ v
 |.du ks vs=>ek n τ ks&&ek n τ vs
 |_=>true
def ek(n:Nat)(τ:List Nat):List AV->Bool
 |[]=>true
 |a::as=>fB n τ a&&ek n τ as
end
def nO(n:Nat)(τ:List Nat):List (AV×AV)->List (AV×AV)
 |[]=>[]
 |(a,b)::r=>(dT n τ a,dT n τ b)::nO n τ r
def rm(n:Nat)(τ:List Nat):List (AV×AV)->Bool
 |[]=>true
 |(a,b)::r=>fB n τ a&&fB n τ b&&rm n τ r
def lq(n:Nat)(τ:List Nat):Ob->Ob
 |.cells cs=>.cells (cC n τ cs)
 |.row k E es g fl sh=>.row k E (if fl=true then es else cC n τ es) g fl sh
 |.map es fl=>.map (nO n τ es) fl
 |.loop st j fn t ps a b=>.loop st j fn (cC n τ t) ps a b
 |o=>o
def l7(n:Nat)(τ:List Nat):Ob->Bool
 |.cells cs=>ek n τ cs
 |.row _ _ es _ fl _=>fl||ek n τ es
 |.map es _=>rm n τ es
 |.loop _ _ _ t _ _ _=>ek n τ t
 |_=>true
def sC(n:Nat)(τ:List Nat):List Ob->Bool
 |[]=>true
 |o::os=>l7 n τ o&&sC n τ os
def gz(n:Nat)(τ:List Nat):List Ob->Bool
 |[]=>true
 |.loop _ _ _ t _ _ _::os=>aK n t&&gz n τ os
 |o::os=>l7 n τ o&&gz n τ os
def jD(n:Nat)(τ:List Nat):List Ob->List Ob
 |[]=>[]
 |o::os=>lq n τ o::jD n τ os
def nA(h:List Ob)(n:Nat):List Nat->List Ob
 |[]=>[]
 |j::js=>h.getD (n+j) .gone::nA h n js
def jC(n:Nat)(τ:List Nat)(h:List Ob):List Ob:=jD n τ (h.take n++nA h n τ)
mutual
theorem jM{n:Nat}{τ:List Nat}:∀{a:AV},aG n a=true->dT n τ a=a
 |.undef,_|.bool _,_|.int _ _,_|.str _,_|.jT,_|.dp,_|.dS,_|.eN,_|.eA _ _,_|.list _ _ _,_|.own _ _ _,_=>rfl
 |.du ks us,hb=>by simp only[aG,ay]at hb;simp only[dT,lK hb.1,lK hb.2]
 |.sl i _ _,hb|.ptr i _,hb|.mp i,hb|.it i,hb|.cY i,hb=>by simp only[aG,aZ]at hb;simp only[dT,gp,hb,cy]
 |.di a _ _ _,hb=>by simp only[aG]at hb;simp only[dT,jM hb]
 |.agg cs,hb|.aH cs,hb=>by simp only[aG]at hb;simp only[dT,lK hb]
 |.fn f a b,hb=>by simp only[aG,ay]at hb;simp only[dT,lK hb.1,lK hb.2]
 |.bT t v,hb=>by simp only[aG]at hb;simp only[dT,jM hb]
theorem lK{n:Nat}{τ:List Nat}:∀{as:List AV},aK n as=true->cC n τ as=as
 |[],_=>rfl
 |a::as,hb=>by simp only[aK,ay]at hb;simp only[cC,jM hb.1,lK hb.2]
end
theorem HT{n:Nat}{τ:List Nat}:∀{es:List (AV×AV)},fa n es=true->nO n τ es=es
 |[],_=>rfl
 |(a,b)::es,hb=>by simp only[fa,ay]at hb;simp only[nO,jM hb.1.1,jM hb.1.2,HT hb.2]
theorem QO{n:Nat}{τ:List Nat}{o:Ob}(hb:iu n o=true):lq n τ o=o:=by
 cases o with
 |cells cs=>simp only[iu]at hb;simp only[lq,lK hb]
 |row k E es g fl sh=>
  simp only[iu,ff]at hb;simp only[lq]
  cases fl with
  |true=>rfl
  |false=>
   rcases hb with hb|hb
   ·cases hb
   ·simp[lK hb]
 |map es fl=>simp only[iu]at hb;simp only[lq,HT hb]
 |loop st j fn t ps a b=>simp only[iu]at hb;simp only[lq,lK hb]
 |_=>rfl
theorem rT{n:Nat}{τ:List Nat}:∀{h:List Ob},cr n h=true->jD n τ h=h
 |[],_=>rfl
 |o::os,hb=>by simp only[cr,ay]at hb;simp only[jD,QO hb.1,rT hb.2]
mutual
theorem jL{n:Nat}{τ:List Nat}:∀{a:AV},aG n a=true->fB n τ a=true
 |.undef,_|.bool _,_|.int _ _,_|.str _,_|.jT,_|.dp,_|.dS,_|.eN,_|.eA _ _,_|.list _ _ _,_|.own _ _ _,_=>rfl
 |.du _ _,hb=>by simp only[aG,ay]at hb;simp only[fB,nh hb.1,nh hb.2,nU]
 |.sl i _ _,hb|.ptr i _,hb|.mp i,hb|.it i,hb|.cY i,hb=>by simp only[aG]at hb;simp only[fB,fe,hb,Bool.true_or]
 |.di a _ _ _,hb=>by simp only[aG]at hb;simp only[fB,jL hb]
 |.agg cs,hb|.aH cs,hb=>by simp only[aG]at hb;simp only[fB,nh hb]
 |.fn f a b,hb=>by simp only[aG,ay]at hb;simp only[fB,nh hb.1,nh hb.2,nU]
 |.bT t v,hb=>by simp only[aG]at hb;simp only[fB,jL hb]
theorem nh{n:Nat}{τ:List Nat}:∀{as:List AV},aK n as=true->ek n τ as=true
 |[],_=>rfl
 |a::as,hb=>by simp only[aK,ay]at hb;simp only[ek,jL hb.1,nh hb.2,nU]
end
section
variable{P:Program}{Γ:Nat->Option AV}{N:Env}{g g':G}{h h':List Ob}{w:World}{n:Nat}{τ:List Nat}
theorem vW:∀(as:List AV),(cC n τ as).length=as.length
 |[]=>rfl
 |a::as=>by simp[cC,vW as]
theorem Q2:∀(as:List AV)(i:Nat),(cC n τ as)[i]? =(as[i]?).map (dT n τ)
 |[],i=>by simp[cC]
 |a::as,0=>by simp[cC]
 |a::as,i+1=>by simp[cC,Q2 as i]
theorem P9:∀(as:List AV)(i:Nat),(cC n τ as).drop i=cC n τ (as.drop i)
 |[],i=>by simp[cC]
 |a::as,0=>by simp
 |a::as,i+1=>by simp[cC,P9 as i]
theorem ac6(a:AV):(dT n τ a).cells=cC n τ a.cells:=by
 cases a<;>simp[dT,AV.cells,cC]
theorem afu(a:AV):(dT n τ a).one=a.one:=by cases a<;>rfl
theorem QF:∀(as:List AV),cm (cC n τ as)=cm as
 |[]=>rfl
 |a::as=>by simp[cC,cm,afu,QF as]
theorem QX:∀(es:List (AV×AV)),(nO n τ es).map (·.1)=cC n τ (es.map (·.1))
 |[]=>rfl
 |(a,b)::es=>by simp[nO,cC,QX es]
theorem H8:∀(es:List (AV×AV)),(nO n τ es).map (·.2)=cC n τ (es.map (·.2))
 |[]=>rfl
 |(a,b)::es=>by simp[nO,cC,H8 es]
theorem O9:∀{es:List (AV×AV)},rm n τ es=true->ek n τ (es.map (·.1))=true/\ek n τ (es.map (·.2))=true
 |[],_=>⟨rfl,rfl⟩
 |(a,b)::es,hb=>by
  simp only[rm,ay]at hb;obtain⟨h1,h2⟩:=O9 hb.2;simp only[bU,ek,ay];exact⟨⟨hb.1.1,h1⟩,⟨hb.1.2,h2⟩⟩
theorem Pq:∀{as:List AV}(i:Nat),ek n τ as=true->ek n τ (as.drop i)=true
 |[],_,_=>by simp[ek]
 |a::as,0,h=>by simpa using h
 |a::as,i+1,h=>by
  simp only[ek,ay]at h;simpa using Pq i h.2
structure Rn(n:Nat)(τ:List Nat)(g:G)(h:List Ob)(g':G)(h':List Ob):Prop where
 M:g'.M=g.M
 MM:g'.MM=g.MM
 get:∀i o,h[i]? =some o->fe n τ i=true->h'[gp n τ i]? =some (lq n τ o)
 wS:∀i,i<h.length->fe n τ i=true->g'.ρ (gp n τ i)=g.ρ i
theorem Rn.zero(x:Rn n τ g h g' h'):Ext 0 g h g' h':=Ext.zero (fun _ _ _ y=>by rw[x.M];exact y) (fun _ _ y=>by rw[x.MM];exact y)
mutual
theorem DT(x:Rn n τ g h g' h'):∀{a:AV}{v:Value},fB n τ a=true->V g h a v->V g' h' (dT n τ a) v
 |.undef,_,_,_=>by simp[dT,V]
 |.bool _,_,_,hv|.int _ _,_,_,hv|.str _,_,_,hv|.jT,_,_,hv|.dp,_,_,hv|.dS,_,_,hv|.eN,_,_,hv|.eA _ _,_,_,hv=>by simpa only [dT,V]using hv
 |.own _ _ _,_,_,hv=>by simp only[V]at hv
 |.list full k es,v,_,hv=>by
  have h0:aG 0 (.list full k es)=true:=by
   simp only[V]at hv;simp only[aG];exact jI hv.1
  simp only[dT];exact gG x.zero h0 hv
 |.du ks us,v,hb,hv=>by
  simp only[fB,ay]at hb;simp only[dT,V]at hv⊢;obtain⟨b,es,ck,h1,h2,h3,h4⟩:=hv;exact⟨b,es,ck,h1,by rw[x.MM];exact h2,np x hb.1 h3,np x hb.2 h4⟩
 |.sl j off m,v,hb,hv=>by
  simp only[fB]at hb;simp only[dT,V]at hv⊢;obtain⟨k',E',es',gr',fl',sh',h1,h2,a,cap,h3,h4,h5,h6⟩:=hv
  have hlen:(if fl'=true then es' else cC n τ es').length=es'.length:=by split<;>simp[vW]
  refine⟨k',E',_,gr',fl',sh',x.get _ _ h1 hb,by rw[hlen];exact h2,a,cap,h3,h4,h5,fun hok=>?_⟩;obtain⟨h7,h8⟩:=h6 (by unfold cM at hok⊢;rwa[hlen]at hok);rw[hlen];refine⟨h7,h8.imp id fun h9=>?_⟩;rw[x.wS j (aV h1) hb];exact h9
 |.di a _ _ _,v,hb,hv=>by
  simp only[fB]at hb;simp only[dT,V]at hv⊢;obtain⟨u,b,o,h1,h2,⟨m,h4,h5⟩,rfl⟩:=hv;refine⟨u,b,o,DT x hb h1,h2,⟨m,?_,h5⟩,rfl⟩
  cases a<;>simp only[pA,dT]at h4⊢<;>first|exact h4|cases h4
 |.ptr j off,v,hb,hv=>by
  simp only[fB]at hb;simp only[dT,V]at hv⊢;obtain⟨⟨vs,hj⟩,h2⟩:=hv;exact⟨⟨_,x.get _ _ hj hb⟩,by rw[x.wS j (aV hj) hb];exact h2⟩
 |.mp j,v,hb,hv=>by
  simp only[fB]at hb;simp only[dT,V]at hv⊢;obtain⟨⟨es,fl,hj⟩,h2⟩:=hv;exact⟨⟨_,_,x.get _ _ hj hb⟩,by rw[x.wS j (aV hj) hb];exact h2⟩
 |.it j,v,hb,hv=>by
  simp only[fB]at hb;simp only[dT,V]at hv⊢;obtain⟨⟨es,fl,hj⟩,h2⟩:=hv;exact⟨⟨_,_,x.get _ _ hj hb⟩,by rw[x.wS j (aV hj) hb];exact h2⟩
 |.cY j,v,hb,hv=>by
  simp only[fB]at hb;simp only[dT,V]at hv⊢;obtain⟨⟨x1,x2,x3,x4,x5,x6,x7,hj⟩,h2⟩:=hv;exact⟨⟨_,_,_,_,_,_,_,x.get _ _ hj hb⟩,by rw[x.wS j (aV hj) hb];exact h2⟩
 |.agg cs,v,hb,hv=>by
  simp only[fB]at hb;simp only[dT,V]at hv⊢;obtain⟨vs,rfl,h1⟩:=hv;exact⟨vs,rfl,np x hb h1⟩
 |.aH cs,v,hb,hv=>by
  simp only[fB]at hb;simp only[dT,V]at hv⊢;obtain⟨vs,rfl,h1⟩:=hv;exact⟨vs,rfl,np x hb h1⟩
 |.fn f a b,v,hb,hv=>by
  simp only[fB,ay]at hb;simp only[dT,V]at hv⊢;obtain⟨xs,ys,rfl,h1,h2⟩:=hv;exact⟨xs,ys,rfl,np x hb.1 h1,np x hb.2 h2⟩
 |.bT t a,v,hb,hv=>by
  simp only[fB]at hb;simp only[dT,V]at hv⊢;obtain⟨y,rfl,h1⟩:=hv;exact⟨y,rfl,DT x hb h1⟩
theorem np(x:Rn n τ g h g' h'):∀{as:List AV}{vs:List Value},ek n τ as=true->VL g h as vs->VL g' h' (cC n τ as) vs
 |[],_,_,hv=>by simpa only [cC,VL]using hv
 |a::as,_,hb,hv=>by
  simp only[cC,VL]at hv⊢;simp only[ek,ay]at hb;obtain⟨v,vs',rfl,h1,h2⟩:=hv;exact⟨v,vs',rfl,DT x hb.1 h1,np x hb.2 h2⟩
end
theorem R8(x:Rn n τ g h g' h'):∀{as:List AV}{vs:List Value},ek n τ as=true->VE g h as vs->VE g' h' (cC n τ as) vs
 |[],_,_,hv=>by simpa only [cC,VE]using hv
 |a::as,_,hb,hv=>by
  simp only[cC,VE]at hv⊢;simp only[ek,ay]at hb;obtain⟨v,vs',h1,rfl,h2⟩:=hv;exact⟨v,vs',DT x hb.1 h1,rfl,R8 x hb.2 h2⟩
theorem Sa(x:Rn n τ g h g' h'){i j:Nat}{o:Ob}(hρ:g'.ρ j=g.ρ i)(hb:l7 n τ o=true)(ho:OV P g h w i o):OV P g' h' w j (lq n τ o):=by
 cases o with
 |gone=>trivial
 |cells vs=>
  intro b sz st hb';rw[hρ]at hb';obtain⟨c,E,fz,h1,h2,h3⟩:=ho b sz st hb';exact⟨c,E,fz,h1,h2,np x (by simpa only [l7]using hb) h3⟩
 |row k E es gr fl sh=>
  simp only[OV,lq]at ho⊢;obtain⟨h1,h2,h3,h4,h5⟩:=ho
  cases fl with
  |true=>
   simp only[cy];refine⟨h1,h2,fun _=>h3 rfl,h4,?_⟩;rw[hρ]
   cases hr:g.ρ i with
   |none=>rw[hr]at h5;exact h5
   |some y=>
    obtain⟨b,sz,st⟩:=y;rw[hr]at h5;simp only at h5⊢;obtain⟨h6,c,E',fz,vs,h7,h8,h9,h10,h11⟩:=h5;exact⟨h6,c,E',fz,vs,h7,h8,h9,gE x.zero (B7 _ (jI (h3 rfl))) h10,h11⟩
  |false=>
   simp only[l7,oW]at hb;simp only[eH,da];refine⟨h1,?_,fun hf=>(by cases hf),by rw[vW];exact h4,?_⟩
   ·intro e he;obtain⟨q,hq⟩:=xh.1 he;rw[Q2,cf]at hq;obtain⟨a,ha,rfl⟩:=hq;have:=h2 a (i_ ha);rw[ac6,vW,QF];exact this
   ·rw[hρ]
    cases hr:g.ρ i with
    |none=>
     rw[hr]at h5;simp only at h5⊢;subst h5;rfl
    |some y=>
     obtain⟨b,sz,st⟩:=y;rw[hr]at h5;simp only at h5⊢;obtain⟨h6,c,E',fz,vs,h7,h8,h9,h10,h11⟩:=h5;exact⟨h6,c,E',fz,vs,h7,h8,h9,by rw[P9];exact R8 x (Pq _ hb) h10,h11⟩
 |map es fl=>
  simp only[l7]at hb;obtain⟨q1,q2⟩:=O9 hb;obtain⟨h1,h3⟩:=ho;refine⟨fun hf=>?_,fun b sz st hb'=>?_⟩
  ·rw[H8,lK (rO (wW n) (h1 hf))];exact h1 hf
  ·rw[hρ]at hb';obtain⟨bj,ck,h4,h5,h6⟩:=h3 b sz st hb';exact⟨bj,ck,h4,by rw[QX];exact np x q1 h5,by rw[H8];exact np x q2 h6⟩
 |iO s p=>
  intro b sz st hb';rw[hρ]at hb';exact ho b sz st hb'
 |loop st q fn t ps a b=>
  intro bk sz sta hb';rw[hρ]at hb';obtain⟨L,h1,h2,h3,h4,h5,h6⟩:=ho bk sz sta hb';exact⟨L,h1,h2,h3,h4,np x (by simpa only [l7]using hb) h5,h6⟩
 |bD live=>
  intro b sz st hb';rw[hρ]at hb';exact ho b sz st hb'
theorem HO:∀{h:List Ob}{i:Nat},(jD n τ h)[i]? =(h[i]?).map (lq n τ)
 |[],i=>by simp[jD]
 |o::os,0=>by simp[jD]
 |o::os,i+1=>by simp[jD,HO (h:=os)]
theorem GK:∀{τ:List Nat}{i:Nat},(nA h n τ)[i]? =(τ[i]?).map fun j=>h.getD (n+j) .gone
 |[],i=>by simp[nA]
 |j::js,0=>by simp[nA]
 |j::js,i+1=>by simp[nA,GK (τ:=js)]
theorem Im:∀{h:List Ob},(jD n τ h).length=h.length
 |[]=>rfl
 |o::os=>by simp[jD,Im (h:=os)]
theorem GQ:∀{τ:List Nat},(nA h n τ).length=τ.length
 |[]=>rfl
 |j::js=>by simp[nA,GQ (τ:=js)]
theorem QL:∀{h:List Ob}{i:Nat}{o:Ob},sC n τ h=true->h[i]? =some o->l7 n τ o=true
 |[],_,_,_,hi=>by simp at hi
 |a::h,0,o,hb,hi=>by
  simp only[sC,ay]at hb
  simp at hi;subst hi;exact hb.1
 |a::h,i+1,o,hb,hi=>by
  simp only[sC,ay]at hb;exact QL hb.2 (by simpa using hi)
theorem Ih:∀{h:List Ob}{i:Nat}{o:Ob},gz n τ h=true->h[i]? =some o->l7 n τ o=true/\∀st j fn t ps a b,o=.loop st j fn t ps a b->aK n t=true
 |[],_,_,_,hi=>by simp at hi
 |a::h,0,o,hb,hi=>by
  simp at hi;subst hi
  cases a<;>simp only[gz,ay]at hb<;>first
   |exact⟨hb.1,fun _ _ _ _ _ _ _ e=>by cases e⟩
   |exact⟨by simp only[l7];exact nh hb.1,fun _ _ _ _ _ _ _ e=>by cases e;exact hb.1⟩
 |a::h,i+1,o,hb,hi=>by
  have h2:gz n τ h=true:=by
   cases a<;>simp only[gz,ay]at hb<;>exact hb.2
  exact Ih h2 (by simpa using hi)
theorem Inv.gc(H:Inv P Γ N g h w)(hn:n<=h.length)(hτ:∀j∈τ,n+j<h.length)(hnd:τ.Nodup)(hp:gz n τ (h.take n)=true)(hq:sC n τ (nA h n τ)=true):
 ∃g',Inv P Γ N g' (jC n τ h) w/\Ext n g h g' (jC n τ h)/\Rn n τ g h g' (jC n τ h):=by
 let l8:Nat->Option Nat:=fun j=>if j<n then some j else(τ[j-n]?).map (n+·)
 let g':G:={g with ρ:=fun j=>(l8 j).bind g.ρ}
 have hold:∀{j i},l8 j=some i->i<h.length/\fe n τ i=true/\gp n τ i=j:=by
  intro j i hj;simp only[l8]at hj
  split at hj
  ·rename_i hjn
   cases hj
   exact⟨by omega,by simp[fe,hjn],by simp[gp,hjn]⟩
  ·rename_i hjn;rw[cf]at hj;obtain⟨x,hx,rfl⟩:=hj;have hm:=i_ hx;refine⟨hτ x hm,by simp[fe,hm],?_⟩;unfold gp;rw[if_neg (by omega),rB];have hlt:=aV hx
   have hxe:τ[j-n]=x:=by rw[aR hlt]at hx;simpa using hx
   have:τ.idxOf x=j-n:=by rw[<-hxe];exact hnd.idxOf_getElem _ hlt
   omega
 have hnew:∀{i},fe n τ i=true->l8 (gp n τ i)=some i:=by
  intro i hi;simp only[l8,gp]
  by_cases hin:i<n
  ·simp[hin]
  ·simp only[fe,hin,nV,oW,xg,aZ]at hi;simp only[hin,da];rw[if_neg (by omega),rB,aR (List.idxOf_lt_length_of_mem hi),List.getElem_idxOf]
   simp;omega
 have hget:∀i o,h[i]? =some o->fe n τ i=true->(jC n τ h)[gp n τ i]? =some (lq n τ o):=by
  intro i o hi hok;unfold jC;rw[HO]
  by_cases hin:i<n
  ·have:gp n τ i=i:=by simp[gp,hin]
   rw[this,cz (by rw[eR];omega),mV hin,hi];rfl
  ·simp only[fe,hin,nV,oW,xg,aZ]at hok
   have:gp n τ i=n+τ.idxOf (i-n):=by simp[gp,hin]
   rw[this,dk (by rw[eR];omega),eR,rq hn,rB,GK,
    aR (List.idxOf_lt_length_of_mem hok),List.getElem_idxOf]
   simp only[dm]
   rw[show n+(i-n)=i by omega,bq,hi];rfl
 have hx:Rn n τ g h g' (jC n τ h):=by
  refine⟨rfl,rfl,hget,fun i hi hok=>?_⟩;simp only[g']
  rw[hnew hok];rfl
 have hρn:∀i,i<n->g'.ρ i=g.ρ i:=by
  intro i hi;have:=hx.wS i (by omega) (by simp[fe,hi]);rwa[show gp n τ i=i by simp[gp,hi]]at this
 have hgn:∀i o,i<n->h[i]? =some o->(jC n τ h)[i]? =some (lq n τ o):=by
  intro i o hi ho;have:=hget i o ho (by simp[fe,hi]);rwa[show gp n τ i=i by simp[gp,hi]]at this
 have hE:Ext n g h g' (jC n τ h):=by
  refine⟨fun _ _ _ y=>y,fun _ _ y=>y,fun i vs hi ho=>⟨⟨_,hgn i _ hi ho⟩,fun x hx=>by rw[hρn i hi];exact hx⟩,fun i es fl hi ho=>⟨⟨_,_,hgn i _ hi ho⟩,fun x hx=>by rw[hρn i hi];exact hx⟩,
   fun i s p hi ho=>⟨⟨_,_,hgn i _ hi ho⟩,fun x hx=>by rw[hρn i hi];exact hx⟩,fun i st j fn t ps a b hi ho=>⟨⟨st,j,?_⟩,fun x hx=>by rw[hρn i hi];exact hx⟩,
   fun i l hi ho=>⟨⟨_,hgn i _ hi ho⟩,fun x hx=>by rw[hρn i hi];exact hx⟩,fun i k E es gr fl sh hi ho=>?_⟩
  ·have h1:=hgn i _ hi ho;have h2:=(Ih hp (by rw[mV hi];exact ho)).2 _ _ _ _ _ _ _ rfl;simp only[lq,lK h2]at h1;exact h1
  ·have hlen:(if fl=true then es else cC n τ es).length=es.length:=by split<;>simp[vW]
   refine⟨_,_,_,_,_,hgn i _ hi ho,by rw[hlen];exact aQ _,fun off m hom hok=>⟨?_,hlen,fun x hx=>by rw[hρn i hi];exact hx⟩⟩;unfold cM at hok⊢;rwa[hlen]at hok
 have hsub:∀{j b x},g'.ρ j=some (b,x)->∃i,l8 j=some i/\g.ρ i=some (b,x):=by
  intro j b x hj;simp only[g',oX]at hj;exact hj
 have hlen:(jC n τ h).length=n+τ.length:=by
  unfold jC;rw[Im,bu,GQ,eR,rq hn]
 refine⟨g',⟨H.os,H.tape,H.output,H.fN,fun i b x hi=>?_,?_,?_,H.mem,?_,?_,?_,?_,H.mK,H.jX,H.l6⟩,hE,hx⟩
 ·obtain⟨j,_,h2⟩:=hsub hi;exact H.own j b x h2
 ·intro i j b x y hi hj;obtain⟨i',h1,h2⟩:=hsub hi;obtain⟨j',h3,h4⟩:=hsub hj;have:=H.inj i' j' b x y h2 h4;subst this;rw[<-(hold h1).2.2,<-(hold h3).2.2]
 ·intro i hi;simp only[g',l8]
  rw[if_neg (by omega),fS (by omega)];rfl
 ·intro b es ck hb;obtain⟨h1,h2⟩:=H.mm b es ck hb
  exact⟨h1,fun i x hi=>by
   obtain⟨j,_,h4⟩:=hsub hi
   exact h2 j x h4⟩
 ·intro i b sz st o v hi hv;obtain⟨j,h1,h2⟩:=hsub hi;obtain⟨q1,q2,q3⟩:=hold h1;obtain⟨k,E,es,gr,fl,h3,h4⟩:=H.eP j b sz st o v h2 hv;have h5:=hget j _ h3 q2;rw[q3]at h5;refine⟨k,E,_,gr,fl,h5,?_⟩
  have:(if fl=true then es else cC n τ es).length=es.length:=by split<;>simp[vW]
  rw[this];exact h4
 ·intro j o hj;have hjl:=aV hj;rw[hlen]at hjl;unfold jC at hj;rw[HO,cf]at hj;obtain⟨o0,ho,rfl⟩:=hj
  by_cases hjn:j<n
  ·rw[cz (by rw[eR];omega)]at ho;have hok:=(Ih hp ho).1;rw[mV hjn]at ho;exact Sa hx (hρn j hjn) hok (H.ob j o0 ho)
  ·rw[dk (by rw[eR];omega),eR,rq hn]at ho;have hok:=QL hq ho;rw[GK,cf]at ho;obtain⟨x,hxj,ho⟩:=ho;have hm:=i_ hxj;have hlt:=hτ x hm
   have ho2:h[n+x]? =some o0:=by rw[bq,aR hlt]at ho;rw[aR hlt];simpa using ho
   have hold1:l8 j=some (n+x):=by simp only[l8];rw[if_neg hjn,hxj];rfl
   have hr:g'.ρ j=g.ρ (n+x):=by simp only[g'];rw[hold1];rfl
   exact Sa hx hr hok (H.ob _ o0 ho2)
 ·intro m a hm;obtain⟨h1,vs,h2,h3⟩:=H.lZ m a hm;exact⟨h1,vs,cF hx.zero h1 h2,h3⟩
end
def Dn(i m:Nat):Md->Bool
 |.dv v _=>jF i m v
 |_=>true
def iv(i m:Nat)(f:Fr):Bool:=dh i m f.t&&pC i m f.ds&&Dn i m f.md
def lM(as:List (List Nat))(done:List Nat)(i:Nat):Bool:=!done.contains i&&(as.getD i []).all fun j=>done.contains j
def fV(as:List (List Nat)):Nat->List Nat->List (List Nat)
 |0,_=>[[]]
 |n+1,done=>((List.range as.length).filter (lM as done)).flatMap fun i=>(fV as n (i::done)).map (i::·)
theorem Q_{ops:Array Oper}(hed:pf ops=true):∀(fuel n:Nat)(listed:Array Bool)(done:List Nat),listed.size=ops.size->(∀i,i<ops.size->listed.getD i true=done.contains i)->left ops.size listed=fuel->
 Region.linearise.go .any ops fuel n listed []∈fV (oh ops) fuel done
 |0,n,listed,done,_,_,_=>by simp[Region.linearise.go,fV]
 |fuel+1,n,listed,done,hsz,hd,hl=>by
  have hed1:∀i(h:i<ops.size),∀e∈(ops[i]).after.toList,Region.binds .any e=true->e.on<i:=by
   intro i h e he hb;simp only[pf,dU]at hed;have h6:=hed (ops[i],i) (by rw[V3];simp[h]);rw[<-sS,dU]at h6;have h7:=h6 e he;rw[hb]at h7;simpa using h7
  have hal:(oh ops).length=ops.size:=by simp[oh]
  have hf:((List.range ops.size).filter fun i=>!listed.getD i true&&((ops[i]?).map (·.after.all fun e=>!Region.binds .any e||listed.getD e.on false)).getD false)=(List.range ops.size).filter (lM (oh ops) done):=by
   refine List.filter_congr fun i hi=>?_
   have hi:=dJ.1 hi
   have hai:(oh ops).getD i []=(ops[i].after.toList.filter (Region.binds .any)).map (·.on):=by
    simp[oh,bq,hi]
   simp only[lM,hai,hd i hi,j6 hi,dm,j4];congr 1;rw[<-sS,fT,dU,dU];constructor
   ·intro h j hj;simp only[cd,dN]at hj;obtain⟨e,⟨he,hb⟩,rfl⟩:=hj;have h1:=h e he;rw[hb]at h1;have hlt:=hed1 i hi e he hb;rw[vY (by omega) false true,hd e.on (by omega)]at h1;simpa using h1
   ·intro h e he
    cases hb:Region.binds .any e with
    |false=>rfl
    |true=>
     have hlt:=hed1 i hi e he hb;have h1:=h e.on (cd.2 ⟨e,dN.2 ⟨he,hb⟩,rfl⟩);rw[vY (by omega) false true,hd e.on (by omega)];simpa using h1
  have hne:0<((List.range ops.size).filter fun i=>!listed.getD i true&&((ops[i]?).map (·.after.all fun e=>!Region.binds .any e||listed.getD e.on false)).getD false).length:=by
   have hex:∃i,i<ops.size/\listed.getD i true=false:=by
    unfold left at hl;obtain⟨i,hi⟩:=EZ (l:=(List.range ops.size).filter fun i=>!listed.getD i true) (by omega);simp only[dN,dJ,j7]at hi;exact⟨i,hi⟩
   have hmin:∀m i,i<=m->i<ops.size->listed.getD i true=false->∃i,i<ops.size/\listed.getD i true=false/\∀j,j<i->listed.getD j true=true:=by
    intro m
    induction m with
    |zero=>intro i h1 h2 h3;exact⟨i,h2,h3,fun j hj=>by omega⟩
    |succ m ihm=>
     intro i h1 h2 h3
     by_cases h4:∃j,j<i/\listed.getD j true=false
     ·obtain⟨j,h5,h6⟩:=h4;exact ihm j (by omega) (by omega) h6
     ·refine⟨i,h2,h3,fun j hj=>?_⟩
      cases hq:listed.getD j true with
      |true=>rfl
      |false=>exact absurd ⟨j,hj,hq⟩ h4
   obtain⟨i0,h1,h2⟩:=hex;obtain⟨i,h3,h4,h5⟩:=hmin i0 i0 (aQ _) h1 h2;refine EY (a:=i) ?_;simp only[dN,dJ,h4,xa,sR,j6 h3,dm,j4];refine⟨h3,?_⟩;rw[<-sS,dU];intro e he
   cases hb:Region.binds .any e with
   |false=>rfl
   |true=>
    have h7:=hed1 i h3 e he hb;simp only[ru,oW];rw[vY (by omega) false true];exact h5 _ h7
  simp only[Region.linearise.go,fV];rw[hf]at hne⊢;rw[hal];generalize hrs:(List.range ops.size).filter (lM (oh ops) done)=rs at hne⊢;have hlt:n%rs.length<rs.length:=Nat.mod_lt _ hne;rw[aR hlt];generalize hri:rs[n%rs.length]=i
  have him:i∈rs:=by rw[<-hri];exact bw hlt
  have him2:=him;rw[<-hrs]at him2;simp only[dN,dJ,lM,ay,j7]at him2;obtain⟨h1,h2,_⟩:=him2
  have h2':listed.getD i true=false:=by rw[hd i h1];exact h2
  simp only;rw[linearise_go_acc,V4,sP];refine oV.2 ⟨i,him,cd.2 ⟨_,Q_ hed fuel _ _ _ (by simpa using hsz) ?_ ?_,rfl⟩⟩
  ·intro j hj;simp only[iE,uH]
   by_cases hij:i=j
   ·subst hij;simp[hsz,h1]
   ·rw[if_neg hij];have:=hd j hj;rw[iE]at this;rw[this];simp[Ne.symm hij]
  ·have:=HE h1 h2';omega
inductive Reach(P:Program)(Γ:Nat->Option AV):ar->ar->Prop
 |refl (c:ar):Reach P Γ c c
 |trans {a b c:ar}:Reach P Γ a b->Reach P Γ b c->Reach P Γ a c
 |step (c:ar):Reach P Γ c (ig P Γ c)
 |pure {f:FuncId} {args as:List AV} {r:AV} {up:List Fr} {h:List Ob}:cq h args=some as->aS P Γ f as r->Reach P Γ (.cl f args up h) (.back up (dZ h.length r).1 (eC h args r))
 |Jd {f:FuncId} {args as:List AV} {v:AV} {up:List Fr} {h:List Ob}:cq h args=some as->mu P Γ f as v->Reach P Γ (.cl f args up h) (.die up v h)
 |km {f:Fr} {up:List Fr} {h:List Ob} {o:AG} {os:List AG} {k:List It} {c:ar}:f.md=.run->f.its=.ops (o::os)::k->dO f.t o.guard=some true->aB P Γ f.t h o.op=.either->
  (∀b,Reach P Γ (.fr {f with its:=.ops os::k,t:=a_ f.t o.dst (.bool b)} up h) c)->Reach P Γ (.fr f up h) c
 |leave {f:FuncId} {args:List AV} {up:List Fr} {h h':List Ob} {v:AV}:Reach P Γ (.cl f args up h) (.back up v h')->aG h.length v=true->cr h.length (h'.take h.length)=true->Reach P Γ (.cl f args up h) (.back up v (h'.take h.length))
 |RO {f:FuncId} {args:List AV} {up:List Fr} {h h':List Ob} {v:AV}:Reach P Γ (.cl f args up h) (.die up v h')->aG h.length v=true->cr h.length (h'.take h.length)=true->Reach P Γ (.cl f args up h) (.die up v (h'.take h.length))
 |drop {f:Fr} {up:List Fr} {h:List Ob} (n:Nat):f.base<=n->k9 n f=true->cr n (h.take n)=true->Reach P Γ (.fr f up h) (.fr f up (h.take n))
 |reset {f:Fr} {up:List Fr} {h:List Ob} {i k:Nat} {E:TypeId} {es:List AV} {fl sh:Bool}:f.base<=i->h[i]? =some (.row k E es (some 0) fl sh)->iv i es.length f=true->cQ i es.length h=true->
  Reach P Γ (.fr f up h) (.fr f up (h.set i (.row k E es none fl sh)))
 |RD {f:Fr} {up:List Fr} {h:List Ob} {i k:Nat} {E:TypeId} {es:List AV} {fl sh:Bool}:h[i]? =some (.row k E es (some 0) fl sh)->(f::up).all (iv i es.length)=true->cQ i es.length h=true->
  Reach P Γ (.fr f up h) (.fr f up (h.set i (.row k E es none fl sh)))
 |freeze {f:Fr} {up:List Fr} {h:List Ob} {i k:Nat} {E:TypeId} {es es':List AV} {gr:Option Nat} {fl sh:Bool}:h[i]? =some (.row k E es gr fl sh)->gr.getD 0=0->cq h es=some es'->(bZ es).contains i=false->
  Reach P Γ (.fr f up h) (.fr f up ((share (bZ es) h).set i (.row k E es' gr true sh)))
 |RI {f:Fr} {up:List Fr} {h:List Ob} (l:List Nat):Reach P Γ (.fr f up h) (.fr f up (share l h))
 |tree {f:Fr} {up:List Fr} {h:List Ob} (i:Nat):Reach P Γ (.fr f up h) (.fr {f with t:=f.t.set i (mR h (f.t.getD i .undef))} up (share (rowsOf (f.t.getD i .undef)) h))
 |iP {f:Fr} {up:List Fr} {h:List Ob} {i:Nat} (j:Nat) {cs:List AV}:h[i]? =some (.cells cs)->Reach P Γ (.fr f up h) (.fr f up ((share (rowsOf (cs.getD j .undef)) h).set i (.cells (cs.set j (mR h (cs.getD j .undef))))))
 |mj {f:Fr} {up:List Fr} {h:List Ob} {i j k k0:Nat} {cs:List AV} (E:TypeId):h[i]? =some (.cells cs)->cs[j]? =some (.list true k0 [])->0<k->
  Reach P Γ (.fr f up h) (.fr f up ((h++[Ob.row k E [] none true false]).set i (.cells (cs.set j (.sl h.length 0 0)))))
 |CD {f:Fr} {up:List Fr} {h:List Ob} {i j k k0:Nat} {es:List AV} {E0:TypeId} {fl sh:Bool} (E:TypeId):h[i]? =some (.row 1 E0 es none fl sh)->es[j]? =some (.list true k0 [])->0<k->
  Reach P Γ (.fr f up h) (.fr f up ((h++[Ob.row k E [] none true false]).set i (.row 1 E0 (es.set j (.sl h.length 0 0)) none false sh)))
 |cG {f:Fr} {up:List Fr} {h:List Ob} {d:Option Nat} {gd:Option (Nat×Bool)} {k:Nat} {zs:List AV} {ps:List (Nat×AX)} {os:List AG} {k':List It} {es:List AV} (E:TypeId):f.md=.run->f.its=.ops (⟨d,gd,.lit k zs ps⟩::os)::k'->
  dO f.t gd=some true->oq k zs (ps.map fun p=>(p.1,ax f.t p.2))=some es->
  Reach P Γ (.fr f up h) (.fr {f with its:=.ops os::k',t:=a_ f.t d (.sl h.length 0 es.length)} up (h++[.row k E es none (cA es k) false]))
 |mask {f:Fr} {up:List Fr} {h:List Ob} (m:List Bool):Reach P Γ (.fr f up h) (.fr {f with t:=dx m f.t} up h)
 |aP {f:Fr} {up:List Fr} {h h':List Ob} {l:List Bool} {ws:List Nat} {gs:List AG} {k:List It} {orc:List (AV×List Ob)} {t':List AV} {obls obls0:List gW} {hs:List (List Ob)}:f.md=.run->f.its=.code (.aP l ws gs)::k->
  iS P Γ orc gs f.t h=some (t',h',obls,hs)->(∀o∈obls,o∈obls0)->(∀o∈obls0,∀up,Reach P Γ (o.f.cfg o.args up o.h) (.back up o.v o.h'))->calm P Γ obls0 (h::hs) l ws orc gs f.t h->
  Reach P Γ (.fr f up h) (.fr {f with its:=k,t:=t'} up h')
 |CJ {f:Fr} {up:List Fr} {h h':List Ob} {l:List Bool} {ws:List Nat} {gs:List AG} {k:List It} {orc:List (AV×List Ob)} {t':List AV} {obls obls0:List gW} {hs:List (List Ob)} {D:ar} {i:Nat} {E:TypeId} {es:List AV} {gr:Option Nat} {fl sh:Bool} (dies:gW->Prop):f.md=.run->f.its=.code (.aP l ws gs)::k->
  iS P Γ orc gs f.t h=some (t',h',obls,hs)->(∀o∈obls,o∈obls0)->(∀o∈obls0,¬dies o->∀up,Reach P Γ (o.f.cfg o.args up o.h) (.back up o.v o.h'))->(∀o∈obls0,dies o->∀its t,wq gs f.t t->Reach P Γ (o.f.cfg o.args ({f with its:=its,t:=t}::up) o.h) D)->calm P Γ obls0 (h::hs) l ws orc gs f.t h->h'[i]? =some (.row 0 E es gr fl sh)->
  Reach P Γ (.fr f up h) D
 |rX {f:Fr} {up:List Fr} {h:List Ob} {i k k0:Nat} (E:TypeId):f.md=.run->f.t[i]? =some (.list true k0 [])->0<k->
  Reach P Γ (.fr f up h) (.fr {f with t:=f.t.set i (.sl h.length 0 0)} up (h++[Ob.row k E [] none true false]))
 |gc {f:Fr} {up:List Fr} {h:List Ob} (n:Nat) (τ:List Nat):f.md=.run->f.base<=n->n<=h.length->(∀j∈τ,n+j<h.length)->τ.Nodup->ek n τ f.t=true->k_ n f.ds=true->gQ n f.its=true->pE n f.kind=true->
  gz n τ (h.take n)=true->sC n τ (nA h n τ)=true->Reach P Γ (.fr f up h) (.fr {f with t:=cC n τ f.t} up (jC n τ h))
 |gm {f:Fr} {up:List Fr} {h:List Ob} {as:List (List Nat)} {gs:List AG} {k:List It} {c:ar}:f.md=.run->f.its=.code (.gm as gs)::k->
  (∀l∈fV as as.length [],Reach P Γ (.fr {f with its:=.ops (l.map fun i=>gs.getD i default)::k} up h) c)->Reach P Γ (.fr f up h) c
section
variable{P:Program}{Γ:Nat->Option AV}{N:Env}{g0:G}{f0:FuncId}{cs0:List Frame}
theorem C4{ops:Array Oper}:∀(fuel t:Nat)(listed:Array Bool)(i:Nat),i∈Region.linearise.go .any ops fuel t listed []->i<ops.size
 |0,t,listed,i,h=>by simp[Region.linearise.go]at h
 |fuel+1,t,listed,i,h=>by
  simp only[Region.linearise.go]at h
  split at h
  ·rename_i j hj;rw[linearise_go_acc]at h;simp only[List.reverse_cons,List.reverse_nil,j3,eo,bz]at h
   rcases h with rfl|h
   ·have:=i_ hj;simp only[dN,dJ]at this;exact this.1
   ·exact C4 fuel _ _ i h
  ·simp at h
theorem Co{ops:Array Oper}{gs:List AG}(h:ops.toList.mapM (oN P ops.toList)=some gs):∀{l:List Nat},(∀i∈l,i<ops.size)->I5 P ops (l.map fun i=>gs.getD i default) l
 |[],_=>.nil
 |i::l,hl=>by
  obtain⟨h1,h2⟩:=zi h
  have hi:i<gs.length:=by rw[h1];simpa using hl i (by simp)
  obtain⟨o,ho,hc⟩:=h2 i _ (aR hi);refine .cons ⟨o,by simpa using ho,?_⟩ (Co h fun j hj=>hl j (dw _ hj));simp only[bq,aR hi];exact hc
def gR(P:Program)(Γ:Nat->Option AV)(N:Env)(g0:G)(f0:FuncId)(cs0:List Frame)(c c':ar):Prop:=
 ∀m,c_ P Γ N g0 f0 cs0 c m->∃m',Steps P m m'/\c_ P Γ N g0 f0 cs0 c' m'
theorem gR.trans{a b c:ar}(h1:gR P Γ N g0 f0 cs0 a b)(h2:gR P Γ N g0 f0 cs0 b c):gR P Γ N g0 f0 cs0 a c:=by
 intro m hm;obtain⟨m1,s1,h⟩:=h1 m hm;obtain⟨m2,s2,h⟩:=h2 m1 h;exact⟨m2,s1.trans s2,h⟩
theorem gR.step(c:ar):gR P Γ N g0 f0 cs0 c (ig P Γ c):=fun _ hm=>aaX hm
theorem aaR{g:G}{h:List Ob}{i k:Nat}{E:TypeId}{es:List AV}{fl sh:Bool}{f:Fr}{fr:Frame}(hi:h[i]? =some (.row k E es (some 0) fl sh))(hf:iv i es.length f=true)(S:lX P g h f fr):lX P g (h.set i (.row k E es none fl sh)) f fr:=by
 have hmr:=S.md;simp only[iv,ay]at hf
 have hkind:∀{j:Nat}{o:Ob},h[j]? =some o->(∀k E es gr fl sh,o≠Ob.row k E es gr fl sh)->(h.set i (.row k E es none fl sh))[j]? =some o:=by
  intro j o hj hne;rw[dM]
  ·exact hj
  ·rintro rfl
   rw[hi]at hj
   cases hj
   exact hne _ _ _ _ _ _ rfl
 have hLR:∀{l b},LR g h l b->LR g (h.set i (.row k E es none fl sh)) l b:=by
  rintro l b ⟨⟨a1,a2,a3,a4,a5,a6,a7,h1⟩,h2⟩
  exact⟨⟨a1,a2,a3,a4,a5,a6,a7,hkind h1 (by simp)⟩,h2⟩
 have hIR:∀{k1:List It}{k2:List Item},IR P g h k1 k2->IR P g (h.set i (.row k E es none fl sh)) k1 k2:=by
  intro k1
  induction k1 with
  |nil=>intro k2 hk;cases k2<;>simp only[IR]at hk⊢
  |cons a k1 ih=>
   intro k2 hk
   cases k2 with
   |nil=>cases a<;>simp only[IR]at hk
   |cons b k2=>
    cases a<;>cases b<;>simp only[IR]at hk⊢
    ·exact⟨hk.1,ih hk.2⟩
    ·exact⟨hk.1,ih hk.2⟩
    ·exact⟨hk.1,ih hk.2⟩
    ·exact⟨hk.1,ih hk.2⟩
    ·exact⟨hLR hk.1,ih hk.2⟩
    ·exact⟨hLR hk.1,ih hk.2⟩
    ·exact ih hk
 have hDR:∀{ds1:List dF}{ds2:List Deferred},pC i es.length ds1=true->F2 (DR g h) ds1 ds2->F2 (DR g (h.set i (.row k E es none fl sh))) ds1 ds2:=by
  intro ds1 ds2 hv hd
  induction hd with
  |nil=>exact .nil
  |@cons a b as bs h1 _ ih=>
   cases a with
   |call c args=>
    simp only[pC,ay]at hv;obtain⟨cap,q1,q2⟩:=h1;exact .cons ⟨cap,q1,mh hi hv.1 q2⟩ (ih hv.2)
   |mark l=>
    simp only[pC]at hv;obtain⟨⟨q,q1⟩,q2⟩:=h1;exact .cons ⟨⟨q,hkind q1 (by simp)⟩,q2⟩ (ih hv)
 ·refine⟨?_,S.fn,hIR S.its,mh hi hf.1.1 S.t,hDR hf.1.2 S.ds,?_,S.is⟩
  ·have hv:=hf.2
   cases hm2:f.md with
   |run=>rw[hm2]at hmr;exact hmr
   |ret=>rw[hm2]at hmr;exact hmr
   |dv v rc=>
    rw[hm2]at hmr hv;obtain⟨u,q1,q2⟩:=hmr;exact⟨u,q1,vV hi (by simpa only [Dn]using hv) q2⟩
  ·have hk:=S.kind
   cases hk2:f.kind with
   |norm=>rw[hk2]at hk;exact hk
   |bD=>rw[hk2]at hk;exact hk
   |round l=>
    rw[hk2]at hk;obtain⟨q1,b,q2,q3⟩:=hk;exact⟨q1,b,q2,hLR q3⟩
theorem O5{g:G}{h:List Ob}{i k:Nat}{E:TypeId}{es:List AV}{fl sh:Bool}{f0:FuncId}(hi:h[i]? =some (.row k E es (some 0) fl sh)):∀{n:Nat}{l:List Fr}{fs:List Frame},l.all (iv i es.length)=true->SR P g h f0 n l fs->SR P g (h.set i (.row k E es none fl sh)) f0 n l fs
 |_,[],_,_,h1=>h1
 |n,f::up,fs,hv,h1=>by
  obtain⟨fr,fs',h2,h3,h4,h5,h6,h7⟩:=h1;simp only[sN,ay]at hv;exact⟨fr,fs',h2,aaR hi hv.1 h3,h4,h5,h6,O5 hi hv.2 h7⟩
theorem QS{Rl:ar->ar->Prop}(htr:∀a b c,Rl a b->Rl b c->Rl a c)(hst:∀c,Rl c (ig P Γ c)){f:Fr}{up:List Fr}{h h':List Ob}{l:List Bool}{ws:List Nat}{gs:List AG}{k:List It}{orc:List (AV×List Ob)}{t':List AV}{obls obls0:List gW}{hs:List (List Ob)}(hmd:f.md=.run)(hits:f.its=.code (.aP l ws gs)::k)
 (hr:iS P Γ orc gs f.t h=some (t',h',obls,hs))(hsub:∀o∈obls,o∈obls0)(hob:∀o∈obls0,∀its t,wq gs f.t t->Rl (o.f.cfg o.args ({f with its:=its,t:=t}::up) o.h) (.back ({f with its:=its,t:=t}::up) o.v o.h'))(hc:calm P Γ obls0 (h::hs) l ws orc gs f.t h){m:Machine}(hm:c_ P Γ N g0 f0 cs0 (.fr f up h) m):
 ∃m1 c1,Steps P m m1/\c_ P Γ N g0 f0 cs0 c1 m1/\Rl c1 (.fr {f with its:=k,t:=t'} up h'):=by
 obtain⟨g,w,tmps,todo,ds,kd,ro,md,fs,rfl,S,hmr⟩:=hm.inv;rw[hmd]at hmr;simp only[MR]at hmr;subst hmr;have hI:=S.its;rw[hits]at hI
 cases todo with
 |nil=>simp only[IR]at hI
 |cons im k'=>
 cases im<;>simp only[IR]at hI
 rename_i c;obtain⟨hC,hk⟩:=hI
 cases c<;>try (simp only[CR]at hC;done)
 rename_i id ops draw
 cases draw<;>simp only[CR]at hC
 obtain⟨hgs,hok,rfl,rfl⟩:=hC;simp only[zT,ay]at hok;obtain⟨⟨hok1,hok2⟩,hok3⟩:=hok;obtain⟨T,H,v,hT0,hH0,hTn,hHn,hat,hk0⟩:=vE hr hsub hc
 have hlen:gs.length=ops.size:=by rw[(zi hgs).1];simp
 have R:rn P Γ ops gs obls0 h hs T H v:=⟨hlen,hok1,hok2,hH0,hat,hk0⟩
 have hsched:∀x,Region.schedule (P.follows .mixedOrders) ops x=Region.linearise.go .any ops ops.size x (Array.replicate ops.size false) []:=by
  intro x;unfold Region.schedule;rw[if_pos (by simpa using hok3)];rfl
 have hgetD:∀i d,(Array.replicate ops.size false).getD i d=if i<ops.size then false else d:=by
  intro i d;rw[iE,V5]
  split<;>rfl
 have F:AP ops gs T H v (Array.replicate ops.size false) f.t h:=by
  refine⟨by simp,?_,by rw[hT0],?_,fun s _=>by rw[hT0],0,wW _,hH0.symm,fun _ _ h=>by omega,?_⟩
  ·intro i o ho hl;have:=aV (l:=ops.toList) (i:=i) (a:=o) (by simpa using ho);rw[hgetD,if_pos (by simpa using this)]at hl
   cases hl
  ·intro j x s hx hl;have:=aV hx;rw[hgetD,if_pos (by omega)]at hl
   cases hl
  ·intro j x _ hx _;have:=aV hx;rw[hgetD,if_pos (by omega)]
 have hleft:left ops.size (Array.replicate ops.size false)=ops.size:=by
  unfold left;rw[AY.2,pV];intro i hi;rw[hgetD,if_pos (by simpa using hi)];rfl
 have h1:=adD (Rl:=Rl) R htr hst (by rw[hT0];exact hob) hmd (k:=k) ops.size (w.tape w.drawn (.order f.fn id)) _ f.t h F hleft;rw[hTn,hHn]at h1;have S':St P Γ N g0 f0 g h w.drew f up tmps (.code (.region id ops true)::k') ds kd ro fs:=⟨S.H.world rfl rfl rfl rfl,S.M,S.its,S.t,S.ds,S.kind,S.is,S.b,S.z,S.s⟩
 have h2:c_ P Γ N g0 f0 cs0 (.fr {f with its:=.ops ((Region.linearise.go .any ops ops.size (w.tape w.drawn (.order f.fn id)) (Array.replicate ops.size false) []).map fun i=>gs.getD i default)::k,t:=f.t} up h)
  (lone (aI f.fn tmps (.inRegion ops (Region.schedule (P.follows .mixedOrders) ops (w.tape w.drawn (.order f.fn id)))::k') ds kd ro) (fs++cs0) w.drew):=by
  rw[hsched];exact S'.go hmd (its:=.ops _::k) ⟨Co hgs fun i hi=>C4 _ _ _ i hi,hk⟩ S.t
 exact⟨_,_,Steps.one Il,h2,h1⟩
theorem gR.aP{f:Fr}{up:List Fr}{h h':List Ob}{l:List Bool}{ws:List Nat}{gs:List AG}{k:List It}{orc:List (AV×List Ob)}{t':List AV}{obls obls0:List gW}{hs:List (List Ob)}(hmd:f.md=.run)(hits:f.its=.code (.aP l ws gs)::k)
 (hr:iS P Γ orc gs f.t h=some (t',h',obls,hs))(hsub:∀o∈obls,o∈obls0)(hob:∀o∈obls0,∀up,gR P Γ N g0 f0 cs0 (o.f.cfg o.args up o.h) (.back up o.v o.h'))(hc:calm P Γ obls0 (h::hs) l ws orc gs f.t h):
 gR P Γ N g0 f0 cs0 (.fr f up h) (.fr {f with its:=k,t:=t'} up h'):=by
 intro m hm;obtain⟨m1,c1,s1,h1,h2⟩:=QS (Rl:=gR P Γ N g0 f0 cs0) (fun _ _ _ a b=>a.trans b) gR.step hmd hits hr hsub (fun o ho _ _ _=>hob o ho _) hc hm;obtain⟨m',s',h3⟩:=h2 _ h1;exact⟨m',s1.trans s',h3⟩
theorem gR.CJ{f:Fr}{up:List Fr}{h h':List Ob}{l:List Bool}{ws:List Nat}{gs:List AG}{k:List It}{orc:List (AV×List Ob)}{t':List AV}{obls obls0:List gW}{hs:List (List Ob)}{D:ar}{i:Nat}{E:TypeId}{es:List AV}{gr:Option Nat}{fl sh:Bool}(hmd:f.md=.run)(hits:f.its=.code (.aP l ws gs)::k)
 (hr:iS P Γ orc gs f.t h=some (t',h',obls,hs))(hsub:∀o∈obls,o∈obls0)(hob:∀o∈obls0,(∀up,gR P Γ N g0 f0 cs0 (o.f.cfg o.args up o.h) (.back up o.v o.h'))\/∀its t,wq gs f.t t->gR P Γ N g0 f0 cs0 (o.f.cfg o.args ({f with its:=its,t:=t}::up) o.h) D)(hc:calm P Γ obls0 (h::hs) l ws orc gs f.t h)(hi:h'[i]? =some (.row 0 E es gr fl sh)):
 gR P Γ N g0 f0 cs0 (.fr f up h) D:=by
 intro m hm
 obtain⟨m1,c1,s1,h1,h2⟩:=QS (Rl:=fun a b=>gR P Γ N g0 f0 cs0 a D\/gR P Γ N g0 f0 cs0 a b) (fun _ _ _ a b=>by
  rcases a with a|a
  ·exact .inl a
  ·rcases b with b|b
   ·exact .inl (a.trans b)
   ·exact .inr (a.trans b)) (fun c=>.inr (gR.step c)) hmd hits hr hsub (fun o ho its t hk=>by
  rcases hob o ho with h4|h4
  ·exact .inr (h4 _)
  ·exact .inl (h4 its t hk)) hc hm
 rcases h2 with h2|h2
 ·obtain⟨m',s',h3⟩:=h2 _ h1;exact⟨m',s1.trans s',h3⟩
 ·obtain⟨m',s',h3⟩:=h2 _ h1;obtain⟨g,w,fr,fs,_,H,_⟩:=h3;have:=H.ob i _ hi;simp only[OV]at this;omega
theorem Gc{f:Fr}{up:List Fr}{h:List Ob}{as:List (List Nat)}{gs:List AG}{k:List It}(hmd:f.md=.run)(hits:f.its=.code (.gm as gs)::k){m:Machine}(hm:c_ P Γ N g0 f0 cs0 (.fr f up h) m):
 ∃l∈fV as as.length [],∃m1,Steps P m m1/\c_ P Γ N g0 f0 cs0 (.fr {f with its:=.ops (l.map fun i=>gs.getD i default)::k} up h) m1:=by
 obtain⟨g,w,tmps,todo,ds,kd,ro,md,fs,rfl,S,hmr⟩:=hm.inv;rw[hmd]at hmr;simp only[MR]at hmr;subst hmr;have hI:=S.its;rw[hits]at hI
 cases todo with
 |nil=>simp only[IR]at hI
 |cons im k'=>
 cases im<;>simp only[IR]at hI
 rename_i c;obtain⟨hC,hk⟩:=hI
 cases c<;>try (simp only[CR]at hC;done)
 rename_i id ops draw
 cases draw<;>simp only[CR]at hC
 obtain⟨hgs,hok2,hok3,rfl⟩:=hC
 have hsched:∀x,Region.schedule (P.follows .mixedOrders) ops x=Region.linearise.go .any ops ops.size x (Array.replicate ops.size false) []:=by
  intro x;unfold Region.schedule;rw[if_pos (by simpa using hok3)];rfl
 have hgetD:∀i d,(Array.replicate ops.size false).getD i d=if i<ops.size then false else d:=by
  intro i d;rw[iE,V5]
  split<;>rfl
 have hleft:left ops.size (Array.replicate ops.size false)=ops.size:=by
  unfold left;rw[AY.2,pV];intro i hi;rw[hgetD,if_pos (by simpa using hi)];rfl
 have hmem:=Q_ hok2 ops.size (w.tape w.drawn (.order f.fn id)) (Array.replicate ops.size false) [] (by simp) (fun i hi=>by rw[hgetD,if_pos hi];rfl) hleft
 have hal:(oh ops).length=ops.size:=by simp[oh]
 have S':St P Γ N g0 f0 g h w.drew f up tmps (.code (.region id ops true)::k') ds kd ro fs:=⟨S.H.world rfl rfl rfl rfl,S.M,S.its,S.t,S.ds,S.kind,S.is,S.b,S.z,S.s⟩;refine⟨_,by rw[hal];exact hmem,_,Steps.one Il,?_⟩;rw[hsched];exact S'.go hmd (its:=.ops _::k) ⟨Co hgs fun i hi=>C4 _ _ _ i hi,hk⟩ S.t
theorem FM{f:Fr}{up:List Fr}{h:List Ob}{o:AG}{os:List AG}{k:List It}(hmd:f.md=.run)(hits:f.its=.ops (o::os)::k)(hw:dO f.t o.guard=some true)(ha:aB P Γ f.t h o.op=.either){m:Machine}(hm:c_ P Γ N g0 f0 cs0 (.fr f up h) m):
 ∃b m1,Steps P m m1/\c_ P Γ N g0 f0 cs0 (.fr {f with its:=.ops os::k,t:=a_ f.t o.dst (.bool b)} up h) m1:=by
 obtain⟨g,w,tmps,todo,ds,kd,ro,md,fs,rfl,S,hmr⟩:=hm.inv;rw[hmd]at hmr;simp only[MR]at hmr;subst hmr;have hI:=S.its;rw[hits]at hI
 cases todo with
 |nil=>simp only[IR]at hI
 |cons im k'=>
 cases im<;>simp only[IR]at hI
 rename_i ops todo;obtain⟨hO,hk⟩:=hI
 cases hO with
 |cons h1 hO=>
 rename_i i rest;obtain⟨op,hop,hcag⟩:=h1;obtain⟨hw1,hcop,hdst⟩:=Bx hcag S.t hw;have hs:fR P Γ N g h w (⟨tmps,ds⟩:Act).eval op (aB P Γ f.t h o.op):=N6 (a:=⟨tmps,ds⟩) S.H S.t hcop
 have hnd:=fun x y=>Oh (Γ:=Γ) (h:=h) (t:=f.t) hcop x y
 rw[ha]at hs hnd;obtain⟨b,g',w',nx,h2,h3,h4,u,rfl,h6⟩:=hs;have S1:=S.mono h3 h4 (aQ _);have hs1:=St.go (cs0:=cs0) S1 hmd (its:=.ops os::k) (todo':=.inRegion ops rest::k') (t:=a_ f.t o.dst (.bool b)) (tmps':=mJ tmps o.dst u) ⟨hO,by have:=S1.its;rw[hits]at this;exact this.2⟩ (oe S1.t h6);rw[hdst]at hs1;have hst:=Hi (cs:=fs++cs0) (fn:=f.fn) (k:=k') (rest:=rest) (kd:=kd) (ro:=ro) hop hw1 (Or.inr (hnd (by simp) (by simp))) h2;rw[<-hdst]at hs1;exact⟨b,_,Steps.one hst,by rw[hdst]at hs1⊢;exact hs1⟩
theorem R5{g1 g2:G}{h1 h2:List Ob}{n m:Nat}:∀{up:List Fr}{fs1 fs2:List Frame},SR P g1 h1 f0 n up fs1->SR P g2 h2 f0 m up fs2->SR P g2 h2 f0 n up fs2
 |[],_,_,_,b=>b
 |f::up,_,_,a,b=>by
  obtain⟨_,_,_,_,a4,a5,_,_⟩:=a;obtain⟨fr,fs',b2,b3,b4,b5,b6,b7⟩:=b;exact⟨fr,fs',b2,b3,a4,a5,b6,b7⟩
theorem FW{c c':ar}(hr:Reach P Γ c c'):gR P Γ N g0 f0 cs0 c c':=by
 induction hr with
 |refl c=>exact fun m hm=>⟨m,.refl _ _,hm⟩
 |trans _ _ h1 h2=>exact h1.trans h2
 |step c=>exact gR.step c
 |pure hv hp=>exact fun m hm=>aaY hp hv hm
 |Jd hv hp=>exact fun m hm=>ab5 hp hv hm
 |@km f up h o os k c hmd hits hw ha _ ih=>
  intro m hm;obtain⟨b,m1,s1,h1⟩:=FM hmd hits hw ha hm;obtain⟨m',s',h7⟩:=ih b _ h1;exact⟨m',s1.trans s',h7⟩
 |@leave f args up h h' v _ hv hh ih=>
  intro m hm;obtain⟨m',s',h7⟩:=ih m hm
  by_cases hn:h'.length<=h.length
  ·rw[cR hn];exact⟨m',s',h7⟩
  refine⟨m',s',?_⟩
  have hlen:(h'.take h.length).length=h.length:=by rw[eR];omega
  obtain⟨g0,w0,vs0,fs0,_,_,_,_,_,S0,_⟩:=hm
  cases up with
  |nil=>
   obtain⟨g,w,u,fr,e,H,M,hV,h8,h9⟩:=h7;obtain⟨H',x⟩:=H.drop hh;exact⟨_,w,u,fr,e,H',M,gG x hv hV,h8,h9⟩
  |cons c up=>
   obtain⟨g,w,u,fr,fs,e,H,M,hV,S⟩:=h7;obtain⟨H',x⟩:=H.drop hh;exact⟨_,w,u,fr,fs,e,H',M,gG x hv hV,by rw[hlen];exact h_ x (aQ _) (R5 S0 S)⟩
 |@RO f args up h h' v _ hv hh ih=>
  intro m hm;obtain⟨m',s',h7⟩:=ih m hm
  by_cases hn:h'.length<=h.length
  ·rw[cR hn];exact⟨m',s',h7⟩
  refine⟨m',s',?_⟩
  have hlen:(h'.take h.length).length=h.length:=by rw[eR];omega
  obtain⟨g0,w0,vs0,fs0,_,_,_,_,_,S0,_⟩:=hm
  cases up with
  |nil=>
   obtain⟨g,w,u,fr,e,H,M,hV,h8,h9⟩:=h7;obtain⟨H',x⟩:=H.drop hh;exact⟨_,w,u,fr,e,H',M,gG x hv hV,h8,h9⟩
  |cons c up=>
   obtain⟨g,w,u,fr,fs,e,H,M,hV,S⟩:=h7;obtain⟨H',x⟩:=H.drop hh;exact⟨_,w,u,fr,fs,e,H',M,gG x hv hV,by rw[hlen];exact h_ x (aQ _) (R5 S0 S)⟩
 |@drop f up h n hb hf hh=>
  intro m hm;obtain⟨g,w,tmps,todo,ds,kd,ro,md,fs,rfl,S,hmr⟩:=hm.inv;obtain⟨H',x⟩:=S.H.drop hh;have hR:=B1 x hf (S.rel hmr);refine⟨_,.refl _ _,?_⟩
  by_cases hn:n<=h.length
  ·exact⟨_,w,_,fs,rfl,H',S.M,_,fs,rfl,hR,qm hR,by rw[eR,rq hn];exact hb,S.z,h_ (x.mono hb) (aQ _) S.s⟩
  ·exact⟨_,w,_,fs,rfl,H',S.M,_,fs,rfl,hR,qm hR,by rw[eR,Nat.min_eq_right (by omega)];exact S.b,S.z,h_ (x.mono hb) (aQ _) S.s⟩
 |@reset f up h i k E es fl sh hb hi hf hh=>
  intro m hm;obtain⟨g,w,tmps,todo,ds,kd,ro,md,fs,rfl,S,hmr⟩:=hm.inv;have H':=S.H.reset hi hh;have x:Ext f.base g h g (h.set i (.row k E es none fl sh)):=Ext.reset hb _;simp only[iv,ay]at hf
  have hkind:∀{j:Nat}{o:Ob},h[j]? =some o->(∀k E es gr fl sh,o≠Ob.row k E es gr fl sh)->(h.set i (.row k E es none fl sh))[j]? =some o:=by
   intro j o hj hne;rw[dM]
   ·exact hj
   ·rintro rfl
    rw[hi]at hj
    cases hj
    exact hne _ _ _ _ _ _ rfl
  have hLR:∀{l b},LR g h l b->LR g (h.set i (.row k E es none fl sh)) l b:=by
   rintro l b ⟨⟨a1,a2,a3,a4,a5,a6,a7,h1⟩,h2⟩
   exact⟨⟨a1,a2,a3,a4,a5,a6,a7,hkind h1 (by simp)⟩,h2⟩
  have hIR:∀{k1:List It}{k2:List Item},IR P g h k1 k2->IR P g (h.set i (.row k E es none fl sh)) k1 k2:=by
   intro k1
   induction k1 with
   |nil=>intro k2 hk;cases k2<;>simp only[IR]at hk⊢
   |cons a k1 ih=>
    intro k2 hk
    cases k2 with
    |nil=>cases a<;>simp only[IR]at hk
    |cons b k2=>
     cases a<;>cases b<;>simp only[IR]at hk⊢
     ·exact⟨hk.1,ih hk.2⟩
     ·exact⟨hk.1,ih hk.2⟩
     ·exact⟨hk.1,ih hk.2⟩
     ·exact⟨hk.1,ih hk.2⟩
     ·exact⟨hLR hk.1,ih hk.2⟩
     ·exact⟨hLR hk.1,ih hk.2⟩
     ·exact ih hk
  have hDR:∀{ds1:List dF}{ds2:List Deferred},pC i es.length ds1=true->F2 (DR g h) ds1 ds2->F2 (DR g (h.set i (.row k E es none fl sh))) ds1 ds2:=by
   intro ds1 ds2 hv hd
   induction hd with
   |nil=>exact .nil
   |@cons a b as bs h1 _ ih=>
    cases a with
    |call c args=>
     simp only[pC,ay]at hv;obtain⟨cap,q1,q2⟩:=h1;exact .cons ⟨cap,q1,mh hi hv.1 q2⟩ (ih hv.2)
    |mark l=>
     simp only[pC]at hv;obtain⟨⟨q,q1⟩,q2⟩:=h1;exact .cons ⟨⟨q,hkind q1 (by simp)⟩,q2⟩ (ih hv)
  have hR:lX P g (h.set i (.row k E es none fl sh)) f (aI f.fn tmps todo ds kd ro md):=by
   refine⟨?_,rfl,hIR S.its,mh hi hf.1.1 S.t,hDR hf.1.2 S.ds,?_,S.is⟩
   ·have hv:=hf.2
    cases hm2:f.md with
    |run=>rw[hm2]at hmr;exact hmr
    |ret=>rw[hm2]at hmr;exact hmr
    |dv v rc=>
     rw[hm2]at hmr hv;obtain⟨u,q1,q2⟩:=hmr;exact⟨u,q1,vV hi (by simpa only [Dn]using hv) q2⟩
   ·have hk:=S.kind
    cases hk2:f.kind with
    |norm=>rw[hk2]at hk;exact hk
    |bD=>rw[hk2]at hk;exact hk
    |round l=>
     rw[hk2]at hk;obtain⟨q1,b,q2,q3⟩:=hk;exact⟨q1,b,q2,hLR q3⟩
  exact⟨_,.refl _ _,g,w,_,fs,rfl,H',S.M,_,fs,rfl,hR,qm hR,by rw[jZ];exact S.b,S.z,h_ x (aQ _) S.s⟩
 |@RD f up h i k E es fl sh hi hf hh=>
  intro m hm;obtain⟨g,w,fr,fs,rfl,H,M,S⟩:=hm;refine⟨_,.refl _ _,g,w,fr,fs,rfl,H.reset hi hh,M,?_⟩;rw[jZ];exact O5 hi hf S
 |@freeze f up h i k E es es' gr fl sh hi hg hv hn=>
  intro m hm;obtain⟨g,w,fr,fs,rfl,H,M,S⟩:=hm;obtain⟨g',H',x⟩:=H.freeze hi hg hv hn;exact⟨_,.refl _ _,g',w,fr,fs,rfl,H',fun b o v hv=>x.M _ _ _ (M b o v hv),h_ x (by simp[lC]) S⟩
 |@RI f up h l=>
  intro m hm;obtain⟨g,w,fr,fs,rfl,H,M,S⟩:=hm;obtain⟨g',_,_,_,H',x,_⟩:=o9 l H;exact⟨_,.refl _ _,g',w,fr,fs,rfl,H',fun b o v hv=>x.M _ _ _ (M b o v hv),h_ x (by simp[lC]) S⟩
 |@tree f up h i=>
  intro m hm;obtain⟨g,w,fr,fs,rfl,H,M,fr',fs',hfs,hR,hb0,hb,hz,hS⟩:=hm
  cases hfs
  obtain⟨g',_,_,_,H',x,hC⟩:=o9 (rowsOf (f.t.getD i .undef)) H;have hR1:=B1 x hb0 hR;have ht:=qz i hR1.t (R7 H x hC (t_ i hR.t))
  have h6:fr.tmps.toList.set i (fr.tmps.toList.getD i undef)=fr.tmps.toList:=by
   apply iC;intro m
   by_cases hm:i=m
   ·subst hm;rw[pX]
    by_cases hl:i<fr.tmps.toList.length
    ·rw[if_pos rfl,if_pos hl,bq,aR hl];rfl
    ·rw[if_pos rfl,if_neg hl,fS (by omega)]
   ·rw[dM hm]
  rw[h6]at ht;have hR2:lX P g' (share (rowsOf (f.t.getD i .undef)) h) {f with t:=f.t.set i (mR h (f.t.getD i .undef))} fr:=⟨hR1.md,hR1.fn,hR1.its,ht,hR1.ds,hR1.kind,hR1.is⟩;exact⟨_,.refl _ _,g',w,fr,fs,rfl,H',fun b o v hv=>x.M _ _ _ (M b o v hv),fr,fs,rfl,hR2,qm hR2,by rw[lC];exact hb,hz,h_ (x.mono hb) (aQ _) hS⟩
 |@iP f up h i j cs hi=>
  intro m hm;obtain⟨g,w,fr,fs,rfl,H,M,S⟩:=hm;obtain⟨g',H',x⟩:=H.iP j hi;exact⟨_,.refl _ _,g',w,fr,fs,rfl,H',fun b o v hv=>x.M _ _ _ (M b o v hv),h_ x (by simp[lC]) S⟩
 |@mj f up h i j k k0 cs E hi hj hk=>
  intro m hm;obtain⟨g,w,fr,fs,rfl,H,M,S⟩:=hm;obtain⟨g',H',x⟩:=H.dP E hi hj hk;exact⟨_,.refl _ _,g',w,fr,fs,rfl,H',fun b o v hv=>x.M _ _ _ (M b o v hv),h_ x (by simp) S⟩
 |@CD f up h i j k k0 es E0 fl sh E hi hj hk=>
  intro m hm;obtain⟨g,w,fr,fs,rfl,H,M,S⟩:=hm;obtain⟨g',H',x⟩:=H.CD E hi hj hk;exact⟨_,.refl _ _,g',w,fr,fs,rfl,H',fun b o v hv=>x.M _ _ _ (M b o v hv),h_ x (by simp) S⟩
 |@cG f up h d gd k zs ps os k' es E hmd hits hw hf=>
  intro m hm;obtain⟨g,w,tmps,todo,ds,kd,ro,md,fs,rfl,S,hmr⟩:=hm.inv;rw[hmd]at hmr;simp only[MR]at hmr;subst hmr;have hI:=S.its;rw[hits]at hI
  cases todo with
  |nil=>simp only[IR]at hI
  |cons im k'_1=>
  cases im<;>simp only[IR]at hI
  rename_i ops todo;obtain⟨hO,hk⟩:=hI
  cases hO with
  |cons h1 hO=>
  rename_i i rest;obtain⟨op,hop,hcag⟩:=h1;obtain⟨hw1,hcop,hdst⟩:=Bx hcag S.t hw;obtain⟨ty,n,parts,e,z,q1,q2,q3,q4,q5,q6,q7,rfl,rfl⟩:=afU hcop;have hs:=acf (t:=f.t) (fl:=cA es k) S.H (r:=(⟨tmps,ds⟩:Act).eval) q1 q2 q3 q4 q5 q6 q7 (fun x=>DC S.t x) hf id E;obtain⟨g',w',nx,h2,h3,h4,u,rfl,h6⟩:=hs;have S1:=S.mono h3 h4 (by simp);have hs1:=St.go (cs0:=cs0) S1 hmd (its:=.ops os::k') (todo':=.inRegion ops rest::k'_1) (t:=a_ f.t d (.sl h.length 0 es.length)) (tmps':=mJ tmps d u) ⟨hO,by have:=S1.its;rw[hits]at this;exact this.2⟩ (oe S1.t h6);have hdst':d=op.dst:=hdst;have hst:=Hi (cs:=fs++cs0) (fn:=f.fn) (k:=k'_1) (rest:=rest) (kd:=kd) (ro:=ro) hop hw1 (Or.inr (by intro c hc;rw[q1]at hc;cases hc)) h2;rw[<-hdst']at hst;exact⟨_,Steps.one hst,hs1⟩
 |@mask f up h m=>
  intro mm hm;obtain⟨g,w,tmps,todo,ds,kd,ro,md,fs,rfl,S,hmr⟩:=hm.inv;exact⟨_,.refl _ _,St.kE (f:={f with t:=dx m f.t}) ⟨S.H,S.M,S.its,qx m S.t,S.ds,S.kind,S.is,S.b,S.z,S.s⟩ hmr⟩
 |aP hmd hits hr hsub _ hc ih=>exact gR.aP hmd hits hr hsub ih hc
 |CJ dies hmd hits hr hsub _ _ hc hi ih1 ih2=>
  exact gR.CJ hmd hits hr hsub (fun o ho=>by
   by_cases hd:dies o
   ·exact .inr (ih2 o ho hd)
   ·exact .inl (ih1 o ho hd)) hc hi
 |@rX f up h i k k0 E hmd hi hk=>
  intro m hm;obtain⟨g,w,fr,fs,rfl,H,M,fr',fs',hfs,hR,hb0,hb,hz,hS⟩:=hm
  cases hfs
  have hE:=Ext.push (g:=g) (h:=h) [Ob.row k E [] none true false] none
  have H1:Inv P Γ N (g.bM h.length none) (h++[Ob.row k E [] none true false]) w:=by
   refine Inv.push (r:=none) H rfl rfl rfl (fun _ _=>rfl) (aQ _) (fun b x hb=>by cases hb) ?_ (fun j o hj=>by simp at hj);simp only[OV];rw[dd];exact⟨hk,by simp,fun _=>rfl,by simp,trivial⟩
  have hR1:=B1 hE hb0 hR;obtain⟨v,hv1,hv2⟩:=rV hR1.t hi;simp only[V]at hv2;obtain⟨_,a,cap,rfl,hcap,_,_⟩:=hv2
  have hcap0:cap=0:=by simpa using hcap trivial
  subst hcap0
  have hx:V (g.bM h.length none) (h++[Ob.row k E [] none true false]) (.sl h.length 0 0) (.slice a ([]:List AV).length 0):=by
   simp only[V];exact⟨k,E,[],none,true,false,by simp,by simp,a,0,rfl,by simp,by simp,fun _=>⟨by simp,Or.inl ⟨rfl,rfl⟩⟩⟩
  have ht:=qz i hR1.t hx
  have h6:fr.tmps.toList.set i (.slice a ([]:List AV).length 0)=fr.tmps.toList:=by
   apply iC;intro m
   by_cases hm:i=m
   ·subst hm;rw[eI (aV hv1),hv1]
   ·rw[dM hm]
  rw[h6]at ht;have hR2:lX P (g.bM h.length none) (h++[Ob.row k E [] none true false]) {f with t:=f.t.set i (.sl h.length 0 0)} fr:=⟨hR1.md,hR1.fn,hR1.its,ht,hR1.ds,hR1.kind,hR1.is⟩;exact⟨_,.refl _ _,_,w,fr,fs,rfl,H1,fun b o v hv=>hE.M _ _ _ (M b o v hv),fr,fs,rfl,hR2,qm hR2,by simp;omega,hz,h_ (hE.mono hb) (aQ _) hS⟩
 |@gc f up h n τ hmd hb hn hτ hnd ht hd hi hk hp hq=>
  intro m hm;obtain⟨g,w,fr,fs,rfl,H,M,fr',fs',hfs,hR,_,_,hz,hS⟩:=hm;obtain⟨g',H',hE,hx⟩:=H.gc hn hτ hnd hp hq
  cases hfs
  have hR':lX P g' (jC n τ h) {f with t:=cC n τ f.t} fr:=by
   refine⟨?_,hR.fn,lH hE hi hR.its,np hx ht hR.t,zz hE hd hR.ds,Ij hE hk hR.kind,hR.is⟩;have:=hR.md;rw[hmd]at this;simp only[hmd];exact this
  refine⟨_,.refl _ _,g',w,fr,fs,rfl,H',fun b o v hv=>by rw[hx.M];exact M b o v hv,fr,fs,rfl,hR',qm hR',?_,hz,h_ (hE.mono hb) (aQ _) hS⟩
  have hl:(jC n τ h).length=n+τ.length:=by
   unfold jC;rw[Im,bu,GQ,eR,rq hn]
  rw[hl];simp only;omega
 |gm hmd hits _ ih=>
  intro m hm;obtain⟨l,hl,m1,s1,h1⟩:=Gc hmd hits hm;obtain⟨m2,s2,h2⟩:=ih l hl _ h1;exact⟨m2,s1.trans s2,h2⟩
end
def nC(h:List Ob)(all:List Nat):AV->Option Nat
 |.sl i off n=>
  match h[i]? with
  |some (.row _ _ es g true sh)=>if cM es g off n=true/\(off=0/\n=es.length/\sh=false/\all.count i=1)then some i else none
  |_=>none
 |_=>none
def gF(h:List Ob)(all:List Nat)(vs:List AV):List Nat:=vs.filterMap (nC h all)
def ph(h:List Ob)(all:List Nat)(vs:List AV):List Nat:=vs.flatMap fun a=>if(nC h all a).isSome=true then[]else rowsOf a
theorem vq{h:List Ob}{all:List Nat}{a:AV}{i:Nat}(ho:nC h all a=some i):
 ∃k E es gr,a=.sl i 0 es.length/\h[i]? =some (.row k E es gr true false)/\cM es gr 0 es.length=true/\all.count i=1/\qH h all a=some (.own k E es):=by
 unfold nC at ho
 split at ho
 ·rename_i j off n
  split at ho
  ·rename_i k E es gr sh hj
   split at ho
   ·rename_i hc;simp only[ak]at ho;subst ho;obtain⟨h1,rfl,rfl,rfl,h5⟩:=hc;refine⟨k,E,es,gr,rfl,hj,h1,h5,?_⟩;simp[qH,hj,h1,h5]
   ·cases ho
  ·cases ho
 ·cases ho
theorem Ge{h:List Ob}{all:List Nat}{a r:AV}(ho:nC h all a=none)(hr:qH h all a=some r):(r=a/\∃f k es,a=.list f k es)\/view h a=some r:=by
 unfold qH at hr
 split at hr
 ·rename_i j off n;right
  split at hr
  ·rename_i k E es gr sh hj
   split at hr
   ·rename_i hok
    split at hr
    ·rename_i hc;unfold nC at ho;simp only[hj,hok,w_]at ho;rw[if_pos hc]at ho
     cases ho
    ·simp only[ak]at hr;subst hr;simp[view,wa,hj,hok]
   ·cases hr
  ·cases hr
 ·rename_i f k es;simp only[ak]at hr;exact Or.inl ⟨hr.symm,_,_,_,rfl⟩
 ·exact Or.inr hr
theorem Gn(h:List Ob)(all:List Nat)(j:Nat):∀(vs:List AV),(bZ vs).count j=(gF h all vs).count j+(ph h all vs).count j
 |[]=>by simp[bZ,gF,ph]
 |a::vs=>by
  have ih:=Gn h all j vs;simp only[bZ,List.count_append,gF,ph,nW,xj]at ih⊢
  cases ho:nC h all a with
  |none=>simp;omega
  |some i=>
   obtain⟨k,E,es,gr,rfl,_⟩:=vq ho;simp only[rowsOf,Option.isSome_some,cy,List.count_nil,List.count_cons];omega
theorem Zf{h:List Ob}{a r:AV}(hv:view h a=some r):∀k E es,r≠.own k E es:=by
 intro k E es hr;subst hr
 cases a<;>simp[view]at hv
 all_goals (try (split at hv<;>simp at hv))
theorem FZ{n:Nat}{r:AV}(hr:∀k E es,r≠.own k E es):eJ n r=(r,[]):=by
 cases r<;>first|rfl|exact absurd rfl (hr _ _ _)
theorem B3{h:List Ob}{all:List Nat}{a r:AV}(ho:nC h all a=none)(hr:qH h all a=some r):∀k E es,r≠.own k E es:=by
 rcases Ge ho hr with⟨rfl,f,k,es,rfl⟩|hv
 ·simp
 ·exact Zf hv
theorem Ie{h:List Ob}{all:List Nat}:∀{vs rs:List AV},ky h all vs=some rs->∀(n q:Nat)(o:Ob),(cn n rs).2[q]? =some o->
 ∃j k E es gr,(gF h all vs)[q]? =some j/\o=.row k E es none true false/\h[j]? =some (.row k E es gr true false)/\cM es gr 0 es.length=true
 |[],rs,hr,n,q,o,ho=>by
  simp only[ky,ak]at hr;subst hr;simp[cn]at ho
 |a::vs,rs,hr,n,q,o,ho=>by
  simp only[ky]at hr
  split at hr
  ·rename_i r rs' h1 h2;simp only[ak]at hr;subst hr;simp only[cn]at ho
   cases hown:nC h all a with
   |none=>
    rw[FZ (B3 hown h1)]at ho;simp only[j3,cS,gZ]at ho;simpa only [gF,xj,hown]using Ie h2 n q o ho
   |some i=>
    obtain⟨k,E,es,gr,rfl,h3,h4,h5,h6⟩:=vq hown;rw[h1]at h6;simp only[ak]at h6;subst h6;simp only[eJ,uE,sP]at ho;simp only[gF,xj,hown]
    cases q with
    |zero=>
     simp at ho;exact⟨i,k,E,es,gr,by simp,ho.symm,h3,h4⟩
    |succ q=>
     have:=Ie h2 (n+1) q o (by simpa using ho);simpa only [gF,nT]using this
  ·cases hr
theorem Gk{h:List Ob}{all:List Nat}{vs:List AV}{j:Nat}(hj:j∈gF h all vs):all.count j=1/\∃k E es gr,h[j]? =some (.row k E es gr true false):=by
 simp only[gF,List.mem_filterMap]at hj;obtain⟨a,_,ha⟩:=hj;obtain⟨k,E,es,gr,_,h2,_,h4,_⟩:=vq ha;exact⟨h4,k,E,es,gr,h2⟩
theorem Nr{j:Nat}:∀(is:List Nat)(h:List Ob),j∉is->(share is h)[j]? =h[j]?
 |[],_,_=>rfl
 |i::is,h,hn=>by
  simp only[share];rw[Nr is _ (fun hm=>hn (dw _ hm)),AT]
  have:i≠j:=fun e=>hn (by simp[e])
  simp[this]
section
variable{P:Program}{Γ:Nat->Option AV}{N N':Env}{g g2 g2' g3:G}{h hh hh' h3:List Ob}{w w2:World}
theorem IH(H2:Inv P Γ N' g2 hh w2)(x:Ext hh.length g2 hh g2' hh')(x0:Ext 0 g2' hh' g3 h3){all:List Nat}:∀{vs rs:List AV}{us:List Value},(∀i∈ph hh all vs,rl g2' hh w2 g2 i)->VL g2 hh vs us->ky hh all vs=some rs->
 ∀n,(∀q o,(cn n rs).2[q]? =some o->h3[n+q]? =some o)->(∀q j,(gF hh all vs)[q]? =some j->g3.ρ (n+q)=g2.ρ j)->VL g3 h3 (cn n rs).1 us/\qE rs=true
 |[],rs,us,_,hv,hr,n,_,_=>by
  simp only[ky,ak]at hr;subst hr;exact⟨by simpa only [cn,VL]using hv,rfl⟩
 |a::vs,rs,us,hc,hv,hr,n,hos,hρ=>by
  simp only[ky]at hr
  split at hr
  ·rename_i r rs' h1 h2;simp only[ak]at hr;subst hr;simp only[VL]at hv;obtain⟨u,us',rfl,hv1,hv2⟩:=hv
   cases hown:nC hh all a with
   |none=>
    have hpl:=FZ (n:=n) (B3 hown h1)
    have hsh:∀i∈rowsOf a,rl g2' hh w2 g2 i:=fun i hi=>hc i (by simp only[ph,nW,hown];simp[hi])
    have htail:=IH H2 x x0 (vs:=vs) (rs:=rs') (us:=us') (fun i hi=>hc i (by simp only[ph,nW,aT];exact Or.inr hi)) hv2 h2 n
     (fun q o hq=>hos q o (by simp only[cn,hpl,j3,cS,gZ];exact hq))
     (fun q j hq=>hρ q j (by simpa only [gF,xj,hown]using hq))
    have hone:V g3 h3 r u/\qJ r=true:=by
     have htr:aG 0 r=true->qJ r=true:=by
      intro hb
      cases r<;>first|exact hb|exact absurd rfl (B3 hown h1 _ _ _)
     rcases Ge hown h1 with⟨rfl,f,k,es,rfl⟩|hvw
     ·have hb:aG 0 (.list f k es)=true:=by
       simp only[V]at hv1;simp only[aG];exact jI hv1.1
      exact⟨gG x0 hb (gG x (lT hv1) hv1),htr hb⟩
     ·have hb:=Cg H2 hv1 hvw;exact⟨gG x0 hb (ub H2 x hsh hv1 hvw),htr hb⟩
    simp only[cn,hpl,cS,gZ,VL,qE,ay];exact⟨⟨u,us',rfl,hone.1,htail.1⟩,hone.2,htail.2⟩
   |some i=>
    obtain⟨k,E,es,gr,rfl,h3',h4,h5,h6⟩:=vq hown;rw[h1]at h6;simp only[ak]at h6;subst h6
    have htail:=IH H2 x x0 (vs:=vs) (rs:=rs') (us:=us') (fun i hi=>hc i (by simp only[ph,nW,aT];exact Or.inr hi)) hv2 h2 (n+1)
     (fun q o hq=>by
      have:=hos (q+1) o (by simpa only [cn,eJ,uE,sP,nT]using hq)
      rwa[show n+1+q=n+(q+1) by omega])
     (fun q j hq=>by
      have:=hρ (q+1) j (by simpa only [gF,xj,hown,nT]using hq)
      rwa[show n+1+q=n+(q+1) by omega])
    have hrow:=hos 0 _ (by simp[cn,eJ];rfl);have hr0:=hρ 0 i (by simp[gF,hown]);simp only[gZ]at hrow hr0;have hob:=H2.ob i _ h3';simp only[OV]at hob;obtain⟨_,_,hfl,_,_⟩:=hob;simp only[cn,eJ,uE,VL,qE,qJ,ay];refine⟨⟨u,us',rfl,?_,htail.1⟩,jI (hfl (by trivial)),htail.2⟩;simp only[V]at hv1⊢;obtain⟨k',E',es',gr',fl',sh',q1,q2,aa,cap,q3,q4,q5,q6⟩:=hv1;rw[h3']at q1;simp only[ak,Ob.row.injEq]at q1;obtain⟨rfl,rfl,rfl,rfl,rfl,rfl⟩:=q1;refine⟨_,_,_,none,_,_,hrow,q2,aa,cap,q3,q4,q5,fun _=>?_⟩;rw[hr0];exact q6 h4
  ·cases hr
theorem H6(H:Inv P Γ N g h w)(H2:Inv P Γ {K:=fun b=>w.heap[b]?,M0:=g.M,MM:=g.MM,w0:=w} g2 hh w2)(hM:∀b o v,g.M b o=some v->g2.M b o=some v){vs rs:List AV}{us:List Value}(hv:VL g2 hh vs us)(hr:ky hh (bZ vs) vs=some rs):
 ∃g3,qE rs=true/\Inv P Γ N g3 (h++(cn h.length rs).2) w2/\VL g3 (h++(cn h.length rs).2) (cn h.length rs).1 us/\(∀i,i<h.length->g3.ρ i=g.ρ i)/\
  (∀b o v,g.M b o=some v->g3.M b o=some v)/\(∀b,b<w.heap.size->w2.heap[b]? =w.heap[b]?):=by
 obtain⟨g2',hρ2,hMM2,hM2,H2',x,hcov⟩:=o9 (ph hh (bZ vs) vs) H2
 have hheap:∀b,b<w.heap.size->w2.heap[b]? =w.heap[b]? :=by
  intro b hb;rw[H2.fN b w.heap[b] (j6 hb),j6 hb]
 have hbig:w.heap.size<=w2.heap.size:=by
  rcases V6 w.heap.size with h0|h0
  ·omega
  ·have:=hheap (w.heap.size-1) (by omega);rw[j6 (xs:=w.heap) (by omega)]at this;have:=aV (l:=w2.heap.toList) (i:=w.heap.size-1) (by simpa using this);simp at this;omega
 have hnewb:∀i b y,g2.ρ i=some (b,y)->w.heap.size<=b/\b<w2.heap.size:=by
  intro i b y hi;obtain⟨h1,h2⟩:=H2.own i b y hi;refine⟨?_,h2⟩
  rcases l_ b w.heap.size with h3|h3
  ·simp only[j6 h3]at h1;cases h1
  ·exact h3
 have hnd:(gF hh (bZ vs) vs).Nodup:=by
  rw[List.nodup_iff_count];intro j
  by_cases hj:j∈gF hh (bZ vs) vs
  ·have h1:=(Gk hj).1;have h2:=Gn hh (bZ vs) j vs;omega
  ·rw[List.count_eq_zero_of_not_mem hj];omega
 have hnsh:∀j∈gF hh (bZ vs) vs,j∉ph hh (bZ vs) vs:=by
  intro j hj hs;have h1:=(Gk hj).1;have h2:=Gn hh (bZ vs) j vs;have h3:=V7.2 hj;have h4:=V7.2 hs;omega
 generalize hown:gF hh (bZ vs) vs=owned at hnd hnsh
 let g3:G:={ρ:=fun i=>if i<h.length then g.ρ i else(owned[i-h.length]?).bind g2.ρ,M:=g2'.M,MM:=g.MM}
 have hMall:∀b o v,g.M b o=some v->g2'.M b o=some v:=fun b o v hv=>hM2 _ _ _ (hM _ _ _ hv)
 have hρold:∀i,i<h.length->g3.ρ i=g.ρ i:=fun i hi=>if_pos hi
 have hρnew:∀q,g3.ρ (h.length+q)=(owned[q]?).bind g2.ρ:=fun q=>by
  show(if h.length+q<h.length then _ else _)=_
  rw[if_neg (by omega),show h.length+q-h.length=q by omega]
 have hMMeq:g2'.MM=g.MM:=by rw[hMM2,H2.jX]
 have hE:Ext h.length g h g3 (h++(cn h.length rs).2):=Ext.app _ hρold hMall rfl;have x0:Ext 0 g2' (share (ph hh (bZ vs) vs) hh) g3 (h++(cn h.length rs).2):=Ext.zero (fun _ _ _ x=>x) (fun _ _ hx=>by rw[<-hMMeq];exact hx)
 obtain⟨hV3,hT⟩:=IH H2 x x0 hcov hv hr h.length (fun q o hq=>by rw[dk (by omega),show h.length+q-h.length=q by omega];exact hq) (fun q j hq=>by
  rw[hown]at hq;rw[hρnew,hq]
  rfl)
 have hcase:∀{i b y},g3.ρ i=some (b,y)->(i<h.length/\g.ρ i=some (b,y))\/∃q j,i=h.length+q/\owned[q]? =some j/\g2.ρ j=some (b,y):=by
  intro i b y hi
  by_cases hil:i<h.length
  ·rw[hρold i hil]at hi;exact Or.inl ⟨hil,hi⟩
  ·obtain⟨q,rfl⟩:∃q,i=h.length+q:=⟨i-h.length,by omega⟩;rw[hρnew]at hi
   cases hq:owned[q]? with
   |none=>rw[hq]at hi;cases hi
   |some j=>rw[hq]at hi;exact Or.inr ⟨q,j,rfl,hq,hi⟩
 refine⟨g3,hT,⟨H2.os.trans H.os,H2.tape.trans H.tape,H2.output.trans H.output,?_,?_,?_,?_,H2'.mem,?_,?_,?_,?_,?_,H.jX,H.l6⟩,hV3,hρold,hMall,hheap⟩
 ·intro b o hb;exact H2.fN b o (H.fN b o hb)
 ·intro i b y hi
  rcases hcase hi with⟨_,h2⟩|⟨q,j,_,_,h2⟩
  ·exact⟨(H.own i b y h2).1,lu (H.own i b y h2).2 hbig⟩
  ·obtain⟨h3,h4⟩:=hnewb j b y h2;refine⟨?_,h4⟩
   cases hk:N.K b with
   |none=>rfl
   |some o=>
    have:=H.fN b o hk;have:=aV (l:=w.heap.toList) (i:=b) (by simpa using this);simp at this;omega
 ·intro i j b y z hi hj
  rcases hcase hi with⟨h1,h2⟩|⟨q,p,rfl,h2,h4⟩
  ·rcases hcase hj with⟨h5,h6⟩|⟨q',p',rfl,h5,h6⟩
   ·exact H.inj i j b y z h2 h6
   ·have:=(hnewb p' b z h6).1;have:=(H.own i b y h2).2;omega
  ·rcases hcase hj with⟨h5,h6⟩|⟨q',p',rfl,h5,h6⟩
   ·have:=(hnewb p b y h4).1;have:=(H.own j b z h6).2;omega
   ·have hp:=H2.inj p p' b y z h4 h6;subst hp
    have hq:q=q':=by
     exact(List.getElem?_inj (aV h2) hnd).1 (h2.trans h5.symm)
    rw[hq]
 ·intro i hi;rw[bu]at hi;obtain⟨q,rfl⟩:∃q,i=h.length+q:=⟨i-h.length,by omega⟩;rw[hρnew]
  cases hq:owned[q]? with
  |none=>rfl
  |some j=>
   exfalso
   have hlen:∀{us ws:List AV},ky hh (bZ vs) us=some ws->∀n,(cn n ws).2.length=(gF hh (bZ vs) us).length:=by
    intro us
    induction us with
    |nil=>intro ws hw n;simp only[ky,ak]at hw;subst hw;simp[cn,gF]
    |cons a us ih=>
     intro ws hw n;simp only[ky]at hw
     split at hw
     ·rename_i r rs' h1 h2;simp only[ak]at hw;subst hw
      cases ho:nC hh (bZ vs) a with
      |none=>
       simp only[cn,FZ (B3 ho h1),j3,cS,gZ,gF,xj,ho];exact ih h2 n
      |some i=>
       obtain⟨k,E,es,gr,rfl,_,_,_,h6⟩:=vq ho;rw[h1]at h6;simp only[ak]at h6;subst h6;simp only[gF]at ih;simp only[cn,eJ,sP,gF,xj,ho,bE];rw[ih h2]
     ·cases hw
   have:=hlen hr h.length;rw[hown]at this;have:=aV hq;omega
 ·intro b es ck hb
  have h1:g2.MM b=some (es,ck):=by rw[H2.jX];exact hb
  refine⟨(H2.mm b es ck h1).1,?_⟩;intro i y hi
  rcases hcase hi with⟨_,h3⟩|⟨q,p,_,_,h4⟩
  ·exact(H.mm b es ck hb).2 i y h3
  ·exact(H2.mm b es ck h1).2 p y h4
 ·intro i b sz st o v hi hv
  rcases hcase hi with⟨h2,h3⟩|⟨q,p,rfl,h2,h4⟩
  ·have hb:=(H.own i b _ h3).2;have h5:=H2'.mK b o v _ hv (j6 hb);obtain⟨k,E,es,gr,fl,h6,h7⟩:=H.eP i b sz st o v h3 h5;exact⟨k,E,es,gr,fl,by rw[cz (aV h6)];exact h6,h7⟩
  ·exfalso;obtain⟨k,E,es,gr,fl,h6,h7⟩:=H2'.eP p b sz st o v (by rw[hρ2];exact h4) hv;have hpm:p∈owned:=i_ h2;rw[Nr _ _ (hnsh p hpm)]at h6;rw[<-hown]at hpm;obtain⟨_,k',E',es',gr',h8⟩:=Gk hpm;rw[h8]at h6
   cases h6
 ·intro i o hi
  by_cases hil:i<h.length
  ·rw[cz hil]at hi;exact oa hE (hρold i hil) (fun b y hb=>hheap b (H.own i b y hb).2) (H.ob i o hi)
  ·obtain⟨q,rfl⟩:∃q,i=h.length+q:=⟨i-h.length,by omega⟩;rw[dk (by omega),show h.length+q-h.length=q by omega]at hi;obtain⟨j,k,E,es,gr,h2,rfl,h4,h5⟩:=Ie hr h.length q o hi;have hob:=H2.ob j _ h4;simp only[OV]at hob⊢;obtain⟨q1,q2,q3,q4,q5⟩:=hob;refine⟨q1,q2,q3,by simp,?_⟩;rw[hown]at h2;rw[hρnew,h2];simp only[kH]
   have hgr:gr.getD 0=0:=by
    cases gr with
    |none=>rfl
    |some lo=>simp only[cM,ay,aZ]at h5;simpa using h5.1
   cases hρj:g2.ρ j with
   |none=>rw[hρj]at q5;exact q5
   |some y=>
    obtain⟨b,sz,st⟩:=y;rw[hρj,hgr]at q5;simp only[uG]at q5⊢;obtain⟨h6,c,E',fz,ws,h7,h8,h9,h10,h11⟩:=q5;refine⟨h6,c,E',fz,ws,h7,h8,h9,?_,h11⟩;rw[fg]at h10⊢;exact gE x0 (jI (q3 (by trivial))) (gE (x.mono (wW _)) (jI (q3 (by trivial))) h10)
 ·intro n a hn;obtain⟨h1,ws,h2,h3⟩:=H.lZ n a hn;exact⟨h1,ws,cF hE (dB h2) h2,fun j hj=>hMall _ _ _ (h3 j hj)⟩
 ·intro b o v B hv hB;exact H.mK b o v B (H2'.mK b o v B hv (H.fN b B hB)) hB
end
section
variable{P:Program}{Γ:Nat->Option AV}
theorem adg{N:Env}{g g2:G}{h hh:List Ob}{w w2:World}(H:Inv P Γ N g h w)(H2:Inv P Γ {K:=fun b=>w.heap[b]?,M0:=g.M,MM:=g.MM,w0:=w} g2 hh w2)(hM:∀b o v,g.M b o=some v->g2.M b o=some v){v r:AV}{u:Value}(hv:V g2 hh v u)(hr:wC hh v=some r):
 ∃g3,uk r=true/\Inv P Γ N g3 (h++(dZ h.length r).2) w2/\V g3 (h++(dZ h.length r).2) (dZ h.length r).1 u/\(∀i,i<h.length->g3.ρ i=g.ρ i)/\
  (∀b o v,g.M b o=some v->g3.M b o=some v)/\(∀b,b<w.heap.size->w2.heap[b]? =w.heap[b]?):=by
 by_cases ht:∃vs,v=.aH vs
 ·obtain⟨vs,rfl⟩:=ht;simp only[wC,cf]at hr;obtain⟨rs,hr,rfl⟩:=hr;simp only[V]at hv;obtain⟨us,rfl,hv⟩:=hv;obtain⟨g3,h1,h2,h3,h4⟩:=H6 H H2 hM hv hr;exact⟨g3,h1,h2,by simp only[dZ,V];exact⟨us,rfl,h3⟩,h4⟩
 ·have hr2:qH hh (rowsOf v) v=some r:=by
   cases v<;>first|exact hr|exact absurd ⟨_,rfl⟩ ht
  have hrt:∀vs,r≠.aH vs:=by
   rintro vs rfl
   cases hown:nC hh (rowsOf v) v with
   |some i=>
    obtain⟨k,E,es,gr,rfl,_,_,_,h6⟩:=vq hown;rw[hr2]at h6
    cases h6
   |none=>
    rcases Ge hown hr2 with⟨h1,f,k,es,rfl⟩|hvw
    ·cases h1
    ·cases v<;>simp[view]at hvw
     all_goals first
      |exact ht ⟨_,rfl⟩
      |(split at hvw<;>cases hvw)
  have hl:ky hh (bZ [v]) [v]=some [r]:=by
   simp[ky,bZ,hr2]
  have hvl:VL g2 hh [v] [u]:=by simp only[VL];exact⟨u,[],rfl,hv,rfl⟩
  obtain⟨g3,h1,h2,h3,h4⟩:=H6 H H2 hM hvl hl
  have hun:dZ h.length r=eJ h.length r:=by cases r<;>first|rfl|exact absurd rfl (hrt _)
  have htr:uk r=qJ r:=by cases r<;>first|rfl|exact absurd rfl (hrt _)
  have hol:(cn h.length [r]).2=(eJ h.length r).2:=by simp[cn]
  have hov:(cn h.length [r]).1=[(eJ h.length r).1]:=by simp[cn]
  rw[hol]at h2 h3;rw[hov]at h3;rw[hun,htr];simp only[VL]at h3;obtain⟨u',us',h5,h6,rfl⟩:=h3
  cases h5
  refine⟨g3,?_,h2,h6,h4⟩;simpa[qE]using h1
theorem aS.Ei{f:FuncId}{as:List AV}{r:AV}(hb:az P f=true)(hr:∀(N:Env)(g0:G)(f0:FuncId)(cs0:List Frame)(m:Machine),c_ P Γ N g0 f0 cs0 (.cl f as [] []) m->∃m' v hh,Steps P m m'/\c_ P Γ N g0 f0 cs0 (.back [] v hh) m'/\wC hh v=some r):aS P Γ f as r:=by
 refine⟨hb,fun hbel N g h w us H hV cs=>?_⟩;have hz:Ext 0 g h {ρ:=fun _=>none,M:=g.M,MM:=g.MM} []:=Ext.zero (fun _ _ _ x=>x) (fun _ _ x=>x)
 have H0:Inv P Γ {K:=fun b=>w.heap[b]?,M0:=g.M,MM:=g.MM,w0:=w} {ρ:=fun _=>none,M:=g.M,MM:=g.MM} [] w:=by
  refine⟨rfl,rfl,rfl,fun b o hb=>hb,fun i b x hi=>(by cases hi),fun i j b x y hi=>(by cases hi),fun _ _=>rfl,H.mem,fun b es ck hb=>⟨(H.mm b es ck hb).1,fun i x hi=>(by cases hi)⟩,
   fun i b sz st o v hi=>(by cases hi),fun i o hi=>(by simp at hi),?_,fun b o v B hv _=>hv,rfl,fun n zs h0 hn=>by
    obtain⟨t,q,hq⟩:=H.l6 n zs h0 hn
    exact⟨t,q,H.fN n _ hq⟩⟩
  intro n a hn;obtain⟨h1,vs,h2,h3⟩:=H.lZ n a hn;exact⟨h1,vs,cF hz h1 h2,h3⟩
 have hs:c_ P Γ {K:=fun b=>w.heap[b]?,M0:=g.M,MM:=g.MM,w0:=w} {ρ:=fun _=>none,M:=g.M,MM:=g.MM} f cs (.cl f as [] []) (lone (Frame.enter P f us.toArray .normal) ([]++cs) w):=
  ⟨_,w,us.toArray,[],rfl,H0,fun _ _ _ x=>x,by simpa using cF hz hbel hV,hb,rfl,fun _=>rfl⟩
 obtain⟨m',v,hh,steps,⟨g2,w2,u,fr,rfl,H2,hM,hv,hfn,hleave⟩,hres⟩:=hr _ _ _ _ _ hs
 ·obtain⟨g3,h1,h2,h3,h4,h5,h6⟩:=adg H H2 hM hv hres;exact⟨.returned u,w2,fr,⟨u,g3,rfl,h1,h2,h3,h4,h5,h6⟩,steps,hfn,hleave⟩
theorem mu.Ei{f:FuncId}{as:List AV}{v:AV}(hb:az P f=true)(hr:∀(N:Env)(g0:G)(f0:FuncId)(cs0:List Frame)(m:Machine),c_ P Γ N g0 f0 cs0 (.cl f as [] []) m->∃m' hh,Steps P m m'/\c_ P Γ N g0 f0 cs0 (.die [] v hh) m')(hbv:aG 0 v=true)(hnv:eB v=true):mu P Γ f as v:=by
 refine⟨hb,hbv,hnv,fun hbel N g h w us H hV cs=>?_⟩;have hz:Ext 0 g h {ρ:=fun _=>none,M:=g.M,MM:=g.MM} []:=Ext.zero (fun _ _ _ x=>x) (fun _ _ x=>x)
 have H0:Inv P Γ {K:=fun b=>w.heap[b]?,M0:=g.M,MM:=g.MM,w0:=w} {ρ:=fun _=>none,M:=g.M,MM:=g.MM} [] w:=by
  refine⟨rfl,rfl,rfl,fun b o hb=>hb,fun i b x hi=>(by cases hi),fun i j b x y hi=>(by cases hi),fun _ _=>rfl,H.mem,fun b es ck hb=>⟨(H.mm b es ck hb).1,fun i x hi=>(by cases hi)⟩,
   fun i b sz st o v hi=>(by cases hi),fun i o hi=>(by simp at hi),?_,fun b o v B hv _=>hv,rfl,fun n zs h0 hn=>by
    obtain⟨t,q,hq⟩:=H.l6 n zs h0 hn
    exact⟨t,q,H.fN n _ hq⟩⟩
  intro n a hn;obtain⟨h1,vs,h2,h3⟩:=H.lZ n a hn;exact⟨h1,vs,cF hz h1 h2,h3⟩
 have hs:c_ P Γ {K:=fun b=>w.heap[b]?,M0:=g.M,MM:=g.MM,w0:=w} {ρ:=fun _=>none,M:=g.M,MM:=g.MM} f cs (.cl f as [] []) (lone (Frame.enter P f us.toArray .normal) ([]++cs) w):=
  ⟨_,w,us.toArray,[],rfl,H0,fun _ _ _ x=>x,by simpa using cF hz hbel hV,hb,rfl,fun _=>rfl⟩
 obtain⟨m',hh,steps,⟨g2,w2,u,fr,rfl,H2,hM,hv,hfn,hleave⟩⟩:=hr _ _ _ _ _ hs;obtain⟨g3,_,h2,_,h4,h5,h6⟩:=H6 (vs:=[]) (rs:=[]) (us:=[]) H H2 hM (by simp[VL]) (by simp[ky]);simp only[cn,ee]at h2;exact⟨_,w2,fr,⟨u,g3,rfl,h2,uf hbv hnv hv,h4,h5,h6⟩,steps,hfn,hleave⟩
theorem mu.of{f:FuncId}{as:List AV}{v:AV}{hh:List Ob}(hb:az P f=true)(hr:Reach P Γ (.cl f as [] []) (.die [] v hh))(hbv:aG 0 v=true)(hnv:eB v=true):mu P Γ f as v:=
 .Ei hb (fun _ _ _ _ m hm=>by
  obtain⟨m',h1,h2⟩:=FW hr m hm
  exact⟨m',hh,h1,h2⟩) hbv hnv
end
end Go.AM
namespace Go.AM
def mD(P:Program)(Γ:Nat->Option AV):Nat->ar->ar
 |0,c=>c
 |n+1,c=>mD P Γ n (ig P Γ c)
def ik(P:Program)(Γ:Nat->Option AV):ar->ar
 |.fr f up h=>match f.md with
  |.run=>match f.its with
   |.code (.loop m b)::k=>.fr {f with its:=.code (.loop m b)::k} up h
   |.inLoop m b::k=>.fr {f with its:=.inLoop m b::k} up h
   |.code (.aP l ws gs)::k=>.fr {f with its:=.code (.aP l ws gs)::k} up h
   |its=>jb P Γ f up h its
  |_=>od P Γ f up h
 |.cl g args up h=>.cl g args up h
 |.back (c::up) v h=>match c.finish v with
  |some c'=>.fr c' up h
  |none=>.bad
 |.back [] v h=>.back [] v h
 |.die (c::up) v h=>match c.md with
  |.run=>.fr {c with md:=.dv v false} up h
  |_=>.bad
 |.die [] v h=>.die [] v h
 |.bad=>.bad
def DG(P:Program)(Γ:Nat->Option AV):Nat->ar->ar
 |0,c=>c
 |n+1,c=>DG P Γ n (ik P Γ c)
theorem Reach.one{P:Program}{Γ:Nat->Option AV}{c c':ar}(h:Reach P Γ (ig P Γ c) c'):Reach P Γ c c':=.trans (.step c) h
section
variable{P:Program}{Γ:Nat->Option AV}{md:Md}{fn:FuncId}{its k:List It}{t:List AV}{ds:List dF}{kind:FK}{base:Nat}{up:List Fr}{h:List Ob}
theorem abI{c:ar}:DG P Γ 0 c=c:=rfl
theorem acX{n:Nat}{c:ar}:DG P Γ (n+1) c=DG P Γ n (ik P Γ c):=rfl
end
section
variable{P:Program}{Γ:Nat->Option AV}{fn:FuncId}{k:List It}{t:List AV}{ds:List dF}{kind:FK}{base:Nat}{up:List Fr}{h:List Ob}
theorem ahh:ik P Γ (.fr ⟨.run,fn,.code .skip::k,t,ds,kind,base⟩ up h)=.fr ⟨.run,fn,k,t,ds,kind,base⟩ up h:=rfl
theorem aiJ{os:List AG}:ik P Γ (.fr ⟨.run,fn,.code (.ae os)::k,t,ds,kind,base⟩ up h)=.fr ⟨.run,fn,.ops os::k,t,ds,kind,base⟩ up h:=rfl
theorem aid{a b:aj}:ik P Γ (.fr ⟨.run,fn,.code (.seq a b)::k,t,ds,kind,base⟩ up h)=.fr ⟨.run,fn,.code a::.code b::k,t,ds,kind,base⟩ up h:=rfl
theorem ahV{x:AX}{a b:aj}:ik P Γ (.fr ⟨.run,fn,.code (.cond x a b)::k,t,ds,kind,base⟩ up h)=(match ax t x with
 |.bool v=>.fr ⟨.run,fn,.code (if v then a else b)::k,t,ds,kind,base⟩ up h
 |_=>.bad):=rfl
theorem afn{id:Nat}{m:List Bool}{b:aj}:ik P Γ (.fr ⟨.run,fn,.code (.block id m b)::k,t,ds,kind,base⟩ up h)=.fr ⟨.run,fn,.code b::.inBlock id m::k,t,ds,kind,base⟩ up h:=rfl
theorem acT{id:Nat}{m:List Bool}:ik P Γ (.fr ⟨.run,fn,.inBlock id m::k,t,ds,kind,base⟩ up h)=.fr ⟨.run,fn,k,dx m t,ds,kind,base⟩ up h:=rfl
theorem ahB{id:Nat}:ik P Γ (.fr ⟨.run,fn,.code (.exit id)::k,t,ds,kind,base⟩ up h)=(match pv id k with
 |some (k',m)=>.fr ⟨.run,fn,k',dx m t,ds,kind,base⟩ up h
 |none=>leave ⟨.run,fn,.code (.exit id)::k,t,ds,kind,base⟩ up h (.exit id)):=rfl
theorem aif:ik P Γ (.fr ⟨.run,fn,.code .ret::k,t,ds,kind,base⟩ up h)=leave ⟨.run,fn,.code .ret::k,t,ds,kind,base⟩ up h .ret:=rfl
theorem aii:ik P Γ (.fr ⟨.run,fn,[],t,ds,kind,base⟩ up h)=leave ⟨.run,fn,[],t,ds,kind,base⟩ up h .none:=rfl
theorem aho:ik P Γ (.fr ⟨.run,fn,.ops []::k,t,ds,kind,base⟩ up h)=.fr ⟨.run,fn,k,t,ds,kind,base⟩ up h:=rfl
theorem ajh{d:Option Nat}{o:AO}{os:List AG}:ik P Γ (.fr ⟨.run,fn,.ops (⟨d,none,o⟩::os)::k,t,ds,kind,base⟩ up h)=
 gq P ⟨.run,fn,.ops (⟨d,none,o⟩::os)::k,t,ds,kind,base⟩ up h ⟨d,none,o⟩ os k (aB P Γ t h o):=rfl
theorem aiy{d:Option Nat}{j:Nat}{b:Bool}{o:AO}{os:List AG}:ik P Γ (.fr ⟨.run,fn,.ops (⟨d,some (j,b),o⟩::os)::k,t,ds,kind,base⟩ up h)=(match dO t (some (j,b))with
 |some true=>gq P ⟨.run,fn,.ops (⟨d,some (j,b),o⟩::os)::k,t,ds,kind,base⟩ up h ⟨d,some (j,b),o⟩ os k (aB P Γ t h o)
 |some false=>.fr ⟨.run,fn,.ops os::k,a_ t d (.aH []),ds,kind,base⟩ up h
 |none=>.bad):=rfl
theorem ahN{m:List Bool}{b:aj}:ik P Γ (.fr ⟨.run,fn,.code (.loop m b)::k,t,ds,kind,base⟩ up h)=.fr ⟨.run,fn,.code (.loop m b)::k,t,ds,kind,base⟩ up h:=rfl
theorem aee{m:List Bool}{b:aj}:ik P Γ (.fr ⟨.run,fn,.inLoop m b::k,t,ds,kind,base⟩ up h)=.fr ⟨.run,fn,.inLoop m b::k,t,ds,kind,base⟩ up h:=rfl
theorem ahj{l:List Bool}{ws:List Nat}{gs:List AG}:ik P Γ (.fr ⟨.run,fn,.code (.aP l ws gs)::k,t,ds,kind,base⟩ up h)=.fr ⟨.run,fn,.code (.aP l ws gs)::k,t,ds,kind,base⟩ up h:=rfl
theorem aiT:ik P Γ (.fr ⟨.ret,fn,k,t,ds,kind,base⟩ up h)=od P Γ ⟨.ret,fn,k,t,ds,kind,base⟩ up h:=rfl
theorem ajd{g:FuncId}{args:List AV}:ik P Γ (.cl g args up h)=.cl g args up h:=rfl
theorem ahH{c:Fr}{v:AV}:ik P Γ (.back (c::up) v h)=(match c.finish v with
 |some c'=>.fr c' up h
 |none=>.bad):=rfl
theorem agD{v:AV}:ik P Γ (.back [] v h)=.back [] v h:=rfl
theorem Qv{m:List Bool}{b:aj}{c:ar}(h1:Reach P Γ (.fr ⟨.run,fn,.code b::.inLoop m b::k,dx m t,ds,kind,base⟩ up h) c):Reach P Γ (.fr ⟨.run,fn,.code (.loop m b)::k,t,ds,kind,base⟩ up h) c:=.one h1
theorem QU{m:List Bool}{b:aj}{c:ar}(h1:Reach P Γ (.fr ⟨.run,fn,.code b::.inLoop m b::k,dx m t,ds,kind,base⟩ up h) c):Reach P Γ (.fr ⟨.run,fn,.inLoop m b::k,t,ds,kind,base⟩ up h) c:=.one h1
theorem zx{f:FuncId}{F:aF}(hF:aE P f=some F)(as:List AV){c:ar}(h1:Reach P Γ (.fr ⟨.run,f,[.code F.body],as++List.replicate (F.nt-as.length) .undef,[],.norm,h.length⟩ up h) c):Reach P Γ (.cl f as up h) c:=by
 refine .one ?_;simp only[ig,hF,enter];exact h1
end
def slot(t:List AV)(i:Nat):AV:=t.getD i .undef
@[simp] theorem aAk(a:AV)(l:List AV):slot (a::l) 0=a:=rfl
@[simp] theorem aAa(a:AV)(l:List AV)(n:Nat):slot (a::l) (n+1)=slot l n:=rfl
@[simp] theorem aBY(t:List AV)(i:Nat):ax t (.t i)=slot t i:=rfl
@[simp] theorem aBU(t:List AV)(v:AV):ax t (.c v)=v:=rfl
@[simp] theorem aBX(t:List AV)(n:Nat):ax t (.g n)=.eA n 0:=rfl
@[simp] theorem aBT(t:List AV)(n:Nat):ax t (.f n)=.fn (.func n) [] []:=rfl
@[simp] theorem aag(t:List AV):dO t none=some true:=rfl
@[simp] theorem azt(t:List AV)(j:Nat)(b:Bool):dO t (some (j,b))=(match slot t j with
  |.bool x=>some (x==b)
  |.aH []=>some false
  |_=>none):=rfl
@[simp] theorem azP(Γ:Nat->Option AV)(t:List AV)(h:List Ob)(i:Nat):vO Γ t h (.tmp i)=some (slot t i):=rfl
@[simp] theorem azB(Γ:Nat->Option AV)(t:List AV)(h:List Ob)(a sz:Nat)(g:Bool):vO Γ t h (.cell a g sz)=qQ Γ h g sz (slot t a):=rfl
@[simp] theorem aAr(s:SK)(x y:AV):cj (.sc s) x y=eV s x y:=rfl
@[simp] theorem ay4(t:TypeId)(v:AV):cj .iface .eN (.bT t v)=some false:=rfl
@[simp] theorem ayZ(t:TypeId)(v:AV):cj .iface (.bT t v) .eN=some false:=rfl
@[simp] theorem azD:cj .nil .dS .dS=some true:=rfl
@[simp] theorem azJ(f:Fn)(a b:List AV):cj .nil .dS (.fn f a b)=some false:=rfl
@[simp] theorem azK(f:Fn)(a b:List AV):cj .nil (.fn f a b) .dS=some false:=rfl
attribute [simp] ow enter wj iS calm dz abI acX ahh aiJ aid ahV afn acT ahB aif aii aho ajh aiy ahN aee ahj aiT ajd ahH agD aB a_ leave od Cy tL qQ wb cn eJ dZ ug AV.cells AV.ok over nr cm AV.one pv dx Fr.finish wa kS elems pA cM iH bound cq view wC qH ky eC eB eZ share eS rowsOf bZ pg oq cA aG aK fJ
@[simp] theorem aAF(k:IntKind)(x y:Int):gS .add k x y=some (k.wrap (x+y)):=rfl
@[simp] theorem aAI(k:IntKind)(x y:Int):gS .sub k x y=some (k.wrap (x-y)):=rfl
@[simp] theorem aAX(k:IntKind)(x y:Int):gS .mul k x y=some (k.wrap (x*y)):=rfl
@[simp low] theorem aA6(k:IntKind)(x y:Int):gS .quo k x y=if y=0 then none else some (k.wrap (x.tdiv y)):=rfl
@[simp low] theorem aAM(k:IntKind)(x y:Int):gS .rem k x y=if y=0 then none else some (x.tmod y):=rfl
@[simp low] theorem aAN(k:IntKind)(x y:Int):gS .shr k x y=if y<0 then none else some (x.fdiv (2^(min y.toNat k.bits))):=rfl
@[simp low] theorem aAK(k:IntKind)(x y:Int):gS .shl k x y=if y<0 then none else some (k.wrap (x*2^(min y.toNat k.bits))):=rfl
@[simp] theorem aAL(a b:Int):nF .eql a b=decide (a=b):=by rw[fT];simp[nF]
@[simp] theorem aBc(a b:Int):nF .neq a b=!decide (a=b):=by rw[fT];simp[nF]
@[simp] theorem aA2(a b:Int):nF .lss a b=decide (a<b):=rfl
@[simp] theorem aA0(a b:Int):nF .leq a b=decide (a<=b):=rfl
@[simp] theorem aA1(a b:Int):nF .gtr a b=decide (b<a):=rfl
@[simp] theorem aAJ(a b:Int):nF .geq a b=decide (b<=a):=rfl
@[simp] theorem aAd(k:IntKind)(a b:Int):eV .int (.int k a) (.int k b)=some (decide (a=b)):=by simp only[eV,cy,ak];rw[fT];simp
@[simp] theorem aAq(a b:List UInt8):eV .str (.str a) (.str b)=some (decide (a=b)):=by simp only[eV,ak];rw[fT];simp
@[simp] theorem azR(a b:Bool):eV .bool (.bool a) (.bool b)=some (decide (a=b)):=by simp only[eV,ak];rw[fT];simp
theorem ahy{c d:UInt8}{m:Int}(h:(d.toNat:Int)=m):((c.toNat:Int)=m)↔c=d:=by
 subst h;rw[Int.ofNat_inj];exact⟨fun e=>Lv.1 e,fun e=>by rw[e]⟩
@[simp] theorem aiI{c d:UInt8}:((c.toNat:Int)=(d.toNat:Int))↔c=d:=ahy rfl
theorem zq{m:Int}(h0:0<=m)(h1:m<256):((UInt8.ofNat m.toNat).toNat:Int)=m:=by
 rw[UInt8.toNat_ofNat_of_lt' (by simp[UInt8.size];omega)];omega
@[simp] theorem az8(c:UInt8)(m:Int)(h0:0<=m)(h1:m<256):((c.toNat:Int)=m)↔c=UInt8.ofNat m.toNat:=by rw[<-aiI,zq h0 h1]
@[simp] theorem R0{c d:UInt8}:((c.toNat:Int)<(d.toNat:Int))↔c<d:=by rw[Int.ofNat_lt];exact nX
@[simp] theorem Sb{c d:UInt8}:((c.toNat:Int)<=(d.toNat:Int))↔c<=d:=by rw[Int.ofNat_le];exact nX
@[simp] theorem aAb(c:UInt8)(m:Int)(h0:0<=m)(h1:m<256):((c.toNat:Int)<m)↔c<UInt8.ofNat m.toNat:=by rw[<-R0,zq h0 h1]
@[simp] theorem aAl(c:UInt8)(m:Int)(h0:0<=m)(h1:m<256):((c.toNat:Int)<=m)↔c<=UInt8.ofNat m.toNat:=by rw[<-Sb,zq h0 h1]
@[simp] theorem aAs(c:UInt8)(m:Int)(h0:0<=m)(h1:m<256):(m<(c.toNat:Int))↔UInt8.ofNat m.toNat<c:=by rw[<-R0,zq h0 h1]
@[simp] theorem aAt(c:UInt8)(m:Int)(h0:0<=m)(h1:m<256):(m<=(c.toNat:Int))↔UInt8.ofNat m.toNat<=c:=by rw[<-Sb,zq h0 h1]
@[simp] theorem aBL{c d:UInt8}:(c.toNat=d.toNat)↔c=d:=Lv
theorem wrap64{n:Int}(h1:-2^62<=n)(h2:n<=2^62):IntKind.i64.wrap n=n:=by
 rw[IntKind.wrap_i64];omega
abbrev o(d:Nat)(x:AO):AG:=⟨some d,none,x⟩
abbrev q(x:AO):AG:=⟨none,none,x⟩
abbrev oy(d j:Nat)(x:AO):AG:=⟨some d,some (j,true),x⟩
abbrev on(d j:Nat)(x:AO):AG:=⟨some d,some (j,false),x⟩
abbrev I:Bool:=true
abbrev O:Bool:=false
abbrev U:AV:=.undef
structure Cx where
 ds:List dF
 kind:FK
 base:Nat
 up:List Fr
abbrev cx:Cx:=⟨[],.norm,0,[]⟩
abbrev bg(fn:FuncId)(its:List It)(t:List AV)(h:List Ob)(e:Cx):ar:=.fr ⟨.run,fn,its,t,e.ds,e.kind,e.base⟩ e.up h
@[simp] def tight:List Bool->List AG->Bool
 |_,[]=>true
 |false::l,_::os=>tight l os
 |_,_=>false
def runN(P:Program)(Γ:Nat->Option AV):List AG->List AV->List Ob->Option (List AV×List Ob)
 |[],t,h=>some (t,h)
 |o::os,t,h=>
  match dO t o.guard with
  |some true=>match aB P Γ t h o.op with
   |.val v h'=>runN P Γ os (a_ t o.dst v) h'
   |.skip h'=>runN P Γ os (a_ t o.dst (.aH [])) h'
   |_=>none
  |some false=>runN P Γ os (a_ t o.dst (.aH [])) h
  |none=>none
theorem C0{P:Program}{Γ:Nat->Option AV}:∀{gs:List AG}{t:List AV}{h:List Ob}{p:List AV×List Ob},runN P Γ gs t h=some p->∃hs,iS P Γ [] gs t h=some (p.1,p.2,[],hs)
 |[],t,h,p,hr=>by simp only[runN,ak]at hr;subst hr;exact⟨[],rfl⟩
 |o::os,t,h,p,hr=>by
  unfold runN at hr;unfold iS
  cases hw:dO t o.guard with
  |none=>rw[hw]at hr;cases hr
  |some b=>
   rw[hw]at hr
   cases b with
   |false=>
    simp only at hr⊢;obtain⟨hs,h1⟩:=C0 hr;exact⟨_,by rw[h1];rfl⟩
   |true=>
    simp only at hr⊢
    cases ha:aB P Γ t h o.op with
    |val v h'=>
     rw[ha]at hr;simp only at hr⊢;obtain⟨hs,h1⟩:=C0 hr;exact⟨_,by rw[h1];rfl⟩
    |skip h'=>
     rw[ha]at hr;simp only at hr⊢;obtain⟨hs,h1⟩:=C0 hr;exact⟨_,by rw[h1];rfl⟩
    |_=>rw[ha]at hr;simp at hr
def Aj(P:Program)(Γ:Nat->Option AV)(os:List AG)(d:Option Nat)(t:List AV):R->Option (List AV×List Ob)
 |.val v h'=>runN P Γ os (a_ t d v) h'
 |.skip h'=>runN P Γ os (a_ t d (.aH [])) h'
 |_=>none
def sj(P:Program)(Γ:Nat->Option AV)(l:List Bool)(gs:List AG)(t:List AV)(h:List Ob):Option (List AV×List Ob):=
 if tight l gs=true then runN P Γ gs t h else none
def stepG(P:Program)(Γ:Nat->Option AV)(st:Nat):ar->ar
 |.fr f up h=>match f.md with
  |.run=>match f.its with
   |.code (.loop m b)::k=>.fr {f with its:=.code (.loop m b)::k} up h
   |.inLoop m b::k=>.fr {f with its:=.inLoop m b::k} up h
   |.code (.aP l ws gs)::k=>match sj P Γ l gs f.t h with
    |some p=>.fr {f with its:=k,t:=p.1} up p.2
    |none=>.fr {f with its:=.code (.aP l ws gs)::k} up h
   |.code (.gm as gs)::k=>.fr {f with its:=.code (.gm as gs)::k} up h
   |.code (.exit id)::k=>match pv id k with
    |some (k',m)=>if st==1&&!m.isEmpty then .fr {f with its:=.code (.exit id)::k} up h else .fr {f with its:=k',t:=dx m f.t} up h
    |none=>leave f up h (.exit id)
   |its=>jb P Γ f up h its
  |_=>od P Γ f up h
 |.cl g args up h=>.cl g args up h
 |.back (c::up) v h=>if st==2 then .back (c::up) v h else match c.finish v with
  |some c'=>.fr c' up h
  |none=>.bad
 |.back [] v h=>.back [] v h
 |.die (c::up) v h=>if st==2 then .die (c::up) v h else match c.md with
  |.run=>.fr {c with md:=.dv v false} up h
  |_=>.bad
 |.die [] v h=>.die [] v h
 |.bad=>.bad
theorem vP{P:Program}{Γ:Nat->Option AV}{obls:List gW}{hs:List (List Ob)}:∀{gs:List AG}{l:List Bool}{ws:List Nat}{orc:List (AV×List Ob)}{t:List AV}{h:List Ob}{x},tight l gs=true->iS P Γ orc gs t h=some x->calm P Γ obls hs l ws orc gs t h
 |[],_,_,_,_,_,_,_,_=>trivial
 |o::os,[],ws,orc,t,h,x,hl,hr=>by simp[tight]at hl
 |o::os,true::l,ws,orc,t,h,x,hl,hr=>by simp[tight]at hl
 |o::os,false::l,ws,orc,t,h,x,hl,hr=>by
  simp only[tight]at hl;unfold calm;unfold iS at hr
  split at hr
  ·split at hr
   ·rename_i v h' ha;rw[cf]at hr;obtain⟨y,hy,_⟩:=hr;exact⟨fun hb=>(by cases hb),vP hl hy⟩
   ·rename_i h' ha;rw[cf]at hr;obtain⟨y,hy,_⟩:=hr;exact vP hl hy
   ·rename_i f args ha
    split at hr
    ·cases hr
    ·split at hr
     ·rw[cf]at hr;obtain⟨y,hy,_⟩:=hr;exact⟨fun hb=>(by cases hb),vP hl hy⟩
     ·cases hr
   ·split at hr
    ·rw[cf]at hr;obtain⟨y,hy,_⟩:=hr;exact⟨rfl,vP hl hy⟩
    ·cases hr
   ·cases hr
  ·rw[cf]at hr;obtain⟨y,hy,_⟩:=hr;exact vP hl hy
  ·cases hr
theorem Reach.stepG{P:Program}{Γ:Nat->Option AV}{st:Nat}(c:ar):Reach P Γ c (AM.stepG P Γ st c):=by
 cases c with
 |fr f up h=>
  obtain⟨md,fn,its,t,ds,kind,base⟩:=f
  cases md with
  |run=>
   simp only[AM.stepG]
   split
   ·exact .refl _
   ·exact .refl _
   ·rename_i l ws gs k
    split
    ·rename_i p hp;unfold sj at hp
     split at hp
     ·rename_i ht;obtain⟨hs,hr⟩:=C0 hp;exact .aP (f:=⟨.run,fn,.code (.aP l ws gs)::k,t,ds,kind,base⟩) rfl rfl hr (fun _ ho=>ho) (by simp) (vP ht hr)
     ·cases hp
    ·exact .refl _
   ·exact .refl _
   ·rename_i id k
    split
    ·rename_i k' m he
     split
     ·exact .refl _
     ·refine .one ?_;simp only[ig,jb,he];exact .refl _
    ·rename_i he;refine .one ?_;simp only[ig,jb,he];exact .refl _
   ·exact .step _
  |ret=>exact .step _
  |dv v rc=>exact .step _
 |cl g args up h=>exact .refl _
 |back up v h=>
  cases up with
  |nil=>exact .refl _
  |cons c up=>simp only[AM.stepG];split<;>first|exact .refl _|exact .step _
 |die up v h=>
  cases up with
  |nil=>exact .refl _
  |cons c up=>simp only[AM.stepG];split<;>first|exact .refl _|exact .step _
 |bad=>exact .refl _
def go(P:Program)(Γ:Nat->Option AV)(st:Nat):Nat->ar->ar
 |0,c=>c
 |n+1,c=>go P Γ st n (stepG P Γ st c)
theorem Reach.goes{P:Program}{Γ:Nat->Option AV}{st:Nat}:∀(n:Nat)(c:ar),Reach P Γ c (AM.go P Γ st n c)
 |0,c=>.refl c
 |n+1,c=>.trans (.stepG c) (Reach.goes n _)
theorem Reach.go{P:Program}{Γ:Nat->Option AV}(n:Nat){c c':ar}(h:Reach P Γ (AM.go P Γ 0 n c) c'):Reach P Γ c c':=.trans (Reach.goes n c) h
theorem Reach.a8{P:Program}{Γ:Nat->Option AV}(n:Nat){c c':ar}(h:Reach P Γ (AM.go P Γ 2 n c) c'):Reach P Γ c c':=.trans (Reach.goes n c) h
def pop:ar->ar
 |.back (c::up) v h=>match c.finish v with
  |some c'=>.fr c' up h
  |none=>.bad
 |.die (c::up) v h=>match c.md with
  |.run=>.fr {c with md:=.dv v false} up h
  |_=>.bad
 |c=>c
@[simp] theorem aAQ{c:Fr}{up:List Fr}{v:AV}{h:List Ob}:pop (.back (c::up) v h)=(match c.finish v with
  |some c'=>.fr c' up h
  |none=>.bad):=(rfl)
@[simp] theorem aBl{c:Fr}{up:List Fr}{v:AV}{h:List Ob}:pop (.die (c::up) v h)=(match c.md with
  |.run=>.fr {c with md:=.dv v false} up h
  |_=>.bad):=(rfl)
theorem Reach.pop{P:Program}{Γ:Nat->Option AV}(c:ar):Reach P Γ c (AM.pop c):=by
 cases c with
 |back up v h=>cases up<;>first|exact .refl _|exact .step _
 |die up v h=>cases up<;>first|exact .refl _|exact .step _
 |_=>exact .refl _
theorem Reach.dW{P:Program}{Γ:Nat->Option AV}(n:Nat){c c':ar}(h:Reach P Γ (AM.go P Γ 1 n c) c'):Reach P Γ c c':=.trans (Reach.goes n c) h
section
variable{P:Program}{Γ:Nat->Option AV}{st:Nat}{n:Nat}{fn:FuncId}{k:List It}{t:List AV}{ds:List dF}{kind:FK}{base:Nat}{up:List Fr}{h h':List Ob}
theorem ni{c:ar}(hc:stepG P Γ st c=c):∀n,go P Γ st n c=c
 |0=>rfl
 |n+1=>by rw[go,hc];exact ni hc n
@[simp] theorem aBx:go P Γ st (n+1) (.fr ⟨.run,fn,.code .skip::k,t,ds,kind,base⟩ up h)=go P Γ st n (.fr ⟨.run,fn,k,t,ds,kind,base⟩ up h):=(rfl)
@[simp] theorem aBG{os:List AG}:go P Γ st (n+1) (.fr ⟨.run,fn,.code (.ae os)::k,t,ds,kind,base⟩ up h)=go P Γ st n (.fr ⟨.run,fn,.ops os::k,t,ds,kind,base⟩ up h):=(rfl)
@[simp] theorem aBK{a b:aj}:go P Γ st (n+1) (.fr ⟨.run,fn,.code (.seq a b)::k,t,ds,kind,base⟩ up h)=go P Γ st n (.fr ⟨.run,fn,.code a::.code b::k,t,ds,kind,base⟩ up h):=(rfl)
@[simp] theorem aBt{x:AX}{a b:aj}:go P Γ st (n+1) (.fr ⟨.run,fn,.code (.cond x a b)::k,t,ds,kind,base⟩ up h)=go P Γ st n (match ax t x with
  |.bool v=>.fr ⟨.run,fn,.code (if v then a else b)::k,t,ds,kind,base⟩ up h
  |_=>.bad):=(rfl)
@[simp] theorem aAD{id:Nat}{m:List Bool}{b:aj}:go P Γ st (n+1) (.fr ⟨.run,fn,.code (.block id m b)::k,t,ds,kind,base⟩ up h)=go P Γ st n (.fr ⟨.run,fn,.code b::.inBlock id m::k,t,ds,kind,base⟩ up h):=(rfl)
@[simp] theorem azW{id:Nat}{m:List Bool}:go P Γ st (n+1) (.fr ⟨.run,fn,.inBlock id m::k,t,ds,kind,base⟩ up h)=go P Γ st n (.fr ⟨.run,fn,k,dx m t,ds,kind,base⟩ up h):=(rfl)
@[simp] theorem aBe{id:Nat}:go P Γ st (n+1) (.fr ⟨.run,fn,.code (.exit id)::k,t,ds,kind,base⟩ up h)=go P Γ st n (match pv id k with
  |some (k',m)=>if st==1&&!m.isEmpty then .fr ⟨.run,fn,.code (.exit id)::k,t,ds,kind,base⟩ up h else .fr ⟨.run,fn,k',dx m t,ds,kind,base⟩ up h
  |none=>leave ⟨.run,fn,.code (.exit id)::k,t,ds,kind,base⟩ up h (.exit id)):=(rfl)
@[simp] theorem aBD:go P Γ st (n+1) (.fr ⟨.run,fn,.code .ret::k,t,ds,kind,base⟩ up h)=go P Γ st n (leave ⟨.run,fn,.code .ret::k,t,ds,kind,base⟩ up h .ret):=(rfl)
@[simp] theorem aBM:go P Γ st (n+1) (.fr ⟨.run,fn,[],t,ds,kind,base⟩ up h)=go P Γ st n (leave ⟨.run,fn,[],t,ds,kind,base⟩ up h .none):=(rfl)
@[simp] theorem aBq:go P Γ st (n+1) (.fr ⟨.run,fn,.ops []::k,t,ds,kind,base⟩ up h)=go P Γ st n (.fr ⟨.run,fn,k,t,ds,kind,base⟩ up h):=(rfl)
@[simp] theorem aiR{d:Option Nat}{o:AO}{os:List AG}:go P Γ st (n+1) (.fr ⟨.run,fn,.ops (⟨d,none,o⟩::os)::k,t,ds,kind,base⟩ up h)=
  go P Γ st n (gq P ⟨.run,fn,.ops (⟨d,none,o⟩::os)::k,t,ds,kind,base⟩ up h ⟨d,none,o⟩ os k (aB P Γ t h o)):=(rfl)
@[simp] theorem aBF{d:Option Nat}{j:Nat}{b:Bool}{o:AO}{os:List AG}:go P Γ st (n+1) (.fr ⟨.run,fn,.ops (⟨d,some (j,b),o⟩::os)::k,t,ds,kind,base⟩ up h)=go P Γ st n (match dO t (some (j,b))with
  |some true=>gq P ⟨.run,fn,.ops (⟨d,some (j,b),o⟩::os)::k,t,ds,kind,base⟩ up h ⟨d,some (j,b),o⟩ os k (aB P Γ t h o)
  |some false=>.fr ⟨.run,fn,.ops os::k,a_ t d (.aH []),ds,kind,base⟩ up h
  |none=>.bad):=(rfl)
@[simp] theorem aBi{m:List Bool}{b:aj}:go P Γ st n (.fr ⟨.run,fn,.code (.loop m b)::k,t,ds,kind,base⟩ up h)=.fr ⟨.run,fn,.code (.loop m b)::k,t,ds,kind,base⟩ up h:=ni rfl n
@[simp] theorem aAj{m:List Bool}{b:aj}:go P Γ st n (.fr ⟨.run,fn,.inLoop m b::k,t,ds,kind,base⟩ up h)=.fr ⟨.run,fn,.inLoop m b::k,t,ds,kind,base⟩ up h:=ni rfl n
@[simp] theorem aBo{as:List (List Nat)}{gs:List AG}:go P Γ st n (.fr ⟨.run,fn,.code (.gm as gs)::k,t,ds,kind,base⟩ up h)=.fr ⟨.run,fn,.code (.gm as gs)::k,t,ds,kind,base⟩ up h:=ni rfl n
@[simp] theorem aAR{l:List Bool}{ws:List Nat}{gs:List AG}:go P Γ st (n+1) (.fr ⟨.run,fn,.code (.aP l ws gs)::k,t,ds,kind,base⟩ up h)=(if tight l gs=true then(match runN P Γ gs t h with
  |some p=>go P Γ st n (.fr ⟨.run,fn,k,p.1,ds,kind,base⟩ up p.2)
  |none=>.fr ⟨.run,fn,.code (.aP l ws gs)::k,t,ds,kind,base⟩ up h)else .fr ⟨.run,fn,.code (.aP l ws gs)::k,t,ds,kind,base⟩ up h):=by
 split
 ·rename_i ht
  split
  ·rename_i p hr
   have hp:sj P Γ l gs t h=some p:=by simp only[sj,ht,cy,hr]
   simp only[go,stepG,hp]
  ·rename_i hr;refine ni ?_ _
   have hp:sj P Γ l gs t h=none:=by simp only[sj,ht,cy,hr]
   simp only[stepG,hp]
 ·rename_i ht;refine ni ?_ _
  have hp:sj P Γ l gs t h=none:=by simp[sj,ht]
  simp only[stepG,hp]
@[simp] theorem aA8:runN P Γ [] t h=some (t,h):=(rfl)
@[simp] theorem aBs{d:Option Nat}{o:AO}{os:List AG}:runN P Γ (⟨d,none,o⟩::os) t h=Aj P Γ os d t (aB P Γ t h o):=(rfl)
@[simp] theorem aAG{d:Option Nat}{j:Nat}{b:Bool}{o:AO}{os:List AG}:runN P Γ (⟨d,some (j,b),o⟩::os) t h=(match dO t (some (j,b))with
  |some true=>Aj P Γ os d t (aB P Γ t h o)
  |some false=>runN P Γ os (a_ t d (.aH [])) h
  |none=>none):=(rfl)
@[simp] theorem aAH{os:List AG}{d:Option Nat}{v:AV}:Aj P Γ os d t (.val v h)=runN P Γ os (a_ t d v) h:=(rfl)
@[simp] theorem aAi{os:List AG}{d:Option Nat}:Aj P Γ os d t (.skip h)=runN P Γ os (a_ t d (.aH [])) h:=(rfl)
@[simp] theorem aAe{os:List AG}{d:Option Nat}{f:FuncId}{args:List AV}:Aj P Γ os d t (.call f args)=none:=(rfl)
@[simp] theorem azQ{f:Fr}{o:AG}{os:List AG}:gq P f up h o os k .either=.fr f up h:=(rfl)
@[simp] theorem afi{f:Fr}{o:AG}{os:List AG}{v:AV}:gq P f up h o os k (.val v h')=.fr ⟨f.md,f.fn,.ops os::k,a_ f.t o.dst v,f.ds,f.kind,f.base⟩ up h':=(rfl)
@[simp] theorem aeV{f:Fr}{o:AG}{os:List AG}:gq P f up h o os k (.skip h')=.fr ⟨f.md,f.fn,.ops os::k,a_ f.t o.dst (.aH []),f.ds,f.kind,f.base⟩ up h':=(rfl)
@[simp] theorem aBg{f:Fr}{o:AG}{os:List AG}{v:AV}:gq P f up h o os k (.dv v)=.fr ⟨.dv v false,f.fn,f.its,f.t,f.ds,f.kind,f.base⟩ up h:=(rfl)
@[simp] theorem aAW{f:Fr}{o:AG}{os:List AG}{g:FuncId}{args:List AV}:gq P f up h o os k (.call g args)=if az P g=true then .cl g args (f::up) h else .bad:=(rfl)
@[simp] theorem aBd{f:Fr}{o:AG}{os:List AG}:gq P f up h o os k .sH=(match wj f up with
 |some (v,up')=>.fr {f with its:=.ops os::k,t:=a_ f.t o.dst v} up' h
 |none=>.bad):=(rfl)
@[simp] theorem aBm{f:Fr}{o:AG}{os:List AG}{g:FuncId}{args:List AV}:gq P f up h o os k (.bD g args)=(match f.kind with
  |.round _=>.bad
  |_=>.fr {f with its:=.ops os::k,t:=a_ f.t o.dst (.aH []),ds:=.call g args::f.ds} up h):=(rfl)
@[simp] theorem aAf{f:Fr}{o:AG}{os:List AG}{l:Nat}{args:List AV}:gq P f up h o os k (.yield l args)=(match h[l]? with
  |some (.loop _ _ fn t ps a b)=>
   if args.length=ps.length then
    .fr {md:=.run,fn:=fn,its:=[.code a,.beginRound,.code b],t:=jO t ps args,ds:=[],kind:=.round l,base:=h.length} (f::up) h
   else .bad
  |_=>.bad):=(rfl)
@[simp] theorem aBh{f:Fr}{o:AG}{os:List AG}:gq P f up h o os k .bad=.bad:=(rfl)
@[simp] theorem azq{x:AX}{ps:List Nat}{m:List Bool}{a b:aj}:go P Γ st (n+1) (.fr ⟨.run,fn,.code (.rangeFunc x ps m a b)::k,t,ds,kind,base⟩ up h)=go P Γ st n (match ax t x with
  |.fn (.func g) fs cs=>if az P g=false then .bad else match kind with
   |.round _=>.cl g (fs++.cY h.length::cs) (⟨.run,fn,.jN h.length::k,t,ds,kind,base⟩::up) (h++[.loop .ready .none fn (dx m t) ps a b])
   |_=>.cl g (fs++.cY (h.length+1)::cs) (⟨.run,fn,.jN (h.length+1)::k,t,.mark h.length::ds,kind,base⟩::up) (h++[.bD true,.loop .ready .none fn (dx m t) ps a b])
  |_=>.bad):=(rfl)
@[simp] theorem ay7:go P Γ st (n+1) (.fr ⟨.run,fn,.beginRound::k,t,ds,kind,base⟩ up h)=go P Γ st n (match kind with
  |.round l=>match h[l]? with
   |some (.loop .ready j fn' t' ps a b)=>.fr ⟨.run,fn,k,t,ds,kind,base⟩ up (h.set l (.loop .busy j fn' t' ps a b))
   |_=>.bad
  |_=>.bad):=(rfl)
@[simp] theorem azv{l:Nat}:go P Γ st (n+1) (.fr ⟨.run,fn,.vJ l::k,t,ds,kind,base⟩ up h)=go P Γ st n (match h[l]? with
  |some (.loop sta j fn' t' ps a b)=>
   if sta=.busy then .bad
   else .fr ⟨.run,fn,(match j with|.none=>k|.ret=>.code .ret::k|.exit id=>.code (.exit id)::k),t,ds,kind,base⟩ up (h.set l (.loop .exhausted j fn' t' ps a b))
  |_=>.bad):=(rfl)
@[simp] theorem aBN:go P Γ st (n+1) (.fr ⟨.ret,fn,k,t,ds,kind,base⟩ up h)=go P Γ st n (od P Γ ⟨.ret,fn,k,t,ds,kind,base⟩ up h):=(rfl)
@[simp] theorem aBH{v:AV}{rc:Bool}:go P Γ st (n+1) (.fr ⟨.dv v rc,fn,k,t,ds,kind,base⟩ up h)=go P Γ st n (od P Γ ⟨.dv v rc,fn,k,t,ds,kind,base⟩ up h):=(rfl)
@[simp] theorem aBO{g:FuncId}{args:List AV}:go P Γ st n (.cl g args up h)=.cl g args up h:=ni rfl n
@[simp] theorem aBj{c:Fr}{v:AV}:go P Γ 0 (n+1) (.back (c::up) v h)=go P Γ 0 n (match c.finish v with
  |some c'=>.fr c' up h
  |none=>.bad):=(rfl)
@[simp] theorem aA3{c:Fr}{v:AV}:go P Γ 1 (n+1) (.back (c::up) v h)=go P Γ 1 n (match c.finish v with
  |some c'=>.fr c' up h
  |none=>.bad):=(rfl)
@[simp] theorem aAV{v:AV}:go P Γ 2 n (.back up v h)=.back up v h:=ni (by cases up<;>rfl) n
@[simp] theorem aA9{v:AV}:go P Γ st n (.back [] v h)=.back [] v h:=ni rfl n
@[simp] theorem aBC{c:Fr}{v:AV}:go P Γ 0 (n+1) (.die (c::up) v h)=go P Γ 0 n (match c.md with
  |.run=>.fr {c with md:=.dv v false} up h
  |_=>.bad):=(rfl)
@[simp] theorem aBA{c:Fr}{v:AV}:go P Γ 1 (n+1) (.die (c::up) v h)=go P Γ 1 n (match c.md with
  |.run=>.fr {c with md:=.dv v false} up h
  |_=>.bad):=(rfl)
@[simp] theorem aBn{v:AV}:go P Γ 2 n (.die up v h)=.die up v h:=ni (by cases up<;>rfl) n
@[simp] theorem aBf{v:AV}:go P Γ st n (.die [] v h)=.die [] v h:=ni rfl n
@[simp] theorem aBE:go P Γ st n .bad=.bad:=ni rfl n
@[simp] theorem aBu{c:ar}:go P Γ st 0 c=c:=(rfl)
end
end Go.AM
namespace Go.AM
open Go.ChangeShapes Go.WideShapes Go.ChangeAt Go.RowKit
inductive Sh where
 |bool|str
 |int (k:IntKind)
 |list (k:Nat) (ag:Bool) (e:Sh)
 |parts (l:List Sh)
def nM:Bool->List AV->AV
 |true,cs=>.agg cs
 |false,[c]=>c
 |false,_=>.undef
mutual
def fO(B:Nat):Sh->List AV->Prop
 |.bool,cs=>∃b,cs=[.bool b]
 |.str,cs=>∃s:List UInt8,cs=[.str s]/\s.length<=B
 |.int k,cs=>∃n,cs=[.int k n]/\k.min<=n/\n<=k.max
 |.list k ag e,cs=>∃xs:List (List AV),cs=[.list false k (xs.map (nM ag))]/\xs.length<=B/\∀x∈xs,fO B e x/\x.length=k
 |.parts l,cs=>sg B l cs
def sg(B:Nat):List Sh->List AV->Prop
 |[],cs=>cs=[]
 |s::ss,cs=>∃a b,cs=a++b/\fO B s a/\sg B ss b
end
def jl(P:Program):Nat->TypeId->Option Sh
 |0,_=>none
 |n+1,t=>match P.underlying t with
  |some .bool=>some .bool
  |some .string=>some .str
  |some (.int k)=>some (.int k)
  |some (.slice e)=>match jl P n e,gU P e with
   |some s,some ag=>if P.cellsOf e=0\/(ag=false/\P.cellsOf e≠1)then none else some (.list (P.cellsOf e) ag s)
   |_,_=>none
  |some (.struct fs)=>(fs.toList.mapM fun f=>jl P n f.type).map .parts
  |some (.array m e)=>(jl P n e).map fun s=>.parts (List.replicate m s)
  |_=>none
def gw(w:World):G:={ρ:=fun _=>none,M:=fun b o=>w.cell? ⟨b,o,none⟩,MM:=fun b=>match w.heap[b]? with|some (.map es ck)=>some (es,ck)|_=>none}
structure Down{H:Type}(B:Nat)(Q:DataW H->Prop):Prop where
 sl:∀e r,Q (.slice e r)->e.length<=9223372036854775807->e.length<=B/\∀d∈e,Q d
 ag:∀ps,Q (.agg ps)->∀d∈ps,Q d
 st:∀b,Q (.lit (.string b))->b.length<=9223372036854775807->b.length<=B
section
variable{P:Program}{w:World}{H:Type}{enc:TypeId×Value->H}{sp:Nat->Bool}{T:TypeId->Prop}
def Rd(B:Nat)(w:World)(s:Sh)(cs:List Value):Prop:=∃as,fO B s as/\VL (gw w) [] as cs/\cm as=true/\aK 0 as=true
theorem Y6{as bs:List AV}(h1:cm as=true)(h2:cm bs=true):cm (as++bs)=true:=by
 induction as with
 |nil=>simpa using h2
 |cons a as ih=>simp only[cm,eo,ay]at h1⊢;exact⟨h1.1,ih h1.2⟩
theorem Zi{n:Nat}{as bs:List AV}(h1:aK n as=true)(h2:aK n bs=true):aK n (as++bs)=true:=by
 induction as with
 |nil=>simpa using h2
 |cons a as ih=>simp only[aK,eo,ay]at h1⊢;exact⟨h1.1,ih h1.2⟩
theorem acm{ag:Bool}{as:List AV}{k:Nat}(hk:as.length=k)(h1:ag=true\/k=1)(ho:cm as=true):(nM ag as).cells=as:=by
 cases ag with
 |true=>rfl
 |false=>
  have:k=1:=by simpa using h1
  subst this
  match as,hk with
  |[c],_=>simp[nM];simp[cm]at ho;cases c<;>simp_all [AV.cells,AV.one]
theorem L4{k:Nat}:∀{es fs:List AV},cA es k=true->cA fs k=true->cA (es++fs) k=true
 |[],_,_,h2=>by simpa using h2
 |e::es,fs,h1,h2=>by
  simp only[cA,eo,ay]at h1⊢;exact⟨h1.1,L4 h1.2 h2⟩
theorem Ga{B:Nat}{n:Nat}{r:List Value->Sh->Prop}:∀(ss:List Sh)(css:List (List Value)),css.length=ss.length->(∀(i:Nat) s c,ss[i]? =some s->css[i]? =some c->Rd B w s c)->
 ∃as,sg B ss as/\VL (gw w) [] as css.flatten/\cm as=true/\aK 0 as=true
 |[],css,hl,_=>by
  have:css=[]:=by simpa using hl
  subst this;exact⟨[],by simp[sg],by simp[VL],rfl,rfl⟩
 |s::ss,css,hl,hr=>by
  match css,hl with
  |c::css,hl=>
   obtain⟨a,h1,h2,h3,h4⟩:=hr 0 s c rfl rfl;obtain⟨b,h5,h6,h7,h8⟩:=Ga (n:=n) (r:=r) ss css (by simpa using hl) (fun i s c hs hc=>hr (i+1) s c (by simpa using hs) (by simpa using hc));exact⟨a++b,by simp only[sg];exact⟨a,b,rfl,h1,h5⟩,by simpa using lD h2 h6,Y6 h3 h7,Zi h4 h8⟩
theorem Hy{α:Type}:∀(ns:List Nat)(cs:List α),cs.length=ns.sum->∃css:List (List α),css.length=ns.length/\css.flatten=cs/\∀(i n:Nat),ns[i]? =some n->css[i]? =some ((cs.drop (ns.take i).sum).take n)
 |[],cs,h=>⟨[],rfl,by simp at h;simp[h],by simp⟩
 |n::ns,cs,h=>by
  obtain⟨css,h1,h2,h3⟩:=Hy ns (cs.drop n) (by simp at h⊢;omega);refine⟨cs.take n::css,by simp[h1],by simp[h2],?_⟩;intro i m hi
  cases i with
  |zero=>simp at hi;subst hi;simp
  |succ i=>
   simp only[nT,Ln,List.sum_cons]at hi⊢;rw[h3 i m hi,List.drop_drop]
theorem aiD{B:Nat}{Q:DataW H->Prop}(K:Kids P T)(D:Down B Q):∀(n:Nat)(t:TypeId)(s:Sh),T t->jl P n t=some s->∀(fuel:Nat)(cs:List Value)(x:DataW H×List MemPlace),DataW.trod enc P w 0 sp true fuel t cs=some x->Q x.1->Rd B w s cs:=by
 intro n
 induction n with
 |zero=>intro t s _ hs;simp[jl]at hs
 |succ n ih=>
  intro t s hT hs fuel cs x hx hQ;unfold jl at hs
  split at hs
  ·rename_i hu
   cases hs
   obtain⟨b,rfl,_⟩:=DataW.trod_bool hu hx;exact⟨[.bool b],by simp[fO],by simp[VL,V],rfl,rfl⟩
  ·rename_i hu
   cases hs
   obtain⟨b,rfl,hxe,h⟩:=DataW.trod_string hu hx;refine⟨[.str b.data.toList],?_,by simp[VL,V],rfl,rfl⟩;simp only[fO];rw[hxe]at hQ;exact⟨_,rfl,D.st _ hQ (by simpa[maxLen]using h)⟩
  ·rename_i k hu
   cases hs
   obtain⟨i,rfl,_,h⟩:=DataW.trod_int hu hx;refine⟨[.int k i],?_,by simp[VL,V],rfl,rfl⟩;simp only[Lit.wf,ay,aZ]at h;simp only[fO];exact⟨i,rfl,h.1,h.2⟩
  ·rename_i e hu
   split at hs
   ·rename_i se ag hse hag
    split at hs
    ·cases hs
    ·rename_i hk
     cases hs
     have hTe:=K.slice hT hu
     have hk0:0<P.cellsOf e:=by omega
     have hk1:ag=true\/P.cellsOf e=1:=by cases ag<;>simp_all
     rcases DataW.trod_slice hu hx with⟨rfl,_⟩|⟨a,len,cap,elems,rest,m,_,rfl,hxe,_,hlc,hcap,hel,hget,_⟩
     ·refine⟨[.list false (P.cellsOf e) []],?_,?_,rfl,rfl⟩
      ·simp only[fO];exact⟨[],rfl,by simp,by simp⟩
      ·simp[VL,V,cA]
     ·have hQ2:=D.sl (elems.map (·.1)) (rest.map (·.1)) (by rw[hxe]at hQ;exact hQ) (by rw[fC];simp[maxLen]at hcap;omega);rw[fC]at hQ2
      have key:∀q,q<=len->∃xs:List (List AV),xs.length=q/\(∀x∈xs,fO B se x/\x.length=P.cellsOf e)/\cA (xs.map (nM ag)) (P.cellsOf e)=true/\
       ∃vs,VE (gw w) [] (xs.map (nM ag)) vs/\vs.length=q*P.cellsOf e/\∀j(hj:j<vs.length),w.cell? (a.add j)=some vs[j]:=by
       intro q
       induction q with
       |zero=>intro _;exact⟨[],rfl,by simp,rfl,[],by simp[VE],by simp,by simp⟩
       |succ q ihq=>
        intro hq;obtain⟨xs,h1,h2,h3,vs,h4,h5,h6⟩:=ihq (by omega);have hg:=hget q (by omega);obtain⟨y,hy⟩:∃y,elems[q]? =some y:=⟨elems[q]'(by omega),aR (by omega)⟩;rw[hy,oX]at hg;obtain⟨c,hc,ht⟩:=hg;obtain⟨as,g1,g2,g3,g4⟩:=ih e se hTe hse _ _ _ ht (hQ2.2 _ (sU (i_ hy)));unfold World.cells? at hc
        split at hc
        ·have hcl:c.length=P.cellsOf e:=by simpa using mapM_some_length hc
         have hal:as.length=P.cellsOf e:=by rw[<-gD g2];exact hcl
         have hcells:=acm hal hk1 g3;refine⟨xs++[as],by simp[h1],?_,?_,vs++c,?_,?_,?_⟩
         ·intro x hx
          rcases aT.1 hx with hx|hx
          ·exact h2 x hx
          ·simp at hx;subst hx;exact⟨g1,hal⟩
         ·rw[j5];refine L4 h3 ?_;simp only[bU,jG,cA,hcells,hal,g3,g4,decide_true,pS]
         ·rw[j5];refine qk h4 ?_;simp only[bU,jG,VE]
          cases ag with
          |true=>exact⟨.agg c.toArray,[],by simp only[nM,V];exact⟨c,rfl,g2⟩,by simp[Value.cells],rfl⟩
          |false=>
           have hk2:P.cellsOf e=1:=by simpa using hk1
           match as,hal.trans hk2,c,hcl.trans hk2 with
           |[a1],_,[c1],_=>
            simp only[VL]at g2;obtain⟨v,_,h7,h8,h9⟩:=g2;subst h9
            cases h7
            refine⟨c1,[],h8,?_,rfl⟩
            have ho:a1.one=true:=by simpa[cm]using g3
            have:c1.cells=#[c1]:=by
             cases a1<;>simp[AV.one]at ho<;>simp only[V]at h8<;>first
              |(subst h8;rfl)
              |(obtain⟨_,_,_,rfl,_⟩:=h8;rfl)
              |(obtain⟨_,_,_,_,_,rfl⟩:=h8;rfl)
              |(obtain⟨_,_,_,_,_,_,rfl⟩:=h8;rfl)
              |(obtain⟨_,_,rfl,_⟩:=h8;rfl)
              |(obtain⟨_,rfl,_⟩:=h8;rfl)
              |(obtain⟨_,_,_,_,rfl⟩:=h8;rfl)
              |(simp[aG,aK]at g4)
              |(exfalso;simp_all [EN,isCells,isMap,Rv,Iz])
            simp[this]
         ·simp[h5,hcl];rw[gA];simp
         ·intro j hj;rw[List.getElem_append]
          split
          ·rename_i hjv;exact h6 j hjv
          ·rename_i hjv;have h7:=mapM_some_get hc (j-vs.length) (j-vs.length) (by rw[bu]at hj;rw[Lw (by omega)]);rw[aR (by simp at hj;omega)]at h7;rw[<-h7];congr 1
           have hadd:(a.add (q*P.cellsOf e)).add (j-vs.length)=a.add j:=by
            unfold Addr.add
            split<;>split<;>split<;>simp_all<;>omega
           rw[hadd]
        ·cases hc
      obtain⟨xs,h1,h2,h3,vs,h4,h5,h6⟩:=key len (aQ _);refine⟨[.list false (P.cellsOf e) (xs.map (nM ag))],?_,?_,rfl,?_⟩
      ·simp only[fO];exact⟨xs,rfl,by omega,h2⟩
      ·simp only[VL,V];refine⟨_,[],rfl,⟨h3,some a,cap,by simp[h1],by simp,by simpa[h1]using hlc,?_⟩,rfl⟩
       by_cases hl:len=0
       ·subst hl;left;simpa using h1
       ·right
        have h0:0<vs.length:=by rw[h5];exact Nat.mul_pos (by omega) hk0
        have hs:=h6 0 h0
        have hsp:a.spot=none:=by
         unfold World.cell? Addr.add at hs;rw[if_pos rfl]at hs
         split at hs
         ·split at hs
          ·cases hs
          ·rename_i h8;simpa using h8
         ·cases hs
        obtain⟨b,o,sp'⟩:=a;simp only at hsp;subst hsp;refine⟨b,o,vs,rfl,h4,fun j hj=>?_⟩;have h9:=h6 j hj
        have:(⟨b,o,none⟩:Addr).add j=⟨b,o+j,none⟩:=by
         unfold Addr.add
         split<;>simp_all
        rw[this]at h9;exact h9
      ·simp only[aK,aG,pS];exact jI h3
   ·cases hs
  ·rename_i fs hu;rw[cf]at hs;obtain⟨ss,hss,rfl⟩:=hs;obtain⟨hf,hsz,hoff⟩:=K.struct hT hu;obtain⟨xs,m,_,hxe,hcl,hxl,hget⟩:=DataW.trod_struct hu hx;have hQ2:=D.ag (xs.map (·.1)) (by rw[hxe]at hQ;exact hQ);obtain⟨css,h1,h2,h3⟩:=Hy (fs.toList.map fun f=>P.cellsOf f.type) cs (by rw[hcl,hsz]);have hssl:ss.length=fs.toList.length:=mapM_some_length hss
   obtain⟨as,g1,g2,g3,g4⟩:=Ga (w:=w) (n:=0) (r:=fun _ _=>True) ss css (by rw[h1,hssl];simp) (by
    intro i s c hs hc
    have hi:i<fs.size:=by have:=aV hs;rw[hssl]at this;simpa using this
    obtain⟨f,hfi⟩:∃f,fs[i]? =some f:=⟨fs[i],by simp[hi]⟩
    have hfl:fs.toList[i]? =some f:=by simpa using hfi
    have h4:=h3 i (P.cellsOf f.type) (by simp[hfi]);rw[hc]at h4;have h4:=Option.some.inj h4;have h5:=hget i f hfi;rw[hoff i f hfl]at h5;have h6:=mapM_some_get hss i f hfl;rw[hs]at h6;have hxi:∃y,xs[i]? =some y:=⟨xs[i]'(by omega),aR (by omega)⟩;obtain⟨y,hy⟩:=hxi;rw[hy]at h5;subst h4;rw[<-List.map_take]
    exact ih f.type s (hf f (i_ hfl)) h6 _ _ y h5 (hQ2 _ (sU (i_ hy))))
   exact⟨as,by simpa only [fO]using g1,by rw[h2]at g2;exact g2,g3,g4⟩
  ·rename_i m e hu;rw[cf]at hs;obtain⟨s,hs,rfl⟩:=hs;obtain⟨hTe,hsz⟩:=K.array hT hu;obtain⟨xs,q,_,hxe,hcl,hxl,hget⟩:=DataW.trod_array hu hx;have hQ2:=D.ag (xs.map (·.1)) (by rw[hxe]at hQ;exact hQ);obtain⟨css,h1,h2,h3⟩:=Hy (List.replicate m (P.cellsOf e)) cs (by rw[hcl,hsz];simp)
   obtain⟨as,g1,g2,g3,g4⟩:=Ga (w:=w) (n:=0) (r:=fun _ _=>True) (List.replicate m s) css (by rw[h1];simp) (by
    intro i s' c hs' hc
    have hi:i<m:=by have:=aV hs';simpa using this
    rw[Lx]at hs';simp only[hi,cy,ak]at hs';subst hs';have h4:=h3 i (P.cellsOf e) (by simp[Lx,hi]);rw[hc]at h4;have h4:=Option.some.inj h4;have h5:=hget i hi;obtain⟨y,hy⟩:∃y,xs[i]? =some y:=⟨xs[i]'(by omega),aR (by omega)⟩;rw[hy]at h5;subst h4
    have he:(List.take i (List.replicate m (P.cellsOf e))).sum=i*P.cellsOf e:=by simp[List.take_replicate,rq (Nat.le_of_lt hi)]
    rw[he]
    exact ih e s hTe hs _ _ y h5 (hQ2 _ (sU (i_ hy))))
   exact⟨as,by simpa only [fO]using g1,by rw[h2]at g2;exact g2,g3,g4⟩
  ·cases hs
end
def TS(P:Program)(t:TypeId):Prop:=t<P.types.size/\∃n,(jl P n t).isSome=true
theorem afT{P:Program}(hl:laidOutB P=true)(hm:mapsRowed P=true):Kids P (TS P):=by
 have K:=kids_rows hl hm;refine⟨fun{t e} ht hu=>?_,fun{t e} ht hu=>?_,fun{t e n} ht hu=>?_,fun{t fs} ht hu=>?_,fun{t k e} ht hu=>?_⟩
 ·obtain⟨_,n,hn⟩:=ht
  cases n<;>simp[jl,hu]at hn
 ·obtain⟨h1,n,hn⟩:=ht;refine⟨K.slice h1 hu,?_⟩
  cases n with
  |zero=>simp[jl]at hn
  |succ n=>
   simp only[jl,hu]at hn
   split at hn
   ·rename_i h2 _;exact⟨n,by simp[h2]⟩
   ·cases hn
 ·obtain⟨h1,m,hn⟩:=ht;refine⟨⟨(K.array h1 hu).1,?_⟩,(K.array h1 hu).2⟩
  cases m with
  |zero=>simp[jl]at hn
  |succ m=>simp only[jl,hu,Option.isSome_map]at hn;exact⟨m,hn⟩
 ·obtain⟨h1,n,hn⟩:=ht;refine⟨fun f hf=>⟨(K.struct h1 hu).1 f hf,?_⟩,(K.struct h1 hu).2⟩
  cases n with
  |zero=>simp[jl]at hn
  |succ n=>
   simp only[jl,hu,Option.isSome_map]at hn;obtain⟨ss,hss⟩:=Lq.1 hn;obtain⟨i,hi⟩:=xh.1 hf;have:=mapM_some_get hss i f hi;have hlen:=mapM_some_length hss
   have hlt:i<ss.length:=by rw[hlen];exact aV hi
   exact⟨n,by rw[this,aR hlt];rfl⟩
 ·obtain⟨_,n,hn⟩:=ht
  cases n<;>simp[jl,hu]at hn
def tV(B:Nat):List (Bool×Sh)->List AV->Prop
 |[],as=>as=[]
 |(ag,s)::r,as=>∃cs as',as=nM ag cs::as'/\fO B s cs/\(ag=false->cs.length=1)/\tV B r as'
def EE(P:Program)(t:TypeId):Option (Bool×Sh):=match gU P t,jl P 12 t with
 |some ag,some s=>some (ag,s)
 |_,_=>none
section
variable{P:Program}{W:World}{H:Type}{enc:TypeId×Value->H}{sp:Nat->Bool}
theorem Q4{B:Nat}{Q:DataW H->Prop}(K:Kids P (TS P))(D:Down B Q):∀{ts:List TypeId}{shs:List (Bool×Sh)}{vs:List Value}{ds:List (DataW H)}{ps:List MemPlace},(∀t∈ts,t<P.types.size)->ts.mapM (EE P)=some shs->
 (∀(j:Nat) t v,ts[j]? =some t->vs[j]? =some v->∃r base,Value.okWide P W r base t v)->DataW.TrodAll enc P W 0 sp true ts vs ds ps->(∀d∈ds,Q d)->∃as,tV B shs as/\VL (gw W) [] as vs
 |[],shs,vs,ds,ps,_,hs,_,hT,_=>by
  obtain⟨rfl,_,_⟩:=trodAll_nil hT;simp at hs;subst hs;exact⟨[],by simp[tV],by simp[VL]⟩
 |t::ts,shs,vs,ds,ps,hlt,hs,hok,hT,hQ=>by
  obtain⟨v,vs1,d,ds1,a,b,rfl,rfl,rfl,h1,h2⟩:=trodAll_cons hT;simp only[sO,pY,oX,Ly,ak]at hs;obtain⟨x,hx,ys,hys,rfl⟩:=hs;obtain⟨as,g1,g2⟩:=Q4 K D (fun t ht=>hlt t (dw _ ht)) hys (fun j t v h3 h4=>hok (j+1) t v (by simpa using h3) (by simpa using h4)) h2 (fun d hd=>hQ d (dw _ hd));unfold EE at hx
  split at hx
  ·rename_i ag s hag hsh
   cases hx
   obtain⟨fuel,hf⟩:=h1;obtain⟨cs,h3,h4,h5,h6⟩:=aiD K D 12 t s ⟨hlt t (by simp),12,by simp[hsh]⟩ hsh _ _ _ hf (hQ _ (oY ..));obtain⟨r,base,hokv⟩:=hok 0 t v rfl rfl
   cases ag with
   |true=>
    have hv:∃c,v=.agg c:=by
     unfold gU at hag;unfold Value.okWide at hokv
     cases hu:P.underlying t with
     |none=>simp[hu]at hag
     |some d=>
      rw[hu]at hag hokv
      cases d<;>simp at hag<;>(obtain⟨c,rfl,_⟩:=hokv;exact⟨c,rfl⟩)
    obtain⟨c,rfl⟩:=hv;refine⟨.agg cs::as,by simp only[tV];exact⟨cs,as,rfl,h3,by simp,g1⟩,?_⟩;simp only[VL,V];exact⟨_,_,rfl,⟨c.toList,by simp,by simpa[Value.cells]using h4⟩,g2⟩
   |false=>
    have hv:v.cells=#[v]:=by
     unfold gU at hag
     cases v with
     |agg c=>
      exfalso
      cases fuel with
      |zero=>simp[DataW.trod]at hf
      |succ n=>
      cases hu:P.underlying t with
      |none=>simp[hu]at hag
      |some d=>
       rw[hu]at hag;unfold Value.okWide at hokv;rw[hu]at hokv
       cases d<;>simp at hag<;>simp[Cell.okWide,Cell.ok,hu]at hokv
       all_goals (unfold jl at hsh;rw[hu]at hsh;simp at hsh)
     |_=>rfl
    rw[hv]at h4
    have hlen:cs.length=1:=by rw[<-gD h4];rfl
    match cs,hlen with
    |[c],_=>
     simp only[VL]at h4;obtain⟨u,us,h7,h8,h9⟩:=h4
     cases h7
     refine⟨c::as,by simp only[tV];exact⟨[c],as,rfl,h3,fun _=>rfl,g1⟩,?_⟩;simp only[VL];exact⟨_,_,rfl,h8,g2⟩
  ·cases hx
theorem aax:∀{shs:List (Bool×Sh)}{as:List AV}{vs:List Value},VL (gw W) [] as vs->aK 0 as=true
 |_,_,_,h=>by simpa using dB h
theorem aaM{B:Nat}{Q:DataW H->Prop}(D:Down B Q){f:FuncId}{fn:Func}{s:ChangeSpec}{Γ:Nat->Option AV}{tb:TypeId}{shs:List (Bool×Sh)}(hl:laidOutB P=true)(hm:mapsRowed P=true)(hres:fn.resultTypes=#[tb])(htb:P.underlying tb=some .bool)
 (hlt:∀t∈fn.params.toList,t<P.types.size)(hsh:fn.params.toList.mapM (EE P)=some shs)(hvars:s.vars=[])
 (hspec:∀ds:List (DataW H),ds.length=fn.params.size->(s.fn H ds).results=[.lit (.bool true)]/\(s.fn H ds).args=ds/\(s.fn H ds).vars=[])
 (hΓ:∀n a,Γ n=some a->aK 0 a.cells=true/\∃vs,VL (gw W) [] a.cells vs/\∀j(hj:j<vs.length),W.cell? ⟨n,j,none⟩=some vs[j])
 (hpin:Jb Γ {K:=fun b=>W.heap[b]?,M0:=(gw W).M,MM:=(gw W).MM,w0:=W})
 (con:∀as,tV B shs as->aS P Γ f as (.bool true))
 {base:Nat}{args:Array Value}{ds gs:List (DataW H)}{before:List MemPlace}
 (hval:∀(j:Nat) t v,fn.params[j]? =some t->args[j]? =some v->Value.okWide P W .any base t v)
 (hW:DataW.Whole enc P fn.params.toList s.vars false W args.toList ds gs before)(hQ:∀d∈ds,Q d):
 Calls P f args W fun e W'=>∃v,e=.returned v/\s.post enc P fn false true false false W args v W':=by
 have K:=afT hl hm;have hW':=hW;obtain⟨p,q,hA,hV,rfl,hfz,hnd⟩:=hW;rw[hvars]at hV;obtain⟨rfl,rfl⟩:=trodVars_none hV;obtain⟨as,h1,h2⟩:=Q4 K D hlt hsh (fun j t v hj hv=>⟨_,_,hval j t v (by simpa using hj) (by simpa using hv)⟩) hA hQ
 have hI:Inv P Γ {K:=fun b=>W.heap[b]?,M0:=(gw W).M,MM:=(gw W).MM,w0:=W} (gw W) [] W:=by
  refine⟨rfl,rfl,rfl,fun b o hb=>hb,fun i b x hi=>(by cases hi),fun i j b x y hi=>(by cases hi),fun _ _=>rfl,fun b o v hv=>hv,?_,fun i b sz st o v hi=>(by cases hi),fun i o hi=>(by simp at hi),hΓ,
   fun b o v B hv _=>hv,rfl,hpin⟩
  intro b es ck hb;simp only[gw]at hb
  split at hb
  ·rename_i es' ck' hh
   cases hb
   exact⟨hh,fun i x hi=>(by cases hi)⟩
  ·cases hb
 have hC:=(con as h1).2 (aax (shs:=shs) h2) _ _ [] W args.toList hI h2;rw[Array.toArray_toList]at hC;refine hC.mono ?_
 rintro e W' ⟨u,g',rfl,_,hI',hu,_,_,hheap⟩
 simp only[dZ,eJ,V]at hu;subst hu;refine⟨_,rfl,ds,[],p++[],[],p,[],hW',?_,?_,?_,?_,fun h=>by cases h⟩
 ·have hlen:ds.length=fn.params.size:=by
   have:=(trodAll_length hA).2;simpa using this
  rw[ee,(hspec ds hlen).1,hres];exact trodAll_cons_mk (shut_bool htb _) trodAll_mk0
 ·have hlen:ds.length=fn.params.size:=by
   have:=(trodAll_length hA).2;simpa using this
  rw[ee,(hspec ds hlen).2.1];have hp:∀x∈p,x.block<W.heap.size:=hA.lt
  have key:∀{ts:List TypeId}{vs:List Value}{ds:List (DataW H)}{ps:List MemPlace},(∀t∈ts,TS P t)->(∀x∈ps,x.block<W.heap.size)->DataW.TrodAll enc P W 0 (fun _=>true) true ts vs ds ps->
   DataW.TrodAll enc P W' 0 (fun b=>decide (b<W.heap.size)) true ts vs ds ps:=by
   intro ts
   induction ts with
   |nil=>
    intro vs ds ps _ _ hT;obtain⟨rfl,rfl,rfl⟩:=trodAll_nil hT;exact trodAll_mk0
   |cons t ts ih=>
    intro vs ds ps ht hb hT;obtain⟨v,vs1,d,ds1,a,b,rfl,rfl,rfl,h3,h4⟩:=trodAll_cons hT;obtain⟨fuel,hf⟩:=h3;refine trodAll_cons_mk ⟨fuel,DataW.trod_stays K ?_ (by simp) (ht t (by simp)) hf ?_ ?_⟩ (ih (fun t' ht'=>ht t' (dw _ ht')) (fun x hx=>hb x (by simp[hx])) h4)
    ·intro t e ht' hu;obtain⟨_,n,hn⟩:=ht'
     cases n with
     |zero=>simp[jl]at hn
     |succ n=>
      simp only[jl,hu]at hn
      split at hn
      ·split at hn
       ·cases hn
       ·rename_i h5;omega
      ·cases hn
    ·intro x hx;have hxb:=hb x (by simp[hx])
     cases x with
     |cell b o=>simp only[World.sameAt,World.cell?];rw[hheap b hxb]
     |map b=>simp only[World.sameAt];exact hheap b hxb
    ·intro x hx;have hxb:=hb x (by simp[hx]);simpa using hxb
  refine key (fun t ht=>⟨hlt t ht,?_⟩) hp hA;obtain⟨i,hi⟩:=xh.1 ht;have h3:=mapM_some_get hsh i t hi
  have hl3:i<shs.length:=by rw[mapM_some_length hsh];exact aV hi
  rw[aR hl3]at h3;unfold EE at h3
  split at h3
  ·rename_i h4;exact⟨12,by simp[h4]⟩
  ·cases h3
 ·have hlen:ds.length=fn.params.size:=by
   have:=(trodAll_length hA).2;simpa using this
  rw[ee,(hspec ds hlen).2.2,hvars];rfl
 ·refine⟨hI'.os,hI'.output,fun i hi=>?_⟩;rw[hheap i hi];have:=(World.keptBut_refl W (fun p_1=>p_1∈p++[]/\(p_1∈[]\/p_1∈p\/p_1∈[]))).2.2 i hi;exact this
end
theorem CW{α β γ:Type}{f:α->γ}{e:β->γ}:∀{xs:List α},(∀x∈xs,∃t,f x=e t)->∃ts:List β,xs.map f=ts.map e/\ts.length=xs.length
 |[],_=>⟨[],rfl,rfl⟩
 |x::xs,h=>by
  obtain⟨t,ht⟩:=h x (by simp);obtain⟨ts,h1,h2⟩:=CW (xs:=xs) (e:=e) (fun y hy=>h y (dw _ hy));exact⟨t::ts,by simp[ht,h1],by simp[h2]⟩
end Go.AM
namespace Go.AM
open Go.RowKit
theorem drop_eq{α:Type}{a b:List α}{i:Nat}(h1:i<a.length)(h2:i<b.length):(a.drop i=b.drop i)↔(a[i]=b[i]/\a.drop (i+1)=b.drop (i+1)):=by
 rw[bJ h1,bJ h2,uD]
@[simp] theorem aAC{α:Type}(n:Nat)(f:α->AV)(l:List α):aK n (l.map f)=l.all fun x=>aG n (f x):=by
 induction l with
 |nil=>rfl
 |cons a l ih=>simp[aK,ih]
@[simp] theorem aAU{α:Type}(f:α->AV)(l:List α):eZ (l.map f)=l.all fun x=>eB (f x):=by
 induction l with
 |nil=>rfl
 |cons a l ih=>simp[eZ,ih]
@[simp] theorem azF(a b:List AV):eZ (a++b)=(eZ a&&eZ b):=by
 induction a with
 |nil=>simp[eZ]
 |cons x a ih=>simp[eZ,ih,oZ]
@[simp] theorem aAY{α β:Type}(f:α->β)(l:List α):(l.map f).take l.length=l.map f:=by rw[cR];simp
@[simp] theorem FU(n:Nat)(a b:List AV):aK n (a++b)=(aK n a&&aK n b):=by
 induction a with
 |nil=>simp[aK]
 |cons x a ih=>simp[aK,ih,oZ]
@[simp] theorem aBJ{c:Prop}[Decidable c]{r:R}(h:c):(if c then r else R.bad)=r:=if_pos h
@[simp] theorem aBp{c:Prop}[Decidable c]{α:Type}{x:α}(h:c):(if c then some x else none)=some x:=if_pos h
@[simp] theorem natCast_eq(a b:Nat):((a:Int)=(b:Int))↔a=b:=by omega
@[simp] theorem toNat_add{x y:Int}(h1:0<=x)(h2:0<=y):(x+y).toNat=x.toNat+y.toNat:=by omega
@[simp] theorem toNat_sub{x y:Int}(h2:0<=y):(x-y).toNat=x.toNat-y.toNat:=by omega
attribute [simp] k9 k_ gQ pE sf cr iu fa iv dh jF pC Dn cQ mO oB wrap64 ry nT
@[simp] theorem az3{P:Program}{Γ:Nat->Option AV}(c:ar):Reach P Γ c c:=.refl c
section
variable{P:Program}{Γ:Nat->Option AV}
theorem Dg{g:G}{h:List Ob}{s:List UInt8}{as:List AV}{us:List Value}(hv:VL g h (.str s::as) us):∃us',us=.string ⟨s.toArray⟩::us'/\VL g h as us':=by
 simp only[VL,V]at hv;obtain⟨v,us',rfl,rfl,h2⟩:=hv;exact⟨us',rfl,h2⟩
theorem ahk{g:G}{h:List Ob}{k:IntKind}{n:Int}{as:List AV}{us:List Value}(hv:VL g h (.int k n::as) us):∃us',us=.int k n::us'/\VL g h as us':=by
 simp only[VL,V]at hv;obtain⟨v,us',rfl,rfl,h2⟩:=hv;exact⟨us',rfl,h2⟩
theorem HX{g:G}{h:List Ob}{us:List Value}(hv:VL g h [] us):us=[]:=by simpa only [VL]using hv
theorem Reach.ai0{f:FuncId}{args as:List AV}{v:AV}{up:List Fr}{h:List Ob}{c:ar}(h1:cq h args=some as)(h2:mu P Γ f as v)(h3:Reach P Γ (.die up v h) c):Reach P Γ (.cl f args up h) c:=.trans (.Jd h1 h2) h3
theorem Reach.mE(n:Nat){f:FuncId}{args as:List AV}{v:AV}{up:List Fr}{h:List Ob}{c:ar}(h1:cq h args=some as)(h2:mu P Γ f as v)(h3:Reach P Γ (AM.go P Γ 0 n (.die up v h)) c):Reach P Γ (.cl f args up h) c:=.ai0 h1 h2 (.go n h3)
def oD(gs:List AG):List (List Nat):=(List.range gs.length).map fun i=>(List.range i).filter fun j=>match gs[i]?,gs[j]? with
 |some gi,some gj=>(match gj.dst with
  |some d=>(tP gi).contains d
  |none=>false)
 |_,_=>false
theorem Qe{ops:Array Oper}{dep:List (List Nat)}(hed:pf ops=true)(hdl:dep.length=ops.size)(hda:∀i j,j∈dep.getD i []->l5 ops j i=true):∀(fuel n:Nat)(listed:Array Bool)(done:List Nat),listed.size=ops.size->(∀i,i<ops.size->listed.getD i true=done.contains i)->C7 ops listed->left ops.size listed=fuel->
 Region.linearise.go .any ops fuel n listed []∈fV dep fuel done
 |0,n,listed,done,_,_,_,_=>by simp[Region.linearise.go,fV]
 |fuel+1,n,listed,done,hsz,hd,hcl,hl=>by
  have hed1:∀i(h:i<ops.size),∀e∈(ops[i]).after.toList,Region.binds .any e=true->e.on<i:=by
   intro i h e he hb;simp only[pf,dU]at hed;have h6:=hed (ops[i],i) (by rw[V3];simp[h]);rw[<-sS,dU]at h6;have h7:=h6 e he;rw[hb]at h7;simpa using h7
  have hne:0<((List.range ops.size).filter fun i=>!listed.getD i true&&((ops[i]?).map (·.after.all fun e=>!Region.binds .any e||listed.getD e.on false)).getD false).length:=by
   have hex:∃i,i<ops.size/\listed.getD i true=false:=by
    unfold left at hl;obtain⟨i,hi⟩:=EZ (l:=(List.range ops.size).filter fun i=>!listed.getD i true) (by omega);simp only[dN,dJ,j7]at hi;exact⟨i,hi⟩
   have hmin:∀m i,i<=m->i<ops.size->listed.getD i true=false->∃i,i<ops.size/\listed.getD i true=false/\∀j,j<i->listed.getD j true=true:=by
    intro m
    induction m with
    |zero=>intro i h1 h2 h3;exact⟨i,h2,h3,fun j hj=>by omega⟩
    |succ m ihm=>
     intro i h1 h2 h3
     by_cases h4:∃j,j<i/\listed.getD j true=false
     ·obtain⟨j,h5,h6⟩:=h4;exact ihm j (by omega) (by omega) h6
     ·refine⟨i,h2,h3,fun j hj=>?_⟩
      cases hq:listed.getD j true with
      |true=>rfl
      |false=>exact absurd ⟨j,hj,hq⟩ h4
   obtain⟨i0,h1,h2⟩:=hex;obtain⟨i,h3,h4,h5⟩:=hmin i0 i0 (aQ _) h1 h2;refine EY (a:=i) ?_;simp only[dN,dJ,h4,xa,sR,j6 h3,dm,j4];refine⟨h3,?_⟩;rw[<-sS,dU];intro e he
   cases hb:Region.binds .any e with
   |false=>rfl
   |true=>
    have h7:=hed1 i h3 e he hb;simp only[ru,oW];rw[vY (by omega) false true];exact h5 _ h7
  simp only[Region.linearise.go,fV];generalize hrs:((List.range ops.size).filter fun i=>!listed.getD i true&&((ops[i]?).map (·.after.all fun e=>!Region.binds .any e||listed.getD e.on false)).getD false)=rs at hne⊢;have hlt:n%rs.length<rs.length:=Nat.mod_lt _ hne;rw[aR hlt];generalize hri:rs[n%rs.length]=i
  have him:i∈rs:=by rw[<-hri];exact bw hlt
  have him2:=him;rw[<-hrs]at him2;simp only[dN,dJ,ay,j7]at him2;obtain⟨h1,h2,h3⟩:=him2;rw[j6 h1,dm,j4]at h3
  have hedge:∀e∈(ops[i]).after.toList,Region.binds .any e=true->listed.getD e.on false=true:=by
   intro e he hb;rw[<-sS,dU]at h3;have:=h3 e he;rw[hb]at this;simpa using this
  have hready:i∈(List.range dep.length).filter (lM dep done):=by
   simp only[dN,dJ,lM,ay,j7,hdl];refine⟨h1,by rw[<-hd i h1];exact h2,?_⟩;rw[dU];intro j hj;have h4:=Gd hcl i i j (aQ _) ⟨ops[i],j6 h1,hedge⟩ (hda i j hj)
   have hjs:j<ops.size:=by
    rw[<-hsz]
    refine xk fun hn=>?_
    rw[iE,oS (by omega)]at h4
    cases h4
   rw[<-hd j hjs,<-vY (by omega) false true];exact h4
  have h2':listed.getD i true=false:=h2;simp only;rw[linearise_go_acc,V4,sP];refine oV.2 ⟨i,hready,cd.2 ⟨_,Qe hed hdl hda fuel _ _ _ (by simpa using hsz) ?_ ?_ ?_,rfl⟩⟩
  ·intro j hj;simp only[iE,uH]
   by_cases hij:i=j
   ·subst hij;simp[hsz,h1]
   ·rw[if_neg hij];have:=hd j hj;rw[iE]at this;rw[this];simp[Ne.symm hij]
  ·intro j o ho hj e he hb
   have hset:∀q,listed.getD q false=true->(listed.setIfInBounds i true).getD q false=true:=by
    intro q hq;simp only[iE,uH]at hq⊢
    by_cases hiq:i=q
    ·subst hiq;simp[hsz,h1]
    ·rw[if_neg hiq];exact hq
   refine hset _ ?_
   by_cases hij:i=j
   ·subst hij;rw[j6 h1]at ho
    cases ho
    exact hedge e he hb
   ·refine hcl j o ho ?_ e he hb;simp only[iE,uH,if_neg hij]at hj⊢;exact hj
  ·have:=HE h1 h2';omega
theorem adP{ops:Array Oper}{gs:List AG}(hok:vZ ops gs=true)(hlen:gs.length=ops.size)(i j:Nat)(hj:j∈(oD gs).getD i []):l5 ops j i=true:=by
 by_cases hi:i<gs.length
 ·have e:(oD gs).getD i []=(List.range i).filter fun j=>match gs[i]?,gs[j]? with
   |some gi,some gj=>(match gj.dst with
    |some d=>(tP gi).contains d
    |none=>false)
   |_,_=>false:=by
   simp[oD,bq,hi]
  rw[e]at hj;simp only[dN,dJ]at hj;obtain⟨hji,hj⟩:=hj;simp only[vZ,dU,dJ]at hok;have h1:=hok i hi;rw[aR hi]at h1 hj;simp only[ay,dU,dJ]at h1;have h2:=h1.2 j hji;rw[aR (by omega:j<gs.length)]at h2 hj;simp only at h2 hj
  cases hd:(gs[j]'(by omega)).dst with
  |none=>rw[hd]at hj;cases hj
  |some d=>
   rw[hd]at hj;simp only[nk,hd,hj,ru,Bool.false_and,Bool.or_false,ay]at h2;exact h2.2
 ·rw[bq,fS (by simp[oD];omega)]at hj;simp at hj
theorem MS{P:Program}{Γ:Nat->Option AV}{N:Env}{g0:G}{f0:FuncId}{cs0:List Frame}{f:Fr}{up:List Fr}{h:List Ob}{l:List Bool}{ws:List Nat}{gs:List AG}{k:List It}(hmd:f.md=.run)(hits:f.its=.code (.aP l ws gs)::k){m:Machine}(hm:c_ P Γ N g0 f0 cs0 (.fr f up h) m):
 ∃lst∈fV (oD gs) gs.length [],∃m1,Steps P m m1/\c_ P Γ N g0 f0 cs0 (.fr {f with its:=.ops (lst.map fun i=>gs.getD i default)::k} up h) m1:=by
 obtain⟨g,w,tmps,todo,ds,kd,ro,md,fs,rfl,S,hmr⟩:=hm.inv;rw[hmd]at hmr;simp only[MR]at hmr;subst hmr;have hI:=S.its;rw[hits]at hI
 cases todo with
 |nil=>simp only[IR]at hI
 |cons im k'=>
 cases im<;>simp only[IR]at hI
 rename_i c;obtain⟨hC,hk⟩:=hI
 cases c<;>try (simp only[CR]at hC;done)
 rename_i id ops draw
 cases draw<;>simp only[CR]at hC
 obtain⟨hgs,hok,rfl,rfl⟩:=hC;simp only[zT,ay]at hok;obtain⟨⟨hok1,hok2⟩,hok3⟩:=hok
 have hlen:gs.length=ops.size:=by rw[(zi hgs).1];simp
 have hsched:∀x,Region.schedule (P.follows .mixedOrders) ops x=Region.linearise.go .any ops ops.size x (Array.replicate ops.size false) []:=by
  intro x;unfold Region.schedule;rw[if_pos (by simpa using hok3)];rfl
 have hgetD:∀i d,(Array.replicate ops.size false).getD i d=if i<ops.size then false else d:=by
  intro i d;rw[iE,V5]
  split<;>rfl
 have hleft:left ops.size (Array.replicate ops.size false)=ops.size:=by
  unfold left;rw[AY.2,pV];intro i hi;rw[hgetD,if_pos (by simpa using hi)];rfl
 have hcl:C7 ops (Array.replicate ops.size false):=by
  intro i o ho hl;have:=aV (l:=ops.toList) (i:=i) (a:=o) (by simpa using ho);rw[hgetD,if_pos (by simpa using this)]at hl
  cases hl
 have hmem:=Qe (dep:=oD gs) hok2 (by simp[oD,hlen]) (adP hok1 hlen) ops.size (w.tape w.drawn (.order f.fn id)) (Array.replicate ops.size false) [] (by simp) (fun i hi=>by rw[hgetD,if_pos hi];rfl) hcl hleft;have S':St P Γ N g0 f0 g h w.drew f up tmps (.code (.region id ops true)::k') ds kd ro fs:=⟨S.H.world rfl rfl rfl rfl,S.M,S.its,S.t,S.ds,S.kind,S.is,S.b,S.z,S.s⟩;refine⟨_,by rw[hlen];exact hmem,_,Steps.one Il,?_⟩;rw[hsched];exact S'.go hmd (its:=.ops _::k) ⟨Co hgs fun i hi=>C4 _ _ _ i hi,hk⟩ S.t
inductive Out where
 |ret (r:AV)
 |die (v:AV)
def Jr(P:Program)(Γ:Nat->Option AV)(f:FuncId)(as:List AV):Out->Prop
 |.ret r=>aS P Γ f as r
 |.die v=>mu P Γ f as v
inductive aA(P:Program)(Γ:Nat->Option AV):ar->Out->Prop
 |back {v r:AV} {hh:List Ob}:wC hh v=some r->aA P Γ (.back [] v hh) (.ret r)
 |die {v:AV} {hh:List Ob}:aG 0 v=true->eB v=true->aA P Γ (.die [] v hh) (.die v)
 |reach {c c':ar} {o:Out}:Reach P Γ c c'->aA P Γ c' o->aA P Γ c o
 |C6 {f:Fr} {up:List Fr} {h:List Ob} {as:List (List Nat)} {gs:List AG} {k:List It} {o:Out}:f.md=.run->f.its=.code (.gm as gs)::k->(∀v,o=.die v->aG 0 v=true/\eB v=true)->
  (∀l∈fV as as.length [],aA P Γ (.fr {f with its:=.ops (l.map fun i=>gs.getD i default)::k} up h) o)->aA P Γ (.fr f up h) o
 |CI {f:Fr} {up:List Fr} {h:List Ob} {l:List Bool} {ws:List Nat} {gs:List AG} {k:List It} {o:Out}:f.md=.run->f.its=.code (.aP l ws gs)::k->(∀v,o=.die v->aG 0 v=true/\eB v=true)->
  (∀l∈fV (oD gs) gs.length [],aA P Γ (.fr {f with its:=.ops (l.map fun i=>gs.getD i default)::k} up h) o)->aA P Γ (.fr f up h) o
 |km {f:Fr} {up:List Fr} {h:List Ob} {a:AG} {os:List AG} {k:List It} {o:Out}:f.md=.run->f.its=.ops (a::os)::k->dO f.t a.guard=some true->aB P Γ f.t h a.op=.either->
  (∀b,aA P Γ (.fr {f with its:=.ops os::k,t:=a_ f.t a.dst (.bool b)} up h) o)->aA P Γ (.fr f up h) o
theorem adj{N:Env}{g0:G}{f0:FuncId}{cs0:List Frame}{c:ar}{o:Out}(hf:aA P Γ c o):∀r,o=.ret r->∀m,c_ P Γ N g0 f0 cs0 c m->∃m' v hh,Steps P m m'/\c_ P Γ N g0 f0 cs0 (.back [] v hh) m'/\wC hh v=some r:=by
 induction hf with
 |@back v r hh h1=>intro r' hr m hm;cases hr;exact⟨m,v,hh,.refl _ _,hm,h1⟩
 |die _ _=>intro r' hr;cases hr
 |reach h1 _ ih=>
  intro r hr m hm;obtain⟨m1,s1,h2⟩:=FW h1 m hm;obtain⟨m2,v,hh,s2,h3,h4⟩:=ih r hr m1 h2;exact⟨m2,v,hh,s1.trans s2,h3,h4⟩
 |C6 hmd hits _ _ ih=>
  intro r hr m hm;obtain⟨l,hl,m1,s1,h2⟩:=Gc hmd hits hm;obtain⟨m2,v,hh,s2,h3,h4⟩:=ih l hl r hr m1 h2;exact⟨m2,v,hh,s1.trans s2,h3,h4⟩
 |CI hmd hits _ _ ih=>
  intro r hr m hm;obtain⟨l,hl,m1,s1,h2⟩:=MS hmd hits hm;obtain⟨m2,v,hh,s2,h3,h4⟩:=ih l hl r hr m1 h2;exact⟨m2,v,hh,s1.trans s2,h3,h4⟩
 |km hmd hits hw ha _ ih=>
  intro r hr m hm;obtain⟨b,m1,s1,h2⟩:=FM hmd hits hw ha hm;obtain⟨m2,v,hh,s2,h3,h4⟩:=ih b r hr m1 h2;exact⟨m2,v,hh,s1.trans s2,h3,h4⟩
theorem aew{N:Env}{g0:G}{f0:FuncId}{cs0:List Frame}{c:ar}{o:Out}(hf:aA P Γ c o):∀v,o=.die v->∀m,c_ P Γ N g0 f0 cs0 c m->∃m' hh,Steps P m m'/\c_ P Γ N g0 f0 cs0 (.die [] v hh) m':=by
 induction hf with
 |back _=>intro r' hr;cases hr
 |@die v hh _ _=>intro v' hr m hm;cases hr;exact⟨m,hh,.refl _ _,hm⟩
 |reach h1 _ ih=>
  intro r hr m hm;obtain⟨m1,s1,h2⟩:=FW h1 m hm;obtain⟨m2,hh,s2,h3⟩:=ih r hr m1 h2;exact⟨m2,hh,s1.trans s2,h3⟩
 |C6 hmd hits _ _ ih=>
  intro r hr m hm;obtain⟨l,hl,m1,s1,h2⟩:=Gc hmd hits hm;obtain⟨m2,hh,s2,h3⟩:=ih l hl r hr m1 h2;exact⟨m2,hh,s1.trans s2,h3⟩
 |CI hmd hits _ _ ih=>
  intro r hr m hm;obtain⟨l,hl,m1,s1,h2⟩:=MS hmd hits hm;obtain⟨m2,hh,s2,h3⟩:=ih l hl r hr m1 h2;exact⟨m2,hh,s1.trans s2,h3⟩
 |km hmd hits hw ha _ ih=>
  intro r hr m hm;obtain⟨b,m1,s1,h2⟩:=FM hmd hits hw ha hm;obtain⟨m2,hh,s2,h3⟩:=ih b r hr m1 h2;exact⟨m2,hh,s1.trans s2,h3⟩
theorem QG{c:ar}{o:Out}(hf:aA P Γ c o):∀v,o=.die v->aG 0 v=true/\eB v=true:=by
 induction hf with
 |back _=>intro r' hr;cases hr
 |@die v hh h1 h2=>intro v' hr;cases hr;exact⟨h1,h2⟩
 |reach _ _ ih=>exact ih
 |C6 _ _ h1 _ _=>exact h1
 |CI _ _ h1 _ _=>exact h1
 |km _ _ _ _ _ ih=>exact ih true
theorem aA.go(n:Nat){c:ar}{o:Out}(h:aA P Γ (AM.go P Γ 0 n c) o):aA P Γ c o:=.reach (.goes n c) h
theorem aA.dW(n:Nat){c:ar}{o:Out}(h:aA P Γ (AM.go P Γ 1 n c) o):aA P Γ c o:=.reach (.goes n c) h
theorem Reach.exit{fn:FuncId}{k k':List It}{t t':List AV}{ds:List dF}{kind:FK}{base:Nat}{up:List Fr}{h:List Ob}{id:Nat}{m:List Bool}(h1:pv id k=some (k',m))(h2:dx m t=t'):
 Reach P Γ (.fr ⟨.run,fn,.code (.exit id)::k,t,ds,kind,base⟩ up h) (.fr ⟨.run,fn,k',t',ds,kind,base⟩ up h):=by
 refine .one ?_;simp only[ig,jb,h1,h2];exact .refl _
theorem aA.call(n:Nat){f:FuncId}{args as:List AV}{r:AV}{up:List Fr}{h:List Ob}{o:Out}(h1:cq h args=some as)(h2:aS P Γ f as r)(h3:aA P Γ (AM.go P Γ 0 n (.back up (dZ h.length r).1 (eC h args r))) o):aA P Γ (.cl f args up h) o:=
 .reach (.pure h1 h2) (.go n h3)
theorem aA.mE(n:Nat){f:FuncId}{args as:List AV}{v:AV}{up:List Fr}{h:List Ob}{o:Out}(h1:cq h args=some as)(h2:mu P Γ f as v)(h3:aA P Γ (AM.go P Γ 0 n (.die up v h)) o):aA P Γ (.cl f args up h) o:=
 .reach (.Jd h1 h2) (.go n h3)
theorem Jr.of{f:FuncId}{F:aF}{as:List AV}{o:Out}(n:Nat)(hF:aE P f=some F)(hb:az P f=true)
 (h:aA P Γ (AM.go P Γ 0 n (.fr ⟨.run,f,[.code F.body],as++List.replicate (F.nt-as.length) .undef,[],.norm,0⟩ [] [])) o):Jr P Γ f as o:=by
 have h2:aA P Γ (.cl f as [] []) o:=.reach (zx hF as (.refl _)) (.go n h)
 cases o with
 |ret r=>exact aS.Ei hb fun _ _ _ _ m hm=>adj h2 r rfl m hm
 |die v=>exact mu.Ei hb (fun _ _ _ _ m hm=>aew h2 v rfl m hm) (QG h2 v rfl).1 (QG h2 v rfl).2
theorem aS.run{f:FuncId}{F:aF}{as:List AV}{r:AV}(n:Nat)(hF:aE P f=some F)(hb:az P f=true)
 (h:aA P Γ (AM.go P Γ 0 n (.fr ⟨.run,f,[.code F.body],as++List.replicate (F.nt-as.length) .undef,[],.norm,0⟩ [] [])) (.ret r)):aS P Γ f as r:=Jr.of (o:=.ret r) n hF hb h
theorem aA.drop{f:Fr}{up:List Fr}{h h':List Ob}{o:Out}(n:Nat)(hh:h.take n=h')(h1:f.base<=n)(h2:k9 n f=true)(h3:cr n h'=true)(h4:aA P Γ (.fr f up h') o):aA P Γ (.fr f up h) o:=by
 subst hh;exact .reach (.drop n h1 h2 h3) h4
theorem aA.reset{f:Fr}{up:List Fr}{h:List Ob}{o:Out}{i k:Nat}{E:TypeId}{es:List AV}{fl sh:Bool}(hi:h[i]? =some (.row k E es (some 0) fl sh))(h1:f.base<=i)(h2:iv i es.length f=true)(h3:cQ i es.length h=true)
 (h4:aA P Γ (.fr f up (h.set i (.row k E es none fl sh))) o):aA P Γ (.fr f up h) o:=.reach (.reset h1 hi h2 h3) h4
section
variable{fn:FuncId}{k:List It}{t:List AV}{ds:List dF}{kind:FK}{base:Nat}{up:List Fr}{h:List Ob}{o:Out}
theorem aA.enter(n:Nat){g:FuncId}{F:aF}{args:List AV}(hF:aE P g=some F)(h1:aA P Γ (AM.go P Γ 0 n (.fr ⟨.run,g,[.code F.body],args++List.replicate (F.nt-args.length) .undef,[],.norm,h.length⟩ up h)) o):aA P Γ (.cl g args up h) o:=
 .reach (zx hF args (.refl _)) (.go n h1)
theorem aA.inLoop{m:List Bool}{b:aj}(h1:aA P Γ (.fr ⟨.run,fn,.code b::.inLoop m b::k,dx m t,ds,kind,base⟩ up h) o):aA P Γ (.fr ⟨.run,fn,.code (.loop m b)::k,t,ds,kind,base⟩ up h) o:=.reach (Qv (.refl _)) h1
theorem aA.aO{m:List Bool}{b:aj}(h1:aA P Γ (.fr ⟨.run,fn,.code b::.inLoop m b::k,dx m t,ds,kind,base⟩ up h) o):aA P Γ (.fr ⟨.run,fn,.inLoop m b::k,t,ds,kind,base⟩ up h) o:=.reach (QU (.refl _)) h1
end
end
end Go.AM
namespace Go.AM
section
variable{P:Program}{Γ:Nat->Option AV}
def iq(Cs:List (Nat×(List Ob->Prop)))(i:Nat)(h:List Ob):Prop:=∀C∈Cs,i<C.1->C.2 h
@[simp] theorem aAE(i:Nat)(h:List Ob):iq [] i h↔True:=by simp[iq]
@[simp] theorem aAA(C:Nat×(List Ob->Prop))(Cs:List (Nat×(List Ob->Prop)))(i:Nat)(h:List Ob):iq (C::Cs) i h↔(i<C.1->C.2 h)/\iq Cs i h:=by simp[iq]
structure mI where
 k:List AV->List Ob->Prop
 X:gW->Prop
def cB(P:Program)(Γ:Nat->Option AV)(K:mI):List Bool->List Nat->Nat->List AG->List AV->List Ob->List (List Ob)->List (Nat×(List Ob->Prop))->Prop
 |_,_,_,[],t,h,_,_=>K.k t h
 |l,ws,i,o::os,t,h,hs,Cs=>
  match dO t o.guard with
  |some true=>
   match aB P Γ t h o.op with
   |.val v h'=>
    if dz o.op=2 then iq Cs (i+1) h'/\cB P Γ K l.tail ws.tail (i+1) os (a_ t o.dst v) h' (h'::hs) Cs
    else if l.headD true=true/\dz o.op=1 then(∀g∈hs,aB P Γ t g o.op=.val v g)/\cB P Γ K l.tail ws.tail (i+1) os (a_ t o.dst v) h' hs ((ws.headD 0,fun g=>aB P Γ t g o.op=.val v g)::Cs)
    else cB P Γ K l.tail ws.tail (i+1) os (a_ t o.dst v) h' hs Cs
   |.skip h'=>iq Cs (i+1) h'/\cB P Γ K l.tail ws.tail (i+1) os (a_ t o.dst (.aH [])) h' (h'::hs) Cs
   |.call f args=>az P f=true/\
    if l.headD true=true then∃(v:AV)(C:List Ob->Prop),(∀g,C g->aB P Γ t g o.op=.call f args/\∀up,Reach P Γ (.cl f args up g) (.back up v g))/\(∀g∈hs,C g)/\cB P Γ K l.tail ws.tail (i+1) os (a_ t o.dst v) h hs ((ws.headD 0,C)::Cs)
    else∃(v:AV)(h':List Ob),((∀up,Reach P Γ (.cl f args up h) (.back up v h'))\/K.X ⟨.fn f,args,h,v,h'⟩)/\iq Cs (i+1) h'/\cB P Γ K l.tail ws.tail (i+1) os (a_ t o.dst v) h' (h'::hs) Cs
   |.yield y args=>l.headD true=false/\∃(v:AV)(h':List Ob),(∀up,Reach P Γ ((jm.yl y).cfg args up h) (.back up v h'))/\iq Cs (i+1) h'/\cB P Γ K l.tail ws.tail (i+1) os (a_ t o.dst v) h' (h'::hs) Cs
   |_=>False
  |some false=>cB P Γ K l.tail ws.tail (i+1) os (a_ t o.dst (.aH [])) h hs Cs
  |none=>False
theorem aex{t:List AV}{h h':List Ob}{o:AO}{v:AV}(hv:aB P Γ t h o=.val v h')(hc:dz o≠2):h'=h:=(BV (v:=v) (h':=h') hc).1 hv
def sd(i:Nat)(hs0 hs HS:List (List Ob)):Prop:=∀k g,HS[k]? =some g->(k<=i->g∈hs0)/\(i<k->hs[k-i-1]? =some g)
theorem sd.next{i:Nat}{hs0 hs1 hs HS:List (List Ob)}{h':List Ob}(h1:sd i hs0 (h'::hs) HS)(h2:∀g∈hs0,g∈hs1)(h3:h'∈hs1):sd (i+1) hs1 hs HS:=by
 intro k g hk;obtain⟨a,b⟩:=h1 k g hk;refine⟨fun h=>?_,fun h=>?_⟩
 ·by_cases hki:k<=i
  ·exact h2 g (a hki)
  ·have:=b (by omega)
   have e:k-i-1=0:=by omega
   rw[e]at this;simp at this;subst this;exact h3
 ·have:=b (by omega)
  have e:k-i-1=(k-(i+1)-1)+1:=by omega
  rw[e]at this;simpa using this
theorem sd.all{i w:Nat}{hs0 hs HS:List (List Ob)}{C:List Ob->Prop}(h1:sd i hs0 hs HS)(h2:∀g∈hs0,C g)(h3:∀k g,hs[k]? =some g->i+1+k<w->C g):∀g∈HS.take w,C g:=by
 intro g hg;obtain⟨k,hk⟩:=xh.1 hg;rw[rr]at hk
 split at hk
 ·rename_i hkw;obtain⟨a,b⟩:=h1 k g hk
  by_cases hki:k<=i
  ·exact h2 g (a hki)
  ·exact h3 _ g (b (by omega)) (by omega)
 ·cases hk
theorem qh{K:mI}:∀{gs:List AG}{l:List Bool}{ws:List Nat}{i:Nat}{t:List AV}{h:List Ob}{hs:List (List Ob)}{Cs Cs':List (Nat×(List Ob->Prop))},(∀C∈Cs',C∈Cs)->cB P Γ K l ws i gs t h hs Cs->cB P Γ K l ws i gs t h hs Cs'
 |[],_,_,_,_,_,_,_,_,_,h1=>h1
 |o::os,l,ws,i,t,h,hs,Cs,Cs',hs',h1=>by
  unfold cB at h1⊢
  have hH:∀{j h},iq Cs j h->iq Cs' j h:=fun q C hC=>q C (hs' C hC)
  have hcons:∀{C:Nat×(List Ob->Prop)},∀D∈C::Cs',D∈C::Cs:=by
   intro C D hD
   rcases bz.1 hD with rfl|hD
   ·simp
   ·exact dw _ (hs' D hD)
  split at h1
  ·split at h1
   ·split
    ·rename_i h2;rw[if_pos h2]at h1;exact⟨hH h1.1,qh hs' h1.2⟩
    ·rename_i h2;rw[if_neg h2]at h1
     split
     ·rename_i h3;rw[if_pos h3]at h1;exact⟨h1.1,qh hcons h1.2⟩
     ·rename_i h3;rw[if_neg h3]at h1;exact qh hs' h1
   ·exact⟨hH h1.1,qh hs' h1.2⟩
   ·refine⟨h1.1,?_⟩;have h1:=h1.2
    split
    ·rename_i h2;rw[if_pos h2]at h1;obtain⟨v,C,a,b,c⟩:=h1;exact⟨v,C,a,b,qh hcons c⟩
    ·rename_i h2;rw[if_neg h2]at h1;obtain⟨v,h',a,b,c⟩:=h1;exact⟨v,h',a,hH b,qh hs' c⟩
   ·obtain⟨h0,v,h',a,b,c⟩:=h1;exact⟨h0,v,h',a,hH b,qh hs' c⟩
   ·exact h1
  ·exact qh hs' h1
  ·exact h1
theorem BE{K:mI}{gs:List AG}{l:List Bool}{ws:List Nat}{i j:Nat}{t:List AV}{h:List Ob}{hs:List (List Ob)}{Cs:List (Nat×(List Ob->Prop))}(h1:cB P Γ K l ws j gs t h hs Cs):cB P Γ K l ws j gs t h hs (Cs.filter fun C=>decide (i<C.1)):=
 qh (fun C hC=>(dN.1 hC).1) h1
theorem mZ{K:mI}:∀{gs:List AG}{l:List Bool}{ws:List Nat}{i:Nat}{t:List AV}{h:List Ob}{hs0:List (List Ob)}{Cs0:List (Nat×(List Ob->Prop))},cB P Γ K l ws i gs t h hs0 Cs0->h∈hs0->(∀C∈Cs0,∀g∈hs0,C.2 g)->
 ∃(orc:List (AV×List Ob))(t':List AV)(h':List Ob)(obls:List gW)(hs:List (List Ob))(obls1:List gW),iS P Γ orc gs t h=some (t',h',obls,hs)/\K.k t' h'/\(∀C∈Cs0,∀k g,hs[k]? =some g->i+1+k<C.1->C.2 g)/\
  (∀o∈obls,o∈obls1)/\(∀o∈obls1,(∀up,Reach P Γ (o.f.cfg o.args up o.h) (.back up o.v o.h'))\/K.X o)/\
  ∀(HS:List (List Ob))(obls0:List gW),sd i hs0 hs HS->(∀o∈obls1,o∈obls0)->calm P Γ obls0 HS l ws orc gs t h
 |[],l,ws,i,t,h,hs0,Cs0,hD,_,_=>⟨[],t,h,[],[],[],rfl,hD,by simp,by simp,by simp,fun _ _ _ _=>trivial⟩
 |o::os,l,ws,i,t,h,hs0,Cs0,hD,hh,hC=>by
  unfold cB at hD;unfold iS calm
  have hnext:∀{h':List Ob}{hs:List (List Ob)},(∀C∈Cs0,i+1<C.1->C.2 h')->(∀C∈Cs0,∀k g,hs[k]? =some g->i+1+1+k<C.1->C.2 g)->∀C∈Cs0,∀k g,(h'::hs)[k]? =some g->i+1+k<C.1->C.2 g:=by
   intro h' hs q1 q2 C hCm k g hk hlt
   cases k with
   |zero=>simp at hk;subst hk;exact q1 C hCm (by omega)
   |succ k=>exact q2 C hCm k g (by simpa using hk) (by omega)
  cases hw:dO t o.guard with
  |none=>rw[hw]at hD;exact hD.elim
  |some b=>
   rw[hw]at hD
   cases b with
   |false=>
    simp only at hD⊢;obtain⟨orc,t',h2',obls,hs,obls1,e1,e2,e3,e4,e5,e6⟩:=mZ hD hh hC;exact⟨orc,t',h2',obls,h::hs,obls1,by rw[e1];rfl,e2,hnext (fun C hCm _=>hC C hCm h hh) e3,e4,e5,fun HS obls0 q1 q2=>e6 HS obls0 (q1.next (fun _ x=>x) hh) q2⟩
   |true=>
    simp only at hD⊢
    cases ha:aB P Γ t h o.op with
    |val v h'=>
     rw[ha]at hD;simp only at hD⊢
     by_cases h2:dz o.op=2
     ·rw[if_pos h2]at hD;obtain⟨hn,hD⟩:=hD
      have sF:∀C∈Cs0.filter (fun C=>decide (i+1<C.1)),∀g∈h'::hs0,C.2 g:=by
       intro C hCm g hg;simp only[dN,aZ]at hCm
       rcases bz.1 hg with rfl|hg
       ·exact hn C hCm.1 hCm.2
       ·exact hC C hCm.1 g hg
      have hD':=BE (i:=i+1) hD;obtain⟨orc,t',h2',obls,hs,obls1,e1,e2,e3,e4,e5,e6⟩:=mZ hD' (by simp) sF
      refine⟨orc,t',h2',obls,h'::hs,obls1,by rw[e1];rfl,e2,hnext hn (fun C hCm k g hk hlt=>e3 C (by simp only[dN,aZ];exact⟨hCm,by omega⟩) k g hk hlt),e4,e5,
       fun HS obls0 q1 q2=>⟨fun _ h1=>(by rw[h2]at h1;cases h1),e6 HS obls0 (q1.next (fun _ x=>dw _ x) (by simp)) q2⟩⟩
     ·rw[if_neg h2]at hD;have hhe:=aex ha h2
      by_cases h1:l.headD true=true/\dz o.op=1
      ·rw[if_pos h1]at hD;obtain⟨hn,hD⟩:=hD;subst hhe
       obtain⟨orc,t',h2',obls,hs,obls1,e1,e2,e3,e4,e5,e6⟩:=mZ hD hh (fun C hCm g hg=>by
        rcases bz.1 hCm with rfl|hCm
        ·exact hn g hg
        ·exact hC C hCm g hg)
       refine⟨orc,t',h2',obls,h'::hs,obls1,by rw[e1];rfl,e2,hnext (fun C hCm _=>hC C hCm h' hh) (fun C hCm=>e3 C (dw _ hCm)),e4,e5,fun HS obls0 q1 q2=>⟨fun _ _ g hg=>?_,e6 HS obls0 (q1.next (fun _ x=>x) hh) q2⟩⟩;have q1':=q1.next (hs1:=hs0) (fun _ x=>x) hh;exact q1'.all (C:=fun g=>aB P Γ t g o.op=.val v g) hn (fun k g hk hlt=>e3 _ oY k g hk hlt) g hg
      ·rw[if_neg h1]at hD;subst hhe;obtain⟨orc,t',h2',obls,hs,obls1,e1,e2,e3,e4,e5,e6⟩:=mZ hD hh hC;exact⟨orc,t',h2',obls,h'::hs,obls1,by rw[e1];rfl,e2,hnext (fun C hCm _=>hC C hCm h' hh) e3,e4,e5,fun HS obls0 q1 q2=>⟨fun q3 q4=>absurd ⟨q3,q4⟩ h1,e6 HS obls0 (q1.next (fun _ x=>x) hh) q2⟩⟩
    |skip h'=>
     rw[ha]at hD;simp only at hD⊢;obtain⟨hn,hD⟩:=hD
     have sF:∀C∈Cs0.filter (fun C=>decide (i+1<C.1)),∀g∈h'::hs0,C.2 g:=by
      intro C hCm g hg;simp only[dN,aZ]at hCm
      rcases bz.1 hg with rfl|hg
      ·exact hn C hCm.1 hCm.2
      ·exact hC C hCm.1 g hg
     have hD':=BE (i:=i+1) hD;obtain⟨orc,t',h2',obls,hs,obls1,e1,e2,e3,e4,e5,e6⟩:=mZ hD' (by simp) sF
     exact⟨orc,t',h2',obls,h'::hs,obls1,by rw[e1];rfl,e2,hnext hn (fun C hCm k g hk hlt=>e3 C (by simp only[dN,aZ];exact⟨hCm,by omega⟩) k g hk hlt),e4,e5,
      fun HS obls0 q1 q2=>e6 HS obls0 (q1.next (fun _ x=>dw _ x) (by simp)) q2⟩
    |call f args=>
     rw[ha]at hD;simp only at hD⊢;obtain⟨hb,hD⟩:=hD
     have hb':¬az P f=false:=by simp[hb]
     by_cases hl:l.headD true=true
     ·rw[if_pos hl]at hD;obtain⟨v,C,hC1,hC2,hD⟩:=hD
      obtain⟨orc,t',h2',obls,hs,obls1,e1,e2,e3,e4,e5,e6⟩:=mZ hD hh (fun C' hCm g hg=>by
       rcases bz.1 hCm with rfl|hCm
       ·exact hC2 g hg
       ·exact hC C' hCm g hg)
      have hall:∀{HS:List (List Ob)},sd i hs0 (h::hs) HS->∀g∈HS.take (ws.headD 0),C g:=fun q1=>(q1.next (hs1:=hs0) (fun _ x=>x) hh).all hC2 (fun k g hk hlt=>e3 _ oY k g hk hlt)
      have hHS:sd i hs0 (h::hs) (List.replicate (i+1) h++h::hs):=by
       intro k g hk;refine⟨fun hki=>?_,fun hki=>?_⟩
       ·rw[cz (by simp;omega),Lx,if_pos (by omega)]at hk
        cases hk
        exact hh
       ·rw[dk (by simp;omega)]at hk;rw[pW]at hk;rw[show k-i-1=k-(i+1) by omega];exact hk
      have hgs:∀g,g∈hs0\/(∃k,hs[k]? =some g/\i+1+1+k<ws.headD 0)->C g:=by
       rintro g (hg|⟨k,hk,hlt⟩)
       ·exact hC2 g hg
       ·exact e3 _ oY k g hk hlt
      refine⟨(v,h)::orc,t',h2',⟨.fn f,args,h,v,h⟩::obls,h::hs,((hs0++(hs.take (ws.headD 0-(i+2)))).map fun g=>⟨.fn f,args,g,v,g⟩)++obls1,by rw[if_neg hb'];simp only[e1,dm],e2,hnext (fun C' hCm _=>hC C' hCm h hh) (fun C' hCm=>e3 C' (dw _ hCm)),
       fun ob hob=>?_,fun ob hob=>?_,fun HS obls0 q1 q2=>⟨fun _=>⟨rfl,fun g hg=>?_⟩,e6 HS obls0 (q1.next (fun _ x=>x) hh) (fun ob hob=>q2 ob (xo _ hob))⟩⟩
      ·rcases bz.1 hob with rfl|hob
       ·exact mW _ (cd.2 ⟨h,mW _ hh,rfl⟩)
       ·exact xo _ (e4 ob hob)
      ·rcases aT.1 hob with hob|hob
       ·obtain⟨g,hg,rfl⟩:=cd.1 hob;refine .inl (hC1 g (hgs g ?_)).2
        rcases aT.1 hg with hg|hg
        ·exact Or.inl hg
        ·obtain⟨k,hk⟩:=xh.1 hg;rw[rr]at hk
         split at hk
         ·exact Or.inr ⟨k,hk,by omega⟩
         ·cases hk
       ·exact e5 ob hob
      ·refine⟨(hC1 g (hall q1 g hg)).1,q2 _ (mW _ (cd.2 ⟨g,?_,rfl⟩))⟩;obtain⟨k,hk⟩:=xh.1 hg;rw[rr]at hk
       split at hk
       ·rename_i hkw;obtain⟨x1,x2⟩:=q1 k g hk
        by_cases hki:k<=i
        ·exact mW _ (x1 hki)
        ·have x3:=x2 (by omega)
         by_cases hk1:k=i+1
         ·subst hk1;simp at x3;subst x3;exact mW _ hh
         ·rw[show k-i-1=(k-(i+2))+1 by omega]at x3;simp only[nT]at x3;refine xo _ (i_ (i:=k-(i+2)) ?_);rw[rr,if_pos (by omega)];exact x3
       ·cases hk
     ·rw[if_neg hl]at hD;obtain⟨v,h',hR,hn,hD⟩:=hD
      have sF:∀C∈Cs0.filter (fun C=>decide (i+1<C.1)),∀g∈h'::hs0,C.2 g:=by
       intro C hCm g hg;simp only[dN,aZ]at hCm
       rcases bz.1 hg with rfl|hg
       ·exact hn C hCm.1 hCm.2
       ·exact hC C hCm.1 g hg
      have hD':=BE (i:=i+1) hD;obtain⟨orc,t',h2',obls,hs,obls1,e1,e2,e3,e4,e5,e6⟩:=mZ hD' (by simp) sF
      refine⟨(v,h')::orc,t',h2',⟨.fn f,args,h,v,h'⟩::obls,h'::hs,⟨.fn f,args,h,v,h'⟩::obls1,by rw[if_neg hb'];simp only[e1,dm],e2,hnext hn (fun C hCm k g hk hlt=>e3 C (by simp only[dN,aZ];exact⟨hCm,by omega⟩) k g hk hlt),
       fun ob hob=>?_,fun ob hob=>?_,fun HS obls0 q1 q2=>⟨fun q3=>absurd q3 hl,e6 HS obls0 (q1.next (fun _ x=>dw _ x) (by simp)) (fun ob hob=>q2 ob (dw _ hob))⟩⟩
      ·rcases bz.1 hob with rfl|hob
       ·simp
       ·exact dw _ (e4 ob hob)
      ·rcases bz.1 hob with rfl|hob
       ·exact hR
       ·exact e5 ob hob
    |yield y args=>
     rw[ha]at hD;simp only at hD⊢;obtain⟨hl,v,h',hR,hn,hD⟩:=hD
     have sF:∀C∈Cs0.filter (fun C=>decide (i+1<C.1)),∀g∈h'::hs0,C.2 g:=by
      intro C hCm g hg;simp only[dN,aZ]at hCm
      rcases bz.1 hg with rfl|hg
      ·exact hn C hCm.1 hCm.2
      ·exact hC C hCm.1 g hg
     have hD':=BE (i:=i+1) hD;obtain⟨orc,t',h2',obls,hs,obls1,e1,e2,e3,e4,e5,e6⟩:=mZ hD' (by simp) sF
     refine⟨(v,h')::orc,t',h2',⟨.yl y,args,h,v,h'⟩::obls,h'::hs,⟨.yl y,args,h,v,h'⟩::obls1,by simp only[e1,dm],e2,hnext hn (fun C hCm k g hk hlt=>e3 C (by simp only[dN,aZ];exact⟨hCm,by omega⟩) k g hk hlt),
      fun ob hob=>?_,fun ob hob=>?_,fun HS obls0 q1 q2=>⟨hl,e6 HS obls0 (q1.next (fun _ x=>dw _ x) (by simp)) (fun ob hob=>q2 ob (dw _ hob))⟩⟩
     ·rcases bz.1 hob with rfl|hob
      ·simp
      ·exact dw _ (e4 ob hob)
     ·rcases bz.1 hob with rfl|hob
      ·exact .inl hR
      ·exact e5 ob hob
    |_=>rw[ha]at hD;exact hD.elim
structure iz where
 fn:FuncId
 k:List It
 e:Cx
 n:Nat
 st:Nat
def iz.Sx(P:Program)(Γ:Nat->Option AV)(b:iz)(o:Out):mI:=⟨fun t h=>aA P Γ (AM.go P Γ 0 b.n (.fr ⟨.run,b.fn,b.k,t,b.e.ds,b.e.kind,b.e.base⟩ b.e.up h)) o,fun _=>False⟩
def iz.reach(P:Program)(Γ:Nat->Option AV)(b:iz)(c:ar):mI:=⟨fun t h=>Reach P Γ (AM.go P Γ b.st b.n (.fr ⟨.run,b.fn,b.k,t,b.e.ds,b.e.kind,b.e.base⟩ b.e.up h)) c,fun _=>False⟩
def Da(h:List Ob):Prop:=∃(i:Nat)(E:TypeId)(es:List AV)(gr:Option Nat)(fl sh:Bool),h[i]? =some (.row 0 E es gr fl sh)
abbrev DI:Ob:=.row 0 0 [] none false false
theorem Da.of{h:List Ob}(h1:DI∈h):Da h:=by
 obtain⟨i,hi⟩:=xh.1 h1;exact⟨i,_,_,_,_,_,hi⟩
def iz.die(P:Program)(Γ:Nat->Option AV)(b:iz)(gs:List AG)(t0:List AV)(D:ar):mI:=⟨fun _ h=>Da h,fun o=>∀its t,wq gs t0 t->Reach P Γ (o.f.cfg o.args (⟨.run,b.fn,its,t,b.e.ds,b.e.kind,b.e.base⟩::b.e.up) o.h) D⟩
variable{fn:FuncId}{k:List It}{t:List AV}{ds:List dF}{kind:FK}{base:Nat}{up:List Fr}{h:List Ob}
theorem Reach.dr{l:List Bool}{ws:List Nat}{gs:List AG}{c:ar}(h1:cB P Γ ⟨fun t' h'=>Reach P Γ (.fr ⟨.run,fn,k,t',ds,kind,base⟩ up h') c,fun _=>False⟩ l ws 0 gs t h [h] []):
 Reach P Γ (.fr ⟨.run,fn,.code (.aP l ws gs)::k,t,ds,kind,base⟩ up h) c:=by
 obtain⟨orc,t',h',obls,hs,obls1,e1,e2,_,e4,e5,e6⟩:=mZ h1 (by simp) (by simp)
 exact .trans (.aP (f:=⟨.run,fn,.code (.aP l ws gs)::k,t,ds,kind,base⟩) rfl rfl e1 e4 (fun o ho up=>(e5 o ho).elim (fun h=>h up) False.elim) (e6 (h::hs) obls1 (by
  intro k g hk;refine⟨fun hk0=>?_,fun hk0=>?_⟩
  ·have:k=0:=by omega
   subst this;simp at hk;simp[hk]
  ·cases k with
   |zero=>omega
   |succ k=>simpa using hk) (fun _ ho=>ho))) e2
theorem Reach.R6{l:List Bool}{ws:List Nat}{gs:List AG}{D:ar}(h1:cB P Γ (iz.die P Γ ⟨fn,k,⟨ds,kind,base,up⟩,0,0⟩ gs t D) l ws 0 gs t h [h] []):
 Reach P Γ (.fr ⟨.run,fn,.code (.aP l ws gs)::k,t,ds,kind,base⟩ up h) D:=by
 obtain⟨orc,t',h',obls,hs,obls1,e1,e2,_,e4,e5,e6⟩:=mZ h1 (by simp) (by simp);obtain⟨i,E,es,gr,fl,sh,hi⟩:=e2
 refine .CJ (f:=⟨.run,fn,.code (.aP l ws gs)::k,t,ds,kind,base⟩) (fun o=>¬∀up,Reach P Γ (o.f.cfg o.args up o.h) (.back up o.v o.h')) rfl rfl e1 e4 (fun o ho hd=>by simpa using hd) (fun o ho hd=>(e5 o ho).resolve_left hd) (e6 (h::hs) obls1 (by
  intro k g hk;refine⟨fun hk0=>?_,fun hk0=>?_⟩
  ·have:k=0:=by omega
   subst this;simp at hk;simp[hk]
  ·cases k with
   |zero=>omega
   |succ k=>simpa using hk) (fun _ ho=>ho)) hi
theorem pd{K K':mI}(hX:∀o,K.X o->K'.X o)(hK:∀t h,K.k t h->K'.k t h):∀{gs:List AG}{l:List Bool}{ws:List Nat}{i:Nat}{t:List AV}{h:List Ob}{hs:List (List Ob)}{Cs:List (Nat×(List Ob->Prop))},cB P Γ K l ws i gs t h hs Cs->cB P Γ K' l ws i gs t h hs Cs
 |[],_,_,_,_,_,_,_,h1=>hK _ _ h1
 |o::os,l,ws,i,t,h,hs,Cs,h1=>by
  unfold cB at h1⊢
  split at h1
  ·split at h1
   ·split
    ·rename_i h2;rw[if_pos h2]at h1;exact⟨h1.1,pd hX hK h1.2⟩
    ·rename_i h2;rw[if_neg h2]at h1
     split
     ·rename_i h3;rw[if_pos h3]at h1;exact⟨h1.1,pd hX hK h1.2⟩
     ·rename_i h3;rw[if_neg h3]at h1;exact pd hX hK h1
   ·exact⟨h1.1,pd hX hK h1.2⟩
   ·refine⟨h1.1,?_⟩;have h1:=h1.2
    split
    ·rename_i h2;rw[if_pos h2]at h1;obtain⟨v,C,a,b,c⟩:=h1;exact⟨v,C,a,b,pd hX hK c⟩
    ·rename_i h2;rw[if_neg h2]at h1;obtain⟨v,h',a,b,c⟩:=h1;exact⟨v,h',a.imp_right (hX _),b,pd hX hK c⟩
   ·obtain⟨h0,v,h',a,b,c⟩:=h1;exact⟨h0,v,h',a,b,pd hX hK c⟩
   ·exact h1
  ·exact pd hX hK h1
  ·exact h1
theorem aA.dr(n:Nat){l:List Bool}{ws:List Nat}{gs:List AG}{o:Out}(h1:cB P Γ (iz.Sx P Γ ⟨fn,k,⟨ds,kind,base,up⟩,n,0⟩ o) l ws 0 gs t h [h] []):
 aA P Γ (.fr ⟨.run,fn,.code (.aP l ws gs)::k,t,ds,kind,base⟩ up h) o:=by
 cases o with
 |ret r=>
  obtain⟨orc,t',h',obls,hs,obls1,e1,e2,_,e4,e5,e6⟩:=mZ h1 (by simp) (by simp)
  refine .reach (.aP (f:=⟨.run,fn,.code (.aP l ws gs)::k,t,ds,kind,base⟩) rfl rfl e1 e4 (fun o ho up=>(e5 o ho).elim (fun h=>h up) False.elim) (e6 (h::hs) obls1 (by
  intro k g hk;refine⟨fun hk0=>?_,fun hk0=>?_⟩
  ·have:k=0:=by omega
   subst this;simp at hk;simp[hk]
  ·cases k with
   |zero=>omega
   |succ k=>simpa using hk) (fun _ ho=>ho))) (.go n e2)
 |die v=>
  obtain⟨orc,t',h',obls,hs,obls1,e1,e2,_,e4,e5,e6⟩:=mZ h1 (by simp) (by simp)
  refine .reach (.aP (f:=⟨.run,fn,.code (.aP l ws gs)::k,t,ds,kind,base⟩) rfl rfl e1 e4 (fun o ho up=>(e5 o ho).elim (fun h=>h up) False.elim) (e6 (h::hs) obls1 (by
  intro k g hk;refine⟨fun hk0=>?_,fun hk0=>?_⟩
  ·have:k=0:=by omega
   subst this;simp at hk;simp[hk]
  ·cases k with
   |zero=>omega
   |succ k=>simpa using hk) (fun _ ho=>ho))) (.go n e2)
theorem Reach.UE(n:Nat){l:List Bool}{ws:List Nat}{gs:List AG}{c:ar}(h1:cB P Γ (iz.reach P Γ ⟨fn,k,⟨ds,kind,base,up⟩,n,1⟩ c) l ws 0 gs t h [h] []):
 Reach P Γ (.fr ⟨.run,fn,.code (.aP l ws gs)::k,t,ds,kind,base⟩ up h) c:=.dr (pd (K:=iz.reach P Γ ⟨fn,k,⟨ds,kind,base,up⟩,n,1⟩ c) (K':=⟨fun t' h'=>Reach P Γ (.fr ⟨.run,fn,k,t',ds,kind,base⟩ up h') c,fun _=>False⟩) (fun _ x=>x) (fun _ _ hr=>Reach.dW n hr) h1)
theorem Reach.ea(n:Nat){l:List Bool}{ws:List Nat}{gs:List AG}{c:ar}(h1:cB P Γ (iz.reach P Γ ⟨fn,k,⟨ds,kind,base,up⟩,n,2⟩ c) l ws 0 gs t h [h] []):
 Reach P Γ (.fr ⟨.run,fn,.code (.aP l ws gs)::k,t,ds,kind,base⟩ up h) c:=.dr (pd (K:=iz.reach P Γ ⟨fn,k,⟨ds,kind,base,up⟩,n,2⟩ c) (K':=⟨fun t' h'=>Reach P Γ (.fr ⟨.run,fn,k,t',ds,kind,base⟩ up h') c,fun _=>False⟩) (fun _ x=>x) (fun _ _ hr=>Reach.a8 n hr) h1)
variable{K:mI}{l:List Bool}{ws:List Nat}{i w:Nat}{b:Bool}{d:Option Nat}{a:AO}{os:List AG}{hs:List (List Ob)}{Cs:List (Nat×(List Ob->Prop))}{h':List Ob}{v:AV}{f:FuncId}{args:List AV}
def sB(P:Program)(Γ:Nat->Option AV)(K:mI)(b:Bool)(l:List Bool)(w:Nat)(ws:List Nat)(i:Nat)(d:Option Nat)(a:AO)(os:List AG)(t:List AV)(h:List Ob)(hs:List (List Ob))(Cs:List (Nat×(List Ob->Prop))):R->Prop
 |.val v h'=>
  if dz a=2 then iq Cs (i+1) h'/\cB P Γ K l ws (i+1) os (a_ t d v) h' (h'::hs) Cs
  else if b=true/\dz a=1 then(∀g∈hs,aB P Γ t g a=.val v g)/\cB P Γ K l ws (i+1) os (a_ t d v) h' hs ((w,fun g=>aB P Γ t g a=.val v g)::Cs)
  else cB P Γ K l ws (i+1) os (a_ t d v) h' hs Cs
 |.skip h'=>iq Cs (i+1) h'/\cB P Γ K l ws (i+1) os (a_ t d (.aH [])) h' (h'::hs) Cs
 |.call f args=>az P f=true/\
  if b=true then∃(v:AV)(C:List Ob->Prop),(∀g,C g->aB P Γ t g a=.call f args/\∀up,Reach P Γ (.cl f args up g) (.back up v g))/\(∀g∈hs,C g)/\cB P Γ K l ws (i+1) os (a_ t d v) h hs ((w,C)::Cs)
  else∃(v:AV)(h':List Ob),((∀up,Reach P Γ (.cl f args up h) (.back up v h'))\/K.X ⟨.fn f,args,h,v,h'⟩)/\iq Cs (i+1) h'/\cB P Γ K l ws (i+1) os (a_ t d v) h' (h'::hs) Cs
 |.yield y args=>b=false/\∃(v:AV)(h':List Ob),(∀up,Reach P Γ ((jm.yl y).cfg args up h) (.back up v h'))/\iq Cs (i+1) h'/\cB P Γ K l ws (i+1) os (a_ t d v) h' (h'::hs) Cs
 |_=>False
structure Jw(P:Program)(Γ:Nat->Option AV)(K:mI)(b:Bool)(l:List Bool)(w:Nat)(ws:List Nat)(i:Nat)(d:Option Nat)(a:AO)(os:List AG)(t:List AV)(h:List Ob)(hs:List (List Ob))(Cs:List (Nat×(List Ob->Prop)))(y:Nat)(args:List AV):Prop where
 is:sB P Γ K b l w ws i d a os t h hs Cs (.yield y args)
structure gy(P:Program)(Γ:Nat->Option AV)(K:mI)(b:Bool)(l:List Bool)(w:Nat)(ws:List Nat)(i:Nat)(d:Option Nat)(a:AO)(os:List AG)(t:List AV)(h:List Ob)(hs:List (List Ob))(Cs:List (Nat×(List Ob->Prop)))(f:FuncId)(args:List AV):Prop where
 is:sB P Γ K b l w ws i d a os t h hs Cs (.call f args)
@[simp] theorem aAv{bh:iz}{o:Out}:cB P Γ (iz.Sx P Γ bh o) l ws i [] t h hs Cs↔aA P Γ (AM.go P Γ 0 bh.n (.fr ⟨.run,bh.fn,bh.k,t,bh.e.ds,bh.e.kind,bh.e.base⟩ bh.e.up h)) o:=nX
@[simp] theorem azO{bh:iz}{c:ar}:cB P Γ (iz.reach P Γ bh c) l ws i [] t h hs Cs↔Reach P Γ (AM.go P Γ bh.st bh.n (.fr ⟨.run,bh.fn,bh.k,t,bh.e.ds,bh.e.kind,bh.e.base⟩ bh.e.up h)) c:=nX
@[simp] theorem aA5{bh:iz}{gs0:List AG}{t0:List AV}{D:ar}:cB P Γ (iz.die P Γ bh gs0 t0 D) l ws i [] t h hs Cs↔Da h:=nX
@[simp] theorem aBv:cB P Γ K (b::l) (w::ws) i (⟨d,none,a⟩::os) t h hs Cs↔sB P Γ K b l w ws i d a os t h hs Cs (aB P Γ t h a):=by
 rw[cB];simp only[aag]
 cases aB P Γ t h a<;>exact nX
@[simp] theorem aAO{j:Nat}{u:Bool}:cB P Γ K (b::l) (w::ws) i (⟨d,some (j,u),a⟩::os) t h hs Cs↔(match dO t (some (j,u))with
  |some true=>sB P Γ K b l w ws i d a os t h hs Cs (aB P Γ t h a)
  |some false=>cB P Γ K l ws (i+1) os (a_ t d (.aH [])) h hs Cs
  |none=>False):=by
 rw[cB]
 cases dO t (some (j,u))with
 |none=>exact nX
 |some x=>
  cases x with
  |false=>exact nX
  |true=>cases aB P Γ t h a<;>exact nX
@[simp] theorem aBk:sB P Γ K b l w ws i d a os t h hs Cs (.val v h')↔if dz a=2 then iq Cs (i+1) h'/\cB P Γ K l ws (i+1) os (a_ t d v) h' (h'::hs) Cs
  else if b=true/\dz a=1 then(∀g∈hs,aB P Γ t g a=.val v g)/\cB P Γ K l ws (i+1) os (a_ t d v) h' hs ((w,fun g=>aB P Γ t g a=.val v g)::Cs)
  else cB P Γ K l ws (i+1) os (a_ t d v) h' hs Cs:=nX
@[simp] theorem aBa:sB P Γ K b l w ws i d a os t h hs Cs (.skip h')↔iq Cs (i+1) h'/\cB P Γ K l ws (i+1) os (a_ t d (.aH [])) h' (h'::hs) Cs:=nX
@[simp] theorem aAT:sB P Γ K b l w ws i d a os t h hs Cs (.call f args)↔gy P Γ K b l w ws i d a os t h hs Cs f args:=⟨fun h1=>⟨h1⟩,fun h1=>h1.is⟩
@[simp] theorem az7{y:Nat}:sB P Γ K b l w ws i d a os t h hs Cs (.yield y args)↔Jw P Γ K b l w ws i d a os t h hs Cs y args:=⟨fun h1=>⟨h1⟩,fun h1=>h1.is⟩
theorem Jw.go{y:Nat}(v:AV)(h':List Ob)(h1:∀up,Reach P Γ ((jm.yl y).cfg args up h) (.back up v h'))
 (h3:iq Cs (i+1) h'/\cB P Γ K l ws (i+1) os (a_ t d v) h' (h'::hs) Cs):Jw P Γ K false l w ws i d a os t h hs Cs y args:=⟨⟨rfl,v,h',h1,h3.1,h3.2⟩⟩
theorem back_eq{f:FuncId}{args as:List AV}{r:AV}{h:List Ob}(h1:cq h args=some as)(h2:aS P Γ f as r):∀up,Reach P Γ (.cl f args up h) (.back up (dZ h.length r).1 (eC h args r)):=fun _=>.pure h1 h2
theorem gy.call{as:List AV}{r:AV}(h1:cq h args=some as)(h2:aS P Γ f as r)
 (h3:iq Cs (i+1) (eC h args r)/\cB P Γ K l ws (i+1) os (a_ t d (dZ h.length r).1) (eC h args r) (eC h args r::hs) Cs):gy P Γ K false l w ws i d a os t h hs Cs f args:=
 ⟨h2.1,by rw[if_neg (by simp)];exact⟨_,_,.inl (back_eq h1 h2),h3.1,h3.2⟩⟩
theorem gy.quiet{as:List AV}{r:AV}(h2:aS P Γ f as r)(hr:∀n,dZ n r=(r,[]))
 (h1:∀g∈hs,aB P Γ t g a=.call f args/\cq g args=some as/\eC g args r=g)
 (h3:cB P Γ K l ws (i+1) os (a_ t d r) h hs ((w,fun g=>aB P Γ t g a=.call f args/\cq g args=some as/\eC g args r=g)::Cs)):gy P Γ K true l w ws i d a os t h hs Cs f args:=
 ⟨h2.1,by
  rw[if_pos rfl];refine⟨r,_,fun g hg=>⟨hg.1,fun up=>?_⟩,h1,h3⟩;have h4:=back_eq hg.2.1 h2 up;rw[hr,hg.2.2]at h4
  exact h4⟩
theorem gy.reach{v:AV}{h':List Ob}(hb:az P f=true)(h1:∀up,Reach P Γ (.cl f args up h) (.back up v h'))
 (h3:iq Cs (i+1) h'/\cB P Γ K l ws (i+1) os (a_ t d v) h' (h'::hs) Cs):gy P Γ K false l w ws i d a os t h hs Cs f args:=
 ⟨hb,by rw[if_neg (by simp)];exact⟨_,_,.inl h1,h3.1,h3.2⟩⟩
theorem gy.die(v:AV){bh:iz}{gs0:List AG}{t0:List AV}{D:ar}(hb:az P f=true)(h1:∀its t',wq gs0 t0 t'->Reach P Γ (.cl f args (⟨.run,bh.fn,its,t',bh.e.ds,bh.e.kind,bh.e.base⟩::bh.e.up) h) D)
 (h3:iq Cs (i+1) (h++[DI])/\cB P Γ (iz.die P Γ bh gs0 t0 D) l ws (i+1) os (a_ t d v) (h++[DI]) ((h++[DI])::hs) Cs):gy P Γ (iz.die P Γ bh gs0 t0 D) false l w ws i d a os t h hs Cs f args:=
 ⟨hb,by rw[if_neg (by simp)];exact⟨v,_,.inr h1,h3.1,h3.2⟩⟩
theorem aA.aW(n:Nat){v:AV}{h':List Ob}{o:Out}(h1:∀up,Reach P Γ (.cl f args up h) (.back up v h'))(h2:aA P Γ (AM.go P Γ 0 n (.back up v h')) o):aA P Γ (.cl f args up h) o:=.reach (h1 up) (.go n h2)
theorem Reach.aW(n:Nat){v:AV}{h':List Ob}{c:ar}(h1:∀up,Reach P Γ (.cl f args up h) (.back up v h'))(h2:Reach P Γ (AM.go P Γ 2 n (AM.pop (.back up v h'))) c):Reach P Γ (.cl f args up h) c:=.trans (h1 up) (.trans (.pop _) (.a8 n h2))
theorem Reach.kW(n:Nat){as:List AV}{r:AV}{c:ar}(h1:cq h args=some as)(h2:aS P Γ f as r)(h3:Reach P Γ (AM.go P Γ 2 n (AM.pop (.back up (dZ h.length r).1 (eC h args r)))) c):Reach P Γ (.cl f args up h) c:=.aW n (back_eq h1 h2) h3
theorem Reach.bt(n:Nat){F:aF}{c:ar}(hF:aE P f=some F)(h1:Reach P Γ (AM.go P Γ 2 n (.fr ⟨.run,f,[.code F.body],args++List.replicate (F.nt-args.length) .undef,[],.norm,h.length⟩ up h)) c):Reach P Γ (.cl f args up h) c:=zx hF args (.a8 n h1)
theorem Reach.inLoop{m:List Bool}{bc:aj}{c:ar}(h1:Reach P Γ (.fr ⟨.run,fn,.code bc::.inLoop m bc::k,dx m t,ds,kind,base⟩ up h) c):Reach P Γ (.fr ⟨.run,fn,.code (.loop m bc)::k,t,ds,kind,base⟩ up h) c:=.trans (Qv (.refl _)) h1
theorem Reach.aO{m:List Bool}{bc:aj}{c:ar}(h1:Reach P Γ (.fr ⟨.run,fn,.code bc::.inLoop m bc::k,dx m t,ds,kind,base⟩ up h) c):Reach P Γ (.fr ⟨.run,fn,.inLoop m bc::k,t,ds,kind,base⟩ up h) c:=.trans (QU (.refl _)) h1
theorem Reach.oj{f:Fr}{h':List Ob}{c:ar}(n:Nat)(hh:h.take n=h')(h1:f.base<=n)(h2:k9 n f=true)(h3:cr n h'=true)(h4:Reach P Γ (.fr f up h') c):Reach P Γ (.fr f up h) c:=by
 subst hh;exact .trans (.drop n h1 h2 h3) h4
theorem Reach.rU{f:Fr}{i k:Nat}{E:TypeId}{es:List AV}{fl sh:Bool}{c:ar}(hi:h[i]? =some (.row k E es (some 0) fl sh))(h1:f.base<=i)(h2:iv i es.length f=true)(h3:cQ i es.length h=true)
 (h4:Reach P Γ (.fr f up (h.set i (.row k E es none fl sh))) c):Reach P Γ (.fr f up h) c:=.trans (.reset h1 hi h2 h3) h4
def wT:List Nat->List AV->List Ob->List AV×List Ob
 |[],t,h=>(t,h)
 |i::is,t,h=>wT is (t.set i (mR h (t.getD i .undef))) (share (rowsOf (t.getD i .undef)) h)
theorem Reach.trees:∀(is:List Nat){f:Fr}{up:List Fr}{h:List Ob}{c:ar},Reach P Γ (.fr {f with t:=(wT is f.t h).1} up (wT is f.t h).2) c->Reach P Γ (.fr f up h) c
 |[],_,_,_,_,h1=>h1
 |i::is,f,up,h,c,h1=>.trans (.tree i) (Reach.trees is (f:={f with t:=f.t.set i (mR h (f.t.getD i .undef))}) h1)
theorem aA.trees(is:List Nat){f:Fr}{o:Out}(h1:aA P Γ (.fr {f with t:=(wT is f.t h).1} up (wT is f.t h).2) o):aA P Γ (.fr f up h) o:=.reach (Reach.trees is (.refl _)) h1
theorem aA.iP(j:Nat){f:Fr}{i:Nat}{cs:List AV}{o:Out}(hi:h[i]? =some (.cells cs))(h1:aA P Γ (.fr f up ((share (rowsOf (cs.getD j .undef)) h).set i (.cells (cs.set j (mR h (cs.getD j .undef)))))) o):aA P Γ (.fr f up h) o:=.reach (.iP j hi) h1
attribute [simp] wT mR rowsOf
end
@[simp] theorem azr(h:List Ob)(a b:List AV):cq h (a++b)=(match cq h a,cq h b with
  |some a',some b'=>some (a'++b')
  |_,_=>none):=by
 induction a with
 |nil=>simp only[j3,cq];cases cq h b<;>rfl
 |cons x a ih=>
  simp only[eo,cq,ih]
  cases view h x<;>cases cq h a<;>cases cq h b<;>rfl
@[simp] theorem aAz{α:Type}(h:List Ob)(f:α->AV)(l:List α)(hf:∀x,view h (f x)=some (f x)):cq h (l.map f)=some (l.map f):=by
 induction l with
 |nil=>rfl
 |cons x l ih=>simp only[bU,cq,hf,ih]
@[simp] theorem ayO(a b:List AV):bZ (a++b)=bZ a++bZ b:=by
 induction a with
 |nil=>rfl
 |cons x a ih=>simp only[eo,bZ,ih,cI]
@[simp] theorem azE{α:Type}(f:α->AV)(l:List α)(hf:∀x,rowsOf (f x)=[]):bZ (l.map f)=[]:=by
 induction l with
 |nil=>rfl
 |cons x l ih=>simp only[bU,bZ,hf,ih,ee]
def jA(P:Program)(Γ:Nat->Option AV)(φ:List Ob->Prop)(f:FuncId)(caps:List AV){α:Type}(e:α->AV)(p:α->Bool)(l:List α):Prop:=
 az P f=true/\∀x∈l,∀up h,φ h->Reach P Γ (.cl f (e x::caps) up h) (.back up (.bool (p x)) h)
def bH{α:Type}(p:α->Bool)(l:List α):Bool:=l.any p
@[simp] theorem Hw{α:Type}(p:α->Bool):bH p []=false:=rfl
theorem lE{α:Type}(p:α->Bool)(x:α)(l:List α):bH p (x::l)=(p x||bH p l):=rfl
theorem kR{α:Type}{p:α->Bool}{l:List α}:bH p l=false↔∀x∈l,p x=false:=by simp[bH]
theorem Cl{α:Type}{p:α->Bool}{l:List α}:bH p l=true↔∃x∈l,p x=true:=by simp[bH]
def eX{α:Type}(p:α->Bool):List α->Nat->Int
 |[],_=>-1
 |x::xs,i=>if p x=true then i else eX p xs (i+1)
theorem CG{α:Type}(p:α->Bool):∀(l:List α)(i:Nat),(0<=eX p l i)↔bH p l=true
 |[],i=>by simp[eX]
 |x::xs,i=>by
  rw[eX]
  by_cases h:p x=true
  ·simp[h,lE]
  ·simp[h,lE,CG p xs (i+1)]
@[simp] theorem aBz(n:Nat):((n:Int)<0)=False:=nY (by omega)
@[simp] theorem aBr(n:Nat):(0<=(n:Int))=True:=bR (by omega)
@[simp] theorem azM(c:AV)(k:IntKind)(n:Int):fD [c] (.int k n)=c:=rfl
@[simp] theorem azo(c:AV)(b:Bool):fD [c] (.bool b)=c:=rfl
@[simp] theorem azs(c:AV)(s:List UInt8):fD [c] (.str s)=c:=rfl
@[simp] theorem azi(c:AV)(f:Bool)(k:Nat)(es:List AV):fD [c] (.list f k es)=c:=rfl
@[simp] theorem azX(c:AV)(i o n:Nat):fD [c] (.sl i o n)=c:=rfl
@[simp] theorem azu(cs ds:List AV):fD cs (.agg ds)=.agg cs:=by cases cs<;>rfl
theorem z7{a:Nat}(h:(a:Int)<2^62):IntKind.i64.wrap (a:Int)=a:=wrap64 (by omega) (by omega)
@[simp high] theorem aBV(a:Nat):gS .shr .i64 (a:Int) 1=some ((a/2:Nat):Int):=by
 simp[gS,IntKind.bits];rw[Int.fdiv_eq_ediv_of_nonneg _ (by omega)]
@[simp high] theorem aBP(a:Nat):gS .and .i64 (a:Int) 1=some ((a%2:Nat):Int):=by
 have h1:(BitVec.ofInt 64 (a:Int)&&&BitVec.ofInt 64 1).toNat=a%2:=by
  have e1:BitVec.ofInt 64 (1:Int)=1#64:=by decide
  rw[e1,BitVec.toNat_and,Lz]
  have e2:(1#64:BitVec 64).toNat=1:=by decide
  rw[e2,Nat.and_one_is_mod];omega
 show some (IntKind.i64.wrap ((BitVec.ofInt 64 (a:Int)&&&BitVec.ofInt 64 1).toNat:Int))=_
 rw[h1,z7 (by omega)]
theorem adi(a:Nat):(a^^^1)%2=1-a%2:=by
 have h1:=@Nat.xor_mod_two_eq_one a 1;have h2:(a^^^1)%2<2:=Nat.mod_lt _ (by omega);have h3:a%2<2:=Nat.mod_lt _ (by omega);have h4:(1%2=1):=rfl;simp only[h4,iff_true]at h1;omega
theorem ael(a:Nat):(a^^^1)/2=a/2:=by rw[Nat.xor_div_two];simp
theorem nb(a:Nat):a^^^1=if a%2=0 then a+1 else a-1:=by
 have h1:=adi a;have h2:=ael a
 split<;>omega
@[simp high] theorem ajg(a:Nat)(h:(a:Int)<2^60):gS .xor .i64 (a:Int) 1=some ((a^^^1:Nat):Int):=by
 have h1:(BitVec.ofInt 64 (a:Int)^^^BitVec.ofInt 64 1).toNat=a^^^1:=by
  have e1:BitVec.ofInt 64 (1:Int)=1#64:=by decide
  rw[e1,BitVec.toNat_xor,Lz]
  have e2:(1#64:BitVec 64).toNat=1:=by decide
  rw[e2];congr 1;omega
 show some (IntKind.i64.wrap ((BitVec.ofInt 64 (a:Int)^^^BitVec.ofInt 64 1).toNat:Int))=_
 rw[h1,z7 (by rw[nb];split<;>omega)]
@[simp high] theorem So(a:Nat)(h:(a:Int)<2^62):gS .quo .i64 (a:Int) 2=some ((a/2:Nat):Int):=by
 simp only[gS];rw[if_neg (by omega),show((a:Int)).tdiv 2=((a/2:Nat):Int)from rfl,z7 (by omega)]
@[simp high] theorem aBS(a:Nat):gS .rem .i64 (a:Int) 2=some ((a%2:Nat):Int):=by
 simp only[gS];rw[if_neg (by omega)];rfl
theorem fF{h:List Ob}{i:Nat}{o:Ob}(hi:h[i]? =some o)(os:List Ob):(h++os)[i]? =some o:=by
 rw[cz (aV hi)];exact hi
@[simp] theorem age(h l:List Ob)(k:Nat):(h++l)[h.length+k]? =l[k]? :=by
 rw[dk (by omega)];congr 1;omega
@[simp] theorem ad8(h l:List Ob):(h++l)[h.length]? =l[0]? :=by
 rw[dk (by omega)];congr 1;omega
@[simp] theorem aBy(h l:List Ob)(k:Nat)(x:Ob):(h++l).set (h.length+k) x=h++l.set k x:=by
 rw[List.set_append,if_neg (by omega)];congr 2;omega
@[simp] theorem ad5(h l:List Ob)(x:Ob):(h++l).set h.length x=h++l.set 0 x:=by
 rw[List.set_append,if_neg (by omega)];congr 2;omega
@[simp] theorem aA7(h l:List Ob)(k:Nat):(h++l).take (h.length+k)=h++l.take k:=by
 rw[List.take_append,cR (by omega)];simp
@[simp] theorem jH(i m:Nat)(a b:List Ob):cQ i m (a++b)=(cQ i m a&&cQ i m b):=by
 induction a with
 |nil=>simp[cQ]
 |cons x a ih=>simp[cQ,ih,oZ]
@[simp] theorem qd(n:Nat)(a b:List Ob):cr n (a++b)=(cr n a&&cr n b):=by
 induction a with
 |nil=>simp[cr]
 |cons x a ih=>simp[cr,ih,oZ]
section
variable{P:Program}{Γ:Nat->Option AV}
theorem aA.cG(n:Nat)(E:TypeId){fn:FuncId}{d:Option Nat}{gd:Option (Nat×Bool)}{k:Nat}{zs:List AV}{ps:List (Nat×AX)}{os:List AG}{k':List It}{t:List AV}{ds:List dF}{kind:FK}{base:Nat}{up:List Fr}{h:List Ob}{o:Out}{es:List AV}
 (hw:dO t gd=some true)(hf:oq k zs (ps.map fun p=>(p.1,ax t p.2))=some es)
 (h1:aA P Γ (AM.go P Γ 0 n (.fr ⟨.run,fn,.ops os::k',a_ t d (.sl h.length 0 es.length),ds,kind,base⟩ up (h++[.row k E es none (cA es k) false]))) o):
 aA P Γ (.fr ⟨.run,fn,.ops (⟨d,gd,.lit k zs ps⟩::os)::k',t,ds,kind,base⟩ up h) o:=
 .reach (.cG (f:=⟨.run,fn,.ops (⟨d,gd,.lit k zs ps⟩::os)::k',t,ds,kind,base⟩) E rfl rfl hw hf) (.go n h1)
theorem OO:∀(i:Nat)(t:List AV),i<t.length->dx (List.replicate i true++[false]) t=t.set i .undef
 |_,[],h=>by simp at h
 |0,a::t,_=>by cases t<;>rfl
 |i+1,a::t,h=>by
  simp only[l9,eo,dx,rp];rw[OO i t (by simpa using h)]
def oA(is:List Nat)(t:List AV):List AV:=is.foldl (fun t i=>t.set i .undef) t
theorem afc(t:List AV)(i:Nat):t.set i .undef=t\/i<t.length:=by
 by_cases h:i<t.length
 ·exact .inr h
 ·exact .inl (List.set_eq_of_length_le (by omega))
theorem Reach.oF{fn:FuncId}{k:List It}{ds:List dF}{kind:FK}{base:Nat}{up:List Fr}{h:List Ob}:∀(is:List Nat)(t:List AV),Reach P Γ (.fr ⟨.run,fn,k,t,ds,kind,base⟩ up h) (.fr ⟨.run,fn,k,oA is t,ds,kind,base⟩ up h)
 |[],t=>.refl _
 |i::is,t=>by
  refine .trans ?_ (Reach.oF is (t.set i .undef))
  rcases afc t i with h1|h1
  ·rw[h1];exact .refl _
  ·have:=Reach.mask (P:=P) (Γ:=Γ) (f:=⟨.run,fn,k,t,ds,kind,base⟩) (up:=up) (h:=h) (List.replicate i true++[false]);simp only[OO i t h1]at this;exact this
@[simp] theorem aBb(t:List AV):oA [] t=t:=rfl
@[simp] theorem aAu(i:Nat)(is:List Nat)(t:List AV):oA (i::is) t=oA is (t.set i .undef):=rfl
theorem aA.oF(is:List Nat){fn:FuncId}{k:List It}{t:List AV}{ds:List dF}{kind:FK}{base:Nat}{up:List Fr}{h:List Ob}{o:Out}(h1:aA P Γ (.fr ⟨.run,fn,k,oA is t,ds,kind,base⟩ up h) o):aA P Γ (.fr ⟨.run,fn,k,t,ds,kind,base⟩ up h) o:=.reach (.oF is t) h1
theorem aA.mj(i j k:Nat)(E:TypeId){f:Fr}{up:List Fr}{h:List Ob}{o:Out}{k0:Nat}{cs:List AV}(hi:h[i]? =some (.cells cs))(hj:cs[j]? =some (.list true k0 []))(hk:0<k)
 (h4:aA P Γ (.fr f up ((h++[Ob.row k E [] none true false]).set i (.cells (cs.set j (.sl h.length 0 0))))) o):aA P Γ (.fr f up h) o:=.reach (.mj E hi hj hk) h4
theorem Reach.adI(n:Nat)(E:TypeId){fn:FuncId}{d:Option Nat}{gd:Option (Nat×Bool)}{k:Nat}{zs:List AV}{ps:List (Nat×AX)}{os:List AG}{k':List It}{t:List AV}{ds:List dF}{kind:FK}{base:Nat}{up:List Fr}{h:List Ob}{c:ar}{es:List AV}
 (hw:dO t gd=some true)(hf:oq k zs (ps.map fun p=>(p.1,ax t p.2))=some es)
 (h1:Reach P Γ (AM.go P Γ 2 n (.fr ⟨.run,fn,.ops os::k',a_ t d (.sl h.length 0 es.length),ds,kind,base⟩ up (h++[.row k E es none (cA es k) false]))) c):
 Reach P Γ (.fr ⟨.run,fn,.ops (⟨d,gd,.lit k zs ps⟩::os)::k',t,ds,kind,base⟩ up h) c:=
 .trans (.cG (f:=⟨.run,fn,.ops (⟨d,gd,.lit k zs ps⟩::os)::k',t,ds,kind,base⟩) E rfl rfl hw hf) (.a8 n h1)
theorem Reach.RS(st n:Nat){f:FuncId}{args:List AV}{up:List Fr}{h:List Ob}{v:AV}{h':List Ob}{c:ar}(h1:∀up,Reach P Γ (.cl f args up h) (.back up v h'))(h2:Reach P Γ (AM.go P Γ st n (AM.pop (.back up v h'))) c):Reach P Γ (.cl f args up h) c:=.trans (h1 up) (.trans (.pop _) (.trans (.goes n _) h2))
theorem Reach.Ib{f:Fr}{up:List Fr}{h:List Ob}{c:ar}{i k:Nat}{E:TypeId}{es:List AV}{fl sh:Bool}(hi:h[i]? =some (.row k E es (some 0) fl sh))(h1:iv i es.length f=true)(h2:up.all (iv i es.length)=true)(h3:cQ i es.length h=true)
 (h4:Reach P Γ (.fr f up (h.set i (.row k E es none fl sh))) c):Reach P Γ (.fr f up h) c:=.trans (.RD hi (by simp only[sN,h1,h2,nU]) h3) h4
theorem aA.nn{f:Fr}{up:List Fr}{h:List Ob}{o:Out}{i k:Nat}{E:TypeId}{es:List AV}{gr:Option Nat}{fl sh:Bool}(hi:h[i]? =some (.row k E es gr fl sh))(hg:gr=none\/gr=some 0)(h1:f.base<=i)(h2:iv i es.length f=true)(h3:cQ i es.length h=true)
 (h4:aA P Γ (.fr f up (h.set i (.row k E es none fl sh))) o):aA P Γ (.fr f up h) o:=by
 rcases hg with rfl|rfl
 ·have:h.set i (.row k E es none fl sh)=h:=by
   apply iC;intro j
   by_cases hj:i=j
   ·subst hj;rw[eI (aV hi),hi]
   ·rw[dM hj]
  rw[this]at h4;exact h4
 ·exact .reset hi h1 h2 h3 h4
end
theorem aA.either(n:Nat){P:Program}{Γ:Nat->Option AV}{fn:FuncId}{d:Option Nat}{x:AX}{neg:Bool}{os:List AG}{k:List It}{t:List AV}{ds:List dF}{kind:FK}{base:Nat}{up:List Fr}{h:List Ob}{o:Out}(h0:pA (ax t x)=some 0)
 (h1:∀b,aA P Γ (AM.go P Γ 0 n (.fr ⟨.run,fn,.ops os::k,a_ t d (.bool b),ds,kind,base⟩ up h)) o):aA P Γ (.fr ⟨.run,fn,.ops (⟨d,none,.km neg x⟩::os)::k,t,ds,kind,base⟩ up h) o:=
 .km (f:=⟨.run,fn,.ops (⟨d,none,.km neg x⟩::os)::k,t,ds,kind,base⟩) rfl rfl rfl (by simp only[aB,h0]) fun b=>.go n (h1 b)
theorem Reach.acu(i k:Nat)(E:TypeId){P:Program}{Γ:Nat->Option AV}{fn:FuncId}{its:List It}{t:List AV}{ds:List dF}{kind:FK}{base:Nat}{up:List Fr}{h:List Ob}{c:ar}{k0:Nat}(hi:t[i]? =some (.list true k0 []))(hk:0<k)
 (h4:Reach P Γ (.fr ⟨.run,fn,its,t.set i (.sl h.length 0 0),ds,kind,base⟩ up (h++[Ob.row k E [] none true false])) c):Reach P Γ (.fr ⟨.run,fn,its,t,ds,kind,base⟩ up h) c:=
 .trans (.rX (f:=⟨.run,fn,its,t,ds,kind,base⟩) E rfl hi hk) h4
theorem aA.rX(i k:Nat)(E:TypeId){P:Program}{Γ:Nat->Option AV}{fn:FuncId}{its:List It}{t:List AV}{ds:List dF}{kind:FK}{base:Nat}{up:List Fr}{h:List Ob}{o:Out}{k0:Nat}(hi:t[i]? =some (.list true k0 []))(hk:0<k)
 (h4:aA P Γ (.fr ⟨.run,fn,its,t.set i (.sl h.length 0 0),ds,kind,base⟩ up (h++[Ob.row k E [] none true false])) o):aA P Γ (.fr ⟨.run,fn,its,t,ds,kind,base⟩ up h) o:=
 .reach (.acu i k E hi hk (.refl _)) h4
def ic(P:Program)(Γ:Nat->Option AV):ar->ar
 |.fr f up h=>match f.md with
  |.run=>match f.its with
   |.ops (o::os)::k=>jb P Γ f up h (.ops (o::os)::k)
   |_=>.fr f up h
  |_=>.fr f up h
 |.back (c::up) v h=>match c.finish v with
  |some c'=>.fr c' up h
  |none=>.bad
 |c=>c
def l0(P:Program)(Γ:Nat->Option AV):Nat->ar->ar
 |0,c=>c
 |n+1,c=>l0 P Γ n (ic P Γ c)
section
variable{P:Program}{Γ:Nat->Option AV}{n:Nat}{fn:FuncId}{k:List It}{t:List AV}{ds:List dF}{kind:FK}{base:Nat}{up:List Fr}{h h':List Ob}
theorem Reach.ic(c:ar):Reach P Γ c (AM.ic P Γ c):=by
 cases c with
 |fr f up h=>
  obtain⟨md,fn,its,t,ds,kind,base⟩:=f
  cases md with
  |run=>
   simp only[AM.ic]
   split
   ·exact .step _
   ·exact .refl _
  |_=>exact .refl _
 |back up v h=>cases up<;>first|exact .refl _|exact .step _
 |_=>exact .refl _
theorem Reach.wo:∀(n:Nat)(c:ar),Reach P Γ c (AM.l0 P Γ n c)
 |0,c=>.refl c
 |n+1,c=>.trans (.ic c) (Reach.wo n _)
theorem Hq{c:ar}(hc:ic P Γ c=c):∀n,l0 P Γ n c=c
 |0=>rfl
 |n+1=>by rw[l0,hc];exact Hq hc n
@[simp] theorem RU{d:Option Nat}{o:AO}{os:List AG}:l0 P Γ (n+1) (.fr ⟨.run,fn,.ops (⟨d,none,o⟩::os)::k,t,ds,kind,base⟩ up h)=
  l0 P Γ n (gq P ⟨.run,fn,.ops (⟨d,none,o⟩::os)::k,t,ds,kind,base⟩ up h ⟨d,none,o⟩ os k (aB P Γ t h o)):=(rfl)
@[simp] theorem aBw:l0 P Γ n (.fr ⟨.run,fn,.ops []::k,t,ds,kind,base⟩ up h)=.fr ⟨.run,fn,.ops []::k,t,ds,kind,base⟩ up h:=Hq rfl n
@[simp] theorem aBB{f:FuncId}{args:List AV}:l0 P Γ n (.cl f args up h)=.cl f args up h:=Hq rfl n
@[simp] theorem aAZ{c:Fr}{v:AV}:l0 P Γ (n+1) (.back (c::up) v h)=l0 P Γ n (match c.finish v with
  |some c'=>.fr c' up h
  |none=>.bad):=(rfl)
theorem aA.ogO(n:Nat){as:List (List Nat)}{gs:List AG}{r:AV}
 (h1:∀l∈fV as as.length [],aA P Γ (AM.l0 P Γ n (.fr ⟨.run,fn,.ops (l.map fun i=>gs.getD i default)::k,t,ds,kind,base⟩ up h)) (.ret r)):
 aA P Γ (.fr ⟨.run,fn,.code (.gm as gs)::k,t,ds,kind,base⟩ up h) (.ret r):=
 .C6 (f:=⟨.run,fn,.code (.gm as gs)::k,t,ds,kind,base⟩) rfl rfl (fun v hv=>by cases hv) fun l hl=>.reach (.wo n _) (h1 l hl)
theorem aA.Tt(n:Nat){l:List Bool}{ws:List Nat}{gs:List AG}{r:AV}
 (h1:∀l∈fV (oD gs) gs.length [],aA P Γ (AM.l0 P Γ n (.fr ⟨.run,fn,.ops (l.map fun i=>gs.getD i default)::k,t,ds,kind,base⟩ up h)) (.ret r)):
 aA P Γ (.fr ⟨.run,fn,.code (.aP l ws gs)::k,t,ds,kind,base⟩ up h) (.ret r):=
 .CI (f:=⟨.run,fn,.code (.aP l ws gs)::k,t,ds,kind,base⟩) rfl rfl (fun v hv=>by cases hv) fun l hl=>.reach (.wo n _) (h1 l hl)
theorem aA.Ab(n:Nat){f:FuncId}{args as:List AV}{r:AV}{o:Out}(h1:cq h args=some as)(h2:aS P Γ f as r)(h3:aA P Γ (AM.l0 P Γ n (.back up (dZ h.length r).1 (eC h args r))) o):aA P Γ (.cl f args up h) o:=
 .reach (.pure h1 h2) (.reach (.wo n _) h3)
end
def I6(n:Nat)(τ:List Nat)(its:List It)(t:List AV)(ds:List dF)(kind:FK)(base:Nat)(h:List Ob):Prop:=
 base<=n/\n<=h.length/\(∀j∈τ,n+j<h.length)/\ek n τ t=true/\k_ n ds=true/\gQ n its=true/\pE n kind=true/\gz n τ (h.take n)=true/\sC n τ (nA h n τ)=true
theorem Reach.q9(n:Nat)(τ:List Nat){P:Program}{Γ:Nat->Option AV}{fn:FuncId}{its:List It}{t:List AV}{ds:List dF}{kind:FK}{base:Nat}{up:List Fr}{h:List Ob}{c:ar}(hc:I6 n τ its t ds kind base h)(hnd:τ.Nodup)
 (h4:Reach P Γ (.fr ⟨.run,fn,its,cC n τ t,ds,kind,base⟩ up (jC n τ h)) c):Reach P Γ (.fr ⟨.run,fn,its,t,ds,kind,base⟩ up h) c:=
 .trans (.gc (f:=⟨.run,fn,its,t,ds,kind,base⟩) n τ rfl hc.1 hc.2.1 hc.2.2.1 hnd hc.2.2.2.1 hc.2.2.2.2.1 hc.2.2.2.2.2.1 hc.2.2.2.2.2.2.1 hc.2.2.2.2.2.2.2.1 hc.2.2.2.2.2.2.2.2) h4
theorem aA.gc(n:Nat)(τ:List Nat){P:Program}{Γ:Nat->Option AV}{fn:FuncId}{its:List It}{t:List AV}{ds:List dF}{kind:FK}{base:Nat}{up:List Fr}{h:List Ob}{o:Out}(hc:I6 n τ its t ds kind base h)(hnd:τ.Nodup)
 (h4:aA P Γ (.fr ⟨.run,fn,its,cC n τ t,ds,kind,base⟩ up (jC n τ h)) o):aA P Γ (.fr ⟨.run,fn,its,t,ds,kind,base⟩ up h) o:=
 .reach (.q9 n τ hc hnd (.refl _)) h4
attribute [simp] jO jm.cfg I6 gp fe dT cC fB ek nO rm lq l7 gz sC jD nA jC List.idxOf_cons
theorem Reach.Sr{P:Program}{Γ:Nat->Option AV}{f:FuncId}{args as:List AV}{r:AV}{h:List Ob}(h1:cq h args=some as)(h2:aS P Γ f as r)(h3:∀n,dZ n r=(r,[]))(h4:eC h args r=h):∀up,Reach P Γ (.cl f args up h) (.back up r h):=by
 intro up;have:=back_eq h1 h2 up;rw[h3,h4]at this;exact this
end Go.AM
namespace Go.AM
open Go.RowKit
variable{P:Program}{Γ:Nat->Option AV}
theorem Inv.below{N:Env}{g:G}{h:List Ob}{w w':World}(H:Inv P Γ N g h w)(hb:Below w.heap.size w w'):Inv P Γ N g h w':=by
 have hblk:∀b x,w.heap[b]? =some x->w'.heap[b]? =some x:=fun b x hx=>by
  rw[hb.block b (by
   rcases l_ b w.heap.size with h1|h1
   ·exact h1
   ·rw[oS h1]at hx;cases hx)]
  exact hx
 have hcell:∀b o v,w.cell? ⟨b,o,none⟩=some v->w'.cell? ⟨b,o,none⟩=some v:=fun b o v hv=>by
  rcases l_ b w.heap.size with h1|h1
  ·rw[ve (hb.block b h1)];exact hv
  ·simp[World.cell?,oS h1]at hv
 refine⟨hb.os.trans H.os,hb.tape.trans H.tape,hb.output.trans H.output,fun b o hk=>hblk b o (H.fN b o hk),fun i b x hi=>⟨(H.own i b x hi).1,lu (H.own i b x hi).2 hb.size⟩,H.inj,H.pP,
  fun b o v hv=>hcell b o v (H.mem b o v hv),fun b es ck hk=>⟨hblk b _ (H.mm b es ck hk).1,(H.mm b es ck hk).2⟩,H.eP,?_,H.lZ,H.mK,H.jX,H.l6⟩
 intro i o hi;exact oa (Ext.refl _ _ _) rfl (fun b y hy=>hb.block b (H.own i b y hy).2) (H.ob i o hi)
theorem aS.Jc{f:FuncId}{as:List AV}{r:AV}(hb:az P f=true)(hun:∀n,dZ n r=(r,[]))(ht:uk r=true)
 (hc:∀(N:Env)(g:G)(h:List Ob)(w:World)(us:List Value),Inv P Γ N g h w->VL g h as us->Calls P f us.toArray w fun e w'=>(∃u,e=.returned u/\∀g h,V g h r u)/\Below w.heap.size w w'):aS P Γ f as r:=by
 refine⟨hb,fun _ N g h w us H hV=>(hc N g h w us H hV).mono ?_⟩
 rintro e w' ⟨⟨u,rfl,hu⟩,hB⟩
 refine⟨u,g,rfl,ht,?_,?_,fun _ _=>rfl,fun _ _ _ x=>x,fun b hb=>hB.block b hb⟩
 ·rw[hun];simpa using H.below hB
 ·rw[hun];exact hu _ _
@[simp] theorem Za(c:UInt8):Dc (fJ c)=some c:=by
 simp only[Dc,fJ,dX,ak];exact UInt8.ofNat_toNat
@[simp] theorem ZP:∀w:List UInt8,qv (w.map fJ)=some w
 |[]=>rfl
 |c::w=>by rw[bU,qv,Za,ZP w]
end Go.AM
namespace Go.AM
open Go.ChangeShapes Go.WideShapes Go.ChangeAt Go.RowKit
theorem Hp{P:Program}{W:World}:∀{l:List (String×DataW Unit)}{ps:List MemPlace},DataW.LaidVars P W l ps->∀n d,(n,d)∈l->
 ∃g t cs fuel p,P.globalNamed n=some g/\(P.globals[g]?).map (·.type)=some t/\W.var? P n=some cs/\DataW.trod (fun _=>()) P W 0 (fun _=>true) false fuel t cs.toList=some (d,p)
 |[],ps,_,n,d,hm=>by simp at hm
 |(n0,d0)::l,ps,h,n,d,hm=>by
  obtain⟨g,t,cs,fuel,p,q,h1,h2,h3,h4,h5,_⟩:=h
  rcases bz.1 hm with hm|hm
  ·cases hm
   exact⟨g,t,cs,fuel,p,h1,h2,h3,h4⟩
  ·exact Hp h5 n d hm
theorem M6{H:Type}(z x:Lit×DataW H):∀l,z∈DataW.insert x l↔z=x\/z∈l
 |[]=>by simp[DataW.insert]
 |y::r=>by
  rw[DataW.insert]
  split
  ·simp
  ·simp only[bz,M6 z x r];constructor
   ·rintro(h|h|h)
    ·exact .inr (.inl h)
    ·exact .inl h
    ·exact .inr (.inr h)
   ·rintro(h|h|h)
    ·exact .inr (.inl h)
    ·exact .inl h
    ·exact .inr (.inr h)
theorem tp{H:Type}(z:Lit×DataW H):∀l:List (Lit×DataW H),z∈l.foldr DataW.insert []↔z∈l
 |[]=>by simp
 |x::l=>by simp only[List.foldr_cons,M6,tp z l,bz]
theorem Qg{α β:Type}{f:α->Option β}:∀{l:List α}{r:List β},l.mapM f=some r->F2 (fun a b=>f a=some b) l r
 |[],r,h=>by simp at h;subst h;exact .nil
 |x::l,r,h=>by
  simp only[sO,pY,oX,Ly,ak]at h;obtain⟨b,hb,r',hr',rfl⟩:=h;exact .cons hb (Qg hr')
theorem Po{H:Type}{enc:TypeId×Value->H}{P:Program}{w:World}{base:Nat}{sp:Nat->Bool}{held:Bool}{t k e:TypeId}(ht:P.underlying t=some (.map k e)){fuel:Nat}{cs:List Value}{D:List (Lit×DataW H)}{ps:List MemPlace}
 (h:DataW.trod enc P w base sp held fuel t cs=some (.map D,ps)):
 ∃n b es clock,∃entries:List ((Lit×DataW H)×List MemPlace),cs=[.map (some b)]/\w.heap[b]? =some (.map es clock)/\
  F2 (fun(x:MapEntry) y=>keyOf P k x.key=some y.1.1/\x.val.formed P e=true/\DataW.trod enc P w base sp held n e x.val.cells.toList=some (y.1.2,y.2)) es.toList entries/\D=(entries.map (·.1)).foldr DataW.insert []:=by
 cases fuel with
 |zero=>simp[DataW.trod]at h
 |succ n=>
  rw[DataW.trod_step]at h;unfold DataW.trodStep at h;rw[ht]at h
  split at h<;>simp_all
  rename_i b _
  cases hb:w.heap[b]? with
  |none=>simp[hb]at h
  |some o=>
   cases o<;>simp only[hb,reduceCtorEq]at h
   rename_i es clock
   split at h
   ·simp only[oX]at h;obtain⟨entries,h1,h2⟩:=h
    split at h2
    ·simp only[ak,bY,DataW.map.injEq]at h2;refine⟨n,es,⟨clock,rfl⟩,entries,?_,h2.1.symm⟩
     refine C1 (Qg h1) fun x y hxy=>?_
     simp only[oX]at hxy;obtain⟨key,h3,h4⟩:=hxy
     split at h4
     ·rename_i hf;rw[cf]at h4;obtain⟨z,h5,rfl⟩:=h4;exact⟨h3,hf,h5⟩
     ·cases h4
    ·cases h2
   ·cases h
def jQ:Lit->AV
 |.string s=>.str s
 |.int k n=>.int k n
 |_=>.undef
def Af{H:Type}:DataW H->AV
 |.lit (.bool b)=>.bool b
 |.lit (.int k n)=>.int k n
 |.lit (.string s)=>.str s
 |_=>.undef
def py{H:Type}:DataW H->AV
 |.agg ds=>.agg (ds.map Af)
 |d=>Af d
theorem Q6{P:Program}{k:TypeId}{q:IntKind}(hk:P.underlying k=some (.int q)){g:G}{h:List Ob}{v:Value}{l:Lit}(hv:keyOf P k v=some l):V g h (jQ l) v/\aG 0 (jQ l)=true/\∃n,l=.int q n:=by
 rw[keyOf_int hk]at hv
 cases v<;>simp[mapKey,hk]at hv
 obtain⟨⟨rfl,_⟩,rfl⟩:=hv;exact⟨by simp[jQ,V],rfl,_,rfl⟩
theorem adY{P:Program}{e e':TypeId}{q:IntKind}(he:P.underlying e=some (.array 2 e'))(he':P.underlying e'=some (.int q))(h1:P.cellsOf e'=1)(h2:P.cellsOf e=2){H:Type}{enc:TypeId×Value->H}{w:World}{base:Nat}{sp:Nat->Bool}{held:Bool}{n:Nat}{v:Value}{x:DataW H×List MemPlace}{g:G}{h:List Ob}
 (hf:v.formed P e=true)(ht:DataW.trod enc P w base sp held n e v.cells.toList=some x):V g h (py x.1) v/\aG 0 (py x.1)=true:=by
 cases v<;>simp[Value.formed,he]at hf
 rename_i cs
 have hl:cs.toList.length=2:=by simpa[h2]using hf
 obtain⟨a,b,hab⟩:∃a b,cs.toList=[a,b]:=by
  match hc:cs.toList,hl with
  |[a,b],_=>exact⟨a,b,rfl⟩
 cases n with
 |zero=>simp[DataW.trod]at ht
 |succ m=>
  simp only[Value.cells,hab]at ht;rw[DataW.trod_step]at ht;unfold DataW.trodStep at ht;rw[he]at ht;simp only[h1,h2,bE,cS,cy,show List.range 2=[0,1]from rfl,sO,List.mapM_nil]at ht;simp only[pY,Ly,cf,oX,ak,Nat.mul_one,fg,List.drop_succ_cons,Ln,EV]at ht;obtain⟨y,⟨y1,hy1,ys,⟨y2,hy2,zs,rfl,rfl⟩,rfl⟩,rfl⟩:=ht;obtain⟨n1,e1,rfl,_⟩:=DataW.trod_int he' hy1;obtain⟨n2,e2,rfl,_⟩:=DataW.trod_int he' hy2;simp only[uD,pR]at e1 e2;subst e1 e2
  have hcs:cs=[Value.int q n1,Value.int q n2].toArray:=by rw[<-hab]
  subst hcs;simp[py,Af,V,VL,aG,aK]
theorem F3(E:EK)(kk:AV):∀(l:List (AV×AV)),(∀y∈l,(cj E kk y.1=some true/\kk=y.1)\/(cj E kk y.1=some false/\kk≠y.1))->
 ∃r,eT E kk l=some r/\(r=none->∀y∈l,kk≠y.1)/\(∀v,r=some v->(kk,v)∈l)
 |[],_=>⟨none,rfl,fun _ y hy=>by simp at hy,fun v hv=>by cases hv⟩
 |(a,u)::l,h=>by
  rcases h (a,u) (oY ..)with⟨h1,h2⟩|⟨h1,h2⟩
  ·refine⟨some u,by simp only[eT,h1],fun hn=>absurd hn (by simp),fun v hv=>?_⟩;obtain rfl:=Option.some.inj hv;rw[show kk=a from h2];exact oY ..
  ·obtain⟨r,h3,h4,h5⟩:=F3 E kk l (fun y hy=>h y (dw _ hy));refine⟨r,by simp only[eT,h1];exact h3,fun hn y hy=>?_,fun v hv=>dw _ (h5 v hv)⟩
   rcases bz.1 hy with rfl|hy
   ·exact h2
   ·exact h4 hn y hy
theorem qK{α β:Type}{R:α->β->Prop}{g:G}{h:List Ob}{f:β->AV}{e:α->Value}:∀{l:List α}{m:List β},F2 R l m->(∀a b,R a b->V g h (f b) (e a)/\aG 0 (f b)=true)->VL g h (m.map f) (l.map e)/\aK 0 (m.map f)=true
 |_,_,.nil,_=>⟨by simp[VL],rfl⟩
 |_,_,.cons h1 h2,hR=>by
  obtain⟨a1,a2⟩:=hR _ _ h1;obtain⟨b1,b2⟩:=qK h2 hR;simp only[bU,VL,aK,a2,b2,nU,pR];exact⟨_,_,rfl,a1,b1⟩
theorem ad0{P:Program}{W:World}{l:List (String×DataW Unit)}(hl:laidMetH P l W)(hp:(l.all fun x=>x.2.handleName?.isNone)=true){name:String}{D:List (Lit×DataW Unit)}{g:Nat}{t k e:TypeId}(hm:(name,DataW.map D)∈l)
 (hg:P.globalNamed name=some g)(ht:(P.globals[g]?).map (·.type)=some t)(hu:P.underlying t=some (.map k e))
 (hK:∀(v:Value)(q:Lit),keyOf P k v=some q->V (gw W) [] (jQ q) v/\aG 0 (jQ q)=true)
 (hV:∀(n:Nat)(v:Value)(x:DataW Unit×List MemPlace),v.formed P e=true->DataW.trod (fun _=>()) P W 0 (fun _=>true) false n e v.cells.toList=some x->V (gw W) [] (py x.1) v/\aG 0 (py x.1)=true):
 ∃ks us,aK 0 (AV.cells (.du ks us))=true/\(∃vs,VL (gw W) [] (AV.cells (.du ks us)) vs/\∀j(hj:j<vs.length),W.cell? ⟨g,j,none⟩=some vs[j])/\∃z:List (AV×AV),ks.zip us=z/\∀y,y∈z↔y∈D.map fun d=>(jQ d.1,py d.2):=by
 rw[MakeChecks.laidMetH_plain _ _ _ hp]at hl;obtain⟨ps,h1,_⟩:=hl;obtain⟨g',t',cs,fuel,p,h2,h3,h4,h5⟩:=Hp h1 _ _ hm;obtain rfl:=Option.some.inj (hg.symm.trans h2);obtain rfl:=Option.some.inj (ht.symm.trans h3);obtain⟨n,b,es,ck,entries,hcs,hb,hF,rfl⟩:=Po hu h5;refine⟨entries.map fun y=>jQ y.1.1,entries.map fun y=>py y.1.2,?_,⟨[.map (some b)],?_,?_⟩,_,rfl,?_⟩
 ·have a:=qK (g:=gw W) (h:=[]) (f:=fun y=>jQ y.1.1) (e:=fun x:MapEntry=>x.key) hF (fun x y hxy=>hK _ _ hxy.1);have c:=qK (g:=gw W) (h:=[]) (f:=fun y=>py y.1.2) (e:=fun x:MapEntry=>x.val) hF (fun x y hxy=>hV n _ (y.1.2,y.2) hxy.2.1 hxy.2.2);simp only[AV.cells,aK,aG,a.2,c.2,nU]
 ·have a:=qK (g:=gw W) (h:=[]) (f:=fun y=>jQ y.1.1) (e:=fun x:MapEntry=>x.key) hF (fun x y hxy=>hK _ _ hxy.1);have c:=qK (g:=gw W) (h:=[]) (f:=fun y=>py y.1.2) (e:=fun x:MapEntry=>x.val) hF (fun x y hxy=>hV n _ (y.1.2,y.2) hxy.2.1 hxy.2.2);simp only[AV.cells,VL,V];refine⟨_,[],rfl,⟨b,es,ck,rfl,by simp only[gw,hb],a.1,c.1⟩,rfl⟩
 ·intro j hj
  obtain rfl:j=0:=by simp at hj;omega
  rw[World.var?_cell hg h4 0,xe.symm,hcs];rfl
 ·intro y;rw[List.zip_map',cd,cd];constructor
  ·rintro⟨x,hx,rfl⟩
   exact⟨x.1,(tp _ _).2 (sU hx),rfl⟩
  ·rintro⟨d,hd,rfl⟩
   obtain⟨x,hx,rfl⟩:=cd.1 ((tp _ _).1 hd);exact⟨x,hx,rfl⟩
end Go.AM
namespace Go.AM
theorem af6{n:Nat}{τ:List Nat}{o:Ob}(hb:iu n o=true):l7 n τ o=true:=by
 have okM_bel:∀es:List (AV×AV),fa n es=true->rm n τ es=true:=by
  intro es
  induction es with
  |nil=>intro _;rfl
  |cons x r ih=>
   obtain⟨a,b⟩:=x;intro h;simp only[fa,ay]at h;simp only[rm,jL h.1.1,jL h.1.2,ih h.2,nU]
 cases o<;>simp only[iu]at hb<;>simp only[l7]
 ·exact nh hb
 ·rw[ff]at hb⊢;exact hb.imp id nh
 ·exact okM_bel _ hb
 ·exact nh hb
theorem rS{n:Nat}{τ:List Nat}:∀{h:List Ob},cr n h=true->gz n τ h=true
 |[],_=>rfl
 |o::os,hb=>by
  simp only[cr,ay]at hb;have h1:=rS (τ:=τ) hb.2
  cases o with
  |loop st pend fn t ps a b=>
   have h2:=hb.1;simp only[iu]at h2;simp only[gz,h1,h2,nU]
  |_=>
   have h2:=af6 (τ:=τ) hb.1;simp only[gz,h1,h2,nU]
@[simp] theorem aa0(n:Nat)(τ:List Nat):∀a b:List Ob,gz n τ (a++b)=(gz n τ a&&gz n τ b)
 |[],b=>rfl
 |o::a,b=>by
  have ih:=aa0 n τ a b
  cases o<;>simp[gz,ih,oZ]
@[simp] theorem aas(n:Nat)(τ:List Nat):∀a b:List Ob,jD n τ (a++b)=jD n τ a++jD n τ b
 |[],b=>rfl
 |o::a,b=>by simp[jD,aas n τ a b]
@[simp] theorem aar(n:Nat)(τ:List Nat):∀a b:List AV,cC n τ (a++b)=cC n τ a++cC n τ b
 |[],b=>rfl
 |o::a,b=>by simp[cC,aar n τ a b]
@[simp] theorem aaF(n:Nat)(τ:List Nat):∀a b:List AV,ek n τ (a++b)=(ek n τ a&&ek n τ b)
 |[],b=>rfl
 |o::a,b=>by simp[ek,aaF n τ a b,oZ]
attribute [simp] FU
@[simp] theorem aaj(i m:Nat):∀a b:List AV,dh i m (a++b)=(dh i m a&&dh i m b)
 |[],b=>rfl
 |o::a,b=>by simp[dh,aaj i m a b,oZ]
theorem Zc{as:List (List Nat)}{d1 d2:List Nat}(h:∀x,d1.contains x=d2.contains x)(i:Nat):lM as d1 i=lM as d2 i:=by
 unfold lM;rw[h i];congr 1
 refine List.all_congr rfl fun x=>h x
theorem L7(as:List (List Nat)):∀(n:Nat)(d1 d2:List Nat),(∀x,d1.contains x=d2.contains x)->fV as n d1=fV as n d2
 |0,_,_,_=>rfl
 |n+1,d1,d2,h=>by
  rw[fV,fV,show lM as d1=lM as d2 from funext (Zc h)];congr 1
  funext i
  rw[L7 as n (i::d1) (i::d2) fun x=>by simp only[List.contains_cons,h x]]
section
variable{P:Program}{Γ:Nat->Option AV}{as:List (List Nat)}{gs:List AG}{fn:FuncId}{k:List It}{ds:List dF}{kind:FK}{base:Nat}{up:List Fr}{c:ar}
def mH(P:Program)(Γ:Nat->Option AV)(as:List (List Nat))(gs:List AG)(fn:FuncId)(k:List It)(ds:List dF)(kind:FK)(base:Nat)(up:List Fr)(c:ar)(done:List Nat)(n:Nat)(t:List AV)(h:List Ob):Prop:=
 ∀l∈fV as n done,Reach P Γ (.fr ⟨.run,fn,.ops (l.map fun i=>gs.getD i default)::k,t,ds,kind,base⟩ up h) c
theorem mH.step{done:List Nat}{n:Nat}{t:List AV}{h:List Ob}
 (h1:∀i∈(List.range as.length).filter (lM as done),∃d op v h',gs.getD i default=⟨d,none,op⟩/\(aB P Γ t h op=.val v h'\/v=.aH []/\aB P Γ t h op=.skip h')/\mH P Γ as gs fn k ds kind base up c (i::done) n (a_ t d v) h'):mH P Γ as gs fn k ds kind base up c done (n+1) t h:=by
 intro l hl;simp only[fV,oV,cd]at hl;obtain⟨i,hi,l',hl',rfl⟩:=hl;obtain⟨d,op,v,h',e1,e2,h3⟩:=h1 i hi;have h4:=h3 l' hl';refine .trans (Reach.wo 1 _) ?_;simp only[bU,e1]
 rcases e2 with e2|⟨rfl,e2⟩
 ·rw[show(1:Nat)=0+1 from rfl,RU,e2,afi];exact h4
 ·rw[show(1:Nat)=0+1 from rfl,RU,e2,aeV];exact h4
theorem mH.congr{d1 d2:List Nat}{n:Nat}{t:List AV}{h:List Ob}(h1:mH P Γ as gs fn k ds kind base up c d1 n t h)(h2:∀x,d1.contains x=d2.contains x):mH P Γ as gs fn k ds kind base up c d2 n t h:=by
 intro l hl;rw[<-L7 as n d1 d2 h2]at hl;exact h1 l hl
theorem mH.perm{d1 d2:List Nat}{n:Nat}{t:List AV}{h:List Ob}(h1:mH P Γ as gs fn k ds kind base up c d1 n t h)(h2:d1.Perm d2):mH P Γ as gs fn k ds kind base up c d2 n t h:=
 h1.congr fun x=>by rw[fT,E1,E1];exact h2.mem_iff
theorem mH.all{t:List AV}{h:List Ob}(h1:mH P Γ as gs fn k ds kind base up c [] as.length t h):Reach P Γ (.fr ⟨.run,fn,.code (.gm as gs)::k,t,ds,kind,base⟩ up h) c:=
 .gm (f:=⟨.run,fn,.code (.gm as gs)::k,t,ds,kind,base⟩) rfl rfl h1
end
end Go.AM
namespace Go.AM
open Go.ChangeShapes Go.WideShapes Go.ChangeAt Go.RowKit
theorem Nb{P:Program}{W:World}{l:List (String×DataW Unit)}(hl:laidMetH P l W):laidMetH P (l.filter fun x=>x.2.handleName?.isNone) W:=by
 have h:=(laidMetH_iff.1 hl).1;rw[MakeChecks.laidMetH_plain _ _ _ (by rw[dU];intro x hx;exact(dN.1 hx).2)];exact h
def Ir(fno:List UInt8->FuncId):DataW (List UInt8)->AV
 |.held t=>.fn (.func (fno t)) [] []
 |d=>Af d
def pn(fno:List UInt8->FuncId):DataW (List UInt8)->AV
 |.agg ds=>.agg (ds.map (Ir fno))
 |d=>Ir fno d
theorem adO{P:Program}{e tf ti:TypeId}{q:IntKind}{fs:Array Field}(he:P.underlying e=some (.struct fs))(hfs:fs.toList.map (fun f=>(f.type,f.offset))=[(tf,0),(ti,1)])
 (htf:(match P.underlying tf with|some (.func ..)=>true|_=>false)=true)(hti:P.underlying ti=some (.int q))(h1:P.cellsOf tf=1)(h2:P.cellsOf ti=1)(h3:P.cellsOf e=2)
 {fno:List UInt8->FuncId}{w:World}{base:Nat}{sp:Nat->Bool}{n:Nat}{v:Value}{x:DataW (List UInt8)×List MemPlace}{g:G}{h:List Ob}{t0:List UInt8}{k:Int}(hx:x.1=.agg [.held t0,.lit (.int q k)])(ht0:t0≠[])
 (hno:∀f fn,P.funcs[f]? =some fn->fn.name.toUTF8.data.toList=t0->fno t0=f)
 (hf:v.formed P e=true)(ht:DataW.trod (funcToken P) P w base sp true n e v.cells.toList=some x):V g h (pn fno x.1) v/\aG 0 (pn fno x.1)=true:=by
 cases v<;>simp[Value.formed,he]at hf
 rename_i cs
 have hl:cs.toList.length=2:=by simpa[h3]using hf
 obtain⟨a,b,hab⟩:∃a b,cs.toList=[a,b]:=by
  match hc:cs.toList,hl with
  |[a,b],_=>exact⟨a,b,rfl⟩
 obtain⟨f1,f2,hff,e1,e2,e3,e4⟩:∃f1 f2,fs.toList=[f1,f2]/\f1.type=tf/\f1.offset=0/\f2.type=ti/\f2.offset=1:=by
  rcases hc:fs.toList with _|⟨f1,_|⟨f2,_|⟨f3,r⟩⟩⟩<;>rw[hc]at hfs<;>simp at hfs
  exact⟨f1,f2,rfl,hfs.1.1,hfs.1.2,hfs.2.1,hfs.2.2⟩
 cases n with
 |zero=>simp[DataW.trod]at ht
 |succ m=>
  simp only[Value.cells,hab]at ht;rw[DataW.trod_step]at ht;unfold DataW.trodStep at ht;rw[he]at ht;simp only[hff,e1,e2,e3,e4,h1,h2,h3,bE,cS,cy,sO,List.mapM_nil]at ht;simp only[pY,Ly,cf,oX,ak,fg,List.drop_succ_cons,Ln,EV]at ht;obtain⟨y,⟨y1,hy1,ys,⟨y2,hy2,zs,rfl,rfl⟩,rfl⟩,rfl⟩:=ht;simp only[bU,jG,DataW.agg.injEq,uD,pR]at hx;obtain⟨hx1,hx2⟩:=hx;obtain⟨n2,w2,rfl,_⟩:=DataW.trod_int hti hy2;simp only[uD,pR]at w2;subst w2
  cases m with
  |zero=>simp[DataW.trod]at hy1
  |succ m=>
  rw[DataW.trod_step]at hy1;unfold DataW.trodStep at hy1
  cases hu:P.underlying tf with
  |none=>rw[hu]at htf;cases htf
  |some d=>
  rw[hu]at htf hy1
  cases d<;>simp only[reduceCtorEq]at htf hy1
  cases a<;>simp only[ak,cy,reduceCtorEq]at hy1
  ·rename_i fn first cap
   subst hy1;simp only[DataW.held.injEq]at hx1
   obtain⟨b0,r0,hbr⟩:∃b0 r0,t0=b0::r0:=by
    cases t0 with
    |nil=>exact absurd rfl ht0
    |cons b0 r0=>exact⟨b0,r0,rfl⟩
   obtain⟨f,fu,hv,hfu,_,hname⟩:=funcToken_tells (hx1.trans hbr)
   cases hv
   have:=hno f fu hfu (hname.trans hbr.symm)
   have hcs:cs=[Value.func (.func f) #[] #[],Value.int q n2].toArray:=by rw[<-hab]
   subst hcs;simp[pn,Ir,Af,V,VL,aG,aK,hx1,this]
  ·subst hy1
   cases hx1
theorem RE{α β:Type}{R:α->β->Prop}:∀{l:List α}{m:List β},F2 R l m->F2 (fun a b=>R a b/\b∈m) l m
 |_,_,.nil=>.nil
 |_,_,.cons h1 h2=>.cons ⟨h1,by simp⟩ (C1 (RE h2) fun a b h=>⟨h.1,by simp[h.2]⟩)
theorem acy{P:Program}{W:World}{l:List (String×DataW Unit)}(hl:laidMetH P l W){name:String}{en:List (Lit×DataW Unit)}{g:Nat}{t k e:TypeId}(hm:(name,DataW.iface "func table" (.map en))∈l)(fno:List UInt8->FuncId)
 (hg:P.globalNamed name=some g)(ht:(P.globals[g]?).map (·.type)=some t)(hu:P.underlying t=some (.map k e))
 (hK:∀(v:Value)(q:Lit),keyOf P k v=some q->V (gw W) [] (jQ q) v/\aG 0 (jQ q)=true)
 (hV:∀(n:Nat)(v:Value)(x:DataW (List UInt8)×List MemPlace),(∃z∈DataW.funcsOutEntries en,z.2=x.1)->v.formed P e=true->DataW.trod (funcToken P) P W 0 (fun _=>true) true n e v.cells.toList=some x->V (gw W) [] (pn fno x.1) v/\aG 0 (pn fno x.1)=true):
 ∃ks us,aK 0 (AV.cells (.du ks us))=true/\(∃vs,VL (gw W) [] (AV.cells (.du ks us)) vs/\∀j(hj:j<vs.length),W.cell? ⟨g,j,none⟩=some vs[j])/\∃z:List (AV×AV),ks.zip us=z/\∀y,y∈z↔y∈(DataW.funcsOutEntries en).map fun d=>(jQ d.1,pn fno d.2):=by
 obtain⟨g',t',cs,fuel,p,h2,h3,h4,h5⟩:=hl.funcs hm;obtain rfl:=Option.some.inj (hg.symm.trans h2);obtain rfl:=Option.some.inj (ht.symm.trans h3);rw[DataW.funcsOut]at h5;generalize hD:DataW.funcsOutEntries en=D at*;obtain⟨n,b,es,ck,entries,hcs,hb,hF,rfl⟩:=Po hu h5;have hF2:=RE hF;refine⟨entries.map fun y=>jQ y.1.1,entries.map fun y=>pn fno y.1.2,?_,⟨[.map (some b)],?_,?_⟩,_,rfl,?_⟩
 ·have a:=qK (g:=gw W) (h:=[]) (f:=fun y=>jQ y.1.1) (e:=fun x:MapEntry=>x.key) hF (fun x y hxy=>hK _ _ hxy.1);have c:=qK (g:=gw W) (h:=[]) (f:=fun y=>pn fno y.1.2) (e:=fun x:MapEntry=>x.val) hF2 (fun x y hxy=>hV n _ (y.1.2,y.2) ⟨y.1,(tp _ _).2 (sU hxy.2),rfl⟩ hxy.1.2.1 hxy.1.2.2);simp only[AV.cells,aK,aG,a.2,c.2,nU]
 ·have a:=qK (g:=gw W) (h:=[]) (f:=fun y=>jQ y.1.1) (e:=fun x:MapEntry=>x.key) hF (fun x y hxy=>hK _ _ hxy.1);have c:=qK (g:=gw W) (h:=[]) (f:=fun y=>pn fno y.1.2) (e:=fun x:MapEntry=>x.val) hF2 (fun x y hxy=>hV n _ (y.1.2,y.2) ⟨y.1,(tp _ _).2 (sU hxy.2),rfl⟩ hxy.1.2.1 hxy.1.2.2);simp only[AV.cells,VL,V];refine⟨_,[],rfl,⟨b,es,ck,rfl,by simp only[gw,hb],a.1,c.1⟩,rfl⟩
 ·intro j hj
  obtain rfl:j=0:=by simp at hj;omega
  rw[World.var?_cell hg h4 0,xe.symm,hcs];rfl
 ·intro y;rw[List.zip_map',cd,cd];constructor
  ·rintro⟨x,hx,rfl⟩
   exact⟨x.1,(tp _ _).2 (sU hx),rfl⟩
  ·rintro⟨d,hd,rfl⟩
   obtain⟨x,hx,rfl⟩:=cd.1 ((tp _ _).1 hd);exact⟨x,hx,rfl⟩
end Go.AM
