/- The abstract machine: rows of slices whose slices turn no more; literals that are rows of their own. -/
import Derived.Test.YtchjijfjidlpjaaGreatDoorAMc
import Derived.ProofKit
import Derived.OpenShut
import Derived.JoinedCond
import Derived.ChangeStays
import Derived.ChangeBears
import Derived.ChangeCalls
import Derived.Below
import Derived.MakeChecks
import Derived.LaidMore
import Derived.StringKeys
import Derived.ChangeKeys
import Derived.LaidHandle
import Derived.LaidSub
set_option linter.unusedSimpArgs false
set_option linter.unusedVariables false
namespace Go.AM
open Go.RowKit
theorem Nn{j:Nat}:∀(is:List Nat)(h:List Ob),j∉is->(share is h)[j]? =h[j]?
 |[],_,_=>rfl
 |i::is,h,hj=>by
  simp only[bo,not_or]at hj;simp only[share]
  have hne:¬i=j:=fun e=>hj.1 e.symm
  rw[Nn is _ hj.2,zY];simp[hne]
section
variable{P:Program}{Γ:Nat->Option AV}{N:Env}{g:G}{h:List Ob}{w:World}
theorem Of{a a':AV}(hv:view h a=some a')(ho:a.one=true):a'.one=true:=by
 cases a with
 |agg _|aE _|undef|own _ _ _=>simp[AV.one]at ho
 |list f k es=>simp only[view,aj]at hv;subst hv;rfl
 |sl i o n=>simp only[view,bY]at hv;obtain⟨p,_,rfl⟩:=hv;rfl
 |ptr _ _|mp _|it _|c8 _|cX _ _ _ _=>simp[view]at hv
 |dH _ _=>simp only[view]at hv;split at hv<;>simp at hv;subst hv;rfl
 |fn f x y=>simp only[view]at hv;split at hv<;>simp at hv;subst hv;rfl
 |bK t x=>simp only[view,bY]at hv;obtain⟨y,_,rfl⟩:=hv;rfl
 |_=>simp only[view,aj]at hv;subst hv;rfl
theorem E8:∀{as as':List AV},bV h as=some as'->as'.length=as.length/\(b9 as=true->b9 as'=true)
 |[],as',hv=>by simp only[bV,aj]at hv;subst hv;exact⟨rfl,id⟩
 |a::as,as',hv=>by
  simp only[bV]at hv
  split at hv
  ·rename_i a1 as1 h1 h2;simp only[aj]at hv;subst hv;obtain⟨h3,h4⟩:=E8 h2;refine⟨by simp[h3],fun ho=>?_⟩;simp only[b9,ay]at ho⊢;exact⟨Of h1 ho.1,h4 ho.2⟩
  ·cases hv
theorem X4{a a':AV}(hv:view h a=some a')(ho:b9 a.cells=true):a'.cells.length=a.cells.length/\b9 a'.cells=true:=by
 by_cases ha:∃cs,a=.agg cs
 ·obtain⟨cs,rfl⟩:=ha;simp only[view,bY]at hv;obtain⟨cs',h1,rfl⟩:=hv;obtain⟨h2,h3⟩:=E8 h1;exact⟨h2,h3 ho⟩
 ·have hc:a.cells=[a]:=by cases a<;>first|rfl|exact absurd ⟨_,rfl⟩ ha
  rw[hc]at ho;simp only[b9,po]at ho;have h1:=Of hv ho
  have hc':a'.cells=[a']:=by cases a'<;>first|rfl|simp[AV.one]at h1
  rw[hc,hc'];exact⟨rfl,by simp[b9,h1]⟩
theorem aao{n:Nat}{a:AV}(h:aK n a=true):aL n a.cells=true:=by
 cases a<;>simp_all [AV.cells,aK,aL]
theorem OI(H:Inv P Γ N g h w){g':G}{h':List Ob}(x:Ext h.length g h g' h'):∀{as as':List AV}{us:List Value},(∀i∈bO as,qG g' h w g i)->VE g h as us->bV h as=some as'->VE g' h' as' us
 |[],as',us,_,hv,ha=>by
  simp only[bV,aj]at ha;subst ha;simpa only [VE]using hv
 |a::as,as',us,hc,hv,ha=>by
  simp only[bV]at ha
  split at ha
  ·rename_i a1 as1 h1 h2;simp only[aj]at ha;subst ha;simp only[VE]at hv⊢;obtain⟨u,us',h3,rfl,h4⟩:=hv;simp only[bO,aN]at hc;exact⟨u,us',sF H x (fun i hi=>hc i (Or.inl hi)) h3 h1,rfl,OI H x (fun i hi=>hc i (Or.inr hi)) h4 h2⟩
  ·cases ha
theorem QA(H:Inv P Γ N g h w){k:Nat}:∀{as as':List AV}{us:List Value},dZ k as->VE g h as us->bV h as=some as'->cr as' k=true
 |[],as',us,_,_,ha=>by simp only[bV,aj]at ha;subst ha;rfl
 |a::as,as',us,hK,hv,ha=>by
  simp only[bV]at ha
  split at ha
  ·rename_i a1 as1 h1 h2;simp only[aj]at ha;subst ha;simp only[VE]at hv;obtain⟨u,us',h3,rfl,h4⟩:=hv;obtain⟨hk1,hk2⟩:=hK a (by simp);obtain⟨h5,h6⟩:=X4 h1 hk2;simp only[cr,ay,aW];exact⟨⟨⟨by omega,h6⟩,aao (BB H h3 h1)⟩,QA H (fun e he=>hK e (dP _ he)) h4 h2⟩
  ·cases ha
theorem NN{es es':List AV}(h:es'.length=es.length)(gr:Option Nat)(off n:Nat):cE es' gr off n=cE es gr off n:=by
 unfold cE;rw[h]
theorem Inv.freeze(H:Inv P Γ N g h w){i k:Nat}{E:TypeId}{es es':List AV}{gr:Option Nat}{fl sh:Bool}(hi:h[i]? =some (.row k E es gr fl sh))(hg:gr.getD 0=0)
 (hv:bV h es=some es')(hn:(bO es).contains i=false):
 ∃g',Inv P Γ N g' ((share (bO es) h).set i (.row k E es' gr true sh)) w/\Ext h.length g h g' ((share (bO es) h).set i (.row k E es' gr true sh)):=by
 obtain⟨g1,hρ1,hMM1,hM1,H1,hE1,hC1⟩:=oC (bO es) H
 have hni:i∉bO es:=by simpa using hn
 have hi1:(share (bO es) h)[i]? =some (.row k E es gr fl sh):=by rw[Nn _ _ hni];exact hi
 have hlen:=(E8 hv).1;have hil1:=ba hi1;have hob:=H.ob i _ hi;simp only[OV]at hob;obtain⟨hk0,hK,hfl,hgl,hb⟩:=hob
 have hE2:Ext (share (bO es) h).length g1 (share (bO es) h) g1 ((share (bO es) h).set i (.row k E es' gr true sh)):=by
  have:=Ext.pS (E':=E) (es':=es') (gr':=gr) (fl':=true) (sh':=sh) (ρ':=g1.ρ i) hi1 (by omega) (fun off m hom hok=>⟨by rw[<-NN hlen];exact hok,hlen,fun _ x=>x⟩);rwa[cU]at this
 have hokall:es'=[]\/(∃us,VE g h es us):=by
  cases hρ:g.ρ i with
  |none=>
   rw[hρ]at hb;simp only at hb;subst hb;simp only[bV,aj]at hv;exact Or.inl hv.symm
  |some y=>
   obtain⟨b,sz,st⟩:=y;rw[hρ]at hb;obtain⟨_,c,Ty,fz,vs,_,_,_,hVE,_⟩:=hb;rw[hg]at hVE;exact Or.inr ⟨vs,by simpa using hVE⟩
 have hok':cr es' k=true:=by
  rcases hokall with rfl|⟨us,hus⟩
  ·rfl
  ·exact QA H hK hus hv
 refine⟨g1,?_,?_⟩
 ·have:=Inv.set (r:=g1.ρ i) (w':=w) (o':=.row k E es' gr true sh) H1 hil1 (by rw[cU];exact hE2) rfl rfl rfl (fun _ _ _=>rfl) (aO _)
   (fun b y hy=>⟨Or.inl ⟨y,hy⟩,(H1.own i b y hy).2⟩)
   (fun b y o v _ hv=>H1.mem b o v hv)
   (by
    intro b sz st o v hy hv';obtain⟨k2,E2,es2,gr2,fl2,h2,h3⟩:=H1.eE i b sz st o v hy hv';rw[hi1]at h2;simp only[aj,Ob.row.injEq]at h2;obtain⟨rfl,rfl,rfl,rfl,rfl,rfl⟩:=h2
    exact⟨_,_,_,_,_,rfl,by rw[hlen];exact h3⟩)
   (by
    rw[cU];simp only[OV];refine⟨hk0,kf hok',fun _=>hok',by rw[hlen];exact hgl,?_⟩;rw[hρ1]
    cases hρ:g.ρ i with
    |none=>
     rw[hρ]at hb;simp only at hb⊢;subst hb;simp only[bV,aj]at hv;exact hv.symm
    |some y=>
     obtain⟨b,sz,st⟩:=y;rw[hρ]at hb;simp only at hb⊢;obtain⟨q1,c,Ty,fz,vs,q2,q3,q4,hVE,q5⟩:=hb;refine⟨q1,c,Ty,fz,vs,q2,q3,q4,?_,q5⟩;rw[hg]at hVE⊢;simp only[fe]at hVE⊢;have h1:=OI H hE1 hC1 hVE hv
     exact fS hE2 (ku h1) h1)
  rwa[cU]at this
 ·have:=kP (bO es) h;rw[this]at hE2;exact hE1.trans hE2
theorem Inv.cN(H:Inv P Γ N g h w){i j k k0:Nat}(E:TypeId){cs:List AV}(hi:h[i]? =some (.cells cs))(hj:cs[j]? =some (.list true k0 []))(hk:0<k):
 ∃g',Inv P Γ N g' ((h++[Ob.row k E [] none true false]).set i (.cells (cs.set j (.sl h.length 0 0)))) w/\Ext h.length g h g' ((h++[Ob.row k E [] none true false]).set i (.cells (cs.set j (.sl h.length 0 0)))):=by
 have hE1:=Ext.push (g:=g) (h:=h) [Ob.row k E [] none true false] none
 have H1:Inv P Γ N (g.bD h.length none) (h++[Ob.row k E [] none true false]) w:=by
  refine Inv.push (r:=none) H rfl rfl rfl (fun _ _=>rfl) (aO _) (fun b x hb=>by cases hb) ?_ (fun j o hj=>by simp at hj);simp only[OV];rw[cV];exact⟨hk,by simp,fun _=>rfl,by simp,trivial⟩
 have hi1:(h++[Ob.row k E [] none true false])[i]? =some (.cells cs):=by rw[cz (ba hi)];exact hi
 have hE2:=Ext.E7 (g:=g.bD h.length none) (vs':=cs.set j (.sl h.length 0 0)) hi1;have hil1:=ba hi1
 have hni:h.length≠i:=by have:=ba hi;omega
 refine⟨g.bD h.length none,?_,?_⟩
 ·have:=Inv.set (r:=(g.bD h.length none).ρ i) (w':=w) (o':=.cells (cs.set j (.sl h.length 0 0))) H1 hil1 hE2 rfl rfl rfl (fun _ _ _=>rfl) (aO _)
   (fun b y hy=>⟨Or.inl ⟨y,hy⟩,(H1.own i b y hy).2⟩)
   (fun b y o v _ hv=>H1.mem b o v hv)
   (by
    intro b sz st o v hy hv';obtain⟨k2,E2,es2,gr2,fl2,h2,h3⟩:=H1.eE i b sz st o v hy hv';rw[hi1]at h2
    cases h2)
   (by
    rw[cU];simp only[OV];intro b sz st hb;have hob:=H1.ob i _ hi1;simp only[OV]at hob;obtain⟨c,Ty,fz,q1,q2,q3⟩:=hob b sz st hb;refine⟨c,Ty,fz,q1,q2,?_⟩;obtain⟨v,hv1,hv2⟩:=qX q3 hj;simp only[V]at hv2;obtain⟨_,a,cap,rfl,hcap,_,_⟩:=hv2
    have hcap0:cap=0:=by simpa using hcap trivial
    subst hcap0
    have hx:V (g.bD h.length none) ((h++[Ob.row k E [] none true false]).set i (.cells (cs.set j (.sl h.length 0 0)))) (.sl h.length 0 0) (.slice a ([]:List AV).length 0):=by
     simp only[V];refine⟨k,E,[],none,true,false,?_,by simp,a,0,rfl,by simp,by simp,fun _=>⟨by simp,Or.inl ⟨rfl,rfl⟩⟩⟩;rw[dK (Ne.symm hni)];simp
    have hE2':=hE2;rw[cU]at hE2';have hvl:=cv hE2' (di q3) q3;have h5:=pT j hvl hx
    have h6:c.toList.set j (.slice a ([]:List AV).length 0)=c.toList:=by
     apply iy;intro m
     by_cases hm:j=m
     ·subst hm;rw[eL (ba hv1),hv1]
     ·rw[dK hm]
    rwa[h6]at h5)
  rwa[cU]at this
 ·rw[cU]at hE2;exact hE1.trans (hE2.mono (by simp))
theorem L5{g:G}{h:List Ob}{r:Nat}(hr:∀a,V g h (.sl r 0 0) (.slice a 0 0)):∀{es:List AV}{vs:List Value}{j k0:Nat},VE g h es vs->es[j]? =some (.list true k0 [])->VE g h (es.set j (.sl r 0 0)) vs
 |[],_,_,_,_,hj=>by simp at hj
 |e::es,vs,0,k0,hv,hj=>by
  simp only[qL,aj]at hj;subst hj;simp only[VE]at hv;obtain⟨v,vs',h1,rfl,h2⟩:=hv;simp only[V]at h1;obtain⟨_,a,cap,rfl,hcap,_,_⟩:=h1
  have hcap0:cap=0:=by simpa using hcap trivial
  subst hcap0;simp only[vZ,VE];exact⟨_,vs',hr a,rfl,h2⟩
 |e::es,vs,j+1,k0,hv,hj=>by
  simp only[nC]at hj;simp only[VE]at hv;obtain⟨v,vs',h1,rfl,h2⟩:=hv;simp only[rM,VE];exact⟨v,vs',h1,rfl,L5 hr h2 hj⟩
theorem Inv.BZ(H:Inv P Γ N g h w){i j k k0:Nat}(E:TypeId){E0:TypeId}{es:List AV}{fl sh:Bool}(hi:h[i]? =some (.row 1 E0 es none fl sh))(hj:es[j]? =some (.list true k0 []))(hk:0<k):
 ∃g',Inv P Γ N g' ((h++[Ob.row k E [] none true false]).set i (.row 1 E0 (es.set j (.sl h.length 0 0)) none false sh)) w/\Ext h.length g h g' ((h++[Ob.row k E [] none true false]).set i (.row 1 E0 (es.set j (.sl h.length 0 0)) none false sh)):=by
 have hE1:=Ext.push (g:=g) (h:=h) [Ob.row k E [] none true false] none
 have H1:Inv P Γ N (g.bD h.length none) (h++[Ob.row k E [] none true false]) w:=by
  refine Inv.push (r:=none) H rfl rfl rfl (fun _ _=>rfl) (aO _) (fun b x hb=>by cases hb) ?_ (fun j o hj=>by simp at hj);simp only[OV];rw[cV];exact⟨hk,by simp,fun _=>rfl,by simp,trivial⟩
 have hi1:(h++[Ob.row k E [] none true false])[i]? =some (.row 1 E0 es none fl sh):=by rw[cz (ba hi)];exact hi
 have hlen:(es.set j (.sl h.length 0 0)).length=es.length:=by simp
 have hE2:Ext (h++[Ob.row k E [] none true false]).length (g.bD h.length none) (h++[Ob.row k E [] none true false]) (g.bD h.length none) ((h++[Ob.row k E [] none true false]).set i (.row 1 E0 (es.set j (.sl h.length 0 0)) none false sh)):=by
  have:=Ext.pS (E':=E0) (es':=es.set j (.sl h.length 0 0)) (gr':=none) (fl':=false) (sh':=sh) (ρ':=(g.bD h.length none).ρ i) hi1 (by omega) (fun off m hom hok=>⟨by rw[<-NN hlen];exact hok,hlen,fun _ x=>x⟩);rwa[cU]at this
 have hil1:=ba hi1
 have hni:h.length≠i:=by have:=ba hi;omega
 refine⟨g.bD h.length none,?_,hE1.trans (hE2.mono (by simp))⟩
 have:=Inv.set (r:=(g.bD h.length none).ρ i) (w':=w) (o':=.row 1 E0 (es.set j (.sl h.length 0 0)) none false sh) H1 hil1 (by rw[cU];exact hE2) rfl rfl rfl (fun _ _ _=>rfl) (aO _)
  (fun b y hy=>⟨Or.inl ⟨y,hy⟩,(H1.own i b y hy).2⟩)
  (fun b y o v _ hv=>H1.mem b o v hv)
  (by
   intro b sz st o v hy hv';obtain⟨k2,E2,es2,gr2,fl2,h2,h3⟩:=H1.eE i b sz st o v hy hv';rw[hi1]at h2;simp only[aj,Ob.row.injEq]at h2;obtain⟨rfl,rfl,rfl,rfl,rfl,rfl⟩:=h2
   exact⟨_,_,_,_,_,rfl,by rw[hlen];exact h3⟩)
  (by
   rw[cU];have hob:=H1.ob i _ hi1;simp only[OV]at hob⊢;obtain⟨_,hK,_,hgl,hb⟩:=hob;refine⟨by omega,?_,by simp,by simp,?_⟩
   ·intro e he
    rcases pq he with he|rfl
    ·exact hK e he
    ·exact⟨rfl,rfl⟩
   ·cases hρ:(g.bD h.length none).ρ i with
    |none=>
     rw[hρ]at hb;simp only at hb;subst hb;simp at hj
    |some y=>
     obtain⟨b,sz,st⟩:=y;rw[hρ]at hb;simp only at hb⊢;obtain⟨q1,c,Ty,fz,vs,q2,q3,q4,hVE,q5⟩:=hb;refine⟨q1,c,Ty,fz,vs,q2,q3,q4,?_,q5⟩;simp only[tE,fe]at hVE⊢
     have hx:∀a,V (g.bD h.length none) ((h++[Ob.row k E [] none true false]).set i (.row 1 E0 (es.set j (.sl h.length 0 0)) none false sh)) (.sl h.length 0 0) (.slice a ([]:List AV).length 0):=by
      intro a;simp only[V];refine⟨k,E,[],none,true,false,?_,by simp,a,0,rfl,by simp,by simp,fun _=>⟨by simp,Or.inl ⟨rfl,rfl⟩⟩⟩;rw[dK (Ne.symm hni)];simp
     exact L5 hx (fS hE2 (ku hVE) hVE) hj)
 rwa[cU]at this
def mf(h:List Ob)(a:AV):AV:=(view h a).getD a
theorem Qz(H:Inv P Γ N g h w){g':G}{h':List Ob}(x:Ext h.length g h g' h'){a:AV}{u:Value}(hc:∀i∈rowsOf a,qG g' h w g i)(hv:V g h a u):V g' h' (mf h a) u:=by
 unfold mf
 cases hw:view h a with
 |none=>exact fW x (k_ hv) hv
 |some a'=>exact sF H x hc hv hw
theorem KO{i:Nat}{cs:List AV}:∀(is:List Nat)(h:List Ob),h[i]? =some (.cells cs)->(share is h)[i]? =some (.cells cs)
 |[],h,hi=>hi
 |j::is,h,hi=>KO is _ (by
   rw[zY,hi]
   by_cases hj:j=i<;>simp[hj,fR])
theorem Inv.mM(H:Inv P Γ N g h w){i:Nat}(j:Nat){cs:List AV}(hi:h[i]? =some (.cells cs)):
 ∃g',Inv P Γ N g' ((share (rowsOf (cs.getD j .undef)) h).set i (.cells (cs.set j (mf h (cs.getD j .undef))))) w/\Ext h.length g h g' ((share (rowsOf (cs.getD j .undef)) h).set i (.cells (cs.set j (mf h (cs.getD j .undef))))):=by
 obtain⟨g1,hρ1,hMM1,hM1,H1,hE1,hC1⟩:=oC (rowsOf (cs.getD j .undef)) H;have hi1:=KO (rowsOf (cs.getD j .undef)) h hi;have hE2:=Ext.E7 (g:=g1) (vs':=cs.set j (mf h (cs.getD j .undef))) hi1;have hil1:=ba hi1;refine⟨g1,?_,?_⟩
 ·have:=Inv.set (r:=g1.ρ i) (w':=w) (o':=.cells (cs.set j (mf h (cs.getD j .undef)))) H1 hil1 hE2 rfl rfl rfl (fun _ _ _=>rfl) (aO _)
   (fun b y hy=>⟨Or.inl ⟨y,hy⟩,(H1.own i b y hy).2⟩)
   (fun b y o v _ hv=>H1.mem b o v hv)
   (by
    intro b sz st o v hy hv';obtain⟨k2,E2,es2,gr2,fl2,h2,h3⟩:=H1.eE i b sz st o v hy hv';rw[hi1]at h2
    cases h2)
   (by
    rw[cU];simp only[OV];intro b sz st hb;have hob:=H.ob i _ hi;simp only[OV]at hob;rw[hρ1]at hb;obtain⟨c,Ty,fz,q1,q2,q3⟩:=hob b sz st hb;refine⟨c,Ty,fz,q1,q2,?_⟩;have hE2':=hE2;rw[cU,kP]at hE2';have hE3:=hE1.trans hE2';have hx:=Qz H hE3 hC1 (sM j q3);have h5:=pT j (cv hE3 (di q3) q3) hx
    have h6:c.toList.set j (c.toList.getD j undef)=c.toList:=by
     apply iy;intro m
     by_cases hm:j=m
     ·subst hm;rw[om]
      by_cases hl:j<c.toList.length
      ·rw[if_pos rfl,if_pos hl,bj,aM hl];rfl
      ·rw[if_pos rfl,if_neg hl,fu (by omega)]
     ·rw[dK hm]
    rwa[h6]at h5)
  rwa[cU]at this
 ·rw[cU,kP]at hE2;exact hE1.trans hE2
theorem acb{o:Oper}{k:Nat}{zs:List AV}{ps:List (Nat×AX)}(hc:bR P o=some (.lit k zs ps)):
 ∃ty n parts e z,o.op=.buildSlice ty n parts/\P.underlying ty=some (.slice e)/\bu P e=some k/\0<k/\dW P e=some z/\kE k z=true/\n*k<=2^24/\zs=List.replicate n z/\ps=parts.toList.map fun q=>(q.1,au q.2):=by
 cases ho:o.op with
 |buildSlice ty n parts=>
  simp only[bR,ho]at hc
  cases hE:lf P ty with
  |none=>simp[hE]at hc
  |some e=>
  cases hk:bu P e with
  |none=>simp[hE,hk]at hc
  |some k2=>
  cases hz:dW P e with
  |none=>simp[hE,hk,hz]at hc
  |some z=>
  simp only[hE,hk,hz,qN,j9]at hc
  split at hc
  ·cases hc
  ·rename_i hcond;simp only[aj,AO.lit.injEq]at hc;obtain⟨rfl,rfl,rfl⟩:=hc;simp only[not_or]at hcond;obtain⟨c1,c2,c3⟩:=hcond;refine⟨ty,n,parts,e,z,rfl,?_,hk,by omega,hz,by simpa using c3,by omega,rfl,rfl⟩;unfold lf at hE
   split at hE<;>simp_all
 |call c=>
  exfalso;simp only[bR,ho,mY]at hc
  (repeat' split at hc)<;>first|(cases hc;done)|(simp[pw]at hc;done)|(simp only[qN,pw,bY]at hc;obtain⟨_,_,h1⟩:=hc;revert h1;simp;done)|(simp only[qN,pw]at hc;obtain⟨_,_,_,_,_,_,_,_,h1⟩:=hc;revert h1;split<;>(try split)<;>simp;done)|skip
 |_=>exfalso;simp only[bR,ho]at hc;(repeat' split at hc)<;>first|contradiction|(cases hc;done)|(simp[pw]at hc;done)|skip
theorem ZR(H:Inv P Γ N g h w){r:Operand->Value}{t:List AV}{o:Oper}{ty e:TypeId}{n:Nat}{ps:Array (Nat×Operand)}(ho:o.op=.buildSlice ty n ps)(hu:P.underlying ty=some (.slice e)){k:Nat}(hk:bu P e=some k)(hk0:0<k)
 {z:AV}(hz:dW P e=some z)(hzo:kE k z=true)(hnk:n*k<=2^24)(he:∀x,V g h (ax t (au x)) (r x))
 {es:List AV}(hf:oY k (List.replicate n z) ((ps.toList.map fun q=>(q.1,au q.2)).map fun q=>(q.1,ax t q.2))=some es){fl:Bool}(hfl:fl=true->cr es k=true)(E:TypeId):
 aJ P Γ N r o w g h (h++[.row k E es none fl false]) (some (.sl h.length 0 es.length)):=by
 obtain⟨zv,hzr,rfl⟩:=ux hz;simp only[kE,ay,aW]at hzo;obtain⟨⟨hzk,hz1⟩,hzb⟩:=hzo;have hzk':=um hzk
 have hF:F2 (fun(p:Nat×AV) (q:Nat×Value)=>p.1=q.1/\V g h p.2 q.2) ((ps.toList.map fun q=>(q.1,au q.2)).map fun q=>(q.1,ax t q.2)) (ps.map fun q=>(q.1,r q.2)).toList:=by
  rw[Array.toList_map,jH];generalize ps.toList=l
  induction l with
  |nil=>exact .nil
  |cons q l ih=>exact .cons ⟨rfl,he q.2⟩ ih
 have hVE0:=tZ (nR g h zv) n;have hzl:=uk hzk' n
 let zs:Array Value:=(Array.range (n*k)).map fun i=>(if n*k=0 then#[]else zv.cells)[i%(if n*k=0 then#[]else zv.cells).size]!
 have hzs:zs.toList=(List.replicate n zv.cells.toList).flatten:=by
  simp only[zs]
  by_cases hnk0:n*k=0
  ·have:n=0:=by
    rcases JF.1 hnk0 with h1|h1
    ·exact h1
    ·omega
   simp[this]
  ·simp only[hnk0,cT,hzk'];exact hzl
 obtain⟨us,h1,h2,h3,h4⟩:=Ec (zs:=zs) hF hf (kf (tO hzk hz1 hzb n)) (by rw[hzs];exact hVE0)
 have hlen:es.length=n:=by rw[h4,pv]
 have husl:us.toList.length=n*k:=by rw[iC h3 h2,hlen]
 have hrun:(Instr.buildSlice ty n (ps.map fun q=>(q.1,r q.2))).run P w=.ok (.slice (some ⟨w.heap.size,0,none⟩) n n) (w.alloc (.cells (us.toList++[]).toArray e)):=by
  have hus:(us.toList++[]).toArray=us:=by simp
  rw[hus];simp only[Instr.buildSlice,Sem.run_bind,run_underlying hu,Result.andThen_ok,iV hk];rw[if_neg (by omega)]
  by_cases hnk0:n*k=0
  ·have hzs0:zs=(Array.range (n*k)).map fun i=>(#[]:Array Value)[i%(#[]:Array Value).size]! :=by simp only[zs,hnk0,cG]
   rw[hzs0]at h1;rw[if_pos hnk0];simp only[Sem.run_bind,Sem.run_pure,Result.andThen_ok];rw[h1];simp[newRow]
  ·have hzs0:zs=(Array.range (n*k)).map fun i=>zv.cells[i%zv.cells.size]! :=by simp only[zs,hnk0,cT]
   rw[hzs0]at h1;rw[if_neg hnk0];simp only[Sem.run_bind,hzr,Sem.run_pure,Result.andThen_ok];rw[h1];simp[newRow]
 refine aJ.make (w':=w) H rfl rfl rfl rfl (sz:=n*k) (by simp only[execOp,ho];rw[Sem.run_bind,hrun];rfl) ?_ (by simp) ?_
 ·exact BT (P:=P) hk0 h3 hfl (cV _ _ _) (lG w _) (by simpa using husl.symm) (uN _) (fS (Ext.push _ _) (ku h2) h2)
 ·have:=A5 (h:=h) (g':=g.bD h.length (some (w.heap.size,n*k,0))) (k:=k) (E:=E) (es:=es) (os:=[]) (fl:=fl) (sh:=false) (cV _ _ _) (cap:=n) (by omega) (aO _);rw[hlen]at this⊢;exact this
end
def fN(n:Nat)(τ:List Nat)(i:Nat):Nat:=if i<n then i else n+τ.idxOf (i-n)
def fa(n:Nat)(τ:List Nat)(i:Nat):Bool:=decide (i<n)||τ.contains (i-n)
mutual
def dJ(n:Nat)(τ:List Nat):AV->AV
 |.sl i off m=>.sl (fN n τ i) off m
 |.ptr i off=>.ptr (fN n τ i) off
 |.mp i=>.mp (fN n τ i)
 |.it i=>.it (fN n τ i)
 |.c8 i=>.c8 (fN n τ i)
 |.cX a k ix off=>.cX (dJ n τ a) k ix off
 |.agg cs=>.agg (cn n τ cs)
 |.aE cs=>.aE (cn n τ cs)
 |.fn f a b=>.fn f (cn n τ a) (cn n τ b)
 |.bK t v=>.bK t (dJ n τ v)
 |.dH ks vs=>.dH (cn n τ ks) (cn n τ vs)
 |.list f k es=>.list f k es
 |.own k E es=>.own k E es
 |.undef=>.undef
 |.bool b=>.bool b
 |.int k x=>.int k x
 |.str s=>.str s
 |.ik=>.ik
 |.cO=>.cO
 |.dE=>.dE
 |.eH=>.eH
 |.ei g off=>.ei g off
def cn(n:Nat)(τ:List Nat):List AV->List AV
 |[]=>[]
 |a::as=>dJ n τ a::cn n τ as
end
mutual
def e_(n:Nat)(τ:List Nat):AV->Bool
 |.sl i _ _|.ptr i _|.mp i|.it i|.c8 i=>fa n τ i
 |.cX a _ _ _=>e_ n τ a
 |.agg cs|.aE cs=>ea n τ cs
 |.fn _ a b=>ea n τ a&&ea n τ b
 |.bK _ v=>e_ n τ v
 |.dH ks vs=>ea n τ ks&&ea n τ vs
 |_=>true
def ea(n:Nat)(τ:List Nat):List AV->Bool
 |[]=>true
 |a::as=>e_ n τ a&&ea n τ as
end
def nA(n:Nat)(τ:List Nat):List (AV×AV)->List (AV×AV)
 |[]=>[]
 |(a,b)::r=>(dJ n τ a,dJ n τ b)::nA n τ r
def qE(n:Nat)(τ:List Nat):List (AV×AV)->Bool
 |[]=>true
 |(a,b)::r=>e_ n τ a&&e_ n τ b&&qE n τ r
def kH(n:Nat)(τ:List Nat):Ob->Ob
 |.cells cs=>.cells (cn n τ cs)
 |.row k E es g fl sh=>.row k E (if fl=true then es else cn n τ es) g fl sh
 |.map es fl=>.map (nA n τ es) fl
 |.loop st j fn t ps a b=>.loop st j fn (cn n τ t) ps a b
 |o=>o
def lz(n:Nat)(τ:List Nat):Ob->Bool
 |.cells cs=>ea n τ cs
 |.row _ _ es _ fl _=>fl||ea n τ es
 |.map es _=>qE n τ es
 |.loop _ _ _ t _ _ _=>ea n τ t
 |_=>true
def rD(n:Nat)(τ:List Nat):List Ob->Bool
 |[]=>true
 |o::os=>lz n τ o&&rD n τ os
def fM(n:Nat)(τ:List Nat):List Ob->Bool
 |[]=>true
 |.loop _ _ _ t _ _ _::os=>aL n t&&fM n τ os
 |o::os=>lz n τ o&&fM n τ os
def jj(n:Nat)(τ:List Nat):List Ob->List Ob
 |[]=>[]
 |o::os=>kH n τ o::jj n τ os
def mV(h:List Ob)(n:Nat):List Nat->List Ob
 |[]=>[]
 |j::js=>h.getD (n+j) .gone::mV h n js
def jh(n:Nat)(τ:List Nat)(h:List Ob):List Ob:=jj n τ (h.take n++mV h n τ)
mutual
theorem jm{n:Nat}{τ:List Nat}:∀{a:AV},aK n a=true->dJ n τ a=a
 |.undef,_|.bool _,_|.int _ _,_|.str _,_|.ik,_|.cO,_|.dE,_|.eH,_|.ei _ _,_|.list _ _ _,_|.own _ _ _,_=>rfl
 |.dH ks us,hb=>by simp only[aK,ay]at hb;simp only[dJ,lJ hb.1,lJ hb.2]
 |.sl i _ _,hb|.ptr i _,hb|.mp i,hb|.it i,hb|.c8 i,hb=>by simp only[aK,aW]at hb;simp only[dJ,fN,hb,cG]
 |.cX a _ _ _,hb=>by simp only[aK]at hb;simp only[dJ,jm hb]
 |.agg cs,hb|.aE cs,hb=>by simp only[aK]at hb;simp only[dJ,lJ hb]
 |.fn f a b,hb=>by simp only[aK,ay]at hb;simp only[dJ,lJ hb.1,lJ hb.2]
 |.bK t v,hb=>by simp only[aK]at hb;simp only[dJ,jm hb]
theorem lJ{n:Nat}{τ:List Nat}:∀{as:List AV},aL n as=true->cn n τ as=as
 |[],_=>rfl
 |a::as,hb=>by simp only[aL,ay]at hb;simp only[cn,jm hb.1,lJ hb.2]
end
theorem Gq{n:Nat}{τ:List Nat}:∀{es:List (AV×AV)},gE n es=true->nA n τ es=es
 |[],_=>rfl
 |(a,b)::es,hb=>by simp only[gE,ay]at hb;simp only[nA,jm hb.1.1,jm hb.1.2,Gq hb.2]
theorem O9{n:Nat}{τ:List Nat}{o:Ob}(hb:hY n o=true):kH n τ o=o:=by
 cases o with
 |cells cs=>simp only[hY]at hb;simp only[kH,lJ hb]
 |row k E es g fl sh=>
  simp only[hY,fv]at hb;simp only[kH]
  cases fl with
  |true=>rfl
  |false=>
   rcases hb with hb|hb
   ·cases hb
   ·simp[lJ hb]
 |map es fl=>simp only[hY]at hb;simp only[kH,Gq hb]
 |loop st j fn t ps a b=>simp only[hY]at hb;simp only[kH,lJ hb]
 |_=>rfl
theorem mE{n:Nat}{τ:List Nat}:∀{h:List Ob},cI n h=true->jj n τ h=h
 |[],_=>rfl
 |o::os,hb=>by simp only[cI,ay]at hb;simp only[jj,O9 hb.1,mE hb.2]
mutual
theorem jo{n:Nat}{τ:List Nat}:∀{a:AV},aK n a=true->e_ n τ a=true
 |.undef,_|.bool _,_|.int _ _,_|.str _,_|.ik,_|.cO,_|.dE,_|.eH,_|.ei _ _,_|.list _ _ _,_|.own _ _ _,_=>rfl
 |.dH _ _,hb=>by simp only[aK,ay]at hb;simp only[e_,mF hb.1,mF hb.2,oq]
 |.sl i _ _,hb|.ptr i _,hb|.mp i,hb|.it i,hb|.c8 i,hb=>by simp only[aK]at hb;simp only[e_,fa,hb,Bool.true_or]
 |.cX a _ _ _,hb=>by simp only[aK]at hb;simp only[e_,jo hb]
 |.agg cs,hb|.aE cs,hb=>by simp only[aK]at hb;simp only[e_,mF hb]
 |.fn f a b,hb=>by simp only[aK,ay]at hb;simp only[e_,mF hb.1,mF hb.2,oq]
 |.bK t v,hb=>by simp only[aK]at hb;simp only[e_,jo hb]
theorem mF{n:Nat}{τ:List Nat}:∀{as:List AV},aL n as=true->ea n τ as=true
 |[],_=>rfl
 |a::as,hb=>by simp only[aL,ay]at hb;simp only[ea,jo hb.1,mF hb.2,oq]
end
section
variable{P:Program}{Γ:Nat->Option AV}{N:Env}{g g':G}{h h':List Ob}{w:World}{n:Nat}{τ:List Nat}
theorem u_:∀(as:List AV),(cn n τ as).length=as.length
 |[]=>rfl
 |a::as=>by simp[cn,u_ as]
theorem OZ:∀(as:List AV)(i:Nat),(cn n τ as)[i]? =(as[i]?).map (dJ n τ)
 |[],i=>by simp[cn]
 |a::as,0=>by simp[cn]
 |a::as,i+1=>by simp[cn,OZ as i]
theorem Ny:∀(as:List AV)(i:Nat),(cn n τ as).drop i=cn n τ (as.drop i)
 |[],i=>by simp[cn]
 |a::as,0=>by simp
 |a::as,i+1=>by simp[cn,Ny as i]
theorem ZF(a:AV):(dJ n τ a).cells=cn n τ a.cells:=by
 cases a<;>simp[dJ,AV.cells,cn]
theorem acw(a:AV):(dJ n τ a).one=a.one:=by cases a<;>rfl
theorem OJ:∀(as:List AV),b9 (cn n τ as)=b9 as
 |[]=>rfl
 |a::as=>by simp[cn,b9,acw,OJ as]
theorem Pe:∀(es:List (AV×AV)),(nA n τ es).map (·.1)=cn n τ (es.map (·.1))
 |[]=>rfl
 |(a,b)::es=>by simp[nA,cn,Pe es]
theorem Gf:∀(es:List (AV×AV)),(nA n τ es).map (·.2)=cn n τ (es.map (·.2))
 |[]=>rfl
 |(a,b)::es=>by simp[nA,cn,Gf es]
theorem Oj:∀{es:List (AV×AV)},qE n τ es=true->ea n τ (es.map (·.1))=true/\ea n τ (es.map (·.2))=true
 |[],_=>⟨rfl,rfl⟩
 |(a,b)::es,hb=>by
  simp only[qE,ay]at hb;obtain⟨h1,h2⟩:=Oj hb.2;simp only[bL,ea,ay];exact⟨⟨hb.1.1,h1⟩,⟨hb.1.2,h2⟩⟩
theorem N5:∀{as:List AV}(i:Nat),ea n τ as=true->ea n τ (as.drop i)=true
 |[],_,_=>by simp[ea]
 |a::as,0,h=>by simpa using h
 |a::as,i+1,h=>by
  simp only[ea,ay]at h;simpa using N5 i h.2
structure Rn(n:Nat)(τ:List Nat)(g:G)(h:List Ob)(g':G)(h':List Ob):Prop where
 M:g'.M=g.M
 MM:g'.MM=g.MM
 get:∀i o,h[i]? =some o->fa n τ i=true->h'[fN n τ i]? =some (kH n τ o)
 vJ:∀i,i<h.length->fa n τ i=true->g'.ρ (fN n τ i)=g.ρ i
theorem Rn.zero(x:Rn n τ g h g' h'):Ext 0 g h g' h':=Ext.zero (fun _ _ _ y=>by rw[x.M];exact y) (fun _ _ y=>by rw[x.MM];exact y)
mutual
theorem CE(x:Rn n τ g h g' h'):∀{a:AV}{v:Value},e_ n τ a=true->V g h a v->V g' h' (dJ n τ a) v
 |.undef,_,_,_=>by simp[dJ,V]
 |.bool _,_,_,hv|.int _ _,_,_,hv|.str _,_,_,hv|.ik,_,_,hv|.cO,_,_,hv|.dE,_,_,hv|.eH,_,_,hv|.ei _ _,_,_,hv=>by simpa only [dJ,V]using hv
 |.own _ _ _,_,_,hv=>by simp only[V]at hv
 |.list full k es,v,_,hv=>by
  have h0:aK 0 (.list full k es)=true:=by
   simp only[V]at hv;simp only[aK];exact jl hv.1
  simp only[dJ];exact fW x.zero h0 hv
 |.dH ks us,v,hb,hv=>by
  simp only[e_,ay]at hb;simp only[dJ,V]at hv⊢;obtain⟨b,es,ck,h1,h2,h3,h4⟩:=hv;exact⟨b,es,ck,h1,by rw[x.MM];exact h2,mR x hb.1 h3,mR x hb.2 h4⟩
 |.sl j off m,v,hb,hv=>by
  simp only[e_]at hb;simp only[dJ,V]at hv⊢;obtain⟨k',E',es',gr',fl',sh',h1,h2,a,cap,h3,h4,h5,h6⟩:=hv
  have hlen:(if fl'=true then es' else cn n τ es').length=es'.length:=by split<;>simp[u_]
  refine⟨k',E',_,gr',fl',sh',x.get _ _ h1 hb,by rw[hlen];exact h2,a,cap,h3,h4,h5,fun hok=>?_⟩;obtain⟨h7,h8⟩:=h6 (by unfold cE at hok⊢;rwa[hlen]at hok);rw[hlen];refine⟨h7,h8.imp id fun h9=>?_⟩;rw[x.vJ j (ba h1) hb];exact h9
 |.cX a _ _ _,v,hb,hv=>by
  simp only[e_]at hb;simp only[dJ,V]at hv⊢;obtain⟨u,b,o,h1,h2,⟨m,h4,h5⟩,rfl⟩:=hv;refine⟨u,b,o,CE x hb h1,h2,⟨m,?_,h5⟩,rfl⟩
  cases a<;>simp only[o_,dJ]at h4⊢<;>first|exact h4|cases h4
 |.ptr j off,v,hb,hv=>by
  simp only[e_]at hb;simp only[dJ,V]at hv⊢;obtain⟨⟨vs,hj⟩,h2⟩:=hv;exact⟨⟨_,x.get _ _ hj hb⟩,by rw[x.vJ j (ba hj) hb];exact h2⟩
 |.mp j,v,hb,hv=>by
  simp only[e_]at hb;simp only[dJ,V]at hv⊢;obtain⟨⟨es,fl,hj⟩,h2⟩:=hv;exact⟨⟨_,_,x.get _ _ hj hb⟩,by rw[x.vJ j (ba hj) hb];exact h2⟩
 |.it j,v,hb,hv=>by
  simp only[e_]at hb;simp only[dJ,V]at hv⊢;obtain⟨⟨es,fl,hj⟩,h2⟩:=hv;exact⟨⟨_,_,x.get _ _ hj hb⟩,by rw[x.vJ j (ba hj) hb];exact h2⟩
 |.c8 j,v,hb,hv=>by
  simp only[e_]at hb;simp only[dJ,V]at hv⊢;obtain⟨⟨x1,x2,x3,x4,x5,x6,x7,hj⟩,h2⟩:=hv;exact⟨⟨_,_,_,_,_,_,_,x.get _ _ hj hb⟩,by rw[x.vJ j (ba hj) hb];exact h2⟩
 |.agg cs,v,hb,hv=>by
  simp only[e_]at hb;simp only[dJ,V]at hv⊢;obtain⟨vs,rfl,h1⟩:=hv;exact⟨vs,rfl,mR x hb h1⟩
 |.aE cs,v,hb,hv=>by
  simp only[e_]at hb;simp only[dJ,V]at hv⊢;obtain⟨vs,rfl,h1⟩:=hv;exact⟨vs,rfl,mR x hb h1⟩
 |.fn f a b,v,hb,hv=>by
  simp only[e_,ay]at hb;simp only[dJ,V]at hv⊢;obtain⟨xs,ys,rfl,h1,h2⟩:=hv;exact⟨xs,ys,rfl,mR x hb.1 h1,mR x hb.2 h2⟩
 |.bK t a,v,hb,hv=>by
  simp only[e_]at hb;simp only[dJ,V]at hv⊢;obtain⟨y,rfl,h1⟩:=hv;exact⟨y,rfl,CE x hb h1⟩
theorem mR(x:Rn n τ g h g' h'):∀{as:List AV}{vs:List Value},ea n τ as=true->VL g h as vs->VL g' h' (cn n τ as) vs
 |[],_,_,hv=>by simpa only [cn,VL]using hv
 |a::as,_,hb,hv=>by
  simp only[cn,VL]at hv⊢;simp only[ea,ay]at hb;obtain⟨v,vs',rfl,h1,h2⟩:=hv;exact⟨v,vs',rfl,CE x hb.1 h1,mR x hb.2 h2⟩
end
theorem Qx(x:Rn n τ g h g' h'):∀{as:List AV}{vs:List Value},ea n τ as=true->VE g h as vs->VE g' h' (cn n τ as) vs
 |[],_,_,hv=>by simpa only [cn,VE]using hv
 |a::as,_,hb,hv=>by
  simp only[cn,VE]at hv⊢;simp only[ea,ay]at hb;obtain⟨v,vs',h1,rfl,h2⟩:=hv;exact⟨v,vs',CE x hb.1 h1,rfl,Qx x hb.2 h2⟩
theorem Qp(x:Rn n τ g h g' h'){i j:Nat}{o:Ob}(hρ:g'.ρ j=g.ρ i)(hb:lz n τ o=true)(ho:OV P g h w i o):OV P g' h' w j (kH n τ o):=by
 cases o with
 |gone=>trivial
 |cells vs=>
  intro b sz st hb';rw[hρ]at hb';obtain⟨c,E,fz,h1,h2,h3⟩:=ho b sz st hb';exact⟨c,E,fz,h1,h2,mR x (by simpa only [lz]using hb) h3⟩
 |row k E es gr fl sh=>
  simp only[OV,kH]at ho⊢;obtain⟨h1,h2,h3,h4,h5⟩:=ho
  cases fl with
  |true=>
   simp only[cG];refine⟨h1,h2,fun _=>h3 rfl,h4,?_⟩;rw[hρ]
   cases hr:g.ρ i with
   |none=>rw[hr]at h5;exact h5
   |some y=>
    obtain⟨b,sz,st⟩:=y;rw[hr]at h5;simp only at h5⊢;obtain⟨h6,c,E',fz,vs,h7,h8,h9,h10,h11⟩:=h5;exact⟨h6,c,E',fz,vs,h7,h8,h9,fS x.zero (Bg _ (jl (h3 rfl))) h10,h11⟩
  |false=>
   simp only[lz,oo]at hb;simp only[ez,cT];refine⟨h1,?_,fun hf=>(by cases hf),by rw[u_];exact h4,?_⟩
   ·intro e he;obtain⟨q,hq⟩:=wi.1 he;rw[OZ,bY]at hq;obtain⟨a,ha,rfl⟩:=hq;have:=h2 a (iw ha);rw[ZF,u_,OJ];exact this
   ·rw[hρ]
    cases hr:g.ρ i with
    |none=>
     rw[hr]at h5;simp only at h5⊢;subst h5;rfl
    |some y=>
     obtain⟨b,sz,st⟩:=y;rw[hr]at h5;simp only at h5⊢;obtain⟨h6,c,E',fz,vs,h7,h8,h9,h10,h11⟩:=h5;exact⟨h6,c,E',fz,vs,h7,h8,h9,by rw[Ny];exact Qx x (N5 _ hb) h10,h11⟩
 |map es fl=>
  simp only[lz]at hb;obtain⟨q1,q2⟩:=Oj hb;obtain⟨h1,h3⟩:=ho;refine⟨fun hf=>?_,fun b sz st hb'=>?_⟩
  ·rw[Gf,lJ (qU (zS n) (h1 hf))];exact h1 hf
  ·rw[hρ]at hb';obtain⟨bd,ck,h4,h5,h6⟩:=h3 b sz st hb';exact⟨bd,ck,h4,by rw[Pe];exact mR x q1 h5,by rw[Gf];exact mR x q2 h6⟩
 |iL s p=>
  intro b sz st hb';rw[hρ]at hb';exact ho b sz st hb'
 |loop st q fn t ps a b=>
  intro bk sz sta hb';rw[hρ]at hb';obtain⟨L,h1,h2,h3,h4,h5,h6⟩:=ho bk sz sta hb';exact⟨L,h1,h2,h3,h4,mR x (by simpa only [lz]using hb) h5,h6⟩
 |bH live=>
  intro b sz st hb';rw[hρ]at hb';exact ho b sz st hb'
theorem Gu:∀{h:List Ob}{i:Nat},(jj n τ h)[i]? =(h[i]?).map (kH n τ)
 |[],i=>by simp[jj]
 |o::os,0=>by simp[jj]
 |o::os,i+1=>by simp[jj,Gu (h:=os)]
theorem Fj:∀{τ:List Nat}{i:Nat},(mV h n τ)[i]? =(τ[i]?).map fun j=>h.getD (n+j) .gone
 |[],i=>by simp[mV]
 |j::js,0=>by simp[mV]
 |j::js,i+1=>by simp[mV,Fj (τ:=js)]
theorem GA:∀{h:List Ob},(jj n τ h).length=h.length
 |[]=>rfl
 |o::os=>by simp[jj,GA (h:=os)]
theorem E_:∀{τ:List Nat},(mV h n τ).length=τ.length
 |[]=>rfl
 |j::js=>by simp[mV,E_ (τ:=js)]
theorem Pq:∀{h:List Ob}{i:Nat}{o:Ob},rD n τ h=true->h[i]? =some o->lz n τ o=true
 |[],_,_,_,hi=>by simp at hi
 |a::h,0,o,hb,hi=>by
  simp only[rD,ay]at hb
  simp at hi;subst hi;exact hb.1
 |a::h,i+1,o,hb,hi=>by
  simp only[rD,ay]at hb;exact Pq hb.2 (by simpa using hi)
theorem Gj:∀{h:List Ob}{i:Nat}{o:Ob},fM n τ h=true->h[i]? =some o->lz n τ o=true/\∀st j fn t ps a b,o=.loop st j fn t ps a b->aL n t=true
 |[],_,_,_,hi=>by simp at hi
 |a::h,0,o,hb,hi=>by
  simp at hi;subst hi
  cases a<;>simp only[fM,ay]at hb<;>first
   |exact⟨hb.1,fun _ _ _ _ _ _ _ e=>by cases e⟩
   |exact⟨by simp only[lz];exact mF hb.1,fun _ _ _ _ _ _ _ e=>by cases e;exact hb.1⟩
 |a::h,i+1,o,hb,hi=>by
  have h2:fM n τ h=true:=by
   cases a<;>simp only[fM,ay]at hb<;>exact hb.2
  exact Gj h2 (by simpa using hi)
theorem Inv.gc(H:Inv P Γ N g h w)(hn:n<=h.length)(hτ:∀j∈τ,n+j<h.length)(hnd:τ.Nodup)(hp:fM n τ (h.take n)=true)(hq:rD n τ (mV h n τ)=true):
 ∃g',Inv P Γ N g' (jh n τ h) w/\Ext n g h g' (jh n τ h)/\Rn n τ g h g' (jh n τ h):=by
 let lr:Nat->Option Nat:=fun j=>if j<n then some j else(τ[j-n]?).map (n+·)
 let g':G:={g with ρ:=fun j=>(lr j).bind g.ρ}
 have hold:∀{j i},lr j=some i->i<h.length/\fa n τ i=true/\fN n τ i=j:=by
  intro j i hj;simp only[lr]at hj
  split at hj
  ·rename_i hjn
   cases hj
   exact⟨by omega,by simp[fa,hjn],by simp[fN,hjn]⟩
  ·rename_i hjn;rw[bY]at hj;obtain⟨x,hx,rfl⟩:=hj;have hm:=iw hx;refine⟨hτ x hm,by simp[fa,hm],?_⟩;unfold fN;rw[if_neg (by omega),qO];have hlt:=ba hx
   have hxe:τ[j-n]=x:=by rw[aM hlt]at hx;simpa using hx
   have:τ.idxOf x=j-n:=by rw[<-hxe];exact hnd.idxOf_getElem _ hlt
   omega
 have hnew:∀{i},fa n τ i=true->lr (fN n τ i)=some i:=by
  intro i hi;simp only[lr,fN]
  by_cases hin:i<n
  ·simp[hin]
  ·simp only[fa,hin,ot,oo,wh,aW]at hi;simp only[hin,cT];rw[if_neg (by omega),qO,aM (List.idxOf_lt_length_of_mem hi),List.getElem_idxOf]
   simp;omega
 have hget:∀i o,h[i]? =some o->fa n τ i=true->(jh n τ h)[fN n τ i]? =some (kH n τ o):=by
  intro i o hi hok;unfold jh;rw[Gu]
  by_cases hin:i<n
  ·have:fN n τ i=i:=by simp[fN,hin]
   rw[this,cz (by rw[eA];omega),mr hin,hi];rfl
  ·simp only[fa,hin,ot,oo,wh,aW]at hok
   have:fN n τ i=n+τ.idxOf (i-n):=by simp[fN,hin]
   rw[this,df (by rw[eA];omega),eA,qH hn,qO,Fj,
    aM (List.idxOf_lt_length_of_mem hok),List.getElem_idxOf]
   simp only[dO]
   rw[show n+(i-n)=i by omega,bj,hi];rfl
 have hx:Rn n τ g h g' (jh n τ h):=by
  refine⟨rfl,rfl,hget,fun i hi hok=>?_⟩;simp only[g']
  rw[hnew hok];rfl
 have hρn:∀i,i<n->g'.ρ i=g.ρ i:=by
  intro i hi;have:=hx.vJ i (by omega) (by simp[fa,hi]);rwa[show fN n τ i=i by simp[fN,hi]]at this
 have hgn:∀i o,i<n->h[i]? =some o->(jh n τ h)[i]? =some (kH n τ o):=by
  intro i o hi ho;have:=hget i o ho (by simp[fa,hi]);rwa[show fN n τ i=i by simp[fN,hi]]at this
 have hE:Ext n g h g' (jh n τ h):=by
  refine⟨fun _ _ _ y=>y,fun _ _ y=>y,fun i vs hi ho=>⟨⟨_,hgn i _ hi ho⟩,fun x hx=>by rw[hρn i hi];exact hx⟩,fun i es fl hi ho=>⟨⟨_,_,hgn i _ hi ho⟩,fun x hx=>by rw[hρn i hi];exact hx⟩,
   fun i s p hi ho=>⟨⟨_,_,hgn i _ hi ho⟩,fun x hx=>by rw[hρn i hi];exact hx⟩,fun i st j fn t ps a b hi ho=>⟨⟨st,j,?_⟩,fun x hx=>by rw[hρn i hi];exact hx⟩,
   fun i l hi ho=>⟨⟨_,hgn i _ hi ho⟩,fun x hx=>by rw[hρn i hi];exact hx⟩,fun i k E es gr fl sh hi ho=>?_⟩
  ·have h1:=hgn i _ hi ho;have h2:=(Gj hp (by rw[mr hi];exact ho)).2 _ _ _ _ _ _ _ rfl;simp only[kH,lJ h2]at h1;exact h1
  ·have hlen:(if fl=true then es else cn n τ es).length=es.length:=by split<;>simp[u_]
   refine⟨_,_,_,_,_,hgn i _ hi ho,by rw[hlen];exact aO _,fun off m hom hok=>⟨?_,hlen,fun x hx=>by rw[hρn i hi];exact hx⟩⟩;unfold cE at hok⊢;rwa[hlen]at hok
 have hsub:∀{j b x},g'.ρ j=some (b,x)->∃i,lr j=some i/\g.ρ i=some (b,x):=by
  intro j b x hj;simp only[g',pw]at hj;exact hj
 have hlen:(jh n τ h).length=n+τ.length:=by
  unfold jh;rw[GA,bq,E_,eA,qH hn]
 refine⟨g',⟨H.os,H.tape,H.output,H.fm,fun i b x hi=>?_,?_,?_,H.mem,?_,?_,?_,?_,H.mK,H.jE,H.lx⟩,hE,hx⟩
 ·obtain⟨j,_,h2⟩:=hsub hi;exact H.own j b x h2
 ·intro i j b x y hi hj;obtain⟨i',h1,h2⟩:=hsub hi;obtain⟨j',h3,h4⟩:=hsub hj;have:=H.inj i' j' b x y h2 h4;subst this;rw[<-(hold h1).2.2,<-(hold h3).2.2]
 ·intro i hi;simp only[g',lr]
  rw[if_neg (by omega),fu (by omega)];rfl
 ·intro b es ck hb;obtain⟨h1,h2⟩:=H.mm b es ck hb
  exact⟨h1,fun i x hi=>by
   obtain⟨j,_,h4⟩:=hsub hi
   exact h2 j x h4⟩
 ·intro i b sz st o v hi hv;obtain⟨j,h1,h2⟩:=hsub hi;obtain⟨q1,q2,q3⟩:=hold h1;obtain⟨k,E,es,gr,fl,h3,h4⟩:=H.eE j b sz st o v h2 hv;have h5:=hget j _ h3 q2;rw[q3]at h5;refine⟨k,E,_,gr,fl,h5,?_⟩
  have:(if fl=true then es else cn n τ es).length=es.length:=by split<;>simp[u_]
  rw[this];exact h4
 ·intro j o hj;have hjl:=ba hj;rw[hlen]at hjl;unfold jh at hj;rw[Gu,bY]at hj;obtain⟨o0,ho,rfl⟩:=hj
  by_cases hjn:j<n
  ·rw[cz (by rw[eA];omega)]at ho;have hok:=(Gj hp ho).1;rw[mr hjn]at ho;exact Qp hx (hρn j hjn) hok (H.ob j o0 ho)
  ·rw[df (by rw[eA];omega),eA,qH hn]at ho;have hok:=Pq hq ho;rw[Fj,bY]at ho;obtain⟨x,hxj,ho⟩:=ho;have hm:=iw hxj;have hlt:=hτ x hm
   have ho2:h[n+x]? =some o0:=by rw[bj,aM hlt]at ho;rw[aM hlt];simpa using ho
   have hold1:lr j=some (n+x):=by simp only[lr];rw[if_neg hjn,hxj];rfl
   have hr:g'.ρ j=g.ρ (n+x):=by simp only[g'];rw[hold1];rfl
   exact Qp hx hr hok (H.ob _ o0 ho2)
 ·intro m a hm;obtain⟨h1,vs,h2,h3⟩:=H.lh m a hm;exact⟨h1,vs,cv hx.zero h1 h2,h3⟩
end
def Cr(i m:Nat):Md->Bool
 |.cZ v _=>ji i m v
 |_=>true
def jd(i m:Nat)(f:Fr):Bool:=cW i m f.t&&o8 i m f.ds&&Cr i m f.md
def kY(as:List (List Nat))(done:List Nat)(i:Nat):Bool:=!done.contains i&&(as.getD i []).all fun j=>done.contains j
def fU(as:List (List Nat)):Nat->List Nat->List (List Nat)
 |0,_=>[[]]
 |n+1,done=>((List.range as.length).filter (kY as done)).flatMap fun i=>(fU as n (i::done)).map (i::·)
theorem OW{ops:Array Oper}(hed:oL ops=true):∀(fuel n:Nat)(listed:Array Bool)(done:List Nat),listed.size=ops.size->(∀i,i<ops.size->listed.getD i true=done.contains i)->left ops.size listed=fuel->
 Region.linearise.go .any ops fuel n listed []∈fU (nU ops) fuel done
 |0,n,listed,done,_,_,_=>by simp[Region.linearise.go,fU]
 |fuel+1,n,listed,done,hsz,hd,hl=>by
  have hed1:∀i(h:i<ops.size),∀e∈(ops[i]).after.toList,Region.binds .any e=true->e.on<i:=by
   intro i h e he hb;simp only[oL,dU]at hed;have h6:=hed (ops[i],i) (by rw[TH];simp[h]);rw[<-rS,dU]at h6;have h7:=h6 e he;rw[hb]at h7;simpa using h7
  have hal:(nU ops).length=ops.size:=by simp[nU]
  have hf:((List.range ops.size).filter fun i=>!listed.getD i true&&((ops[i]?).map (·.after.all fun e=>!Region.binds .any e||listed.getD e.on false)).getD false)=(List.range ops.size).filter (kY (nU ops) done):=by
   refine List.filter_congr fun i hi=>?_
   have hi:=dL.1 hi
   have hai:(nU ops).getD i []=(ops[i].after.toList.filter (Region.binds .any)).map (·.on):=by
    simp[nU,bj,hi]
   simp only[kY,hai,hd i hi,jL hi,dO,jJ];congr 1;rw[<-rS,iB,dU,dU];constructor
   ·intro h j hj;simp only[b_,du]at hj;obtain⟨e,⟨he,hb⟩,rfl⟩:=hj;have h1:=h e he;rw[hb]at h1;have hlt:=hed1 i hi e he hb;rw[u0 (by omega) false true,hd e.on (by omega)]at h1;simpa using h1
   ·intro h e he
    cases hb:Region.binds .any e with
    |false=>rfl
    |true=>
     have hlt:=hed1 i hi e he hb;have h1:=h e.on (b_.2 ⟨e,du.2 ⟨he,hb⟩,rfl⟩);rw[u0 (by omega) false true,hd e.on (by omega)];simpa using h1
  have hne:0<((List.range ops.size).filter fun i=>!listed.getD i true&&((ops[i]?).map (·.after.all fun e=>!Region.binds .any e||listed.getD e.on false)).getD false).length:=by
   have hex:∃i,i<ops.size/\listed.getD i true=false:=by
    unfold left at hl;obtain⟨i,hi⟩:=JI (l:=(List.range ops.size).filter fun i=>!listed.getD i true) (by omega);simp only[du,dL,iA]at hi;exact⟨i,hi⟩
   have hmin:∀m i,i<=m->i<ops.size->listed.getD i true=false->∃i,i<ops.size/\listed.getD i true=false/\∀j,j<i->listed.getD j true=true:=by
    intro m
    induction m with
    |zero=>intro i h1 h2 h3;exact⟨i,h2,h3,fun j hj=>by omega⟩
    |succ m ihm=>
     intro i h1 h2 h3
     by_cases h4:∃j,j<i/\listed.getD j true=false
     ·obtain⟨j,h5,h6⟩:=h4;exact ihm j (by omega) (by omega) h6
     ·refine⟨i,h2,h3,fun j hj=>?_⟩
      cases hq:listed.getD j true with
      |true=>rfl
      |false=>exact absurd ⟨j,hj,hq⟩ h4
   obtain⟨i0,h1,h2⟩:=hex;obtain⟨i,h3,h4,h5⟩:=hmin i0 i0 (aO _) h1 h2;refine DD (a:=i) ?_;simp only[du,dL,h4,wc,rR,jL h3,dO,jJ];refine⟨h3,?_⟩;rw[<-rS,dU];intro e he
   cases hb:Region.binds .any e with
   |false=>rfl
   |true=>
    have h7:=hed1 i h3 e he hb;simp only[qJ,oo];rw[u0 (by omega) false true];exact h5 _ h7
  simp only[Region.linearise.go,fU];rw[hf]at hne⊢;rw[hal];generalize hrs:(List.range ops.size).filter (kY (nU ops) done)=rs at hne⊢;have hlt:n%rs.length<rs.length:=Nat.mod_lt _ hne;rw[aM hlt];generalize hri:rs[n%rs.length]=i
  have him:i∈rs:=by rw[<-hri];exact bF hlt
  have him2:=him;rw[<-hrs]at him2;simp only[du,dL,kY,ay,iA]at him2;obtain⟨h1,h2,_⟩:=him2
  have h2':listed.getD i true=false:=by rw[hd i h1];exact h2
  simp only;rw[linearise_go_acc,TI,tB];refine nD.2 ⟨i,him,b_.2 ⟨_,OW hed fuel _ _ _ (by simpa using hsz) ?_ ?_,rfl⟩⟩
  ·intro j hj;simp only[gN,tF]
   by_cases hij:i=j
   ·subst hij;simp[hsz,h1]
   ·rw[if_neg hij];have:=hd j hj;rw[gN]at this;rw[this];simp[Ne.symm hij]
  ·have:=Fw h1 h2';omega
inductive Reach(P:Program)(Γ:Nat->Option AV):ar->ar->Prop
 |refl (c:ar):Reach P Γ c c
 |trans {a b c:ar}:Reach P Γ a b->Reach P Γ b c->Reach P Γ a c
 |step (c:ar):Reach P Γ c (fB P Γ c)
 |pure {f:FuncId} {args as:List AV} {r:AV} {up:List Fr} {h:List Ob}:bV h args=some as->aP P Γ f as r->Reach P Γ (.cl f args up h) (.back up (dB h.length r).1 (dV h args r))
 |Hr {f:FuncId} {args as:List AV} {v:AV} {up:List Fr} {h:List Ob}:bV h args=some as->lP P Γ f as v->Reach P Γ (.cl f args up h) (.die up v h)
 |jT {f:Fr} {up:List Fr} {h:List Ob} {o:AG} {os:List AG} {k:List It} {c:ar}:f.md=.run->f.its=.ops (o::os)::k->dM f.t o.guard=some true->az P Γ f.t h o.op=.either->
  (∀b,Reach P Γ (.fr {f with its:=.ops os::k,t:=aU f.t o.dst (.bool b)} up h) c)->Reach P Γ (.fr f up h) c
 |leave {f:FuncId} {args:List AV} {up:List Fr} {h h':List Ob} {v:AV}:Reach P Γ (.cl f args up h) (.back up v h')->aK h.length v=true->cI h.length (h'.take h.length)=true->Reach P Γ (.cl f args up h) (.back up v (h'.take h.length))
 |aek {f:FuncId} {args:List AV} {up:List Fr} {h h':List Ob} {v:AV}:Reach P Γ (.cl f args up h) (.die up v h')->aK h.length v=true->cI h.length (h'.take h.length)=true->Reach P Γ (.cl f args up h) (.die up v (h'.take h.length))
 |drop {f:Fr} {up:List Fr} {h:List Ob} (n:Nat):f.base<=n->lj n f=true->cI n (h.take n)=true->Reach P Γ (.fr f up h) (.fr f up (h.take n))
 |reset {f:Fr} {up:List Fr} {h:List Ob} {i k:Nat} {E:TypeId} {es:List AV} {fl sh:Bool}:f.base<=i->h[i]? =some (.row k E es (some 0) fl sh)->jd i es.length f=true->cH i es.length h=true->
  Reach P Γ (.fr f up h) (.fr f up (h.set i (.row k E es none fl sh)))
 |P9 {f:Fr} {up:List Fr} {h:List Ob} {i k:Nat} {E:TypeId} {es:List AV} {fl sh:Bool}:h[i]? =some (.row k E es (some 0) fl sh)->(f::up).all (jd i es.length)=true->cH i es.length h=true->
  Reach P Γ (.fr f up h) (.fr f up (h.set i (.row k E es none fl sh)))
 |freeze {f:Fr} {up:List Fr} {h:List Ob} {i k:Nat} {E:TypeId} {es es':List AV} {gr:Option Nat} {fl sh:Bool}:h[i]? =some (.row k E es gr fl sh)->gr.getD 0=0->bV h es=some es'->(bO es).contains i=false->
  Reach P Γ (.fr f up h) (.fr f up ((share (bO es) h).set i (.row k E es' gr true sh)))
 |PV {f:Fr} {up:List Fr} {h:List Ob} (l:List Nat):Reach P Γ (.fr f up h) (.fr f up (share l h))
 |tree {f:Fr} {up:List Fr} {h:List Ob} (i:Nat):Reach P Γ (.fr f up h) (.fr {f with t:=f.t.set i (mf h (f.t.getD i .undef))} up (share (rowsOf (f.t.getD i .undef)) h))
 |mM {f:Fr} {up:List Fr} {h:List Ob} {i:Nat} (j:Nat) {cs:List AV}:h[i]? =some (.cells cs)->Reach P Γ (.fr f up h) (.fr f up ((share (rowsOf (cs.getD j .undef)) h).set i (.cells (cs.set j (mf h (cs.getD j .undef))))))
 |oJ {f:Fr} {up:List Fr} {h:List Ob} {i j k k0:Nat} {cs:List AV} (E:TypeId):h[i]? =some (.cells cs)->cs[j]? =some (.list true k0 [])->0<k->
  Reach P Γ (.fr f up h) (.fr f up ((h++[Ob.row k E [] none true false]).set i (.cells (cs.set j (.sl h.length 0 0)))))
 |BZ {f:Fr} {up:List Fr} {h:List Ob} {i j k k0:Nat} {es:List AV} {E0:TypeId} {fl sh:Bool} (E:TypeId):h[i]? =some (.row 1 E0 es none fl sh)->es[j]? =some (.list true k0 [])->0<k->
  Reach P Γ (.fr f up h) (.fr f up ((h++[Ob.row k E [] none true false]).set i (.row 1 E0 (es.set j (.sl h.length 0 0)) none false sh)))
 |PA {f:Fr} {up:List Fr} {h:List Ob} {d:Option Nat} {gd:Option (Nat×Bool)} {k:Nat} {zs:List AV} {ps:List (Nat×AX)} {os:List AG} {k':List It} {es:List AV} (E:TypeId):f.md=.run->f.its=.ops (⟨d,gd,.lit k zs ps⟩::os)::k'->
  dM f.t gd=some true->oY k zs (ps.map fun p=>(p.1,ax f.t p.2))=some es->
  Reach P Γ (.fr f up h) (.fr {f with its:=.ops os::k',t:=aU f.t d (.sl h.length 0 es.length)} up (h++[.row k E es none (cr es k) false]))
 |mask {f:Fr} {up:List Fr} {h:List Ob} (m:List Bool):Reach P Γ (.fr f up h) (.fr {f with t:=dj m f.t} up h)
 |aX {f:Fr} {up:List Fr} {h h':List Ob} {l:List Bool} {ws:List Nat} {gs:List AG} {k:List It} {orc:List (AV×List Ob)} {t':List AV} {obls obls0:List gn} {hs:List (List Ob)}:f.md=.run->f.its=.code (.aX l ws gs)::k->
  ig P Γ orc gs f.t h=some (t',h',obls,hs)->(∀o∈obls,o∈obls0)->(∀o∈obls0,∀up,Reach P Γ (o.f.cfg o.args up o.h) (.back up o.v o.h'))->calm P Γ obls0 (h::hs) l ws orc gs f.t h->
  Reach P Γ (.fr f up h) (.fr {f with its:=k,t:=t'} up h')
 |Gm {f:Fr} {up:List Fr} {h h':List Ob} {l:List Bool} {ws:List Nat} {gs:List AG} {k:List It} {orc:List (AV×List Ob)} {t':List AV} {obls obls0:List gn} {hs:List (List Ob)} {D:ar} {i:Nat} {E:TypeId} {es:List AV} {gr:Option Nat} {fl sh:Bool} (dies:gn->Prop):f.md=.run->f.its=.code (.aX l ws gs)::k->
  ig P Γ orc gs f.t h=some (t',h',obls,hs)->(∀o∈obls,o∈obls0)->(∀o∈obls0,¬dies o->∀up,Reach P Γ (o.f.cfg o.args up o.h) (.back up o.v o.h'))->(∀o∈obls0,dies o->∀its t,vy gs f.t t->Reach P Γ (o.f.cfg o.args ({f with its:=its,t:=t}::up) o.h) D)->calm P Γ obls0 (h::hs) l ws orc gs f.t h->h'[i]? =some (.row 0 E es gr fl sh)->
  Reach P Γ (.fr f up h) D
 |pR {f:Fr} {up:List Fr} {h:List Ob} {i k k0:Nat} (E:TypeId):f.md=.run->f.t[i]? =some (.list true k0 [])->0<k->
  Reach P Γ (.fr f up h) (.fr {f with t:=f.t.set i (.sl h.length 0 0)} up (h++[Ob.row k E [] none true false]))
 |gc {f:Fr} {up:List Fr} {h:List Ob} (n:Nat) (τ:List Nat):f.md=.run->f.base<=n->n<=h.length->(∀j∈τ,n+j<h.length)->τ.Nodup->ea n τ f.t=true->kC n f.ds=true->gk n f.its=true->pd n f.kind=true->
  fM n τ (h.take n)=true->rD n τ (mV h n τ)=true->Reach P Γ (.fr f up h) (.fr {f with t:=cn n τ f.t} up (jh n τ h))
 |fG {f:Fr} {up:List Fr} {h:List Ob} {as:List (List Nat)} {gs:List AG} {k:List It} {c:ar}:f.md=.run->f.its=.code (.fG as gs)::k->
  (∀l∈fU as as.length [],Reach P Γ (.fr {f with its:=.ops (l.map fun i=>gs.getD i default)::k} up h) c)->Reach P Γ (.fr f up h) c
section
variable{P:Program}{Γ:Nat->Option AV}{N:Env}{g0:G}{f0:FuncId}{cs0:List Frame}
theorem B9{ops:Array Oper}:∀(fuel t:Nat)(listed:Array Bool)(i:Nat),i∈Region.linearise.go .any ops fuel t listed []->i<ops.size
 |0,t,listed,i,h=>by simp[Region.linearise.go]at h
 |fuel+1,t,listed,i,h=>by
  simp only[Region.linearise.go]at h
  split at h
  ·rename_i j hj;rw[linearise_go_acc]at h;simp only[List.reverse_cons,List.reverse_nil,kK,ep,bo]at h
   rcases h with rfl|h
   ·have:=iw hj;simp only[du,dL]at this;exact this.1
   ·exact B9 fuel _ _ i h
  ·simp at h
theorem Bz{ops:Array Oper}{gs:List AG}(h:ops.toList.mapM (oe P ops.toList)=some gs):∀{l:List Nat},(∀i∈l,i<ops.size)->Hj P ops (l.map fun i=>gs.getD i default) l
 |[],_=>.nil
 |i::l,hl=>by
  obtain⟨h1,h2⟩:=xL h
  have hi:i<gs.length:=by rw[h1];simpa using hl i (by simp)
  obtain⟨o,ho,hc⟩:=h2 i _ (aM hi);refine .cons ⟨o,by simpa using ho,?_⟩ (Bz h fun j hj=>hl j (dP _ hj));simp only[bj,aM hi];exact hc
def gm(P:Program)(Γ:Nat->Option AV)(N:Env)(g0:G)(f0:FuncId)(cs0:List Frame)(c c':ar):Prop:=
 ∀m,cS P Γ N g0 f0 cs0 c m->∃m',Steps P m m'/\cS P Γ N g0 f0 cs0 c' m'
theorem gm.trans{a b c:ar}(h1:gm P Γ N g0 f0 cs0 a b)(h2:gm P Γ N g0 f0 cs0 b c):gm P Γ N g0 f0 cs0 a c:=by
 intro m hm;obtain⟨m1,s1,h⟩:=h1 m hm;obtain⟨m2,s2,h⟩:=h2 m1 h;exact⟨m2,s1.trans s2,h⟩
theorem gm.step(c:ar):gm P Γ N g0 f0 cs0 c (fB P Γ c):=fun _ hm=>YH hm
theorem YG{g:G}{h:List Ob}{i k:Nat}{E:TypeId}{es:List AV}{fl sh:Bool}{f:Fr}{fr:Frame}(hi:h[i]? =some (.row k E es (some 0) fl sh))(hf:jd i es.length f=true)(S:lq P g h f fr):lq P g (h.set i (.row k E es none fl sh)) f fr:=by
 have hmr:=S.md;simp only[jd,ay]at hf
 have hkind:∀{j:Nat}{o:Ob},h[j]? =some o->(∀k E es gr fl sh,o≠Ob.row k E es gr fl sh)->(h.set i (.row k E es none fl sh))[j]? =some o:=by
  intro j o hj hne;rw[dK]
  ·exact hj
  ·rintro rfl
   rw[hi]at hj
   cases hj
   exact hne _ _ _ _ _ _ rfl
 have hLR:∀{l b},LR g h l b->LR g (h.set i (.row k E es none fl sh)) l b:=by
  rintro l b ⟨⟨a1,a2,a3,a4,a5,a6,a7,h1⟩,h2⟩
  exact⟨⟨a1,a2,a3,a4,a5,a6,a7,hkind h1 (by simp)⟩,h2⟩
 have hIR:∀{k1:List It}{k2:List Item},IR P g h k1 k2->IR P g (h.set i (.row k E es none fl sh)) k1 k2:=by
  intro k1
  induction k1 with
  |nil=>intro k2 hk;cases k2<;>simp only[IR]at hk⊢
  |cons a k1 ih=>
   intro k2 hk
   cases k2 with
   |nil=>cases a<;>simp only[IR]at hk
   |cons b k2=>
    cases a<;>cases b<;>simp only[IR]at hk⊢
    ·exact⟨hk.1,ih hk.2⟩
    ·exact⟨hk.1,ih hk.2⟩
    ·exact⟨hk.1,ih hk.2⟩
    ·exact⟨hk.1,ih hk.2⟩
    ·exact⟨hLR hk.1,ih hk.2⟩
    ·exact⟨hLR hk.1,ih hk.2⟩
    ·exact ih hk
 have hDR:∀{ds1:List dG}{ds2:List Deferred},o8 i es.length ds1=true->F2 (DR g h) ds1 ds2->F2 (DR g (h.set i (.row k E es none fl sh))) ds1 ds2:=by
  intro ds1 ds2 hv hd
  induction hd with
  |nil=>exact .nil
  |@cons a b as bs h1 _ ih=>
   cases a with
   |call c args=>
    simp only[o8,ay]at hv;obtain⟨cap,q1,q2⟩:=h1;exact .cons ⟨cap,q1,lH hi hv.1 q2⟩ (ih hv.2)
   |mark l=>
    simp only[o8]at hv;obtain⟨⟨q,q1⟩,q2⟩:=h1;exact .cons ⟨⟨q,hkind q1 (by simp)⟩,q2⟩ (ih hv)
 ·refine⟨?_,S.fn,hIR S.its,lH hi hf.1.1 S.t,hDR hf.1.2 S.ds,?_,S.is⟩
  ·have hv:=hf.2
   cases hm2:f.md with
   |run=>rw[hm2]at hmr;exact hmr
   |ret=>rw[hm2]at hmr;exact hmr
   |cZ v rc=>
    rw[hm2]at hmr hv;obtain⟨u,q1,q2⟩:=hmr;exact⟨u,q1,uU hi (by simpa only [Cr]using hv) q2⟩
  ·have hk:=S.kind
   cases hk2:f.kind with
   |norm=>rw[hk2]at hk;exact hk
   |bH=>rw[hk2]at hk;exact hk
   |round l=>
    rw[hk2]at hk;obtain⟨q1,b,q2,q3⟩:=hk;exact⟨q1,b,q2,hLR q3⟩
theorem NL{g:G}{h:List Ob}{i k:Nat}{E:TypeId}{es:List AV}{fl sh:Bool}{f0:FuncId}(hi:h[i]? =some (.row k E es (some 0) fl sh)):∀{n:Nat}{l:List Fr}{fs:List Frame},l.all (jd i es.length)=true->SR P g h f0 n l fs->SR P g (h.set i (.row k E es none fl sh)) f0 n l fs
 |_,[],_,_,h1=>h1
 |n,f::up,fs,hv,h1=>by
  obtain⟨fr,fs',h2,h3,h4,h5,h6,h7⟩:=h1;simp only[rP,ay]at hv;exact⟨fr,fs',h2,YG hi hv.1 h3,h4,h5,h6,NL hi hv.2 h7⟩
theorem Pm{Rl:ar->ar->Prop}(htr:∀a b c,Rl a b->Rl b c->Rl a c)(hst:∀c,Rl c (fB P Γ c)){f:Fr}{up:List Fr}{h h':List Ob}{l:List Bool}{ws:List Nat}{gs:List AG}{k:List It}{orc:List (AV×List Ob)}{t':List AV}{obls obls0:List gn}{hs:List (List Ob)}(hmd:f.md=.run)(hits:f.its=.code (.aX l ws gs)::k)
 (hr:ig P Γ orc gs f.t h=some (t',h',obls,hs))(hsub:∀o∈obls,o∈obls0)(hob:∀o∈obls0,∀its t,vy gs f.t t->Rl (o.f.cfg o.args ({f with its:=its,t:=t}::up) o.h) (.back ({f with its:=its,t:=t}::up) o.v o.h'))(hc:calm P Γ obls0 (h::hs) l ws orc gs f.t h){m:Machine}(hm:cS P Γ N g0 f0 cs0 (.fr f up h) m):
 ∃m1 c1,Steps P m m1/\cS P Γ N g0 f0 cs0 c1 m1/\Rl c1 (.fr {f with its:=k,t:=t'} up h'):=by
 obtain⟨g,w,tmps,todo,ds,kd,ro,md,fs,rfl,S,hmr⟩:=hm.inv;rw[hmd]at hmr;simp only[MR]at hmr;subst hmr;have hI:=S.its;rw[hits]at hI
 cases todo with
 |nil=>simp only[IR]at hI
 |cons im k'=>
 cases im<;>simp only[IR]at hI
 rename_i c;obtain⟨hC,hk⟩:=hI
 cases c<;>try (simp only[CR]at hC;done)
 rename_i id ops draw
 cases draw<;>simp only[CR]at hC
 obtain⟨hgs,hok,rfl,rfl⟩:=hC;simp only[yZ,ay]at hok;obtain⟨⟨hok1,hok2⟩,hok3⟩:=hok;obtain⟨T,H,v,hT0,hH0,hTn,hHn,hat,hk0⟩:=uM hr hsub hc
 have hlen:gs.length=ops.size:=by rw[(xL hgs).1];simp
 have R:qA P Γ ops gs obls0 h hs T H v:=⟨hlen,hok1,hok2,hH0,hat,hk0⟩
 have hsched:∀x,Region.schedule (P.follows .mixedOrders) ops x=Region.linearise.go .any ops ops.size x (Array.replicate ops.size false) []:=by
  intro x;unfold Region.schedule;rw[if_pos (by simpa using hok3)];rfl
 have hgetD:∀i d,(Array.replicate ops.size false).getD i d=if i<ops.size then false else d:=by
  intro i d;rw[gN,TJ]
  split<;>rfl
 have F:zA ops gs T H v (Array.replicate ops.size false) f.t h:=by
  refine⟨by simp,?_,by rw[hT0],?_,fun s _=>by rw[hT0],0,zS _,hH0.symm,fun _ _ h=>by omega,?_⟩
  ·intro i o ho hl;have:=ba (l:=ops.toList) (i:=i) (a:=o) (by simpa using ho);rw[hgetD,if_pos (by simpa using this)]at hl
   cases hl
  ·intro j x s hx hl;have:=ba hx;rw[hgetD,if_pos (by omega)]at hl
   cases hl
  ·intro j x _ hx _;have:=ba hx;rw[hgetD,if_pos (by omega)]
 have hleft:left ops.size (Array.replicate ops.size false)=ops.size:=by
  unfold left;rw[z6.2,pt];intro i hi;rw[hgetD,if_pos (by simpa using hi)];rfl
 have h1:=aaA (Rl:=Rl) R htr hst (by rw[hT0];exact hob) hmd (k:=k) ops.size (w.tape w.drawn (.order f.fn id)) _ f.t h F hleft;rw[hTn,hHn]at h1;have S':St P Γ N g0 f0 g h w.drew f up tmps (.code (.region id ops true)::k') ds kd ro fs:=⟨S.H.world rfl rfl rfl rfl,S.M,S.its,S.t,S.ds,S.kind,S.is,S.b,S.z,S.s⟩
 have h2:cS P Γ N g0 f0 cs0 (.fr {f with its:=.ops ((Region.linearise.go .any ops ops.size (w.tape w.drawn (.order f.fn id)) (Array.replicate ops.size false) []).map fun i=>gs.getD i default)::k,t:=f.t} up h)
  (lone (aF f.fn tmps (.inRegion ops (Region.schedule (P.follows .mixedOrders) ops (w.tape w.drawn (.order f.fn id)))::k') ds kd ro) (fs++cs0) w.drew):=by
  rw[hsched];exact S'.go hmd (its:=.ops _::k) ⟨Bz hgs fun i hi=>B9 _ _ _ i hi,hk⟩ S.t
 exact⟨_,_,Steps.one GI,h2,h1⟩
theorem gm.aX{f:Fr}{up:List Fr}{h h':List Ob}{l:List Bool}{ws:List Nat}{gs:List AG}{k:List It}{orc:List (AV×List Ob)}{t':List AV}{obls obls0:List gn}{hs:List (List Ob)}(hmd:f.md=.run)(hits:f.its=.code (.aX l ws gs)::k)
 (hr:ig P Γ orc gs f.t h=some (t',h',obls,hs))(hsub:∀o∈obls,o∈obls0)(hob:∀o∈obls0,∀up,gm P Γ N g0 f0 cs0 (o.f.cfg o.args up o.h) (.back up o.v o.h'))(hc:calm P Γ obls0 (h::hs) l ws orc gs f.t h):
 gm P Γ N g0 f0 cs0 (.fr f up h) (.fr {f with its:=k,t:=t'} up h'):=by
 intro m hm;obtain⟨m1,c1,s1,h1,h2⟩:=Pm (Rl:=gm P Γ N g0 f0 cs0) (fun _ _ _ a b=>a.trans b) gm.step hmd hits hr hsub (fun o ho _ _ _=>hob o ho _) hc hm;obtain⟨m',s',h3⟩:=h2 _ h1;exact⟨m',s1.trans s',h3⟩
theorem gm.Gm{f:Fr}{up:List Fr}{h h':List Ob}{l:List Bool}{ws:List Nat}{gs:List AG}{k:List It}{orc:List (AV×List Ob)}{t':List AV}{obls obls0:List gn}{hs:List (List Ob)}{D:ar}{i:Nat}{E:TypeId}{es:List AV}{gr:Option Nat}{fl sh:Bool}(hmd:f.md=.run)(hits:f.its=.code (.aX l ws gs)::k)
 (hr:ig P Γ orc gs f.t h=some (t',h',obls,hs))(hsub:∀o∈obls,o∈obls0)(hob:∀o∈obls0,(∀up,gm P Γ N g0 f0 cs0 (o.f.cfg o.args up o.h) (.back up o.v o.h'))\/∀its t,vy gs f.t t->gm P Γ N g0 f0 cs0 (o.f.cfg o.args ({f with its:=its,t:=t}::up) o.h) D)(hc:calm P Γ obls0 (h::hs) l ws orc gs f.t h)(hi:h'[i]? =some (.row 0 E es gr fl sh)):
 gm P Γ N g0 f0 cs0 (.fr f up h) D:=by
 intro m hm
 obtain⟨m1,c1,s1,h1,h2⟩:=Pm (Rl:=fun a b=>gm P Γ N g0 f0 cs0 a D\/gm P Γ N g0 f0 cs0 a b) (fun _ _ _ a b=>by
  rcases a with a|a
  ·exact .inl a
  ·rcases b with b|b
   ·exact .inl (a.trans b)
   ·exact .inr (a.trans b)) (fun c=>.inr (gm.step c)) hmd hits hr hsub (fun o ho its t hk=>by
  rcases hob o ho with h4|h4
  ·exact .inr (h4 _)
  ·exact .inl (h4 its t hk)) hc hm
 rcases h2 with h2|h2
 ·obtain⟨m',s',h3⟩:=h2 _ h1;exact⟨m',s1.trans s',h3⟩
 ·obtain⟨m',s',h3⟩:=h2 _ h1;obtain⟨g,w,fr,fs,_,H,_⟩:=h3;have:=H.ob i _ hi;simp only[OV]at this;omega
theorem EG{f:Fr}{up:List Fr}{h:List Ob}{as:List (List Nat)}{gs:List AG}{k:List It}(hmd:f.md=.run)(hits:f.its=.code (.fG as gs)::k){m:Machine}(hm:cS P Γ N g0 f0 cs0 (.fr f up h) m):
 ∃l∈fU as as.length [],∃m1,Steps P m m1/\cS P Γ N g0 f0 cs0 (.fr {f with its:=.ops (l.map fun i=>gs.getD i default)::k} up h) m1:=by
 obtain⟨g,w,tmps,todo,ds,kd,ro,md,fs,rfl,S,hmr⟩:=hm.inv;rw[hmd]at hmr;simp only[MR]at hmr;subst hmr;have hI:=S.its;rw[hits]at hI
 cases todo with
 |nil=>simp only[IR]at hI
 |cons im k'=>
 cases im<;>simp only[IR]at hI
 rename_i c;obtain⟨hC,hk⟩:=hI
 cases c<;>try (simp only[CR]at hC;done)
 rename_i id ops draw
 cases draw<;>simp only[CR]at hC
 obtain⟨hgs,hok2,hok3,rfl⟩:=hC
 have hsched:∀x,Region.schedule (P.follows .mixedOrders) ops x=Region.linearise.go .any ops ops.size x (Array.replicate ops.size false) []:=by
  intro x;unfold Region.schedule;rw[if_pos (by simpa using hok3)];rfl
 have hgetD:∀i d,(Array.replicate ops.size false).getD i d=if i<ops.size then false else d:=by
  intro i d;rw[gN,TJ]
  split<;>rfl
 have hleft:left ops.size (Array.replicate ops.size false)=ops.size:=by
  unfold left;rw[z6.2,pt];intro i hi;rw[hgetD,if_pos (by simpa using hi)];rfl
 have hmem:=OW hok2 ops.size (w.tape w.drawn (.order f.fn id)) (Array.replicate ops.size false) [] (by simp) (fun i hi=>by rw[hgetD,if_pos hi];rfl) hleft
 have hal:(nU ops).length=ops.size:=by simp[nU]
 have S':St P Γ N g0 f0 g h w.drew f up tmps (.code (.region id ops true)::k') ds kd ro fs:=⟨S.H.world rfl rfl rfl rfl,S.M,S.its,S.t,S.ds,S.kind,S.is,S.b,S.z,S.s⟩;refine⟨_,by rw[hal];exact hmem,_,Steps.one GI,?_⟩;rw[hsched];exact S'.go hmd (its:=.ops _::k) ⟨Bz hgs fun i hi=>B9 _ _ _ i hi,hk⟩ S.t
theorem Em{f:Fr}{up:List Fr}{h:List Ob}{o:AG}{os:List AG}{k:List It}(hmd:f.md=.run)(hits:f.its=.ops (o::os)::k)(hw:dM f.t o.guard=some true)(ha:az P Γ f.t h o.op=.either){m:Machine}(hm:cS P Γ N g0 f0 cs0 (.fr f up h) m):
 ∃b m1,Steps P m m1/\cS P Γ N g0 f0 cs0 (.fr {f with its:=.ops os::k,t:=aU f.t o.dst (.bool b)} up h) m1:=by
 obtain⟨g,w,tmps,todo,ds,kd,ro,md,fs,rfl,S,hmr⟩:=hm.inv;rw[hmd]at hmr;simp only[MR]at hmr;subst hmr;have hI:=S.its;rw[hits]at hI
 cases todo with
 |nil=>simp only[IR]at hI
 |cons im k'=>
 cases im<;>simp only[IR]at hI
 rename_i ops todo;obtain⟨hO,hk⟩:=hI
 cases hO with
 |cons h1 hO=>
 rename_i i rest;obtain⟨op,hop,hcag⟩:=h1;obtain⟨hw1,hcop,hdst⟩:=AA hcag S.t hw;have hs:fq P Γ N g h w (⟨tmps,ds⟩:Act).eval op (az P Γ f.t h o.op):=LN (a:=⟨tmps,ds⟩) S.H S.t hcop
 have hnd:=fun x y=>MQ (Γ:=Γ) (h:=h) (t:=f.t) hcop x y
 rw[ha]at hs hnd;obtain⟨b,g',w',nx,h2,h3,h4,u,rfl,h6⟩:=hs;have S1:=S.mono h3 h4 (aO _);have hs1:=St.go (cs0:=cs0) S1 hmd (its:=.ops os::k) (todo':=.inRegion ops rest::k') (t:=aU f.t o.dst (.bool b)) (tmps':=ma tmps o.dst u) ⟨hO,by have:=S1.its;rw[hits]at this;exact this.2⟩ (nV S1.t h6);rw[hdst]at hs1;have hst:=F9 (cs:=fs++cs0) (fn:=f.fn) (k:=k') (rest:=rest) (kd:=kd) (ro:=ro) hop hw1 (Or.inr (hnd (by simp) (by simp))) h2;rw[<-hdst]at hs1;exact⟨b,_,Steps.one hst,by rw[hdst]at hs1⊢;exact hs1⟩
theorem Qo{g1 g2:G}{h1 h2:List Ob}{n m:Nat}:∀{up:List Fr}{fs1 fs2:List Frame},SR P g1 h1 f0 n up fs1->SR P g2 h2 f0 m up fs2->SR P g2 h2 f0 n up fs2
 |[],_,_,_,b=>b
 |f::up,_,_,a,b=>by
  obtain⟨_,_,_,_,a4,a5,_,_⟩:=a;obtain⟨fr,fs',b2,b3,b4,b5,b6,b7⟩:=b;exact⟨fr,fs',b2,b3,a4,a5,b6,b7⟩
theorem AH{c c':ar}(hr:Reach P Γ c c'):gm P Γ N g0 f0 cs0 c c':=by
 induction hr with
 |refl c=>exact fun m hm=>⟨m,.refl _ _,hm⟩
 |trans _ _ h1 h2=>exact h1.trans h2
 |step c=>exact gm.step c
 |pure hv hp=>exact fun m hm=>XP hp hv hm
 |Hr hv hp=>exact fun m hm=>Zp hp hv hm
 |@jT f up h o os k c hmd hits hw ha _ ih=>
  intro m hm;obtain⟨b,m1,s1,h1⟩:=Em hmd hits hw ha hm;obtain⟨m',s',h7⟩:=ih b _ h1;exact⟨m',s1.trans s',h7⟩
 |@leave f args up h h' v _ hv hh ih=>
  intro m hm;obtain⟨m',s',h7⟩:=ih m hm
  by_cases hn:h'.length<=h.length
  ·rw[cJ hn];exact⟨m',s',h7⟩
  refine⟨m',s',?_⟩
  have hlen:(h'.take h.length).length=h.length:=by rw[eA];omega
  obtain⟨g0,w0,vs0,fs0,_,_,_,_,_,S0,_⟩:=hm
  cases up with
  |nil=>
   obtain⟨g,w,u,fr,e,H,M,hV,h8,h9⟩:=h7;obtain⟨H',x⟩:=H.drop hh;exact⟨_,w,u,fr,e,H',M,fW x hv hV,h8,h9⟩
  |cons c up=>
   obtain⟨g,w,u,fr,fs,e,H,M,hV,S⟩:=h7;obtain⟨H',x⟩:=H.drop hh;exact⟨_,w,u,fr,fs,e,H',M,fW x hv hV,by rw[hlen];exact gz x (aO _) (Qo S0 S)⟩
 |@aek f args up h h' v _ hv hh ih=>
  intro m hm;obtain⟨m',s',h7⟩:=ih m hm
  by_cases hn:h'.length<=h.length
  ·rw[cJ hn];exact⟨m',s',h7⟩
  refine⟨m',s',?_⟩
  have hlen:(h'.take h.length).length=h.length:=by rw[eA];omega
  obtain⟨g0,w0,vs0,fs0,_,_,_,_,_,S0,_⟩:=hm
  cases up with
  |nil=>
   obtain⟨g,w,u,fr,e,H,M,hV,h8,h9⟩:=h7;obtain⟨H',x⟩:=H.drop hh;exact⟨_,w,u,fr,e,H',M,fW x hv hV,h8,h9⟩
  |cons c up=>
   obtain⟨g,w,u,fr,fs,e,H,M,hV,S⟩:=h7;obtain⟨H',x⟩:=H.drop hh;exact⟨_,w,u,fr,fs,e,H',M,fW x hv hV,by rw[hlen];exact gz x (aO _) (Qo S0 S)⟩
 |@drop f up h n hb hf hh=>
  intro m hm;obtain⟨g,w,tmps,todo,ds,kd,ro,md,fs,rfl,S,hmr⟩:=hm.inv;obtain⟨H',x⟩:=S.H.drop hh;have hR:=A_ x hf (S.rel hmr);refine⟨_,.refl _ _,?_⟩
  by_cases hn:n<=h.length
  ·exact⟨_,w,_,fs,rfl,H',S.M,_,fs,rfl,hR,pN hR,by rw[eA,qH hn];exact hb,S.z,gz (x.mono hb) (aO _) S.s⟩
  ·exact⟨_,w,_,fs,rfl,H',S.M,_,fs,rfl,hR,pN hR,by rw[eA,Nat.min_eq_right (by omega)];exact S.b,S.z,gz (x.mono hb) (aO _) S.s⟩
 |@reset f up h i k E es fl sh hb hi hf hh=>
  intro m hm;obtain⟨g,w,tmps,todo,ds,kd,ro,md,fs,rfl,S,hmr⟩:=hm.inv;have H':=S.H.reset hi hh;have x:Ext f.base g h g (h.set i (.row k E es none fl sh)):=Ext.reset hb _;simp only[jd,ay]at hf
  have hkind:∀{j:Nat}{o:Ob},h[j]? =some o->(∀k E es gr fl sh,o≠Ob.row k E es gr fl sh)->(h.set i (.row k E es none fl sh))[j]? =some o:=by
   intro j o hj hne;rw[dK]
   ·exact hj
   ·rintro rfl
    rw[hi]at hj
    cases hj
    exact hne _ _ _ _ _ _ rfl
  have hLR:∀{l b},LR g h l b->LR g (h.set i (.row k E es none fl sh)) l b:=by
   rintro l b ⟨⟨a1,a2,a3,a4,a5,a6,a7,h1⟩,h2⟩
   exact⟨⟨a1,a2,a3,a4,a5,a6,a7,hkind h1 (by simp)⟩,h2⟩
  have hIR:∀{k1:List It}{k2:List Item},IR P g h k1 k2->IR P g (h.set i (.row k E es none fl sh)) k1 k2:=by
   intro k1
   induction k1 with
   |nil=>intro k2 hk;cases k2<;>simp only[IR]at hk⊢
   |cons a k1 ih=>
    intro k2 hk
    cases k2 with
    |nil=>cases a<;>simp only[IR]at hk
    |cons b k2=>
     cases a<;>cases b<;>simp only[IR]at hk⊢
     ·exact⟨hk.1,ih hk.2⟩
     ·exact⟨hk.1,ih hk.2⟩
     ·exact⟨hk.1,ih hk.2⟩
     ·exact⟨hk.1,ih hk.2⟩
     ·exact⟨hLR hk.1,ih hk.2⟩
     ·exact⟨hLR hk.1,ih hk.2⟩
     ·exact ih hk
  have hDR:∀{ds1:List dG}{ds2:List Deferred},o8 i es.length ds1=true->F2 (DR g h) ds1 ds2->F2 (DR g (h.set i (.row k E es none fl sh))) ds1 ds2:=by
   intro ds1 ds2 hv hd
   induction hd with
   |nil=>exact .nil
   |@cons a b as bs h1 _ ih=>
    cases a with
    |call c args=>
     simp only[o8,ay]at hv;obtain⟨cap,q1,q2⟩:=h1;exact .cons ⟨cap,q1,lH hi hv.1 q2⟩ (ih hv.2)
    |mark l=>
     simp only[o8]at hv;obtain⟨⟨q,q1⟩,q2⟩:=h1;exact .cons ⟨⟨q,hkind q1 (by simp)⟩,q2⟩ (ih hv)
  have hR:lq P g (h.set i (.row k E es none fl sh)) f (aF f.fn tmps todo ds kd ro md):=by
   refine⟨?_,rfl,hIR S.its,lH hi hf.1.1 S.t,hDR hf.1.2 S.ds,?_,S.is⟩
   ·have hv:=hf.2
    cases hm2:f.md with
    |run=>rw[hm2]at hmr;exact hmr
    |ret=>rw[hm2]at hmr;exact hmr
    |cZ v rc=>
     rw[hm2]at hmr hv;obtain⟨u,q1,q2⟩:=hmr;exact⟨u,q1,uU hi (by simpa only [Cr]using hv) q2⟩
   ·have hk:=S.kind
    cases hk2:f.kind with
    |norm=>rw[hk2]at hk;exact hk
    |bH=>rw[hk2]at hk;exact hk
    |round l=>
     rw[hk2]at hk;obtain⟨q1,b,q2,q3⟩:=hk;exact⟨q1,b,q2,hLR q3⟩
  exact⟨_,.refl _ _,g,w,_,fs,rfl,H',S.M,_,fs,rfl,hR,pN hR,by rw[jG];exact S.b,S.z,gz x (aO _) S.s⟩
 |@P9 f up h i k E es fl sh hi hf hh=>
  intro m hm;obtain⟨g,w,fr,fs,rfl,H,M,S⟩:=hm;refine⟨_,.refl _ _,g,w,fr,fs,rfl,H.reset hi hh,M,?_⟩;rw[jG];exact NL hi hf S
 |@freeze f up h i k E es es' gr fl sh hi hg hv hn=>
  intro m hm;obtain⟨g,w,fr,fs,rfl,H,M,S⟩:=hm;obtain⟨g',H',x⟩:=H.freeze hi hg hv hn;exact⟨_,.refl _ _,g',w,fr,fs,rfl,H',fun b o v hv=>x.M _ _ _ (M b o v hv),gz x (by simp[kP]) S⟩
 |@PV f up h l=>
  intro m hm;obtain⟨g,w,fr,fs,rfl,H,M,S⟩:=hm;obtain⟨g',_,_,_,H',x,_⟩:=oC l H;exact⟨_,.refl _ _,g',w,fr,fs,rfl,H',fun b o v hv=>x.M _ _ _ (M b o v hv),gz x (by simp[kP]) S⟩
 |@tree f up h i=>
  intro m hm;obtain⟨g,w,fr,fs,rfl,H,M,fr',fs',hfs,hR,hb0,hb,hz,hS⟩:=hm
  cases hfs
  obtain⟨g',_,_,_,H',x,hC⟩:=oC (rowsOf (f.t.getD i .undef)) H;have hR1:=A_ x hb0 hR;have ht:=pT i hR1.t (Qz H x hC (sM i hR.t))
  have h6:fr.tmps.toList.set i (fr.tmps.toList.getD i undef)=fr.tmps.toList:=by
   apply iy;intro m
   by_cases hm:i=m
   ·subst hm;rw[om]
    by_cases hl:i<fr.tmps.toList.length
    ·rw[if_pos rfl,if_pos hl,bj,aM hl];rfl
    ·rw[if_pos rfl,if_neg hl,fu (by omega)]
   ·rw[dK hm]
  rw[h6]at ht;have hR2:lq P g' (share (rowsOf (f.t.getD i .undef)) h) {f with t:=f.t.set i (mf h (f.t.getD i .undef))} fr:=⟨hR1.md,hR1.fn,hR1.its,ht,hR1.ds,hR1.kind,hR1.is⟩;exact⟨_,.refl _ _,g',w,fr,fs,rfl,H',fun b o v hv=>x.M _ _ _ (M b o v hv),fr,fs,rfl,hR2,pN hR2,by rw[kP];exact hb,hz,gz (x.mono hb) (aO _) hS⟩
 |@mM f up h i j cs hi=>
  intro m hm;obtain⟨g,w,fr,fs,rfl,H,M,S⟩:=hm;obtain⟨g',H',x⟩:=H.mM j hi;exact⟨_,.refl _ _,g',w,fr,fs,rfl,H',fun b o v hv=>x.M _ _ _ (M b o v hv),gz x (by simp[kP]) S⟩
 |@oJ f up h i j k k0 cs E hi hj hk=>
  intro m hm;obtain⟨g,w,fr,fs,rfl,H,M,S⟩:=hm;obtain⟨g',H',x⟩:=H.cN E hi hj hk;exact⟨_,.refl _ _,g',w,fr,fs,rfl,H',fun b o v hv=>x.M _ _ _ (M b o v hv),gz x (by simp) S⟩
 |@BZ f up h i j k k0 es E0 fl sh E hi hj hk=>
  intro m hm;obtain⟨g,w,fr,fs,rfl,H,M,S⟩:=hm;obtain⟨g',H',x⟩:=H.BZ E hi hj hk;exact⟨_,.refl _ _,g',w,fr,fs,rfl,H',fun b o v hv=>x.M _ _ _ (M b o v hv),gz x (by simp) S⟩
 |@PA f up h d gd k zs ps os k' es E hmd hits hw hf=>
  intro m hm;obtain⟨g,w,tmps,todo,ds,kd,ro,md,fs,rfl,S,hmr⟩:=hm.inv;rw[hmd]at hmr;simp only[MR]at hmr;subst hmr;have hI:=S.its;rw[hits]at hI
  cases todo with
  |nil=>simp only[IR]at hI
  |cons im k'_1=>
  cases im<;>simp only[IR]at hI
  rename_i ops todo;obtain⟨hO,hk⟩:=hI
  cases hO with
  |cons h1 hO=>
  rename_i i rest;obtain⟨op,hop,hcag⟩:=h1;obtain⟨hw1,hcop,hdst⟩:=AA hcag S.t hw;obtain⟨ty,n,parts,e,z,q1,q2,q3,q4,q5,q6,q7,rfl,rfl⟩:=acb hcop;have hs:=ZR (t:=f.t) (fl:=cr es k) S.H (r:=(⟨tmps,ds⟩:Act).eval) q1 q2 q3 q4 q5 q6 q7 (fun x=>CF S.t x) hf id E;obtain⟨g',w',nx,h2,h3,h4,u,rfl,h6⟩:=hs;have S1:=S.mono h3 h4 (by simp);have hs1:=St.go (cs0:=cs0) S1 hmd (its:=.ops os::k') (todo':=.inRegion ops rest::k'_1) (t:=aU f.t d (.sl h.length 0 es.length)) (tmps':=ma tmps d u) ⟨hO,by have:=S1.its;rw[hits]at this;exact this.2⟩ (nV S1.t h6);have hdst':d=op.dst:=hdst;have hst:=F9 (cs:=fs++cs0) (fn:=f.fn) (k:=k'_1) (rest:=rest) (kd:=kd) (ro:=ro) hop hw1 (Or.inr (by intro c hc;rw[q1]at hc;cases hc)) h2;rw[<-hdst']at hst;exact⟨_,Steps.one hst,hs1⟩
 |@mask f up h m=>
  intro mm hm;obtain⟨g,w,tmps,todo,ds,kd,ro,md,fs,rfl,S,hmr⟩:=hm.inv;exact⟨_,.refl _ _,St.j7 (f:={f with t:=dj m f.t}) ⟨S.H,S.M,S.its,pP m S.t,S.ds,S.kind,S.is,S.b,S.z,S.s⟩ hmr⟩
 |aX hmd hits hr hsub _ hc ih=>exact gm.aX hmd hits hr hsub ih hc
 |Gm dies hmd hits hr hsub _ _ hc hi ih1 ih2=>
  exact gm.Gm hmd hits hr hsub (fun o ho=>by
   by_cases hd:dies o
   ·exact .inr (ih2 o ho hd)
   ·exact .inl (ih1 o ho hd)) hc hi
 |@pR f up h i k k0 E hmd hi hk=>
  intro m hm;obtain⟨g,w,fr,fs,rfl,H,M,fr',fs',hfs,hR,hb0,hb,hz,hS⟩:=hm
  cases hfs
  have hE:=Ext.push (g:=g) (h:=h) [Ob.row k E [] none true false] none
  have H1:Inv P Γ N (g.bD h.length none) (h++[Ob.row k E [] none true false]) w:=by
   refine Inv.push (r:=none) H rfl rfl rfl (fun _ _=>rfl) (aO _) (fun b x hb=>by cases hb) ?_ (fun j o hj=>by simp at hj);simp only[OV];rw[cV];exact⟨hk,by simp,fun _=>rfl,by simp,trivial⟩
  have hR1:=A_ hE hb0 hR;obtain⟨v,hv1,hv2⟩:=qX hR1.t hi;simp only[V]at hv2;obtain⟨_,a,cap,rfl,hcap,_,_⟩:=hv2
  have hcap0:cap=0:=by simpa using hcap trivial
  subst hcap0
  have hx:V (g.bD h.length none) (h++[Ob.row k E [] none true false]) (.sl h.length 0 0) (.slice a ([]:List AV).length 0):=by
   simp only[V];exact⟨k,E,[],none,true,false,by simp,by simp,a,0,rfl,by simp,by simp,fun _=>⟨by simp,Or.inl ⟨rfl,rfl⟩⟩⟩
  have ht:=pT i hR1.t hx
  have h6:fr.tmps.toList.set i (.slice a ([]:List AV).length 0)=fr.tmps.toList:=by
   apply iy;intro m
   by_cases hm:i=m
   ·subst hm;rw[eL (ba hv1),hv1]
   ·rw[dK hm]
  rw[h6]at ht;have hR2:lq P (g.bD h.length none) (h++[Ob.row k E [] none true false]) {f with t:=f.t.set i (.sl h.length 0 0)} fr:=⟨hR1.md,hR1.fn,hR1.its,ht,hR1.ds,hR1.kind,hR1.is⟩;exact⟨_,.refl _ _,_,w,fr,fs,rfl,H1,fun b o v hv=>hE.M _ _ _ (M b o v hv),fr,fs,rfl,hR2,pN hR2,by simp;omega,hz,gz (hE.mono hb) (aO _) hS⟩
 |@gc f up h n τ hmd hb hn hτ hnd ht hd hi hk hp hq=>
  intro m hm;obtain⟨g,w,fr,fs,rfl,H,M,fr',fs',hfs,hR,_,_,hz,hS⟩:=hm;obtain⟨g',H',hE,hx⟩:=H.gc hn hτ hnd hp hq
  cases hfs
  have hR':lq P g' (jh n τ h) {f with t:=cn n τ f.t} fr:=by
   refine⟨?_,hR.fn,kU hE hi hR.its,mR hx ht hR.t,xM hE hd hR.ds,GL hE hk hR.kind,hR.is⟩;have:=hR.md;rw[hmd]at this;simp only[hmd];exact this
  refine⟨_,.refl _ _,g',w,fr,fs,rfl,H',fun b o v hv=>by rw[hx.M];exact M b o v hv,fr,fs,rfl,hR',pN hR',?_,hz,gz (hE.mono hb) (aO _) hS⟩
  have hl:(jh n τ h).length=n+τ.length:=by
   unfold jh;rw[GA,bq,E_,eA,qH hn]
  rw[hl];simp only;omega
 |fG hmd hits _ ih=>
  intro m hm;obtain⟨l,hl,m1,s1,h1⟩:=EG hmd hits hm;obtain⟨m2,s2,h2⟩:=ih l hl _ h1;exact⟨m2,s1.trans s2,h2⟩
end
def mP(h:List Ob)(all:List Nat):AV->Option Nat
 |.sl i off n=>
  match h[i]? with
  |some (.row _ _ es g true sh)=>if cE es g off n=true/\(off=0/\n=es.length/\sh=false/\all.count i=1)then some i else none
  |_=>none
 |_=>none
def fV(h:List Ob)(all:List Nat)(vs:List AV):List Nat:=vs.filterMap (mP h all)
def oM(h:List Ob)(all:List Nat)(vs:List AV):List Nat:=vs.flatMap fun a=>if(mP h all a).isSome=true then[]else rowsOf a
theorem ui{h:List Ob}{all:List Nat}{a:AV}{i:Nat}(ho:mP h all a=some i):
 ∃k E es gr,a=.sl i 0 es.length/\h[i]? =some (.row k E es gr true false)/\cE es gr 0 es.length=true/\all.count i=1/\pY h all a=some (.own k E es):=by
 unfold mP at ho
 split at ho
 ·rename_i j off n
  split at ho
  ·rename_i k E es gr sh hj
   split at ho
   ·rename_i hc;simp only[aj]at ho;subst ho;obtain⟨h1,rfl,rfl,rfl,h5⟩:=hc;refine⟨k,E,es,gr,rfl,hj,h1,h5,?_⟩;simp[pY,hj,h1,h5]
   ·cases ho
  ·cases ho
 ·cases ho
theorem EM{h:List Ob}{all:List Nat}{a r:AV}(ho:mP h all a=none)(hr:pY h all a=some r):(r=a/\∃f k es,a=.list f k es)\/view h a=some r:=by
 unfold pY at hr
 split at hr
 ·rename_i j off n;right
  split at hr
  ·rename_i k E es gr sh hj
   split at hr
   ·rename_i hok
    split at hr
    ·rename_i hc;unfold mP at ho;simp only[hj,hok,true_and]at ho;rw[if_pos hc]at ho
     cases ho
    ·simp only[aj]at hr;subst hr;simp[view,vh,hj,hok]
   ·cases hr
  ·cases hr
 ·rename_i f k es;simp only[aj]at hr;exact Or.inl ⟨hr.symm,_,_,_,rfl⟩
 ·exact Or.inr hr
theorem EI(h:List Ob)(all:List Nat)(j:Nat):∀(vs:List AV),(bO vs).count j=(fV h all vs).count j+(oM h all vs).count j
 |[]=>by simp[bO,fV,oM]
 |a::vs=>by
  have ih:=EI h all j vs;simp only[bO,List.count_append,fV,oM,ou,wj]at ih⊢
  cases ho:mP h all a with
  |none=>simp;omega
  |some i=>
   obtain⟨k,E,es,gr,rfl,_⟩:=ui ho;simp only[rowsOf,Option.isSome_some,cG,List.count_nil,List.count_cons];omega
theorem Wr{h:List Ob}{a r:AV}(hv:view h a=some r):∀k E es,r≠.own k E es:=by
 intro k E es hr;subst hr
 cases a<;>simp[view]at hv
 all_goals (try (split at hv<;>simp at hv))
theorem Eg{n:Nat}{r:AV}(hr:∀k E es,r≠.own k E es):eD n r=(r,[]):=by
 cases r<;>first|rfl|exact absurd rfl (hr _ _ _)
theorem A8{h:List Ob}{all:List Nat}{a r:AV}(ho:mP h all a=none)(hr:pY h all a=some r):∀k E es,r≠.own k E es:=by
 rcases EM ho hr with⟨rfl,f,k,es,rfl⟩|hv
 ·simp
 ·exact Wr hv
theorem Ge{h:List Ob}{all:List Nat}:∀{vs rs:List AV},jZ h all vs=some rs->∀(n q:Nat)(o:Ob),(cd n rs).2[q]? =some o->
 ∃j k E es gr,(fV h all vs)[q]? =some j/\o=.row k E es none true false/\h[j]? =some (.row k E es gr true false)/\cE es gr 0 es.length=true
 |[],rs,hr,n,q,o,ho=>by
  simp only[jZ,aj]at hr;subst hr;simp[cd]at ho
 |a::vs,rs,hr,n,q,o,ho=>by
  simp only[jZ]at hr
  split at hr
  ·rename_i r rs' h1 h2;simp only[aj]at hr;subst hr;simp only[cd]at ho
   cases hown:mP h all a with
   |none=>
    rw[Eg (A8 hown h1)]at ho;simp only[kK,c9,gM]at ho;simpa only [fV,wj,hown]using Ge h2 n q o ho
   |some i=>
    obtain⟨k,E,es,gr,rfl,h3,h4,h5,h6⟩:=ui hown;rw[h1]at h6;simp only[aj]at h6;subst h6;simp only[eD,tA,tB]at ho;simp only[fV,wj,hown]
    cases q with
    |zero=>
     simp at ho;exact⟨i,k,E,es,gr,by simp,ho.symm,h3,h4⟩
    |succ q=>
     have:=Ge h2 (n+1) q o (by simpa using ho);simpa only [fV,nC]using this
  ·cases hr
theorem Ex{h:List Ob}{all:List Nat}{vs:List AV}{j:Nat}(hj:j∈fV h all vs):all.count j=1/\∃k E es gr,h[j]? =some (.row k E es gr true false):=by
 simp only[fV,List.mem_filterMap]at hj;obtain⟨a,_,ha⟩:=hj;obtain⟨k,E,es,gr,_,h2,_,h4,_⟩:=ui ha;exact⟨h4,k,E,es,gr,h2⟩
theorem MJ{j:Nat}:∀(is:List Nat)(h:List Ob),j∉is->(share is h)[j]? =h[j]?
 |[],_,_=>rfl
 |i::is,h,hn=>by
  simp only[share];rw[MJ is _ (fun hm=>hn (dP _ hm)),zY]
  have:i≠j:=fun e=>hn (by simp[e])
  simp[this]
section
variable{P:Program}{Γ:Nat->Option AV}{N N':Env}{g g2 g2' g3:G}{h hh hh' h3:List Ob}{w w2:World}
theorem G8(H2:Inv P Γ N' g2 hh w2)(x:Ext hh.length g2 hh g2' hh')(x0:Ext 0 g2' hh' g3 h3){all:List Nat}:∀{vs rs:List AV}{us:List Value},(∀i∈oM hh all vs,qG g2' hh w2 g2 i)->VL g2 hh vs us->jZ hh all vs=some rs->
 ∀n,(∀q o,(cd n rs).2[q]? =some o->h3[n+q]? =some o)->(∀q j,(fV hh all vs)[q]? =some j->g3.ρ (n+q)=g2.ρ j)->VL g3 h3 (cd n rs).1 us/\pV rs=true
 |[],rs,us,_,hv,hr,n,_,_=>by
  simp only[jZ,aj]at hr;subst hr;exact⟨by simpa only [cd,VL]using hv,rfl⟩
 |a::vs,rs,us,hc,hv,hr,n,hos,hρ=>by
  simp only[jZ]at hr
  split at hr
  ·rename_i r rs' h1 h2;simp only[aj]at hr;subst hr;simp only[VL]at hv;obtain⟨u,us',rfl,hv1,hv2⟩:=hv
   cases hown:mP hh all a with
   |none=>
    have hpl:=Eg (n:=n) (A8 hown h1)
    have hsh:∀i∈rowsOf a,qG g2' hh w2 g2 i:=fun i hi=>hc i (by simp only[oM,ou,hown];simp[hi])
    have htail:=G8 H2 x x0 (vs:=vs) (rs:=rs') (us:=us') (fun i hi=>hc i (by simp only[oM,ou,aN];exact Or.inr hi)) hv2 h2 n
     (fun q o hq=>hos q o (by simp only[cd,hpl,kK,c9,gM];exact hq))
     (fun q j hq=>hρ q j (by simpa only [fV,wj,hown]using hq))
    have hone:V g3 h3 r u/\qa r=true:=by
     have htr:aK 0 r=true->qa r=true:=by
      intro hb
      cases r<;>first|exact hb|exact absurd rfl (A8 hown h1 _ _ _)
     rcases EM hown h1 with⟨rfl,f,k,es,rfl⟩|hvw
     ·have hb:aK 0 (.list f k es)=true:=by
       simp only[V]at hv1;simp only[aK];exact jl hv1.1
      exact⟨fW x0 hb (fW x (k_ hv1) hv1),htr hb⟩
     ·have hb:=BB H2 hv1 hvw;exact⟨fW x0 hb (sF H2 x hsh hv1 hvw),htr hb⟩
    simp only[cd,hpl,c9,gM,VL,pV,ay];exact⟨⟨u,us',rfl,hone.1,htail.1⟩,hone.2,htail.2⟩
   |some i=>
    obtain⟨k,E,es,gr,rfl,h3',h4,h5,h6⟩:=ui hown;rw[h1]at h6;simp only[aj]at h6;subst h6
    have htail:=G8 H2 x x0 (vs:=vs) (rs:=rs') (us:=us') (fun i hi=>hc i (by simp only[oM,ou,aN];exact Or.inr hi)) hv2 h2 (n+1)
     (fun q o hq=>by
      have:=hos (q+1) o (by simpa only [cd,eD,tA,tB,nC]using hq)
      rwa[show n+1+q=n+(q+1) by omega])
     (fun q j hq=>by
      have:=hρ (q+1) j (by simpa only [fV,wj,hown,nC]using hq)
      rwa[show n+1+q=n+(q+1) by omega])
    have hrow:=hos 0 _ (by simp[cd,eD];rfl);have hr0:=hρ 0 i (by simp[fV,hown]);simp only[gM]at hrow hr0;have hob:=H2.ob i _ h3';simp only[OV]at hob;obtain⟨_,_,hfl,_,_⟩:=hob;simp only[cd,eD,tA,VL,pV,qa,ay];refine⟨⟨u,us',rfl,?_,htail.1⟩,jl (hfl (by trivial)),htail.2⟩;simp only[V]at hv1⊢;obtain⟨k',E',es',gr',fl',sh',q1,q2,aa,cap,q3,q4,q5,q6⟩:=hv1;rw[h3']at q1;simp only[aj,Ob.row.injEq]at q1;obtain⟨rfl,rfl,rfl,rfl,rfl,rfl⟩:=q1;refine⟨_,_,_,none,_,_,hrow,q2,aa,cap,q3,q4,q5,fun _=>?_⟩;rw[hr0];exact q6 h4
  ·cases hr
theorem Gs(H:Inv P Γ N g h w)(H2:Inv P Γ {K:=fun b=>w.heap[b]?,M0:=g.M,MM:=g.MM,w0:=w} g2 hh w2)(hM:∀b o v,g.M b o=some v->g2.M b o=some v){vs rs:List AV}{us:List Value}(hv:VL g2 hh vs us)(hr:jZ hh (bO vs) vs=some rs):
 ∃g3,pV rs=true/\Inv P Γ N g3 (h++(cd h.length rs).2) w2/\VL g3 (h++(cd h.length rs).2) (cd h.length rs).1 us/\(∀i,i<h.length->g3.ρ i=g.ρ i)/\
  (∀b o v,g.M b o=some v->g3.M b o=some v)/\(∀b,b<w.heap.size->w2.heap[b]? =w.heap[b]?):=by
 obtain⟨g2',hρ2,hMM2,hM2,H2',x,hcov⟩:=oC (oM hh (bO vs) vs) H2
 have hheap:∀b,b<w.heap.size->w2.heap[b]? =w.heap[b]? :=by
  intro b hb;rw[H2.fm b w.heap[b] (jL hb),jL hb]
 have hbig:w.heap.size<=w2.heap.size:=by
  rcases TK w.heap.size with h0|h0
  ·omega
  ·have:=hheap (w.heap.size-1) (by omega);rw[jL (xs:=w.heap) (by omega)]at this;have:=ba (l:=w2.heap.toList) (i:=w.heap.size-1) (by simpa using this);simp at this;omega
 have hnewb:∀i b y,g2.ρ i=some (b,y)->w.heap.size<=b/\b<w2.heap.size:=by
  intro i b y hi;obtain⟨h1,h2⟩:=H2.own i b y hi;refine⟨?_,h2⟩
  rcases lB b w.heap.size with h3|h3
  ·simp only[jL h3]at h1;cases h1
  ·exact h3
 have hnd:(fV hh (bO vs) vs).Nodup:=by
  rw[List.nodup_iff_count];intro j
  by_cases hj:j∈fV hh (bO vs) vs
  ·have h1:=(Ex hj).1;have h2:=EI hh (bO vs) j vs;omega
  ·rw[List.count_eq_zero_of_not_mem hj];omega
 have hnsh:∀j∈fV hh (bO vs) vs,j∉oM hh (bO vs) vs:=by
  intro j hj hs;have h1:=(Ex hj).1;have h2:=EI hh (bO vs) j vs;have h3:=TL.2 hj;have h4:=TL.2 hs;omega
 generalize hown:fV hh (bO vs) vs=owned at hnd hnsh
 let g3:G:={ρ:=fun i=>if i<h.length then g.ρ i else(owned[i-h.length]?).bind g2.ρ,M:=g2'.M,MM:=g.MM}
 have hMall:∀b o v,g.M b o=some v->g2'.M b o=some v:=fun b o v hv=>hM2 _ _ _ (hM _ _ _ hv)
 have hρold:∀i,i<h.length->g3.ρ i=g.ρ i:=fun i hi=>if_pos hi
 have hρnew:∀q,g3.ρ (h.length+q)=(owned[q]?).bind g2.ρ:=fun q=>by
  show(if h.length+q<h.length then _ else _)=_
  rw[if_neg (by omega),show h.length+q-h.length=q by omega]
 have hMMeq:g2'.MM=g.MM:=by rw[hMM2,H2.jE]
 have hE:Ext h.length g h g3 (h++(cd h.length rs).2):=Ext.app _ hρold hMall rfl;have x0:Ext 0 g2' (share (oM hh (bO vs) vs) hh) g3 (h++(cd h.length rs).2):=Ext.zero (fun _ _ _ x=>x) (fun _ _ hx=>by rw[<-hMMeq];exact hx)
 obtain⟨hV3,hT⟩:=G8 H2 x x0 hcov hv hr h.length (fun q o hq=>by rw[df (by omega),show h.length+q-h.length=q by omega];exact hq) (fun q j hq=>by
  rw[hown]at hq;rw[hρnew,hq]
  rfl)
 have hcase:∀{i b y},g3.ρ i=some (b,y)->(i<h.length/\g.ρ i=some (b,y))\/∃q j,i=h.length+q/\owned[q]? =some j/\g2.ρ j=some (b,y):=by
  intro i b y hi
  by_cases hil:i<h.length
  ·rw[hρold i hil]at hi;exact Or.inl ⟨hil,hi⟩
  ·obtain⟨q,rfl⟩:∃q,i=h.length+q:=⟨i-h.length,by omega⟩;rw[hρnew]at hi
   cases hq:owned[q]? with
   |none=>rw[hq]at hi;cases hi
   |some j=>rw[hq]at hi;exact Or.inr ⟨q,j,rfl,hq,hi⟩
 refine⟨g3,hT,⟨H2.os.trans H.os,H2.tape.trans H.tape,H2.output.trans H.output,?_,?_,?_,?_,H2'.mem,?_,?_,?_,?_,?_,H.jE,H.lx⟩,hV3,hρold,hMall,hheap⟩
 ·intro b o hb;exact H2.fm b o (H.fm b o hb)
 ·intro i b y hi
  rcases hcase hi with⟨_,h2⟩|⟨q,j,_,_,h2⟩
  ·exact⟨(H.own i b y h2).1,oi (H.own i b y h2).2 hbig⟩
  ·obtain⟨h3,h4⟩:=hnewb j b y h2;refine⟨?_,h4⟩
   cases hk:N.K b with
   |none=>rfl
   |some o=>
    have:=H.fm b o hk;have:=ba (l:=w.heap.toList) (i:=b) (by simpa using this);simp at this;omega
 ·intro i j b y z hi hj
  rcases hcase hi with⟨h1,h2⟩|⟨q,p,rfl,h2,h4⟩
  ·rcases hcase hj with⟨h5,h6⟩|⟨q',p',rfl,h5,h6⟩
   ·exact H.inj i j b y z h2 h6
   ·have:=(hnewb p' b z h6).1;have:=(H.own i b y h2).2;omega
  ·rcases hcase hj with⟨h5,h6⟩|⟨q',p',rfl,h5,h6⟩
   ·have:=(hnewb p b y h4).1;have:=(H.own j b z h6).2;omega
   ·have hp:=H2.inj p p' b y z h4 h6;subst hp
    have hq:q=q':=by
     exact(List.getElem?_inj (ba h2) hnd).1 (h2.trans h5.symm)
    rw[hq]
 ·intro i hi;rw[bq]at hi;obtain⟨q,rfl⟩:∃q,i=h.length+q:=⟨i-h.length,by omega⟩;rw[hρnew]
  cases hq:owned[q]? with
  |none=>rfl
  |some j=>
   exfalso
   have hlen:∀{us ws:List AV},jZ hh (bO vs) us=some ws->∀n,(cd n ws).2.length=(fV hh (bO vs) us).length:=by
    intro us
    induction us with
    |nil=>intro ws hw n;simp only[jZ,aj]at hw;subst hw;simp[cd,fV]
    |cons a us ih=>
     intro ws hw n;simp only[jZ]at hw
     split at hw
     ·rename_i r rs' h1 h2;simp only[aj]at hw;subst hw
      cases ho:mP hh (bO vs) a with
      |none=>
       simp only[cd,Eg (A8 ho h1),kK,c9,gM,fV,wj,ho];exact ih h2 n
      |some i=>
       obtain⟨k,E,es,gr,rfl,_,_,_,h6⟩:=ui ho;rw[h1]at h6;simp only[aj]at h6;subst h6;simp only[fV]at ih;simp only[cd,eD,tB,fV,wj,ho,bz];rw[ih h2]
     ·cases hw
   have:=hlen hr h.length;rw[hown]at this;have:=ba hq;omega
 ·intro b es ck hb
  have h1:g2.MM b=some (es,ck):=by rw[H2.jE];exact hb
  refine⟨(H2.mm b es ck h1).1,?_⟩;intro i y hi
  rcases hcase hi with⟨_,h3⟩|⟨q,p,_,_,h4⟩
  ·exact(H.mm b es ck hb).2 i y h3
  ·exact(H2.mm b es ck h1).2 p y h4
 ·intro i b sz st o v hi hv
  rcases hcase hi with⟨h2,h3⟩|⟨q,p,rfl,h2,h4⟩
  ·have hb:=(H.own i b _ h3).2;have h5:=H2'.mK b o v _ hv (jL hb);obtain⟨k,E,es,gr,fl,h6,h7⟩:=H.eE i b sz st o v h3 h5;exact⟨k,E,es,gr,fl,by rw[cz (ba h6)];exact h6,h7⟩
  ·exfalso;obtain⟨k,E,es,gr,fl,h6,h7⟩:=H2'.eE p b sz st o v (by rw[hρ2];exact h4) hv;have hpm:p∈owned:=iw h2;rw[MJ _ _ (hnsh p hpm)]at h6;rw[<-hown]at hpm;obtain⟨_,k',E',es',gr',h8⟩:=Ex hpm;rw[h8]at h6
   cases h6
 ·intro i o hi
  by_cases hil:i<h.length
  ·rw[cz hil]at hi;exact nP hE (hρold i hil) (fun b y hb=>hheap b (H.own i b y hb).2) (H.ob i o hi)
  ·obtain⟨q,rfl⟩:∃q,i=h.length+q:=⟨i-h.length,by omega⟩;rw[df (by omega),show h.length+q-h.length=q by omega]at hi;obtain⟨j,k,E,es,gr,h2,rfl,h4,h5⟩:=Ge hr h.length q o hi;have hob:=H2.ob j _ h4;simp only[OV]at hob⊢;obtain⟨q1,q2,q3,q4,q5⟩:=hob;refine⟨q1,q2,q3,by simp,?_⟩;rw[hown]at h2;rw[hρnew,h2];simp only[j9]
   have hgr:gr.getD 0=0:=by
    cases gr with
    |none=>rfl
    |some lo=>simp only[cE,ay,aW]at h5;simpa using h5.1
   cases hρj:g2.ρ j with
   |none=>rw[hρj]at q5;exact q5
   |some y=>
    obtain⟨b,sz,st⟩:=y;rw[hρj,hgr]at q5;simp only[tE]at q5⊢;obtain⟨h6,c,E',fz,ws,h7,h8,h9,h10,h11⟩:=q5;refine⟨h6,c,E',fz,ws,h7,h8,h9,?_,h11⟩;rw[fe]at h10⊢;exact fS x0 (jl (q3 (by trivial))) (fS (x.mono (zS _)) (jl (q3 (by trivial))) h10)
 ·intro n a hn;obtain⟨h1,ws,h2,h3⟩:=H.lh n a hn;exact⟨h1,ws,cv hE (di h2) h2,fun j hj=>hMall _ _ _ (h3 j hj)⟩
 ·intro b o v B hv hB;exact H.mK b o v B (H2'.mK b o v B hv (H.fm b B hB)) hB
end
section
variable{P:Program}{Γ:Nat->Option AV}
theorem abj{N:Env}{g g2:G}{h hh:List Ob}{w w2:World}(H:Inv P Γ N g h w)(H2:Inv P Γ {K:=fun b=>w.heap[b]?,M0:=g.M,MM:=g.MM,w0:=w} g2 hh w2)(hM:∀b o v,g.M b o=some v->g2.M b o=some v){v r:AV}{u:Value}(hv:V g2 hh v u)(hr:s6 hh v=some r):
 ∃g3,sU r=true/\Inv P Γ N g3 (h++(dB h.length r).2) w2/\V g3 (h++(dB h.length r).2) (dB h.length r).1 u/\(∀i,i<h.length->g3.ρ i=g.ρ i)/\
  (∀b o v,g.M b o=some v->g3.M b o=some v)/\(∀b,b<w.heap.size->w2.heap[b]? =w.heap[b]?):=by
 by_cases ht:∃vs,v=.aE vs
 ·obtain⟨vs,rfl⟩:=ht;simp only[s6,bY]at hr;obtain⟨rs,hr,rfl⟩:=hr;simp only[V]at hv;obtain⟨us,rfl,hv⟩:=hv;obtain⟨g3,h1,h2,h3,h4⟩:=Gs H H2 hM hv hr;exact⟨g3,h1,h2,by simp only[dB,V];exact⟨us,rfl,h3⟩,h4⟩
 ·have hr2:pY hh (rowsOf v) v=some r:=by
   cases v<;>first|exact hr|exact absurd ⟨_,rfl⟩ ht
  have hrt:∀vs,r≠.aE vs:=by
   rintro vs rfl
   cases hown:mP hh (rowsOf v) v with
   |some i=>
    obtain⟨k,E,es,gr,rfl,_,_,_,h6⟩:=ui hown;rw[hr2]at h6
    cases h6
   |none=>
    rcases EM hown hr2 with⟨h1,f,k,es,rfl⟩|hvw
    ·cases h1
    ·cases v<;>simp[view]at hvw
     all_goals first
      |exact ht ⟨_,rfl⟩
      |(split at hvw<;>cases hvw)
  have hl:jZ hh (bO [v]) [v]=some [r]:=by
   simp[jZ,bO,hr2]
  have hvl:VL g2 hh [v] [u]:=by simp only[VL];exact⟨u,[],rfl,hv,rfl⟩
  obtain⟨g3,h1,h2,h3,h4⟩:=Gs H H2 hM hvl hl
  have hun:dB h.length r=eD h.length r:=by cases r<;>first|rfl|exact absurd rfl (hrt _)
  have htr:sU r=qa r:=by cases r<;>first|rfl|exact absurd rfl (hrt _)
  have hol:(cd h.length [r]).2=(eD h.length r).2:=by simp[cd]
  have hov:(cd h.length [r]).1=[(eD h.length r).1]:=by simp[cd]
  rw[hol]at h2 h3;rw[hov]at h3;rw[hun,htr];simp only[VL]at h3;obtain⟨u',us',h5,h6,rfl⟩:=h3
  cases h5
  refine⟨g3,?_,h2,h6,h4⟩;simpa[pV]using h1
theorem aP.zD{f:FuncId}{as:List AV}{r:AV}(hb:aA P f=true)(hr:∀(N:Env)(g0:G)(f0:FuncId)(cs0:List Frame)(m:Machine),cS P Γ N g0 f0 cs0 (.cl f as [] []) m->∃m' v hh,Steps P m m'/\cS P Γ N g0 f0 cs0 (.back [] v hh) m'/\s6 hh v=some r):aP P Γ f as r:=by
 refine⟨hb,fun hbel N g h w us H hV cs=>?_⟩;have hz:Ext 0 g h {ρ:=fun _=>none,M:=g.M,MM:=g.MM} []:=Ext.zero (fun _ _ _ x=>x) (fun _ _ x=>x)
 have H0:Inv P Γ {K:=fun b=>w.heap[b]?,M0:=g.M,MM:=g.MM,w0:=w} {ρ:=fun _=>none,M:=g.M,MM:=g.MM} [] w:=by
  refine⟨rfl,rfl,rfl,fun b o hb=>hb,fun i b x hi=>(by cases hi),fun i j b x y hi=>(by cases hi),fun _ _=>rfl,H.mem,fun b es ck hb=>⟨(H.mm b es ck hb).1,fun i x hi=>(by cases hi)⟩,
   fun i b sz st o v hi=>(by cases hi),fun i o hi=>(by simp at hi),?_,fun b o v B hv _=>hv,rfl,fun n zs h0 hn=>by
    obtain⟨t,q,hq⟩:=H.lx n zs h0 hn
    exact⟨t,q,H.fm n _ hq⟩⟩
  intro n a hn;obtain⟨h1,vs,h2,h3⟩:=H.lh n a hn;exact⟨h1,vs,cv hz h1 h2,h3⟩
 have hs:cS P Γ {K:=fun b=>w.heap[b]?,M0:=g.M,MM:=g.MM,w0:=w} {ρ:=fun _=>none,M:=g.M,MM:=g.MM} f cs (.cl f as [] []) (lone (Frame.enter P f us.toArray .normal) ([]++cs) w):=
  ⟨_,w,us.toArray,[],rfl,H0,fun _ _ _ x=>x,by simpa using cv hz hbel hV,hb,rfl,fun _=>rfl⟩
 obtain⟨m',v,hh,steps,⟨g2,w2,u,fr,rfl,H2,hM,hv,hfn,hleave⟩,hres⟩:=hr _ _ _ _ _ hs
 ·obtain⟨g3,h1,h2,h3,h4,h5,h6⟩:=abj H H2 hM hv hres;exact⟨.returned u,w2,fr,⟨u,g3,rfl,h1,h2,h3,h4,h5,h6⟩,steps,hfn,hleave⟩
theorem lP.zD{f:FuncId}{as:List AV}{v:AV}(hb:aA P f=true)(hr:∀(N:Env)(g0:G)(f0:FuncId)(cs0:List Frame)(m:Machine),cS P Γ N g0 f0 cs0 (.cl f as [] []) m->∃m' hh,Steps P m m'/\cS P Γ N g0 f0 cs0 (.die [] v hh) m')(hbv:aK 0 v=true)(hnv:ek v=true):lP P Γ f as v:=by
 refine⟨hb,hbv,hnv,fun hbel N g h w us H hV cs=>?_⟩;have hz:Ext 0 g h {ρ:=fun _=>none,M:=g.M,MM:=g.MM} []:=Ext.zero (fun _ _ _ x=>x) (fun _ _ x=>x)
 have H0:Inv P Γ {K:=fun b=>w.heap[b]?,M0:=g.M,MM:=g.MM,w0:=w} {ρ:=fun _=>none,M:=g.M,MM:=g.MM} [] w:=by
  refine⟨rfl,rfl,rfl,fun b o hb=>hb,fun i b x hi=>(by cases hi),fun i j b x y hi=>(by cases hi),fun _ _=>rfl,H.mem,fun b es ck hb=>⟨(H.mm b es ck hb).1,fun i x hi=>(by cases hi)⟩,
   fun i b sz st o v hi=>(by cases hi),fun i o hi=>(by simp at hi),?_,fun b o v B hv _=>hv,rfl,fun n zs h0 hn=>by
    obtain⟨t,q,hq⟩:=H.lx n zs h0 hn
    exact⟨t,q,H.fm n _ hq⟩⟩
  intro n a hn;obtain⟨h1,vs,h2,h3⟩:=H.lh n a hn;exact⟨h1,vs,cv hz h1 h2,h3⟩
 have hs:cS P Γ {K:=fun b=>w.heap[b]?,M0:=g.M,MM:=g.MM,w0:=w} {ρ:=fun _=>none,M:=g.M,MM:=g.MM} f cs (.cl f as [] []) (lone (Frame.enter P f us.toArray .normal) ([]++cs) w):=
  ⟨_,w,us.toArray,[],rfl,H0,fun _ _ _ x=>x,by simpa using cv hz hbel hV,hb,rfl,fun _=>rfl⟩
 obtain⟨m',hh,steps,⟨g2,w2,u,fr,rfl,H2,hM,hv,hfn,hleave⟩⟩:=hr _ _ _ _ _ hs;obtain⟨g3,_,h2,_,h4,h5,h6⟩:=Gs (vs:=[]) (rs:=[]) (us:=[]) H H2 hM (by simp[VL]) (by simp[jZ]);simp only[cd,eR]at h2;exact⟨_,w2,fr,⟨u,g3,rfl,h2,sY hbv hnv hv,h4,h5,h6⟩,steps,hfn,hleave⟩
theorem aP.of{f:FuncId}{as:List AV}{v r:AV}{hh:List Ob}(hb:aA P f=true)(hr:Reach P Γ (.cl f as [] []) (.back [] v hh))(hres:s6 hh v=some r):aP P Γ f as r:=
 .zD hb fun _ _ _ _ m hm=>by
  obtain⟨m',h1,h2⟩:=AH hr m hm;exact⟨m',v,hh,h1,h2,hres⟩
theorem lP.of{f:FuncId}{as:List AV}{v:AV}{hh:List Ob}(hb:aA P f=true)(hr:Reach P Γ (.cl f as [] []) (.die [] v hh))(hbv:aK 0 v=true)(hnv:ek v=true):lP P Γ f as v:=
 .zD hb (fun _ _ _ _ m hm=>by
  obtain⟨m',h1,h2⟩:=AH hr m hm
  exact⟨m',hh,h1,h2⟩) hbv hnv
end
end Go.AM
namespace Go.AM
def eC(P:Program)(Γ:Nat->Option AV):Nat->ar->ar
 |0,c=>c
 |n+1,c=>eC P Γ n (fB P Γ c)
theorem Reach.steps{P:Program}{Γ:Nat->Option AV}:∀(n:Nat)(c:ar),Reach P Γ c (eC P Γ n c)
 |0,c=>.refl c
 |n+1,c=>.trans (.step c) (Reach.steps n _)
def fh(P:Program)(Γ:Nat->Option AV):ar->ar
 |.fr f up h=>match f.md with
  |.run=>match f.its with
   |.code (.loop m b)::k=>.fr {f with its:=.code (.loop m b)::k} up h
   |.inLoop m b::k=>.fr {f with its:=.inLoop m b::k} up h
   |.code (.aX l ws gs)::k=>.fr {f with its:=.code (.aX l ws gs)::k} up h
   |its=>iD P Γ f up h its
  |_=>nQ P Γ f up h
 |.cl g args up h=>.cl g args up h
 |.back (c::up) v h=>match c.finish v with
  |some c'=>.fr c' up h
  |none=>.bad
 |.back [] v h=>.back [] v h
 |.die (c::up) v h=>match c.md with
  |.run=>.fr {c with md:=.cZ v false} up h
  |_=>.bad
 |.die [] v h=>.die [] v h
 |.bad=>.bad
theorem abq(P:Program)(Γ:Nat->Option AV)(c:ar):fh P Γ c=c\/fh P Γ c=fB P Γ c:=by
 cases c with
 |fr f up h=>
  obtain⟨md,fn,its,t,ds,kind,base⟩:=f
  cases md with
  |run=>
   simp only[fh,fB]
   split<;>first|exact Or.inl rfl|exact Or.inr rfl
  |ret=>exact Or.inr rfl
  |cZ v rc=>exact Or.inr rfl
 |cl g args up h=>exact Or.inl rfl
 |back up v h=>cases up<;>exact Or.inr rfl
 |die up v h=>cases up<;>exact Or.inr rfl
 |bad=>exact Or.inl rfl
def qt(P:Program)(Γ:Nat->Option AV):Nat->ar->ar
 |0,c=>c
 |n+1,c=>qt P Γ n (fh P Γ c)
theorem Reach.qt{P:Program}{Γ:Nat->Option AV}:∀(n:Nat)(c:ar),Reach P Γ c (qt P Γ n c)
 |0,c=>.refl c
 |n+1,c=>by
  refine .trans ?_ (Reach.qt n _)
  rcases abq P Γ c with h|h
  ·rw[h];exact .refl c
  ·rw[h];exact .step c
theorem Reach.on{P:Program}{Γ:Nat->Option AV}(n:Nat){c c':ar}(h:Reach P Γ (AM.qt P Γ n c) c'):Reach P Γ c c':=.trans (Reach.qt n c) h
theorem Reach.one{P:Program}{Γ:Nat->Option AV}{c c':ar}(h:Reach P Γ (fB P Γ c) c'):Reach P Γ c c':=.trans (.step c) h
section
variable{P:Program}{Γ:Nat->Option AV}{md:Md}{fn:FuncId}{its k:List It}{t:List AV}{ds:List dG}{kind:FK}{base:Nat}{up:List Fr}{h:List Ob}
theorem Ze{c:ar}:qt P Γ 0 c=c:=rfl
theorem ZA{n:Nat}{c:ar}:qt P Γ (n+1) c=qt P Γ n (fh P Γ c):=rfl
end
section
variable{P:Program}{Γ:Nat->Option AV}{fn:FuncId}{k:List It}{t:List AV}{ds:List dG}{kind:FK}{base:Nat}{up:List Fr}{h:List Ob}
theorem aeC:fh P Γ (.fr ⟨.run,fn,.code .skip::k,t,ds,kind,base⟩ up h)=.fr ⟨.run,fn,k,t,ds,kind,base⟩ up h:=rfl
theorem afg{os:List AG}:fh P Γ (.fr ⟨.run,fn,.code (.ae os)::k,t,ds,kind,base⟩ up h)=.fr ⟨.run,fn,.ops os::k,t,ds,kind,base⟩ up h:=rfl
theorem afK{a b:al}:fh P Γ (.fr ⟨.run,fn,.code (.seq a b)::k,t,ds,kind,base⟩ up h)=.fr ⟨.run,fn,.code a::.code b::k,t,ds,kind,base⟩ up h:=rfl
theorem ae2{x:AX}{a b:al}:fh P Γ (.fr ⟨.run,fn,.code (.cond x a b)::k,t,ds,kind,base⟩ up h)=(match ax t x with
 |.bool v=>.fr ⟨.run,fn,.code (if v then a else b)::k,t,ds,kind,base⟩ up h
 |_=>.bad):=rfl
theorem ady{id:Nat}{m:List Bool}{b:al}:fh P Γ (.fr ⟨.run,fn,.code (.block id m b)::k,t,ds,kind,base⟩ up h)=.fr ⟨.run,fn,.code b::.inBlock id m::k,t,ds,kind,base⟩ up h:=rfl
theorem Zs{id:Nat}{m:List Bool}:fh P Γ (.fr ⟨.run,fn,.inBlock id m::k,t,ds,kind,base⟩ up h)=.fr ⟨.run,fn,k,dj m t,ds,kind,base⟩ up h:=rfl
theorem aed{id:Nat}:fh P Γ (.fr ⟨.run,fn,.code (.exit id)::k,t,ds,kind,base⟩ up h)=(match oX id k with
 |some (k',m)=>.fr ⟨.run,fn,k',dj m t,ds,kind,base⟩ up h
 |none=>leave ⟨.run,fn,.code (.exit id)::k,t,ds,kind,base⟩ up h (.exit id)):=rfl
theorem ae5:fh P Γ (.fr ⟨.run,fn,.code .ret::k,t,ds,kind,base⟩ up h)=leave ⟨.run,fn,.code .ret::k,t,ds,kind,base⟩ up h .ret:=rfl
theorem afL:fh P Γ (.fr ⟨.run,fn,[],t,ds,kind,base⟩ up h)=leave ⟨.run,fn,[],t,ds,kind,base⟩ up h .none:=rfl
theorem aet:fh P Γ (.fr ⟨.run,fn,.ops []::k,t,ds,kind,base⟩ up h)=.fr ⟨.run,fn,k,t,ds,kind,base⟩ up h:=rfl
theorem afQ{d:Option Nat}{o:AO}{os:List AG}:fh P Γ (.fr ⟨.run,fn,.ops (⟨d,none,o⟩::os)::k,t,ds,kind,base⟩ up h)=
 fL P ⟨.run,fn,.ops (⟨d,none,o⟩::os)::k,t,ds,kind,base⟩ up h ⟨d,none,o⟩ os k (az P Γ t h o):=rfl
theorem afp{d:Option Nat}{j:Nat}{b:Bool}{o:AO}{os:List AG}:fh P Γ (.fr ⟨.run,fn,.ops (⟨d,some (j,b),o⟩::os)::k,t,ds,kind,base⟩ up h)=(match dM t (some (j,b))with
 |some true=>fL P ⟨.run,fn,.ops (⟨d,some (j,b),o⟩::os)::k,t,ds,kind,base⟩ up h ⟨d,some (j,b),o⟩ os k (az P Γ t h o)
 |some false=>.fr ⟨.run,fn,.ops os::k,aU t d (.aE []),ds,kind,base⟩ up h
 |none=>.bad):=rfl
theorem aez{m:List Bool}{b:al}:fh P Γ (.fr ⟨.run,fn,.code (.loop m b)::k,t,ds,kind,base⟩ up h)=.fr ⟨.run,fn,.code (.loop m b)::k,t,ds,kind,base⟩ up h:=rfl
theorem aaE{m:List Bool}{b:al}:fh P Γ (.fr ⟨.run,fn,.inLoop m b::k,t,ds,kind,base⟩ up h)=.fr ⟨.run,fn,.inLoop m b::k,t,ds,kind,base⟩ up h:=rfl
theorem ae1{l:List Bool}{ws:List Nat}{gs:List AG}:fh P Γ (.fr ⟨.run,fn,.code (.aX l ws gs)::k,t,ds,kind,base⟩ up h)=.fr ⟨.run,fn,.code (.aX l ws gs)::k,t,ds,kind,base⟩ up h:=rfl
theorem afD:fh P Γ (.fr ⟨.ret,fn,k,t,ds,kind,base⟩ up h)=nQ P Γ ⟨.ret,fn,k,t,ds,kind,base⟩ up h:=rfl
theorem afY{g:FuncId}{args:List AV}:fh P Γ (.cl g args up h)=.cl g args up h:=rfl
theorem aeG{c:Fr}{v:AV}:fh P Γ (.back (c::up) v h)=(match c.finish v with
 |some c'=>.fr c' up h
 |none=>.bad):=rfl
theorem acX{v:AV}:fh P Γ (.back [] v h)=.back [] v h:=rfl
theorem OU{m:List Bool}{b:al}{c:ar}(h1:Reach P Γ (.fr ⟨.run,fn,.code b::.inLoop m b::k,dj m t,ds,kind,base⟩ up h) c):Reach P Γ (.fr ⟨.run,fn,.code (.loop m b)::k,t,ds,kind,base⟩ up h) c:=.one h1
theorem Pj{m:List Bool}{b:al}{c:ar}(h1:Reach P Γ (.fr ⟨.run,fn,.code b::.inLoop m b::k,dj m t,ds,kind,base⟩ up h) c):Reach P Γ (.fr ⟨.run,fn,.inLoop m b::k,t,ds,kind,base⟩ up h) c:=.one h1
theorem Reach.Ik{f:FuncId}{args as:List AV}{r:AV}{c:ar}(h1:bV h args=some as)(h2:aP P Γ f as r)(h3:Reach P Γ (.back up (dB h.length r).1 (dV h args r)) c):Reach P Γ (.cl f args up h) c:=.trans (.pure h1 h2) h3
theorem Br{f:FuncId}{F:aH}(hF:aG P f=some F)(as:List AV){c:ar}(h1:Reach P Γ (.fr ⟨.run,f,[.code F.body],as++List.replicate (F.nt-as.length) .undef,[],.norm,h.length⟩ up h) c):Reach P Γ (.cl f as up h) c:=by
 refine .one ?_;simp only[fB,hF,enter];exact h1
end
def slot(t:List AV)(i:Nat):AV:=t.getD i .undef
@[simp] theorem avD(a:AV)(l:List AV):slot (a::l) 0=a:=rfl
@[simp] theorem avA(a:AV)(l:List AV)(n:Nat):slot (a::l) (n+1)=slot l n:=rfl
@[simp] theorem axb(t:List AV)(i:Nat):ax t (.t i)=slot t i:=rfl
@[simp] theorem aw9(t:List AV)(v:AV):ax t (.c v)=v:=rfl
@[simp] theorem aw8(t:List AV)(n:Nat):ax t (.g n)=.ei n 0:=rfl
@[simp] theorem aw4(t:List AV)(n:Nat):ax t (.f n)=.fn (.func n) [] []:=rfl
@[simp] theorem XC(t:List AV):dM t none=some true:=rfl
@[simp] theorem auX(t:List AV)(j:Nat)(b:Bool):dM t (some (j,b))=(match slot t j with
  |.bool x=>some (x==b)
  |.aE []=>some false
  |_=>none):=rfl
@[simp] theorem au8(Γ:Nat->Option AV)(t:List AV)(h:List Ob)(i:Nat):u5 Γ t h (.tmp i)=some (slot t i):=rfl
@[simp] theorem auR(Γ:Nat->Option AV)(t:List AV)(h:List Ob)(a sz:Nat)(g:Bool):u5 Γ t h (.cell a g sz)=qd Γ h g sz (slot t a):=rfl
@[simp] theorem avC(s:SK)(x y:AV):cw (.sc s) x y=fg s x y:=rfl
@[simp] theorem atV(t:TypeId)(v:AV):cw .iface .eH (.bK t v)=some false:=rfl
@[simp] theorem atU(t:TypeId)(v:AV):cw .iface (.bK t v) .eH=some false:=rfl
@[simp] theorem auL:cw .nil .dE .dE=some true:=rfl
@[simp] theorem auU(f:Fn)(a b:List AV):cw .nil .dE (.fn f a b)=some false:=rfl
@[simp] theorem au1(f:Fn)(a b:List AV):cw .nil (.fn f a b) .dE=some false:=rfl
attribute [simp] nY enter vr ig calm dh Ze ZA aeC afg afK ae2 ady Zs aed ae5 afL aet afQ afp aez aaE ae1 afD afY aeG acX az aU leave nQ BC sx qd vg cd eD dB sX AV.cells AV.ok over mQ b9 AV.one oX dj Fr.finish vh kp elems o_ cE gS bound bV view s6 pY jZ dV ek eN share fR rowsOf bO oH oY cr aK aL iK
@[simp] theorem av2(k:IntKind)(x y:Int):ie .add k x y=some (k.wrap (x+y)):=rfl
@[simp] theorem awa(k:IntKind)(x y:Int):ie .sub k x y=some (k.wrap (x-y)):=rfl
@[simp] theorem awe(k:IntKind)(x y:Int):ie .mul k x y=some (k.wrap (x*y)):=rfl
@[simp low] theorem av8(k:IntKind)(x y:Int):ie .quo k x y=if y=0 then none else some (k.wrap (x.tdiv y)):=rfl
@[simp low] theorem av3(k:IntKind)(x y:Int):ie .rem k x y=if y=0 then none else some (x.tmod y):=rfl
@[simp low] theorem avQ(k:IntKind)(x y:Int):ie .shr k x y=if y<0 then none else some (x.fdiv (2^(min y.toNat k.bits))):=rfl
@[simp low] theorem awb(k:IntKind)(x y:Int):ie .shl k x y=if y<0 then none else some (k.wrap (x*2^(min y.toNat k.bits))):=rfl
@[simp] theorem awq(a b:Int):na .eql a b=decide (a=b):=by rw[iB];simp[na]
@[simp] theorem av0(a b:Int):na .neq a b=!decide (a=b):=by rw[iB];simp[na]
@[simp] theorem av9(a b:Int):na .lss a b=decide (a<b):=rfl
@[simp] theorem av6(a b:Int):na .leq a b=decide (a<=b):=rfl
@[simp] theorem avS(a b:Int):na .gtr a b=decide (b<a):=rfl
@[simp] theorem av7(a b:Int):na .geq a b=decide (b<=a):=rfl
@[simp] theorem avI(k:IntKind)(a b:Int):fg .int (.int k a) (.int k b)=some (decide (a=b)):=by simp only[fg,cG,aj];rw[iB];simp
@[simp] theorem avi(a b:List UInt8):fg .str (.str a) (.str b)=some (decide (a=b)):=by simp only[fg,aj];rw[iB];simp
@[simp] theorem avf(a b:Bool):fg .bool (.bool a) (.bool b)=some (decide (a=b)):=by simp only[fg,aj];rw[iB];simp
theorem aeV{c d:UInt8}{m:Int}(h:(d.toNat:Int)=m):((c.toNat:Int)=m)↔c=d:=by
 subst h;rw[Int.ofNat_inj];exact⟨fun e=>UInt8.toNat_inj.1 e,fun e=>by rw[e]⟩
@[simp] theorem afk{c d:UInt8}:((c.toNat:Int)=(d.toNat:Int))↔c=d:=aeV rfl
theorem xK{m:Int}(h0:0<=m)(h1:m<256):((UInt8.ofNat m.toNat).toNat:Int)=m:=by
 rw[UInt8.toNat_ofNat_of_lt' (by simp[UInt8.size];omega)];omega
@[simp] theorem avK(c:UInt8)(m:Int)(h0:0<=m)(h1:m<256):((c.toNat:Int)=m)↔c=UInt8.ofNat m.toNat:=by rw[<-afk,xK h0 h1]
@[simp] theorem Qd{c d:UInt8}:((c.toNat:Int)<(d.toNat:Int))↔c<d:=by rw[Int.ofNat_lt];exact nE
@[simp] theorem Qc{c d:UInt8}:((c.toNat:Int)<=(d.toNat:Int))↔c<=d:=by rw[Int.ofNat_le];exact nE
@[simp] theorem avr(c:UInt8)(m:Int)(h0:0<=m)(h1:m<256):((c.toNat:Int)<m)↔c<UInt8.ofNat m.toNat:=by rw[<-Qd,xK h0 h1]
@[simp] theorem avy(c:UInt8)(m:Int)(h0:0<=m)(h1:m<256):((c.toNat:Int)<=m)↔c<=UInt8.ofNat m.toNat:=by rw[<-Qc,xK h0 h1]
@[simp] theorem avF(c:UInt8)(m:Int)(h0:0<=m)(h1:m<256):(m<(c.toNat:Int))↔UInt8.ofNat m.toNat<c:=by rw[<-Qd,xK h0 h1]
@[simp] theorem avz(c:UInt8)(m:Int)(h0:0<=m)(h1:m<256):(m<=(c.toNat:Int))↔UInt8.ofNat m.toNat<=c:=by rw[<-Qc,xK h0 h1]
@[simp] theorem awQ{c d:UInt8}:(c.toNat=d.toNat)↔c=d:=UInt8.toNat_inj
theorem wrap64{n:Int}(h1:-2^62<=n)(h2:n<=2^62):IntKind.i64.wrap n=n:=by
 rw[IntKind.wrap_i64];omega
abbrev o(d:Nat)(x:AO):AG:=⟨some d,none,x⟩
abbrev q(x:AO):AG:=⟨none,none,x⟩
abbrev oy(d j:Nat)(x:AO):AG:=⟨some d,some (j,true),x⟩
abbrev on(d j:Nat)(x:AO):AG:=⟨some d,some (j,false),x⟩
abbrev I:Bool:=true
abbrev O:Bool:=false
abbrev U:AV:=.undef
structure Cx where
 ds:List dG
 kind:FK
 base:Nat
 up:List Fr
abbrev cx:Cx:=⟨[],.norm,0,[]⟩
abbrev bl(fn:FuncId)(its:List It)(t:List AV)(h:List Ob)(e:Cx):ar:=.fr ⟨.run,fn,its,t,e.ds,e.kind,e.base⟩ e.up h
@[simp] def tight:List Bool->List AG->Bool
 |_,[]=>true
 |false::l,_::os=>tight l os
 |_,_=>false
def runN(P:Program)(Γ:Nat->Option AV):List AG->List AV->List Ob->Option (List AV×List Ob)
 |[],t,h=>some (t,h)
 |o::os,t,h=>
  match dM t o.guard with
  |some true=>match az P Γ t h o.op with
   |.val v h'=>runN P Γ os (aU t o.dst v) h'
   |.skip h'=>runN P Γ os (aU t o.dst (.aE [])) h'
   |_=>none
  |some false=>runN P Γ os (aU t o.dst (.aE [])) h
  |none=>none
theorem BL{P:Program}{Γ:Nat->Option AV}:∀{gs:List AG}{t:List AV}{h:List Ob}{p:List AV×List Ob},runN P Γ gs t h=some p->∃hs,ig P Γ [] gs t h=some (p.1,p.2,[],hs)
 |[],t,h,p,hr=>by simp only[runN,aj]at hr;subst hr;exact⟨[],rfl⟩
 |o::os,t,h,p,hr=>by
  unfold runN at hr;unfold ig
  cases hw:dM t o.guard with
  |none=>rw[hw]at hr;cases hr
  |some b=>
   rw[hw]at hr
   cases b with
   |false=>
    simp only at hr⊢;obtain⟨hs,h1⟩:=BL hr;exact⟨_,by rw[h1];rfl⟩
   |true=>
    simp only at hr⊢
    cases ha:az P Γ t h o.op with
    |val v h'=>
     rw[ha]at hr;simp only at hr⊢;obtain⟨hs,h1⟩:=BL hr;exact⟨_,by rw[h1];rfl⟩
    |skip h'=>
     rw[ha]at hr;simp only at hr⊢;obtain⟨hs,h1⟩:=BL hr;exact⟨_,by rw[h1];rfl⟩
    |_=>rw[ha]at hr;simp at hr
def zo(P:Program)(Γ:Nat->Option AV)(os:List AG)(d:Option Nat)(t:List AV):R->Option (List AV×List Ob)
 |.val v h'=>runN P Γ os (aU t d v) h'
 |.skip h'=>runN P Γ os (aU t d (.aE [])) h'
 |_=>none
def rj(P:Program)(Γ:Nat->Option AV)(l:List Bool)(gs:List AG)(t:List AV)(h:List Ob):Option (List AV×List Ob):=
 if tight l gs=true then runN P Γ gs t h else none
def stepG(P:Program)(Γ:Nat->Option AV)(st:Nat):ar->ar
 |.fr f up h=>match f.md with
  |.run=>match f.its with
   |.code (.loop m b)::k=>.fr {f with its:=.code (.loop m b)::k} up h
   |.inLoop m b::k=>.fr {f with its:=.inLoop m b::k} up h
   |.code (.aX l ws gs)::k=>match rj P Γ l gs f.t h with
    |some p=>.fr {f with its:=k,t:=p.1} up p.2
    |none=>.fr {f with its:=.code (.aX l ws gs)::k} up h
   |.code (.fG as gs)::k=>.fr {f with its:=.code (.fG as gs)::k} up h
   |.code (.exit id)::k=>match oX id k with
    |some (k',m)=>if st==1&&!m.isEmpty then .fr {f with its:=.code (.exit id)::k} up h else .fr {f with its:=k',t:=dj m f.t} up h
    |none=>leave f up h (.exit id)
   |its=>iD P Γ f up h its
  |_=>nQ P Γ f up h
 |.cl g args up h=>.cl g args up h
 |.back (c::up) v h=>if st==2 then .back (c::up) v h else match c.finish v with
  |some c'=>.fr c' up h
  |none=>.bad
 |.back [] v h=>.back [] v h
 |.die (c::up) v h=>if st==2 then .die (c::up) v h else match c.md with
  |.run=>.fr {c with md:=.cZ v false} up h
  |_=>.bad
 |.die [] v h=>.die [] v h
 |.bad=>.bad
theorem uZ{P:Program}{Γ:Nat->Option AV}{obls:List gn}{hs:List (List Ob)}:∀{gs:List AG}{l:List Bool}{ws:List Nat}{orc:List (AV×List Ob)}{t:List AV}{h:List Ob}{x},tight l gs=true->ig P Γ orc gs t h=some x->calm P Γ obls hs l ws orc gs t h
 |[],_,_,_,_,_,_,_,_=>trivial
 |o::os,[],ws,orc,t,h,x,hl,hr=>by simp[tight]at hl
 |o::os,true::l,ws,orc,t,h,x,hl,hr=>by simp[tight]at hl
 |o::os,false::l,ws,orc,t,h,x,hl,hr=>by
  simp only[tight]at hl;unfold calm;unfold ig at hr
  split at hr
  ·split at hr
   ·rename_i v h' ha;rw[bY]at hr;obtain⟨y,hy,_⟩:=hr;exact⟨fun hb=>(by cases hb),uZ hl hy⟩
   ·rename_i h' ha;rw[bY]at hr;obtain⟨y,hy,_⟩:=hr;exact uZ hl hy
   ·rename_i f args ha
    split at hr
    ·cases hr
    ·split at hr
     ·rw[bY]at hr;obtain⟨y,hy,_⟩:=hr;exact⟨fun hb=>(by cases hb),uZ hl hy⟩
     ·cases hr
   ·split at hr
    ·rw[bY]at hr;obtain⟨y,hy,_⟩:=hr;exact⟨rfl,uZ hl hy⟩
    ·cases hr
   ·cases hr
  ·rw[bY]at hr;obtain⟨y,hy,_⟩:=hr;exact uZ hl hy
  ·cases hr
theorem Reach.stepG{P:Program}{Γ:Nat->Option AV}{st:Nat}(c:ar):Reach P Γ c (AM.stepG P Γ st c):=by
 cases c with
 |fr f up h=>
  obtain⟨md,fn,its,t,ds,kind,base⟩:=f
  cases md with
  |run=>
   simp only[AM.stepG]
   split
   ·exact .refl _
   ·exact .refl _
   ·rename_i l ws gs k
    split
    ·rename_i p hp;unfold rj at hp
     split at hp
     ·rename_i ht;obtain⟨hs,hr⟩:=BL hp;exact .aX (f:=⟨.run,fn,.code (.aX l ws gs)::k,t,ds,kind,base⟩) rfl rfl hr (fun _ ho=>ho) (by simp) (uZ ht hr)
     ·cases hp
    ·exact .refl _
   ·exact .refl _
   ·rename_i id k
    split
    ·rename_i k' m he
     split
     ·exact .refl _
     ·refine .one ?_;simp only[fB,iD,he];exact .refl _
    ·rename_i he;refine .one ?_;simp only[fB,iD,he];exact .refl _
   ·exact .step _
  |ret=>exact .step _
  |cZ v rc=>exact .step _
 |cl g args up h=>exact .refl _
 |back up v h=>
  cases up with
  |nil=>exact .refl _
  |cons c up=>simp only[AM.stepG];split<;>first|exact .refl _|exact .step _
 |die up v h=>
  cases up with
  |nil=>exact .refl _
  |cons c up=>simp only[AM.stepG];split<;>first|exact .refl _|exact .step _
 |bad=>exact .refl _
def go(P:Program)(Γ:Nat->Option AV)(st:Nat):Nat->ar->ar
 |0,c=>c
 |n+1,c=>go P Γ st n (stepG P Γ st c)
theorem Reach.goes{P:Program}{Γ:Nat->Option AV}{st:Nat}:∀(n:Nat)(c:ar),Reach P Γ c (AM.go P Γ st n c)
 |0,c=>.refl c
 |n+1,c=>.trans (.stepG c) (Reach.goes n _)
theorem Reach.go{P:Program}{Γ:Nat->Option AV}(n:Nat){c c':ar}(h:Reach P Γ (AM.go P Γ 0 n c) c'):Reach P Γ c c':=.trans (Reach.goes n c) h
theorem Reach.bw{P:Program}{Γ:Nat->Option AV}(n:Nat){c c':ar}(h:Reach P Γ (AM.go P Γ 2 n c) c'):Reach P Γ c c':=.trans (Reach.goes n c) h
def pop:ar->ar
 |.back (c::up) v h=>match c.finish v with
  |some c'=>.fr c' up h
  |none=>.bad
 |.die (c::up) v h=>match c.md with
  |.run=>.fr {c with md:=.cZ v false} up h
  |_=>.bad
 |c=>c
@[simp] theorem awd{c:Fr}{up:List Fr}{v:AV}{h:List Ob}:pop (.back (c::up) v h)=(match c.finish v with
  |some c'=>.fr c' up h
  |none=>.bad):=(rfl)
@[simp] theorem awI{c:Fr}{up:List Fr}{v:AV}{h:List Ob}:pop (.die (c::up) v h)=(match c.md with
  |.run=>.fr {c with md:=.cZ v false} up h
  |_=>.bad):=(rfl)
theorem Reach.pop{P:Program}{Γ:Nat->Option AV}(c:ar):Reach P Γ c (AM.pop c):=by
 cases c with
 |back up v h=>cases up<;>first|exact .refl _|exact .step _
 |die up v h=>cases up<;>first|exact .refl _|exact .step _
 |_=>exact .refl _
theorem Reach.ey{P:Program}{Γ:Nat->Option AV}(n:Nat){c c':ar}(h:Reach P Γ (AM.go P Γ 1 n c) c'):Reach P Γ c c':=.trans (Reach.goes n c) h
section
variable{P:Program}{Γ:Nat->Option AV}{st:Nat}{n:Nat}{fn:FuncId}{k:List It}{t:List AV}{ds:List dG}{kind:FK}{base:Nat}{up:List Fr}{h h':List Ob}
theorem mG{c:ar}(hc:stepG P Γ st c=c):∀n,go P Γ st n c=c
 |0=>rfl
 |n+1=>by rw[go,hc];exact mG hc n
@[simp] theorem awE:go P Γ st (n+1) (.fr ⟨.run,fn,.code .skip::k,t,ds,kind,base⟩ up h)=go P Γ st n (.fr ⟨.run,fn,k,t,ds,kind,base⟩ up h):=(rfl)
@[simp] theorem awX{os:List AG}:go P Γ st (n+1) (.fr ⟨.run,fn,.code (.ae os)::k,t,ds,kind,base⟩ up h)=go P Γ st n (.fr ⟨.run,fn,.ops os::k,t,ds,kind,base⟩ up h):=(rfl)
@[simp] theorem awZ{a b:al}:go P Γ st (n+1) (.fr ⟨.run,fn,.code (.seq a b)::k,t,ds,kind,base⟩ up h)=go P Γ st n (.fr ⟨.run,fn,.code a::.code b::k,t,ds,kind,base⟩ up h):=(rfl)
@[simp] theorem awv{x:AX}{a b:al}:go P Γ st (n+1) (.fr ⟨.run,fn,.code (.cond x a b)::k,t,ds,kind,base⟩ up h)=go P Γ st n (match ax t x with
  |.bool v=>.fr ⟨.run,fn,.code (if v then a else b)::k,t,ds,kind,base⟩ up h
  |_=>.bad):=(rfl)
@[simp] theorem avX{id:Nat}{m:List Bool}{b:al}:go P Γ st (n+1) (.fr ⟨.run,fn,.code (.block id m b)::k,t,ds,kind,base⟩ up h)=go P Γ st n (.fr ⟨.run,fn,.code b::.inBlock id m::k,t,ds,kind,base⟩ up h):=(rfl)
@[simp] theorem avb{id:Nat}{m:List Bool}:go P Γ st (n+1) (.fr ⟨.run,fn,.inBlock id m::k,t,ds,kind,base⟩ up h)=go P Γ st n (.fr ⟨.run,fn,k,dj m t,ds,kind,base⟩ up h):=(rfl)
@[simp] theorem awG{id:Nat}:go P Γ st (n+1) (.fr ⟨.run,fn,.code (.exit id)::k,t,ds,kind,base⟩ up h)=go P Γ st n (match oX id k with
  |some (k',m)=>if st==1&&!m.isEmpty then .fr ⟨.run,fn,.code (.exit id)::k,t,ds,kind,base⟩ up h else .fr ⟨.run,fn,k',dj m t,ds,kind,base⟩ up h
  |none=>leave ⟨.run,fn,.code (.exit id)::k,t,ds,kind,base⟩ up h (.exit id)):=(rfl)
@[simp] theorem awS:go P Γ st (n+1) (.fr ⟨.run,fn,.code .ret::k,t,ds,kind,base⟩ up h)=go P Γ st n (leave ⟨.run,fn,.code .ret::k,t,ds,kind,base⟩ up h .ret):=(rfl)
@[simp] theorem aw1:go P Γ st (n+1) (.fr ⟨.run,fn,[],t,ds,kind,base⟩ up h)=go P Γ st n (leave ⟨.run,fn,[],t,ds,kind,base⟩ up h .none):=(rfl)
@[simp] theorem aws:go P Γ st (n+1) (.fr ⟨.run,fn,.ops []::k,t,ds,kind,base⟩ up h)=go P Γ st n (.fr ⟨.run,fn,k,t,ds,kind,base⟩ up h):=(rfl)
@[simp] theorem afj{d:Option Nat}{o:AO}{os:List AG}:go P Γ st (n+1) (.fr ⟨.run,fn,.ops (⟨d,none,o⟩::os)::k,t,ds,kind,base⟩ up h)=
  go P Γ st n (fL P ⟨.run,fn,.ops (⟨d,none,o⟩::os)::k,t,ds,kind,base⟩ up h ⟨d,none,o⟩ os k (az P Γ t h o)):=(rfl)
@[simp] theorem awR{d:Option Nat}{j:Nat}{b:Bool}{o:AO}{os:List AG}:go P Γ st (n+1) (.fr ⟨.run,fn,.ops (⟨d,some (j,b),o⟩::os)::k,t,ds,kind,base⟩ up h)=go P Γ st n (match dM t (some (j,b))with
  |some true=>fL P ⟨.run,fn,.ops (⟨d,some (j,b),o⟩::os)::k,t,ds,kind,base⟩ up h ⟨d,some (j,b),o⟩ os k (az P Γ t h o)
  |some false=>.fr ⟨.run,fn,.ops os::k,aU t d (.aE []),ds,kind,base⟩ up h
  |none=>.bad):=(rfl)
@[simp] theorem awM{m:List Bool}{b:al}:go P Γ st n (.fr ⟨.run,fn,.code (.loop m b)::k,t,ds,kind,base⟩ up h)=.fr ⟨.run,fn,.code (.loop m b)::k,t,ds,kind,base⟩ up h:=mG rfl n
@[simp] theorem avq{m:List Bool}{b:al}:go P Γ st n (.fr ⟨.run,fn,.inLoop m b::k,t,ds,kind,base⟩ up h)=.fr ⟨.run,fn,.inLoop m b::k,t,ds,kind,base⟩ up h:=mG rfl n
@[simp] theorem awJ{as:List (List Nat)}{gs:List AG}:go P Γ st n (.fr ⟨.run,fn,.code (.fG as gs)::k,t,ds,kind,base⟩ up h)=.fr ⟨.run,fn,.code (.fG as gs)::k,t,ds,kind,base⟩ up h:=mG rfl n
@[simp] theorem av1{l:List Bool}{ws:List Nat}{gs:List AG}:go P Γ st (n+1) (.fr ⟨.run,fn,.code (.aX l ws gs)::k,t,ds,kind,base⟩ up h)=(if tight l gs=true then(match runN P Γ gs t h with
  |some p=>go P Γ st n (.fr ⟨.run,fn,k,p.1,ds,kind,base⟩ up p.2)
  |none=>.fr ⟨.run,fn,.code (.aX l ws gs)::k,t,ds,kind,base⟩ up h)else .fr ⟨.run,fn,.code (.aX l ws gs)::k,t,ds,kind,base⟩ up h):=by
 split
 ·rename_i ht
  split
  ·rename_i p hr
   have hp:rj P Γ l gs t h=some p:=by simp only[rj,ht,cG,hr]
   simp only[go,stepG,hp]
  ·rename_i hr;refine mG ?_ _
   have hp:rj P Γ l gs t h=none:=by simp only[rj,ht,cG,hr]
   simp only[stepG,hp]
 ·rename_i ht;refine mG ?_ _
  have hp:rj P Γ l gs t h=none:=by simp[rj,ht]
  simp only[stepG,hp]
@[simp] theorem avW:runN P Γ [] t h=some (t,h):=(rfl)
@[simp] theorem awH{d:Option Nat}{o:AO}{os:List AG}:runN P Γ (⟨d,none,o⟩::os) t h=zo P Γ os d t (az P Γ t h o):=(rfl)
@[simp] theorem awk{d:Option Nat}{j:Nat}{b:Bool}{o:AO}{os:List AG}:runN P Γ (⟨d,some (j,b),o⟩::os) t h=(match dM t (some (j,b))with
  |some true=>zo P Γ os d t (az P Γ t h o)
  |some false=>runN P Γ os (aU t d (.aE [])) h
  |none=>none):=(rfl)
@[simp] theorem awp{os:List AG}{d:Option Nat}{v:AV}:zo P Γ os d t (.val v h)=runN P Γ os (aU t d v) h:=(rfl)
@[simp] theorem avE{os:List AG}{d:Option Nat}:zo P Γ os d t (.skip h)=runN P Γ os (aU t d (.aE [])) h:=(rfl)
@[simp] theorem avB{os:List AG}{d:Option Nat}{f:FuncId}{args:List AV}:zo P Γ os d t (.call f args)=none:=(rfl)
@[simp] theorem au6{f:Fr}{o:AG}{os:List AG}:fL P f up h o os k .either=.fr f up h:=(rfl)
@[simp] theorem adX{f:Fr}{o:AG}{os:List AG}{v:AV}:fL P f up h o os k (.val v h')=.fr ⟨f.md,f.fn,.ops os::k,aU f.t o.dst v,f.ds,f.kind,f.base⟩ up h':=(rfl)
@[simp] theorem abo{f:Fr}{o:AG}{os:List AG}:fL P f up h o os k (.skip h')=.fr ⟨f.md,f.fn,.ops os::k,aU f.t o.dst (.aE []),f.ds,f.kind,f.base⟩ up h':=(rfl)
@[simp] theorem awz{f:Fr}{o:AG}{os:List AG}{v:AV}:fL P f up h o os k (.cZ v)=.fr ⟨.cZ v false,f.fn,f.its,f.t,f.ds,f.kind,f.base⟩ up h:=(rfl)
@[simp] theorem awn{f:Fr}{o:AG}{os:List AG}{g:FuncId}{args:List AV}:fL P f up h o os k (.call g args)=if aA P g=true then .cl g args (f::up) h else .bad:=(rfl)
@[simp] theorem aww{f:Fr}{o:AG}{os:List AG}:fL P f up h o os k .rC=(match vr f up with
 |some (v,up')=>.fr {f with its:=.ops os::k,t:=aU f.t o.dst v} up' h
 |none=>.bad):=(rfl)
@[simp] theorem awP{f:Fr}{o:AG}{os:List AG}{g:FuncId}{args:List AV}:fL P f up h o os k (.bH g args)=(match f.kind with
  |.round _=>.bad
  |_=>.fr {f with its:=.ops os::k,t:=aU f.t o.dst (.aE []),ds:=.call g args::f.ds} up h):=(rfl)
@[simp] theorem avv{f:Fr}{o:AG}{os:List AG}{l:Nat}{args:List AV}:fL P f up h o os k (.yield l args)=(match h[l]? with
  |some (.loop _ _ fn t ps a b)=>
   if args.length=ps.length then
    .fr {md:=.run,fn:=fn,its:=[.code a,.beginRound,.code b],t:=lN t ps args,ds:=[],kind:=.round l,base:=h.length} (f::up) h
   else .bad
  |_=>.bad):=(rfl)
@[simp] theorem awx{f:Fr}{o:AG}{os:List AG}:fL P f up h o os k .bad=.bad:=(rfl)
@[simp] theorem aum{x:AX}{ps:List Nat}{m:List Bool}{a b:al}:go P Γ st (n+1) (.fr ⟨.run,fn,.code (.rangeFunc x ps m a b)::k,t,ds,kind,base⟩ up h)=go P Γ st n (match ax t x with
  |.fn (.func g) fs cs=>if aA P g=false then .bad else match kind with
   |.round _=>.cl g (fs++.c8 h.length::cs) (⟨.run,fn,.jO h.length::k,t,ds,kind,base⟩::up) (h++[.loop .ready .none fn (dj m t) ps a b])
   |_=>.cl g (fs++.c8 (h.length+1)::cs) (⟨.run,fn,.jO (h.length+1)::k,t,.mark h.length::ds,kind,base⟩::up) (h++[.bH true,.loop .ready .none fn (dj m t) ps a b])
  |_=>.bad):=(rfl)
@[simp] theorem atY:go P Γ st (n+1) (.fr ⟨.run,fn,.beginRound::k,t,ds,kind,base⟩ up h)=go P Γ st n (match kind with
  |.round l=>match h[l]? with
   |some (.loop .ready j fn' t' ps a b)=>.fr ⟨.run,fn,k,t,ds,kind,base⟩ up (h.set l (.loop .busy j fn' t' ps a b))
   |_=>.bad
  |_=>.bad):=(rfl)
@[simp] theorem auC{l:Nat}:go P Γ st (n+1) (.fr ⟨.run,fn,.uQ l::k,t,ds,kind,base⟩ up h)=go P Γ st n (match h[l]? with
  |some (.loop sta j fn' t' ps a b)=>
   if sta=.busy then .bad
   else .fr ⟨.run,fn,(match j with|.none=>k|.ret=>.code .ret::k|.exit id=>.code (.exit id)::k),t,ds,kind,base⟩ up (h.set l (.loop .exhausted j fn' t' ps a b))
  |_=>.bad):=(rfl)
@[simp] theorem awY:go P Γ st (n+1) (.fr ⟨.ret,fn,k,t,ds,kind,base⟩ up h)=go P Γ st n (nQ P Γ ⟨.ret,fn,k,t,ds,kind,base⟩ up h):=(rfl)
@[simp] theorem awU{v:AV}{rc:Bool}:go P Γ st (n+1) (.fr ⟨.cZ v rc,fn,k,t,ds,kind,base⟩ up h)=go P Γ st n (nQ P Γ ⟨.cZ v rc,fn,k,t,ds,kind,base⟩ up h):=(rfl)
@[simp] theorem aw3{g:FuncId}{args:List AV}:go P Γ st n (.cl g args up h)=.cl g args up h:=mG rfl n
@[simp] theorem awA{c:Fr}{v:AV}:go P Γ 0 (n+1) (.back (c::up) v h)=go P Γ 0 n (match c.finish v with
  |some c'=>.fr c' up h
  |none=>.bad):=(rfl)
@[simp] theorem awf{c:Fr}{v:AV}:go P Γ 1 (n+1) (.back (c::up) v h)=go P Γ 1 n (match c.finish v with
  |some c'=>.fr c' up h
  |none=>.bad):=(rfl)
@[simp] theorem awl{v:AV}:go P Γ 2 n (.back up v h)=.back up v h:=mG (by cases up<;>rfl) n
@[simp] theorem awh{v:AV}:go P Γ st n (.back [] v h)=.back [] v h:=mG rfl n
@[simp] theorem awT{c:Fr}{v:AV}:go P Γ 0 (n+1) (.die (c::up) v h)=go P Γ 0 n (match c.md with
  |.run=>.fr {c with md:=.cZ v false} up h
  |_=>.bad):=(rfl)
@[simp] theorem awr{c:Fr}{v:AV}:go P Γ 1 (n+1) (.die (c::up) v h)=go P Γ 1 n (match c.md with
  |.run=>.fr {c with md:=.cZ v false} up h
  |_=>.bad):=(rfl)
@[simp] theorem awL{v:AV}:go P Γ 2 n (.die up v h)=.die up v h:=mG (by cases up<;>rfl) n
@[simp] theorem awO{v:AV}:go P Γ st n (.die [] v h)=.die [] v h:=mG rfl n
@[simp] theorem awV:go P Γ st n .bad=.bad:=mG rfl n
@[simp] theorem awD{c:ar}:go P Γ st 0 c=c:=(rfl)
end
end Go.AM
namespace Go.AM
open Go.ChangeShapes Go.WideShapes Go.ChangeAt Go.RowKit
inductive Sh where
 |bool|str
 |int (k:IntKind)
 |list (k:Nat) (ag:Bool) (e:Sh)
 |parts (l:List Sh)
def kD:Bool->List AV->AV
 |true,cs=>.agg cs
 |false,[c]=>c
 |false,_=>.undef
mutual
def eP(B:Nat):Sh->List AV->Prop
 |.bool,cs=>∃b,cs=[.bool b]
 |.str,cs=>∃s:List UInt8,cs=[.str s]/\s.length<=B
 |.int k,cs=>∃n,cs=[.int k n]/\k.min<=n/\n<=k.max
 |.list k ag e,cs=>∃xs:List (List AV),cs=[.list false k (xs.map (kD ag))]/\xs.length<=B/\∀x∈xs,eP B e x/\x.length=k
 |.parts l,cs=>rl B l cs
def rl(B:Nat):List Sh->List AV->Prop
 |[],cs=>cs=[]
 |s::ss,cs=>∃a b,cs=a++b/\eP B s a/\rl B ss b
end
def iS(P:Program):Nat->TypeId->Option Sh
 |0,_=>none
 |n+1,t=>match P.underlying t with
  |some .bool=>some .bool
  |some .string=>some .str
  |some (.int k)=>some (.int k)
  |some (.slice e)=>match iS P n e,gf P e with
   |some s,some ag=>if P.cellsOf e=0\/(ag=false/\P.cellsOf e≠1)then none else some (.list (P.cellsOf e) ag s)
   |_,_=>none
  |some (.struct fs)=>(fs.toList.mapM fun f=>iS P n f.type).map .parts
  |some (.array m e)=>(iS P n e).map fun s=>.parts (List.replicate m s)
  |_=>none
def gw(w:World):G:={ρ:=fun _=>none,M:=fun b o=>w.cell? ⟨b,o,none⟩,MM:=fun b=>match w.heap[b]? with|some (.map es ck)=>some (es,ck)|_=>none}
structure Down{H:Type}(B:Nat)(Q:DataW H->Prop):Prop where
 sl:∀e r,Q (.slice e r)->e.length<=9223372036854775807->e.length<=B/\∀d∈e,Q d
 ag:∀ps,Q (.agg ps)->∀d∈ps,Q d
 st:∀b,Q (.lit (.string b))->b.length<=9223372036854775807->b.length<=B
section
variable{P:Program}{w:World}{H:Type}{enc:TypeId×Value->H}{sp:Nat->Bool}{T:TypeId->Prop}
def Rd(B:Nat)(w:World)(s:Sh)(cs:List Value):Prop:=∃as,eP B s as/\VL (gw w) [] as cs/\b9 as=true/\aL 0 as=true
theorem VP{as bs:List AV}(h1:b9 as=true)(h2:b9 bs=true):b9 (as++bs)=true:=by
 induction as with
 |nil=>simpa using h2
 |cons a as ih=>simp only[b9,ep,ay]at h1⊢;exact⟨h1.1,ih h1.2⟩
theorem Wx{n:Nat}{as bs:List AV}(h1:aL n as=true)(h2:aL n bs=true):aL n (as++bs)=true:=by
 induction as with
 |nil=>simpa using h2
 |cons a as ih=>simp only[aL,ep,ay]at h1⊢;exact⟨h1.1,ih h1.2⟩
theorem ZW{ag:Bool}{as:List AV}{k:Nat}(hk:as.length=k)(h1:ag=true\/k=1)(ho:b9 as=true):(kD ag as).cells=as:=by
 cases ag with
 |true=>rfl
 |false=>
  have:k=1:=by simpa using h1
  subst this
  match as,hk with
  |[c],_=>simp[kD];simp[b9]at ho;cases c<;>simp_all [AV.cells,AV.one]
theorem Kj{k:Nat}:∀{es fs:List AV},cr es k=true->cr fs k=true->cr (es++fs) k=true
 |[],_,_,h2=>by simpa using h2
 |e::es,fs,h1,h2=>by
  simp only[cr,ep,ay]at h1⊢;exact⟨h1.1,Kj h1.2 h2⟩
theorem ER{B:Nat}{n:Nat}{r:List Value->Sh->Prop}:∀(ss:List Sh)(css:List (List Value)),css.length=ss.length->(∀(i:Nat) s c,ss[i]? =some s->css[i]? =some c->Rd B w s c)->
 ∃as,rl B ss as/\VL (gw w) [] as css.flatten/\b9 as=true/\aL 0 as=true
 |[],css,hl,_=>by
  have:css=[]:=by simpa using hl
  subst this;exact⟨[],by simp[rl],by simp[VL],rfl,rfl⟩
 |s::ss,css,hl,hr=>by
  match css,hl with
  |c::css,hl=>
   obtain⟨a,h1,h2,h3,h4⟩:=hr 0 s c rfl rfl;obtain⟨b,h5,h6,h7,h8⟩:=ER (n:=n) (r:=r) ss css (by simpa using hl) (fun i s c hs hc=>hr (i+1) s c (by simpa using hs) (by simpa using hc));exact⟨a++b,by simp only[rl];exact⟨a,b,rfl,h1,h5⟩,by simpa using kR h2 h6,VP h3 h7,Wx h4 h8⟩
theorem FZ{α:Type}:∀(ns:List Nat)(cs:List α),cs.length=ns.sum->∃css:List (List α),css.length=ns.length/\css.flatten=cs/\∀(i n:Nat),ns[i]? =some n->css[i]? =some ((cs.drop (ns.take i).sum).take n)
 |[],cs,h=>⟨[],rfl,by simp at h;simp[h],by simp⟩
 |n::ns,cs,h=>by
  obtain⟨css,h1,h2,h3⟩:=FZ ns (cs.drop n) (by simp at h⊢;omega);refine⟨cs.take n::css,by simp[h1],by simp[h2],?_⟩;intro i m hi
  cases i with
  |zero=>simp at hi;subst hi;simp
  |succ i=>
   simp only[nC,TE,List.sum_cons]at hi⊢;rw[h3 i m hi,List.drop_drop]
theorem afy{B:Nat}{Q:DataW H->Prop}(K:Kids P T)(D:Down B Q):∀(n:Nat)(t:TypeId)(s:Sh),T t->iS P n t=some s->∀(fuel:Nat)(cs:List Value)(x:DataW H×List MemPlace),DataW.trod enc P w 0 sp true fuel t cs=some x->Q x.1->Rd B w s cs:=by
 intro n
 induction n with
 |zero=>intro t s _ hs;simp[iS]at hs
 |succ n ih=>
  intro t s hT hs fuel cs x hx hQ;unfold iS at hs
  split at hs
  ·rename_i hu
   cases hs
   obtain⟨b,rfl,_⟩:=DataW.trod_bool hu hx;exact⟨[.bool b],by simp[eP],by simp[VL,V],rfl,rfl⟩
  ·rename_i hu
   cases hs
   obtain⟨b,rfl,hxe,h⟩:=DataW.trod_string hu hx;refine⟨[.str b.data.toList],?_,by simp[VL,V],rfl,rfl⟩;simp only[eP];rw[hxe]at hQ;exact⟨_,rfl,D.st _ hQ (by simpa[maxLen]using h)⟩
  ·rename_i k hu
   cases hs
   obtain⟨i,rfl,_,h⟩:=DataW.trod_int hu hx;refine⟨[.int k i],?_,by simp[VL,V],rfl,rfl⟩;simp only[Lit.wf,ay,aW]at h;simp only[eP];exact⟨i,rfl,h.1,h.2⟩
  ·rename_i e hu
   split at hs
   ·rename_i se ag hse hag
    split at hs
    ·cases hs
    ·rename_i hk
     cases hs
     have hTe:=K.slice hT hu
     have hk0:0<P.cellsOf e:=by omega
     have hk1:ag=true\/P.cellsOf e=1:=by cases ag<;>simp_all
     rcases DataW.trod_slice hu hx with⟨rfl,_⟩|⟨a,len,cap,elems,rest,m,_,rfl,hxe,_,hlc,hcap,hel,hget,_⟩
     ·refine⟨[.list false (P.cellsOf e) []],?_,?_,rfl,rfl⟩
      ·simp only[eP];exact⟨[],rfl,by simp,by simp⟩
      ·simp[VL,V,cr]
     ·have hQ2:=D.sl (elems.map (·.1)) (rest.map (·.1)) (by rw[hxe]at hQ;exact hQ) (by rw[eb];simp[maxLen]at hcap;omega);rw[eb]at hQ2
      have key:∀q,q<=len->∃xs:List (List AV),xs.length=q/\(∀x∈xs,eP B se x/\x.length=P.cellsOf e)/\cr (xs.map (kD ag)) (P.cellsOf e)=true/\
       ∃vs,VE (gw w) [] (xs.map (kD ag)) vs/\vs.length=q*P.cellsOf e/\∀j(hj:j<vs.length),w.cell? (a.add j)=some vs[j]:=by
       intro q
       induction q with
       |zero=>intro _;exact⟨[],rfl,by simp,rfl,[],by simp[VE],by simp,by simp⟩
       |succ q ihq=>
        intro hq;obtain⟨xs,h1,h2,h3,vs,h4,h5,h6⟩:=ihq (by omega);have hg:=hget q (by omega);obtain⟨y,hy⟩:∃y,elems[q]? =some y:=⟨elems[q]'(by omega),aM (by omega)⟩;rw[hy,pw]at hg;obtain⟨c,hc,ht⟩:=hg;obtain⟨as,g1,g2,g3,g4⟩:=ih e se hTe hse _ _ _ ht (hQ2.2 _ (wk (iw hy)));unfold World.cells? at hc
        split at hc
        ·have hcl:c.length=P.cellsOf e:=by simpa using mapM_some_length hc
         have hal:as.length=P.cellsOf e:=by rw[<-fQ g2];exact hcl
         have hcells:=ZW hal hk1 g3;refine⟨xs++[as],by simp[h1],?_,?_,vs++c,?_,?_,?_⟩
         ·intro x hx
          rcases aN.1 hx with hx|hx
          ·exact h2 x hx
          ·simp at hx;subst hx;exact⟨g1,hal⟩
         ·rw[jK];refine Kj h3 ?_;simp only[bL,iT,cr,hcells,hal,g3,g4,decide_true,po]
         ·rw[jK];refine pG h4 ?_;simp only[bL,iT,VE]
          cases ag with
          |true=>exact⟨.agg c.toArray,[],by simp only[kD,V];exact⟨c,rfl,g2⟩,by simp[Value.cells],rfl⟩
          |false=>
           have hk2:P.cellsOf e=1:=by simpa using hk1
           match as,hal.trans hk2,c,hcl.trans hk2 with
           |[a1],_,[c1],_=>
            simp only[VL]at g2;obtain⟨v,_,h7,h8,h9⟩:=g2;subst h9
            cases h7
            refine⟨c1,[],h8,?_,rfl⟩
            have ho:a1.one=true:=by simpa[b9]using g3
            have:c1.cells=#[c1]:=by
             cases a1<;>simp[AV.one]at ho<;>simp only[V]at h8<;>first
              |(subst h8;rfl)
              |(obtain⟨_,_,_,rfl,_⟩:=h8;rfl)
              |(obtain⟨_,_,_,_,_,rfl⟩:=h8;rfl)
              |(obtain⟨_,_,_,_,_,_,rfl⟩:=h8;rfl)
              |(obtain⟨_,_,rfl,_⟩:=h8;rfl)
              |(obtain⟨_,rfl,_⟩:=h8;rfl)
              |(obtain⟨_,_,_,_,rfl⟩:=h8;rfl)
              |(simp[aK,aL]at g4)
              |(exfalso;simp_all [Dh,isCells,isMap,PJ,GP])
            simp[this]
         ·simp[h5,hcl];rw[fO];simp
         ·intro j hj;rw[List.getElem_append]
          split
          ·rename_i hjv;exact h6 j hjv
          ·rename_i hjv;have h7:=mapM_some_get hc (j-vs.length) (j-vs.length) (by rw[bq]at hj;rw[JJ (by omega)]);rw[aM (by simp at hj;omega)]at h7;rw[<-h7];congr 1
           have hadd:(a.add (q*P.cellsOf e)).add (j-vs.length)=a.add j:=by
            unfold Addr.add
            split<;>split<;>split<;>simp_all<;>omega
           rw[hadd]
        ·cases hc
      obtain⟨xs,h1,h2,h3,vs,h4,h5,h6⟩:=key len (aO _);refine⟨[.list false (P.cellsOf e) (xs.map (kD ag))],?_,?_,rfl,?_⟩
      ·simp only[eP];exact⟨xs,rfl,by omega,h2⟩
      ·simp only[VL,V];refine⟨_,[],rfl,⟨h3,some a,cap,by simp[h1],by simp,by simpa[h1]using hlc,?_⟩,rfl⟩
       by_cases hl:len=0
       ·subst hl;left;simpa using h1
       ·right
        have h0:0<vs.length:=by rw[h5];exact Nat.mul_pos (by omega) hk0
        have hs:=h6 0 h0
        have hsp:a.spot=none:=by
         unfold World.cell? Addr.add at hs;rw[if_pos rfl]at hs
         split at hs
         ·split at hs
          ·cases hs
          ·rename_i h8;simpa using h8
         ·cases hs
        obtain⟨b,o,sp'⟩:=a;simp only at hsp;subst hsp;refine⟨b,o,vs,rfl,h4,fun j hj=>?_⟩;have h9:=h6 j hj
        have:(⟨b,o,none⟩:Addr).add j=⟨b,o+j,none⟩:=by
         unfold Addr.add
         split<;>simp_all
        rw[this]at h9;exact h9
      ·simp only[aL,aK,po];exact jl h3
   ·cases hs
  ·rename_i fs hu;rw[bY]at hs;obtain⟨ss,hss,rfl⟩:=hs;obtain⟨hf,hsz,hoff⟩:=K.struct hT hu;obtain⟨xs,m,_,hxe,hcl,hxl,hget⟩:=DataW.trod_struct hu hx;have hQ2:=D.ag (xs.map (·.1)) (by rw[hxe]at hQ;exact hQ);obtain⟨css,h1,h2,h3⟩:=FZ (fs.toList.map fun f=>P.cellsOf f.type) cs (by rw[hcl,hsz]);have hssl:ss.length=fs.toList.length:=mapM_some_length hss
   obtain⟨as,g1,g2,g3,g4⟩:=ER (w:=w) (n:=0) (r:=fun _ _=>True) ss css (by rw[h1,hssl];simp) (by
    intro i s c hs hc
    have hi:i<fs.size:=by have:=ba hs;rw[hssl]at this;simpa using this
    obtain⟨f,hfi⟩:∃f,fs[i]? =some f:=⟨fs[i],by simp[hi]⟩
    have hfl:fs.toList[i]? =some f:=by simpa using hfi
    have h4:=h3 i (P.cellsOf f.type) (by simp[hfi]);rw[hc]at h4;have h4:=Option.some.inj h4;have h5:=hget i f hfi;rw[hoff i f hfl]at h5;have h6:=mapM_some_get hss i f hfl;rw[hs]at h6;have hxi:∃y,xs[i]? =some y:=⟨xs[i]'(by omega),aM (by omega)⟩;obtain⟨y,hy⟩:=hxi;rw[hy]at h5;subst h4;rw[<-List.map_take]
    exact ih f.type s (hf f (iw hfl)) h6 _ _ y h5 (hQ2 _ (wk (iw hy))))
   exact⟨as,by simpa only [eP]using g1,by rw[h2]at g2;exact g2,g3,g4⟩
  ·rename_i m e hu;rw[bY]at hs;obtain⟨s,hs,rfl⟩:=hs;obtain⟨hTe,hsz⟩:=K.array hT hu;obtain⟨xs,q,_,hxe,hcl,hxl,hget⟩:=DataW.trod_array hu hx;have hQ2:=D.ag (xs.map (·.1)) (by rw[hxe]at hQ;exact hQ);obtain⟨css,h1,h2,h3⟩:=FZ (List.replicate m (P.cellsOf e)) cs (by rw[hcl,hsz];simp)
   obtain⟨as,g1,g2,g3,g4⟩:=ER (w:=w) (n:=0) (r:=fun _ _=>True) (List.replicate m s) css (by rw[h1];simp) (by
    intro i s' c hs' hc
    have hi:i<m:=by have:=ba hs';simpa using this
    rw[JK]at hs';simp only[hi,cG,aj]at hs';subst hs';have h4:=h3 i (P.cellsOf e) (by simp[JK,hi]);rw[hc]at h4;have h4:=Option.some.inj h4;have h5:=hget i hi;obtain⟨y,hy⟩:∃y,xs[i]? =some y:=⟨xs[i]'(by omega),aM (by omega)⟩;rw[hy]at h5;subst h4
    have he:(List.take i (List.replicate m (P.cellsOf e))).sum=i*P.cellsOf e:=by simp[List.take_replicate,qH (Nat.le_of_lt hi)]
    rw[he]
    exact ih e s hTe hs _ _ y h5 (hQ2 _ (wk (iw hy))))
   exact⟨as,by simpa only [eP]using g1,by rw[h2]at g2;exact g2,g3,g4⟩
  ·cases hs
end
def TS(P:Program)(t:TypeId):Prop:=t<P.types.size/\∃n,(iS P n t).isSome=true
theorem adI{P:Program}(hl:laidOutB P=true)(hm:mapsRowed P=true):Kids P (TS P):=by
 have K:=kids_rows hl hm;refine⟨fun{t e} ht hu=>?_,fun{t e} ht hu=>?_,fun{t e n} ht hu=>?_,fun{t fs} ht hu=>?_,fun{t k e} ht hu=>?_⟩
 ·obtain⟨_,n,hn⟩:=ht
  cases n<;>simp[iS,hu]at hn
 ·obtain⟨h1,n,hn⟩:=ht;refine⟨K.slice h1 hu,?_⟩
  cases n with
  |zero=>simp[iS]at hn
  |succ n=>
   simp only[iS,hu]at hn
   split at hn
   ·rename_i h2 _;exact⟨n,by simp[h2]⟩
   ·cases hn
 ·obtain⟨h1,m,hn⟩:=ht;refine⟨⟨(K.array h1 hu).1,?_⟩,(K.array h1 hu).2⟩
  cases m with
  |zero=>simp[iS]at hn
  |succ m=>simp only[iS,hu,Option.isSome_map]at hn;exact⟨m,hn⟩
 ·obtain⟨h1,n,hn⟩:=ht;refine⟨fun f hf=>⟨(K.struct h1 hu).1 f hf,?_⟩,(K.struct h1 hu).2⟩
  cases n with
  |zero=>simp[iS]at hn
  |succ n=>
   simp only[iS,hu,Option.isSome_map]at hn;obtain⟨ss,hss⟩:=JC.1 hn;obtain⟨i,hi⟩:=wi.1 hf;have:=mapM_some_get hss i f hi;have hlen:=mapM_some_length hss
   have hlt:i<ss.length:=by rw[hlen];exact ba hi
   exact⟨n,by rw[this,aM hlt];rfl⟩
 ·obtain⟨_,n,hn⟩:=ht
  cases n<;>simp[iS,hu]at hn
def pU(B:Nat):List (Bool×Sh)->List AV->Prop
 |[],as=>as=[]
 |(ag,s)::r,as=>∃cs as',as=kD ag cs::as'/\eP B s cs/\(ag=false->cs.length=1)/\pU B r as'
def Dn(P:Program)(t:TypeId):Option (Bool×Sh):=match gf P t,iS P 12 t with
 |some ag,some s=>some (ag,s)
 |_,_=>none
section
variable{P:Program}{W:World}{H:Type}{enc:TypeId×Value->H}{sp:Nat->Bool}
theorem Pn{B:Nat}{Q:DataW H->Prop}(K:Kids P (TS P))(D:Down B Q):∀{ts:List TypeId}{shs:List (Bool×Sh)}{vs:List Value}{ds:List (DataW H)}{ps:List MemPlace},(∀t∈ts,t<P.types.size)->ts.mapM (Dn P)=some shs->
 (∀(j:Nat) t v,ts[j]? =some t->vs[j]? =some v->∃r base,Value.okWide P W r base t v)->DataW.TrodAll enc P W 0 sp true ts vs ds ps->(∀d∈ds,Q d)->∃as,pU B shs as/\VL (gw W) [] as vs
 |[],shs,vs,ds,ps,_,hs,_,hT,_=>by
  obtain⟨rfl,_,_⟩:=trodAll_nil hT;simp at hs;subst hs;exact⟨[],by simp[pU],by simp[VL]⟩
 |t::ts,shs,vs,ds,ps,hlt,hs,hok,hT,hQ=>by
  obtain⟨v,vs1,d,ds1,a,b,rfl,rfl,rfl,h1,h2⟩:=trodAll_cons hT;simp only[tz,qN,pw,Option.pure_def,aj]at hs;obtain⟨x,hx,ys,hys,rfl⟩:=hs;obtain⟨as,g1,g2⟩:=Pn K D (fun t ht=>hlt t (dP _ ht)) hys (fun j t v h3 h4=>hok (j+1) t v (by simpa using h3) (by simpa using h4)) h2 (fun d hd=>hQ d (dP _ hd));unfold Dn at hx
  split at hx
  ·rename_i ag s hag hsh
   cases hx
   obtain⟨fuel,hf⟩:=h1;obtain⟨cs,h3,h4,h5,h6⟩:=afy K D 12 t s ⟨hlt t (by simp),12,by simp[hsh]⟩ hsh _ _ _ hf (hQ _ (ov ..));obtain⟨r,base,hokv⟩:=hok 0 t v rfl rfl
   cases ag with
   |true=>
    have hv:∃c,v=.agg c:=by
     unfold gf at hag;unfold Value.okWide at hokv
     cases hu:P.underlying t with
     |none=>simp[hu]at hag
     |some d=>
      rw[hu]at hag hokv
      cases d<;>simp at hag<;>(obtain⟨c,rfl,_⟩:=hokv;exact⟨c,rfl⟩)
    obtain⟨c,rfl⟩:=hv;refine⟨.agg cs::as,by simp only[pU];exact⟨cs,as,rfl,h3,by simp,g1⟩,?_⟩;simp only[VL,V];exact⟨_,_,rfl,⟨c.toList,by simp,by simpa[Value.cells]using h4⟩,g2⟩
   |false=>
    have hv:v.cells=#[v]:=by
     unfold gf at hag
     cases v with
     |agg c=>
      exfalso
      cases fuel with
      |zero=>simp[DataW.trod]at hf
      |succ n=>
      cases hu:P.underlying t with
      |none=>simp[hu]at hag
      |some d=>
       rw[hu]at hag;unfold Value.okWide at hokv;rw[hu]at hokv
       cases d<;>simp at hag<;>simp[Cell.okWide,Cell.ok,hu]at hokv
       all_goals (unfold iS at hsh;rw[hu]at hsh;simp at hsh)
     |_=>rfl
    rw[hv]at h4
    have hlen:cs.length=1:=by rw[<-fQ h4];rfl
    match cs,hlen with
    |[c],_=>
     simp only[VL]at h4;obtain⟨u,us,h7,h8,h9⟩:=h4
     cases h7
     refine⟨c::as,by simp only[pU];exact⟨[c],as,rfl,h3,fun _=>rfl,g1⟩,?_⟩;simp only[VL];exact⟨_,_,rfl,h8,g2⟩
  ·cases hx
theorem X5:∀{shs:List (Bool×Sh)}{as:List AV}{vs:List Value},VL (gw W) [] as vs->aL 0 as=true
 |_,_,_,h=>by simpa using di h
theorem EH{B:Nat}{Q:DataW H->Prop}(D:Down B Q){f:FuncId}{fn:Func}{s:ChangeSpec}{Γ:Nat->Option AV}{tb:TypeId}{shs:List (Bool×Sh)}(hl:laidOutB P=true)(hm:mapsRowed P=true)(hres:fn.resultTypes=#[tb])(htb:P.underlying tb=some .bool)
 (hlt:∀t∈fn.params.toList,t<P.types.size)(hsh:fn.params.toList.mapM (Dn P)=some shs)(hvars:s.vars=[])
 (hspec:∀ds:List (DataW H),ds.length=fn.params.size->(s.fn H ds).results=[.lit (.bool true)]/\(s.fn H ds).args=ds/\(s.fn H ds).vars=[])
 (hΓ:∀n a,Γ n=some a->aL 0 a.cells=true/\∃vs,VL (gw W) [] a.cells vs/\∀j(hj:j<vs.length),W.cell? ⟨n,j,none⟩=some vs[j])
 (hpin:Hn Γ {K:=fun b=>W.heap[b]?,M0:=(gw W).M,MM:=(gw W).MM,w0:=W})
 (Ik:∀as,pU B shs as->aP P Γ f as (.bool true))
 {base:Nat}{args:Array Value}{ds gs:List (DataW H)}{before:List MemPlace}
 (hval:∀(j:Nat) t v,fn.params[j]? =some t->args[j]? =some v->Value.okWide P W .any base t v)
 (hW:DataW.Whole enc P fn.params.toList s.vars false W args.toList ds gs before)(hQ:∀d∈ds,Q d):
 Calls P f args W fun e W'=>∃v,e=.returned v/\s.post enc P fn false true false false W args v W':=by
 have K:=adI hl hm;have hW':=hW;obtain⟨p,q,hA,hV,rfl,hfz,hnd⟩:=hW;rw[hvars]at hV;obtain⟨rfl,rfl⟩:=trodVars_none hV;obtain⟨as,h1,h2⟩:=Pn K D hlt hsh (fun j t v hj hv=>⟨_,_,hval j t v (by simpa using hj) (by simpa using hv)⟩) hA hQ
 have hI:Inv P Γ {K:=fun b=>W.heap[b]?,M0:=(gw W).M,MM:=(gw W).MM,w0:=W} (gw W) [] W:=by
  refine⟨rfl,rfl,rfl,fun b o hb=>hb,fun i b x hi=>(by cases hi),fun i j b x y hi=>(by cases hi),fun _ _=>rfl,fun b o v hv=>hv,?_,fun i b sz st o v hi=>(by cases hi),fun i o hi=>(by simp at hi),hΓ,
   fun b o v B hv _=>hv,rfl,hpin⟩
  intro b es ck hb;simp only[gw]at hb
  split at hb
  ·rename_i es' ck' hh
   cases hb
   exact⟨hh,fun i x hi=>(by cases hi)⟩
  ·cases hb
 have hC:=(Ik as h1).2 (X5 (shs:=shs) h2) _ _ [] W args.toList hI h2;rw[Array.toArray_toList]at hC;refine hC.mono ?_
 rintro e W' ⟨u,g',rfl,_,hI',hu,_,_,hheap⟩
 simp only[dB,eD,V]at hu;subst hu;refine⟨_,rfl,ds,[],p++[],[],p,[],hW',?_,?_,?_,?_,fun h=>by cases h⟩
 ·have hlen:ds.length=fn.params.size:=by
   have:=(trodAll_length hA).2;simpa using this
  rw[eR,(hspec ds hlen).1,hres];exact trodAll_cons_mk (shut_bool htb _) trodAll_mk0
 ·have hlen:ds.length=fn.params.size:=by
   have:=(trodAll_length hA).2;simpa using this
  rw[eR,(hspec ds hlen).2.1];have hp:∀x∈p,x.block<W.heap.size:=hA.lt
  have key:∀{ts:List TypeId}{vs:List Value}{ds:List (DataW H)}{ps:List MemPlace},(∀t∈ts,TS P t)->(∀x∈ps,x.block<W.heap.size)->DataW.TrodAll enc P W 0 (fun _=>true) true ts vs ds ps->
   DataW.TrodAll enc P W' 0 (fun b=>decide (b<W.heap.size)) true ts vs ds ps:=by
   intro ts
   induction ts with
   |nil=>
    intro vs ds ps _ _ hT;obtain⟨rfl,rfl,rfl⟩:=trodAll_nil hT;exact trodAll_mk0
   |cons t ts ih=>
    intro vs ds ps ht hb hT;obtain⟨v,vs1,d,ds1,a,b,rfl,rfl,rfl,h3,h4⟩:=trodAll_cons hT;obtain⟨fuel,hf⟩:=h3;refine trodAll_cons_mk ⟨fuel,DataW.trod_stays K ?_ (by simp) (ht t (by simp)) hf ?_ ?_⟩ (ih (fun t' ht'=>ht t' (dP _ ht')) (fun x hx=>hb x (by simp[hx])) h4)
    ·intro t e ht' hu;obtain⟨_,n,hn⟩:=ht'
     cases n with
     |zero=>simp[iS]at hn
     |succ n=>
      simp only[iS,hu]at hn
      split at hn
      ·split at hn
       ·cases hn
       ·rename_i h5;omega
      ·cases hn
    ·intro x hx;have hxb:=hb x (by simp[hx])
     cases x with
     |cell b o=>simp only[World.sameAt,World.cell?];rw[hheap b hxb]
     |map b=>simp only[World.sameAt];exact hheap b hxb
    ·intro x hx;have hxb:=hb x (by simp[hx]);simpa using hxb
  refine key (fun t ht=>⟨hlt t ht,?_⟩) hp hA;obtain⟨i,hi⟩:=wi.1 ht;have h3:=mapM_some_get hsh i t hi
  have hl3:i<shs.length:=by rw[mapM_some_length hsh];exact ba hi
  rw[aM hl3]at h3;unfold Dn at h3
  split at h3
  ·rename_i h4;exact⟨12,by simp[h4]⟩
  ·cases h3
 ·have hlen:ds.length=fn.params.size:=by
   have:=(trodAll_length hA).2;simpa using this
  rw[eR,(hspec ds hlen).2.2,hvars];rfl
 ·refine⟨hI'.os,hI'.output,fun i hi=>?_⟩;rw[hheap i hi];have:=(World.keptBut_refl W (fun p_1=>p_1∈p++[]/\(p_1∈[]\/p_1∈p\/p_1∈[]))).2.2 i hi;exact this
end
theorem xR{α β γ:Type}{f:α->γ}{e:β->γ}:∀{xs:List α},(∀x∈xs,∃t,f x=e t)->∃ts:List β,xs.map f=ts.map e/\ts.length=xs.length
 |[],_=>⟨[],rfl,rfl⟩
 |x::xs,h=>by
  obtain⟨t,ht⟩:=h x (by simp);obtain⟨ts,h1,h2⟩:=xR (xs:=xs) (e:=e) (fun y hy=>h y (dP _ hy));exact⟨t::ts,by simp[ht,h1],by simp[h2]⟩
end Go.AM
namespace Go.AM
open Go.RowKit
theorem drop_eq{α:Type}{a b:List α}{i:Nat}(h1:i<a.length)(h2:i<b.length):(a.drop i=b.drop i)↔(a[i]=b[i]/\a.drop (i+1)=b.drop (i+1)):=by
 rw[bZ h1,bZ h2,zU]
@[simp] theorem avT{α:Type}(n:Nat)(f:α->AV)(l:List α):aL n (l.map f)=l.all fun x=>aK n (f x):=by
 induction l with
 |nil=>rfl
 |cons a l ih=>simp[aL,ih]
@[simp] theorem avO{α:Type}(f:α->AV)(l:List α):eN (l.map f)=l.all fun x=>ek (f x):=by
 induction l with
 |nil=>rfl
 |cons a l ih=>simp[eN,ih]
@[simp] theorem auF(a b:List AV):eN (a++b)=(eN a&&eN b):=by
 induction a with
 |nil=>simp[eN]
 |cons x a ih=>simp[eN,ih,px]
@[simp] theorem avV{α β:Type}(f:α->β)(l:List α):(l.map f).take l.length=l.map f:=by rw[cJ];simp
@[simp] theorem Ek(n:Nat)(a b:List AV):aL n (a++b)=(aL n a&&aL n b):=by
 induction a with
 |nil=>simp[aL]
 |cons x a ih=>simp[aL,ih,px]
@[simp] theorem aw0{c:Prop}[Decidable c]{r:R}(h:c):(if c then r else R.bad)=r:=if_pos h
@[simp] theorem awu{c:Prop}[Decidable c]{α:Type}{x:α}(h:c):(if c then some x else none)=some x:=if_pos h
@[simp] theorem natCast_eq(a b:Nat):((a:Int)=(b:Int))↔a=b:=by omega
@[simp] theorem toNat_add{x y:Int}(h1:0<=x)(h2:0<=y):(x+y).toNat=x.toNat+y.toNat:=by omega
@[simp] theorem toNat_sub{x y:Int}(h2:0<=y):(x-y).toNat=x.toNat-y.toNat:=by omega
attribute [simp] lj kC gk pd rh cI hY gE jd cW ji o8 Cr cH l_ n8 wrap64 qL nC
@[simp] theorem au4{P:Program}{Γ:Nat->Option AV}(c:ar):Reach P Γ c c:=.refl c
section
variable{P:Program}{Γ:Nat->Option AV}
theorem PZ{g:G}{h:List Ob}{s:List UInt8}{as:List AV}{us:List Value}(hv:VL g h (.str s::as) us):∃us',us=.string ⟨s.toArray⟩::us'/\VL g h as us':=by
 simp only[VL,V]at hv;obtain⟨v,us',rfl,rfl,h2⟩:=hv;exact⟨us',rfl,h2⟩
theorem ad4{g:G}{h:List Ob}{k:IntKind}{n:Int}{as:List AV}{us:List Value}(hv:VL g h (.int k n::as) us):∃us',us=.int k n::us'/\VL g h as us':=by
 simp only[VL,V]at hv;obtain⟨v,us',rfl,rfl,h2⟩:=hv;exact⟨us',rfl,h2⟩
theorem OG{g:G}{h:List Ob}{us:List Value}(hv:VL g h [] us):us=[]:=by simpa only [VL]using hv
theorem Reach.afT{f:FuncId}{args as:List AV}{v:AV}{up:List Fr}{h:List Ob}{c:ar}(h1:bV h args=some as)(h2:lP P Γ f as v)(h3:Reach P Γ (.die up v h) c):Reach P Γ (.cl f args up h) c:=.trans (.Hr h1 h2) h3
theorem Reach.call(n:Nat){f:FuncId}{args as:List AV}{r:AV}{up:List Fr}{h:List Ob}{c:ar}(h1:bV h args=some as)(h2:aP P Γ f as r)(h3:Reach P Γ (AM.go P Γ 0 n (.back up (dB h.length r).1 (dV h args r))) c):Reach P Γ (.cl f args up h) c:=.Ik h1 h2 (.go n h3)
theorem Reach.lV(n:Nat){f:FuncId}{args as:List AV}{v:AV}{up:List Fr}{h:List Ob}{c:ar}(h1:bV h args=some as)(h2:lP P Γ f as v)(h3:Reach P Γ (AM.go P Γ 0 n (.die up v h)) c):Reach P Γ (.cl f args up h) c:=.afT h1 h2 (.go n h3)
def pa(gs:List AG):List (List Nat):=(List.range gs.length).map fun i=>(List.range i).filter fun j=>match gs[i]?,gs[j]? with
 |some gi,some gj=>(match gj.dst with
  |some d=>(sA gi).contains d
  |none=>false)
 |_,_=>false
theorem O3{ops:Array Oper}{dep:List (List Nat)}(hed:oL ops=true)(hdl:dep.length=ops.size)(hda:∀i j,j∈dep.getD i []->ly ops j i=true):∀(fuel n:Nat)(listed:Array Bool)(done:List Nat),listed.size=ops.size->(∀i,i<ops.size->listed.getD i true=done.contains i)->Cc ops listed->left ops.size listed=fuel->
 Region.linearise.go .any ops fuel n listed []∈fU dep fuel done
 |0,n,listed,done,_,_,_,_=>by simp[Region.linearise.go,fU]
 |fuel+1,n,listed,done,hsz,hd,hcl,hl=>by
  have hed1:∀i(h:i<ops.size),∀e∈(ops[i]).after.toList,Region.binds .any e=true->e.on<i:=by
   intro i h e he hb;simp only[oL,dU]at hed;have h6:=hed (ops[i],i) (by rw[TH];simp[h]);rw[<-rS,dU]at h6;have h7:=h6 e he;rw[hb]at h7;simpa using h7
  have hne:0<((List.range ops.size).filter fun i=>!listed.getD i true&&((ops[i]?).map (·.after.all fun e=>!Region.binds .any e||listed.getD e.on false)).getD false).length:=by
   have hex:∃i,i<ops.size/\listed.getD i true=false:=by
    unfold left at hl;obtain⟨i,hi⟩:=JI (l:=(List.range ops.size).filter fun i=>!listed.getD i true) (by omega);simp only[du,dL,iA]at hi;exact⟨i,hi⟩
   have hmin:∀m i,i<=m->i<ops.size->listed.getD i true=false->∃i,i<ops.size/\listed.getD i true=false/\∀j,j<i->listed.getD j true=true:=by
    intro m
    induction m with
    |zero=>intro i h1 h2 h3;exact⟨i,h2,h3,fun j hj=>by omega⟩
    |succ m ihm=>
     intro i h1 h2 h3
     by_cases h4:∃j,j<i/\listed.getD j true=false
     ·obtain⟨j,h5,h6⟩:=h4;exact ihm j (by omega) (by omega) h6
     ·refine⟨i,h2,h3,fun j hj=>?_⟩
      cases hq:listed.getD j true with
      |true=>rfl
      |false=>exact absurd ⟨j,hj,hq⟩ h4
   obtain⟨i0,h1,h2⟩:=hex;obtain⟨i,h3,h4,h5⟩:=hmin i0 i0 (aO _) h1 h2;refine DD (a:=i) ?_;simp only[du,dL,h4,wc,rR,jL h3,dO,jJ];refine⟨h3,?_⟩;rw[<-rS,dU];intro e he
   cases hb:Region.binds .any e with
   |false=>rfl
   |true=>
    have h7:=hed1 i h3 e he hb;simp only[qJ,oo];rw[u0 (by omega) false true];exact h5 _ h7
  simp only[Region.linearise.go,fU];generalize hrs:((List.range ops.size).filter fun i=>!listed.getD i true&&((ops[i]?).map (·.after.all fun e=>!Region.binds .any e||listed.getD e.on false)).getD false)=rs at hne⊢;have hlt:n%rs.length<rs.length:=Nat.mod_lt _ hne;rw[aM hlt];generalize hri:rs[n%rs.length]=i
  have him:i∈rs:=by rw[<-hri];exact bF hlt
  have him2:=him;rw[<-hrs]at him2;simp only[du,dL,ay,iA]at him2;obtain⟨h1,h2,h3⟩:=him2;rw[jL h1,dO,jJ]at h3
  have hedge:∀e∈(ops[i]).after.toList,Region.binds .any e=true->listed.getD e.on false=true:=by
   intro e he hb;rw[<-rS,dU]at h3;have:=h3 e he;rw[hb]at this;simpa using this
  have hready:i∈(List.range dep.length).filter (kY dep done):=by
   simp only[du,dL,kY,ay,iA,hdl];refine⟨h1,by rw[<-hd i h1];exact h2,?_⟩;rw[dU];intro j hj;have h4:=ED hcl i i j (aO _) ⟨ops[i],jL h1,hedge⟩ (hda i j hj)
   have hjs:j<ops.size:=by
    rw[<-hsz]
    refine z7 fun hn=>?_
    rw[gN,pk (by omega)]at h4
    cases h4
   rw[<-hd j hjs,<-u0 (by omega) false true];exact h4
  have h2':listed.getD i true=false:=h2;simp only;rw[linearise_go_acc,TI,tB];refine nD.2 ⟨i,hready,b_.2 ⟨_,O3 hed hdl hda fuel _ _ _ (by simpa using hsz) ?_ ?_ ?_,rfl⟩⟩
  ·intro j hj;simp only[gN,tF]
   by_cases hij:i=j
   ·subst hij;simp[hsz,h1]
   ·rw[if_neg hij];have:=hd j hj;rw[gN]at this;rw[this];simp[Ne.symm hij]
  ·intro j o ho hj e he hb
   have hset:∀q,listed.getD q false=true->(listed.setIfInBounds i true).getD q false=true:=by
    intro q hq;simp only[gN,tF]at hq⊢
    by_cases hiq:i=q
    ·subst hiq;simp[hsz,h1]
    ·rw[if_neg hiq];exact hq
   refine hset _ ?_
   by_cases hij:i=j
   ·subst hij;rw[jL h1]at ho
    cases ho
    exact hedge e he hb
   ·refine hcl j o ho ?_ e he hb;simp only[gN,tF,if_neg hij]at hj⊢;exact hj
  ·have:=Fw h1 h2';omega
theorem aaW{ops:Array Oper}{gs:List AG}(hok:uW ops gs=true)(hlen:gs.length=ops.size)(i j:Nat)(hj:j∈(pa gs).getD i []):ly ops j i=true:=by
 by_cases hi:i<gs.length
 ·have e:(pa gs).getD i []=(List.range i).filter fun j=>match gs[i]?,gs[j]? with
   |some gi,some gj=>(match gj.dst with
    |some d=>(sA gi).contains d
    |none=>false)
   |_,_=>false:=by
   simp[pa,bj,hi]
  rw[e]at hj;simp only[du,dL]at hj;obtain⟨hji,hj⟩:=hj;simp only[uW,dU,dL]at hok;have h1:=hok i hi;rw[aM hi]at h1 hj;simp only[ay,dU,dL]at h1;have h2:=h1.2 j hji;rw[aM (by omega:j<gs.length)]at h2 hj;simp only at h2 hj
  cases hd:(gs[j]'(by omega)).dst with
  |none=>rw[hd]at hj;cases hj
  |some d=>
   rw[hd]at hj;simp only[mL,hd,hj,qJ,Bool.false_and,Bool.or_false,ay]at h2;exact h2.2
 ·rw[bj,fu (by simp[pa];omega)]at hj;simp at hj
theorem Lf{P:Program}{Γ:Nat->Option AV}{N:Env}{g0:G}{f0:FuncId}{cs0:List Frame}{f:Fr}{up:List Fr}{h:List Ob}{l:List Bool}{ws:List Nat}{gs:List AG}{k:List It}(hmd:f.md=.run)(hits:f.its=.code (.aX l ws gs)::k){m:Machine}(hm:cS P Γ N g0 f0 cs0 (.fr f up h) m):
 ∃lst∈fU (pa gs) gs.length [],∃m1,Steps P m m1/\cS P Γ N g0 f0 cs0 (.fr {f with its:=.ops (lst.map fun i=>gs.getD i default)::k} up h) m1:=by
 obtain⟨g,w,tmps,todo,ds,kd,ro,md,fs,rfl,S,hmr⟩:=hm.inv;rw[hmd]at hmr;simp only[MR]at hmr;subst hmr;have hI:=S.its;rw[hits]at hI
 cases todo with
 |nil=>simp only[IR]at hI
 |cons im k'=>
 cases im<;>simp only[IR]at hI
 rename_i c;obtain⟨hC,hk⟩:=hI
 cases c<;>try (simp only[CR]at hC;done)
 rename_i id ops draw
 cases draw<;>simp only[CR]at hC
 obtain⟨hgs,hok,rfl,rfl⟩:=hC;simp only[yZ,ay]at hok;obtain⟨⟨hok1,hok2⟩,hok3⟩:=hok
 have hlen:gs.length=ops.size:=by rw[(xL hgs).1];simp
 have hsched:∀x,Region.schedule (P.follows .mixedOrders) ops x=Region.linearise.go .any ops ops.size x (Array.replicate ops.size false) []:=by
  intro x;unfold Region.schedule;rw[if_pos (by simpa using hok3)];rfl
 have hgetD:∀i d,(Array.replicate ops.size false).getD i d=if i<ops.size then false else d:=by
  intro i d;rw[gN,TJ]
  split<;>rfl
 have hleft:left ops.size (Array.replicate ops.size false)=ops.size:=by
  unfold left;rw[z6.2,pt];intro i hi;rw[hgetD,if_pos (by simpa using hi)];rfl
 have hcl:Cc ops (Array.replicate ops.size false):=by
  intro i o ho hl;have:=ba (l:=ops.toList) (i:=i) (a:=o) (by simpa using ho);rw[hgetD,if_pos (by simpa using this)]at hl
  cases hl
 have hmem:=O3 (dep:=pa gs) hok2 (by simp[pa,hlen]) (aaW hok1 hlen) ops.size (w.tape w.drawn (.order f.fn id)) (Array.replicate ops.size false) [] (by simp) (fun i hi=>by rw[hgetD,if_pos hi];rfl) hcl hleft;have S':St P Γ N g0 f0 g h w.drew f up tmps (.code (.region id ops true)::k') ds kd ro fs:=⟨S.H.world rfl rfl rfl rfl,S.M,S.its,S.t,S.ds,S.kind,S.is,S.b,S.z,S.s⟩;refine⟨_,by rw[hlen];exact hmem,_,Steps.one GI,?_⟩;rw[hsched];exact S'.go hmd (its:=.ops _::k) ⟨Bz hgs fun i hi=>B9 _ _ _ i hi,hk⟩ S.t
inductive Out where
 |ret (r:AV)
 |die (v:AV)
def H9(P:Program)(Γ:Nat->Option AV)(f:FuncId)(as:List AV):Out->Prop
 |.ret r=>aP P Γ f as r
 |.die v=>lP P Γ f as v
inductive aB(P:Program)(Γ:Nat->Option AV):ar->Out->Prop
 |back {v r:AV} {hh:List Ob}:s6 hh v=some r->aB P Γ (.back [] v hh) (.ret r)
 |die {v:AV} {hh:List Ob}:aK 0 v=true->ek v=true->aB P Γ (.die [] v hh) (.die v)
 |reach {c c':ar} {o:Out}:Reach P Γ c c'->aB P Γ c' o->aB P Γ c o
 |Cm {f:Fr} {up:List Fr} {h:List Ob} {as:List (List Nat)} {gs:List AG} {k:List It} {o:Out}:f.md=.run->f.its=.code (.fG as gs)::k->(∀v,o=.die v->aK 0 v=true/\ek v=true)->
  (∀l∈fU as as.length [],aB P Γ (.fr {f with its:=.ops (l.map fun i=>gs.getD i default)::k} up h) o)->aB P Γ (.fr f up h) o
 |B1 {f:Fr} {up:List Fr} {h:List Ob} {l:List Bool} {ws:List Nat} {gs:List AG} {k:List It} {o:Out}:f.md=.run->f.its=.code (.aX l ws gs)::k->(∀v,o=.die v->aK 0 v=true/\ek v=true)->
  (∀l∈fU (pa gs) gs.length [],aB P Γ (.fr {f with its:=.ops (l.map fun i=>gs.getD i default)::k} up h) o)->aB P Γ (.fr f up h) o
 |jT {f:Fr} {up:List Fr} {h:List Ob} {a:AG} {os:List AG} {k:List It} {o:Out}:f.md=.run->f.its=.ops (a::os)::k->dM f.t a.guard=some true->az P Γ f.t h a.op=.either->
  (∀b,aB P Γ (.fr {f with its:=.ops os::k,t:=aU f.t a.dst (.bool b)} up h) o)->aB P Γ (.fr f up h) o
theorem abv{N:Env}{g0:G}{f0:FuncId}{cs0:List Frame}{c:ar}{o:Out}(hf:aB P Γ c o):∀r,o=.ret r->∀m,cS P Γ N g0 f0 cs0 c m->∃m' v hh,Steps P m m'/\cS P Γ N g0 f0 cs0 (.back [] v hh) m'/\s6 hh v=some r:=by
 induction hf with
 |@back v r hh h1=>intro r' hr m hm;cases hr;exact⟨m,v,hh,.refl _ _,hm,h1⟩
 |die _ _=>intro r' hr;cases hr
 |reach h1 _ ih=>
  intro r hr m hm;obtain⟨m1,s1,h2⟩:=AH h1 m hm;obtain⟨m2,v,hh,s2,h3,h4⟩:=ih r hr m1 h2;exact⟨m2,v,hh,s1.trans s2,h3,h4⟩
 |Cm hmd hits _ _ ih=>
  intro r hr m hm;obtain⟨l,hl,m1,s1,h2⟩:=EG hmd hits hm;obtain⟨m2,v,hh,s2,h3,h4⟩:=ih l hl r hr m1 h2;exact⟨m2,v,hh,s1.trans s2,h3,h4⟩
 |B1 hmd hits _ _ ih=>
  intro r hr m hm;obtain⟨l,hl,m1,s1,h2⟩:=Lf hmd hits hm;obtain⟨m2,v,hh,s2,h3,h4⟩:=ih l hl r hr m1 h2;exact⟨m2,v,hh,s1.trans s2,h3,h4⟩
 |jT hmd hits hw ha _ ih=>
  intro r hr m hm;obtain⟨b,m1,s1,h2⟩:=Em hmd hits hw ha hm;obtain⟨m2,v,hh,s2,h3,h4⟩:=ih b r hr m1 h2;exact⟨m2,v,hh,s1.trans s2,h3,h4⟩
theorem abJ{N:Env}{g0:G}{f0:FuncId}{cs0:List Frame}{c:ar}{o:Out}(hf:aB P Γ c o):∀v,o=.die v->∀m,cS P Γ N g0 f0 cs0 c m->∃m' hh,Steps P m m'/\cS P Γ N g0 f0 cs0 (.die [] v hh) m':=by
 induction hf with
 |back _=>intro r' hr;cases hr
 |@die v hh _ _=>intro v' hr m hm;cases hr;exact⟨m,hh,.refl _ _,hm⟩
 |reach h1 _ ih=>
  intro r hr m hm;obtain⟨m1,s1,h2⟩:=AH h1 m hm;obtain⟨m2,hh,s2,h3⟩:=ih r hr m1 h2;exact⟨m2,hh,s1.trans s2,h3⟩
 |Cm hmd hits _ _ ih=>
  intro r hr m hm;obtain⟨l,hl,m1,s1,h2⟩:=EG hmd hits hm;obtain⟨m2,hh,s2,h3⟩:=ih l hl r hr m1 h2;exact⟨m2,hh,s1.trans s2,h3⟩
 |B1 hmd hits _ _ ih=>
  intro r hr m hm;obtain⟨l,hl,m1,s1,h2⟩:=Lf hmd hits hm;obtain⟨m2,hh,s2,h3⟩:=ih l hl r hr m1 h2;exact⟨m2,hh,s1.trans s2,h3⟩
 |jT hmd hits hw ha _ ih=>
  intro r hr m hm;obtain⟨b,m1,s1,h2⟩:=Em hmd hits hw ha hm;obtain⟨m2,hh,s2,h3⟩:=ih b r hr m1 h2;exact⟨m2,hh,s1.trans s2,h3⟩
theorem Pk{c:ar}{o:Out}(hf:aB P Γ c o):∀v,o=.die v->aK 0 v=true/\ek v=true:=by
 induction hf with
 |back _=>intro r' hr;cases hr
 |@die v hh h1 h2=>intro v' hr;cases hr;exact⟨h1,h2⟩
 |reach _ _ ih=>exact ih
 |Cm _ _ h1 _ _=>exact h1
 |B1 _ _ h1 _ _=>exact h1
 |jT _ _ _ _ _ ih=>exact ih true
theorem aB.go(n:Nat){c:ar}{o:Out}(h:aB P Γ (AM.go P Γ 0 n c) o):aB P Γ c o:=.reach (.goes n c) h
theorem aB.ey(n:Nat){c:ar}{o:Out}(h:aB P Γ (AM.go P Γ 1 n c) o):aB P Γ c o:=.reach (.goes n c) h
theorem Reach.exit{fn:FuncId}{k k':List It}{t t':List AV}{ds:List dG}{kind:FK}{base:Nat}{up:List Fr}{h:List Ob}{id:Nat}{m:List Bool}(h1:oX id k=some (k',m))(h2:dj m t=t'):
 Reach P Γ (.fr ⟨.run,fn,.code (.exit id)::k,t,ds,kind,base⟩ up h) (.fr ⟨.run,fn,k',t',ds,kind,base⟩ up h):=by
 refine .one ?_;simp only[fB,iD,h1,h2];exact .refl _
theorem aB.call(n:Nat){f:FuncId}{args as:List AV}{r:AV}{up:List Fr}{h:List Ob}{o:Out}(h1:bV h args=some as)(h2:aP P Γ f as r)(h3:aB P Γ (AM.go P Γ 0 n (.back up (dB h.length r).1 (dV h args r))) o):aB P Γ (.cl f args up h) o:=
 .reach (.pure h1 h2) (.go n h3)
theorem aB.lV(n:Nat){f:FuncId}{args as:List AV}{v:AV}{up:List Fr}{h:List Ob}{o:Out}(h1:bV h args=some as)(h2:lP P Γ f as v)(h3:aB P Γ (AM.go P Γ 0 n (.die up v h)) o):aB P Γ (.cl f args up h) o:=
 .reach (.Hr h1 h2) (.go n h3)
theorem H9.of{f:FuncId}{F:aH}{as:List AV}{o:Out}(n:Nat)(hF:aG P f=some F)(hb:aA P f=true)
 (h:aB P Γ (AM.go P Γ 0 n (.fr ⟨.run,f,[.code F.body],as++List.replicate (F.nt-as.length) .undef,[],.norm,0⟩ [] [])) o):H9 P Γ f as o:=by
 have h2:aB P Γ (.cl f as [] []) o:=.reach (Br hF as (.refl _)) (.go n h)
 cases o with
 |ret r=>exact aP.zD hb fun _ _ _ _ m hm=>abv h2 r rfl m hm
 |die v=>exact lP.zD hb (fun _ _ _ _ m hm=>abJ h2 v rfl m hm) (Pk h2 v rfl).1 (Pk h2 v rfl).2
theorem aP.run{f:FuncId}{F:aH}{as:List AV}{r:AV}(n:Nat)(hF:aG P f=some F)(hb:aA P f=true)
 (h:aB P Γ (AM.go P Γ 0 n (.fr ⟨.run,f,[.code F.body],as++List.replicate (F.nt-as.length) .undef,[],.norm,0⟩ [] [])) (.ret r)):aP P Γ f as r:=H9.of (o:=.ret r) n hF hb h
theorem aB.drop{f:Fr}{up:List Fr}{h h':List Ob}{o:Out}(n:Nat)(hh:h.take n=h')(h1:f.base<=n)(h2:lj n f=true)(h3:cI n h'=true)(h4:aB P Γ (.fr f up h') o):aB P Γ (.fr f up h) o:=by
 subst hh;exact .reach (.drop n h1 h2 h3) h4
theorem aB.reset{f:Fr}{up:List Fr}{h:List Ob}{o:Out}{i k:Nat}{E:TypeId}{es:List AV}{fl sh:Bool}(hi:h[i]? =some (.row k E es (some 0) fl sh))(h1:f.base<=i)(h2:jd i es.length f=true)(h3:cH i es.length h=true)
 (h4:aB P Γ (.fr f up (h.set i (.row k E es none fl sh))) o):aB P Γ (.fr f up h) o:=.reach (.reset h1 hi h2 h3) h4
section
variable{fn:FuncId}{k:List It}{t:List AV}{ds:List dG}{kind:FK}{base:Nat}{up:List Fr}{h:List Ob}{o:Out}
theorem aB.enter(n:Nat){g:FuncId}{F:aH}{args:List AV}(hF:aG P g=some F)(h1:aB P Γ (AM.go P Γ 0 n (.fr ⟨.run,g,[.code F.body],args++List.replicate (F.nt-args.length) .undef,[],.norm,h.length⟩ up h)) o):aB P Γ (.cl g args up h) o:=
 .reach (Br hF args (.refl _)) (.go n h1)
theorem aB.inLoop{m:List Bool}{b:al}(h1:aB P Γ (.fr ⟨.run,fn,.code b::.inLoop m b::k,dj m t,ds,kind,base⟩ up h) o):aB P Γ (.fr ⟨.run,fn,.code (.loop m b)::k,t,ds,kind,base⟩ up h) o:=.reach (OU (.refl _)) h1
theorem aB.aR{m:List Bool}{b:al}(h1:aB P Γ (.fr ⟨.run,fn,.code b::.inLoop m b::k,dj m t,ds,kind,base⟩ up h) o):aB P Γ (.fr ⟨.run,fn,.inLoop m b::k,t,ds,kind,base⟩ up h) o:=.reach (Pj (.refl _)) h1
end
end
end Go.AM
namespace Go.AM
section
variable{P:Program}{Γ:Nat->Option AV}
def gF(Cs:List (Nat×(List Ob->Prop)))(i:Nat)(h:List Ob):Prop:=∀C∈Cs,i<C.1->C.2 h
@[simp] theorem awg(i:Nat)(h:List Ob):gF [] i h↔True:=by simp[gF]
@[simp] theorem avh(C:Nat×(List Ob->Prop))(Cs:List (Nat×(List Ob->Prop)))(i:Nat)(h:List Ob):gF (C::Cs) i h↔(i<C.1->C.2 h)/\gF Cs i h:=by simp[gF]
structure l7 where
 k:List AV->List Ob->Prop
 X:gn->Prop
def cu(P:Program)(Γ:Nat->Option AV)(K:l7):List Bool->List Nat->Nat->List AG->List AV->List Ob->List (List Ob)->List (Nat×(List Ob->Prop))->Prop
 |_,_,_,[],t,h,_,_=>K.k t h
 |l,ws,i,o::os,t,h,hs,Cs=>
  match dM t o.guard with
  |some true=>
   match az P Γ t h o.op with
   |.val v h'=>
    if dh o.op=2 then gF Cs (i+1) h'/\cu P Γ K l.tail ws.tail (i+1) os (aU t o.dst v) h' (h'::hs) Cs
    else if l.headD true=true/\dh o.op=1 then(∀g∈hs,az P Γ t g o.op=.val v g)/\cu P Γ K l.tail ws.tail (i+1) os (aU t o.dst v) h' hs ((ws.headD 0,fun g=>az P Γ t g o.op=.val v g)::Cs)
    else cu P Γ K l.tail ws.tail (i+1) os (aU t o.dst v) h' hs Cs
   |.skip h'=>gF Cs (i+1) h'/\cu P Γ K l.tail ws.tail (i+1) os (aU t o.dst (.aE [])) h' (h'::hs) Cs
   |.call f args=>aA P f=true/\
    if l.headD true=true then∃(v:AV)(C:List Ob->Prop),(∀g,C g->az P Γ t g o.op=.call f args/\∀up,Reach P Γ (.cl f args up g) (.back up v g))/\(∀g∈hs,C g)/\cu P Γ K l.tail ws.tail (i+1) os (aU t o.dst v) h hs ((ws.headD 0,C)::Cs)
    else∃(v:AV)(h':List Ob),((∀up,Reach P Γ (.cl f args up h) (.back up v h'))\/K.X ⟨.fn f,args,h,v,h'⟩)/\gF Cs (i+1) h'/\cu P Γ K l.tail ws.tail (i+1) os (aU t o.dst v) h' (h'::hs) Cs
   |.yield y args=>l.headD true=false/\∃(v:AV)(h':List Ob),(∀up,Reach P Γ ((iR.yl y).cfg args up h) (.back up v h'))/\gF Cs (i+1) h'/\cu P Γ K l.tail ws.tail (i+1) os (aU t o.dst v) h' (h'::hs) Cs
   |_=>False
  |some false=>cu P Γ K l.tail ws.tail (i+1) os (aU t o.dst (.aE [])) h hs Cs
  |none=>False
theorem ab2{t:List AV}{h h':List Ob}{o:AO}{v:AV}(hv:az P Γ t h o=.val v h')(hc:dh o≠2):h'=h:=(A9 (v:=v) (h':=h') hc).1 hv
def ra(i:Nat)(hs0 hs HS:List (List Ob)):Prop:=∀k g,HS[k]? =some g->(k<=i->g∈hs0)/\(i<k->hs[k-i-1]? =some g)
theorem ra.next{i:Nat}{hs0 hs1 hs HS:List (List Ob)}{h':List Ob}(h1:ra i hs0 (h'::hs) HS)(h2:∀g∈hs0,g∈hs1)(h3:h'∈hs1):ra (i+1) hs1 hs HS:=by
 intro k g hk;obtain⟨a,b⟩:=h1 k g hk;refine⟨fun h=>?_,fun h=>?_⟩
 ·by_cases hki:k<=i
  ·exact h2 g (a hki)
  ·have:=b (by omega)
   have e:k-i-1=0:=by omega
   rw[e]at this;simp at this;subst this;exact h3
 ·have:=b (by omega)
  have e:k-i-1=(k-(i+1)-1)+1:=by omega
  rw[e]at this;simpa using this
theorem ra.all{i w:Nat}{hs0 hs HS:List (List Ob)}{C:List Ob->Prop}(h1:ra i hs0 hs HS)(h2:∀g∈hs0,C g)(h3:∀k g,hs[k]? =some g->i+1+k<w->C g):∀g∈HS.take w,C g:=by
 intro g hg;obtain⟨k,hk⟩:=wi.1 hg;rw[qI]at hk
 split at hk
 ·rename_i hkw;obtain⟨a,b⟩:=h1 k g hk
  by_cases hki:k<=i
  ·exact h2 g (a hki)
  ·exact h3 _ g (b (by omega)) (by omega)
 ·cases hk
theorem pH{K:l7}:∀{gs:List AG}{l:List Bool}{ws:List Nat}{i:Nat}{t:List AV}{h:List Ob}{hs:List (List Ob)}{Cs Cs':List (Nat×(List Ob->Prop))},(∀C∈Cs',C∈Cs)->cu P Γ K l ws i gs t h hs Cs->cu P Γ K l ws i gs t h hs Cs'
 |[],_,_,_,_,_,_,_,_,_,h1=>h1
 |o::os,l,ws,i,t,h,hs,Cs,Cs',hs',h1=>by
  unfold cu at h1⊢
  have hH:∀{j h},gF Cs j h->gF Cs' j h:=fun q C hC=>q C (hs' C hC)
  have hcons:∀{C:Nat×(List Ob->Prop)},∀D∈C::Cs',D∈C::Cs:=by
   intro C D hD
   rcases bo.1 hD with rfl|hD
   ·simp
   ·exact dP _ (hs' D hD)
  split at h1
  ·split at h1
   ·split
    ·rename_i h2;rw[if_pos h2]at h1;exact⟨hH h1.1,pH hs' h1.2⟩
    ·rename_i h2;rw[if_neg h2]at h1
     split
     ·rename_i h3;rw[if_pos h3]at h1;exact⟨h1.1,pH hcons h1.2⟩
     ·rename_i h3;rw[if_neg h3]at h1;exact pH hs' h1
   ·exact⟨hH h1.1,pH hs' h1.2⟩
   ·refine⟨h1.1,?_⟩;have h1:=h1.2
    split
    ·rename_i h2;rw[if_pos h2]at h1;obtain⟨v,C,a,b,c⟩:=h1;exact⟨v,C,a,b,pH hcons c⟩
    ·rename_i h2;rw[if_neg h2]at h1;obtain⟨v,h',a,b,c⟩:=h1;exact⟨v,h',a,hH b,pH hs' c⟩
   ·obtain⟨h0,v,h',a,b,c⟩:=h1;exact⟨h0,v,h',a,hH b,pH hs' c⟩
   ·exact h1
  ·exact pH hs' h1
  ·exact h1
theorem AL{K:l7}{gs:List AG}{l:List Bool}{ws:List Nat}{i j:Nat}{t:List AV}{h:List Ob}{hs:List (List Ob)}{Cs:List (Nat×(List Ob->Prop))}(h1:cu P Γ K l ws j gs t h hs Cs):cu P Γ K l ws j gs t h hs (Cs.filter fun C=>decide (i<C.1)):=
 pH (fun C hC=>(du.1 hC).1) h1
theorem nM{K:l7}:∀{gs:List AG}{l:List Bool}{ws:List Nat}{i:Nat}{t:List AV}{h:List Ob}{hs0:List (List Ob)}{Cs0:List (Nat×(List Ob->Prop))},cu P Γ K l ws i gs t h hs0 Cs0->h∈hs0->(∀C∈Cs0,∀g∈hs0,C.2 g)->
 ∃(orc:List (AV×List Ob))(t':List AV)(h':List Ob)(obls:List gn)(hs:List (List Ob))(obls1:List gn),ig P Γ orc gs t h=some (t',h',obls,hs)/\K.k t' h'/\(∀C∈Cs0,∀k g,hs[k]? =some g->i+1+k<C.1->C.2 g)/\
  (∀o∈obls,o∈obls1)/\(∀o∈obls1,(∀up,Reach P Γ (o.f.cfg o.args up o.h) (.back up o.v o.h'))\/K.X o)/\
  ∀(HS:List (List Ob))(obls0:List gn),ra i hs0 hs HS->(∀o∈obls1,o∈obls0)->calm P Γ obls0 HS l ws orc gs t h
 |[],l,ws,i,t,h,hs0,Cs0,hD,_,_=>⟨[],t,h,[],[],[],rfl,hD,by simp,by simp,by simp,fun _ _ _ _=>trivial⟩
 |o::os,l,ws,i,t,h,hs0,Cs0,hD,hh,hC=>by
  unfold cu at hD;unfold ig calm
  have hnext:∀{h':List Ob}{hs:List (List Ob)},(∀C∈Cs0,i+1<C.1->C.2 h')->(∀C∈Cs0,∀k g,hs[k]? =some g->i+1+1+k<C.1->C.2 g)->∀C∈Cs0,∀k g,(h'::hs)[k]? =some g->i+1+k<C.1->C.2 g:=by
   intro h' hs q1 q2 C hCm k g hk hlt
   cases k with
   |zero=>simp at hk;subst hk;exact q1 C hCm (by omega)
   |succ k=>exact q2 C hCm k g (by simpa using hk) (by omega)
  cases hw:dM t o.guard with
  |none=>rw[hw]at hD;exact hD.elim
  |some b=>
   rw[hw]at hD
   cases b with
   |false=>
    simp only at hD⊢;obtain⟨orc,t',h2',obls,hs,obls1,e1,e2,e3,e4,e5,e6⟩:=nM hD hh hC;exact⟨orc,t',h2',obls,h::hs,obls1,by rw[e1];rfl,e2,hnext (fun C hCm _=>hC C hCm h hh) e3,e4,e5,fun HS obls0 q1 q2=>e6 HS obls0 (q1.next (fun _ x=>x) hh) q2⟩
   |true=>
    simp only at hD⊢
    cases ha:az P Γ t h o.op with
    |val v h'=>
     rw[ha]at hD;simp only at hD⊢
     by_cases h2:dh o.op=2
     ·rw[if_pos h2]at hD;obtain⟨hn,hD⟩:=hD
      have rJ:∀C∈Cs0.filter (fun C=>decide (i+1<C.1)),∀g∈h'::hs0,C.2 g:=by
       intro C hCm g hg;simp only[du,aW]at hCm
       rcases bo.1 hg with rfl|hg
       ·exact hn C hCm.1 hCm.2
       ·exact hC C hCm.1 g hg
      have hD':=AL (i:=i+1) hD;obtain⟨orc,t',h2',obls,hs,obls1,e1,e2,e3,e4,e5,e6⟩:=nM hD' (by simp) rJ
      refine⟨orc,t',h2',obls,h'::hs,obls1,by rw[e1];rfl,e2,hnext hn (fun C hCm k g hk hlt=>e3 C (by simp only[du,aW];exact⟨hCm,by omega⟩) k g hk hlt),e4,e5,
       fun HS obls0 q1 q2=>⟨fun _ h1=>(by rw[h2]at h1;cases h1),e6 HS obls0 (q1.next (fun _ x=>dP _ x) (by simp)) q2⟩⟩
     ·rw[if_neg h2]at hD;have hhe:=ab2 ha h2
      by_cases h1:l.headD true=true/\dh o.op=1
      ·rw[if_pos h1]at hD;obtain⟨hn,hD⟩:=hD;subst hhe
       obtain⟨orc,t',h2',obls,hs,obls1,e1,e2,e3,e4,e5,e6⟩:=nM hD hh (fun C hCm g hg=>by
        rcases bo.1 hCm with rfl|hCm
        ·exact hn g hg
        ·exact hC C hCm g hg)
       refine⟨orc,t',h2',obls,h'::hs,obls1,by rw[e1];rfl,e2,hnext (fun C hCm _=>hC C hCm h' hh) (fun C hCm=>e3 C (dP _ hCm)),e4,e5,fun HS obls0 q1 q2=>⟨fun _ _ g hg=>?_,e6 HS obls0 (q1.next (fun _ x=>x) hh) q2⟩⟩;have q1':=q1.next (hs1:=hs0) (fun _ x=>x) hh;exact q1'.all (C:=fun g=>az P Γ t g o.op=.val v g) hn (fun k g hk hlt=>e3 _ ov k g hk hlt) g hg
      ·rw[if_neg h1]at hD;subst hhe;obtain⟨orc,t',h2',obls,hs,obls1,e1,e2,e3,e4,e5,e6⟩:=nM hD hh hC;exact⟨orc,t',h2',obls,h'::hs,obls1,by rw[e1];rfl,e2,hnext (fun C hCm _=>hC C hCm h' hh) e3,e4,e5,fun HS obls0 q1 q2=>⟨fun q3 q4=>absurd ⟨q3,q4⟩ h1,e6 HS obls0 (q1.next (fun _ x=>x) hh) q2⟩⟩
    |skip h'=>
     rw[ha]at hD;simp only at hD⊢;obtain⟨hn,hD⟩:=hD
     have rJ:∀C∈Cs0.filter (fun C=>decide (i+1<C.1)),∀g∈h'::hs0,C.2 g:=by
      intro C hCm g hg;simp only[du,aW]at hCm
      rcases bo.1 hg with rfl|hg
      ·exact hn C hCm.1 hCm.2
      ·exact hC C hCm.1 g hg
     have hD':=AL (i:=i+1) hD;obtain⟨orc,t',h2',obls,hs,obls1,e1,e2,e3,e4,e5,e6⟩:=nM hD' (by simp) rJ
     exact⟨orc,t',h2',obls,h'::hs,obls1,by rw[e1];rfl,e2,hnext hn (fun C hCm k g hk hlt=>e3 C (by simp only[du,aW];exact⟨hCm,by omega⟩) k g hk hlt),e4,e5,
      fun HS obls0 q1 q2=>e6 HS obls0 (q1.next (fun _ x=>dP _ x) (by simp)) q2⟩
    |call f args=>
     rw[ha]at hD;simp only at hD⊢;obtain⟨hb,hD⟩:=hD
     have hb':¬aA P f=false:=by simp[hb]
     by_cases hl:l.headD true=true
     ·rw[if_pos hl]at hD;obtain⟨v,C,hC1,hC2,hD⟩:=hD
      obtain⟨orc,t',h2',obls,hs,obls1,e1,e2,e3,e4,e5,e6⟩:=nM hD hh (fun C' hCm g hg=>by
       rcases bo.1 hCm with rfl|hCm
       ·exact hC2 g hg
       ·exact hC C' hCm g hg)
      have hall:∀{HS:List (List Ob)},ra i hs0 (h::hs) HS->∀g∈HS.take (ws.headD 0),C g:=fun q1=>(q1.next (hs1:=hs0) (fun _ x=>x) hh).all hC2 (fun k g hk hlt=>e3 _ ov k g hk hlt)
      have hHS:ra i hs0 (h::hs) (List.replicate (i+1) h++h::hs):=by
       intro k g hk;refine⟨fun hki=>?_,fun hki=>?_⟩
       ·rw[cz (by simp;omega),JK,if_pos (by omega)]at hk
        cases hk
        exact hh
       ·rw[df (by simp;omega)]at hk;rw[pv]at hk;rw[show k-i-1=k-(i+1) by omega];exact hk
      have hgs:∀g,g∈hs0\/(∃k,hs[k]? =some g/\i+1+1+k<ws.headD 0)->C g:=by
       rintro g (hg|⟨k,hk,hlt⟩)
       ·exact hC2 g hg
       ·exact e3 _ ov k g hk hlt
      refine⟨(v,h)::orc,t',h2',⟨.fn f,args,h,v,h⟩::obls,h::hs,((hs0++(hs.take (ws.headD 0-(i+2)))).map fun g=>⟨.fn f,args,g,v,g⟩)++obls1,by rw[if_neg hb'];simp only[e1,dO],e2,hnext (fun C' hCm _=>hC C' hCm h hh) (fun C' hCm=>e3 C' (dP _ hCm)),
       fun ob hob=>?_,fun ob hob=>?_,fun HS obls0 q1 q2=>⟨fun _=>⟨rfl,fun g hg=>?_⟩,e6 HS obls0 (q1.next (fun _ x=>x) hh) (fun ob hob=>q2 ob (wm _ hob))⟩⟩
      ·rcases bo.1 hob with rfl|hob
       ·exact iU _ (b_.2 ⟨h,iU _ hh,rfl⟩)
       ·exact wm _ (e4 ob hob)
      ·rcases aN.1 hob with hob|hob
       ·obtain⟨g,hg,rfl⟩:=b_.1 hob;refine .inl (hC1 g (hgs g ?_)).2
        rcases aN.1 hg with hg|hg
        ·exact Or.inl hg
        ·obtain⟨k,hk⟩:=wi.1 hg;rw[qI]at hk
         split at hk
         ·exact Or.inr ⟨k,hk,by omega⟩
         ·cases hk
       ·exact e5 ob hob
      ·refine⟨(hC1 g (hall q1 g hg)).1,q2 _ (iU _ (b_.2 ⟨g,?_,rfl⟩))⟩;obtain⟨k,hk⟩:=wi.1 hg;rw[qI]at hk
       split at hk
       ·rename_i hkw;obtain⟨x1,x2⟩:=q1 k g hk
        by_cases hki:k<=i
        ·exact iU _ (x1 hki)
        ·have x3:=x2 (by omega)
         by_cases hk1:k=i+1
         ·subst hk1;simp at x3;subst x3;exact iU _ hh
         ·rw[show k-i-1=(k-(i+2))+1 by omega]at x3;simp only[nC]at x3;refine wm _ (iw (i:=k-(i+2)) ?_);rw[qI,if_pos (by omega)];exact x3
       ·cases hk
     ·rw[if_neg hl]at hD;obtain⟨v,h',hR,hn,hD⟩:=hD
      have rJ:∀C∈Cs0.filter (fun C=>decide (i+1<C.1)),∀g∈h'::hs0,C.2 g:=by
       intro C hCm g hg;simp only[du,aW]at hCm
       rcases bo.1 hg with rfl|hg
       ·exact hn C hCm.1 hCm.2
       ·exact hC C hCm.1 g hg
      have hD':=AL (i:=i+1) hD;obtain⟨orc,t',h2',obls,hs,obls1,e1,e2,e3,e4,e5,e6⟩:=nM hD' (by simp) rJ
      refine⟨(v,h')::orc,t',h2',⟨.fn f,args,h,v,h'⟩::obls,h'::hs,⟨.fn f,args,h,v,h'⟩::obls1,by rw[if_neg hb'];simp only[e1,dO],e2,hnext hn (fun C hCm k g hk hlt=>e3 C (by simp only[du,aW];exact⟨hCm,by omega⟩) k g hk hlt),
       fun ob hob=>?_,fun ob hob=>?_,fun HS obls0 q1 q2=>⟨fun q3=>absurd q3 hl,e6 HS obls0 (q1.next (fun _ x=>dP _ x) (by simp)) (fun ob hob=>q2 ob (dP _ hob))⟩⟩
      ·rcases bo.1 hob with rfl|hob
       ·simp
       ·exact dP _ (e4 ob hob)
      ·rcases bo.1 hob with rfl|hob
       ·exact hR
       ·exact e5 ob hob
    |yield y args=>
     rw[ha]at hD;simp only at hD⊢;obtain⟨hl,v,h',hR,hn,hD⟩:=hD
     have rJ:∀C∈Cs0.filter (fun C=>decide (i+1<C.1)),∀g∈h'::hs0,C.2 g:=by
      intro C hCm g hg;simp only[du,aW]at hCm
      rcases bo.1 hg with rfl|hg
      ·exact hn C hCm.1 hCm.2
      ·exact hC C hCm.1 g hg
     have hD':=AL (i:=i+1) hD;obtain⟨orc,t',h2',obls,hs,obls1,e1,e2,e3,e4,e5,e6⟩:=nM hD' (by simp) rJ
     refine⟨(v,h')::orc,t',h2',⟨.yl y,args,h,v,h'⟩::obls,h'::hs,⟨.yl y,args,h,v,h'⟩::obls1,by simp only[e1,dO],e2,hnext hn (fun C hCm k g hk hlt=>e3 C (by simp only[du,aW];exact⟨hCm,by omega⟩) k g hk hlt),
      fun ob hob=>?_,fun ob hob=>?_,fun HS obls0 q1 q2=>⟨hl,e6 HS obls0 (q1.next (fun _ x=>dP _ x) (by simp)) (fun ob hob=>q2 ob (dP _ hob))⟩⟩
     ·rcases bo.1 hob with rfl|hob
      ·simp
      ·exact dP _ (e4 ob hob)
     ·rcases bo.1 hob with rfl|hob
      ·exact .inl hR
      ·exact e5 ob hob
    |_=>rw[ha]at hD;exact hD.elim
structure ir where
 fn:FuncId
 k:List It
 e:Cx
 n:Nat
 st:Nat
def ir.QF(P:Program)(Γ:Nat->Option AV)(b:ir)(o:Out):l7:=⟨fun t h=>aB P Γ (AM.go P Γ 0 b.n (.fr ⟨.run,b.fn,b.k,t,b.e.ds,b.e.kind,b.e.base⟩ b.e.up h)) o,fun _=>False⟩
def ir.reach(P:Program)(Γ:Nat->Option AV)(b:ir)(c:ar):l7:=⟨fun t h=>Reach P Γ (AM.go P Γ b.st b.n (.fr ⟨.run,b.fn,b.k,t,b.e.ds,b.e.kind,b.e.base⟩ b.e.up h)) c,fun _=>False⟩
def Ck(h:List Ob):Prop:=∃(i:Nat)(E:TypeId)(es:List AV)(gr:Option Nat)(fl sh:Bool),h[i]? =some (.row 0 E es gr fl sh)
abbrev CB:Ob:=.row 0 0 [] none false false
theorem Ck.of{h:List Ob}(h1:CB∈h):Ck h:=by
 obtain⟨i,hi⟩:=wi.1 h1;exact⟨i,_,_,_,_,_,hi⟩
def ir.die(P:Program)(Γ:Nat->Option AV)(b:ir)(gs:List AG)(t0:List AV)(D:ar):l7:=⟨fun _ h=>Ck h,fun o=>∀its t,vy gs t0 t->Reach P Γ (o.f.cfg o.args (⟨.run,b.fn,its,t,b.e.ds,b.e.kind,b.e.base⟩::b.e.up) o.h) D⟩
variable{fn:FuncId}{k:List It}{t:List AV}{ds:List dG}{kind:FK}{base:Nat}{up:List Fr}{h:List Ob}
theorem Reach.dr{l:List Bool}{ws:List Nat}{gs:List AG}{c:ar}(h1:cu P Γ ⟨fun t' h'=>Reach P Γ (.fr ⟨.run,fn,k,t',ds,kind,base⟩ up h') c,fun _=>False⟩ l ws 0 gs t h [h] []):
 Reach P Γ (.fr ⟨.run,fn,.code (.aX l ws gs)::k,t,ds,kind,base⟩ up h) c:=by
 obtain⟨orc,t',h',obls,hs,obls1,e1,e2,_,e4,e5,e6⟩:=nM h1 (by simp) (by simp)
 exact .trans (.aX (f:=⟨.run,fn,.code (.aX l ws gs)::k,t,ds,kind,base⟩) rfl rfl e1 e4 (fun o ho up=>(e5 o ho).elim (fun h=>h up) False.elim) (e6 (h::hs) obls1 (by
  intro k g hk;refine⟨fun hk0=>?_,fun hk0=>?_⟩
  ·have:k=0:=by omega
   subst this;simp at hk;simp[hk]
  ·cases k with
   |zero=>omega
   |succ k=>simpa using hk) (fun _ ho=>ho))) e2
theorem oF{K K':l7}(hX:∀o,K.X o->K'.X o)(hK:∀t h,K.k t h->K'.k t h):∀{gs:List AG}{l:List Bool}{ws:List Nat}{i:Nat}{t:List AV}{h:List Ob}{hs:List (List Ob)}{Cs:List (Nat×(List Ob->Prop))},cu P Γ K l ws i gs t h hs Cs->cu P Γ K' l ws i gs t h hs Cs
 |[],_,_,_,_,_,_,_,h1=>hK _ _ h1
 |o::os,l,ws,i,t,h,hs,Cs,h1=>by
  unfold cu at h1⊢
  split at h1
  ·split at h1
   ·split
    ·rename_i h2;rw[if_pos h2]at h1;exact⟨h1.1,oF hX hK h1.2⟩
    ·rename_i h2;rw[if_neg h2]at h1
     split
     ·rename_i h3;rw[if_pos h3]at h1;exact⟨h1.1,oF hX hK h1.2⟩
     ·rename_i h3;rw[if_neg h3]at h1;exact oF hX hK h1
   ·exact⟨h1.1,oF hX hK h1.2⟩
   ·refine⟨h1.1,?_⟩;have h1:=h1.2
    split
    ·rename_i h2;rw[if_pos h2]at h1;obtain⟨v,C,a,b,c⟩:=h1;exact⟨v,C,a,b,oF hX hK c⟩
    ·rename_i h2;rw[if_neg h2]at h1;obtain⟨v,h',a,b,c⟩:=h1;exact⟨v,h',a.imp_right (hX _),b,oF hX hK c⟩
   ·obtain⟨h0,v,h',a,b,c⟩:=h1;exact⟨h0,v,h',a,b,oF hX hK c⟩
   ·exact h1
  ·exact oF hX hK h1
  ·exact h1
theorem aB.dr(n:Nat){l:List Bool}{ws:List Nat}{gs:List AG}{o:Out}(h1:cu P Γ (ir.QF P Γ ⟨fn,k,⟨ds,kind,base,up⟩,n,0⟩ o) l ws 0 gs t h [h] []):
 aB P Γ (.fr ⟨.run,fn,.code (.aX l ws gs)::k,t,ds,kind,base⟩ up h) o:=by
 cases o with
 |ret r=>
  obtain⟨orc,t',h',obls,hs,obls1,e1,e2,_,e4,e5,e6⟩:=nM h1 (by simp) (by simp)
  refine .reach (.aX (f:=⟨.run,fn,.code (.aX l ws gs)::k,t,ds,kind,base⟩) rfl rfl e1 e4 (fun o ho up=>(e5 o ho).elim (fun h=>h up) False.elim) (e6 (h::hs) obls1 (by
  intro k g hk;refine⟨fun hk0=>?_,fun hk0=>?_⟩
  ·have:k=0:=by omega
   subst this;simp at hk;simp[hk]
  ·cases k with
   |zero=>omega
   |succ k=>simpa using hk) (fun _ ho=>ho))) (.go n e2)
 |die v=>
  obtain⟨orc,t',h',obls,hs,obls1,e1,e2,_,e4,e5,e6⟩:=nM h1 (by simp) (by simp)
  refine .reach (.aX (f:=⟨.run,fn,.code (.aX l ws gs)::k,t,ds,kind,base⟩) rfl rfl e1 e4 (fun o ho up=>(e5 o ho).elim (fun h=>h up) False.elim) (e6 (h::hs) obls1 (by
  intro k g hk;refine⟨fun hk0=>?_,fun hk0=>?_⟩
  ·have:k=0:=by omega
   subst this;simp at hk;simp[hk]
  ·cases k with
   |zero=>omega
   |succ k=>simpa using hk) (fun _ ho=>ho))) (.go n e2)
theorem Reach.Jo(n:Nat){l:List Bool}{ws:List Nat}{gs:List AG}{c:ar}(h1:cu P Γ (ir.reach P Γ ⟨fn,k,⟨ds,kind,base,up⟩,n,1⟩ c) l ws 0 gs t h [h] []):
 Reach P Γ (.fr ⟨.run,fn,.code (.aX l ws gs)::k,t,ds,kind,base⟩ up h) c:=.dr (oF (K:=ir.reach P Γ ⟨fn,k,⟨ds,kind,base,up⟩,n,1⟩ c) (K':=⟨fun t' h'=>Reach P Γ (.fr ⟨.run,fn,k,t',ds,kind,base⟩ up h') c,fun _=>False⟩) (fun _ x=>x) (fun _ _ hr=>Reach.ey n hr) h1)
theorem Reach.eQ(n:Nat){l:List Bool}{ws:List Nat}{gs:List AG}{c:ar}(h1:cu P Γ (ir.reach P Γ ⟨fn,k,⟨ds,kind,base,up⟩,n,2⟩ c) l ws 0 gs t h [h] []):
 Reach P Γ (.fr ⟨.run,fn,.code (.aX l ws gs)::k,t,ds,kind,base⟩ up h) c:=.dr (oF (K:=ir.reach P Γ ⟨fn,k,⟨ds,kind,base,up⟩,n,2⟩ c) (K':=⟨fun t' h'=>Reach P Γ (.fr ⟨.run,fn,k,t',ds,kind,base⟩ up h') c,fun _=>False⟩) (fun _ x=>x) (fun _ _ hr=>Reach.bw n hr) h1)
variable{K:l7}{l:List Bool}{ws:List Nat}{i w:Nat}{b:Bool}{d:Option Nat}{a:AO}{os:List AG}{hs:List (List Ob)}{Cs:List (Nat×(List Ob->Prop))}{h':List Ob}{v:AV}{f:FuncId}{args:List AV}
def rF(P:Program)(Γ:Nat->Option AV)(K:l7)(b:Bool)(l:List Bool)(w:Nat)(ws:List Nat)(i:Nat)(d:Option Nat)(a:AO)(os:List AG)(t:List AV)(h:List Ob)(hs:List (List Ob))(Cs:List (Nat×(List Ob->Prop))):R->Prop
 |.val v h'=>
  if dh a=2 then gF Cs (i+1) h'/\cu P Γ K l ws (i+1) os (aU t d v) h' (h'::hs) Cs
  else if b=true/\dh a=1 then(∀g∈hs,az P Γ t g a=.val v g)/\cu P Γ K l ws (i+1) os (aU t d v) h' hs ((w,fun g=>az P Γ t g a=.val v g)::Cs)
  else cu P Γ K l ws (i+1) os (aU t d v) h' hs Cs
 |.skip h'=>gF Cs (i+1) h'/\cu P Γ K l ws (i+1) os (aU t d (.aE [])) h' (h'::hs) Cs
 |.call f args=>aA P f=true/\
  if b=true then∃(v:AV)(C:List Ob->Prop),(∀g,C g->az P Γ t g a=.call f args/\∀up,Reach P Γ (.cl f args up g) (.back up v g))/\(∀g∈hs,C g)/\cu P Γ K l ws (i+1) os (aU t d v) h hs ((w,C)::Cs)
  else∃(v:AV)(h':List Ob),((∀up,Reach P Γ (.cl f args up h) (.back up v h'))\/K.X ⟨.fn f,args,h,v,h'⟩)/\gF Cs (i+1) h'/\cu P Γ K l ws (i+1) os (aU t d v) h' (h'::hs) Cs
 |.yield y args=>b=false/\∃(v:AV)(h':List Ob),(∀up,Reach P Γ ((iR.yl y).cfg args up h) (.back up v h'))/\gF Cs (i+1) h'/\cu P Γ K l ws (i+1) os (aU t d v) h' (h'::hs) Cs
 |_=>False
structure Ip(P:Program)(Γ:Nat->Option AV)(K:l7)(b:Bool)(l:List Bool)(w:Nat)(ws:List Nat)(i:Nat)(d:Option Nat)(a:AO)(os:List AG)(t:List AV)(h:List Ob)(hs:List (List Ob))(Cs:List (Nat×(List Ob->Prop)))(y:Nat)(args:List AV):Prop where
 is:rF P Γ K b l w ws i d a os t h hs Cs (.yield y args)
structure j5(P:Program)(Γ:Nat->Option AV)(K:l7)(b:Bool)(l:List Bool)(w:Nat)(ws:List Nat)(i:Nat)(d:Option Nat)(a:AO)(os:List AG)(t:List AV)(h:List Ob)(hs:List (List Ob))(Cs:List (Nat×(List Ob->Prop)))(f:FuncId)(args:List AV):Prop where
 is:rF P Γ K b l w ws i d a os t h hs Cs (.call f args)
@[simp] theorem avj{bh:ir}{o:Out}:cu P Γ (ir.QF P Γ bh o) l ws i [] t h hs Cs↔aB P Γ (AM.go P Γ 0 bh.n (.fr ⟨.run,bh.fn,bh.k,t,bh.e.ds,bh.e.kind,bh.e.base⟩ bh.e.up h)) o:=nE
@[simp] theorem au9{bh:ir}{c:ar}:cu P Γ (ir.reach P Γ bh c) l ws i [] t h hs Cs↔Reach P Γ (AM.go P Γ bh.st bh.n (.fr ⟨.run,bh.fn,bh.k,t,bh.e.ds,bh.e.kind,bh.e.base⟩ bh.e.up h)) c:=nE
@[simp] theorem awj{bh:ir}{gs0:List AG}{t0:List AV}{D:ar}:cu P Γ (ir.die P Γ bh gs0 t0 D) l ws i [] t h hs Cs↔Ck h:=nE
@[simp] theorem awC:cu P Γ K (b::l) (w::ws) i (⟨d,none,a⟩::os) t h hs Cs↔rF P Γ K b l w ws i d a os t h hs Cs (az P Γ t h a):=by
 rw[cu];simp only[XC]
 cases az P Γ t h a<;>exact nE
@[simp] theorem avY{j:Nat}{u:Bool}:cu P Γ K (b::l) (w::ws) i (⟨d,some (j,u),a⟩::os) t h hs Cs↔(match dM t (some (j,u))with
  |some true=>rF P Γ K b l w ws i d a os t h hs Cs (az P Γ t h a)
  |some false=>cu P Γ K l ws (i+1) os (aU t d (.aE [])) h hs Cs
  |none=>False):=by
 rw[cu]
 cases dM t (some (j,u))with
 |none=>exact nE
 |some x=>
  cases x with
  |false=>exact nE
  |true=>cases az P Γ t h a<;>exact nE
@[simp] theorem awt:rF P Γ K b l w ws i d a os t h hs Cs (.val v h')↔if dh a=2 then gF Cs (i+1) h'/\cu P Γ K l ws (i+1) os (aU t d v) h' (h'::hs) Cs
  else if b=true/\dh a=1 then(∀g∈hs,az P Γ t g a=.val v g)/\cu P Γ K l ws (i+1) os (aU t d v) h' hs ((w,fun g=>az P Γ t g a=.val v g)::Cs)
  else cu P Γ K l ws (i+1) os (aU t d v) h' hs Cs:=nE
@[simp] theorem avR:rF P Γ K b l w ws i d a os t h hs Cs (.skip h')↔gF Cs (i+1) h'/\cu P Γ K l ws (i+1) os (aU t d (.aE [])) h' (h'::hs) Cs:=nE
@[simp] theorem awo:rF P Γ K b l w ws i d a os t h hs Cs (.call f args)↔j5 P Γ K b l w ws i d a os t h hs Cs f args:=⟨fun h1=>⟨h1⟩,fun h1=>h1.is⟩
@[simp] theorem avt{y:Nat}:rF P Γ K b l w ws i d a os t h hs Cs (.yield y args)↔Ip P Γ K b l w ws i d a os t h hs Cs y args:=⟨fun h1=>⟨h1⟩,fun h1=>h1.is⟩
theorem Ip.go{y:Nat}(v:AV)(h':List Ob)(h1:∀up,Reach P Γ ((iR.yl y).cfg args up h) (.back up v h'))
 (h3:gF Cs (i+1) h'/\cu P Γ K l ws (i+1) os (aU t d v) h' (h'::hs) Cs):Ip P Γ K false l w ws i d a os t h hs Cs y args:=⟨⟨rfl,v,h',h1,h3.1,h3.2⟩⟩
theorem back_eq{f:FuncId}{args as:List AV}{r:AV}{h:List Ob}(h1:bV h args=some as)(h2:aP P Γ f as r):∀up,Reach P Γ (.cl f args up h) (.back up (dB h.length r).1 (dV h args r)):=fun _=>.pure h1 h2
theorem j5.call{as:List AV}{r:AV}(h1:bV h args=some as)(h2:aP P Γ f as r)
 (h3:gF Cs (i+1) (dV h args r)/\cu P Γ K l ws (i+1) os (aU t d (dB h.length r).1) (dV h args r) (dV h args r::hs) Cs):j5 P Γ K false l w ws i d a os t h hs Cs f args:=
 ⟨h2.1,by rw[if_neg (by simp)];exact⟨_,_,.inl (back_eq h1 h2),h3.1,h3.2⟩⟩
theorem j5.quiet{as:List AV}{r:AV}(h2:aP P Γ f as r)(hr:∀n,dB n r=(r,[]))
 (h1:∀g∈hs,az P Γ t g a=.call f args/\bV g args=some as/\dV g args r=g)
 (h3:cu P Γ K l ws (i+1) os (aU t d r) h hs ((w,fun g=>az P Γ t g a=.call f args/\bV g args=some as/\dV g args r=g)::Cs)):j5 P Γ K true l w ws i d a os t h hs Cs f args:=
 ⟨h2.1,by
  rw[if_pos rfl];refine⟨r,_,fun g hg=>⟨hg.1,fun up=>?_⟩,h1,h3⟩;have h4:=back_eq hg.2.1 h2 up;rw[hr,hg.2.2]at h4
  exact h4⟩
theorem j5.reach{v:AV}{h':List Ob}(hb:aA P f=true)(h1:∀up,Reach P Γ (.cl f args up h) (.back up v h'))
 (h3:gF Cs (i+1) h'/\cu P Γ K l ws (i+1) os (aU t d v) h' (h'::hs) Cs):j5 P Γ K false l w ws i d a os t h hs Cs f args:=
 ⟨hb,by rw[if_neg (by simp)];exact⟨_,_,.inl h1,h3.1,h3.2⟩⟩
theorem j5.die(v:AV){bh:ir}{gs0:List AG}{t0:List AV}{D:ar}(hb:aA P f=true)(h1:∀its t',vy gs0 t0 t'->Reach P Γ (.cl f args (⟨.run,bh.fn,its,t',bh.e.ds,bh.e.kind,bh.e.base⟩::bh.e.up) h) D)
 (h3:gF Cs (i+1) (h++[CB])/\cu P Γ (ir.die P Γ bh gs0 t0 D) l ws (i+1) os (aU t d v) (h++[CB]) ((h++[CB])::hs) Cs):j5 P Γ (ir.die P Γ bh gs0 t0 D) false l w ws i d a os t h hs Cs f args:=
 ⟨hb,by rw[if_neg (by simp)];exact⟨v,_,.inr h1,h3.1,h3.2⟩⟩
theorem aB.bA(n:Nat){v:AV}{h':List Ob}{o:Out}(h1:∀up,Reach P Γ (.cl f args up h) (.back up v h'))(h2:aB P Γ (AM.go P Γ 0 n (.back up v h')) o):aB P Γ (.cl f args up h) o:=.reach (h1 up) (.go n h2)
theorem Reach.bA(n:Nat){v:AV}{h':List Ob}{c:ar}(h1:∀up,Reach P Γ (.cl f args up h) (.back up v h'))(h2:Reach P Γ (AM.go P Γ 2 n (AM.pop (.back up v h'))) c):Reach P Γ (.cl f args up h) c:=.trans (h1 up) (.trans (.pop _) (.bw n h2))
theorem Reach.jR(n:Nat){as:List AV}{r:AV}{c:ar}(h1:bV h args=some as)(h2:aP P Γ f as r)(h3:Reach P Γ (AM.go P Γ 2 n (AM.pop (.back up (dB h.length r).1 (dV h args r)))) c):Reach P Γ (.cl f args up h) c:=.bA n (back_eq h1 h2) h3
theorem Reach.bJ(n:Nat){F:aH}{c:ar}(hF:aG P f=some F)(h1:Reach P Γ (AM.go P Γ 2 n (.fr ⟨.run,f,[.code F.body],args++List.replicate (F.nt-args.length) .undef,[],.norm,h.length⟩ up h)) c):Reach P Γ (.cl f args up h) c:=Br hF args (.bw n h1)
theorem Reach.inLoop{m:List Bool}{bc:al}{c:ar}(h1:Reach P Γ (.fr ⟨.run,fn,.code bc::.inLoop m bc::k,dj m t,ds,kind,base⟩ up h) c):Reach P Γ (.fr ⟨.run,fn,.code (.loop m bc)::k,t,ds,kind,base⟩ up h) c:=.trans (OU (.refl _)) h1
theorem Reach.aR{m:List Bool}{bc:al}{c:ar}(h1:Reach P Γ (.fr ⟨.run,fn,.code bc::.inLoop m bc::k,dj m t,ds,kind,base⟩ up h) c):Reach P Γ (.fr ⟨.run,fn,.inLoop m bc::k,t,ds,kind,base⟩ up h) c:=.trans (Pj (.refl _)) h1
theorem Reach.vf{f:Fr}{h':List Ob}{c:ar}(n:Nat)(hh:h.take n=h')(h1:f.base<=n)(h2:lj n f=true)(h3:cI n h'=true)(h4:Reach P Γ (.fr f up h') c):Reach P Γ (.fr f up h) c:=by
 subst hh;exact .trans (.drop n h1 h2 h3) h4
theorem Reach.oK{f:Fr}{i k:Nat}{E:TypeId}{es:List AV}{fl sh:Bool}{c:ar}(hi:h[i]? =some (.row k E es (some 0) fl sh))(h1:f.base<=i)(h2:jd i es.length f=true)(h3:cH i es.length h=true)
 (h4:Reach P Γ (.fr f up (h.set i (.row k E es none fl sh))) c):Reach P Γ (.fr f up h) c:=.trans (.reset h1 hi h2 h3) h4
def vP:List Nat->List AV->List Ob->List AV×List Ob
 |[],t,h=>(t,h)
 |i::is,t,h=>vP is (t.set i (mf h (t.getD i .undef))) (share (rowsOf (t.getD i .undef)) h)
theorem Reach.trees:∀(is:List Nat){f:Fr}{up:List Fr}{h:List Ob}{c:ar},Reach P Γ (.fr {f with t:=(vP is f.t h).1} up (vP is f.t h).2) c->Reach P Γ (.fr f up h) c
 |[],_,_,_,_,h1=>h1
 |i::is,f,up,h,c,h1=>.trans (.tree i) (Reach.trees is (f:={f with t:=f.t.set i (mf h (f.t.getD i .undef))}) h1)
theorem aB.trees(is:List Nat){f:Fr}{o:Out}(h1:aB P Γ (.fr {f with t:=(vP is f.t h).1} up (vP is f.t h).2) o):aB P Γ (.fr f up h) o:=.reach (Reach.trees is (.refl _)) h1
attribute [simp] vP mf rowsOf
end
@[simp] theorem auw(h:List Ob)(a b:List AV):bV h (a++b)=(match bV h a,bV h b with
  |some a',some b'=>some (a'++b')
  |_,_=>none):=by
 induction a with
 |nil=>simp only[kK,bV];cases bV h b<;>rfl
 |cons x a ih=>
  simp only[ep,bV,ih]
  cases view h x<;>cases bV h a<;>cases bV h b<;>rfl
@[simp] theorem avs{α:Type}(h:List Ob)(f:α->AV)(l:List α)(hf:∀x,view h (f x)=some (f x)):bV h (l.map f)=some (l.map f):=by
 induction l with
 |nil=>rfl
 |cons x l ih=>simp only[bL,bV,hf,ih]
@[simp] theorem atQ(a b:List AV):bO (a++b)=bO a++bO b:=by
 induction a with
 |nil=>rfl
 |cons x a ih=>simp only[ep,bO,ih,cM]
@[simp] theorem auK{α:Type}(f:α->AV)(l:List α)(hf:∀x,rowsOf (f x)=[]):bO (l.map f)=[]:=by
 induction l with
 |nil=>rfl
 |cons x l ih=>simp only[bL,bO,hf,ih,eR]
def nh(P:Program)(Γ:Nat->Option AV)(φ:List Ob->Prop)(f:FuncId)(caps:List AV){α:Type}(e:α->AV)(p:α->Bool)(l:List α):Prop:=
 aA P f=true/\∀x∈l,∀up h,φ h->Reach P Γ (.cl f (e x::caps) up h) (.back up (.bool (p x)) h)
def bC{α:Type}(p:α->Bool)(l:List α):Bool:=l.any p
@[simp] theorem FM{α:Type}(p:α->Bool):bC p []=false:=rfl
theorem lF{α:Type}(p:α->Bool)(x:α)(l:List α):bC p (x::l)=(p x||bC p l):=rfl
theorem km{α:Type}{p:α->Bool}{l:List α}:bC p l=false↔∀x∈l,p x=false:=by simp[bC]
theorem Bw{α:Type}{p:α->Bool}{l:List α}:bC p l=true↔∃x∈l,p x=true:=by simp[bC]
def iQ{α:Type}(p:α->Bool):List α->Nat->Int
 |[],_=>-1
 |x::xs,i=>if p x=true then i else iQ p xs (i+1)
theorem B0{α:Type}(p:α->Bool):∀(l:List α)(i:Nat),(0<=iQ p l i)↔bC p l=true
 |[],i=>by simp[iQ]
 |x::xs,i=>by
  rw[iQ]
  by_cases h:p x=true
  ·simp[h,lF]
  ·simp[h,lF,B0 p xs (i+1)]
@[simp] theorem awB(n:Nat):((n:Int)<0)=False:=kc (by omega)
@[simp] theorem awy(n:Nat):(0<=(n:Int))=True:=bU (by omega)
@[simp] theorem auJ(c:AV)(k:IntKind)(n:Int):eS [c] (.int k n)=c:=rfl
@[simp] theorem auu(c:AV)(b:Bool):eS [c] (.bool b)=c:=rfl
@[simp] theorem auD(c:AV)(s:List UInt8):eS [c] (.str s)=c:=rfl
@[simp] theorem aun(c:AV)(f:Bool)(k:Nat)(es:List AV):eS [c] (.list f k es)=c:=rfl
@[simp] theorem au3(c:AV)(i o n:Nat):eS [c] (.sl i o n)=c:=rfl
@[simp] theorem auH(cs ds:List AV):eS cs (.agg ds)=.agg cs:=by cases cs<;>rfl
theorem zb{a:Nat}(h:(a:Int)<2^62):IntKind.i64.wrap (a:Int)=a:=wrap64 (by omega) (by omega)
@[simp high] theorem axd(a:Nat):ie .shr .i64 (a:Int) 1=some ((a/2:Nat):Int):=by
 simp[ie,IntKind.bits];rw[Int.fdiv_eq_ediv_of_nonneg _ (by omega)]
@[simp high] theorem axa(a:Nat):ie .and .i64 (a:Int) 1=some ((a%2:Nat):Int):=by
 have h1:(BitVec.ofInt 64 (a:Int)&&&BitVec.ofInt 64 1).toNat=a%2:=by
  have e1:BitVec.ofInt 64 (1:Int)=1#64:=by decide
  rw[e1,BitVec.toNat_and,JL]
  have e2:(1#64:BitVec 64).toNat=1:=by decide
  rw[e2,Nat.and_one_is_mod];omega
 show some (IntKind.i64.wrap ((BitVec.ofInt 64 (a:Int)&&&BitVec.ofInt 64 1).toNat:Int))=_
 rw[h1,zb (by omega)]
theorem aa0(a:Nat):(a^^^1)%2=1-a%2:=by
 have h1:=@Nat.xor_mod_two_eq_one a 1;have h2:(a^^^1)%2<2:=Nat.mod_lt _ (by omega);have h3:a%2<2:=Nat.mod_lt _ (by omega);have h4:(1%2=1):=rfl;simp only[h4,iff_true]at h1;omega
theorem abG(a:Nat):(a^^^1)/2=a/2:=by rw[Nat.xor_div_two];simp
theorem mC(a:Nat):a^^^1=if a%2=0 then a+1 else a-1:=by
 have h1:=aa0 a;have h2:=abG a
 split<;>omega
@[simp high] theorem af2(a:Nat)(h:(a:Int)<2^60):ie .xor .i64 (a:Int) 1=some ((a^^^1:Nat):Int):=by
 have h1:(BitVec.ofInt 64 (a:Int)^^^BitVec.ofInt 64 1).toNat=a^^^1:=by
  have e1:BitVec.ofInt 64 (1:Int)=1#64:=by decide
  rw[e1,BitVec.toNat_xor,JL]
  have e2:(1#64:BitVec 64).toNat=1:=by decide
  rw[e2];congr 1;omega
 show some (IntKind.i64.wrap ((BitVec.ofInt 64 (a:Int)^^^BitVec.ofInt 64 1).toNat:Int))=_
 rw[h1,zb (by rw[mC];split<;>omega)]
@[simp high] theorem QU(a:Nat)(h:(a:Int)<2^62):ie .quo .i64 (a:Int) 2=some ((a/2:Nat):Int):=by
 simp only[ie];rw[if_neg (by omega),show((a:Int)).tdiv 2=((a/2:Nat):Int)from rfl,zb (by omega)]
@[simp high] theorem aw7(a:Nat):ie .rem .i64 (a:Int) 2=some ((a%2:Nat):Int):=by
 simp only[ie];rw[if_neg (by omega)];rfl
theorem gR{h:List Ob}{i:Nat}{o:Ob}(hi:h[i]? =some o)(os:List Ob):(h++os)[i]? =some o:=by
 rw[cz (ba hi)];exact hi
@[simp] theorem awK(h l:List Ob)(k:Nat):(h++l)[h.length+k]? =l[k]? :=by
 rw[df (by omega)];congr 1;omega
@[simp] theorem av4(h l:List Ob):(h++l)[h.length]? =l[0]? :=by
 rw[df (by omega)];congr 1;omega
@[simp] theorem awF(h l:List Ob)(k:Nat)(x:Ob):(h++l).set (h.length+k) x=h++l.set k x:=by
 rw[List.set_append,if_neg (by omega)];congr 2;omega
@[simp] theorem avU(h l:List Ob)(x:Ob):(h++l).set h.length x=h++l.set 0 x:=by
 rw[List.set_append,if_neg (by omega)];congr 2;omega
@[simp] theorem awi(h l:List Ob)(k:Nat):(h++l).take (h.length+k)=h++l.take k:=by
 rw[List.take_append,cJ (by omega)];simp
@[simp] theorem jk(i m:Nat)(a b:List Ob):cH i m (a++b)=(cH i m a&&cH i m b):=by
 induction a with
 |nil=>simp[cH]
 |cons x a ih=>simp[cH,ih,px]
@[simp] theorem pC(n:Nat)(a b:List Ob):cI n (a++b)=(cI n a&&cI n b):=by
 induction a with
 |nil=>simp[cI]
 |cons x a ih=>simp[cI,ih,px]
section
variable{P:Program}{Γ:Nat->Option AV}
theorem Ns:∀(i:Nat)(t:List AV),i<t.length->dj (List.replicate i true++[false]) t=t.set i .undef
 |_,[],h=>by simp at h
 |0,a::t,_=>by cases t<;>rfl
 |i+1,a::t,h=>by
  simp only[lA,ep,dj,rM];rw[Ns i t (by simpa using h)]
def oa(is:List Nat)(t:List AV):List AV:=is.foldl (fun t i=>t.set i .undef) t
theorem acA(t:List AV)(i:Nat):t.set i .undef=t\/i<t.length:=by
 by_cases h:i<t.length
 ·exact .inr h
 ·exact .inl (List.set_eq_of_length_le (by omega))
theorem Reach.n9{fn:FuncId}{k:List It}{ds:List dG}{kind:FK}{base:Nat}{up:List Fr}{h:List Ob}:∀(is:List Nat)(t:List AV),Reach P Γ (.fr ⟨.run,fn,k,t,ds,kind,base⟩ up h) (.fr ⟨.run,fn,k,oa is t,ds,kind,base⟩ up h)
 |[],t=>.refl _
 |i::is,t=>by
  refine .trans ?_ (Reach.n9 is (t.set i .undef))
  rcases acA t i with h1|h1
  ·rw[h1];exact .refl _
  ·have:=Reach.mask (P:=P) (Γ:=Γ) (f:=⟨.run,fn,k,t,ds,kind,base⟩) (up:=up) (h:=h) (List.replicate i true++[false]);simp only[Ns i t h1]at this;exact this
@[simp] theorem awm(t:List AV):oa [] t=t:=rfl
@[simp] theorem avM(i:Nat)(is:List Nat)(t:List AV):oa (i::is) t=oa is (t.set i .undef):=rfl
theorem aB.n9(is:List Nat){fn:FuncId}{k:List It}{t:List AV}{ds:List dG}{kind:FK}{base:Nat}{up:List Fr}{h:List Ob}{o:Out}(h1:aB P Γ (.fr ⟨.run,fn,k,oa is t,ds,kind,base⟩ up h) o):aB P Γ (.fr ⟨.run,fn,k,t,ds,kind,base⟩ up h) o:=.reach (.n9 is t) h1
theorem aB.oJ(i j k:Nat)(E:TypeId){f:Fr}{up:List Fr}{h:List Ob}{o:Out}{k0:Nat}{cs:List AV}(hi:h[i]? =some (.cells cs))(hj:cs[j]? =some (.list true k0 []))(hk:0<k)
 (h4:aB P Γ (.fr f up ((h++[Ob.row k E [] none true false]).set i (.cells (cs.set j (.sl h.length 0 0))))) o):aB P Γ (.fr f up h) o:=.reach (.oJ E hi hj hk) h4
theorem Reach.aaU(n:Nat)(E:TypeId){fn:FuncId}{d:Option Nat}{gd:Option (Nat×Bool)}{k:Nat}{zs:List AV}{ps:List (Nat×AX)}{os:List AG}{k':List It}{t:List AV}{ds:List dG}{kind:FK}{base:Nat}{up:List Fr}{h:List Ob}{c:ar}{es:List AV}
 (hw:dM t gd=some true)(hf:oY k zs (ps.map fun p=>(p.1,ax t p.2))=some es)
 (h1:Reach P Γ (AM.go P Γ 2 n (.fr ⟨.run,fn,.ops os::k',aU t d (.sl h.length 0 es.length),ds,kind,base⟩ up (h++[.row k E es none (cr es k) false]))) c):
 Reach P Γ (.fr ⟨.run,fn,.ops (⟨d,gd,.lit k zs ps⟩::os)::k',t,ds,kind,base⟩ up h) c:=
 .trans (.PA (f:=⟨.run,fn,.ops (⟨d,gd,.lit k zs ps⟩::os)::k',t,ds,kind,base⟩) E rfl rfl hw hf) (.bw n h1)
theorem Reach.PK(st n:Nat){f:FuncId}{args:List AV}{up:List Fr}{h:List Ob}{v:AV}{h':List Ob}{c:ar}(h1:∀up,Reach P Γ (.cl f args up h) (.back up v h'))(h2:Reach P Γ (AM.go P Γ st n (AM.pop (.back up v h'))) c):Reach P Γ (.cl f args up h) c:=.trans (h1 up) (.trans (.pop _) (.trans (.goes n _) h2))
theorem Reach.acu{f:Fr}{up:List Fr}{h:List Ob}{c:ar}{i k:Nat}{E:TypeId}{es:List AV}{fl sh:Bool}(hi:h[i]? =some (.row k E es (some 0) fl sh))(h1:jd i es.length f=true)(h2:up.all (jd i es.length)=true)(h3:cH i es.length h=true)
 (h4:Reach P Γ (.fr f up (h.set i (.row k E es none fl sh))) c):Reach P Γ (.fr f up h) c:=.trans (.P9 hi (by simp only[rP,h1,h2,oq]) h3) h4
theorem aB.nS{f:Fr}{up:List Fr}{h:List Ob}{o:Out}{i k:Nat}{E:TypeId}{es:List AV}{gr:Option Nat}{fl sh:Bool}(hi:h[i]? =some (.row k E es gr fl sh))(hg:gr=none\/gr=some 0)(h1:f.base<=i)(h2:jd i es.length f=true)(h3:cH i es.length h=true)
 (h4:aB P Γ (.fr f up (h.set i (.row k E es none fl sh))) o):aB P Γ (.fr f up h) o:=by
 rcases hg with rfl|rfl
 ·have:h.set i (.row k E es none fl sh)=h:=by
   apply iy;intro j
   by_cases hj:i=j
   ·subst hj;rw[eL (ba hi),hi]
   ·rw[dK hj]
  rw[this]at h4;exact h4
 ·exact .reset hi h1 h2 h3 h4
end
theorem aB.either(n:Nat){P:Program}{Γ:Nat->Option AV}{fn:FuncId}{d:Option Nat}{x:AX}{neg:Bool}{os:List AG}{k:List It}{t:List AV}{ds:List dG}{kind:FK}{base:Nat}{up:List Fr}{h:List Ob}{o:Out}(h0:o_ (ax t x)=some 0)
 (h1:∀b,aB P Γ (AM.go P Γ 0 n (.fr ⟨.run,fn,.ops os::k,aU t d (.bool b),ds,kind,base⟩ up h)) o):aB P Γ (.fr ⟨.run,fn,.ops (⟨d,none,.jT neg x⟩::os)::k,t,ds,kind,base⟩ up h) o:=
 .jT (f:=⟨.run,fn,.ops (⟨d,none,.jT neg x⟩::os)::k,t,ds,kind,base⟩) rfl rfl rfl (by simp only[az,h0]) fun b=>.go n (h1 b)
theorem Reach.ZH(i k:Nat)(E:TypeId){P:Program}{Γ:Nat->Option AV}{fn:FuncId}{its:List It}{t:List AV}{ds:List dG}{kind:FK}{base:Nat}{up:List Fr}{h:List Ob}{c:ar}{k0:Nat}(hi:t[i]? =some (.list true k0 []))(hk:0<k)
 (h4:Reach P Γ (.fr ⟨.run,fn,its,t.set i (.sl h.length 0 0),ds,kind,base⟩ up (h++[Ob.row k E [] none true false])) c):Reach P Γ (.fr ⟨.run,fn,its,t,ds,kind,base⟩ up h) c:=
 .trans (.pR (f:=⟨.run,fn,its,t,ds,kind,base⟩) E rfl hi hk) h4
theorem aB.pR(i k:Nat)(E:TypeId){P:Program}{Γ:Nat->Option AV}{fn:FuncId}{its:List It}{t:List AV}{ds:List dG}{kind:FK}{base:Nat}{up:List Fr}{h:List Ob}{o:Out}{k0:Nat}(hi:t[i]? =some (.list true k0 []))(hk:0<k)
 (h4:aB P Γ (.fr ⟨.run,fn,its,t.set i (.sl h.length 0 0),ds,kind,base⟩ up (h++[Ob.row k E [] none true false])) o):aB P Γ (.fr ⟨.run,fn,its,t,ds,kind,base⟩ up h) o:=
 .reach (.ZH i k E hi hk (.refl _)) h4
def cK(P:Program)(Γ:Nat->Option AV):ar->ar
 |.fr f up h=>match f.md with
  |.run=>match f.its with
   |.ops (o::os)::k=>iD P Γ f up h (.ops (o::os)::k)
   |_=>.fr f up h
  |_=>.fr f up h
 |.back (c::up) v h=>match c.finish v with
  |some c'=>.fr c' up h
  |none=>.bad
 |c=>c
def mg(P:Program)(Γ:Nat->Option AV):Nat->ar->ar
 |0,c=>c
 |n+1,c=>mg P Γ n (cK P Γ c)
section
variable{P:Program}{Γ:Nat->Option AV}{n:Nat}{fn:FuncId}{k:List It}{t:List AV}{ds:List dG}{kind:FK}{base:Nat}{up:List Fr}{h h':List Ob}
theorem Reach.cK(c:ar):Reach P Γ c (AM.cK P Γ c):=by
 cases c with
 |fr f up h=>
  obtain⟨md,fn,its,t,ds,kind,base⟩:=f
  cases md with
  |run=>
   simp only[AM.cK]
   split
   ·exact .step _
   ·exact .refl _
  |_=>exact .refl _
 |back up v h=>cases up<;>first|exact .refl _|exact .step _
 |_=>exact .refl _
theorem Reach.y_:∀(n:Nat)(c:ar),Reach P Γ c (AM.mg P Γ n c)
 |0,c=>.refl c
 |n+1,c=>.trans (.cK c) (Reach.y_ n _)
theorem FY{c:ar}(hc:cK P Γ c=c):∀n,mg P Γ n c=c
 |0=>rfl
 |n+1=>by rw[mg,hc];exact FY hc n
@[simp] theorem PE{d:Option Nat}{o:AO}{os:List AG}:mg P Γ (n+1) (.fr ⟨.run,fn,.ops (⟨d,none,o⟩::os)::k,t,ds,kind,base⟩ up h)=
  mg P Γ n (fL P ⟨.run,fn,.ops (⟨d,none,o⟩::os)::k,t,ds,kind,base⟩ up h ⟨d,none,o⟩ os k (az P Γ t h o)):=(rfl)
@[simp] theorem awN:mg P Γ n (.fr ⟨.run,fn,.ops []::k,t,ds,kind,base⟩ up h)=.fr ⟨.run,fn,.ops []::k,t,ds,kind,base⟩ up h:=FY rfl n
@[simp] theorem awW{f:FuncId}{args:List AV}:mg P Γ n (.cl f args up h)=.cl f args up h:=FY rfl n
@[simp] theorem avP{c:Fr}{v:AV}:mg P Γ (n+1) (.back (c::up) v h)=mg P Γ n (match c.finish v with
  |some c'=>.fr c' up h
  |none=>.bad):=(rfl)
theorem aB.ogO(n:Nat){as:List (List Nat)}{gs:List AG}{r:AV}
 (h1:∀l∈fU as as.length [],aB P Γ (AM.mg P Γ n (.fr ⟨.run,fn,.ops (l.map fun i=>gs.getD i default)::k,t,ds,kind,base⟩ up h)) (.ret r)):
 aB P Γ (.fr ⟨.run,fn,.code (.fG as gs)::k,t,ds,kind,base⟩ up h) (.ret r):=
 .Cm (f:=⟨.run,fn,.code (.fG as gs)::k,t,ds,kind,base⟩) rfl rfl (fun v hv=>by cases hv) fun l hl=>.reach (.y_ n _) (h1 l hl)
theorem aB.ogD(n:Nat){l:List Bool}{ws:List Nat}{gs:List AG}{r:AV}
 (h1:∀l∈fU (pa gs) gs.length [],aB P Γ (AM.mg P Γ n (.fr ⟨.run,fn,.ops (l.map fun i=>gs.getD i default)::k,t,ds,kind,base⟩ up h)) (.ret r)):
 aB P Γ (.fr ⟨.run,fn,.code (.aX l ws gs)::k,t,ds,kind,base⟩ up h) (.ret r):=
 .B1 (f:=⟨.run,fn,.code (.aX l ws gs)::k,t,ds,kind,base⟩) rfl rfl (fun v hv=>by cases hv) fun l hl=>.reach (.y_ n _) (h1 l hl)
theorem aB.Qr(n:Nat){f:FuncId}{args as:List AV}{r:AV}{o:Out}(h1:bV h args=some as)(h2:aP P Γ f as r)(h3:aB P Γ (AM.mg P Γ n (.back up (dB h.length r).1 (dV h args r))) o):aB P Γ (.cl f args up h) o:=
 .reach (.pure h1 h2) (.reach (.y_ n _) h3)
end
def Hz(n:Nat)(τ:List Nat)(its:List It)(t:List AV)(ds:List dG)(kind:FK)(base:Nat)(h:List Ob):Prop:=
 base<=n/\n<=h.length/\(∀j∈τ,n+j<h.length)/\ea n τ t=true/\kC n ds=true/\gk n its=true/\pd n kind=true/\fM n τ (h.take n)=true/\rD n τ (mV h n τ)=true
theorem Reach.l0(n:Nat)(τ:List Nat){P:Program}{Γ:Nat->Option AV}{fn:FuncId}{its:List It}{t:List AV}{ds:List dG}{kind:FK}{base:Nat}{up:List Fr}{h:List Ob}{c:ar}(hc:Hz n τ its t ds kind base h)(hnd:τ.Nodup)
 (h4:Reach P Γ (.fr ⟨.run,fn,its,cn n τ t,ds,kind,base⟩ up (jh n τ h)) c):Reach P Γ (.fr ⟨.run,fn,its,t,ds,kind,base⟩ up h) c:=
 .trans (.gc (f:=⟨.run,fn,its,t,ds,kind,base⟩) n τ rfl hc.1 hc.2.1 hc.2.2.1 hnd hc.2.2.2.1 hc.2.2.2.2.1 hc.2.2.2.2.2.1 hc.2.2.2.2.2.2.1 hc.2.2.2.2.2.2.2.1 hc.2.2.2.2.2.2.2.2) h4
theorem aB.gc(n:Nat)(τ:List Nat){P:Program}{Γ:Nat->Option AV}{fn:FuncId}{its:List It}{t:List AV}{ds:List dG}{kind:FK}{base:Nat}{up:List Fr}{h:List Ob}{o:Out}(hc:Hz n τ its t ds kind base h)(hnd:τ.Nodup)
 (h4:aB P Γ (.fr ⟨.run,fn,its,cn n τ t,ds,kind,base⟩ up (jh n τ h)) o):aB P Γ (.fr ⟨.run,fn,its,t,ds,kind,base⟩ up h) o:=
 .reach (.l0 n τ hc hnd (.refl _)) h4
attribute [simp] lN iR.cfg Hz fN fa dJ cn e_ ea nA qE kH lz fM rD jj mV jh List.idxOf_cons
theorem Reach.QK{P:Program}{Γ:Nat->Option AV}{f:FuncId}{args as:List AV}{r:AV}{h:List Ob}(h1:bV h args=some as)(h2:aP P Γ f as r)(h3:∀n,dB n r=(r,[]))(h4:dV h args r=h):∀up,Reach P Γ (.cl f args up h) (.back up r h):=by
 intro up;have:=back_eq h1 h2 up;rw[h3,h4]at this;exact this
end Go.AM
namespace Go.AM
open Go.RowKit
variable{P:Program}{Γ:Nat->Option AV}
theorem Inv.below{N:Env}{g:G}{h:List Ob}{w w':World}(H:Inv P Γ N g h w)(hb:Below w.heap.size w w'):Inv P Γ N g h w':=by
 have hblk:∀b x,w.heap[b]? =some x->w'.heap[b]? =some x:=fun b x hx=>by
  rw[hb.block b (by
   rcases lB b w.heap.size with h1|h1
   ·exact h1
   ·rw[pk h1]at hx;cases hx)]
  exact hx
 have hcell:∀b o v,w.cell? ⟨b,o,none⟩=some v->w'.cell? ⟨b,o,none⟩=some v:=fun b o v hv=>by
  rcases lB b w.heap.size with h1|h1
  ·rw[ug (hb.block b h1)];exact hv
  ·simp[World.cell?,pk h1]at hv
 refine⟨hb.os.trans H.os,hb.tape.trans H.tape,hb.output.trans H.output,fun b o hk=>hblk b o (H.fm b o hk),fun i b x hi=>⟨(H.own i b x hi).1,oi (H.own i b x hi).2 hb.size⟩,H.inj,H.pf,
  fun b o v hv=>hcell b o v (H.mem b o v hv),fun b es ck hk=>⟨hblk b _ (H.mm b es ck hk).1,(H.mm b es ck hk).2⟩,H.eE,?_,H.lh,H.mK,H.jE,H.lx⟩
 intro i o hi;exact nP (Ext.refl _ _ _) rfl (fun b y hy=>hb.block b (H.own i b y hy).2) (H.ob i o hi)
theorem aP.QJ{f:FuncId}{as:List AV}{r:AV}(hb:aA P f=true)(hun:∀n,dB n r=(r,[]))(ht:sU r=true)
 (hc:∀(N:Env)(g:G)(h:List Ob)(w:World)(us:List Value),Inv P Γ N g h w->VL g h as us->Calls P f us.toArray w fun e w'=>(∃u,e=.returned u/\∀g h,V g h r u)/\Below w.heap.size w w'):aP P Γ f as r:=by
 refine⟨hb,fun _ N g h w us H hV=>(hc N g h w us H hV).mono ?_⟩
 rintro e w' ⟨⟨u,rfl,hu⟩,hB⟩
 refine⟨u,g,rfl,ht,?_,?_,fun _ _=>rfl,fun _ _ _ x=>x,fun b hb=>hB.block b hb⟩
 ·rw[hun];simpa using H.below hB
 ·rw[hun];exact hu _ _
@[simp] theorem Wz(c:UInt8):Cd (iK c)=some c:=by
 simp only[Cd,iK,dt,aj];exact UInt8.ofNat_toNat
@[simp] theorem Xi:∀w:List UInt8,pO (w.map iK)=some w
 |[]=>rfl
 |c::w=>by rw[bL,pO,Wz,Xi w]
end Go.AM
namespace Go.AM
open Go.ChangeShapes Go.WideShapes Go.ChangeAt Go.RowKit
theorem F8{P:Program}{W:World}:∀{l:List (String×DataW Unit)}{ps:List MemPlace},DataW.LaidVars P W l ps->∀n d,(n,d)∈l->
 ∃g t cs fuel p,P.globalNamed n=some g/\(P.globals[g]?).map (·.type)=some t/\W.var? P n=some cs/\DataW.trod (fun _=>()) P W 0 (fun _=>true) false fuel t cs.toList=some (d,p)
 |[],ps,_,n,d,hm=>by simp at hm
 |(n0,d0)::l,ps,h,n,d,hm=>by
  obtain⟨g,t,cs,fuel,p,q,h1,h2,h3,h4,h5,_⟩:=h
  rcases bo.1 hm with hm|hm
  ·cases hm
   exact⟨g,t,cs,fuel,p,h1,h2,h3,h4⟩
  ·exact F8 h5 n d hm
theorem Lo{H:Type}(z x:Lit×DataW H):∀l,z∈DataW.insert x l↔z=x\/z∈l
 |[]=>by simp[DataW.insert]
 |y::r=>by
  rw[DataW.insert]
  split
  ·simp
  ·simp only[bo,Lo z x r];constructor
   ·rintro(h|h|h)
    ·exact .inr (.inl h)
    ·exact .inl h
    ·exact .inr (.inr h)
   ·rintro(h|h|h)
    ·exact .inr (.inl h)
    ·exact .inl h
    ·exact .inr (.inr h)
theorem El{H:Type}(z:Lit×DataW H):∀l:List (Lit×DataW H),z∈l.foldr DataW.insert []↔z∈l
 |[]=>by simp
 |x::l=>by simp only[List.foldr_cons,Lo,El z l,bo]
theorem Pr{α β:Type}{f:α->Option β}:∀{l:List α}{r:List β},l.mapM f=some r->F2 (fun a b=>f a=some b) l r
 |[],r,h=>by simp at h;subst h;exact .nil
 |x::l,r,h=>by
  simp only[tz,qN,pw,Option.pure_def,aj]at h;obtain⟨b,hb,r',hr',rfl⟩:=h;exact .cons hb (Pr hr')
theorem abk{H:Type}{enc:TypeId×Value->H}{P:Program}{w:World}{base:Nat}{sp:Nat->Bool}{held:Bool}{t k e:TypeId}(ht:P.underlying t=some (.map k e)){fuel:Nat}{cs:List Value}{D:List (Lit×DataW H)}{ps:List MemPlace}
 (h:DataW.trod enc P w base sp held fuel t cs=some (.map D,ps)):
 ∃n b es clock,∃entries:List ((Lit×DataW H)×List MemPlace),cs=[.map (some b)]/\w.heap[b]? =some (.map es clock)/\
  F2 (fun(x:MapEntry) y=>keyOf P k x.key=some y.1.1/\x.val.formed P e=true/\DataW.trod enc P w base sp held n e x.val.cells.toList=some (y.1.2,y.2)) es.toList entries/\D=(entries.map (·.1)).foldr DataW.insert []:=by
 cases fuel with
 |zero=>simp[DataW.trod]at h
 |succ n=>
  rw[DataW.trod_step]at h;unfold DataW.trodStep at h;rw[ht]at h
  split at h<;>simp_all
  rename_i b _
  cases hb:w.heap[b]? with
  |none=>simp[hb]at h
  |some o=>
   cases o<;>simp only[hb,reduceCtorEq]at h
   rename_i es clock
   split at h
   ·simp only[pw]at h;obtain⟨entries,h1,h2⟩:=h
    split at h2
    ·simp only[aj,bX,DataW.map.injEq]at h2;refine⟨n,es,⟨clock,rfl⟩,entries,?_,h2.1.symm⟩
     refine Gv (Pr h1) fun x y hxy=>?_
     simp only[pw]at hxy;obtain⟨key,h3,h4⟩:=hxy
     split at h4
     ·rename_i hf;rw[bY]at h4;obtain⟨z,h5,rfl⟩:=h4;exact⟨h3,hf,h5⟩
     ·cases h4
    ·cases h2
   ·cases h
def oN:Lit->AV
 |.string s=>.str s
 |.int k n=>.int k n
 |_=>.undef
def G2{H:Type}:DataW H->AV
 |.lit (.bool b)=>.bool b
 |.lit (.int k n)=>.int k n
 |.lit (.string s)=>.str s
 |_=>.undef
def oW{H:Type}:DataW H->AV
 |.agg ds=>.agg (ds.map G2)
 |d=>G2 d
theorem adO{P:Program}{k:TypeId}{q:IntKind}(hk:P.underlying k=some (.int q)){g:G}{h:List Ob}{v:Value}{l:Lit}(hv:keyOf P k v=some l):V g h (oN l) v/\aK 0 (oN l)=true/\∃n,l=.int q n:=by
 rw[keyOf_int hk]at hv
 cases v<;>simp[mapKey,hk]at hv
 obtain⟨⟨rfl,_⟩,rfl⟩:=hv;exact⟨by simp[oN,V],rfl,_,rfl⟩
theorem abM{P:Program}{e e':TypeId}{q:IntKind}(he:P.underlying e=some (.array 2 e'))(he':P.underlying e'=some (.int q))(h1:P.cellsOf e'=1)(h2:P.cellsOf e=2){H:Type}{enc:TypeId×Value->H}{w:World}{base:Nat}{sp:Nat->Bool}{held:Bool}{n:Nat}{v:Value}{x:DataW H×List MemPlace}{g:G}{h:List Ob}
 (hf:v.formed P e=true)(ht:DataW.trod enc P w base sp held n e v.cells.toList=some x):V g h (oW x.1) v/\aK 0 (oW x.1)=true:=by
 cases v<;>simp[Value.formed,he]at hf
 rename_i cs
 have hl:cs.toList.length=2:=by simpa[h2]using hf
 obtain⟨a,b,hab⟩:∃a b,cs.toList=[a,b]:=by
  match hc:cs.toList,hl with
  |[a,b],_=>exact⟨a,b,rfl⟩
 cases n with
 |zero=>simp[DataW.trod]at ht
 |succ m=>
  simp only[Value.cells,hab]at ht;rw[DataW.trod_step]at ht;unfold DataW.trodStep at ht;rw[he]at ht;simp only[h1,h2,bz,c9,cG,show List.range 2=[0,1]from rfl,tz,List.mapM_nil]at ht;simp only[qN,Option.pure_def,bY,pw,aj,Nat.mul_one,fe,List.drop_succ_cons,TE,zV]at ht;obtain⟨y,⟨y1,hy1,ys,⟨y2,hy2,zs,rfl,rfl⟩,rfl⟩,rfl⟩:=ht;obtain⟨n1,e1,rfl,_⟩:=DataW.trod_int he' hy1;obtain⟨n2,e2,rfl,_⟩:=DataW.trod_int he' hy2;simp only[zU,rO]at e1 e2;subst e1 e2
  have hcs:cs=[Value.int q n1,Value.int q n2].toArray:=by rw[<-hab]
  subst hcs;simp[oW,G2,V,VL,aK,aL]
theorem KW(E:EK)(kk:AV):∀(l:List (AV×AV)),(∀y∈l,(cw E kk y.1=some true/\kk=y.1)\/(cw E kk y.1=some false/\kk≠y.1))->
 ∃r,eT E kk l=some r/\(r=none->∀y∈l,kk≠y.1)/\(∀v,r=some v->(kk,v)∈l)
 |[],_=>⟨none,rfl,fun _ y hy=>by simp at hy,fun v hv=>by cases hv⟩
 |(a,u)::l,h=>by
  rcases h (a,u) (ov ..)with⟨h1,h2⟩|⟨h1,h2⟩
  ·refine⟨some u,by simp only[eT,h1],fun hn=>absurd hn (by simp),fun v hv=>?_⟩;obtain rfl:=Option.some.inj hv;rw[show kk=a from h2];exact ov ..
  ·obtain⟨r,h3,h4,h5⟩:=KW E kk l (fun y hy=>h y (dP _ hy));refine⟨r,by simp only[eT,h1];exact h3,fun hn y hy=>?_,fun v hv=>dP _ (h5 v hv)⟩
   rcases bo.1 hy with rfl|hy
   ·exact h2
   ·exact h4 hn y hy
theorem y7{α β:Type}{R:α->β->Prop}{g:G}{h:List Ob}{f:β->AV}{e:α->Value}:∀{l:List α}{m:List β},F2 R l m->(∀a b,R a b->V g h (f b) (e a)/\aK 0 (f b)=true)->VL g h (m.map f) (l.map e)/\aL 0 (m.map f)=true
 |_,_,.nil,_=>⟨by simp[VL],rfl⟩
 |_,_,.cons h1 h2,hR=>by
  obtain⟨a1,a2⟩:=hR _ _ h1;obtain⟨b1,b2⟩:=y7 h2 hR;simp only[bL,VL,aL,a2,b2,oq,rO];exact⟨_,_,rfl,a1,b1⟩
theorem aa8{P:Program}{W:World}{l:List (String×DataW Unit)}(hl:laidMetH P l W)(hp:(l.all fun x=>x.2.handleName?.isNone)=true){name:String}{D:List (Lit×DataW Unit)}{g:Nat}{t k e:TypeId}(hm:(name,DataW.map D)∈l)
 (hg:P.globalNamed name=some g)(ht:(P.globals[g]?).map (·.type)=some t)(hu:P.underlying t=some (.map k e))
 (hK:∀(v:Value)(q:Lit),keyOf P k v=some q->V (gw W) [] (oN q) v/\aK 0 (oN q)=true)
 (hV:∀(n:Nat)(v:Value)(x:DataW Unit×List MemPlace),v.formed P e=true->DataW.trod (fun _=>()) P W 0 (fun _=>true) false n e v.cells.toList=some x->V (gw W) [] (oW x.1) v/\aK 0 (oW x.1)=true):
 ∃ks us,aL 0 (AV.cells (.dH ks us))=true/\(∃vs,VL (gw W) [] (AV.cells (.dH ks us)) vs/\∀j(hj:j<vs.length),W.cell? ⟨g,j,none⟩=some vs[j])/\∃z:List (AV×AV),ks.zip us=z/\∀y,y∈z↔y∈D.map fun d=>(oN d.1,oW d.2):=by
 rw[MakeChecks.laidMetH_plain _ _ _ hp]at hl;obtain⟨ps,h1,_⟩:=hl;obtain⟨g',t',cs,fuel,p,h2,h3,h4,h5⟩:=F8 h1 _ _ hm;obtain rfl:=Option.some.inj (hg.symm.trans h2);obtain rfl:=Option.some.inj (ht.symm.trans h3);obtain⟨n,b,es,ck,entries,hcs,hb,hF,rfl⟩:=abk hu h5;refine⟨entries.map fun y=>oN y.1.1,entries.map fun y=>oW y.1.2,?_,⟨[.map (some b)],?_,?_⟩,_,rfl,?_⟩
 ·have a:=y7 (g:=gw W) (h:=[]) (f:=fun y=>oN y.1.1) (e:=fun x:MapEntry=>x.key) hF (fun x y hxy=>hK _ _ hxy.1);have c:=y7 (g:=gw W) (h:=[]) (f:=fun y=>oW y.1.2) (e:=fun x:MapEntry=>x.val) hF (fun x y hxy=>hV n _ (y.1.2,y.2) hxy.2.1 hxy.2.2);simp only[AV.cells,aL,aK,a.2,c.2,oq]
 ·have a:=y7 (g:=gw W) (h:=[]) (f:=fun y=>oN y.1.1) (e:=fun x:MapEntry=>x.key) hF (fun x y hxy=>hK _ _ hxy.1);have c:=y7 (g:=gw W) (h:=[]) (f:=fun y=>oW y.1.2) (e:=fun x:MapEntry=>x.val) hF (fun x y hxy=>hV n _ (y.1.2,y.2) hxy.2.1 hxy.2.2);simp only[AV.cells,VL,V];refine⟨_,[],rfl,⟨b,es,ck,rfl,by simp only[gw,hb],a.1,c.1⟩,rfl⟩
 ·intro j hj
  obtain rfl:j=0:=by simp at hj;omega
  rw[World.var?_cell hg h4 0,zX.symm,hcs];rfl
 ·intro y;rw[List.zip_map',b_,b_];constructor
  ·rintro⟨x,hx,rfl⟩
   exact⟨x.1,(El _ _).2 (wk hx),rfl⟩
  ·rintro⟨d,hd,rfl⟩
   obtain⟨x,hx,rfl⟩:=b_.1 ((El _ _).1 hd);exact⟨x,hx,rfl⟩
end Go.AM
namespace Go.AM
theorem ada{n:Nat}{τ:List Nat}{o:Ob}(hb:hY n o=true):lz n τ o=true:=by
 have okM_bel:∀es:List (AV×AV),gE n es=true->qE n τ es=true:=by
  intro es
  induction es with
  |nil=>intro _;rfl
  |cons x r ih=>
   obtain⟨a,b⟩:=x;intro h;simp only[gE,ay]at h;simp only[qE,jo h.1.1,jo h.1.2,ih h.2,oq]
 cases o<;>simp only[hY]at hb<;>simp only[lz]
 ·exact mF hb
 ·rw[fv]at hb⊢;exact hb.imp id mF
 ·exact okM_bel _ hb
 ·exact mF hb
theorem mD{n:Nat}{τ:List Nat}:∀{h:List Ob},cI n h=true->fM n τ h=true
 |[],_=>rfl
 |o::os,hb=>by
  simp only[cI,ay]at hb;have h1:=mD (τ:=τ) hb.2
  cases o with
  |loop st pend fn t ps a b=>
   have h2:=hb.1;simp only[hY]at h2;simp only[fM,h1,h2,oq]
  |_=>
   have h2:=ada (τ:=τ) hb.1;simp only[fM,h1,h2,oq]
@[simp] theorem XQ(n:Nat)(τ:List Nat):∀a b:List Ob,fM n τ (a++b)=(fM n τ a&&fM n τ b)
 |[],b=>rfl
 |o::a,b=>by
  have ih:=XQ n τ a b
  cases o<;>simp[fM,ih,px]
@[simp] theorem YF(n:Nat)(τ:List Nat):∀a b:List Ob,jj n τ (a++b)=jj n τ a++jj n τ b
 |[],b=>rfl
 |o::a,b=>by simp[jj,YF n τ a b]
@[simp] theorem Yr(n:Nat)(τ:List Nat):∀a b:List AV,cn n τ (a++b)=cn n τ a++cn n τ b
 |[],b=>rfl
 |o::a,b=>by simp[cn,Yr n τ a b]
@[simp] theorem XN(n:Nat)(τ:List Nat):∀a b:List AV,ea n τ (a++b)=(ea n τ a&&ea n τ b)
 |[],b=>rfl
 |o::a,b=>by simp[ea,XN n τ a b,px]
attribute [simp] Ek
@[simp] theorem Xb(i m:Nat):∀a b:List AV,cW i m (a++b)=(cW i m a&&cW i m b)
 |[],b=>rfl
 |o::a,b=>by simp[cW,Xb i m a b,px]
theorem WN{as:List (List Nat)}{d1 d2:List Nat}(h:∀x,d1.contains x=d2.contains x)(i:Nat):kY as d1 i=kY as d2 i:=by
 unfold kY;rw[h i];congr 1
 refine List.all_congr rfl fun x=>h x
theorem Kl(as:List (List Nat)):∀(n:Nat)(d1 d2:List Nat),(∀x,d1.contains x=d2.contains x)->fU as n d1=fU as n d2
 |0,_,_,_=>rfl
 |n+1,d1,d2,h=>by
  rw[fU,fU,show kY as d1=kY as d2 from funext (WN h)];congr 1
  funext i
  rw[Kl as n (i::d1) (i::d2) fun x=>by simp only[List.contains_cons,h x]]
section
variable{P:Program}{Γ:Nat->Option AV}{as:List (List Nat)}{gs:List AG}{fn:FuncId}{k:List It}{ds:List dG}{kind:FK}{base:Nat}{up:List Fr}{c:ar}
def l8(P:Program)(Γ:Nat->Option AV)(as:List (List Nat))(gs:List AG)(fn:FuncId)(k:List It)(ds:List dG)(kind:FK)(base:Nat)(up:List Fr)(c:ar)(done:List Nat)(n:Nat)(t:List AV)(h:List Ob):Prop:=
 ∀l∈fU as n done,Reach P Γ (.fr ⟨.run,fn,.ops (l.map fun i=>gs.getD i default)::k,t,ds,kind,base⟩ up h) c
theorem l8.step{done:List Nat}{n:Nat}{t:List AV}{h:List Ob}
 (h1:∀i∈(List.range as.length).filter (kY as done),∃d op v h',gs.getD i default=⟨d,none,op⟩/\(az P Γ t h op=.val v h'\/v=.aE []/\az P Γ t h op=.skip h')/\l8 P Γ as gs fn k ds kind base up c (i::done) n (aU t d v) h'):l8 P Γ as gs fn k ds kind base up c done (n+1) t h:=by
 intro l hl;simp only[fU,nD,b_]at hl;obtain⟨i,hi,l',hl',rfl⟩:=hl;obtain⟨d,op,v,h',e1,e2,h3⟩:=h1 i hi;have h4:=h3 l' hl';refine .trans (Reach.y_ 1 _) ?_;simp only[bL,e1]
 rcases e2 with e2|⟨rfl,e2⟩
 ·rw[show(1:Nat)=0+1 from rfl,PE,e2,adX];exact h4
 ·rw[show(1:Nat)=0+1 from rfl,PE,e2,abo];exact h4
theorem l8.congr{d1 d2:List Nat}{n:Nat}{t:List AV}{h:List Ob}(h1:l8 P Γ as gs fn k ds kind base up c d1 n t h)(h2:∀x,d1.contains x=d2.contains x):l8 P Γ as gs fn k ds kind base up c d2 n t h:=by
 intro l hl;rw[<-Kl as n d1 d2 h2]at hl;exact h1 l hl
theorem l8.perm{d1 d2:List Nat}{n:Nat}{t:List AV}{h:List Ob}(h1:l8 P Γ as gs fn k ds kind base up c d1 n t h)(h2:d1.Perm d2):l8 P Γ as gs fn k ds kind base up c d2 n t h:=
 h1.congr fun x=>by rw[iB,DE,DE];exact h2.mem_iff
theorem l8.all{t:List AV}{h:List Ob}(h1:l8 P Γ as gs fn k ds kind base up c [] as.length t h):Reach P Γ (.fr ⟨.run,fn,.code (.fG as gs)::k,t,ds,kind,base⟩ up h) c:=
 .fG (f:=⟨.run,fn,.code (.fG as gs)::k,t,ds,kind,base⟩) rfl rfl h1
end
end Go.AM
namespace Go.AM
open Go.ChangeShapes Go.WideShapes Go.ChangeAt Go.RowKit
theorem K7{P:Program}{W:World}{l:List (String×DataW Unit)}(hl:laidMetH P l W):laidMetH P (l.filter fun x=>x.2.handleName?.isNone) W:=by
 have h:=(laidMetH_iff.1 hl).1;rw[MakeChecks.laidMetH_plain _ _ _ (by rw[dU];intro x hx;exact(du.1 hx).2)];exact h
end Go.AM
