/- The abstract machine: rows of slices whose slices turn no more; literals that are rows of their own. -/
import Derived.Test.YtihmomicdpkabaaGreatDoorAMc
import Derived.ProofKit
import Derived.OpenShut
import Derived.JoinedCond
import Derived.ChangeStays
import Derived.ChangeBears
import Derived.ChangeCalls
import Derived.Below
import Derived.MakeChecks
import Derived.LaidMore
import Derived.StringKeys
import Derived.ChangeKeys
import Derived.LaidHandle
import Derived.LaidSub
set_option linter.unusedSimpArgs false
set_option linter.unusedVariables false
namespace Go.AM
open Go.RowKit
theorem Lr{j:Nat}:∀(is:List Nat)(h:List Ob),j∉is->(share is h)[j]? =h[j]?
 |[],_,_=>rfl
 |i::is,h,hj=>by
  simp only[bq,not_or]at hj;simp only[share]
  have hne:¬i=j:=fun e=>hj.1 e.symm
  rw[Lr is _ hj.2,wX];simp[hne]
section
variable{P:Program}{Γ:Nat->Option AV}{N:Env}{g:G}{h:List Ob}{w:World}
theorem LF{a a':AV}(hv:view h a=some a')(ho:a.one=true):a'.one=true:=by
 cases a with
 |agg _|aG _|undef|own _ _ _=>simp[AV.one]at ho
 |list f k es=>simp only[view,aj]at hv;subst hv;rfl
 |sl i o n=>simp only[view,bO]at hv;obtain⟨p,_,rfl⟩:=hv;rfl
 |ptr _ _|mp _|it _|cQ _|cV _ _ _ _=>simp[view]at hv
 |c8 _ _=>simp only[view]at hv;split at hv<;>simp at hv;subst hv;rfl
 |fn f x y=>simp only[view]at hv;split at hv<;>simp at hv;subst hv;rfl
 |bS t x=>simp only[view,bO]at hv;obtain⟨y,_,rfl⟩:=hv;rfl
 |_=>simp only[view,aj]at hv;subst hv;rfl
theorem DO:∀{as as':List AV},bP h as=some as'->as'.length=as.length/\(bQ as=true->bQ as'=true)
 |[],as',hv=>by simp only[bP,aj]at hv;subst hv;exact⟨rfl,id⟩
 |a::as,as',hv=>by
  simp only[bP]at hv
  split at hv
  ·rename_i a1 as1 h1 h2;simp only[aj]at hv;subst hv;obtain⟨h3,h4⟩:=DO h2;refine⟨by simp[h3],fun ho=>?_⟩;simp only[bQ,aw]at ho⊢;exact⟨LF h1 ho.1,h4 ho.2⟩
  ·cases hv
theorem WB{a a':AV}(hv:view h a=some a')(ho:bQ a.cells=true):a'.cells.length=a.cells.length/\bQ a'.cells=true:=by
 by_cases ha:∃cs,a=.agg cs
 ·obtain⟨cs,rfl⟩:=ha;simp only[view,bO]at hv;obtain⟨cs',h1,rfl⟩:=hv;obtain⟨h2,h3⟩:=DO h1;exact⟨h2,h3 ho⟩
 ·have hc:a.cells=[a]:=by cases a<;>first|rfl|exact absurd ⟨_,rfl⟩ ha
  rw[hc]at ho;simp only[bQ,nJ]at ho;have h1:=LF hv ho
  have hc':a'.cells=[a']:=by cases a'<;>first|rfl|simp[AV.one]at h1
  rw[hc,hc'];exact⟨rfl,by simp[bQ,h1]⟩
theorem XM{n:Nat}{a:AV}(h:aF n a=true):aI n a.cells=true:=by
 cases a<;>simp_all [AV.cells,aF,aI]
theorem Mm(H:Inv P Γ N g h w){g':G}{h':List Ob}(x:Ext h.length g h g' h'):∀{as as':List AV}{us:List Value},(∀i∈bJ as,oQ g' h w g i)->VE g h as us->bP h as=some as'->VE g' h' as' us
 |[],as',us,_,hv,ha=>by
  simp only[bP,aj]at ha;subst ha;simpa only [VE]using hv
 |a::as,as',us,hc,hv,ha=>by
  simp only[bP]at ha
  split at ha
  ·rename_i a1 as1 h1 h2;simp only[aj]at ha;subst ha;simp only[VE]at hv⊢;obtain⟨u,us',h3,rfl,h4⟩:=hv;simp only[bJ,bF]at hc;exact⟨u,us',rb H x (fun i hi=>hc i (Or.inl hi)) h3 h1,rfl,Mm H x (fun i hi=>hc i (Or.inr hi)) h4 h2⟩
  ·cases ha
theorem NR(H:Inv P Γ N g h w){k:Nat}:∀{as as':List AV}{us:List Value},dI k as->VE g h as us->bP h as=some as'->cd as' k=true
 |[],as',us,_,_,ha=>by simp only[bP,aj]at ha;subst ha;rfl
 |a::as,as',us,hK,hv,ha=>by
  simp only[bP]at ha
  split at ha
  ·rename_i a1 as1 h1 h2;simp only[aj]at ha;subst ha;simp only[VE]at hv;obtain⟨u,us',h3,rfl,h4⟩:=hv;obtain⟨hk1,hk2⟩:=hK a (by simp);obtain⟨h5,h6⟩:=WB h1 hk2;simp only[cd,aw,bd];exact⟨⟨⟨by omega,h6⟩,XM (zK H h3 h1)⟩,NR H (fun e he=>hK e (dY _ he)) h4 h2⟩
  ·cases ha
theorem LK{es es':List AV}(h:es'.length=es.length)(gr:Option Nat)(off n:Nat):cy es' gr off n=cy es gr off n:=by
 unfold cy;rw[h]
theorem Inv.freeze(H:Inv P Γ N g h w){i k:Nat}{E:TypeId}{es es':List AV}{gr:Option Nat}{fl sh:Bool}(hi:h[i]? =some (.row k E es gr fl sh))(hg:gr.getD 0=0)
 (hv:bP h es=some es')(hn:(bJ es).contains i=false):
 ∃g',Inv P Γ N g' ((share (bJ es) h).set i (.row k E es' gr true sh)) w/\Ext h.length g h g' ((share (bJ es) h).set i (.row k E es' gr true sh)):=by
 obtain⟨g1,hρ1,hMM1,hM1,H1,hE1,hC1⟩:=mU (bJ es) H
 have hni:i∉bJ es:=by simpa using hn
 have hi1:(share (bJ es) h)[i]? =some (.row k E es gr fl sh):=by rw[Lr _ _ hni];exact hi
 have hlen:=(DO hv).1;have hil1:=aV hi1;have hob:=H.ob i _ hi;simp only[OV]at hob;obtain⟨hk0,hK,hfl,hgl,hb⟩:=hob
 have hE2:Ext (share (bJ es) h).length g1 (share (bJ es) h) g1 ((share (bJ es) h).set i (.row k E es' gr true sh)):=by
  have:=Ext.od (E':=E) (es':=es') (gr':=gr) (fl':=true) (sh':=sh) (ρ':=g1.ρ i) hi1 (by omega) (fun off m hom hok=>⟨by rw[<-LK hlen];exact hok,hlen,fun _ x=>x⟩);rwa[cS]at this
 have hokall:es'=[]\/(∃us,VE g h es us):=by
  cases hρ:g.ρ i with
  |none=>
   rw[hρ]at hb;simp only at hb;subst hb;simp only[bP,aj]at hv;exact Or.inl hv.symm
  |some y=>
   obtain⟨b,sz,st⟩:=y;rw[hρ]at hb;obtain⟨_,c,Ty,fz,vs,_,_,_,hVE,_⟩:=hb;rw[hg]at hVE;exact Or.inr ⟨vs,by simpa using hVE⟩
 have hok':cd es' k=true:=by
  rcases hokall with rfl|⟨us,hus⟩
  ·rfl
  ·exact NR H hK hus hv
 refine⟨g1,?_,?_⟩
 ·have:=Inv.set (r:=g1.ρ i) (w':=w) (o':=.row k E es' gr true sh) H1 hil1 (by rw[cS];exact hE2) rfl rfl rfl (fun _ _ _=>rfl) (aW _)
   (fun b y hy=>⟨Or.inl ⟨y,hy⟩,(H1.own i b y hy).2⟩)
   (fun b y o v _ hv=>H1.mem b o v hv)
   (by
    intro b sz st o v hy hv';obtain⟨k2,E2,es2,gr2,fl2,h2,h3⟩:=H1.d_ i b sz st o v hy hv';rw[hi1]at h2;simp only[aj,Ob.row.injEq]at h2;obtain⟨rfl,rfl,rfl,rfl,rfl,rfl⟩:=h2
    exact⟨_,_,_,_,_,rfl,by rw[hlen];exact h3⟩)
   (by
    rw[cS];simp only[OV];refine⟨hk0,jw hok',fun _=>hok',by rw[hlen];exact hgl,?_⟩;rw[hρ1]
    cases hρ:g.ρ i with
    |none=>
     rw[hρ]at hb;simp only at hb⊢;subst hb;simp only[bP,aj]at hv;exact hv.symm
    |some y=>
     obtain⟨b,sz,st⟩:=y;rw[hρ]at hb;simp only at hb⊢;obtain⟨q1,c,Ty,fz,vs,q2,q3,q4,hVE,q5⟩:=hb;refine⟨q1,c,Ty,fz,vs,q2,q3,q4,?_,q5⟩;rw[hg]at hVE⊢;simp only[iu]at hVE⊢;have h1:=Mm H hE1 hC1 hVE hv
     exact fo hE2 (jE h1) h1)
  rwa[cS]at this
 ·have:=jU (bJ es) h;rw[this]at hE2;exact hE1.trans hE2
theorem Inv.bA(H:Inv P Γ N g h w){i j k k0:Nat}(E:TypeId){cs:List AV}(hi:h[i]? =some (.cells cs))(hj:cs[j]? =some (.list true k0 []))(hk:0<k):
 ∃g',Inv P Γ N g' ((h++[Ob.row k E [] none true false]).set i (.cells (cs.set j (.sl h.length 0 0)))) w/\Ext h.length g h g' ((h++[Ob.row k E [] none true false]).set i (.cells (cs.set j (.sl h.length 0 0)))):=by
 have hE1:=Ext.push (g:=g) (h:=h) [Ob.row k E [] none true false] none
 have H1:Inv P Γ N (g.bE h.length none) (h++[Ob.row k E [] none true false]) w:=by
  refine Inv.push (r:=none) H rfl rfl rfl (fun _ _=>rfl) (aW _) (fun b x hb=>by cases hb) ?_ (fun j o hj=>by simp at hj);simp only[OV];rw[cT];exact⟨hk,by simp,fun _=>rfl,by simp,trivial⟩
 have hi1:(h++[Ob.row k E [] none true false])[i]? =some (.cells cs):=by rw[dz (aV hi)];exact hi
 have hE2:=Ext.DI (g:=g.bE h.length none) (vs':=cs.set j (.sl h.length 0 0)) hi1;have hil1:=aV hi1
 have hni:h.length≠i:=by have:=aV hi;omega
 refine⟨g.bE h.length none,?_,?_⟩
 ·have:=Inv.set (r:=(g.bE h.length none).ρ i) (w':=w) (o':=.cells (cs.set j (.sl h.length 0 0))) H1 hil1 hE2 rfl rfl rfl (fun _ _ _=>rfl) (aW _)
   (fun b y hy=>⟨Or.inl ⟨y,hy⟩,(H1.own i b y hy).2⟩)
   (fun b y o v _ hv=>H1.mem b o v hv)
   (by
    intro b sz st o v hy hv';obtain⟨k2,E2,es2,gr2,fl2,h2,h3⟩:=H1.d_ i b sz st o v hy hv';rw[hi1]at h2
    cases h2)
   (by
    rw[cS];simp only[OV];intro b sz st hb;have hob:=H1.ob i _ hi1;simp only[OV]at hob;obtain⟨c,Ty,fz,q1,q2,q3⟩:=hob b sz st hb;refine⟨c,Ty,fz,q1,q2,?_⟩;obtain⟨v,hv1,hv2⟩:=pE q3 hj;simp only[V]at hv2;obtain⟨_,a,cap,rfl,hcap,_,_⟩:=hv2
    have hcap0:cap=0:=by simpa using hcap trivial
    subst hcap0
    have hx:V (g.bE h.length none) ((h++[Ob.row k E [] none true false]).set i (.cells (cs.set j (.sl h.length 0 0)))) (.sl h.length 0 0) (.slice a ([]:List AV).length 0):=by
     simp only[V];refine⟨k,E,[],none,true,false,?_,by simp,a,0,rfl,by simp,by simp,fun _=>⟨by simp,Or.inl ⟨rfl,rfl⟩⟩⟩;rw[dx (Ne.symm hni)];simp
    have hE2':=hE2;rw[cS]at hE2';have hvl:=cp hE2' (dh q3) q3;have h5:=oo j hvl hx
    have h6:c.toList.set j (.slice a ([]:List AV).length 0)=c.toList:=by
     apply iU;intro m
     by_cases hm:j=m
     ·subst hm;rw[ef (aV hv1),hv1]
     ·rw[dx hm]
    rwa[h6]at h5)
  rwa[cS]at this
 ·rw[cS]at hE2;exact hE1.trans (hE2.mono (by simp))
theorem J_{g:G}{h:List Ob}{r:Nat}(hr:∀a,V g h (.sl r 0 0) (.slice a 0 0)):∀{es:List AV}{vs:List Value}{j k0:Nat},VE g h es vs->es[j]? =some (.list true k0 [])->VE g h (es.set j (.sl r 0 0)) vs
 |[],_,_,_,_,hj=>by simp at hj
 |e::es,vs,0,k0,hv,hj=>by
  simp only[o5,aj]at hj;subst hj;simp only[VE]at hv;obtain⟨v,vs',h1,rfl,h2⟩:=hv;simp only[V]at h1;obtain⟨_,a,cap,rfl,hcap,_,_⟩:=h1
  have hcap0:cap=0:=by simpa using hcap trivial
  subst hcap0;simp only[ue,VE];exact⟨_,vs',hr a,rfl,h2⟩
 |e::es,vs,j+1,k0,hv,hj=>by
  simp only[nF]at hj;simp only[VE]at hv;obtain⟨v,vs',h1,rfl,h2⟩:=hv;simp only[oW,VE];exact⟨v,vs',h1,rfl,J_ hr h2 hj⟩
theorem Inv.Ad(H:Inv P Γ N g h w){i j k k0:Nat}(E:TypeId){E0:TypeId}{es:List AV}{fl sh:Bool}(hi:h[i]? =some (.row 1 E0 es none fl sh))(hj:es[j]? =some (.list true k0 []))(hk:0<k):
 ∃g',Inv P Γ N g' ((h++[Ob.row k E [] none true false]).set i (.row 1 E0 (es.set j (.sl h.length 0 0)) none false sh)) w/\Ext h.length g h g' ((h++[Ob.row k E [] none true false]).set i (.row 1 E0 (es.set j (.sl h.length 0 0)) none false sh)):=by
 have hE1:=Ext.push (g:=g) (h:=h) [Ob.row k E [] none true false] none
 have H1:Inv P Γ N (g.bE h.length none) (h++[Ob.row k E [] none true false]) w:=by
  refine Inv.push (r:=none) H rfl rfl rfl (fun _ _=>rfl) (aW _) (fun b x hb=>by cases hb) ?_ (fun j o hj=>by simp at hj);simp only[OV];rw[cT];exact⟨hk,by simp,fun _=>rfl,by simp,trivial⟩
 have hi1:(h++[Ob.row k E [] none true false])[i]? =some (.row 1 E0 es none fl sh):=by rw[dz (aV hi)];exact hi
 have hlen:(es.set j (.sl h.length 0 0)).length=es.length:=by simp
 have hE2:Ext (h++[Ob.row k E [] none true false]).length (g.bE h.length none) (h++[Ob.row k E [] none true false]) (g.bE h.length none) ((h++[Ob.row k E [] none true false]).set i (.row 1 E0 (es.set j (.sl h.length 0 0)) none false sh)):=by
  have:=Ext.od (E':=E0) (es':=es.set j (.sl h.length 0 0)) (gr':=none) (fl':=false) (sh':=sh) (ρ':=(g.bE h.length none).ρ i) hi1 (by omega) (fun off m hom hok=>⟨by rw[<-LK hlen];exact hok,hlen,fun _ x=>x⟩);rwa[cS]at this
 have hil1:=aV hi1
 have hni:h.length≠i:=by have:=aV hi;omega
 refine⟨g.bE h.length none,?_,hE1.trans (hE2.mono (by simp))⟩
 have:=Inv.set (r:=(g.bE h.length none).ρ i) (w':=w) (o':=.row 1 E0 (es.set j (.sl h.length 0 0)) none false sh) H1 hil1 (by rw[cS];exact hE2) rfl rfl rfl (fun _ _ _=>rfl) (aW _)
  (fun b y hy=>⟨Or.inl ⟨y,hy⟩,(H1.own i b y hy).2⟩)
  (fun b y o v _ hv=>H1.mem b o v hv)
  (by
   intro b sz st o v hy hv';obtain⟨k2,E2,es2,gr2,fl2,h2,h3⟩:=H1.d_ i b sz st o v hy hv';rw[hi1]at h2;simp only[aj,Ob.row.injEq]at h2;obtain⟨rfl,rfl,rfl,rfl,rfl,rfl⟩:=h2
   exact⟨_,_,_,_,_,rfl,by rw[hlen];exact h3⟩)
  (by
   rw[cS];have hob:=H1.ob i _ hi1;simp only[OV]at hob⊢;obtain⟨_,hK,_,hgl,hb⟩:=hob;refine⟨by omega,?_,by simp,by simp,?_⟩
   ·intro e he
    rcases nK he with he|rfl
    ·exact hK e he
    ·exact⟨rfl,rfl⟩
   ·cases hρ:(g.bE h.length none).ρ i with
    |none=>
     rw[hρ]at hb;simp only at hb;subst hb;simp at hj
    |some y=>
     obtain⟨b,sz,st⟩:=y;rw[hρ]at hb;simp only at hb⊢;obtain⟨q1,c,Ty,fz,vs,q2,q3,q4,hVE,q5⟩:=hb;refine⟨q1,c,Ty,fz,vs,q2,q3,q4,?_,q5⟩;simp only[rV,iu]at hVE⊢
     have hx:∀a,V (g.bE h.length none) ((h++[Ob.row k E [] none true false]).set i (.row 1 E0 (es.set j (.sl h.length 0 0)) none false sh)) (.sl h.length 0 0) (.slice a ([]:List AV).length 0):=by
      intro a;simp only[V];refine⟨k,E,[],none,true,false,?_,by simp,a,0,rfl,by simp,by simp,fun _=>⟨by simp,Or.inl ⟨rfl,rfl⟩⟩⟩;rw[dx (Ne.symm hni)];simp
     exact J_ hx (fo hE2 (jE hVE) hVE) hj)
 rwa[cS]at this
def k7(h:List Ob)(a:AV):AV:=(view h a).getD a
theorem N3(H:Inv P Γ N g h w){g':G}{h':List Ob}(x:Ext h.length g h g' h'){a:AV}{u:Value}(hc:∀i∈rowsOf a,oQ g' h w g i)(hv:V g h a u):V g' h' (k7 h a) u:=by
 unfold k7
 cases hw:view h a with
 |none=>exact fv x (j9 hv) hv
 |some a'=>exact rb H x hc hv hw
theorem Ji{i:Nat}{cs:List AV}:∀(is:List Nat)(h:List Ob),h[i]? =some (.cells cs)->(share is h)[i]? =some (.cells cs)
 |[],h,hi=>hi
 |j::is,h,hi=>Ji is _ (by
   rw[wX,hi]
   by_cases hj:j=i<;>simp[hj,iz])
theorem Inv.lA(H:Inv P Γ N g h w){i:Nat}(j:Nat){cs:List AV}(hi:h[i]? =some (.cells cs)):
 ∃g',Inv P Γ N g' ((share (rowsOf (cs.getD j .undef)) h).set i (.cells (cs.set j (k7 h (cs.getD j .undef))))) w/\Ext h.length g h g' ((share (rowsOf (cs.getD j .undef)) h).set i (.cells (cs.set j (k7 h (cs.getD j .undef))))):=by
 obtain⟨g1,hρ1,hMM1,hM1,H1,hE1,hC1⟩:=mU (rowsOf (cs.getD j .undef)) H;have hi1:=Ji (rowsOf (cs.getD j .undef)) h hi;have hE2:=Ext.DI (g:=g1) (vs':=cs.set j (k7 h (cs.getD j .undef))) hi1;have hil1:=aV hi1;refine⟨g1,?_,?_⟩
 ·have:=Inv.set (r:=g1.ρ i) (w':=w) (o':=.cells (cs.set j (k7 h (cs.getD j .undef)))) H1 hil1 hE2 rfl rfl rfl (fun _ _ _=>rfl) (aW _)
   (fun b y hy=>⟨Or.inl ⟨y,hy⟩,(H1.own i b y hy).2⟩)
   (fun b y o v _ hv=>H1.mem b o v hv)
   (by
    intro b sz st o v hy hv';obtain⟨k2,E2,es2,gr2,fl2,h2,h3⟩:=H1.d_ i b sz st o v hy hv';rw[hi1]at h2
    cases h2)
   (by
    rw[cS];simp only[OV];intro b sz st hb;have hob:=H.ob i _ hi;simp only[OV]at hob;rw[hρ1]at hb;obtain⟨c,Ty,fz,q1,q2,q3⟩:=hob b sz st hb;refine⟨c,Ty,fz,q1,q2,?_⟩;have hE2':=hE2;rw[cS,jU]at hE2';have hE3:=hE1.trans hE2';have hx:=N3 H hE3 hC1 (q9 j q3);have h5:=oo j (cp hE3 (dh q3) q3) hx
    have h6:c.toList.set j (c.toList.getD j undef)=c.toList:=by
     apply iU;intro m
     by_cases hm:j=m
     ·subst hm;rw[nM]
      by_cases hl:j<c.toList.length
      ·rw[if_pos rfl,if_pos hl,bG,bn hl];rfl
      ·rw[if_pos rfl,if_neg hl,jq (by omega)]
     ·rw[dx hm]
    rwa[h6]at h5)
  rwa[cS]at this
 ·rw[cS,jU]at hE2;exact hE1.trans hE2
theorem aag{o:Oper}{k:Nat}{zs:List AV}{ps:List (Nat×AX)}(hc:bL P o=some (.lit k zs ps)):
 ∃ty n parts e z,o.op=.buildSlice ty n parts/\P.underlying ty=some (.slice e)/\bp P e=some k/\0<k/\dH P e=some z/\jM k z=true/\n*k<=2^24/\zs=List.replicate n z/\ps=parts.toList.map fun q=>(q.1,av q.2):=by
 cases ho:o.op with
 |buildSlice ty n parts=>
  simp only[bL,ho]at hc
  cases hE:j7 P ty with
  |none=>simp[hE]at hc
  |some e=>
  cases hk:bp P e with
  |none=>simp[hE,hk]at hc
  |some k2=>
  cases hz:dH P e with
  |none=>simp[hE,hk,hz]at hc
  |some z=>
  simp only[hE,hk,hz,nN,jQ]at hc
  split at hc
  ·cases hc
  ·rename_i hcond;simp only[aj,AO.lit.injEq]at hc;obtain⟨rfl,rfl,rfl⟩:=hc;simp only[not_or]at hcond;obtain⟨c1,c2,c3⟩:=hcond;refine⟨ty,n,parts,e,z,rfl,?_,hk,by omega,hz,by simpa using c3,by omega,rfl,rfl⟩;unfold j7 at hE
   split at hE<;>simp_all
 |call c=>
  exfalso;simp only[bL,ho,lD]at hc
  (repeat' split at hc)<;>first|(cases hc;done)|(simp[mO]at hc;done)|(simp only[nN,mO,bO]at hc;obtain⟨_,_,h1⟩:=hc;revert h1;simp;done)|(simp only[nN,mO]at hc;obtain⟨_,_,_,_,_,_,_,_,h1⟩:=hc;revert h1;split<;>(try split)<;>simp;done)|skip
 |_=>exfalso;simp only[bL,ho]at hc;(repeat' split at hc)<;>first|contradiction|(cases hc;done)|(simp[mO]at hc;done)|skip
theorem X1(H:Inv P Γ N g h w){r:Operand->Value}{t:List AV}{o:Oper}{ty e:TypeId}{n:Nat}{ps:Array (Nat×Operand)}(ho:o.op=.buildSlice ty n ps)(hu:P.underlying ty=some (.slice e)){k:Nat}(hk:bp P e=some k)(hk0:0<k)
 {z:AV}(hz:dH P e=some z)(hzo:jM k z=true)(hnk:n*k<=2^24)(he:∀x,V g h (ax t (av x)) (r x))
 {es:List AV}(hf:my k (List.replicate n z) ((ps.toList.map fun q=>(q.1,av q.2)).map fun q=>(q.1,ax t q.2))=some es){fl:Bool}(hfl:fl=true->cd es k=true)(E:TypeId):
 aH P Γ N r o w g h (h++[.row k E es none fl false]) (some (.sl h.length 0 es.length)):=by
 obtain⟨zv,hzr,rfl⟩:=sN hz;simp only[jM,aw,bd]at hzo;obtain⟨⟨hzk,hz1⟩,hzb⟩:=hzo;have hzk':=sL hzk
 have hF:F2 (fun(p:Nat×AV) (q:Nat×Value)=>p.1=q.1/\V g h p.2 q.2) ((ps.toList.map fun q=>(q.1,av q.2)).map fun q=>(q.1,ax t q.2)) (ps.map fun q=>(q.1,r q.2)).toList:=by
  rw[Array.toList_map,la];generalize ps.toList=l
  induction l with
  |nil=>exact .nil
  |cons q l ih=>exact .cons ⟨rfl,he q.2⟩ ih
 have hVE0:=sy (mi g h zv) n;have hzl:=sF hzk' n
 let zs:Array Value:=(Array.range (n*k)).map fun i=>(if n*k=0 then#[]else zv.cells)[i%(if n*k=0 then#[]else zv.cells).size]!
 have hzs:zs.toList=(List.replicate n zv.cells.toList).flatten:=by
  simp only[zs]
  by_cases hnk0:n*k=0
  ·have:n=0:=by
    rcases Ib.1 hnk0 with h1|h1
    ·exact h1
    ·omega
   simp[this]
  ·simp only[hnk0,de,hzk'];exact hzl
 obtain⟨us,h1,h2,h3,h4⟩:=CZ (zs:=zs) hF hf (jw (si hzk hz1 hzb n)) (by rw[hzs];exact hVE0)
 have hlen:es.length=n:=by rw[h4,rW]
 have husl:us.toList.length=n*k:=by rw[gM h3 h2,hlen]
 have hrun:(Instr.buildSlice ty n (ps.map fun q=>(q.1,r q.2))).run P w=.ok (.slice (some ⟨w.heap.size,0,none⟩) n n) (w.alloc (.cells (us.toList++[]).toArray e)):=by
  have hus:(us.toList++[]).toArray=us:=by simp
  rw[hus];simp only[Instr.buildSlice,Sem.run_bind,run_underlying hu,Result.andThen_ok,gZ hk];rw[if_neg (by omega)]
  by_cases hnk0:n*k=0
  ·have hzs0:zs=(Array.range (n*k)).map fun i=>(#[]:Array Value)[i%(#[]:Array Value).size]! :=by simp only[zs,hnk0,cu]
   rw[hzs0]at h1;rw[if_pos hnk0];simp only[Sem.run_bind,Sem.run_pure,Result.andThen_ok];rw[h1];simp[newRow]
  ·have hzs0:zs=(Array.range (n*k)).map fun i=>zv.cells[i%zv.cells.size]! :=by simp only[zs,hnk0,de]
   rw[hzs0]at h1;rw[if_neg hnk0];simp only[Sem.run_bind,hzr,Sem.run_pure,Result.andThen_ok];rw[h1];simp[newRow]
 refine aH.make (w':=w) H rfl rfl rfl rfl (sz:=n*k) (by simp only[execOp,ho];rw[Sem.run_bind,hrun];rfl) ?_ (by simp) ?_
 ·exact zZ (P:=P) hk0 h3 hfl (cT _ _ _) (kE w _) (by simpa using husl.symm) (s6 _) (fo (Ext.push _ _) (jE h2) h2)
 ·have:=zr (h:=h) (g':=g.bE h.length (some (w.heap.size,n*k,0))) (k:=k) (E:=E) (es:=es) (os:=[]) (fl:=fl) (sh:=false) (cT _ _ _) (cap:=n) (by omega) (aW _);rw[hlen]at this⊢;exact this
end
def ff(n:Nat)(τ:List Nat)(i:Nat):Nat:=if i<n then i else n+τ.idxOf (i-n)
def ep(n:Nat)(τ:List Nat)(i:Nat):Bool:=decide (i<n)||τ.contains (i-n)
mutual
def dw(n:Nat)(τ:List Nat):AV->AV
 |.sl i off m=>.sl (ff n τ i) off m
 |.ptr i off=>.ptr (ff n τ i) off
 |.mp i=>.mp (ff n τ i)
 |.it i=>.it (ff n τ i)
 |.cQ i=>.cQ (ff n τ i)
 |.cV a k ix off=>.cV (dw n τ a) k ix off
 |.agg cs=>.agg (cf n τ cs)
 |.aG cs=>.aG (cf n τ cs)
 |.fn f a b=>.fn f (cf n τ a) (cf n τ b)
 |.bS t v=>.bS t (dw n τ v)
 |.c8 ks vs=>.c8 (cf n τ ks) (cf n τ vs)
 |.list f k es=>.list f k es
 |.own k E es=>.own k E es
 |.undef=>.undef
 |.bool b=>.bool b
 |.int k x=>.int k x
 |.str s=>.str s
 |.iM=>.iM
 |.cY=>.cY
 |.db=>.db
 |.eb=>.eb
 |.dR g off=>.dR g off
def cf(n:Nat)(τ:List Nat):List AV->List AV
 |[]=>[]
 |a::as=>dw n τ a::cf n τ as
end
mutual
def eF(n:Nat)(τ:List Nat):AV->Bool
 |.sl i _ _|.ptr i _|.mp i|.it i|.cQ i=>ep n τ i
 |.cV a _ _ _=>eF n τ a
 |.agg cs|.aG cs=>dJ n τ cs
 |.fn _ a b=>dJ n τ a&&dJ n τ b
 |.bS _ v=>eF n τ v
 |.c8 ks vs=>dJ n τ ks&&dJ n τ vs
 |_=>true
def dJ(n:Nat)(τ:List Nat):List AV->Bool
 |[]=>true
 |a::as=>eF n τ a&&dJ n τ as
end
def lY(n:Nat)(τ:List Nat):List (AV×AV)->List (AV×AV)
 |[]=>[]
 |(a,b)::r=>(dw n τ a,dw n τ b)::lY n τ r
def oS(n:Nat)(τ:List Nat):List (AV×AV)->Bool
 |[]=>true
 |(a,b)::r=>eF n τ a&&eF n τ b&&oS n τ r
def jN(n:Nat)(τ:List Nat):Ob->Ob
 |.cells cs=>.cells (cf n τ cs)
 |.row k E es g fl sh=>.row k E (if fl=true then es else cf n τ es) g fl sh
 |.map es fl=>.map (lY n τ es) fl
 |.loop st j fn t ps a b=>.loop st j fn (cf n τ t) ps a b
 |o=>o
def kf(n:Nat)(τ:List Nat):Ob->Bool
 |.cells cs=>dJ n τ cs
 |.row _ _ es _ fl _=>fl||dJ n τ es
 |.map es _=>oS n τ es
 |.loop _ _ _ t _ _ _=>dJ n τ t
 |_=>true
def p6(n:Nat)(τ:List Nat):List Ob->Bool
 |[]=>true
 |o::os=>kf n τ o&&p6 n τ os
def fe(n:Nat)(τ:List Nat):List Ob->Bool
 |[]=>true
 |.loop _ _ _ t _ _ _::os=>aI n t&&fe n τ os
 |o::os=>kf n τ o&&fe n τ os
def ig(n:Nat)(τ:List Nat):List Ob->List Ob
 |[]=>[]
 |o::os=>jN n τ o::ig n τ os
def lE(h:List Ob)(n:Nat):List Nat->List Ob
 |[]=>[]
 |j::js=>h.getD (n+j) .gone::lE h n js
def ij(n:Nat)(τ:List Nat)(h:List Ob):List Ob:=ig n τ (h.take n++lE h n τ)
mutual
theorem iB{n:Nat}{τ:List Nat}:∀{a:AV},aF n a=true->dw n τ a=a
 |.undef,_|.bool _,_|.int _ _,_|.str _,_|.iM,_|.cY,_|.db,_|.eb,_|.dR _ _,_|.list _ _ _,_|.own _ _ _,_=>rfl
 |.c8 ks us,hb=>by simp only[aF,aw]at hb;simp only[dw,j3 hb.1,j3 hb.2]
 |.sl i _ _,hb|.ptr i _,hb|.mp i,hb|.it i,hb|.cQ i,hb=>by simp only[aF,bd]at hb;simp only[dw,ff,hb,cu]
 |.cV a _ _ _,hb=>by simp only[aF]at hb;simp only[dw,iB hb]
 |.agg cs,hb|.aG cs,hb=>by simp only[aF]at hb;simp only[dw,j3 hb]
 |.fn f a b,hb=>by simp only[aF,aw]at hb;simp only[dw,j3 hb.1,j3 hb.2]
 |.bS t v,hb=>by simp only[aF]at hb;simp only[dw,iB hb]
theorem j3{n:Nat}{τ:List Nat}:∀{as:List AV},aI n as=true->cf n τ as=as
 |[],_=>rfl
 |a::as,hb=>by simp only[aI,aw]at hb;simp only[cf,iB hb.1,j3 hb.2]
end
theorem EO{n:Nat}{τ:List Nat}:∀{es:List (AV×AV)},fE n es=true->lY n τ es=es
 |[],_=>rfl
 |(a,b)::es,hb=>by simp only[fE,aw]at hb;simp only[lY,iB hb.1.1,iB hb.1.2,EO hb.2]
theorem MX{n:Nat}{τ:List Nat}{o:Ob}(hb:fW n o=true):jN n τ o=o:=by
 cases o with
 |cells cs=>simp only[fW]at hb;simp only[jN,j3 hb]
 |row k E es g fl sh=>
  simp only[fW,eH]at hb;simp only[jN]
  cases fl with
  |true=>rfl
  |false=>
   rcases hb with hb|hb
   ·cases hb
   ·simp[j3 hb]
 |map es fl=>simp only[fW]at hb;simp only[jN,EO hb]
 |loop st j fn t ps a b=>simp only[fW]at hb;simp only[jN,j3 hb]
 |_=>rfl
theorem pD{n:Nat}{τ:List Nat}:∀{h:List Ob},cw n h=true->ig n τ h=h
 |[],_=>rfl
 |o::os,hb=>by simp only[cw,aw]at hb;simp only[ig,MX hb.1,pD hb.2]
mutual
theorem iA{n:Nat}{τ:List Nat}:∀{a:AV},aF n a=true->eF n τ a=true
 |.undef,_|.bool _,_|.int _ _,_|.str _,_|.iM,_|.cY,_|.db,_|.eb,_|.dR _ _,_|.list _ _ _,_|.own _ _ _,_=>rfl
 |.c8 _ _,hb=>by simp only[aF,aw]at hb;simp only[eF,lp hb.1,lp hb.2,l5]
 |.sl i _ _,hb|.ptr i _,hb|.mp i,hb|.it i,hb|.cQ i,hb=>by simp only[aF]at hb;simp only[eF,ep,hb,Bool.true_or]
 |.cV a _ _ _,hb=>by simp only[aF]at hb;simp only[eF,iA hb]
 |.agg cs,hb|.aG cs,hb=>by simp only[aF]at hb;simp only[eF,lp hb]
 |.fn f a b,hb=>by simp only[aF,aw]at hb;simp only[eF,lp hb.1,lp hb.2,l5]
 |.bS t v,hb=>by simp only[aF]at hb;simp only[eF,iA hb]
theorem lp{n:Nat}{τ:List Nat}:∀{as:List AV},aI n as=true->dJ n τ as=true
 |[],_=>rfl
 |a::as,hb=>by simp only[aI,aw]at hb;simp only[dJ,iA hb.1,lp hb.2,l5]
end
section
variable{P:Program}{Γ:Nat->Option AV}{N:Env}{g g':G}{h h':List Ob}{w:World}{n:Nat}{τ:List Nat}
theorem tj:∀(as:List AV),(cf n τ as).length=as.length
 |[]=>rfl
 |a::as=>by simp[cf,tj as]
theorem Mb:∀(as:List AV)(i:Nat),(cf n τ as)[i]? =(as[i]?).map (dw n τ)
 |[],i=>by simp[cf]
 |a::as,0=>by simp[cf]
 |a::as,i+1=>by simp[cf,Mb as i]
theorem Lj:∀(as:List AV)(i:Nat),(cf n τ as).drop i=cf n τ (as.drop i)
 |[],i=>by simp[cf]
 |a::as,0=>by simp
 |a::as,i+1=>by simp[cf,Lj as i]
theorem XD(a:AV):(dw n τ a).cells=cf n τ a.cells:=by
 cases a<;>simp[dw,AV.cells,cf]
theorem aaT(a:AV):(dw n τ a).one=a.one:=by cases a<;>rfl
theorem MZ:∀(as:List AV),bQ (cf n τ as)=bQ as
 |[]=>rfl
 |a::as=>by simp[cf,bQ,aaT,MZ as]
theorem MV:∀(es:List (AV×AV)),(lY n τ es).map (·.1)=cf n τ (es.map (·.1))
 |[]=>rfl
 |(a,b)::es=>by simp[lY,cf,MV es]
theorem E1:∀(es:List (AV×AV)),(lY n τ es).map (·.2)=cf n τ (es.map (·.2))
 |[]=>rfl
 |(a,b)::es=>by simp[lY,cf,E1 es]
theorem LQ:∀{es:List (AV×AV)},oS n τ es=true->dJ n τ (es.map (·.1))=true/\dJ n τ (es.map (·.2))=true
 |[],_=>⟨rfl,rfl⟩
 |(a,b)::es,hb=>by
  simp only[oS,aw]at hb;obtain⟨h1,h2⟩:=LQ hb.2;simp only[cn,dJ,aw];exact⟨⟨hb.1.1,h1⟩,⟨hb.1.2,h2⟩⟩
theorem L_:∀{as:List AV}(i:Nat),dJ n τ as=true->dJ n τ (as.drop i)=true
 |[],_,_=>by simp[dJ]
 |a::as,0,h=>by simpa using h
 |a::as,i+1,h=>by
  simp only[dJ,aw]at h;simpa using L_ i h.2
structure Rn(n:Nat)(τ:List Nat)(g:G)(h:List Ob)(g':G)(h':List Ob):Prop where
 M:g'.M=g.M
 MM:g'.MM=g.MM
 get:∀i o,h[i]? =some o->ep n τ i=true->h'[ff n τ i]? =some (jN n τ o)
 tV:∀i,i<h.length->ep n τ i=true->g'.ρ (ff n τ i)=g.ρ i
theorem Rn.zero(x:Rn n τ g h g' h'):Ext 0 g h g' h':=Ext.zero (fun _ _ _ y=>by rw[x.M];exact y) (fun _ _ y=>by rw[x.MM];exact y)
mutual
theorem A7(x:Rn n τ g h g' h'):∀{a:AV}{v:Value},eF n τ a=true->V g h a v->V g' h' (dw n τ a) v
 |.undef,_,_,_=>by simp[dw,V]
 |.bool _,_,_,hv|.int _ _,_,_,hv|.str _,_,_,hv|.iM,_,_,hv|.cY,_,_,hv|.db,_,_,hv|.eb,_,_,hv|.dR _ _,_,_,hv=>by simpa only [dw,V]using hv
 |.own _ _ _,_,_,hv=>by simp only[V]at hv
 |.list full k es,v,_,hv=>by
  have h0:aF 0 (.list full k es)=true:=by
   simp only[V]at hv;simp only[aF];exact iw hv.1
  simp only[dw];exact fv x.zero h0 hv
 |.c8 ks us,v,hb,hv=>by
  simp only[eF,aw]at hb;simp only[dw,V]at hv⊢;obtain⟨b,es,ck,h1,h2,h3,h4⟩:=hv;exact⟨b,es,ck,h1,by rw[x.MM];exact h2,lJ x hb.1 h3,lJ x hb.2 h4⟩
 |.sl j off m,v,hb,hv=>by
  simp only[eF]at hb;simp only[dw,V]at hv⊢;obtain⟨k',E',es',gr',fl',sh',h1,h2,a,cap,h3,h4,h5,h6⟩:=hv
  have hlen:(if fl'=true then es' else cf n τ es').length=es'.length:=by split<;>simp[tj]
  refine⟨k',E',_,gr',fl',sh',x.get _ _ h1 hb,by rw[hlen];exact h2,a,cap,h3,h4,h5,fun hok=>?_⟩;obtain⟨h7,h8⟩:=h6 (by unfold cy at hok⊢;rwa[hlen]at hok);rw[hlen];refine⟨h7,h8.imp id fun h9=>?_⟩;rw[x.tV j (aV h1) hb];exact h9
 |.cV a _ _ _,v,hb,hv=>by
  simp only[eF]at hb;simp only[dw,V]at hv⊢;obtain⟨u,b,o,h1,h2,⟨m,h4,h5⟩,rfl⟩:=hv;refine⟨u,b,o,A7 x hb h1,h2,⟨m,?_,h5⟩,rfl⟩
  cases a<;>simp only[nj,dw]at h4⊢<;>first|exact h4|cases h4
 |.ptr j off,v,hb,hv=>by
  simp only[eF]at hb;simp only[dw,V]at hv⊢;obtain⟨⟨vs,hj⟩,h2⟩:=hv;exact⟨⟨_,x.get _ _ hj hb⟩,by rw[x.tV j (aV hj) hb];exact h2⟩
 |.mp j,v,hb,hv=>by
  simp only[eF]at hb;simp only[dw,V]at hv⊢;obtain⟨⟨es,fl,hj⟩,h2⟩:=hv;exact⟨⟨_,_,x.get _ _ hj hb⟩,by rw[x.tV j (aV hj) hb];exact h2⟩
 |.it j,v,hb,hv=>by
  simp only[eF]at hb;simp only[dw,V]at hv⊢;obtain⟨⟨es,fl,hj⟩,h2⟩:=hv;exact⟨⟨_,_,x.get _ _ hj hb⟩,by rw[x.tV j (aV hj) hb];exact h2⟩
 |.cQ j,v,hb,hv=>by
  simp only[eF]at hb;simp only[dw,V]at hv⊢;obtain⟨⟨x1,x2,x3,x4,x5,x6,x7,hj⟩,h2⟩:=hv;exact⟨⟨_,_,_,_,_,_,_,x.get _ _ hj hb⟩,by rw[x.tV j (aV hj) hb];exact h2⟩
 |.agg cs,v,hb,hv=>by
  simp only[eF]at hb;simp only[dw,V]at hv⊢;obtain⟨vs,rfl,h1⟩:=hv;exact⟨vs,rfl,lJ x hb h1⟩
 |.aG cs,v,hb,hv=>by
  simp only[eF]at hb;simp only[dw,V]at hv⊢;obtain⟨vs,rfl,h1⟩:=hv;exact⟨vs,rfl,lJ x hb h1⟩
 |.fn f a b,v,hb,hv=>by
  simp only[eF,aw]at hb;simp only[dw,V]at hv⊢;obtain⟨xs,ys,rfl,h1,h2⟩:=hv;exact⟨xs,ys,rfl,lJ x hb.1 h1,lJ x hb.2 h2⟩
 |.bS t a,v,hb,hv=>by
  simp only[eF]at hb;simp only[dw,V]at hv⊢;obtain⟨y,rfl,h1⟩:=hv;exact⟨y,rfl,A7 x hb h1⟩
theorem lJ(x:Rn n τ g h g' h'):∀{as:List AV}{vs:List Value},dJ n τ as=true->VL g h as vs->VL g' h' (cf n τ as) vs
 |[],_,_,hv=>by simpa only [cf,VL]using hv
 |a::as,_,hb,hv=>by
  simp only[cf,VL]at hv⊢;simp only[dJ,aw]at hb;obtain⟨v,vs',rfl,h1,h2⟩:=hv;exact⟨v,vs',rfl,A7 x hb.1 h1,lJ x hb.2 h2⟩
end
theorem NK(x:Rn n τ g h g' h'):∀{as:List AV}{vs:List Value},dJ n τ as=true->VE g h as vs->VE g' h' (cf n τ as) vs
 |[],_,_,hv=>by simpa only [cf,VE]using hv
 |a::as,_,hb,hv=>by
  simp only[cf,VE]at hv⊢;simp only[dJ,aw]at hb;obtain⟨v,vs',h1,rfl,h2⟩:=hv;exact⟨v,vs',A7 x hb.1 h1,rfl,NK x hb.2 h2⟩
theorem N4(x:Rn n τ g h g' h'){i j:Nat}{o:Ob}(hρ:g'.ρ j=g.ρ i)(hb:kf n τ o=true)(ho:OV P g h w i o):OV P g' h' w j (jN n τ o):=by
 cases o with
 |gone=>trivial
 |cells vs=>
  intro b sz st hb';rw[hρ]at hb';obtain⟨c,E,fz,h1,h2,h3⟩:=ho b sz st hb';exact⟨c,E,fz,h1,h2,lJ x (by simpa only [kf]using hb) h3⟩
 |row k E es gr fl sh=>
  simp only[OV,jN]at ho⊢;obtain⟨h1,h2,h3,h4,h5⟩:=ho
  cases fl with
  |true=>
   simp only[cu];refine⟨h1,h2,fun _=>h3 rfl,h4,?_⟩;rw[hρ]
   cases hr:g.ρ i with
   |none=>rw[hr]at h5;exact h5
   |some y=>
    obtain⟨b,sz,st⟩:=y;rw[hr]at h5;simp only at h5⊢;obtain⟨h6,c,E',fz,vs,h7,h8,h9,h10,h11⟩:=h5;exact⟨h6,c,E',fz,vs,h7,h8,h9,fo x.zero (zg _ (iw (h3 rfl))) h10,h11⟩
  |false=>
   simp only[kf,mN]at hb;simp only[dX,de];refine⟨h1,?_,fun hf=>(by cases hf),by rw[tj];exact h4,?_⟩
   ·intro e he;obtain⟨q,hq⟩:=ur.1 he;rw[Mb,bO]at hq;obtain⟨a,ha,rfl⟩:=hq;have:=h2 a (gX ha);rw[XD,tj,MZ];exact this
   ·rw[hρ]
    cases hr:g.ρ i with
    |none=>
     rw[hr]at h5;simp only at h5⊢;subst h5;rfl
    |some y=>
     obtain⟨b,sz,st⟩:=y;rw[hr]at h5;simp only at h5⊢;obtain⟨h6,c,E',fz,vs,h7,h8,h9,h10,h11⟩:=h5;exact⟨h6,c,E',fz,vs,h7,h8,h9,by rw[Lj];exact NK x (L_ _ hb) h10,h11⟩
 |map es fl=>
  simp only[kf]at hb;obtain⟨q1,q2⟩:=LQ hb;obtain⟨h1,h3⟩:=ho;refine⟨fun hf=>?_,fun b sz st hb'=>?_⟩
  ·rw[E1,j3 (pq (wS n) (h1 hf))];exact h1 hf
  ·rw[hρ]at hb';obtain⟨a8,ck,h4,h5,h6⟩:=h3 b sz st hb';exact⟨a8,ck,h4,by rw[MV];exact lJ x q1 h5,by rw[E1];exact lJ x q2 h6⟩
 |gB s p=>
  intro b sz st hb';rw[hρ]at hb';exact ho b sz st hb'
 |loop st q fn t ps a b=>
  intro bk sz sta hb';rw[hρ]at hb';obtain⟨L,h1,h2,h3,h4,h5,h6⟩:=ho bk sz sta hb';exact⟨L,h1,h2,h3,h4,lJ x (by simpa only [kf]using hb) h5,h6⟩
 |br live=>
  intro b sz st hb';rw[hρ]at hb';exact ho b sz st hb'
theorem EG:∀{h:List Ob}{i:Nat},(ig n τ h)[i]? =(h[i]?).map (jN n τ)
 |[],i=>by simp[ig]
 |o::os,0=>by simp[ig]
 |o::os,i+1=>by simp[ig,EG (h:=os)]
theorem DM:∀{τ:List Nat}{i:Nat},(lE h n τ)[i]? =(τ[i]?).map fun j=>h.getD (n+j) .gone
 |[],i=>by simp[lE]
 |j::js,0=>by simp[lE]
 |j::js,i+1=>by simp[lE,DM (τ:=js)]
theorem ED:∀{h:List Ob},(ig n τ h).length=h.length
 |[]=>rfl
 |o::os=>by simp[ig,ED (h:=os)]
theorem DD:∀{τ:List Nat},(lE h n τ).length=τ.length
 |[]=>rfl
 |j::js=>by simp[lE,DD (τ:=js)]
theorem Mq:∀{h:List Ob}{i:Nat}{o:Ob},p6 n τ h=true->h[i]? =some o->kf n τ o=true
 |[],_,_,_,hi=>by simp at hi
 |a::h,0,o,hb,hi=>by
  simp only[p6,aw]at hb
  simp at hi;subst hi;exact hb.1
 |a::h,i+1,o,hb,hi=>by
  simp only[p6,aw]at hb;exact Mq hb.2 (by simpa using hi)
theorem E4:∀{h:List Ob}{i:Nat}{o:Ob},fe n τ h=true->h[i]? =some o->kf n τ o=true/\∀st j fn t ps a b,o=.loop st j fn t ps a b->aI n t=true
 |[],_,_,_,hi=>by simp at hi
 |a::h,0,o,hb,hi=>by
  simp at hi;subst hi
  cases a<;>simp only[fe,aw]at hb<;>first
   |exact⟨hb.1,fun _ _ _ _ _ _ _ e=>by cases e⟩
   |exact⟨by simp only[kf];exact lp hb.1,fun _ _ _ _ _ _ _ e=>by cases e;exact hb.1⟩
 |a::h,i+1,o,hb,hi=>by
  have h2:fe n τ h=true:=by
   cases a<;>simp only[fe,aw]at hb<;>exact hb.2
  exact E4 h2 (by simpa using hi)
theorem Inv.gc(H:Inv P Γ N g h w)(hn:n<=h.length)(hτ:∀j∈τ,n+j<h.length)(hnd:τ.Nodup)(hp:fe n τ (h.take n)=true)(hq:p6 n τ (lE h n τ)=true):
 ∃g',Inv P Γ N g' (ij n τ h) w/\Ext n g h g' (ij n τ h)/\Rn n τ g h g' (ij n τ h):=by
 let kh:Nat->Option Nat:=fun j=>if j<n then some j else(τ[j-n]?).map (n+·)
 let g':G:={g with ρ:=fun j=>(kh j).bind g.ρ}
 have hold:∀{j i},kh j=some i->i<h.length/\ep n τ i=true/\ff n τ i=j:=by
  intro j i hj;simp only[kh]at hj
  split at hj
  ·rename_i hjn
   cases hj
   exact⟨by omega,by simp[ep,hjn],by simp[ff,hjn]⟩
  ·rename_i hjn;rw[bO]at hj;obtain⟨x,hx,rfl⟩:=hj;have hm:=gX hx;refine⟨hτ x hm,by simp[ep,hm],?_⟩;unfold ff;rw[if_neg (by omega),Ri];have hlt:=aV hx
   have hxe:τ[j-n]=x:=by rw[bn hlt]at hx;simpa using hx
   have:τ.idxOf x=j-n:=by rw[<-hxe];exact hnd.idxOf_getElem _ hlt
   omega
 have hnew:∀{i},ep n τ i=true->kh (ff n τ i)=some i:=by
  intro i hi;simp only[kh,ff]
  by_cases hin:i<n
  ·simp[hin]
  ·simp only[ep,hin,l6,mN,w6,bd]at hi;simp only[hin,de];rw[if_neg (by omega),Ri,bn (List.idxOf_lt_length_of_mem hi),List.getElem_idxOf]
   simp;omega
 have hget:∀i o,h[i]? =some o->ep n τ i=true->(ij n τ h)[ff n τ i]? =some (jN n τ o):=by
  intro i o hi hok;unfold ij;rw[EG]
  by_cases hin:i<n
  ·have:ff n τ i=i:=by simp[ff,hin]
   rw[this,dz (by rw[gK];omega),w8 hin,hi];rfl
  ·simp only[ep,hin,l6,mN,w6,bd]at hok
   have:ff n τ i=n+τ.idxOf (i-n):=by simp[ff,hin]
   rw[this,dL (by rw[gK];omega),gK,qe hn,Ri,DM,
    bn (List.idxOf_lt_length_of_mem hok),List.getElem_idxOf]
   simp only[dp]
   rw[show n+(i-n)=i by omega,bG,hi];rfl
 have hx:Rn n τ g h g' (ij n τ h):=by
  refine⟨rfl,rfl,hget,fun i hi hok=>?_⟩;simp only[g']
  rw[hnew hok];rfl
 have hρn:∀i,i<n->g'.ρ i=g.ρ i:=by
  intro i hi;have:=hx.tV i (by omega) (by simp[ep,hi]);rwa[show ff n τ i=i by simp[ff,hi]]at this
 have hgn:∀i o,i<n->h[i]? =some o->(ij n τ h)[i]? =some (jN n τ o):=by
  intro i o hi ho;have:=hget i o ho (by simp[ep,hi]);rwa[show ff n τ i=i by simp[ff,hi]]at this
 have hE:Ext n g h g' (ij n τ h):=by
  refine⟨fun _ _ _ y=>y,fun _ _ y=>y,fun i vs hi ho=>⟨⟨_,hgn i _ hi ho⟩,fun x hx=>by rw[hρn i hi];exact hx⟩,fun i es fl hi ho=>⟨⟨_,_,hgn i _ hi ho⟩,fun x hx=>by rw[hρn i hi];exact hx⟩,
   fun i s p hi ho=>⟨⟨_,_,hgn i _ hi ho⟩,fun x hx=>by rw[hρn i hi];exact hx⟩,fun i st j fn t ps a b hi ho=>⟨⟨st,j,?_⟩,fun x hx=>by rw[hρn i hi];exact hx⟩,
   fun i l hi ho=>⟨⟨_,hgn i _ hi ho⟩,fun x hx=>by rw[hρn i hi];exact hx⟩,fun i k E es gr fl sh hi ho=>?_⟩
  ·have h1:=hgn i _ hi ho;have h2:=(E4 hp (by rw[w8 hi];exact ho)).2 _ _ _ _ _ _ _ rfl;simp only[jN,j3 h2]at h1;exact h1
  ·have hlen:(if fl=true then es else cf n τ es).length=es.length:=by split<;>simp[tj]
   refine⟨_,_,_,_,_,hgn i _ hi ho,by rw[hlen];exact aW _,fun off m hom hok=>⟨?_,hlen,fun x hx=>by rw[hρn i hi];exact hx⟩⟩;unfold cy at hok⊢;rwa[hlen]at hok
 have hsub:∀{j b x},g'.ρ j=some (b,x)->∃i,kh j=some i/\g.ρ i=some (b,x):=by
  intro j b x hj;simp only[g',mO]at hj;exact hj
 have hlen:(ij n τ h).length=n+τ.length:=by
  unfold ij;rw[ED,bM,DD,gK,qe hn]
 refine⟨g',⟨H.os,H.tape,H.output,H.fU,fun i b x hi=>?_,?_,?_,H.mem,?_,?_,?_,?_,H.mK,H.iQ⟩,hE,hx⟩
 ·obtain⟨j,_,h2⟩:=hsub hi;exact H.own j b x h2
 ·intro i j b x y hi hj;obtain⟨i',h1,h2⟩:=hsub hi;obtain⟨j',h3,h4⟩:=hsub hj;have:=H.inj i' j' b x y h2 h4;subst this;rw[<-(hold h1).2.2,<-(hold h3).2.2]
 ·intro i hi;simp only[g',kh]
  rw[if_neg (by omega),jq (by omega)];rfl
 ·intro b es ck hb;obtain⟨h1,h2⟩:=H.mm b es ck hb
  exact⟨h1,fun i x hi=>by
   obtain⟨j,_,h4⟩:=hsub hi
   exact h2 j x h4⟩
 ·intro i b sz st o v hi hv;obtain⟨j,h1,h2⟩:=hsub hi;obtain⟨q1,q2,q3⟩:=hold h1;obtain⟨k,E,es,gr,fl,h3,h4⟩:=H.d_ j b sz st o v h2 hv;have h5:=hget j _ h3 q2;rw[q3]at h5;refine⟨k,E,_,gr,fl,h5,?_⟩
  have:(if fl=true then es else cf n τ es).length=es.length:=by split<;>simp[tj]
  rw[this];exact h4
 ·intro j o hj;have hjl:=aV hj;rw[hlen]at hjl;unfold ij at hj;rw[EG,bO]at hj;obtain⟨o0,ho,rfl⟩:=hj
  by_cases hjn:j<n
  ·rw[dz (by rw[gK];omega)]at ho;have hok:=(E4 hp ho).1;rw[w8 hjn]at ho;exact N4 hx (hρn j hjn) hok (H.ob j o0 ho)
  ·rw[dL (by rw[gK];omega),gK,qe hn]at ho;have hok:=Mq hq ho;rw[DM,bO]at ho;obtain⟨x,hxj,ho⟩:=ho;have hm:=gX hxj;have hlt:=hτ x hm
   have ho2:h[n+x]? =some o0:=by rw[bG,bn hlt]at ho;rw[bn hlt];simpa using ho
   have hold1:kh j=some (n+x):=by simp only[kh];rw[if_neg hjn,hxj];rfl
   have hr:g'.ρ j=g.ρ (n+x):=by simp only[g'];rw[hold1];rfl
   exact N4 hx hr hok (H.ob _ o0 ho2)
 ·intro m a hm;obtain⟨h1,vs,h2,h3⟩:=H.ke m a hm;exact⟨h1,vs,cp hx.zero h1 h2,h3⟩
end
def Az(i m:Nat):Md->Bool
 |.cX v _=>ik i m v
 |_=>true
def fZ(i m:Nat)(f:Fr):Bool:=cW i m f.t&&nq i m f.ds&&Az i m f.md
def j6(as:List (List Nat))(done:List Nat)(i:Nat):Bool:=!done.contains i&&(as.getD i []).all fun j=>done.contains j
def eL(as:List (List Nat)):Nat->List Nat->List (List Nat)
 |0,_=>[[]]
 |n+1,done=>((List.range as.length).filter (j6 as done)).flatMap fun i=>(eL as n (i::done)).map (i::·)
theorem My{ops:Array Oper}(hed:mY ops=true):∀(fuel n:Nat)(listed:Array Bool)(done:List Nat),listed.size=ops.size->(∀i,i<ops.size->listed.getD i true=done.contains i)->left ops.size listed=fuel->
 Region.linearise.go .any ops fuel n listed []∈eL (mq ops) fuel done
 |0,n,listed,done,_,_,_=>by simp[Region.linearise.go,eL]
 |fuel+1,n,listed,done,hsz,hd,hl=>by
  have hed1:∀i(h:i<ops.size),∀e∈(ops[i]).after.toList,Region.binds .any e=true->e.on<i:=by
   intro i h e he hb;simp only[mY,dy]at hed;have h6:=hed (ops[i],i) (by rw[Rg];simp[h]);rw[<-ql,dy]at h6;have h7:=h6 e he;rw[hb]at h7;simpa using h7
  have hal:(mq ops).length=ops.size:=by simp[mq]
  have hf:((List.range ops.size).filter fun i=>!listed.getD i true&&((ops[i]?).map (·.after.all fun e=>!Region.binds .any e||listed.getD e.on false)).getD false)=(List.range ops.size).filter (j6 (mq ops) done):=by
   refine List.filter_congr fun i hi=>?_
   have hi:=eu.1 hi
   have hai:(mq ops).getD i []=(ops[i].after.toList.filter (Region.binds .any)).map (·.on):=by
    simp[mq,bG,hi]
   simp only[j6,hai,hd i hi,iW hi,dp,jt];congr 1;rw[<-ql,fN,dy,dy];constructor
   ·intro h j hj;simp only[dn,dM]at hj;obtain⟨e,⟨he,hb⟩,rfl⟩:=hj;have h1:=h e he;rw[hb]at h1;have hlt:=hed1 i hi e he hb;rw[te (by omega) false true,hd e.on (by omega)]at h1;simpa using h1
   ·intro h e he
    cases hb:Region.binds .any e with
    |false=>rfl
    |true=>
     have hlt:=hed1 i hi e he hb;have h1:=h e.on (dn.2 ⟨e,dM.2 ⟨he,hb⟩,rfl⟩);rw[te (by omega) false true,hd e.on (by omega)];simpa using h1
  have hne:0<((List.range ops.size).filter fun i=>!listed.getD i true&&((ops[i]?).map (·.after.all fun e=>!Region.binds .any e||listed.getD e.on false)).getD false).length:=by
   have hex:∃i,i<ops.size/\listed.getD i true=false:=by
    unfold left at hl;obtain⟨i,hi⟩:=Cb (l:=(List.range ops.size).filter fun i=>!listed.getD i true) (by omega);simp only[dM,eu,jR]at hi;exact⟨i,hi⟩
   have hmin:∀m i,i<=m->i<ops.size->listed.getD i true=false->∃i,i<ops.size/\listed.getD i true=false/\∀j,j<i->listed.getD j true=true:=by
    intro m
    induction m with
    |zero=>intro i h1 h2 h3;exact⟨i,h2,h3,fun j hj=>by omega⟩
    |succ m ihm=>
     intro i h1 h2 h3
     by_cases h4:∃j,j<i/\listed.getD j true=false
     ·obtain⟨j,h5,h6⟩:=h4;exact ihm j (by omega) (by omega) h6
     ·refine⟨i,h2,h3,fun j hj=>?_⟩
      cases hq:listed.getD j true with
      |true=>rfl
      |false=>exact absurd ⟨j,hj,hq⟩ h4
   obtain⟨i0,h1,h2⟩:=hex;obtain⟨i,h3,h4,h5⟩:=hmin i0 i0 (aW _) h1 h2;refine Ie (a:=i) ?_;simp only[dM,eu,h4,uj,uq,iW h3,dp,jt];refine⟨h3,?_⟩;rw[<-ql,dy];intro e he
   cases hb:Region.binds .any e with
   |false=>rfl
   |true=>
    have h7:=hed1 i h3 e he hb;simp only[oY,mN];rw[te (by omega) false true];exact h5 _ h7
  simp only[Region.linearise.go,eL];rw[hf]at hne⊢;rw[hal];generalize hrs:(List.range ops.size).filter (j6 (mq ops) done)=rs at hne⊢;have hlt:n%rs.length<rs.length:=w7 _ hne;rw[bn hlt];generalize hri:rs[n%rs.length]=i
  have him:i∈rs:=by rw[<-hri];exact bC hlt
  have him2:=him;rw[<-hrs]at him2;simp only[dM,eu,j6,aw,jR]at him2;obtain⟨h1,h2,_⟩:=him2
  have h2':listed.getD i true=false:=by rw[hd i h1];exact h2
  simp only;rw[linearise_go_acc,Rh,qh];refine uo.2 ⟨i,him,dn.2 ⟨_,My hed fuel _ _ _ (by simpa using hsz) ?_ ?_,rfl⟩⟩
  ·intro j hj;simp only[gn,rX]
   by_cases hij:i=j
   ·subst hij;simp[hsz,h1]
   ·rw[if_neg hij];have:=hd j hj;rw[gn]at this;rw[this];simp[Ne.symm hij]
  ·have:=Ek h1 h2';omega
inductive Reach(P:Program)(Γ:Nat->Option AV):ar->ar->Prop
 |refl (c:ar):Reach P Γ c c
 |trans {a b c:ar}:Reach P Γ a b->Reach P Γ b c->Reach P Γ a c
 |step (c:ar):Reach P Γ c (eS P Γ c)
 |pure {f:FuncId} {args as:List AV} {r:AV} {up:List Fr} {h:List Ob}:bP h args=some as->aS P Γ f as r->Reach P Γ (.cl f args up h) (.back up (dE h.length r).1 (fP h args r))
 |FN {f:FuncId} {args as:List AV} {v:AV} {up:List Fr} {h:List Ob}:bP h args=some as->kM P Γ f as v->Reach P Γ (.cl f args up h) (.die up v h)
 |jc {f:Fr} {up:List Fr} {h:List Ob} {o:AG} {os:List AG} {k:List It} {c:ar}:f.md=.run->f.its=.ops (o::os)::k->dt f.t o.guard=some true->ay P Γ f.t h o.op=.either->
  (∀b,Reach P Γ (.fr {f with its:=.ops os::k,t:=aX f.t o.dst (.bool b)} up h) c)->Reach P Γ (.fr f up h) c
 |leave {f:FuncId} {args:List AV} {up:List Fr} {h h':List Ob} {v:AV}:Reach P Γ (.cl f args up h) (.back up v h')->aF h.length v=true->cw h.length (h'.take h.length)=true->Reach P Γ (.cl f args up h) (.back up v (h'.take h.length))
 |NB {f:FuncId} {args:List AV} {up:List Fr} {h h':List Ob} {v:AV}:Reach P Γ (.cl f args up h) (.die up v h')->aF h.length v=true->cw h.length (h'.take h.length)=true->Reach P Γ (.cl f args up h) (.die up v (h'.take h.length))
 |drop {f:Fr} {up:List Fr} {h:List Ob} (n:Nat):f.base<=n->jJ n f=true->cw n (h.take n)=true->Reach P Γ (.fr f up h) (.fr f up (h.take n))
 |reset {f:Fr} {up:List Fr} {h:List Ob} {i k:Nat} {E:TypeId} {es:List AV} {fl sh:Bool}:f.base<=i->h[i]? =some (.row k E es (some 0) fl sh)->fZ i es.length f=true->cD i es.length h=true->
  Reach P Γ (.fr f up h) (.fr f up (h.set i (.row k E es none fl sh)))
 |Ni {f:Fr} {up:List Fr} {h:List Ob} {i k:Nat} {E:TypeId} {es:List AV} {fl sh:Bool}:h[i]? =some (.row k E es (some 0) fl sh)->(f::up).all (fZ i es.length)=true->cD i es.length h=true->
  Reach P Γ (.fr f up h) (.fr f up (h.set i (.row k E es none fl sh)))
 |freeze {f:Fr} {up:List Fr} {h:List Ob} {i k:Nat} {E:TypeId} {es es':List AV} {gr:Option Nat} {fl sh:Bool}:h[i]? =some (.row k E es gr fl sh)->gr.getD 0=0->bP h es=some es'->(bJ es).contains i=false->
  Reach P Γ (.fr f up h) (.fr f up ((share (bJ es) h).set i (.row k E es' gr true sh)))
 |abA {f:Fr} {up:List Fr} {h:List Ob} (l:List Nat):Reach P Γ (.fr f up h) (.fr f up (share l h))
 |tree {f:Fr} {up:List Fr} {h:List Ob} (i:Nat):Reach P Γ (.fr f up h) (.fr {f with t:=f.t.set i (k7 h (f.t.getD i .undef))} up (share (rowsOf (f.t.getD i .undef)) h))
 |lA {f:Fr} {up:List Fr} {h:List Ob} {i:Nat} (j:Nat) {cs:List AV}:h[i]? =some (.cells cs)->Reach P Γ (.fr f up h) (.fr f up ((share (rowsOf (cs.getD j .undef)) h).set i (.cells (cs.set j (k7 h (cs.getD j .undef))))))
 |pB {f:Fr} {up:List Fr} {h:List Ob} {i j k k0:Nat} {cs:List AV} (E:TypeId):h[i]? =some (.cells cs)->cs[j]? =some (.list true k0 [])->0<k->
  Reach P Γ (.fr f up h) (.fr f up ((h++[Ob.row k E [] none true false]).set i (.cells (cs.set j (.sl h.length 0 0)))))
 |Ad {f:Fr} {up:List Fr} {h:List Ob} {i j k k0:Nat} {es:List AV} {E0:TypeId} {fl sh:Bool} (E:TypeId):h[i]? =some (.row 1 E0 es none fl sh)->es[j]? =some (.list true k0 [])->0<k->
  Reach P Γ (.fr f up h) (.fr f up ((h++[Ob.row k E [] none true false]).set i (.row 1 E0 (es.set j (.sl h.length 0 0)) none false sh)))
 |cq {f:Fr} {up:List Fr} {h:List Ob} {d:Option Nat} {gd:Option (Nat×Bool)} {k:Nat} {zs:List AV} {ps:List (Nat×AX)} {os:List AG} {k':List It} {es:List AV} (E:TypeId):f.md=.run->f.its=.ops (⟨d,gd,.lit k zs ps⟩::os)::k'->
  dt f.t gd=some true->my k zs (ps.map fun p=>(p.1,ax f.t p.2))=some es->
  Reach P Γ (.fr f up h) (.fr {f with its:=.ops os::k',t:=aX f.t d (.sl h.length 0 es.length)} up (h++[.row k E es none (cd es k) false]))
 |mask {f:Fr} {up:List Fr} {h:List Ob} (m:List Bool):Reach P Γ (.fr f up h) (.fr {f with t:=c9 m f.t} up h)
 |aQ {f:Fr} {up:List Fr} {h h':List Ob} {l:List Bool} {ws:List Nat} {gs:List AG} {k:List It} {orc:List (AV×List Ob)} {t':List AV} {obls obls0:List fJ} {hs:List (List Ob)}:f.md=.run->f.its=.code (.aQ l ws gs)::k->
  gE P Γ orc gs f.t h=some (t',h',obls,hs)->(∀o∈obls,o∈obls0)->(∀o∈obls0,∀up,Reach P Γ (o.f.cfg o.args up o.h) (.back up o.v o.h'))->calm P Γ obls0 (h::hs) l ws orc gs f.t h->
  Reach P Γ (.fr f up h) (.fr {f with its:=k,t:=t'} up h')
 |zY {f:Fr} {up:List Fr} {h h':List Ob} {l:List Bool} {ws:List Nat} {gs:List AG} {k:List It} {orc:List (AV×List Ob)} {t':List AV} {obls obls0:List fJ} {hs:List (List Ob)} {D:ar} {i:Nat} {E:TypeId} {es:List AV} {gr:Option Nat} {fl sh:Bool} (dies:fJ->Prop):f.md=.run->f.its=.code (.aQ l ws gs)::k->
  gE P Γ orc gs f.t h=some (t',h',obls,hs)->(∀o∈obls,o∈obls0)->(∀o∈obls0,¬dies o->∀up,Reach P Γ (o.f.cfg o.args up o.h) (.back up o.v o.h'))->(∀o∈obls0,dies o->∀its t,tG gs f.t t->Reach P Γ (o.f.cfg o.args ({f with its:=its,t:=t}::up) o.h) D)->calm P Γ obls0 (h::hs) l ws orc gs f.t h->h'[i]? =some (.row 0 E es gr fl sh)->
  Reach P Γ (.fr f up h) D
 |pz {f:Fr} {up:List Fr} {h:List Ob} {i k k0:Nat} (E:TypeId):f.md=.run->f.t[i]? =some (.list true k0 [])->0<k->
  Reach P Γ (.fr f up h) (.fr {f with t:=f.t.set i (.sl h.length 0 0)} up (h++[Ob.row k E [] none true false]))
 |gc {f:Fr} {up:List Fr} {h:List Ob} (n:Nat) (τ:List Nat):f.md=.run->f.base<=n->n<=h.length->(∀j∈τ,n+j<h.length)->τ.Nodup->dJ n τ f.t=true->jI n f.ds=true->fF n f.its=true->nv n f.kind=true->
  fe n τ (h.take n)=true->p6 n τ (lE h n τ)=true->Reach P Γ (.fr f up h) (.fr {f with t:=cf n τ f.t} up (ij n τ h))
 |ea {f:Fr} {up:List Fr} {h:List Ob} {as:List (List Nat)} {gs:List AG} {k:List It} {c:ar}:f.md=.run->f.its=.code (.ea as gs)::k->
  (∀l∈eL as as.length [],Reach P Γ (.fr {f with its:=.ops (l.map fun i=>gs.getD i default)::k} up h) c)->Reach P Γ (.fr f up h) c
section
variable{P:Program}{Γ:Nat->Option AV}{N:Env}{g0:G}{f0:FuncId}{cs0:List Frame}
theorem Av{ops:Array Oper}:∀(fuel t:Nat)(listed:Array Bool)(i:Nat),i∈Region.linearise.go .any ops fuel t listed []->i<ops.size
 |0,t,listed,i,h=>by simp[Region.linearise.go]at h
 |fuel+1,t,listed,i,h=>by
  simp only[Region.linearise.go]at h
  split at h
  ·rename_i j hj;rw[linearise_go_acc]at h;simp only[List.reverse_cons,List.reverse_nil,ld,fh,bq]at h
   rcases h with rfl|h
   ·have:=gX hj;simp only[dM,eu]at this;exact this.1
   ·exact Av fuel _ _ i h
  ·simp at h
theorem zN{ops:Array Oper}{gs:List AG}(h:ops.toList.mapM (mI P ops.toList)=some gs):∀{l:List Nat},(∀i∈l,i<ops.size)->FO P ops (l.map fun i=>gs.getD i default) l
 |[],_=>.nil
 |i::l,hl=>by
  obtain⟨h1,h2⟩:=vx h
  have hi:i<gs.length:=by rw[h1];simpa using hl i (by simp)
  obtain⟨o,ho,hc⟩:=h2 i _ (bn hi);refine .cons ⟨o,by simpa using ho,?_⟩ (zN h fun j hj=>hl j (dY _ hj));simp only[bG,bn hi];exact hc
def fI(P:Program)(Γ:Nat->Option AV)(N:Env)(g0:G)(f0:FuncId)(cs0:List Frame)(c c':ar):Prop:=
 ∀m,cR P Γ N g0 f0 cs0 c m->∃m',Steps P m m'/\cR P Γ N g0 f0 cs0 c' m'
theorem fI.trans{a b c:ar}(h1:fI P Γ N g0 f0 cs0 a b)(h2:fI P Γ N g0 f0 cs0 b c):fI P Γ N g0 f0 cs0 a c:=by
 intro m hm;obtain⟨m1,s1,h⟩:=h1 m hm;obtain⟨m2,s2,h⟩:=h2 m1 h;exact⟨m2,s1.trans s2,h⟩
theorem fI.step(c:ar):fI P Γ N g0 f0 cs0 c (eS P Γ c):=fun _ hm=>Wf hm
theorem WC{g:G}{h:List Ob}{i k:Nat}{E:TypeId}{es:List AV}{fl sh:Bool}{f:Fr}{fr:Frame}(hi:h[i]? =some (.row k E es (some 0) fl sh))(hf:fZ i es.length f=true)(S:kc P g h f fr):kc P g (h.set i (.row k E es none fl sh)) f fr:=by
 have hmr:=S.md;simp only[fZ,aw]at hf
 have hkind:∀{j:Nat}{o:Ob},h[j]? =some o->(∀k E es gr fl sh,o≠Ob.row k E es gr fl sh)->(h.set i (.row k E es none fl sh))[j]? =some o:=by
  intro j o hj hne;rw[dx]
  ·exact hj
  ·rintro rfl
   rw[hi]at hj
   cases hj
   exact hne _ _ _ _ _ _ rfl
 have hLR:∀{l b},LR g h l b->LR g (h.set i (.row k E es none fl sh)) l b:=by
  rintro l b ⟨⟨a1,a2,a3,a4,a5,a6,a7,h1⟩,h2⟩
  exact⟨⟨a1,a2,a3,a4,a5,a6,a7,hkind h1 (by simp)⟩,h2⟩
 have hIR:∀{k1:List It}{k2:List Item},IR P g h k1 k2->IR P g (h.set i (.row k E es none fl sh)) k1 k2:=by
  intro k1
  induction k1 with
  |nil=>intro k2 hk;cases k2<;>simp only[IR]at hk⊢
  |cons a k1 ih=>
   intro k2 hk
   cases k2 with
   |nil=>cases a<;>simp only[IR]at hk
   |cons b k2=>
    cases a<;>cases b<;>simp only[IR]at hk⊢
    ·exact⟨hk.1,ih hk.2⟩
    ·exact⟨hk.1,ih hk.2⟩
    ·exact⟨hk.1,ih hk.2⟩
    ·exact⟨hk.1,ih hk.2⟩
    ·exact⟨hLR hk.1,ih hk.2⟩
    ·exact⟨hLR hk.1,ih hk.2⟩
    ·exact ih hk
 have hDR:∀{ds1:List da}{ds2:List Deferred},nq i es.length ds1=true->F2 (DR g h) ds1 ds2->F2 (DR g (h.set i (.row k E es none fl sh))) ds1 ds2:=by
  intro ds1 ds2 hv hd
  induction hd with
  |nil=>exact .nil
  |@cons a b as bs h1 _ ih=>
   cases a with
   |call c args=>
    simp only[nq,aw]at hv;obtain⟨cap,q1,q2⟩:=h1;exact .cons ⟨cap,q1,kF hi hv.1 q2⟩ (ih hv.2)
   |mark l=>
    simp only[nq]at hv;obtain⟨⟨q,q1⟩,q2⟩:=h1;exact .cons ⟨⟨q,hkind q1 (by simp)⟩,q2⟩ (ih hv)
 ·refine⟨?_,S.fn,hIR S.its,kF hi hf.1.1 S.t,hDR hf.1.2 S.ds,?_,S.is⟩
  ·have hv:=hf.2
   cases hm2:f.md with
   |run=>rw[hm2]at hmr;exact hmr
   |ret=>rw[hm2]at hmr;exact hmr
   |cX v rc=>
    rw[hm2]at hmr hv;obtain⟨u,q1,q2⟩:=hmr;exact⟨u,q1,tp hi (by simpa only [Az]using hv) q2⟩
  ·have hk:=S.kind
   cases hk2:f.kind with
   |norm=>rw[hk2]at hk;exact hk
   |br=>rw[hk2]at hk;exact hk
   |round l=>
    rw[hk2]at hk;obtain⟨q1,b,q2,q3⟩:=hk;exact⟨q1,b,q2,hLR q3⟩
theorem K_{g:G}{h:List Ob}{i k:Nat}{E:TypeId}{es:List AV}{fl sh:Bool}{f0:FuncId}(hi:h[i]? =some (.row k E es (some 0) fl sh)):∀{n:Nat}{l:List Fr}{fs:List Frame},l.all (fZ i es.length)=true->SR P g h f0 n l fs->SR P g (h.set i (.row k E es none fl sh)) f0 n l fs
 |_,[],_,_,h1=>h1
 |n,f::up,fs,hv,h1=>by
  obtain⟨fr,fs',h2,h3,h4,h5,h6,h7⟩:=h1;simp only[qf,aw]at hv;exact⟨fr,fs',h2,WC hi hv.1 h3,h4,h5,h6,K_ hi hv.2 h7⟩
theorem Mi{Rl:ar->ar->Prop}(htr:∀a b c,Rl a b->Rl b c->Rl a c)(hst:∀c,Rl c (eS P Γ c)){f:Fr}{up:List Fr}{h h':List Ob}{l:List Bool}{ws:List Nat}{gs:List AG}{k:List It}{orc:List (AV×List Ob)}{t':List AV}{obls obls0:List fJ}{hs:List (List Ob)}(hmd:f.md=.run)(hits:f.its=.code (.aQ l ws gs)::k)
 (hr:gE P Γ orc gs f.t h=some (t',h',obls,hs))(hsub:∀o∈obls,o∈obls0)(hob:∀o∈obls0,∀its t,tG gs f.t t->Rl (o.f.cfg o.args ({f with its:=its,t:=t}::up) o.h) (.back ({f with its:=its,t:=t}::up) o.v o.h'))(hc:calm P Γ obls0 (h::hs) l ws orc gs f.t h){m:Machine}(hm:cR P Γ N g0 f0 cs0 (.fr f up h) m):
 ∃m1 c1,Steps P m m1/\cR P Γ N g0 f0 cs0 c1 m1/\Rl c1 (.fr {f with its:=k,t:=t'} up h'):=by
 obtain⟨g,w,tmps,todo,ds,kd,ro,md,fs,rfl,S,hmr⟩:=hm.inv;rw[hmd]at hmr;simp only[MR]at hmr;subst hmr;have hI:=S.its;rw[hits]at hI
 cases todo with
 |nil=>simp only[IR]at hI
 |cons im k'=>
 cases im<;>simp only[IR]at hI
 rename_i c;obtain⟨hC,hk⟩:=hI
 cases c<;>try (simp only[CR]at hC;done)
 rename_i id ops draw
 cases draw<;>simp only[CR]at hC
 obtain⟨hgs,hok,rfl,rfl⟩:=hC;simp only[vO,aw]at hok;obtain⟨⟨hok1,hok2⟩,hok3⟩:=hok;obtain⟨T,H,v,hT0,hH0,hTn,hHn,hat,hk0⟩:=sV hr hsub hc
 have hlen:gs.length=ops.size:=by rw[(vx hgs).1];simp
 have R:oU P Γ ops gs obls0 h hs T H v:=⟨hlen,hok1,hok2,hH0,hat,hk0⟩
 have hsched:∀x,Region.schedule (P.follows .mixedOrders) ops x=Region.linearise.go .any ops ops.size x (Array.replicate ops.size false) []:=by
  intro x;unfold Region.schedule;rw[if_pos (by simpa using hok3)];rfl
 have hgetD:∀i d,(Array.replicate ops.size false).getD i d=if i<ops.size then false else d:=by
  intro i d;rw[gn,Rj]
  split<;>rfl
 have F:wy ops gs T H v (Array.replicate ops.size false) f.t h:=by
  refine⟨by simp,?_,by rw[hT0],?_,fun s _=>by rw[hT0],0,wS _,hH0.symm,fun _ _ h=>by omega,?_⟩
  ·intro i o ho hl;have:=aV (l:=ops.toList) (i:=i) (a:=o) (by simpa using ho);rw[hgetD,if_pos (by simpa using this)]at hl
   cases hl
  ·intro j x s hx hl;have:=aV hx;rw[hgetD,if_pos (by omega)]at hl
   cases hl
  ·intro j x _ hx _;have:=aV hx;rw[hgetD,if_pos (by omega)]
 have hleft:left ops.size (Array.replicate ops.size false)=ops.size:=by
  unfold left;rw[w9.2,wW];intro i hi;rw[hgetD,if_pos (by simpa using hi)];rfl
 have h1:=Zk (Rl:=Rl) R htr hst (by rw[hT0];exact hob) hmd (k:=k) ops.size (w.tape w.drawn (.order f.fn id)) _ f.t h F hleft;rw[hTn,hHn]at h1;have S':St P Γ N g0 f0 g h w.drew f up tmps (.code (.region id ops true)::k') ds kd ro fs:=⟨S.H.world rfl rfl rfl rfl,S.M,S.its,S.t,S.ds,S.kind,S.is,S.b,S.z,S.s⟩
 have h2:cR P Γ N g0 f0 cs0 (.fr {f with its:=.ops ((Region.linearise.go .any ops ops.size (w.tape w.drawn (.order f.fn id)) (Array.replicate ops.size false) []).map fun i=>gs.getD i default)::k,t:=f.t} up h)
  (lone (aE f.fn tmps (.inRegion ops (Region.schedule (P.follows .mixedOrders) ops (w.tape w.drawn (.order f.fn id)))::k') ds kd ro) (fs++cs0) w.drew):=by
  rw[hsched];exact S'.go hmd (its:=.ops _::k) ⟨zN hgs fun i hi=>Av _ _ _ i hi,hk⟩ S.t
 exact⟨_,_,Steps.one EN,h2,h1⟩
theorem fI.aQ{f:Fr}{up:List Fr}{h h':List Ob}{l:List Bool}{ws:List Nat}{gs:List AG}{k:List It}{orc:List (AV×List Ob)}{t':List AV}{obls obls0:List fJ}{hs:List (List Ob)}(hmd:f.md=.run)(hits:f.its=.code (.aQ l ws gs)::k)
 (hr:gE P Γ orc gs f.t h=some (t',h',obls,hs))(hsub:∀o∈obls,o∈obls0)(hob:∀o∈obls0,∀up,fI P Γ N g0 f0 cs0 (o.f.cfg o.args up o.h) (.back up o.v o.h'))(hc:calm P Γ obls0 (h::hs) l ws orc gs f.t h):
 fI P Γ N g0 f0 cs0 (.fr f up h) (.fr {f with its:=k,t:=t'} up h'):=by
 intro m hm;obtain⟨m1,c1,s1,h1,h2⟩:=Mi (Rl:=fI P Γ N g0 f0 cs0) (fun _ _ _ a b=>a.trans b) fI.step hmd hits hr hsub (fun o ho _ _ _=>hob o ho _) hc hm;obtain⟨m',s',h3⟩:=h2 _ h1;exact⟨m',s1.trans s',h3⟩
theorem fI.zY{f:Fr}{up:List Fr}{h h':List Ob}{l:List Bool}{ws:List Nat}{gs:List AG}{k:List It}{orc:List (AV×List Ob)}{t':List AV}{obls obls0:List fJ}{hs:List (List Ob)}{D:ar}{i:Nat}{E:TypeId}{es:List AV}{gr:Option Nat}{fl sh:Bool}(hmd:f.md=.run)(hits:f.its=.code (.aQ l ws gs)::k)
 (hr:gE P Γ orc gs f.t h=some (t',h',obls,hs))(hsub:∀o∈obls,o∈obls0)(hob:∀o∈obls0,(∀up,fI P Γ N g0 f0 cs0 (o.f.cfg o.args up o.h) (.back up o.v o.h'))\/∀its t,tG gs f.t t->fI P Γ N g0 f0 cs0 (o.f.cfg o.args ({f with its:=its,t:=t}::up) o.h) D)(hc:calm P Γ obls0 (h::hs) l ws orc gs f.t h)(hi:h'[i]? =some (.row 0 E es gr fl sh)):
 fI P Γ N g0 f0 cs0 (.fr f up h) D:=by
 intro m hm
 obtain⟨m1,c1,s1,h1,h2⟩:=Mi (Rl:=fun a b=>fI P Γ N g0 f0 cs0 a D\/fI P Γ N g0 f0 cs0 a b) (fun _ _ _ a b=>by
  rcases a with a|a
  ·exact .inl a
  ·rcases b with b|b
   ·exact .inl (a.trans b)
   ·exact .inr (a.trans b)) (fun c=>.inr (fI.step c)) hmd hits hr hsub (fun o ho its t hk=>by
  rcases hob o ho with h4|h4
  ·exact .inr (h4 _)
  ·exact .inl (h4 its t hk)) hc hm
 rcases h2 with h2|h2
 ·obtain⟨m',s',h3⟩:=h2 _ h1;exact⟨m',s1.trans s',h3⟩
 ·obtain⟨m',s',h3⟩:=h2 _ h1;obtain⟨g,w,fr,fs,_,H,_⟩:=h3;have:=H.ob i _ hi;simp only[OV]at this;omega
theorem Dp{f:Fr}{up:List Fr}{h:List Ob}{as:List (List Nat)}{gs:List AG}{k:List It}(hmd:f.md=.run)(hits:f.its=.code (.ea as gs)::k){m:Machine}(hm:cR P Γ N g0 f0 cs0 (.fr f up h) m):
 ∃l∈eL as as.length [],∃m1,Steps P m m1/\cR P Γ N g0 f0 cs0 (.fr {f with its:=.ops (l.map fun i=>gs.getD i default)::k} up h) m1:=by
 obtain⟨g,w,tmps,todo,ds,kd,ro,md,fs,rfl,S,hmr⟩:=hm.inv;rw[hmd]at hmr;simp only[MR]at hmr;subst hmr;have hI:=S.its;rw[hits]at hI
 cases todo with
 |nil=>simp only[IR]at hI
 |cons im k'=>
 cases im<;>simp only[IR]at hI
 rename_i c;obtain⟨hC,hk⟩:=hI
 cases c<;>try (simp only[CR]at hC;done)
 rename_i id ops draw
 cases draw<;>simp only[CR]at hC
 obtain⟨hgs,hok2,hok3,rfl⟩:=hC
 have hsched:∀x,Region.schedule (P.follows .mixedOrders) ops x=Region.linearise.go .any ops ops.size x (Array.replicate ops.size false) []:=by
  intro x;unfold Region.schedule;rw[if_pos (by simpa using hok3)];rfl
 have hgetD:∀i d,(Array.replicate ops.size false).getD i d=if i<ops.size then false else d:=by
  intro i d;rw[gn,Rj]
  split<;>rfl
 have hleft:left ops.size (Array.replicate ops.size false)=ops.size:=by
  unfold left;rw[w9.2,wW];intro i hi;rw[hgetD,if_pos (by simpa using hi)];rfl
 have hmem:=My hok2 ops.size (w.tape w.drawn (.order f.fn id)) (Array.replicate ops.size false) [] (by simp) (fun i hi=>by rw[hgetD,if_pos hi];rfl) hleft
 have hal:(mq ops).length=ops.size:=by simp[mq]
 have S':St P Γ N g0 f0 g h w.drew f up tmps (.code (.region id ops true)::k') ds kd ro fs:=⟨S.H.world rfl rfl rfl rfl,S.M,S.its,S.t,S.ds,S.kind,S.is,S.b,S.z,S.s⟩;refine⟨_,by rw[hal];exact hmem,_,Steps.one EN,?_⟩;rw[hsched];exact S'.go hmd (its:=.ops _::k) ⟨zN hgs fun i hi=>Av _ _ _ i hi,hk⟩ S.t
theorem C8{f:Fr}{up:List Fr}{h:List Ob}{o:AG}{os:List AG}{k:List It}(hmd:f.md=.run)(hits:f.its=.ops (o::os)::k)(hw:dt f.t o.guard=some true)(ha:ay P Γ f.t h o.op=.either){m:Machine}(hm:cR P Γ N g0 f0 cs0 (.fr f up h) m):
 ∃b m1,Steps P m m1/\cR P Γ N g0 f0 cs0 (.fr {f with its:=.ops os::k,t:=aX f.t o.dst (.bool b)} up h) m1:=by
 obtain⟨g,w,tmps,todo,ds,kd,ro,md,fs,rfl,S,hmr⟩:=hm.inv;rw[hmd]at hmr;simp only[MR]at hmr;subst hmr;have hI:=S.its;rw[hits]at hI
 cases todo with
 |nil=>simp only[IR]at hI
 |cons im k'=>
 cases im<;>simp only[IR]at hI
 rename_i ops todo;obtain⟨hO,hk⟩:=hI
 cases hO with
 |cons h1 hO=>
 rename_i i rest;obtain⟨op,hop,hcag⟩:=h1;obtain⟨hw1,hcop,hdst⟩:=xP hcag S.t hw;have hs:eP P Γ N g h w (⟨tmps,ds⟩:Act).eval op (ay P Γ f.t h o.op):=J0 (a:=⟨tmps,ds⟩) S.H S.t hcop
 have hnd:=fun x y=>J5 (Γ:=Γ) (h:=h) (t:=f.t) hcop x y
 rw[ha]at hs hnd;obtain⟨b,g',w',nx,h2,h3,h4,u,rfl,h6⟩:=hs;have S1:=S.mono h3 h4 (aW _);have hs1:=St.go (cs0:=cs0) S1 hmd (its:=.ops os::k) (todo':=.inRegion ops rest::k') (t:=aX f.t o.dst (.bool b)) (tmps':=k5 tmps o.dst u) ⟨hO,by have:=S1.its;rw[hits]at this;exact this.2⟩ (mo S1.t h6);rw[hdst]at hs1;have hst:=D5 (cs:=fs++cs0) (fn:=f.fn) (k:=k') (rest:=rest) (kd:=kd) (ro:=ro) hop hw1 (Or.inr (hnd (by simp) (by simp))) h2;rw[<-hdst]at hs1;exact⟨b,_,Steps.one hst,by rw[hdst]at hs1⊢;exact hs1⟩
theorem NM{g1 g2:G}{h1 h2:List Ob}{n m:Nat}:∀{up:List Fr}{fs1 fs2:List Frame},SR P g1 h1 f0 n up fs1->SR P g2 h2 f0 m up fs2->SR P g2 h2 f0 n up fs2
 |[],_,_,_,b=>b
 |f::up,_,_,a,b=>by
  obtain⟨_,_,_,_,a4,a5,_,_⟩:=a;obtain⟨fr,fs',b2,b3,b4,b5,b6,b7⟩:=b;exact⟨fr,fs',b2,b3,a4,a5,b6,b7⟩
theorem y3{c c':ar}(hr:Reach P Γ c c'):fI P Γ N g0 f0 cs0 c c':=by
 induction hr with
 |refl c=>exact fun m hm=>⟨m,.refl _ _,hm⟩
 |trans _ _ h1 h2=>exact h1.trans h2
 |step c=>exact fI.step c
 |pure hv hp=>exact fun m hm=>V_ hp hv hm
 |FN hv hp=>exact fun m hm=>Yk hp hv hm
 |@jc f up h o os k c hmd hits hw ha _ ih=>
  intro m hm;obtain⟨b,m1,s1,h1⟩:=C8 hmd hits hw ha hm;obtain⟨m',s',h7⟩:=ih b _ h1;exact⟨m',s1.trans s',h7⟩
 |@leave f args up h h' v _ hv hh ih=>
  intro m hm;obtain⟨m',s',h7⟩:=ih m hm
  by_cases hn:h'.length<=h.length
  ·rw[cL hn];exact⟨m',s',h7⟩
  refine⟨m',s',?_⟩
  have hlen:(h'.take h.length).length=h.length:=by rw[gK];omega
  obtain⟨g0,w0,vs0,fs0,_,_,_,_,_,S0,_⟩:=hm
  cases up with
  |nil=>
   obtain⟨g,w,u,fr,e,H,M,hV,h8,h9⟩:=h7;obtain⟨H',x⟩:=H.drop hh;exact⟨_,w,u,fr,e,H',M,fv x hv hV,h8,h9⟩
  |cons c up=>
   obtain⟨g,w,u,fr,fs,e,H,M,hV,S⟩:=h7;obtain⟨H',x⟩:=H.drop hh;exact⟨_,w,u,fr,fs,e,H',M,fv x hv hV,by rw[hlen];exact fR x (aW _) (NM S0 S)⟩
 |@NB f args up h h' v _ hv hh ih=>
  intro m hm;obtain⟨m',s',h7⟩:=ih m hm
  by_cases hn:h'.length<=h.length
  ·rw[cL hn];exact⟨m',s',h7⟩
  refine⟨m',s',?_⟩
  have hlen:(h'.take h.length).length=h.length:=by rw[gK];omega
  obtain⟨g0,w0,vs0,fs0,_,_,_,_,_,S0,_⟩:=hm
  cases up with
  |nil=>
   obtain⟨g,w,u,fr,e,H,M,hV,h8,h9⟩:=h7;obtain⟨H',x⟩:=H.drop hh;exact⟨_,w,u,fr,e,H',M,fv x hv hV,h8,h9⟩
  |cons c up=>
   obtain⟨g,w,u,fr,fs,e,H,M,hV,S⟩:=h7;obtain⟨H',x⟩:=H.drop hh;exact⟨_,w,u,fr,fs,e,H',M,fv x hv hV,by rw[hlen];exact fR x (aW _) (NM S0 S)⟩
 |@drop f up h n hb hf hh=>
  intro m hm;obtain⟨g,w,tmps,todo,ds,kd,ro,md,fs,rfl,S,hmr⟩:=hm.inv;obtain⟨H',x⟩:=S.H.drop hh;have hR:=zb x hf (S.rel hmr);refine⟨_,.refl _ _,?_⟩
  by_cases hn:n<=h.length
  ·exact⟨_,w,_,fs,rfl,H',S.M,_,fs,rfl,hR,n8 hR,by rw[gK,qe hn];exact hb,S.z,fR (x.mono hb) (aW _) S.s⟩
  ·exact⟨_,w,_,fs,rfl,H',S.M,_,fs,rfl,hR,n8 hR,by rw[gK,Nat.min_eq_right (by omega)];exact S.b,S.z,fR (x.mono hb) (aW _) S.s⟩
 |@reset f up h i k E es fl sh hb hi hf hh=>
  intro m hm;obtain⟨g,w,tmps,todo,ds,kd,ro,md,fs,rfl,S,hmr⟩:=hm.inv;have H':=S.H.reset hi hh;have x:Ext f.base g h g (h.set i (.row k E es none fl sh)):=Ext.reset hb _;simp only[fZ,aw]at hf
  have hkind:∀{j:Nat}{o:Ob},h[j]? =some o->(∀k E es gr fl sh,o≠Ob.row k E es gr fl sh)->(h.set i (.row k E es none fl sh))[j]? =some o:=by
   intro j o hj hne;rw[dx]
   ·exact hj
   ·rintro rfl
    rw[hi]at hj
    cases hj
    exact hne _ _ _ _ _ _ rfl
  have hLR:∀{l b},LR g h l b->LR g (h.set i (.row k E es none fl sh)) l b:=by
   rintro l b ⟨⟨a1,a2,a3,a4,a5,a6,a7,h1⟩,h2⟩
   exact⟨⟨a1,a2,a3,a4,a5,a6,a7,hkind h1 (by simp)⟩,h2⟩
  have hIR:∀{k1:List It}{k2:List Item},IR P g h k1 k2->IR P g (h.set i (.row k E es none fl sh)) k1 k2:=by
   intro k1
   induction k1 with
   |nil=>intro k2 hk;cases k2<;>simp only[IR]at hk⊢
   |cons a k1 ih=>
    intro k2 hk
    cases k2 with
    |nil=>cases a<;>simp only[IR]at hk
    |cons b k2=>
     cases a<;>cases b<;>simp only[IR]at hk⊢
     ·exact⟨hk.1,ih hk.2⟩
     ·exact⟨hk.1,ih hk.2⟩
     ·exact⟨hk.1,ih hk.2⟩
     ·exact⟨hk.1,ih hk.2⟩
     ·exact⟨hLR hk.1,ih hk.2⟩
     ·exact⟨hLR hk.1,ih hk.2⟩
     ·exact ih hk
  have hDR:∀{ds1:List da}{ds2:List Deferred},nq i es.length ds1=true->F2 (DR g h) ds1 ds2->F2 (DR g (h.set i (.row k E es none fl sh))) ds1 ds2:=by
   intro ds1 ds2 hv hd
   induction hd with
   |nil=>exact .nil
   |@cons a b as bs h1 _ ih=>
    cases a with
    |call c args=>
     simp only[nq,aw]at hv;obtain⟨cap,q1,q2⟩:=h1;exact .cons ⟨cap,q1,kF hi hv.1 q2⟩ (ih hv.2)
    |mark l=>
     simp only[nq]at hv;obtain⟨⟨q,q1⟩,q2⟩:=h1;exact .cons ⟨⟨q,hkind q1 (by simp)⟩,q2⟩ (ih hv)
  have hR:kc P g (h.set i (.row k E es none fl sh)) f (aE f.fn tmps todo ds kd ro md):=by
   refine⟨?_,rfl,hIR S.its,kF hi hf.1.1 S.t,hDR hf.1.2 S.ds,?_,S.is⟩
   ·have hv:=hf.2
    cases hm2:f.md with
    |run=>rw[hm2]at hmr;exact hmr
    |ret=>rw[hm2]at hmr;exact hmr
    |cX v rc=>
     rw[hm2]at hmr hv;obtain⟨u,q1,q2⟩:=hmr;exact⟨u,q1,tp hi (by simpa only [Az]using hv) q2⟩
   ·have hk:=S.kind
    cases hk2:f.kind with
    |norm=>rw[hk2]at hk;exact hk
    |br=>rw[hk2]at hk;exact hk
    |round l=>
     rw[hk2]at hk;obtain⟨q1,b,q2,q3⟩:=hk;exact⟨q1,b,q2,hLR q3⟩
  exact⟨_,.refl _ _,g,w,_,fs,rfl,H',S.M,_,fs,rfl,hR,n8 hR,by rw[kx];exact S.b,S.z,fR x (aW _) S.s⟩
 |@Ni f up h i k E es fl sh hi hf hh=>
  intro m hm;obtain⟨g,w,fr,fs,rfl,H,M,S⟩:=hm;refine⟨_,.refl _ _,g,w,fr,fs,rfl,H.reset hi hh,M,?_⟩;rw[kx];exact K_ hi hf S
 |@freeze f up h i k E es es' gr fl sh hi hg hv hn=>
  intro m hm;obtain⟨g,w,fr,fs,rfl,H,M,S⟩:=hm;obtain⟨g',H',x⟩:=H.freeze hi hg hv hn;exact⟨_,.refl _ _,g',w,fr,fs,rfl,H',fun b o v hv=>x.M _ _ _ (M b o v hv),fR x (by simp[jU]) S⟩
 |@abA f up h l=>
  intro m hm;obtain⟨g,w,fr,fs,rfl,H,M,S⟩:=hm;obtain⟨g',_,_,_,H',x,_⟩:=mU l H;exact⟨_,.refl _ _,g',w,fr,fs,rfl,H',fun b o v hv=>x.M _ _ _ (M b o v hv),fR x (by simp[jU]) S⟩
 |@tree f up h i=>
  intro m hm;obtain⟨g,w,fr,fs,rfl,H,M,fr',fs',hfs,hR,hb0,hb,hz,hS⟩:=hm
  cases hfs
  obtain⟨g',_,_,_,H',x,hC⟩:=mU (rowsOf (f.t.getD i .undef)) H;have hR1:=zb x hb0 hR;have ht:=oo i hR1.t (N3 H x hC (q9 i hR.t))
  have h6:fr.tmps.toList.set i (fr.tmps.toList.getD i undef)=fr.tmps.toList:=by
   apply iU;intro m
   by_cases hm:i=m
   ·subst hm;rw[nM]
    by_cases hl:i<fr.tmps.toList.length
    ·rw[if_pos rfl,if_pos hl,bG,bn hl];rfl
    ·rw[if_pos rfl,if_neg hl,jq (by omega)]
   ·rw[dx hm]
  rw[h6]at ht;have hR2:kc P g' (share (rowsOf (f.t.getD i .undef)) h) {f with t:=f.t.set i (k7 h (f.t.getD i .undef))} fr:=⟨hR1.md,hR1.fn,hR1.its,ht,hR1.ds,hR1.kind,hR1.is⟩;exact⟨_,.refl _ _,g',w,fr,fs,rfl,H',fun b o v hv=>x.M _ _ _ (M b o v hv),fr,fs,rfl,hR2,n8 hR2,by rw[jU];exact hb,hz,fR (x.mono hb) (aW _) hS⟩
 |@lA f up h i j cs hi=>
  intro m hm;obtain⟨g,w,fr,fs,rfl,H,M,S⟩:=hm;obtain⟨g',H',x⟩:=H.lA j hi;exact⟨_,.refl _ _,g',w,fr,fs,rfl,H',fun b o v hv=>x.M _ _ _ (M b o v hv),fR x (by simp[jU]) S⟩
 |@pB f up h i j k k0 cs E hi hj hk=>
  intro m hm;obtain⟨g,w,fr,fs,rfl,H,M,S⟩:=hm;obtain⟨g',H',x⟩:=H.bA E hi hj hk;exact⟨_,.refl _ _,g',w,fr,fs,rfl,H',fun b o v hv=>x.M _ _ _ (M b o v hv),fR x (by simp) S⟩
 |@Ad f up h i j k k0 es E0 fl sh E hi hj hk=>
  intro m hm;obtain⟨g,w,fr,fs,rfl,H,M,S⟩:=hm;obtain⟨g',H',x⟩:=H.Ad E hi hj hk;exact⟨_,.refl _ _,g',w,fr,fs,rfl,H',fun b o v hv=>x.M _ _ _ (M b o v hv),fR x (by simp) S⟩
 |@cq f up h d gd k zs ps os k' es E hmd hits hw hf=>
  intro m hm;obtain⟨g,w,tmps,todo,ds,kd,ro,md,fs,rfl,S,hmr⟩:=hm.inv;rw[hmd]at hmr;simp only[MR]at hmr;subst hmr;have hI:=S.its;rw[hits]at hI
  cases todo with
  |nil=>simp only[IR]at hI
  |cons im k'_1=>
  cases im<;>simp only[IR]at hI
  rename_i ops todo;obtain⟨hO,hk⟩:=hI
  cases hO with
  |cons h1 hO=>
  rename_i i rest;obtain⟨op,hop,hcag⟩:=h1;obtain⟨hw1,hcop,hdst⟩:=xP hcag S.t hw;obtain⟨ty,n,parts,e,z,q1,q2,q3,q4,q5,q6,q7,rfl,rfl⟩:=aag hcop;have hs:=X1 (t:=f.t) (fl:=cd es k) S.H (r:=(⟨tmps,ds⟩:Act).eval) q1 q2 q3 q4 q5 q6 q7 (fun x=>AT S.t x) hf id E;obtain⟨g',w',nx,h2,h3,h4,u,rfl,h6⟩:=hs;have S1:=S.mono h3 h4 (by simp);have hs1:=St.go (cs0:=cs0) S1 hmd (its:=.ops os::k') (todo':=.inRegion ops rest::k'_1) (t:=aX f.t d (.sl h.length 0 es.length)) (tmps':=k5 tmps d u) ⟨hO,by have:=S1.its;rw[hits]at this;exact this.2⟩ (mo S1.t h6);have hdst':d=op.dst:=hdst;have hst:=D5 (cs:=fs++cs0) (fn:=f.fn) (k:=k'_1) (rest:=rest) (kd:=kd) (ro:=ro) hop hw1 (Or.inr (by intro c hc;rw[q1]at hc;cases hc)) h2;rw[<-hdst']at hst;exact⟨_,Steps.one hst,hs1⟩
 |@mask f up h m=>
  intro mm hm;obtain⟨g,w,tmps,todo,ds,kd,ro,md,fs,rfl,S,hmr⟩:=hm.inv;exact⟨_,.refl _ _,St.jn (f:={f with t:=c9 m f.t}) ⟨S.H,S.M,S.its,oc m S.t,S.ds,S.kind,S.is,S.b,S.z,S.s⟩ hmr⟩
 |aQ hmd hits hr hsub _ hc ih=>exact fI.aQ hmd hits hr hsub ih hc
 |zY dies hmd hits hr hsub _ _ hc hi ih1 ih2=>
  exact fI.zY hmd hits hr hsub (fun o ho=>by
   by_cases hd:dies o
   ·exact .inr (ih2 o ho hd)
   ·exact .inl (ih1 o ho hd)) hc hi
 |@pz f up h i k k0 E hmd hi hk=>
  intro m hm;obtain⟨g,w,fr,fs,rfl,H,M,fr',fs',hfs,hR,hb0,hb,hz,hS⟩:=hm
  cases hfs
  have hE:=Ext.push (g:=g) (h:=h) [Ob.row k E [] none true false] none
  have H1:Inv P Γ N (g.bE h.length none) (h++[Ob.row k E [] none true false]) w:=by
   refine Inv.push (r:=none) H rfl rfl rfl (fun _ _=>rfl) (aW _) (fun b x hb=>by cases hb) ?_ (fun j o hj=>by simp at hj);simp only[OV];rw[cT];exact⟨hk,by simp,fun _=>rfl,by simp,trivial⟩
  have hR1:=zb hE hb0 hR;obtain⟨v,hv1,hv2⟩:=pE hR1.t hi;simp only[V]at hv2;obtain⟨_,a,cap,rfl,hcap,_,_⟩:=hv2
  have hcap0:cap=0:=by simpa using hcap trivial
  subst hcap0
  have hx:V (g.bE h.length none) (h++[Ob.row k E [] none true false]) (.sl h.length 0 0) (.slice a ([]:List AV).length 0):=by
   simp only[V];exact⟨k,E,[],none,true,false,by simp,by simp,a,0,rfl,by simp,by simp,fun _=>⟨by simp,Or.inl ⟨rfl,rfl⟩⟩⟩
  have ht:=oo i hR1.t hx
  have h6:fr.tmps.toList.set i (.slice a ([]:List AV).length 0)=fr.tmps.toList:=by
   apply iU;intro m
   by_cases hm:i=m
   ·subst hm;rw[ef (aV hv1),hv1]
   ·rw[dx hm]
  rw[h6]at ht;have hR2:kc P (g.bE h.length none) (h++[Ob.row k E [] none true false]) {f with t:=f.t.set i (.sl h.length 0 0)} fr:=⟨hR1.md,hR1.fn,hR1.its,ht,hR1.ds,hR1.kind,hR1.is⟩;exact⟨_,.refl _ _,_,w,fr,fs,rfl,H1,fun b o v hv=>hE.M _ _ _ (M b o v hv),fr,fs,rfl,hR2,n8 hR2,by simp;omega,hz,fR (hE.mono hb) (aW _) hS⟩
 |@gc f up h n τ hmd hb hn hτ hnd ht hd hi hk hp hq=>
  intro m hm;obtain⟨g,w,fr,fs,rfl,H,M,fr',fs',hfs,hR,_,_,hz,hS⟩:=hm;obtain⟨g',H',hE,hx⟩:=H.gc hn hτ hnd hp hq
  cases hfs
  have hR':kc P g' (ij n τ h) {f with t:=cf n τ f.t} fr:=by
   refine⟨?_,hR.fn,j0 hE hi hR.its,lJ hx ht hR.t,vz hE hd hR.ds,EV hE hk hR.kind,hR.is⟩;have:=hR.md;rw[hmd]at this;simp only[hmd];exact this
  refine⟨_,.refl _ _,g',w,fr,fs,rfl,H',fun b o v hv=>by rw[hx.M];exact M b o v hv,fr,fs,rfl,hR',n8 hR',?_,hz,fR (hE.mono hb) (aW _) hS⟩
  have hl:(ij n τ h).length=n+τ.length:=by
   unfold ij;rw[ED,bM,DD,gK,qe hn]
  rw[hl];simp only;omega
 |ea hmd hits _ ih=>
  intro m hm;obtain⟨l,hl,m1,s1,h1⟩:=Dp hmd hits hm;obtain⟨m2,s2,h2⟩:=ih l hl _ h1;exact⟨m2,s1.trans s2,h2⟩
end
def lF(h:List Ob)(all:List Nat):AV->Option Nat
 |.sl i off n=>
  match h[i]? with
  |some (.row _ _ es g true sh)=>if cy es g off n=true/\(off=0/\n=es.length/\sh=false/\all.count i=1)then some i else none
  |_=>none
 |_=>none
def fy(h:List Ob)(all:List Nat)(vs:List AV):List Nat:=vs.filterMap (lF h all)
def m7(h:List Ob)(all:List Nat)(vs:List AV):List Nat:=vs.flatMap fun a=>if(lF h all a).isSome=true then[]else rowsOf a
theorem sI{h:List Ob}{all:List Nat}{a:AV}{i:Nat}(ho:lF h all a=some i):
 ∃k E es gr,a=.sl i 0 es.length/\h[i]? =some (.row k E es gr true false)/\cy es gr 0 es.length=true/\all.count i=1/\oe h all a=some (.own k E es):=by
 unfold lF at ho
 split at ho
 ·rename_i j off n
  split at ho
  ·rename_i k E es gr sh hj
   split at ho
   ·rename_i hc;simp only[aj]at ho;subst ho;obtain⟨h1,rfl,rfl,rfl,h5⟩:=hc;refine⟨k,E,es,gr,rfl,hj,h1,h5,?_⟩;simp[oe,hj,h1,h5]
   ·cases ho
  ·cases ho
 ·cases ho
theorem Dw{h:List Ob}{all:List Nat}{a r:AV}(ho:lF h all a=none)(hr:oe h all a=some r):(r=a/\∃f k es,a=.list f k es)\/view h a=some r:=by
 unfold oe at hr
 split at hr
 ·rename_i j off n;right
  split at hr
  ·rename_i k E es gr sh hj
   split at hr
   ·rename_i hok
    split at hr
    ·rename_i hc;unfold lF at ho;simp only[hj,hok,ui]at ho;rw[if_pos hc]at ho
     cases ho
    ·simp only[aj]at hr;subst hr;simp[view,tq,hj,hok]
   ·cases hr
  ·cases hr
 ·rename_i f k es;simp only[aj]at hr;exact Or.inl ⟨hr.symm,_,_,_,rfl⟩
 ·exact Or.inr hr
theorem Dj(h:List Ob)(all:List Nat)(j:Nat):∀(vs:List AV),(bJ vs).count j=(fy h all vs).count j+(m7 h all vs).count j
 |[]=>by simp[bJ,fy,m7]
 |a::vs=>by
  have ih:=Dj h all j vs;simp only[bJ,List.count_append,fy,m7,mP,uu]at ih⊢
  cases ho:lF h all a with
  |none=>simp;omega
  |some i=>
   obtain⟨k,E,es,gr,rfl,_⟩:=sI ho;simp only[rowsOf,Option.isSome_some,cu,List.count_nil,List.count_cons];omega
theorem Uo{h:List Ob}{a r:AV}(hv:view h a=some r):∀k E es,r≠.own k E es:=by
 intro k E es hr;subst hr
 cases a<;>simp[view]at hv
 all_goals (try (split at hv<;>simp at hv))
theorem C0{n:Nat}{r:AV}(hr:∀k E es,r≠.own k E es):dZ n r=(r,[]):=by
 cases r<;>first|rfl|exact absurd rfl (hr _ _ _)
theorem zn{h:List Ob}{all:List Nat}{a r:AV}(ho:lF h all a=none)(hr:oe h all a=some r):∀k E es,r≠.own k E es:=by
 rcases Dw ho hr with⟨rfl,f,k,es,rfl⟩|hv
 ·simp
 ·exact Uo hv
theorem EX{h:List Ob}{all:List Nat}:∀{vs rs:List AV},jk h all vs=some rs->∀(n q:Nat)(o:Ob),(bU n rs).2[q]? =some o->
 ∃j k E es gr,(fy h all vs)[q]? =some j/\o=.row k E es none true false/\h[j]? =some (.row k E es gr true false)/\cy es gr 0 es.length=true
 |[],rs,hr,n,q,o,ho=>by
  simp only[jk,aj]at hr;subst hr;simp[bU]at ho
 |a::vs,rs,hr,n,q,o,ho=>by
  simp only[jk]at hr
  split at hr
  ·rename_i r rs' h1 h2;simp only[aj]at hr;subst hr;simp only[bU]at ho
   cases hown:lF h all a with
   |none=>
    rw[C0 (zn hown h1)]at ho;simp only[ld,dq,ir]at ho;simpa only [fy,uu,hown]using EX h2 n q o ho
   |some i=>
    obtain⟨k,E,es,gr,rfl,h3,h4,h5,h6⟩:=sI hown;rw[h1]at h6;simp only[aj]at h6;subst h6;simp only[dZ,rU,qh]at ho;simp only[fy,uu,hown]
    cases q with
    |zero=>
     simp at ho;exact⟨i,k,E,es,gr,by simp,ho.symm,h3,h4⟩
    |succ q=>
     have:=EX h2 (n+1) q o (by simpa using ho);simpa only [fy,nF]using this
  ·cases hr
theorem Dt{h:List Ob}{all:List Nat}{vs:List AV}{j:Nat}(hj:j∈fy h all vs):all.count j=1/\∃k E es gr,h[j]? =some (.row k E es gr true false):=by
 simp only[fy,List.mem_filterMap]at hj;obtain⟨a,_,ha⟩:=hj;obtain⟨k,E,es,gr,_,h2,_,h4,_⟩:=sI ha;exact⟨h4,k,E,es,gr,h2⟩
theorem Kw{j:Nat}:∀(is:List Nat)(h:List Ob),j∉is->(share is h)[j]? =h[j]?
 |[],_,_=>rfl
 |i::is,h,hn=>by
  simp only[share];rw[Kw is _ (fun hm=>hn (dY _ hm)),wX]
  have:i≠j:=fun e=>hn (by simp[e])
  simp[this]
section
variable{P:Program}{Γ:Nat->Option AV}{N N':Env}{g g2 g2' g3:G}{h hh hh' h3:List Ob}{w w2:World}
theorem Ft(H2:Inv P Γ N' g2 hh w2)(x:Ext hh.length g2 hh g2' hh')(x0:Ext 0 g2' hh' g3 h3){all:List Nat}:∀{vs rs:List AV}{us:List Value},(∀i∈m7 hh all vs,oQ g2' hh w2 g2 i)->VL g2 hh vs us->jk hh all vs=some rs->
 ∀n,(∀q o,(bU n rs).2[q]? =some o->h3[n+q]? =some o)->(∀q j,(fy hh all vs)[q]? =some j->g3.ρ (n+q)=g2.ρ j)->VL g3 h3 (bU n rs).1 us/\oi rs=true
 |[],rs,us,_,hv,hr,n,_,_=>by
  simp only[jk,aj]at hr;subst hr;exact⟨by simpa only [bU,VL]using hv,rfl⟩
 |a::vs,rs,us,hc,hv,hr,n,hos,hρ=>by
  simp only[jk]at hr
  split at hr
  ·rename_i r rs' h1 h2;simp only[aj]at hr;subst hr;simp only[VL]at hv;obtain⟨u,us',rfl,hv1,hv2⟩:=hv
   cases hown:lF hh all a with
   |none=>
    have hpl:=C0 (n:=n) (zn hown h1)
    have hsh:∀i∈rowsOf a,oQ g2' hh w2 g2 i:=fun i hi=>hc i (by simp only[m7,mP,hown];simp[hi])
    have htail:=Ft H2 x x0 (vs:=vs) (rs:=rs') (us:=us') (fun i hi=>hc i (by simp only[m7,mP,bF];exact Or.inr hi)) hv2 h2 n
     (fun q o hq=>hos q o (by simp only[bU,hpl,ld,dq,ir];exact hq))
     (fun q j hq=>hρ q j (by simpa only [fy,uu,hown]using hq))
    have hone:V g3 h3 r u/\ox r=true:=by
     have htr:aF 0 r=true->ox r=true:=by
      intro hb
      cases r<;>first|exact hb|exact absurd rfl (zn hown h1 _ _ _)
     rcases Dw hown h1 with⟨rfl,f,k,es,rfl⟩|hvw
     ·have hb:aF 0 (.list f k es)=true:=by
       simp only[V]at hv1;simp only[aF];exact iw hv1.1
      exact⟨fv x0 hb (fv x (j9 hv1) hv1),htr hb⟩
     ·have hb:=zK H2 hv1 hvw;exact⟨fv x0 hb (rb H2 x hsh hv1 hvw),htr hb⟩
    simp only[bU,hpl,dq,ir,VL,oi,aw];exact⟨⟨u,us',rfl,hone.1,htail.1⟩,hone.2,htail.2⟩
   |some i=>
    obtain⟨k,E,es,gr,rfl,h3',h4,h5,h6⟩:=sI hown;rw[h1]at h6;simp only[aj]at h6;subst h6
    have htail:=Ft H2 x x0 (vs:=vs) (rs:=rs') (us:=us') (fun i hi=>hc i (by simp only[m7,mP,bF];exact Or.inr hi)) hv2 h2 (n+1)
     (fun q o hq=>by
      have:=hos (q+1) o (by simpa only [bU,dZ,rU,qh,nF]using hq)
      rwa[show n+1+q=n+(q+1) by omega])
     (fun q j hq=>by
      have:=hρ (q+1) j (by simpa only [fy,uu,hown,nF]using hq)
      rwa[show n+1+q=n+(q+1) by omega])
    have hrow:=hos 0 _ (by simp[bU,dZ];rfl);have hr0:=hρ 0 i (by simp[fy,hown]);simp only[ir]at hrow hr0;have hob:=H2.ob i _ h3';simp only[OV]at hob;obtain⟨_,_,hfl,_,_⟩:=hob;simp only[bU,dZ,rU,VL,oi,ox,aw];refine⟨⟨u,us',rfl,?_,htail.1⟩,iw (hfl (by trivial)),htail.2⟩;simp only[V]at hv1⊢;obtain⟨k',E',es',gr',fl',sh',q1,q2,aa,cap,q3,q4,q5,q6⟩:=hv1;rw[h3']at q1;simp only[aj,Ob.row.injEq]at q1;obtain⟨rfl,rfl,rfl,rfl,rfl,rfl⟩:=q1;refine⟨_,_,_,none,_,_,hrow,q2,aa,cap,q3,q4,q5,fun _=>?_⟩;rw[hr0];exact q6 h4
  ·cases hr
theorem Ey(H:Inv P Γ N g h w)(H2:Inv P Γ {K:=fun b=>w.heap[b]?,M0:=g.M,MM:=g.MM,w0:=w} g2 hh w2)(hM:∀b o v,g.M b o=some v->g2.M b o=some v){vs rs:List AV}{us:List Value}(hv:VL g2 hh vs us)(hr:jk hh (bJ vs) vs=some rs):
 ∃g3,oi rs=true/\Inv P Γ N g3 (h++(bU h.length rs).2) w2/\VL g3 (h++(bU h.length rs).2) (bU h.length rs).1 us/\(∀i,i<h.length->g3.ρ i=g.ρ i)/\
  (∀b o v,g.M b o=some v->g3.M b o=some v)/\(∀b,b<w.heap.size->w2.heap[b]? =w.heap[b]?):=by
 obtain⟨g2',hρ2,hMM2,hM2,H2',x,hcov⟩:=mU (m7 hh (bJ vs) vs) H2
 have hheap:∀b,b<w.heap.size->w2.heap[b]? =w.heap[b]? :=by
  intro b hb;rw[H2.fU b w.heap[b] (iW hb),iW hb]
 have hbig:w.heap.size<=w2.heap.size:=by
  rcases Rk w.heap.size with h0|h0
  ·omega
  ·have:=hheap (w.heap.size-1) (by omega);rw[iW (xs:=w.heap) (by omega)]at this;have:=aV (l:=w2.heap.toList) (i:=w.heap.size-1) (by simpa using this);simp at this;omega
 have hnewb:∀i b y,g2.ρ i=some (b,y)->w.heap.size<=b/\b<w2.heap.size:=by
  intro i b y hi;obtain⟨h1,h2⟩:=H2.own i b y hi;refine⟨?_,h2⟩
  rcases kv b w.heap.size with h3|h3
  ·simp only[iW h3]at h1;cases h1
  ·exact h3
 have hnd:(fy hh (bJ vs) vs).Nodup:=by
  rw[List.nodup_iff_count];intro j
  by_cases hj:j∈fy hh (bJ vs) vs
  ·have h1:=(Dt hj).1;have h2:=Dj hh (bJ vs) j vs;omega
  ·rw[List.count_eq_zero_of_not_mem hj];omega
 have hnsh:∀j∈fy hh (bJ vs) vs,j∉m7 hh (bJ vs) vs:=by
  intro j hj hs;have h1:=(Dt hj).1;have h2:=Dj hh (bJ vs) j vs;have h3:=Rm.2 hj;have h4:=Rm.2 hs;omega
 generalize hown:fy hh (bJ vs) vs=owned at hnd hnsh
 let g3:G:={ρ:=fun i=>if i<h.length then g.ρ i else(owned[i-h.length]?).bind g2.ρ,M:=g2'.M,MM:=g.MM}
 have hMall:∀b o v,g.M b o=some v->g2'.M b o=some v:=fun b o v hv=>hM2 _ _ _ (hM _ _ _ hv)
 have hρold:∀i,i<h.length->g3.ρ i=g.ρ i:=fun i hi=>if_pos hi
 have hρnew:∀q,g3.ρ (h.length+q)=(owned[q]?).bind g2.ρ:=fun q=>by
  show(if h.length+q<h.length then _ else _)=_
  rw[if_neg (by omega),show h.length+q-h.length=q by omega]
 have hMMeq:g2'.MM=g.MM:=by rw[hMM2,H2.iQ]
 have hE:Ext h.length g h g3 (h++(bU h.length rs).2):=Ext.app _ hρold hMall rfl;have x0:Ext 0 g2' (share (m7 hh (bJ vs) vs) hh) g3 (h++(bU h.length rs).2):=Ext.zero (fun _ _ _ x=>x) (fun _ _ hx=>by rw[<-hMMeq];exact hx)
 obtain⟨hV3,hT⟩:=Ft H2 x x0 hcov hv hr h.length (fun q o hq=>by rw[dL (by omega),show h.length+q-h.length=q by omega];exact hq) (fun q j hq=>by
  rw[hown]at hq;rw[hρnew,hq]
  rfl)
 have hcase:∀{i b y},g3.ρ i=some (b,y)->(i<h.length/\g.ρ i=some (b,y))\/∃q j,i=h.length+q/\owned[q]? =some j/\g2.ρ j=some (b,y):=by
  intro i b y hi
  by_cases hil:i<h.length
  ·rw[hρold i hil]at hi;exact Or.inl ⟨hil,hi⟩
  ·obtain⟨q,rfl⟩:∃q,i=h.length+q:=⟨i-h.length,by omega⟩;rw[hρnew]at hi
   cases hq:owned[q]? with
   |none=>rw[hq]at hi;cases hi
   |some j=>rw[hq]at hi;exact Or.inr ⟨q,j,rfl,hq,hi⟩
 refine⟨g3,hT,⟨H2.os.trans H.os,H2.tape.trans H.tape,H2.output.trans H.output,?_,?_,?_,?_,H2'.mem,?_,?_,?_,?_,?_,H.iQ⟩,hV3,hρold,hMall,hheap⟩
 ·intro b o hb;exact H2.fU b o (H.fU b o hb)
 ·intro i b y hi
  rcases hcase hi with⟨_,h2⟩|⟨q,j,_,_,h2⟩
  ·exact⟨(H.own i b y h2).1,jO (H.own i b y h2).2 hbig⟩
  ·obtain⟨h3,h4⟩:=hnewb j b y h2;refine⟨?_,h4⟩
   cases hk:N.K b with
   |none=>rfl
   |some o=>
    have:=H.fU b o hk;have:=aV (l:=w.heap.toList) (i:=b) (by simpa using this);simp at this;omega
 ·intro i j b y z hi hj
  rcases hcase hi with⟨h1,h2⟩|⟨q,p,rfl,h2,h4⟩
  ·rcases hcase hj with⟨h5,h6⟩|⟨q',p',rfl,h5,h6⟩
   ·exact H.inj i j b y z h2 h6
   ·have:=(hnewb p' b z h6).1;have:=(H.own i b y h2).2;omega
  ·rcases hcase hj with⟨h5,h6⟩|⟨q',p',rfl,h5,h6⟩
   ·have:=(hnewb p b y h4).1;have:=(H.own j b z h6).2;omega
   ·have hp:=H2.inj p p' b y z h4 h6;subst hp
    have hq:q=q':=by
     exact(List.getElem?_inj (aV h2) hnd).1 (h2.trans h5.symm)
    rw[hq]
 ·intro i hi;rw[bM]at hi;obtain⟨q,rfl⟩:∃q,i=h.length+q:=⟨i-h.length,by omega⟩;rw[hρnew]
  cases hq:owned[q]? with
  |none=>rfl
  |some j=>
   exfalso
   have hlen:∀{us ws:List AV},jk hh (bJ vs) us=some ws->∀n,(bU n ws).2.length=(fy hh (bJ vs) us).length:=by
    intro us
    induction us with
    |nil=>intro ws hw n;simp only[jk,aj]at hw;subst hw;simp[bU,fy]
    |cons a us ih=>
     intro ws hw n;simp only[jk]at hw
     split at hw
     ·rename_i r rs' h1 h2;simp only[aj]at hw;subst hw
      cases ho:lF hh (bJ vs) a with
      |none=>
       simp only[bU,C0 (zn ho h1),ld,dq,ir,fy,uu,ho];exact ih h2 n
      |some i=>
       obtain⟨k,E,es,gr,rfl,_,_,_,h6⟩:=sI ho;rw[h1]at h6;simp only[aj]at h6;subst h6;simp only[fy]at ih;simp only[bU,dZ,qh,fy,uu,ho,b9];rw[ih h2]
     ·cases hw
   have:=hlen hr h.length;rw[hown]at this;have:=aV hq;omega
 ·intro b es ck hb
  have h1:g2.MM b=some (es,ck):=by rw[H2.iQ];exact hb
  refine⟨(H2.mm b es ck h1).1,?_⟩;intro i y hi
  rcases hcase hi with⟨_,h3⟩|⟨q,p,_,_,h4⟩
  ·exact(H.mm b es ck hb).2 i y h3
  ·exact(H2.mm b es ck h1).2 p y h4
 ·intro i b sz st o v hi hv
  rcases hcase hi with⟨h2,h3⟩|⟨q,p,rfl,h2,h4⟩
  ·have hb:=(H.own i b _ h3).2;have h5:=H2'.mK b o v _ hv (iW hb);obtain⟨k,E,es,gr,fl,h6,h7⟩:=H.d_ i b sz st o v h3 h5;exact⟨k,E,es,gr,fl,by rw[dz (aV h6)];exact h6,h7⟩
  ·exfalso;obtain⟨k,E,es,gr,fl,h6,h7⟩:=H2'.d_ p b sz st o v (by rw[hρ2];exact h4) hv;have hpm:p∈owned:=gX h2;rw[Kw _ _ (hnsh p hpm)]at h6;rw[<-hown]at hpm;obtain⟨_,k',E',es',gr',h8⟩:=Dt hpm;rw[h8]at h6
   cases h6
 ·intro i o hi
  by_cases hil:i<h.length
  ·rw[dz hil]at hi;exact mf hE (hρold i hil) (fun b y hb=>hheap b (H.own i b y hb).2) (H.ob i o hi)
  ·obtain⟨q,rfl⟩:∃q,i=h.length+q:=⟨i-h.length,by omega⟩;rw[dL (by omega),show h.length+q-h.length=q by omega]at hi;obtain⟨j,k,E,es,gr,h2,rfl,h4,h5⟩:=EX hr h.length q o hi;have hob:=H2.ob j _ h4;simp only[OV]at hob⊢;obtain⟨q1,q2,q3,q4,q5⟩:=hob;refine⟨q1,q2,q3,by simp,?_⟩;rw[hown]at h2;rw[hρnew,h2];simp only[jQ]
   have hgr:gr.getD 0=0:=by
    cases gr with
    |none=>rfl
    |some lo=>simp only[cy,aw,bd]at h5;simpa using h5.1
   cases hρj:g2.ρ j with
   |none=>rw[hρj]at q5;exact q5
   |some y=>
    obtain⟨b,sz,st⟩:=y;rw[hρj,hgr]at q5;simp only[rV]at q5⊢;obtain⟨h6,c,E',fz,ws,h7,h8,h9,h10,h11⟩:=q5;refine⟨h6,c,E',fz,ws,h7,h8,h9,?_,h11⟩;rw[iu]at h10⊢;exact fo x0 (iw (q3 (by trivial))) (fo (x.mono (wS _)) (iw (q3 (by trivial))) h10)
 ·intro n a hn;obtain⟨h1,ws,h2,h3⟩:=H.ke n a hn;exact⟨h1,ws,cp hE (dh h2) h2,fun j hj=>hMall _ _ _ (h3 j hj)⟩
 ·intro b o v B hv hB;exact H.mK b o v B (H2'.mK b o v B hv (H.fU b B hB)) hB
end
section
variable{P:Program}{Γ:Nat->Option AV}
theorem YQ{N:Env}{g g2:G}{h hh:List Ob}{w w2:World}(H:Inv P Γ N g h w)(H2:Inv P Γ {K:=fun b=>w.heap[b]?,M0:=g.M,MM:=g.MM,w0:=w} g2 hh w2)(hM:∀b o v,g.M b o=some v->g2.M b o=some v){v r:AV}{u:Value}(hv:V g2 hh v u)(hr:rG hh v=some r):
 ∃g3,rn r=true/\Inv P Γ N g3 (h++(dE h.length r).2) w2/\V g3 (h++(dE h.length r).2) (dE h.length r).1 u/\(∀i,i<h.length->g3.ρ i=g.ρ i)/\
  (∀b o v,g.M b o=some v->g3.M b o=some v)/\(∀b,b<w.heap.size->w2.heap[b]? =w.heap[b]?):=by
 by_cases ht:∃vs,v=.aG vs
 ·obtain⟨vs,rfl⟩:=ht;simp only[rG,bO]at hr;obtain⟨rs,hr,rfl⟩:=hr;simp only[V]at hv;obtain⟨us,rfl,hv⟩:=hv;obtain⟨g3,h1,h2,h3,h4⟩:=Ey H H2 hM hv hr;exact⟨g3,h1,h2,by simp only[dE,V];exact⟨us,rfl,h3⟩,h4⟩
 ·have hr2:oe hh (rowsOf v) v=some r:=by
   cases v<;>first|exact hr|exact absurd ⟨_,rfl⟩ ht
  have hrt:∀vs,r≠.aG vs:=by
   rintro vs rfl
   cases hown:lF hh (rowsOf v) v with
   |some i=>
    obtain⟨k,E,es,gr,rfl,_,_,_,h6⟩:=sI hown;rw[hr2]at h6
    cases h6
   |none=>
    rcases Dw hown hr2 with⟨h1,f,k,es,rfl⟩|hvw
    ·cases h1
    ·cases v<;>simp[view]at hvw
     all_goals first
      |exact ht ⟨_,rfl⟩
      |(split at hvw<;>cases hvw)
  have hl:jk hh (bJ [v]) [v]=some [r]:=by
   simp[jk,bJ,hr2]
  have hvl:VL g2 hh [v] [u]:=by simp only[VL];exact⟨u,[],rfl,hv,rfl⟩
  obtain⟨g3,h1,h2,h3,h4⟩:=Ey H H2 hM hvl hl
  have hun:dE h.length r=dZ h.length r:=by cases r<;>first|rfl|exact absurd rfl (hrt _)
  have htr:rn r=ox r:=by cases r<;>first|rfl|exact absurd rfl (hrt _)
  have hol:(bU h.length [r]).2=(dZ h.length r).2:=by simp[bU]
  have hov:(bU h.length [r]).1=[(dZ h.length r).1]:=by simp[bU]
  rw[hol]at h2 h3;rw[hov]at h3;rw[hun,htr];simp only[VL]at h3;obtain⟨u',us',h5,h6,rfl⟩:=h3
  cases h5
  refine⟨g3,?_,h2,h6,h4⟩;simpa[oi]using h1
theorem aS.wH{f:FuncId}{as:List AV}{r:AV}(hb:au P f=true)(hr:∀(N:Env)(g0:G)(f0:FuncId)(cs0:List Frame)(m:Machine),cR P Γ N g0 f0 cs0 (.cl f as [] []) m->∃m' v hh,Steps P m m'/\cR P Γ N g0 f0 cs0 (.back [] v hh) m'/\rG hh v=some r):aS P Γ f as r:=by
 refine⟨hb,fun hbel N g h w us H hV cs=>?_⟩;have hz:Ext 0 g h {ρ:=fun _=>none,M:=g.M,MM:=g.MM} []:=Ext.zero (fun _ _ _ x=>x) (fun _ _ x=>x)
 have H0:Inv P Γ {K:=fun b=>w.heap[b]?,M0:=g.M,MM:=g.MM,w0:=w} {ρ:=fun _=>none,M:=g.M,MM:=g.MM} [] w:=by
  refine⟨rfl,rfl,rfl,fun b o hb=>hb,fun i b x hi=>(by cases hi),fun i j b x y hi=>(by cases hi),fun _ _=>rfl,H.mem,fun b es ck hb=>⟨(H.mm b es ck hb).1,fun i x hi=>(by cases hi)⟩,
   fun i b sz st o v hi=>(by cases hi),fun i o hi=>(by simp at hi),?_,fun b o v B hv _=>hv,rfl⟩
  intro n a hn;obtain⟨h1,vs,h2,h3⟩:=H.ke n a hn;exact⟨h1,vs,cp hz h1 h2,h3⟩
 have hs:cR P Γ {K:=fun b=>w.heap[b]?,M0:=g.M,MM:=g.MM,w0:=w} {ρ:=fun _=>none,M:=g.M,MM:=g.MM} f cs (.cl f as [] []) (lone (Frame.enter P f us.toArray .normal) ([]++cs) w):=
  ⟨_,w,us.toArray,[],rfl,H0,fun _ _ _ x=>x,by simpa using cp hz hbel hV,hb,rfl,fun _=>rfl⟩
 obtain⟨m',v,hh,steps,⟨g2,w2,u,fr,rfl,H2,hM,hv,hfn,hleave⟩,hres⟩:=hr _ _ _ _ _ hs
 ·obtain⟨g3,h1,h2,h3,h4,h5,h6⟩:=YQ H H2 hM hv hres;exact⟨.returned u,w2,fr,⟨u,g3,rfl,h1,h2,h3,h4,h5,h6⟩,steps,hfn,hleave⟩
theorem kM.wH{f:FuncId}{as:List AV}{v:AV}(hb:au P f=true)(hr:∀(N:Env)(g0:G)(f0:FuncId)(cs0:List Frame)(m:Machine),cR P Γ N g0 f0 cs0 (.cl f as [] []) m->∃m' hh,Steps P m m'/\cR P Γ N g0 f0 cs0 (.die [] v hh) m')(hbv:aF 0 v=true)(hnv:dS v=true):kM P Γ f as v:=by
 refine⟨hb,hbv,hnv,fun hbel N g h w us H hV cs=>?_⟩;have hz:Ext 0 g h {ρ:=fun _=>none,M:=g.M,MM:=g.MM} []:=Ext.zero (fun _ _ _ x=>x) (fun _ _ x=>x)
 have H0:Inv P Γ {K:=fun b=>w.heap[b]?,M0:=g.M,MM:=g.MM,w0:=w} {ρ:=fun _=>none,M:=g.M,MM:=g.MM} [] w:=by
  refine⟨rfl,rfl,rfl,fun b o hb=>hb,fun i b x hi=>(by cases hi),fun i j b x y hi=>(by cases hi),fun _ _=>rfl,H.mem,fun b es ck hb=>⟨(H.mm b es ck hb).1,fun i x hi=>(by cases hi)⟩,
   fun i b sz st o v hi=>(by cases hi),fun i o hi=>(by simp at hi),?_,fun b o v B hv _=>hv,rfl⟩
  intro n a hn;obtain⟨h1,vs,h2,h3⟩:=H.ke n a hn;exact⟨h1,vs,cp hz h1 h2,h3⟩
 have hs:cR P Γ {K:=fun b=>w.heap[b]?,M0:=g.M,MM:=g.MM,w0:=w} {ρ:=fun _=>none,M:=g.M,MM:=g.MM} f cs (.cl f as [] []) (lone (Frame.enter P f us.toArray .normal) ([]++cs) w):=
  ⟨_,w,us.toArray,[],rfl,H0,fun _ _ _ x=>x,by simpa using cp hz hbel hV,hb,rfl,fun _=>rfl⟩
 obtain⟨m',hh,steps,⟨g2,w2,u,fr,rfl,H2,hM,hv,hfn,hleave⟩⟩:=hr _ _ _ _ _ hs;obtain⟨g3,_,h2,_,h4,h5,h6⟩:=Ey (vs:=[]) (rs:=[]) (us:=[]) H H2 hM (by simp[VL]) (by simp[jk]);simp only[bU,fM]at h2;exact⟨_,w2,fr,⟨u,g3,rfl,h2,rq hbv hnv hv,h4,h5,h6⟩,steps,hfn,hleave⟩
theorem aS.of{f:FuncId}{as:List AV}{v r:AV}{hh:List Ob}(hb:au P f=true)(hr:Reach P Γ (.cl f as [] []) (.back [] v hh))(hres:rG hh v=some r):aS P Γ f as r:=
 .wH hb fun _ _ _ _ m hm=>by
  obtain⟨m',h1,h2⟩:=y3 hr m hm;exact⟨m',v,hh,h1,h2,hres⟩
theorem kM.of{f:FuncId}{as:List AV}{v:AV}{hh:List Ob}(hb:au P f=true)(hr:Reach P Γ (.cl f as [] []) (.die [] v hh))(hbv:aF 0 v=true)(hnv:dS v=true):kM P Γ f as v:=
 .wH hb (fun _ _ _ _ m hm=>by
  obtain⟨m',h1,h2⟩:=y3 hr m hm
  exact⟨m',hh,h1,h2⟩) hbv hnv
end
end Go.AM
namespace Go.AM
def Fv(P:Program)(Γ:Nat->Option AV):Nat->ar->ar
 |0,c=>c
 |n+1,c=>Fv P Γ n (eS P Γ c)
theorem Reach.steps{P:Program}{Γ:Nat->Option AV}:∀(n:Nat)(c:ar),Reach P Γ c (Fv P Γ n c)
 |0,c=>.refl c
 |n+1,c=>.trans (.step c) (Reach.steps n _)
def eN(P:Program)(Γ:Nat->Option AV):ar->ar
 |.fr f up h=>match f.md with
  |.run=>match f.its with
   |.code (.loop m b)::k=>.fr {f with its:=.code (.loop m b)::k} up h
   |.inLoop m b::k=>.fr {f with its:=.inLoop m b::k} up h
   |.code (.aQ l ws gs)::k=>.fr {f with its:=.code (.aQ l ws gs)::k} up h
   |its=>gN P Γ f up h its
  |_=>mj P Γ f up h
 |.cl g args up h=>.cl g args up h
 |.back (c::up) v h=>match c.finish v with
  |some c'=>.fr c' up h
  |none=>.bad
 |.back [] v h=>.back [] v h
 |.die (c::up) v h=>match c.md with
  |.run=>.fr {c with md:=.cX v false} up h
  |_=>.bad
 |.die [] v h=>.die [] v h
 |.bad=>.bad
theorem Y_(P:Program)(Γ:Nat->Option AV)(c:ar):eN P Γ c=c\/eN P Γ c=eS P Γ c:=by
 cases c with
 |fr f up h=>
  obtain⟨md,fn,its,t,ds,kind,base⟩:=f
  cases md with
  |run=>
   simp only[eN,eS]
   split<;>first|exact Or.inl rfl|exact Or.inr rfl
  |ret=>exact Or.inr rfl
  |cX v rc=>exact Or.inr rfl
 |cl g args up h=>exact Or.inl rfl
 |back up v h=>cases up<;>exact Or.inr rfl
 |die up v h=>cases up<;>exact Or.inr rfl
 |bad=>exact Or.inl rfl
def oG(P:Program)(Γ:Nat->Option AV):Nat->ar->ar
 |0,c=>c
 |n+1,c=>oG P Γ n (eN P Γ c)
theorem Reach.oG{P:Program}{Γ:Nat->Option AV}:∀(n:Nat)(c:ar),Reach P Γ c (oG P Γ n c)
 |0,c=>.refl c
 |n+1,c=>by
  refine .trans ?_ (Reach.oG n _)
  rcases Y_ P Γ c with h|h
  ·rw[h];exact .refl c
  ·rw[h];exact .step c
theorem Reach.on{P:Program}{Γ:Nat->Option AV}(n:Nat){c c':ar}(h:Reach P Γ (AM.oG P Γ n c) c'):Reach P Γ c c':=.trans (Reach.oG n c) h
theorem Reach.one{P:Program}{Γ:Nat->Option AV}{c c':ar}(h:Reach P Γ (eS P Γ c) c'):Reach P Γ c c':=.trans (.step c) h
section
variable{P:Program}{Γ:Nat->Option AV}{md:Md}{fn:FuncId}{its k:List It}{t:List AV}{ds:List da}{kind:FK}{base:Nat}{up:List Fr}{h:List Ob}
theorem Yb{c:ar}:oG P Γ 0 c=c:=rfl
theorem Xq{n:Nat}{c:ar}:oG P Γ (n+1) c=oG P Γ n (eN P Γ c):=rfl
end
section
variable{P:Program}{Γ:Nat->Option AV}{fn:FuncId}{k:List It}{t:List AV}{ds:List da}{kind:FK}{base:Nat}{up:List Fr}{h:List Ob}
theorem acj:eN P Γ (.fr ⟨.run,fn,.code .skip::k,t,ds,kind,base⟩ up h)=.fr ⟨.run,fn,k,t,ds,kind,base⟩ up h:=rfl
theorem adu{os:List AG}:eN P Γ (.fr ⟨.run,fn,.code (.ae os)::k,t,ds,kind,base⟩ up h)=.fr ⟨.run,fn,.ops os::k,t,ds,kind,base⟩ up h:=rfl
theorem ac8{a b:ah}:eN P Γ (.fr ⟨.run,fn,.code (.seq a b)::k,t,ds,kind,base⟩ up h)=.fr ⟨.run,fn,.code a::.code b::k,t,ds,kind,base⟩ up h:=rfl
theorem abV{x:AX}{a b:ah}:eN P Γ (.fr ⟨.run,fn,.code (.cond x a b)::k,t,ds,kind,base⟩ up h)=(match ax t x with
 |.bool v=>.fr ⟨.run,fn,.code (if v then a else b)::k,t,ds,kind,base⟩ up h
 |_=>.bad):=rfl
theorem abw{id:Nat}{m:List Bool}{b:ah}:eN P Γ (.fr ⟨.run,fn,.code (.block id m b)::k,t,ds,kind,base⟩ up h)=.fr ⟨.run,fn,.code b::.inBlock id m::k,t,ds,kind,base⟩ up h:=rfl
theorem Xs{id:Nat}{m:List Bool}:eN P Γ (.fr ⟨.run,fn,.inBlock id m::k,t,ds,kind,base⟩ up h)=.fr ⟨.run,fn,k,c9 m t,ds,kind,base⟩ up h:=rfl
theorem ab0{id:Nat}:eN P Γ (.fr ⟨.run,fn,.code (.exit id)::k,t,ds,kind,base⟩ up h)=(match m9 id k with
 |some (k',m)=>.fr ⟨.run,fn,k',c9 m t,ds,kind,base⟩ up h
 |none=>leave ⟨.run,fn,.code (.exit id)::k,t,ds,kind,base⟩ up h (.exit id)):=rfl
theorem ade:eN P Γ (.fr ⟨.run,fn,.code .ret::k,t,ds,kind,base⟩ up h)=leave ⟨.run,fn,.code .ret::k,t,ds,kind,base⟩ up h .ret:=rfl
theorem adk:eN P Γ (.fr ⟨.run,fn,[],t,ds,kind,base⟩ up h)=leave ⟨.run,fn,[],t,ds,kind,base⟩ up h .none:=rfl
theorem ab9:eN P Γ (.fr ⟨.run,fn,.ops []::k,t,ds,kind,base⟩ up h)=.fr ⟨.run,fn,k,t,ds,kind,base⟩ up h:=rfl
theorem adI{d:Option Nat}{o:AO}{os:List AG}:eN P Γ (.fr ⟨.run,fn,.ops (⟨d,none,o⟩::os)::k,t,ds,kind,base⟩ up h)=
 fg P ⟨.run,fn,.ops (⟨d,none,o⟩::os)::k,t,ds,kind,base⟩ up h ⟨d,none,o⟩ os k (ay P Γ t h o):=rfl
theorem adm{d:Option Nat}{j:Nat}{b:Bool}{o:AO}{os:List AG}:eN P Γ (.fr ⟨.run,fn,.ops (⟨d,some (j,b),o⟩::os)::k,t,ds,kind,base⟩ up h)=(match dt t (some (j,b))with
 |some true=>fg P ⟨.run,fn,.ops (⟨d,some (j,b),o⟩::os)::k,t,ds,kind,base⟩ up h ⟨d,some (j,b),o⟩ os k (ay P Γ t h o)
 |some false=>.fr ⟨.run,fn,.ops os::k,aX t d (.aG []),ds,kind,base⟩ up h
 |none=>.bad):=rfl
theorem acd{m:List Bool}{b:ah}:eN P Γ (.fr ⟨.run,fn,.code (.loop m b)::k,t,ds,kind,base⟩ up h)=.fr ⟨.run,fn,.code (.loop m b)::k,t,ds,kind,base⟩ up h:=rfl
theorem YM{m:List Bool}{b:ah}:eN P Γ (.fr ⟨.run,fn,.inLoop m b::k,t,ds,kind,base⟩ up h)=.fr ⟨.run,fn,.inLoop m b::k,t,ds,kind,base⟩ up h:=rfl
theorem abL{l:List Bool}{ws:List Nat}{gs:List AG}:eN P Γ (.fr ⟨.run,fn,.code (.aQ l ws gs)::k,t,ds,kind,base⟩ up h)=.fr ⟨.run,fn,.code (.aQ l ws gs)::k,t,ds,kind,base⟩ up h:=rfl
theorem adl:eN P Γ (.fr ⟨.ret,fn,k,t,ds,kind,base⟩ up h)=mj P Γ ⟨.ret,fn,k,t,ds,kind,base⟩ up h:=rfl
theorem adT{g:FuncId}{args:List AV}:eN P Γ (.cl g args up h)=.cl g args up h:=rfl
theorem abG{c:Fr}{v:AV}:eN P Γ (.back (c::up) v h)=(match c.finish v with
 |some c'=>.fr c' up h
 |none=>.bad):=rfl
theorem abz{v:AV}:eN P Γ (.back [] v h)=.back [] v h:=rfl
theorem MW{m:List Bool}{b:ah}{c:ar}(h1:Reach P Γ (.fr ⟨.run,fn,.code b::.inLoop m b::k,c9 m t,ds,kind,base⟩ up h) c):Reach P Γ (.fr ⟨.run,fn,.code (.loop m b)::k,t,ds,kind,base⟩ up h) c:=.one h1
theorem MD{m:List Bool}{b:ah}{c:ar}(h1:Reach P Γ (.fr ⟨.run,fn,.code b::.inLoop m b::k,c9 m t,ds,kind,base⟩ up h) c):Reach P Γ (.fr ⟨.run,fn,.inLoop m b::k,t,ds,kind,base⟩ up h) c:=.one h1
theorem Reach.Hf{f:FuncId}{args as:List AV}{r:AV}{c:ar}(h1:bP h args=some as)(h2:aS P Γ f as r)(h3:Reach P Γ (.back up (dE h.length r).1 (fP h args r)) c):Reach P Γ (.cl f args up h) c:=.trans (.pure h1 h2) h3
theorem vy{f:FuncId}{F:aB}(hF:aA P f=some F)(as:List AV){c:ar}(h1:Reach P Γ (.fr ⟨.run,f,[.code F.body],as++List.replicate (F.nt-as.length) .undef,[],.norm,h.length⟩ up h) c):Reach P Γ (.cl f as up h) c:=by
 refine .one ?_;simp only[eS,hF,enter];exact h1
end
def slot(t:List AV)(i:Nat):AV:=t.getD i .undef
@[simp] theorem axg(a:AV)(l:List AV):slot (a::l) 0=a:=rfl
@[simp] theorem awY(a:AV)(l:List AV)(n:Nat):slot (a::l) (n+1)=slot l n:=rfl
@[simp] theorem ayG(t:List AV)(i:Nat):ax t (.t i)=slot t i:=rfl
@[simp] theorem ayN(t:List AV)(v:AV):ax t (.c v)=v:=rfl
@[simp] theorem ayM(t:List AV)(n:Nat):ax t (.g n)=.dR n 0:=rfl
@[simp] theorem ayI(t:List AV)(n:Nat):ax t (.f n)=.fn (.func n) [] []:=rfl
@[simp] theorem U9(t:List AV):dt t none=some true:=rfl
@[simp] theorem awq(t:List AV)(j:Nat)(b:Bool):dt t (some (j,b))=(match slot t j with
  |.bool x=>some (x==b)
  |.aG []=>some false
  |_=>none):=rfl
@[simp] theorem awG(Γ:Nat->Option AV)(t:List AV)(h:List Ob)(i:Nat):ta Γ t h (.tmp i)=some (slot t i):=rfl
@[simp] theorem awe(Γ:Nat->Option AV)(t:List AV)(h:List Ob)(a sz:Nat)(g:Bool):ta Γ t h (.cell a g sz)=oA Γ h g sz (slot t a):=rfl
@[simp] theorem aw8(s:SK)(x y:AV):bX (.sc s) x y=ez s x y:=rfl
@[simp] theorem avo(t:TypeId)(v:AV):bX .iface .eb (.bS t v)=some false:=rfl
@[simp] theorem avn(t:TypeId)(v:AV):bX .iface (.bS t v) .eb=some false:=rfl
@[simp] theorem awp:bX .nil .db .db=some true:=rfl
@[simp] theorem awr(f:Fn)(a b:List AV):bX .nil .db (.fn f a b)=some false:=rfl
@[simp] theorem awi(f:Fn)(a b:List AV):bX .nil (.fn f a b) .db=some false:=rfl
attribute [simp] mu enter tF gE calm df Yb Xq acj adu ac8 abV abw Xs ab0 ade adk ab9 adI adm acd YM abL adl adT abG abz ay aX leave mj zC qR oA tr bU dZ dE rl AV.cells AV.ok over lB bQ AV.one m9 c9 Fr.finish tq jB elems nj cy gv bound bP view rG oe jk fP dS ei share iz rowsOf bJ mX my cd aF aI eM
@[simp] theorem axt(k:IntKind)(x y:Int):fV .add k x y=some (k.wrap (x+y)):=rfl
@[simp] theorem axF(k:IntKind)(x y:Int):fV .sub k x y=some (k.wrap (x-y)):=rfl
@[simp] theorem axs(k:IntKind)(x y:Int):fV .mul k x y=some (k.wrap (x*y)):=rfl
@[simp low] theorem axA(k:IntKind)(x y:Int):fV .quo k x y=if y=0 then none else some (k.wrap (x.tdiv y)):=rfl
@[simp low] theorem axG(k:IntKind)(x y:Int):fV .rem k x y=if y=0 then none else some (x.tmod y):=rfl
@[simp low] theorem axR(k:IntKind)(x y:Int):fV .shr k x y=if y<0 then none else some (x.fdiv (2^(min y.toNat k.bits))):=rfl
@[simp low] theorem axz(k:IntKind)(x y:Int):fV .shl k x y=if y<0 then none else some (k.wrap (x*2^(min y.toNat k.bits))):=rfl
@[simp] theorem axr(a b:Int):lP .eql a b=decide (a=b):=by rw[fN];simp[lP]
@[simp] theorem axL(a b:Int):lP .neq a b=!decide (a=b):=by rw[fN];simp[lP]
@[simp] theorem axV(a b:Int):lP .lss a b=decide (a<b):=rfl
@[simp] theorem axY(a b:Int):lP .leq a b=decide (a<=b):=rfl
@[simp] theorem axu(a b:Int):lP .gtr a b=decide (b<a):=rfl
@[simp] theorem axQ(a b:Int):lP .geq a b=decide (b<=a):=rfl
@[simp] theorem axc(k:IntKind)(a b:Int):ez .int (.int k a) (.int k b)=some (decide (a=b)):=by simp only[ez,cu,aj];rw[fN];simp
@[simp] theorem aw6(a b:List UInt8):ez .str (.str a) (.str b)=some (decide (a=b)):=by simp only[ez,aj];rw[fN];simp
@[simp] theorem awK(a b:Bool):ez .bool (.bool a) (.bool b)=some (decide (a=b)):=by simp only[ez,aj];rw[fN];simp
theorem acG{c d:UInt8}{m:Int}(h:(d.toNat:Int)=m):((c.toNat:Int)=m)↔c=d:=by
 subst h;rw[Int.ofNat_inj];exact⟨fun e=>Ig.1 e,fun e=>by rw[e]⟩
@[simp] theorem ac2{c d:UInt8}:((c.toNat:Int)=(d.toNat:Int))↔c=d:=acG rfl
theorem vv{m:Int}(h0:0<=m)(h1:m<256):((UInt8.ofNat m.toNat).toNat:Int)=m:=by
 rw[UInt8.toNat_ofNat_of_lt' (by simp[UInt8.size];omega)];omega
@[simp] theorem axn(c:UInt8)(m:Int)(h0:0<=m)(h1:m<256):((c.toNat:Int)=m)↔c=UInt8.ofNat m.toNat:=by rw[<-ac2,vv h0 h1]
@[simp] theorem N2{c d:UInt8}:((c.toNat:Int)<(d.toNat:Int))↔c<d:=by rw[Int.ofNat_lt];exact nO
@[simp] theorem NV{c d:UInt8}:((c.toNat:Int)<=(d.toNat:Int))↔c<=d:=by rw[Int.ofNat_le];exact nO
@[simp] theorem axe(c:UInt8)(m:Int)(h0:0<=m)(h1:m<256):((c.toNat:Int)<m)↔c<UInt8.ofNat m.toNat:=by rw[<-N2,vv h0 h1]
@[simp] theorem aw9(c:UInt8)(m:Int)(h0:0<=m)(h1:m<256):((c.toNat:Int)<=m)↔c<=UInt8.ofNat m.toNat:=by rw[<-NV,vv h0 h1]
@[simp] theorem axq(c:UInt8)(m:Int)(h0:0<=m)(h1:m<256):(m<(c.toNat:Int))↔UInt8.ofNat m.toNat<c:=by rw[<-N2,vv h0 h1]
@[simp] theorem awT(c:UInt8)(m:Int)(h0:0<=m)(h1:m<256):(m<=(c.toNat:Int))↔UInt8.ofNat m.toNat<=c:=by rw[<-NV,vv h0 h1]
@[simp] theorem ayu{c d:UInt8}:(c.toNat=d.toNat)↔c=d:=Ig
theorem wrap64{n:Int}(h1:-2^62<=n)(h2:n<=2^62):IntKind.i64.wrap n=n:=by
 rw[IntKind.wrap_i64];omega
abbrev o(d:Nat)(x:AO):AG:=⟨some d,none,x⟩
abbrev q(x:AO):AG:=⟨none,none,x⟩
abbrev oy(d j:Nat)(x:AO):AG:=⟨some d,some (j,true),x⟩
abbrev on(d j:Nat)(x:AO):AG:=⟨some d,some (j,false),x⟩
abbrev I:Bool:=true
abbrev O:Bool:=false
abbrev U:AV:=.undef
structure Cx where
 ds:List da
 kind:FK
 base:Nat
 up:List Fr
abbrev cx:Cx:=⟨[],.norm,0,[]⟩
abbrev bl(fn:FuncId)(its:List It)(t:List AV)(h:List Ob)(e:Cx):ar:=.fr ⟨.run,fn,its,t,e.ds,e.kind,e.base⟩ e.up h
@[simp] def tight:List Bool->List AG->Bool
 |_,[]=>true
 |false::l,_::os=>tight l os
 |_,_=>false
def runN(P:Program)(Γ:Nat->Option AV):List AG->List AV->List Ob->Option (List AV×List Ob)
 |[],t,h=>some (t,h)
 |o::os,t,h=>
  match dt t o.guard with
  |some true=>match ay P Γ t h o.op with
   |.val v h'=>runN P Γ os (aX t o.dst v) h'
   |.skip h'=>runN P Γ os (aX t o.dst (.aG [])) h'
   |_=>none
  |some false=>runN P Γ os (aX t o.dst (.aG [])) h
  |none=>none
theorem Ai{P:Program}{Γ:Nat->Option AV}:∀{gs:List AG}{t:List AV}{h:List Ob}{p:List AV×List Ob},runN P Γ gs t h=some p->∃hs,gE P Γ [] gs t h=some (p.1,p.2,[],hs)
 |[],t,h,p,hr=>by simp only[runN,aj]at hr;subst hr;exact⟨[],rfl⟩
 |o::os,t,h,p,hr=>by
  unfold runN at hr;unfold gE
  cases hw:dt t o.guard with
  |none=>rw[hw]at hr;cases hr
  |some b=>
   rw[hw]at hr
   cases b with
   |false=>
    simp only at hr⊢;obtain⟨hs,h1⟩:=Ai hr;exact⟨_,by rw[h1];rfl⟩
   |true=>
    simp only at hr⊢
    cases ha:ay P Γ t h o.op with
    |val v h'=>
     rw[ha]at hr;simp only at hr⊢;obtain⟨hs,h1⟩:=Ai hr;exact⟨_,by rw[h1];rfl⟩
    |skip h'=>
     rw[ha]at hr;simp only at hr⊢;obtain⟨hs,h1⟩:=Ai hr;exact⟨_,by rw[h1];rfl⟩
    |_=>rw[ha]at hr;simp at hr
def wu(P:Program)(Γ:Nat->Option AV)(os:List AG)(d:Option Nat)(t:List AV):R->Option (List AV×List Ob)
 |.val v h'=>runN P Γ os (aX t d v) h'
 |.skip h'=>runN P Γ os (aX t d (.aG [])) h'
 |_=>none
def pQ(P:Program)(Γ:Nat->Option AV)(l:List Bool)(gs:List AG)(t:List AV)(h:List Ob):Option (List AV×List Ob):=
 if tight l gs=true then runN P Γ gs t h else none
def stepG(P:Program)(Γ:Nat->Option AV)(st:Nat):ar->ar
 |.fr f up h=>match f.md with
  |.run=>match f.its with
   |.code (.loop m b)::k=>.fr {f with its:=.code (.loop m b)::k} up h
   |.inLoop m b::k=>.fr {f with its:=.inLoop m b::k} up h
   |.code (.aQ l ws gs)::k=>match pQ P Γ l gs f.t h with
    |some p=>.fr {f with its:=k,t:=p.1} up p.2
    |none=>.fr {f with its:=.code (.aQ l ws gs)::k} up h
   |.code (.ea as gs)::k=>.fr {f with its:=.code (.ea as gs)::k} up h
   |.code (.exit id)::k=>match m9 id k with
    |some (k',m)=>if st==1&&!m.isEmpty then .fr {f with its:=.code (.exit id)::k} up h else .fr {f with its:=k',t:=c9 m f.t} up h
    |none=>leave f up h (.exit id)
   |its=>gN P Γ f up h its
  |_=>mj P Γ f up h
 |.cl g args up h=>.cl g args up h
 |.back (c::up) v h=>if st==2 then .back (c::up) v h else match c.finish v with
  |some c'=>.fr c' up h
  |none=>.bad
 |.back [] v h=>.back [] v h
 |.die (c::up) v h=>if st==2 then .die (c::up) v h else match c.md with
  |.run=>.fr {c with md:=.cX v false} up h
  |_=>.bad
 |.die [] v h=>.die [] v h
 |.bad=>.bad
theorem tn{P:Program}{Γ:Nat->Option AV}{obls:List fJ}{hs:List (List Ob)}:∀{gs:List AG}{l:List Bool}{ws:List Nat}{orc:List (AV×List Ob)}{t:List AV}{h:List Ob}{x},tight l gs=true->gE P Γ orc gs t h=some x->calm P Γ obls hs l ws orc gs t h
 |[],_,_,_,_,_,_,_,_=>trivial
 |o::os,[],ws,orc,t,h,x,hl,hr=>by simp[tight]at hl
 |o::os,true::l,ws,orc,t,h,x,hl,hr=>by simp[tight]at hl
 |o::os,false::l,ws,orc,t,h,x,hl,hr=>by
  simp only[tight]at hl;unfold calm;unfold gE at hr
  split at hr
  ·split at hr
   ·rename_i v h' ha;rw[bO]at hr;obtain⟨y,hy,_⟩:=hr;exact⟨fun hb=>(by cases hb),tn hl hy⟩
   ·rename_i h' ha;rw[bO]at hr;obtain⟨y,hy,_⟩:=hr;exact tn hl hy
   ·rename_i f args ha
    split at hr
    ·cases hr
    ·split at hr
     ·rw[bO]at hr;obtain⟨y,hy,_⟩:=hr;exact⟨fun hb=>(by cases hb),tn hl hy⟩
     ·cases hr
   ·split at hr
    ·rw[bO]at hr;obtain⟨y,hy,_⟩:=hr;exact⟨rfl,tn hl hy⟩
    ·cases hr
   ·cases hr
  ·rw[bO]at hr;obtain⟨y,hy,_⟩:=hr;exact tn hl hy
  ·cases hr
theorem Reach.stepG{P:Program}{Γ:Nat->Option AV}{st:Nat}(c:ar):Reach P Γ c (AM.stepG P Γ st c):=by
 cases c with
 |fr f up h=>
  obtain⟨md,fn,its,t,ds,kind,base⟩:=f
  cases md with
  |run=>
   simp only[AM.stepG]
   split
   ·exact .refl _
   ·exact .refl _
   ·rename_i l ws gs k
    split
    ·rename_i p hp;unfold pQ at hp
     split at hp
     ·rename_i ht;obtain⟨hs,hr⟩:=Ai hp;exact .aQ (f:=⟨.run,fn,.code (.aQ l ws gs)::k,t,ds,kind,base⟩) rfl rfl hr (fun _ ho=>ho) (by simp) (tn ht hr)
     ·cases hp
    ·exact .refl _
   ·exact .refl _
   ·rename_i id k
    split
    ·rename_i k' m he
     split
     ·exact .refl _
     ·refine .one ?_;simp only[eS,gN,he];exact .refl _
    ·rename_i he;refine .one ?_;simp only[eS,gN,he];exact .refl _
   ·exact .step _
  |ret=>exact .step _
  |cX v rc=>exact .step _
 |cl g args up h=>exact .refl _
 |back up v h=>
  cases up with
  |nil=>exact .refl _
  |cons c up=>simp only[AM.stepG];split<;>first|exact .refl _|exact .step _
 |die up v h=>
  cases up with
  |nil=>exact .refl _
  |cons c up=>simp only[AM.stepG];split<;>first|exact .refl _|exact .step _
 |bad=>exact .refl _
def go(P:Program)(Γ:Nat->Option AV)(st:Nat):Nat->ar->ar
 |0,c=>c
 |n+1,c=>go P Γ st n (stepG P Γ st c)
theorem Reach.goes{P:Program}{Γ:Nat->Option AV}{st:Nat}:∀(n:Nat)(c:ar),Reach P Γ c (AM.go P Γ st n c)
 |0,c=>.refl c
 |n+1,c=>.trans (.stepG c) (Reach.goes n _)
theorem Reach.go{P:Program}{Γ:Nat->Option AV}(n:Nat){c c':ar}(h:Reach P Γ (AM.go P Γ 0 n c) c'):Reach P Γ c c':=.trans (Reach.goes n c) h
theorem Reach.ba{P:Program}{Γ:Nat->Option AV}(n:Nat){c c':ar}(h:Reach P Γ (AM.go P Γ 2 n c) c'):Reach P Γ c c':=.trans (Reach.goes n c) h
def pop:ar->ar
 |.back (c::up) v h=>match c.finish v with
  |some c'=>.fr c' up h
  |none=>.bad
 |.die (c::up) v h=>match c.md with
  |.run=>.fr {c with md:=.cX v false} up h
  |_=>.bad
 |c=>c
@[simp] theorem axW{c:Fr}{up:List Fr}{v:AV}{h:List Ob}:pop (.back (c::up) v h)=(match c.finish v with
  |some c'=>.fr c' up h
  |none=>.bad):=(rfl)
@[simp] theorem ayh{c:Fr}{up:List Fr}{v:AV}{h:List Ob}:pop (.die (c::up) v h)=(match c.md with
  |.run=>.fr {c with md:=.cX v false} up h
  |_=>.bad):=(rfl)
theorem Reach.pop{P:Program}{Γ:Nat->Option AV}(c:ar):Reach P Γ c (AM.pop c):=by
 cases c with
 |back up v h=>cases up<;>first|exact .refl _|exact .step _
 |die up v h=>cases up<;>first|exact .refl _|exact .step _
 |_=>exact .refl _
theorem Reach.dK{P:Program}{Γ:Nat->Option AV}(n:Nat){c c':ar}(h:Reach P Γ (AM.go P Γ 1 n c) c'):Reach P Γ c c':=.trans (Reach.goes n c) h
section
variable{P:Program}{Γ:Nat->Option AV}{st:Nat}{n:Nat}{fn:FuncId}{k:List It}{t:List AV}{ds:List da}{kind:FK}{base:Nat}{up:List Fr}{h h':List Ob}
theorem ll{c:ar}(hc:stepG P Γ st c=c):∀n,go P Γ st n c=c
 |0=>rfl
 |n+1=>by rw[go,hc];exact ll hc n
@[simp] theorem ayn:go P Γ st (n+1) (.fr ⟨.run,fn,.code .skip::k,t,ds,kind,base⟩ up h)=go P Γ st n (.fr ⟨.run,fn,k,t,ds,kind,base⟩ up h):=(rfl)
@[simp] theorem ayC{os:List AG}:go P Γ st (n+1) (.fr ⟨.run,fn,.code (.ae os)::k,t,ds,kind,base⟩ up h)=go P Γ st n (.fr ⟨.run,fn,.ops os::k,t,ds,kind,base⟩ up h):=(rfl)
@[simp] theorem ayt{a b:ah}:go P Γ st (n+1) (.fr ⟨.run,fn,.code (.seq a b)::k,t,ds,kind,base⟩ up h)=go P Γ st n (.fr ⟨.run,fn,.code a::.code b::k,t,ds,kind,base⟩ up h):=(rfl)
@[simp] theorem ayj{x:AX}{a b:ah}:go P Γ st (n+1) (.fr ⟨.run,fn,.code (.cond x a b)::k,t,ds,kind,base⟩ up h)=go P Γ st n (match ax t x with
  |.bool v=>.fr ⟨.run,fn,.code (if v then a else b)::k,t,ds,kind,base⟩ up h
  |_=>.bad):=(rfl)
@[simp] theorem axI{id:Nat}{m:List Bool}{b:ah}:go P Γ st (n+1) (.fr ⟨.run,fn,.code (.block id m b)::k,t,ds,kind,base⟩ up h)=go P Γ st n (.fr ⟨.run,fn,.code b::.inBlock id m::k,t,ds,kind,base⟩ up h):=(rfl)
@[simp] theorem awA{id:Nat}{m:List Bool}:go P Γ st (n+1) (.fr ⟨.run,fn,.inBlock id m::k,t,ds,kind,base⟩ up h)=go P Γ st n (.fr ⟨.run,fn,k,c9 m t,ds,kind,base⟩ up h):=(rfl)
@[simp] theorem ax5{id:Nat}:go P Γ st (n+1) (.fr ⟨.run,fn,.code (.exit id)::k,t,ds,kind,base⟩ up h)=go P Γ st n (match m9 id k with
  |some (k',m)=>if st==1&&!m.isEmpty then .fr ⟨.run,fn,.code (.exit id)::k,t,ds,kind,base⟩ up h else .fr ⟨.run,fn,k',c9 m t,ds,kind,base⟩ up h
  |none=>leave ⟨.run,fn,.code (.exit id)::k,t,ds,kind,base⟩ up h (.exit id)):=(rfl)
@[simp] theorem ayD:go P Γ st (n+1) (.fr ⟨.run,fn,.code .ret::k,t,ds,kind,base⟩ up h)=go P Γ st n (leave ⟨.run,fn,.code .ret::k,t,ds,kind,base⟩ up h .ret):=(rfl)
@[simp] theorem ayz:go P Γ st (n+1) (.fr ⟨.run,fn,[],t,ds,kind,base⟩ up h)=go P Γ st n (leave ⟨.run,fn,[],t,ds,kind,base⟩ up h .none):=(rfl)
@[simp] theorem ayo:go P Γ st (n+1) (.fr ⟨.run,fn,.ops []::k,t,ds,kind,base⟩ up h)=go P Γ st n (.fr ⟨.run,fn,k,t,ds,kind,base⟩ up h):=(rfl)
@[simp] theorem acK{d:Option Nat}{o:AO}{os:List AG}:go P Γ st (n+1) (.fr ⟨.run,fn,.ops (⟨d,none,o⟩::os)::k,t,ds,kind,base⟩ up h)=
  go P Γ st n (fg P ⟨.run,fn,.ops (⟨d,none,o⟩::os)::k,t,ds,kind,base⟩ up h ⟨d,none,o⟩ os k (ay P Γ t h o)):=(rfl)
@[simp] theorem ayB{d:Option Nat}{j:Nat}{b:Bool}{o:AO}{os:List AG}:go P Γ st (n+1) (.fr ⟨.run,fn,.ops (⟨d,some (j,b),o⟩::os)::k,t,ds,kind,base⟩ up h)=go P Γ st n (match dt t (some (j,b))with
  |some true=>fg P ⟨.run,fn,.ops (⟨d,some (j,b),o⟩::os)::k,t,ds,kind,base⟩ up h ⟨d,some (j,b),o⟩ os k (ay P Γ t h o)
  |some false=>.fr ⟨.run,fn,.ops os::k,aX t d (.aG []),ds,kind,base⟩ up h
  |none=>.bad):=(rfl)
@[simp] theorem ayd{m:List Bool}{b:ah}:go P Γ st n (.fr ⟨.run,fn,.code (.loop m b)::k,t,ds,kind,base⟩ up h)=.fr ⟨.run,fn,.code (.loop m b)::k,t,ds,kind,base⟩ up h:=ll rfl n
@[simp] theorem axp{m:List Bool}{b:ah}:go P Γ st n (.fr ⟨.run,fn,.inLoop m b::k,t,ds,kind,base⟩ up h)=.fr ⟨.run,fn,.inLoop m b::k,t,ds,kind,base⟩ up h:=ll rfl n
@[simp] theorem aye{as:List (List Nat)}{gs:List AG}:go P Γ st n (.fr ⟨.run,fn,.code (.ea as gs)::k,t,ds,kind,base⟩ up h)=.fr ⟨.run,fn,.code (.ea as gs)::k,t,ds,kind,base⟩ up h:=ll rfl n
@[simp] theorem axy{l:List Bool}{ws:List Nat}{gs:List AG}:go P Γ st (n+1) (.fr ⟨.run,fn,.code (.aQ l ws gs)::k,t,ds,kind,base⟩ up h)=(if tight l gs=true then(match runN P Γ gs t h with
  |some p=>go P Γ st n (.fr ⟨.run,fn,k,p.1,ds,kind,base⟩ up p.2)
  |none=>.fr ⟨.run,fn,.code (.aQ l ws gs)::k,t,ds,kind,base⟩ up h)else .fr ⟨.run,fn,.code (.aQ l ws gs)::k,t,ds,kind,base⟩ up h):=by
 split
 ·rename_i ht
  split
  ·rename_i p hr
   have hp:pQ P Γ l gs t h=some p:=by simp only[pQ,ht,cu,hr]
   simp only[go,stepG,hp]
  ·rename_i hr;refine ll ?_ _
   have hp:pQ P Γ l gs t h=none:=by simp only[pQ,ht,cu,hr]
   simp only[stepG,hp]
 ·rename_i ht;refine ll ?_ _
  have hp:pQ P Γ l gs t h=none:=by simp[pQ,ht]
  simp only[stepG,hp]
@[simp] theorem axx:runN P Γ [] t h=some (t,h):=(rfl)
@[simp] theorem aya{d:Option Nat}{o:AO}{os:List AG}:runN P Γ (⟨d,none,o⟩::os) t h=wu P Γ os d t (ay P Γ t h o):=(rfl)
@[simp] theorem axM{d:Option Nat}{j:Nat}{b:Bool}{o:AO}{os:List AG}:runN P Γ (⟨d,some (j,b),o⟩::os) t h=(match dt t (some (j,b))with
  |some true=>wu P Γ os d t (ay P Γ t h o)
  |some false=>runN P Γ os (aX t d (.aG [])) h
  |none=>none):=(rfl)
@[simp] theorem axT{os:List AG}{d:Option Nat}{v:AV}:wu P Γ os d t (.val v h)=runN P Γ os (aX t d v) h:=(rfl)
@[simp] theorem aw3{os:List AG}{d:Option Nat}:wu P Γ os d t (.skip h)=runN P Γ os (aX t d (.aG [])) h:=(rfl)
@[simp] theorem awS{os:List AG}{d:Option Nat}{f:FuncId}{args:List AV}:wu P Γ os d t (.call f args)=none:=(rfl)
@[simp] theorem awB{f:Fr}{o:AG}{os:List AG}:fg P f up h o os k .either=.fr f up h:=(rfl)
@[simp] theorem aa3{f:Fr}{o:AG}{os:List AG}{v:AV}:fg P f up h o os k (.val v h')=.fr ⟨f.md,f.fn,.ops os::k,aX f.t o.dst v,f.ds,f.kind,f.base⟩ up h':=(rfl)
@[simp] theorem Y6{f:Fr}{o:AG}{os:List AG}:fg P f up h o os k (.skip h')=.fr ⟨f.md,f.fn,.ops os::k,aX f.t o.dst (.aG []),f.ds,f.kind,f.base⟩ up h':=(rfl)
@[simp] theorem ax3{f:Fr}{o:AG}{os:List AG}{v:AV}:fg P f up h o os k (.cX v)=.fr ⟨.cX v false,f.fn,f.its,f.t,f.ds,f.kind,f.base⟩ up h:=(rfl)
@[simp] theorem axS{f:Fr}{o:AG}{os:List AG}{g:FuncId}{args:List AV}:fg P f up h o os k (.call g args)=if au P g=true then .cl g args (f::up) h else .bad:=(rfl)
@[simp] theorem ayi{f:Fr}{o:AG}{os:List AG}:fg P f up h o os k .p_=(match tF f up with
 |some (v,up')=>.fr {f with its:=.ops os::k,t:=aX f.t o.dst v} up' h
 |none=>.bad):=(rfl)
@[simp] theorem ax2{f:Fr}{o:AG}{os:List AG}{g:FuncId}{args:List AV}:fg P f up h o os k (.br g args)=(match f.kind with
  |.round _=>.bad
  |_=>.fr {f with its:=.ops os::k,t:=aX f.t o.dst (.aG []),ds:=.call g args::f.ds} up h):=(rfl)
@[simp] theorem awU{f:Fr}{o:AG}{os:List AG}{l:Nat}{args:List AV}:fg P f up h o os k (.yield l args)=(match h[l]? with
  |some (.loop _ _ fn t ps a b)=>
   if args.length=ps.length then
    .fr {md:=.run,fn:=fn,its:=[.code a,.beginRound,.code b],t:=jD t ps args,ds:=[],kind:=.round l,base:=h.length} (f::up) h
   else .bad
  |_=>.bad):=(rfl)
@[simp] theorem ayl{f:Fr}{o:AG}{os:List AG}:fg P f up h o os k .bad=.bad:=(rfl)
@[simp] theorem avz{x:AX}{ps:List Nat}{m:List Bool}{a b:ah}:go P Γ st (n+1) (.fr ⟨.run,fn,.code (.rangeFunc x ps m a b)::k,t,ds,kind,base⟩ up h)=go P Γ st n (match ax t x with
  |.fn (.func g) fs cs=>if au P g=false then .bad else match kind with
   |.round _=>.cl g (fs++.cQ h.length::cs) (⟨.run,fn,.iX h.length::k,t,ds,kind,base⟩::up) (h++[.loop .ready .none fn (c9 m t) ps a b])
   |_=>.cl g (fs++.cQ (h.length+1)::cs) (⟨.run,fn,.iX (h.length+1)::k,t,.mark h.length::ds,kind,base⟩::up) (h++[.br true,.loop .ready .none fn (c9 m t) ps a b])
  |_=>.bad):=(rfl)
@[simp] theorem au9:go P Γ st (n+1) (.fr ⟨.run,fn,.beginRound::k,t,ds,kind,base⟩ up h)=go P Γ st n (match kind with
  |.round l=>match h[l]? with
   |some (.loop .ready j fn' t' ps a b)=>.fr ⟨.run,fn,k,t,ds,kind,base⟩ up (h.set l (.loop .busy j fn' t' ps a b))
   |_=>.bad
  |_=>.bad):=(rfl)
@[simp] theorem awa{l:Nat}:go P Γ st (n+1) (.fr ⟨.run,fn,.sX l::k,t,ds,kind,base⟩ up h)=go P Γ st n (match h[l]? with
  |some (.loop sta j fn' t' ps a b)=>
   if sta=.busy then .bad
   else .fr ⟨.run,fn,(match j with|.none=>k|.ret=>.code .ret::k|.exit id=>.code (.exit id)::k),t,ds,kind,base⟩ up (h.set l (.loop .exhausted j fn' t' ps a b))
  |_=>.bad):=(rfl)
@[simp] theorem ayw:go P Γ st (n+1) (.fr ⟨.ret,fn,k,t,ds,kind,base⟩ up h)=go P Γ st n (mj P Γ ⟨.ret,fn,k,t,ds,kind,base⟩ up h):=(rfl)
@[simp] theorem ayx{v:AV}{rc:Bool}:go P Γ st (n+1) (.fr ⟨.cX v rc,fn,k,t,ds,kind,base⟩ up h)=go P Γ st n (mj P Γ ⟨.cX v rc,fn,k,t,ds,kind,base⟩ up h):=(rfl)
@[simp] theorem ayE{g:FuncId}{args:List AV}:go P Γ st n (.cl g args up h)=.cl g args up h:=ll rfl n
@[simp] theorem ayq{c:Fr}{v:AV}:go P Γ 0 (n+1) (.back (c::up) v h)=go P Γ 0 n (match c.finish v with
  |some c'=>.fr c' up h
  |none=>.bad):=(rfl)
@[simp] theorem axC{c:Fr}{v:AV}:go P Γ 1 (n+1) (.back (c::up) v h)=go P Γ 1 n (match c.finish v with
  |some c'=>.fr c' up h
  |none=>.bad):=(rfl)
@[simp] theorem axw{v:AV}:go P Γ 2 n (.back up v h)=.back up v h:=ll (by cases up<;>rfl) n
@[simp] theorem axJ{v:AV}:go P Γ st n (.back [] v h)=.back [] v h:=ll rfl n
@[simp] theorem ayy{c:Fr}{v:AV}:go P Γ 0 (n+1) (.die (c::up) v h)=go P Γ 0 n (match c.md with
  |.run=>.fr {c with md:=.cX v false} up h
  |_=>.bad):=(rfl)
@[simp] theorem ax8{c:Fr}{v:AV}:go P Γ 1 (n+1) (.die (c::up) v h)=go P Γ 1 n (match c.md with
  |.run=>.fr {c with md:=.cX v false} up h
  |_=>.bad):=(rfl)
@[simp] theorem ayp{v:AV}:go P Γ 2 n (.die up v h)=.die up v h:=ll (by cases up<;>rfl) n
@[simp] theorem aym{v:AV}:go P Γ st n (.die [] v h)=.die [] v h:=ll rfl n
@[simp] theorem ayA:go P Γ st n .bad=.bad:=ll rfl n
@[simp] theorem ax6{c:ar}:go P Γ st 0 c=c:=(rfl)
end
end Go.AM
namespace Go.AM
open Go.ChangeShapes Go.WideShapes Go.ChangeAt Go.RowKit
inductive Sh where
 |bool|str
 |int (k:IntKind)
 |list (k:Nat) (ag:Bool) (e:Sh)
 |parts (l:List Sh)
def lT:Bool->List AV->AV
 |true,cs=>.agg cs
 |false,[c]=>c
 |false,_=>.undef
mutual
def dW(B:Nat):Sh->List AV->Prop
 |.bool,cs=>∃b,cs=[.bool b]
 |.str,cs=>∃s:List UInt8,cs=[.str s]/\s.length<=B
 |.int k,cs=>∃n,cs=[.int k n]/\k.min<=n/\n<=k.max
 |.list k ag e,cs=>∃xs:List (List AV),cs=[.list false k (xs.map (lT ag))]/\xs.length<=B/\∀x∈xs,dW B e x/\x.length=k
 |.parts l,cs=>pT B l cs
def pT(B:Nat):List Sh->List AV->Prop
 |[],cs=>cs=[]
 |s::ss,cs=>∃a b,cs=a++b/\dW B s a/\pT B ss b
end
def gV(P:Program):Nat->TypeId->Option Sh
 |0,_=>none
 |n+1,t=>match P.underlying t with
  |some .bool=>some .bool
  |some .string=>some .str
  |some (.int k)=>some (.int k)
  |some (.slice e)=>match gV P n e,fG P e with
   |some s,some ag=>if P.cellsOf e=0\/(ag=false/\P.cellsOf e≠1)then none else some (.list (P.cellsOf e) ag s)
   |_,_=>none
  |some (.struct fs)=>(fs.toList.mapM fun f=>gV P n f.type).map .parts
  |some (.array m e)=>(gV P n e).map fun s=>.parts (List.replicate m s)
  |_=>none
def gw(w:World):G:={ρ:=fun _=>none,M:=fun b o=>w.cell? ⟨b,o,none⟩,MM:=fun b=>match w.heap[b]? with|some (.map es ck)=>some (es,ck)|_=>none}
structure Down{H:Type}(B:Nat)(Q:DataW H->Prop):Prop where
 sl:∀e r,Q (.slice e r)->e.length<=9223372036854775807->e.length<=B/\∀d∈e,Q d
 ag:∀ps,Q (.agg ps)->∀d∈ps,Q d
 st:∀b,Q (.lit (.string b))->b.length<=9223372036854775807->b.length<=B
section
variable{P:Program}{w:World}{H:Type}{enc:TypeId×Value->H}{sp:Nat->Bool}{T:TypeId->Prop}
def Rd(B:Nat)(w:World)(s:Sh)(cs:List Value):Prop:=∃as,dW B s as/\VL (gw w) [] as cs/\bQ as=true/\aI 0 as=true
theorem Uj{as bs:List AV}(h1:bQ as=true)(h2:bQ bs=true):bQ (as++bs)=true:=by
 induction as with
 |nil=>simpa using h2
 |cons a as ih=>simp only[bQ,fh,aw]at h1⊢;exact⟨h1.1,ih h1.2⟩
theorem Uv{n:Nat}{as bs:List AV}(h1:aI n as=true)(h2:aI n bs=true):aI n (as++bs)=true:=by
 induction as with
 |nil=>simpa using h2
 |cons a as ih=>simp only[aI,fh,aw]at h1⊢;exact⟨h1.1,ih h1.2⟩
theorem W5{ag:Bool}{as:List AV}{k:Nat}(hk:as.length=k)(h1:ag=true\/k=1)(ho:bQ as=true):(lT ag as).cells=as:=by
 cases ag with
 |true=>rfl
 |false=>
  have:k=1:=by simpa using h1
  subst this
  match as,hk with
  |[c],_=>simp[lT];simp[bQ]at ho;cases c<;>simp_all [AV.cells,AV.one]
theorem IH{k:Nat}:∀{es fs:List AV},cd es k=true->cd fs k=true->cd (es++fs) k=true
 |[],_,_,h2=>by simpa using h2
 |e::es,fs,h1,h2=>by
  simp only[cd,fh,aw]at h1⊢;exact⟨h1.1,IH h1.2 h2⟩
theorem Dz{B:Nat}{n:Nat}{r:List Value->Sh->Prop}:∀(ss:List Sh)(css:List (List Value)),css.length=ss.length->(∀(i:Nat) s c,ss[i]? =some s->css[i]? =some c->Rd B w s c)->
 ∃as,pT B ss as/\VL (gw w) [] as css.flatten/\bQ as=true/\aI 0 as=true
 |[],css,hl,_=>by
  have:css=[]:=by simpa using hl
  subst this;exact⟨[],by simp[pT],by simp[VL],rfl,rfl⟩
 |s::ss,css,hl,hr=>by
  match css,hl with
  |c::css,hl=>
   obtain⟨a,h1,h2,h3,h4⟩:=hr 0 s c rfl rfl;obtain⟨b,h5,h6,h7,h8⟩:=Dz (n:=n) (r:=r) ss css (by simpa using hl) (fun i s c hs hc=>hr (i+1) s c (by simpa using hs) (by simpa using hc));exact⟨a++b,by simp only[pT];exact⟨a,b,rfl,h1,h5⟩,by simpa using jW h2 h6,Uj h3 h7,Uv h4 h8⟩
theorem Et{α:Type}:∀(ns:List Nat)(cs:List α),cs.length=ns.sum->∃css:List (List α),css.length=ns.length/\css.flatten=cs/\∀(i n:Nat),ns[i]? =some n->css[i]? =some ((cs.drop (ns.take i).sum).take n)
 |[],cs,h=>⟨[],rfl,by simp at h;simp[h],by simp⟩
 |n::ns,cs,h=>by
  obtain⟨css,h1,h2,h3⟩:=Et ns (cs.drop n) (by simp at h⊢;omega);refine⟨cs.take n::css,by simp[h1],by simp[h2],?_⟩;intro i m hi
  cases i with
  |zero=>simp at hi;subst hi;simp
  |succ i=>
   simp only[nF,H6,List.sum_cons]at hi⊢;rw[h3 i m hi,List.drop_drop]
theorem acR{B:Nat}{Q:DataW H->Prop}(K:Kids P T)(D:Down B Q):∀(n:Nat)(t:TypeId)(s:Sh),T t->gV P n t=some s->∀(fuel:Nat)(cs:List Value)(x:DataW H×List MemPlace),DataW.trod enc P w 0 sp true fuel t cs=some x->Q x.1->Rd B w s cs:=by
 intro n
 induction n with
 |zero=>intro t s _ hs;simp[gV]at hs
 |succ n ih=>
  intro t s hT hs fuel cs x hx hQ;unfold gV at hs
  split at hs
  ·rename_i hu
   cases hs
   obtain⟨b,rfl,_⟩:=DataW.trod_bool hu hx;exact⟨[.bool b],by simp[dW],by simp[VL,V],rfl,rfl⟩
  ·rename_i hu
   cases hs
   obtain⟨b,rfl,hxe,h⟩:=DataW.trod_string hu hx;refine⟨[.str b.data.toList],?_,by simp[VL,V],rfl,rfl⟩;simp only[dW];rw[hxe]at hQ;exact⟨_,rfl,D.st _ hQ (by simpa[maxLen]using h)⟩
  ·rename_i k hu
   cases hs
   obtain⟨i,rfl,_,h⟩:=DataW.trod_int hu hx;refine⟨[.int k i],?_,by simp[VL,V],rfl,rfl⟩;simp only[Lit.wf,aw,bd]at h;simp only[dW];exact⟨i,rfl,h.1,h.2⟩
  ·rename_i e hu
   split at hs
   ·rename_i se ag hse hag
    split at hs
    ·cases hs
    ·rename_i hk
     cases hs
     have hTe:=K.slice hT hu
     have hk0:0<P.cellsOf e:=by omega
     have hk1:ag=true\/P.cellsOf e=1:=by cases ag<;>simp_all
     rcases DataW.trod_slice hu hx with⟨rfl,_⟩|⟨a,len,cap,elems,rest,m,_,rfl,hxe,_,hlc,hcap,hel,hget,_⟩
     ·refine⟨[.list false (P.cellsOf e) []],?_,?_,rfl,rfl⟩
      ·simp only[dW];exact⟨[],rfl,by simp,by simp⟩
      ·simp[VL,V,cd]
     ·have hQ2:=D.sl (elems.map (·.1)) (rest.map (·.1)) (by rw[hxe]at hQ;exact hQ) (by rw[iq];simp[maxLen]at hcap;omega);rw[iq]at hQ2
      have key:∀q,q<=len->∃xs:List (List AV),xs.length=q/\(∀x∈xs,dW B se x/\x.length=P.cellsOf e)/\cd (xs.map (lT ag)) (P.cellsOf e)=true/\
       ∃vs,VE (gw w) [] (xs.map (lT ag)) vs/\vs.length=q*P.cellsOf e/\∀j(hj:j<vs.length),w.cell? (a.add j)=some vs[j]:=by
       intro q
       induction q with
       |zero=>intro _;exact⟨[],rfl,by simp,rfl,[],by simp[VE],by simp,by simp⟩
       |succ q ihq=>
        intro hq;obtain⟨xs,h1,h2,h3,vs,h4,h5,h6⟩:=ihq (by omega);have hg:=hget q (by omega);obtain⟨y,hy⟩:∃y,elems[q]? =some y:=⟨elems[q]'(by omega),bn (by omega)⟩;rw[hy,mO]at hg;obtain⟨c,hc,ht⟩:=hg;obtain⟨as,g1,g2,g3,g4⟩:=ih e se hTe hse _ _ _ ht (hQ2.2 _ (rY (gX hy)));unfold World.cells? at hc
        split at hc
        ·have hcl:c.length=P.cellsOf e:=by simpa using mapM_some_length hc
         have hal:as.length=P.cellsOf e:=by rw[<-fm g2];exact hcl
         have hcells:=W5 hal hk1 g3;refine⟨xs++[as],by simp[h1],?_,?_,vs++c,?_,?_,?_⟩
         ·intro x hx
          rcases bF.1 hx with hx|hx
          ·exact h2 x hx
          ·simp at hx;subst hx;exact⟨g1,hal⟩
         ·rw[l0];refine IH h3 ?_;simp only[cn,lZ,cd,hcells,hal,g3,g4,decide_true,nJ]
         ·rw[l0];refine n4 h4 ?_;simp only[cn,lZ,VE]
          cases ag with
          |true=>exact⟨.agg c.toArray,[],by simp only[lT,V];exact⟨c,rfl,g2⟩,by simp[Value.cells],rfl⟩
          |false=>
           have hk2:P.cellsOf e=1:=by simpa using hk1
           match as,hal.trans hk2,c,hcl.trans hk2 with
           |[a1],_,[c1],_=>
            simp only[VL]at g2;obtain⟨v,_,h7,h8,h9⟩:=g2;subst h9
            cases h7
            refine⟨c1,[],h8,?_,rfl⟩
            have ho:a1.one=true:=by simpa[bQ]using g3
            have:c1.cells=#[c1]:=by
             cases a1<;>simp[AV.one]at ho<;>simp only[V]at h8<;>first
              |(subst h8;rfl)
              |(obtain⟨_,_,_,rfl,_⟩:=h8;rfl)
              |(obtain⟨_,_,_,_,_,rfl⟩:=h8;rfl)
              |(obtain⟨_,_,_,_,_,_,rfl⟩:=h8;rfl)
              |(obtain⟨_,_,rfl,_⟩:=h8;rfl)
              |(obtain⟨_,rfl,_⟩:=h8;rfl)
              |(obtain⟨_,_,_,_,rfl⟩:=h8;rfl)
              |(simp[aF,aI]at g4)
              |(exfalso;simp_all [BO,isCells,isMap,Nl,E6])
            simp[this]
         ·simp[h5,hcl];rw[fj];simp
         ·intro j hj;rw[List.getElem_append]
          split
          ·rename_i hjv;exact h6 j hjv
          ·rename_i hjv;have h7:=mapM_some_get hc (j-vs.length) (j-vs.length) (by rw[bM]at hj;rw[List.getElem?_range (by omega)]);rw[bn (by simp at hj;omega)]at h7;rw[<-h7];congr 1
           have hadd:(a.add (q*P.cellsOf e)).add (j-vs.length)=a.add j:=by
            unfold Addr.add
            split<;>split<;>split<;>simp_all<;>omega
           rw[hadd]
        ·cases hc
      obtain⟨xs,h1,h2,h3,vs,h4,h5,h6⟩:=key len (aW _);refine⟨[.list false (P.cellsOf e) (xs.map (lT ag))],?_,?_,rfl,?_⟩
      ·simp only[dW];exact⟨xs,rfl,by omega,h2⟩
      ·simp only[VL,V];refine⟨_,[],rfl,⟨h3,some a,cap,by simp[h1],by simp,by simpa[h1]using hlc,?_⟩,rfl⟩
       by_cases hl:len=0
       ·subst hl;left;simpa using h1
       ·right
        have h0:0<vs.length:=by rw[h5];exact Nat.mul_pos (by omega) hk0
        have hs:=h6 0 h0
        have hsp:a.spot=none:=by
         unfold World.cell? Addr.add at hs;rw[if_pos rfl]at hs
         split at hs
         ·split at hs
          ·cases hs
          ·rename_i h8;simpa using h8
         ·cases hs
        obtain⟨b,o,sp'⟩:=a;simp only at hsp;subst hsp;refine⟨b,o,vs,rfl,h4,fun j hj=>?_⟩;have h9:=h6 j hj
        have:(⟨b,o,none⟩:Addr).add j=⟨b,o+j,none⟩:=by
         unfold Addr.add
         split<;>simp_all
        rw[this]at h9;exact h9
      ·simp only[aI,aF,nJ];exact iw h3
   ·cases hs
  ·rename_i fs hu;rw[bO]at hs;obtain⟨ss,hss,rfl⟩:=hs;obtain⟨hf,hsz,hoff⟩:=K.struct hT hu;obtain⟨xs,m,_,hxe,hcl,hxl,hget⟩:=DataW.trod_struct hu hx;have hQ2:=D.ag (xs.map (·.1)) (by rw[hxe]at hQ;exact hQ);obtain⟨css,h1,h2,h3⟩:=Et (fs.toList.map fun f=>P.cellsOf f.type) cs (by rw[hcl,hsz]);have hssl:ss.length=fs.toList.length:=mapM_some_length hss
   obtain⟨as,g1,g2,g3,g4⟩:=Dz (w:=w) (n:=0) (r:=fun _ _=>True) ss css (by rw[h1,hssl];simp) (by
    intro i s c hs hc
    have hi:i<fs.size:=by have:=aV hs;rw[hssl]at this;simpa using this
    obtain⟨f,hfi⟩:∃f,fs[i]? =some f:=⟨fs[i],by simp[hi]⟩
    have hfl:fs.toList[i]? =some f:=by simpa using hfi
    have h4:=h3 i (P.cellsOf f.type) (by simp[hfi]);rw[hc]at h4;have h4:=Option.some.inj h4;have h5:=hget i f hfi;rw[hoff i f hfl]at h5;have h6:=mapM_some_get hss i f hfl;rw[hs]at h6;have hxi:∃y,xs[i]? =some y:=⟨xs[i]'(by omega),bn (by omega)⟩;obtain⟨y,hy⟩:=hxi;rw[hy]at h5;subst h4;rw[<-List.map_take]
    exact ih f.type s (hf f (gX hfl)) h6 _ _ y h5 (hQ2 _ (rY (gX hy))))
   exact⟨as,by simpa only [dW]using g1,by rw[h2]at g2;exact g2,g3,g4⟩
  ·rename_i m e hu;rw[bO]at hs;obtain⟨s,hs,rfl⟩:=hs;obtain⟨hTe,hsz⟩:=K.array hT hu;obtain⟨xs,q,_,hxe,hcl,hxl,hget⟩:=DataW.trod_array hu hx;have hQ2:=D.ag (xs.map (·.1)) (by rw[hxe]at hQ;exact hQ);obtain⟨css,h1,h2,h3⟩:=Et (List.replicate m (P.cellsOf e)) cs (by rw[hcl,hsz];simp)
   obtain⟨as,g1,g2,g3,g4⟩:=Dz (w:=w) (n:=0) (r:=fun _ _=>True) (List.replicate m s) css (by rw[h1];simp) (by
    intro i s' c hs' hc
    have hi:i<m:=by have:=aV hs';simpa using this
    rw[Ro]at hs';simp only[hi,cu,aj]at hs';subst hs';have h4:=h3 i (P.cellsOf e) (by simp[Ro,hi]);rw[hc]at h4;have h4:=Option.some.inj h4;have h5:=hget i hi;obtain⟨y,hy⟩:∃y,xs[i]? =some y:=⟨xs[i]'(by omega),bn (by omega)⟩;rw[hy]at h5;subst h4
    have he:(List.take i (List.replicate m (P.cellsOf e))).sum=i*P.cellsOf e:=by simp[List.take_replicate,qe (Nat.le_of_lt hi)]
    rw[he]
    exact ih e s hTe hs _ _ y h5 (hQ2 _ (rY (gX hy))))
   exact⟨as,by simpa only [dW]using g1,by rw[h2]at g2;exact g2,g3,g4⟩
  ·cases hs
end
def TS(P:Program)(t:TypeId):Prop:=t<P.types.size/\∃n,(gV P n t).isSome=true
theorem Z0{P:Program}(hl:laidOutB P=true)(hm:mapsRowed P=true):Kids P (TS P):=by
 have K:=kids_rows hl hm;refine⟨fun{t e} ht hu=>?_,fun{t e} ht hu=>?_,fun{t e n} ht hu=>?_,fun{t fs} ht hu=>?_,fun{t k e} ht hu=>?_⟩
 ·obtain⟨_,n,hn⟩:=ht
  cases n<;>simp[gV,hu]at hn
 ·obtain⟨h1,n,hn⟩:=ht;refine⟨K.slice h1 hu,?_⟩
  cases n with
  |zero=>simp[gV]at hn
  |succ n=>
   simp only[gV,hu]at hn
   split at hn
   ·rename_i h2 _;exact⟨n,by simp[h2]⟩
   ·cases hn
 ·obtain⟨h1,m,hn⟩:=ht;refine⟨⟨(K.array h1 hu).1,?_⟩,(K.array h1 hu).2⟩
  cases m with
  |zero=>simp[gV]at hn
  |succ m=>simp only[gV,hu,Option.isSome_map]at hn;exact⟨m,hn⟩
 ·obtain⟨h1,n,hn⟩:=ht;refine⟨fun f hf=>⟨(K.struct h1 hu).1 f hf,?_⟩,(K.struct h1 hu).2⟩
  cases n with
  |zero=>simp[gV]at hn
  |succ n=>
   simp only[gV,hu,Option.isSome_map]at hn;obtain⟨ss,hss⟩:=H_.1 hn;obtain⟨i,hi⟩:=ur.1 hf;have:=mapM_some_get hss i f hi;have hlen:=mapM_some_length hss
   have hlt:i<ss.length:=by rw[hlen];exact aV hi
   exact⟨n,by rw[this,bn hlt];rfl⟩
 ·obtain⟨_,n,hn⟩:=ht
  cases n<;>simp[gV,hu]at hn
def qZ(B:Nat):List (Bool×Sh)->List AV->Prop
 |[],as=>as=[]
 |(ag,s)::r,as=>∃cs as',as=lT ag cs::as'/\dW B s cs/\(ag=false->cs.length=1)/\qZ B r as'
def Bx(P:Program)(t:TypeId):Option (Bool×Sh):=match fG P t,gV P 12 t with
 |some ag,some s=>some (ag,s)
 |_,_=>none
section
variable{P:Program}{W:World}{H:Type}{enc:TypeId×Value->H}{sp:Nat->Bool}
theorem M1{B:Nat}{Q:DataW H->Prop}(K:Kids P (TS P))(D:Down B Q):∀{ts:List TypeId}{shs:List (Bool×Sh)}{vs:List Value}{ds:List (DataW H)}{ps:List MemPlace},(∀t∈ts,t<P.types.size)->ts.mapM (Bx P)=some shs->
 (∀(j:Nat) t v,ts[j]? =some t->vs[j]? =some v->∃r base,Value.okWide P W r base t v)->DataW.TrodAll enc P W 0 sp true ts vs ds ps->(∀d∈ds,Q d)->∃as,qZ B shs as/\VL (gw W) [] as vs
 |[],shs,vs,ds,ps,_,hs,_,hT,_=>by
  obtain⟨rfl,_,_⟩:=trodAll_nil hT;simp at hs;subst hs;exact⟨[],by simp[qZ],by simp[VL]⟩
 |t::ts,shs,vs,ds,ps,hlt,hs,hok,hT,hQ=>by
  obtain⟨v,vs1,d,ds1,a,b,rfl,rfl,rfl,h1,h2⟩:=trodAll_cons hT;simp only[qg,nN,mO,Ih,aj]at hs;obtain⟨x,hx,ys,hys,rfl⟩:=hs;obtain⟨as,g1,g2⟩:=M1 K D (fun t ht=>hlt t (dY _ ht)) hys (fun j t v h3 h4=>hok (j+1) t v (by simpa using h3) (by simpa using h4)) h2 (fun d hd=>hQ d (dY _ hd));unfold Bx at hx
  split at hx
  ·rename_i ag s hag hsh
   cases hx
   obtain⟨fuel,hf⟩:=h1;obtain⟨cs,h3,h4,h5,h6⟩:=acR K D 12 t s ⟨hlt t (by simp),12,by simp[hsh]⟩ hsh _ _ _ hf (hQ _ (qm ..));obtain⟨r,base,hokv⟩:=hok 0 t v rfl rfl
   cases ag with
   |true=>
    have hv:∃c,v=.agg c:=by
     unfold fG at hag;unfold Value.okWide at hokv
     cases hu:P.underlying t with
     |none=>simp[hu]at hag
     |some d=>
      rw[hu]at hag hokv
      cases d<;>simp at hag<;>(obtain⟨c,rfl,_⟩:=hokv;exact⟨c,rfl⟩)
    obtain⟨c,rfl⟩:=hv;refine⟨.agg cs::as,by simp only[qZ];exact⟨cs,as,rfl,h3,by simp,g1⟩,?_⟩;simp only[VL,V];exact⟨_,_,rfl,⟨c.toList,by simp,by simpa[Value.cells]using h4⟩,g2⟩
   |false=>
    have hv:v.cells=#[v]:=by
     unfold fG at hag
     cases v with
     |agg c=>
      exfalso
      cases fuel with
      |zero=>simp[DataW.trod]at hf
      |succ n=>
      cases hu:P.underlying t with
      |none=>simp[hu]at hag
      |some d=>
       rw[hu]at hag;unfold Value.okWide at hokv;rw[hu]at hokv
       cases d<;>simp at hag<;>simp[Cell.okWide,Cell.ok,hu]at hokv
       all_goals (unfold gV at hsh;rw[hu]at hsh;simp at hsh)
     |_=>rfl
    rw[hv]at h4
    have hlen:cs.length=1:=by rw[<-fm h4];rfl
    match cs,hlen with
    |[c],_=>
     simp only[VL]at h4;obtain⟨u,us,h7,h8,h9⟩:=h4
     cases h7
     refine⟨c::as,by simp only[qZ];exact⟨[c],as,rfl,h3,fun _=>rfl,g1⟩,?_⟩;simp only[VL];exact⟨_,_,rfl,h8,g2⟩
  ·cases hx
theorem VV:∀{shs:List (Bool×Sh)}{as:List AV}{vs:List Value},VL (gw W) [] as vs->aI 0 as=true
 |_,_,_,h=>by simpa using dh h
theorem VO{B:Nat}{Q:DataW H->Prop}(D:Down B Q){f:FuncId}{fn:Func}{s:ChangeSpec}{Γ:Nat->Option AV}{tb:TypeId}{shs:List (Bool×Sh)}(hl:laidOutB P=true)(hm:mapsRowed P=true)(hres:fn.resultTypes=#[tb])(htb:P.underlying tb=some .bool)
 (hlt:∀t∈fn.params.toList,t<P.types.size)(hsh:fn.params.toList.mapM (Bx P)=some shs)(hvars:s.vars=[])
 (hspec:∀ds:List (DataW H),ds.length=fn.params.size->(s.fn H ds).results=[.lit (.bool true)]/\(s.fn H ds).args=ds/\(s.fn H ds).vars=[])
 (hΓ:∀n a,Γ n=some a->aI 0 a.cells=true/\∃vs,VL (gw W) [] a.cells vs/\∀j(hj:j<vs.length),W.cell? ⟨n,j,none⟩=some vs[j])
 (Hf:∀as,qZ B shs as->aS P Γ f as (.bool true))
 {base:Nat}{args:Array Value}{ds gs:List (DataW H)}{before:List MemPlace}
 (hval:∀(j:Nat) t v,fn.params[j]? =some t->args[j]? =some v->Value.okWide P W .any base t v)
 (hW:DataW.Whole enc P fn.params.toList s.vars false W args.toList ds gs before)(hQ:∀d∈ds,Q d):
 Calls P f args W fun e W'=>∃v,e=.returned v/\s.post enc P fn false true false false W args v W':=by
 have K:=Z0 hl hm;have hW':=hW;obtain⟨p,q,hA,hV,rfl,hfz,hnd⟩:=hW;rw[hvars]at hV;obtain⟨rfl,rfl⟩:=trodVars_none hV;obtain⟨as,h1,h2⟩:=M1 K D hlt hsh (fun j t v hj hv=>⟨_,_,hval j t v (by simpa using hj) (by simpa using hv)⟩) hA hQ
 have hI:Inv P Γ {K:=fun b=>W.heap[b]?,M0:=(gw W).M,MM:=(gw W).MM,w0:=W} (gw W) [] W:=by
  refine⟨rfl,rfl,rfl,fun b o hb=>hb,fun i b x hi=>(by cases hi),fun i j b x y hi=>(by cases hi),fun _ _=>rfl,fun b o v hv=>hv,?_,fun i b sz st o v hi=>(by cases hi),fun i o hi=>(by simp at hi),hΓ,
   fun b o v B hv _=>hv,rfl⟩
  intro b es ck hb;simp only[gw]at hb
  split at hb
  ·rename_i es' ck' hh
   cases hb
   exact⟨hh,fun i x hi=>(by cases hi)⟩
  ·cases hb
 have hC:=(Hf as h1).2 (VV (shs:=shs) h2) _ _ [] W args.toList hI h2;rw[Array.toArray_toList]at hC;refine hC.mono ?_
 rintro e W' ⟨u,g',rfl,_,hI',hu,_,_,hheap⟩
 simp only[dE,dZ,V]at hu;subst hu;refine⟨_,rfl,ds,[],p++[],[],p,[],hW',?_,?_,?_,?_,fun h=>by cases h⟩
 ·have hlen:ds.length=fn.params.size:=by
   have:=(trodAll_length hA).2;simpa using this
  rw[fM,(hspec ds hlen).1,hres];exact trodAll_cons_mk (shut_bool htb _) trodAll_mk0
 ·have hlen:ds.length=fn.params.size:=by
   have:=(trodAll_length hA).2;simpa using this
  rw[fM,(hspec ds hlen).2.1];have hp:∀x∈p,x.block<W.heap.size:=hA.lt
  have key:∀{ts:List TypeId}{vs:List Value}{ds:List (DataW H)}{ps:List MemPlace},(∀t∈ts,TS P t)->(∀x∈ps,x.block<W.heap.size)->DataW.TrodAll enc P W 0 (fun _=>true) true ts vs ds ps->
   DataW.TrodAll enc P W' 0 (fun b=>decide (b<W.heap.size)) true ts vs ds ps:=by
   intro ts
   induction ts with
   |nil=>
    intro vs ds ps _ _ hT;obtain⟨rfl,rfl,rfl⟩:=trodAll_nil hT;exact trodAll_mk0
   |cons t ts ih=>
    intro vs ds ps ht hb hT;obtain⟨v,vs1,d,ds1,a,b,rfl,rfl,rfl,h3,h4⟩:=trodAll_cons hT;obtain⟨fuel,hf⟩:=h3;refine trodAll_cons_mk ⟨fuel,DataW.trod_stays K ?_ (by simp) (ht t (by simp)) hf ?_ ?_⟩ (ih (fun t' ht'=>ht t' (dY _ ht')) (fun x hx=>hb x (by simp[hx])) h4)
    ·intro t e ht' hu;obtain⟨_,n,hn⟩:=ht'
     cases n with
     |zero=>simp[gV]at hn
     |succ n=>
      simp only[gV,hu]at hn
      split at hn
      ·split at hn
       ·cases hn
       ·rename_i h5;omega
      ·cases hn
    ·intro x hx;have hxb:=hb x (by simp[hx])
     cases x with
     |cell b o=>simp only[World.sameAt,World.cell?];rw[hheap b hxb]
     |map b=>simp only[World.sameAt];exact hheap b hxb
    ·intro x hx;have hxb:=hb x (by simp[hx]);simpa using hxb
  refine key (fun t ht=>⟨hlt t ht,?_⟩) hp hA;obtain⟨i,hi⟩:=ur.1 ht;have h3:=mapM_some_get hsh i t hi
  have hl3:i<shs.length:=by rw[mapM_some_length hsh];exact aV hi
  rw[bn hl3]at h3;unfold Bx at h3
  split at h3
  ·rename_i h4;exact⟨12,by simp[h4]⟩
  ·cases h3
 ·have hlen:ds.length=fn.params.size:=by
   have:=(trodAll_length hA).2;simpa using this
  rw[fM,(hspec ds hlen).2.2,hvars];rfl
 ·refine⟨hI'.os,hI'.output,fun i hi=>?_⟩;rw[hheap i hi];have:=(World.keptBut_refl W (fun p_1=>p_1∈p++[]/\(p_1∈[]\/p_1∈p\/p_1∈[]))).2.2 i hi;exact this
end
theorem z7{α β γ:Type}{f:α->γ}{e:β->γ}:∀{xs:List α},(∀x∈xs,∃t,f x=e t)->∃ts:List β,xs.map f=ts.map e/\ts.length=xs.length
 |[],_=>⟨[],rfl,rfl⟩
 |x::xs,h=>by
  obtain⟨t,ht⟩:=h x (by simp);obtain⟨ts,h1,h2⟩:=z7 (xs:=xs) (e:=e) (fun y hy=>h y (dY _ hy));exact⟨t::ts,by simp[ht,h1],by simp[h2]⟩
end Go.AM
namespace Go.AM
open Go.RowKit
theorem drop_eq{α:Type}{a b:List α}{i:Nat}(h1:i<a.length)(h2:i<b.length):(a.drop i=b.drop i)↔(a[i]=b[i]/\a.drop (i+1)=b.drop (i+1)):=by
 rw[bT h1,bT h2,rT]
@[simp] theorem axH{α:Type}(n:Nat)(f:α->AV)(l:List α):aI n (l.map f)=l.all fun x=>aF n (f x):=by
 induction l with
 |nil=>rfl
 |cons a l ih=>simp[aI,ih]
@[simp] theorem axX{α:Type}(f:α->AV)(l:List α):ei (l.map f)=l.all fun x=>dS (f x):=by
 induction l with
 |nil=>rfl
 |cons a l ih=>simp[ei,ih]
@[simp] theorem av8(a b:List AV):ei (a++b)=(ei a&&ei b):=by
 induction a with
 |nil=>simp[ei]
 |cons x a ih=>simp[ei,ih,mQ]
@[simp] theorem axN{α β:Type}(f:α->β)(l:List α):(l.map f).take l.length=l.map f:=by rw[cL];simp
@[simp] theorem C9(n:Nat)(a b:List AV):aI n (a++b)=(aI n a&&aI n b):=by
 induction a with
 |nil=>simp[aI]
 |cons x a ih=>simp[aI,ih,mQ]
@[simp] theorem ayv{c:Prop}[Decidable c]{r:R}(h:c):(if c then r else R.bad)=r:=if_pos h
@[simp] theorem ax9{c:Prop}[Decidable c]{α:Type}{x:α}(h:c):(if c then some x else none)=some x:=if_pos h
@[simp] theorem natCast_eq(a b:Nat):((a:Int)=(b:Int))↔a=b:=by omega
@[simp] theorem toNat_add{x y:Int}(h1:0<=x)(h2:0<=y):(x+y).toNat=x.toNat+y.toNat:=by omega
@[simp] theorem toNat_sub{x y:Int}(h2:0<=y):(x-y).toNat=x.toNat-y.toNat:=by omega
attribute [simp] jJ jI fF nv pP cw fW fE fZ cW ik nq Az cD k6 mE wrap64 o5 nF
@[simp] theorem awE{P:Program}{Γ:Nat->Option AV}(c:ar):Reach P Γ c c:=.refl c
section
variable{P:Program}{Γ:Nat->Option AV}
theorem Au{g:G}{h:List Ob}{s:List UInt8}{as:List AV}{us:List Value}(hv:VL g h (.str s::as) us):∃us',us=.string ⟨s.toArray⟩::us'/\VL g h as us':=by
 simp only[VL,V]at hv;obtain⟨v,us',rfl,rfl,h2⟩:=hv;exact⟨us',rfl,h2⟩
theorem MS{g:G}{h:List Ob}{us:List Value}(hv:VL g h [] us):us=[]:=by simpa only [VL]using hv
theorem Reach.adS{f:FuncId}{args as:List AV}{v:AV}{up:List Fr}{h:List Ob}{c:ar}(h1:bP h args=some as)(h2:kM P Γ f as v)(h3:Reach P Γ (.die up v h) c):Reach P Γ (.cl f args up h) c:=.trans (.FN h1 h2) h3
theorem Reach.call(n:Nat){f:FuncId}{args as:List AV}{r:AV}{up:List Fr}{h:List Ob}{c:ar}(h1:bP h args=some as)(h2:aS P Γ f as r)(h3:Reach P Γ (AM.go P Γ 0 n (.back up (dE h.length r).1 (fP h args r))) c):Reach P Γ (.cl f args up h) c:=.Hf h1 h2 (.go n h3)
theorem Reach.kV(n:Nat){f:FuncId}{args as:List AV}{v:AV}{up:List Fr}{h:List Ob}{c:ar}(h1:bP h args=some as)(h2:kM P Γ f as v)(h3:Reach P Γ (AM.go P Γ 0 n (.die up v h)) c):Reach P Γ (.cl f args up h) c:=.adS h1 h2 (.go n h3)
def mF(gs:List AG):List (List Nat):=(List.range gs.length).map fun i=>(List.range i).filter fun j=>match gs[i]?,gs[j]? with
 |some gi,some gj=>(match gj.dst with
  |some d=>(qX gi).contains d
  |none=>false)
 |_,_=>false
theorem Mn{ops:Array Oper}{dep:List (List Nat)}(hed:mY ops=true)(hdl:dep.length=ops.size)(hda:∀i j,j∈dep.getD i []->km ops j i=true):∀(fuel n:Nat)(listed:Array Bool)(done:List Nat),listed.size=ops.size->(∀i,i<ops.size->listed.getD i true=done.contains i)->At ops listed->left ops.size listed=fuel->
 Region.linearise.go .any ops fuel n listed []∈eL dep fuel done
 |0,n,listed,done,_,_,_,_=>by simp[Region.linearise.go,eL]
 |fuel+1,n,listed,done,hsz,hd,hcl,hl=>by
  have hed1:∀i(h:i<ops.size),∀e∈(ops[i]).after.toList,Region.binds .any e=true->e.on<i:=by
   intro i h e he hb;simp only[mY,dy]at hed;have h6:=hed (ops[i],i) (by rw[Rg];simp[h]);rw[<-ql,dy]at h6;have h7:=h6 e he;rw[hb]at h7;simpa using h7
  have hne:0<((List.range ops.size).filter fun i=>!listed.getD i true&&((ops[i]?).map (·.after.all fun e=>!Region.binds .any e||listed.getD e.on false)).getD false).length:=by
   have hex:∃i,i<ops.size/\listed.getD i true=false:=by
    unfold left at hl;obtain⟨i,hi⟩:=Cb (l:=(List.range ops.size).filter fun i=>!listed.getD i true) (by omega);simp only[dM,eu,jR]at hi;exact⟨i,hi⟩
   have hmin:∀m i,i<=m->i<ops.size->listed.getD i true=false->∃i,i<ops.size/\listed.getD i true=false/\∀j,j<i->listed.getD j true=true:=by
    intro m
    induction m with
    |zero=>intro i h1 h2 h3;exact⟨i,h2,h3,fun j hj=>by omega⟩
    |succ m ihm=>
     intro i h1 h2 h3
     by_cases h4:∃j,j<i/\listed.getD j true=false
     ·obtain⟨j,h5,h6⟩:=h4;exact ihm j (by omega) (by omega) h6
     ·refine⟨i,h2,h3,fun j hj=>?_⟩
      cases hq:listed.getD j true with
      |true=>rfl
      |false=>exact absurd ⟨j,hj,hq⟩ h4
   obtain⟨i0,h1,h2⟩:=hex;obtain⟨i,h3,h4,h5⟩:=hmin i0 i0 (aW _) h1 h2;refine Ie (a:=i) ?_;simp only[dM,eu,h4,uj,uq,iW h3,dp,jt];refine⟨h3,?_⟩;rw[<-ql,dy];intro e he
   cases hb:Region.binds .any e with
   |false=>rfl
   |true=>
    have h7:=hed1 i h3 e he hb;simp only[oY,mN];rw[te (by omega) false true];exact h5 _ h7
  simp only[Region.linearise.go,eL];generalize hrs:((List.range ops.size).filter fun i=>!listed.getD i true&&((ops[i]?).map (·.after.all fun e=>!Region.binds .any e||listed.getD e.on false)).getD false)=rs at hne⊢;have hlt:n%rs.length<rs.length:=w7 _ hne;rw[bn hlt];generalize hri:rs[n%rs.length]=i
  have him:i∈rs:=by rw[<-hri];exact bC hlt
  have him2:=him;rw[<-hrs]at him2;simp only[dM,eu,aw,jR]at him2;obtain⟨h1,h2,h3⟩:=him2;rw[iW h1,dp,jt]at h3
  have hedge:∀e∈(ops[i]).after.toList,Region.binds .any e=true->listed.getD e.on false=true:=by
   intro e he hb;rw[<-ql,dy]at h3;have:=h3 e he;rw[hb]at this;simpa using this
  have hready:i∈(List.range dep.length).filter (j6 dep done):=by
   simp only[dM,eu,j6,aw,jR,hdl];refine⟨h1,by rw[<-hd i h1];exact h2,?_⟩;rw[dy];intro j hj;have h4:=Dm hcl i i j (aW _) ⟨ops[i],iW h1,hedge⟩ (hda i j hj)
   have hjs:j<ops.size:=by
    rw[<-hsz]
    refine uv fun hn=>?_
    rw[gn,mJ (by omega)]at h4
    cases h4
   rw[<-hd j hjs,<-te (by omega) false true];exact h4
  have h2':listed.getD i true=false:=h2;simp only;rw[linearise_go_acc,Rh,qh];refine uo.2 ⟨i,hready,dn.2 ⟨_,Mn hed hdl hda fuel _ _ _ (by simpa using hsz) ?_ ?_ ?_,rfl⟩⟩
  ·intro j hj;simp only[gn,rX]
   by_cases hij:i=j
   ·subst hij;simp[hsz,h1]
   ·rw[if_neg hij];have:=hd j hj;rw[gn]at this;rw[this];simp[Ne.symm hij]
  ·intro j o ho hj e he hb
   have hset:∀q,listed.getD q false=true->(listed.setIfInBounds i true).getD q false=true:=by
    intro q hq;simp only[gn,rX]at hq⊢
    by_cases hiq:i=q
    ·subst hiq;simp[hsz,h1]
    ·rw[if_neg hiq];exact hq
   refine hset _ ?_
   by_cases hij:i=j
   ·subst hij;rw[iW h1]at ho
    cases ho
    exact hedge e he hb
   ·refine hcl j o ho ?_ e he hb;simp only[gn,rX,if_neg hij]at hj⊢;exact hj
  ·have:=Ek h1 h2';omega
theorem ZO{ops:Array Oper}{gs:List AG}(hok:th ops gs=true)(hlen:gs.length=ops.size)(i j:Nat)(hj:j∈(mF gs).getD i []):km ops j i=true:=by
 by_cases hi:i<gs.length
 ·have e:(mF gs).getD i []=(List.range i).filter fun j=>match gs[i]?,gs[j]? with
   |some gi,some gj=>(match gj.dst with
    |some d=>(qX gi).contains d
    |none=>false)
   |_,_=>false:=by
   simp[mF,bG,hi]
  rw[e]at hj;simp only[dM,eu]at hj;obtain⟨hji,hj⟩:=hj;simp only[th,dy,eu]at hok;have h1:=hok i hi;rw[bn hi]at h1 hj;simp only[aw,dy,eu]at h1;have h2:=h1.2 j hji;rw[bn (by omega:j<gs.length)]at h2 hj;simp only at h2 hj
  cases hd:(gs[j]'(by omega)).dst with
  |none=>rw[hd]at hj;cases hj
  |some d=>
   rw[hd]at hj;simp only[lz,hd,hj,oY,Bool.false_and,Bool.or_false,aw]at h2;exact h2.2
 ·rw[bG,jq (by simp[mF];omega)]at hj;simp at hj
theorem JG{P:Program}{Γ:Nat->Option AV}{N:Env}{g0:G}{f0:FuncId}{cs0:List Frame}{f:Fr}{up:List Fr}{h:List Ob}{l:List Bool}{ws:List Nat}{gs:List AG}{k:List It}(hmd:f.md=.run)(hits:f.its=.code (.aQ l ws gs)::k){m:Machine}(hm:cR P Γ N g0 f0 cs0 (.fr f up h) m):
 ∃lst∈eL (mF gs) gs.length [],∃m1,Steps P m m1/\cR P Γ N g0 f0 cs0 (.fr {f with its:=.ops (lst.map fun i=>gs.getD i default)::k} up h) m1:=by
 obtain⟨g,w,tmps,todo,ds,kd,ro,md,fs,rfl,S,hmr⟩:=hm.inv;rw[hmd]at hmr;simp only[MR]at hmr;subst hmr;have hI:=S.its;rw[hits]at hI
 cases todo with
 |nil=>simp only[IR]at hI
 |cons im k'=>
 cases im<;>simp only[IR]at hI
 rename_i c;obtain⟨hC,hk⟩:=hI
 cases c<;>try (simp only[CR]at hC;done)
 rename_i id ops draw
 cases draw<;>simp only[CR]at hC
 obtain⟨hgs,hok,rfl,rfl⟩:=hC;simp only[vO,aw]at hok;obtain⟨⟨hok1,hok2⟩,hok3⟩:=hok
 have hlen:gs.length=ops.size:=by rw[(vx hgs).1];simp
 have hsched:∀x,Region.schedule (P.follows .mixedOrders) ops x=Region.linearise.go .any ops ops.size x (Array.replicate ops.size false) []:=by
  intro x;unfold Region.schedule;rw[if_pos (by simpa using hok3)];rfl
 have hgetD:∀i d,(Array.replicate ops.size false).getD i d=if i<ops.size then false else d:=by
  intro i d;rw[gn,Rj]
  split<;>rfl
 have hleft:left ops.size (Array.replicate ops.size false)=ops.size:=by
  unfold left;rw[w9.2,wW];intro i hi;rw[hgetD,if_pos (by simpa using hi)];rfl
 have hcl:At ops (Array.replicate ops.size false):=by
  intro i o ho hl;have:=aV (l:=ops.toList) (i:=i) (a:=o) (by simpa using ho);rw[hgetD,if_pos (by simpa using this)]at hl
  cases hl
 have hmem:=Mn (dep:=mF gs) hok2 (by simp[mF,hlen]) (ZO hok1 hlen) ops.size (w.tape w.drawn (.order f.fn id)) (Array.replicate ops.size false) [] (by simp) (fun i hi=>by rw[hgetD,if_pos hi];rfl) hcl hleft;have S':St P Γ N g0 f0 g h w.drew f up tmps (.code (.region id ops true)::k') ds kd ro fs:=⟨S.H.world rfl rfl rfl rfl,S.M,S.its,S.t,S.ds,S.kind,S.is,S.b,S.z,S.s⟩;refine⟨_,by rw[hlen];exact hmem,_,Steps.one EN,?_⟩;rw[hsched];exact S'.go hmd (its:=.ops _::k) ⟨zN hgs fun i hi=>Av _ _ _ i hi,hk⟩ S.t
inductive Out where
 |ret (r:AV)
 |die (v:AV)
def GW(P:Program)(Γ:Nat->Option AV)(f:FuncId)(as:List AV):Out->Prop
 |.ret r=>aS P Γ f as r
 |.die v=>kM P Γ f as v
inductive az(P:Program)(Γ:Nat->Option AV):ar->Out->Prop
 |back {v r:AV} {hh:List Ob}:rG hh v=some r->az P Γ (.back [] v hh) (.ret r)
 |die {v:AV} {hh:List Ob}:aF 0 v=true->dS v=true->az P Γ (.die [] v hh) (.die v)
 |reach {c c':ar} {o:Out}:Reach P Γ c c'->az P Γ c' o->az P Γ c o
 |An {f:Fr} {up:List Fr} {h:List Ob} {as:List (List Nat)} {gs:List AG} {k:List It} {o:Out}:f.md=.run->f.its=.code (.ea as gs)::k->(∀v,o=.die v->aF 0 v=true/\dS v=true)->
  (∀l∈eL as as.length [],az P Γ (.fr {f with its:=.ops (l.map fun i=>gs.getD i default)::k} up h) o)->az P Γ (.fr f up h) o
 |z6 {f:Fr} {up:List Fr} {h:List Ob} {l:List Bool} {ws:List Nat} {gs:List AG} {k:List It} {o:Out}:f.md=.run->f.its=.code (.aQ l ws gs)::k->(∀v,o=.die v->aF 0 v=true/\dS v=true)->
  (∀l∈eL (mF gs) gs.length [],az P Γ (.fr {f with its:=.ops (l.map fun i=>gs.getD i default)::k} up h) o)->az P Γ (.fr f up h) o
 |jc {f:Fr} {up:List Fr} {h:List Ob} {a:AG} {os:List AG} {k:List It} {o:Out}:f.md=.run->f.its=.ops (a::os)::k->dt f.t a.guard=some true->ay P Γ f.t h a.op=.either->
  (∀b,az P Γ (.fr {f with its:=.ops os::k,t:=aX f.t a.dst (.bool b)} up h) o)->az P Γ (.fr f up h) o
theorem Zw{N:Env}{g0:G}{f0:FuncId}{cs0:List Frame}{c:ar}{o:Out}(hf:az P Γ c o):∀r,o=.ret r->∀m,cR P Γ N g0 f0 cs0 c m->∃m' v hh,Steps P m m'/\cR P Γ N g0 f0 cs0 (.back [] v hh) m'/\rG hh v=some r:=by
 induction hf with
 |@back v r hh h1=>intro r' hr m hm;cases hr;exact⟨m,v,hh,.refl _ _,hm,h1⟩
 |die _ _=>intro r' hr;cases hr
 |reach h1 _ ih=>
  intro r hr m hm;obtain⟨m1,s1,h2⟩:=y3 h1 m hm;obtain⟨m2,v,hh,s2,h3,h4⟩:=ih r hr m1 h2;exact⟨m2,v,hh,s1.trans s2,h3,h4⟩
 |An hmd hits _ _ ih=>
  intro r hr m hm;obtain⟨l,hl,m1,s1,h2⟩:=Dp hmd hits hm;obtain⟨m2,v,hh,s2,h3,h4⟩:=ih l hl r hr m1 h2;exact⟨m2,v,hh,s1.trans s2,h3,h4⟩
 |z6 hmd hits _ _ ih=>
  intro r hr m hm;obtain⟨l,hl,m1,s1,h2⟩:=JG hmd hits hm;obtain⟨m2,v,hh,s2,h3,h4⟩:=ih l hl r hr m1 h2;exact⟨m2,v,hh,s1.trans s2,h3,h4⟩
 |jc hmd hits hw ha _ ih=>
  intro r hr m hm;obtain⟨b,m1,s1,h2⟩:=C8 hmd hits hw ha hm;obtain⟨m2,v,hh,s2,h3,h4⟩:=ih b r hr m1 h2;exact⟨m2,v,hh,s1.trans s2,h3,h4⟩
theorem ZW{N:Env}{g0:G}{f0:FuncId}{cs0:List Frame}{c:ar}{o:Out}(hf:az P Γ c o):∀v,o=.die v->∀m,cR P Γ N g0 f0 cs0 c m->∃m' hh,Steps P m m'/\cR P Γ N g0 f0 cs0 (.die [] v hh) m':=by
 induction hf with
 |back _=>intro r' hr;cases hr
 |@die v hh _ _=>intro v' hr m hm;cases hr;exact⟨m,hh,.refl _ _,hm⟩
 |reach h1 _ ih=>
  intro r hr m hm;obtain⟨m1,s1,h2⟩:=y3 h1 m hm;obtain⟨m2,hh,s2,h3⟩:=ih r hr m1 h2;exact⟨m2,hh,s1.trans s2,h3⟩
 |An hmd hits _ _ ih=>
  intro r hr m hm;obtain⟨l,hl,m1,s1,h2⟩:=Dp hmd hits hm;obtain⟨m2,hh,s2,h3⟩:=ih l hl r hr m1 h2;exact⟨m2,hh,s1.trans s2,h3⟩
 |z6 hmd hits _ _ ih=>
  intro r hr m hm;obtain⟨l,hl,m1,s1,h2⟩:=JG hmd hits hm;obtain⟨m2,hh,s2,h3⟩:=ih l hl r hr m1 h2;exact⟨m2,hh,s1.trans s2,h3⟩
 |jc hmd hits hw ha _ ih=>
  intro r hr m hm;obtain⟨b,m1,s1,h2⟩:=C8 hmd hits hw ha hm;obtain⟨m2,hh,s2,h3⟩:=ih b r hr m1 h2;exact⟨m2,hh,s1.trans s2,h3⟩
theorem Mf{c:ar}{o:Out}(hf:az P Γ c o):∀v,o=.die v->aF 0 v=true/\dS v=true:=by
 induction hf with
 |back _=>intro r' hr;cases hr
 |@die v hh h1 h2=>intro v' hr;cases hr;exact⟨h1,h2⟩
 |reach _ _ ih=>exact ih
 |An _ _ h1 _ _=>exact h1
 |z6 _ _ h1 _ _=>exact h1
 |jc _ _ _ _ _ ih=>exact ih true
theorem az.go(n:Nat){c:ar}{o:Out}(h:az P Γ (AM.go P Γ 0 n c) o):az P Γ c o:=.reach (.goes n c) h
theorem az.dK(n:Nat){c:ar}{o:Out}(h:az P Γ (AM.go P Γ 1 n c) o):az P Γ c o:=.reach (.goes n c) h
theorem Reach.exit{fn:FuncId}{k k':List It}{t t':List AV}{ds:List da}{kind:FK}{base:Nat}{up:List Fr}{h:List Ob}{id:Nat}{m:List Bool}(h1:m9 id k=some (k',m))(h2:c9 m t=t'):
 Reach P Γ (.fr ⟨.run,fn,.code (.exit id)::k,t,ds,kind,base⟩ up h) (.fr ⟨.run,fn,k',t',ds,kind,base⟩ up h):=by
 refine .one ?_;simp only[eS,gN,h1,h2];exact .refl _
theorem az.call(n:Nat){f:FuncId}{args as:List AV}{r:AV}{up:List Fr}{h:List Ob}{o:Out}(h1:bP h args=some as)(h2:aS P Γ f as r)(h3:az P Γ (AM.go P Γ 0 n (.back up (dE h.length r).1 (fP h args r))) o):az P Γ (.cl f args up h) o:=
 .reach (.pure h1 h2) (.go n h3)
theorem az.kV(n:Nat){f:FuncId}{args as:List AV}{v:AV}{up:List Fr}{h:List Ob}{o:Out}(h1:bP h args=some as)(h2:kM P Γ f as v)(h3:az P Γ (AM.go P Γ 0 n (.die up v h)) o):az P Γ (.cl f args up h) o:=
 .reach (.FN h1 h2) (.go n h3)
theorem GW.of{f:FuncId}{F:aB}{as:List AV}{o:Out}(n:Nat)(hF:aA P f=some F)(hb:au P f=true)
 (h:az P Γ (AM.go P Γ 0 n (.fr ⟨.run,f,[.code F.body],as++List.replicate (F.nt-as.length) .undef,[],.norm,0⟩ [] [])) o):GW P Γ f as o:=by
 have h2:az P Γ (.cl f as [] []) o:=.reach (vy hF as (.refl _)) (.go n h)
 cases o with
 |ret r=>exact aS.wH hb fun _ _ _ _ m hm=>Zw h2 r rfl m hm
 |die v=>exact kM.wH hb (fun _ _ _ _ m hm=>ZW h2 v rfl m hm) (Mf h2 v rfl).1 (Mf h2 v rfl).2
theorem aS.run{f:FuncId}{F:aB}{as:List AV}{r:AV}(n:Nat)(hF:aA P f=some F)(hb:au P f=true)
 (h:az P Γ (AM.go P Γ 0 n (.fr ⟨.run,f,[.code F.body],as++List.replicate (F.nt-as.length) .undef,[],.norm,0⟩ [] [])) (.ret r)):aS P Γ f as r:=GW.of (o:=.ret r) n hF hb h
theorem az.drop{f:Fr}{up:List Fr}{h h':List Ob}{o:Out}(n:Nat)(hh:h.take n=h')(h1:f.base<=n)(h2:jJ n f=true)(h3:cw n h'=true)(h4:az P Γ (.fr f up h') o):az P Γ (.fr f up h) o:=by
 subst hh;exact .reach (.drop n h1 h2 h3) h4
theorem az.reset{f:Fr}{up:List Fr}{h:List Ob}{o:Out}{i k:Nat}{E:TypeId}{es:List AV}{fl sh:Bool}(hi:h[i]? =some (.row k E es (some 0) fl sh))(h1:f.base<=i)(h2:fZ i es.length f=true)(h3:cD i es.length h=true)
 (h4:az P Γ (.fr f up (h.set i (.row k E es none fl sh))) o):az P Γ (.fr f up h) o:=.reach (.reset h1 hi h2 h3) h4
section
variable{fn:FuncId}{k:List It}{t:List AV}{ds:List da}{kind:FK}{base:Nat}{up:List Fr}{h:List Ob}{o:Out}
theorem az.enter(n:Nat){g:FuncId}{F:aB}{args:List AV}(hF:aA P g=some F)(h1:az P Γ (AM.go P Γ 0 n (.fr ⟨.run,g,[.code F.body],args++List.replicate (F.nt-args.length) .undef,[],.norm,h.length⟩ up h)) o):az P Γ (.cl g args up h) o:=
 .reach (vy hF args (.refl _)) (.go n h1)
theorem az.inLoop{m:List Bool}{b:ah}(h1:az P Γ (.fr ⟨.run,fn,.code b::.inLoop m b::k,c9 m t,ds,kind,base⟩ up h) o):az P Γ (.fr ⟨.run,fn,.code (.loop m b)::k,t,ds,kind,base⟩ up h) o:=.reach (MW (.refl _)) h1
theorem az.aN{m:List Bool}{b:ah}(h1:az P Γ (.fr ⟨.run,fn,.code b::.inLoop m b::k,c9 m t,ds,kind,base⟩ up h) o):az P Γ (.fr ⟨.run,fn,.inLoop m b::k,t,ds,kind,base⟩ up h) o:=.reach (MD (.refl _)) h1
end
end
end Go.AM
namespace Go.AM
section
variable{P:Program}{Γ:Nat->Option AV}
def fX(Cs:List (Nat×(List Ob->Prop)))(i:Nat)(h:List Ob):Prop:=∀C∈Cs,i<C.1->C.2 h
@[simp] theorem axD(i:Nat)(h:List Ob):fX [] i h↔True:=by simp[fX]
@[simp] theorem awW(C:Nat×(List Ob->Prop))(Cs:List (Nat×(List Ob->Prop)))(i:Nat)(h:List Ob):fX (C::Cs) i h↔(i<C.1->C.2 h)/\fX Cs i h:=by simp[fX]
structure lL where
 k:List AV->List Ob->Prop
 X:fJ->Prop
def cj(P:Program)(Γ:Nat->Option AV)(K:lL):List Bool->List Nat->Nat->List AG->List AV->List Ob->List (List Ob)->List (Nat×(List Ob->Prop))->Prop
 |_,_,_,[],t,h,_,_=>K.k t h
 |l,ws,i,o::os,t,h,hs,Cs=>
  match dt t o.guard with
  |some true=>
   match ay P Γ t h o.op with
   |.val v h'=>
    if df o.op=2 then fX Cs (i+1) h'/\cj P Γ K l.tail ws.tail (i+1) os (aX t o.dst v) h' (h'::hs) Cs
    else if l.headD true=true/\df o.op=1 then(∀g∈hs,ay P Γ t g o.op=.val v g)/\cj P Γ K l.tail ws.tail (i+1) os (aX t o.dst v) h' hs ((ws.headD 0,fun g=>ay P Γ t g o.op=.val v g)::Cs)
    else cj P Γ K l.tail ws.tail (i+1) os (aX t o.dst v) h' hs Cs
   |.skip h'=>fX Cs (i+1) h'/\cj P Γ K l.tail ws.tail (i+1) os (aX t o.dst (.aG [])) h' (h'::hs) Cs
   |.call f args=>au P f=true/\
    if l.headD true=true then∃(v:AV)(C:List Ob->Prop),(∀g,C g->ay P Γ t g o.op=.call f args/\∀up,Reach P Γ (.cl f args up g) (.back up v g))/\(∀g∈hs,C g)/\cj P Γ K l.tail ws.tail (i+1) os (aX t o.dst v) h hs ((ws.headD 0,C)::Cs)
    else∃(v:AV)(h':List Ob),((∀up,Reach P Γ (.cl f args up h) (.back up v h'))\/K.X ⟨.fn f,args,h,v,h'⟩)/\fX Cs (i+1) h'/\cj P Γ K l.tail ws.tail (i+1) os (aX t o.dst v) h' (h'::hs) Cs
   |.yield y args=>l.headD true=false/\∃(v:AV)(h':List Ob),(∀up,Reach P Γ ((iR.yl y).cfg args up h) (.back up v h'))/\fX Cs (i+1) h'/\cj P Γ K l.tail ws.tail (i+1) os (aX t o.dst v) h' (h'::hs) Cs
   |_=>False
  |some false=>cj P Γ K l.tail ws.tail (i+1) os (aX t o.dst (.aG [])) h hs Cs
  |none=>False
theorem YZ{t:List AV}{h h':List Ob}{o:AO}{v:AV}(hv:ay P Γ t h o=.val v h')(hc:df o≠2):h'=h:=(zq (v:=v) (h':=h') hc).1 hv
def pM(i:Nat)(hs0 hs HS:List (List Ob)):Prop:=∀k g,HS[k]? =some g->(k<=i->g∈hs0)/\(i<k->hs[k-i-1]? =some g)
theorem pM.next{i:Nat}{hs0 hs1 hs HS:List (List Ob)}{h':List Ob}(h1:pM i hs0 (h'::hs) HS)(h2:∀g∈hs0,g∈hs1)(h3:h'∈hs1):pM (i+1) hs1 hs HS:=by
 intro k g hk;obtain⟨a,b⟩:=h1 k g hk;refine⟨fun h=>?_,fun h=>?_⟩
 ·by_cases hki:k<=i
  ·exact h2 g (a hki)
  ·have:=b (by omega)
   have e:k-i-1=0:=by omega
   rw[e]at this;simp at this;subst this;exact h3
 ·have:=b (by omega)
  have e:k-i-1=(k-(i+1)-1)+1:=by omega
  rw[e]at this;simpa using this
theorem pM.all{i w:Nat}{hs0 hs HS:List (List Ob)}{C:List Ob->Prop}(h1:pM i hs0 hs HS)(h2:∀g∈hs0,C g)(h3:∀k g,hs[k]? =some g->i+1+k<w->C g):∀g∈HS.take w,C g:=by
 intro g hg;obtain⟨k,hk⟩:=ur.1 hg;rw[oX]at hk
 split at hk
 ·rename_i hkw;obtain⟨a,b⟩:=h1 k g hk
  by_cases hki:k<=i
  ·exact h2 g (a hki)
  ·exact h3 _ g (b (by omega)) (by omega)
 ·cases hk
theorem n5{K:lL}:∀{gs:List AG}{l:List Bool}{ws:List Nat}{i:Nat}{t:List AV}{h:List Ob}{hs:List (List Ob)}{Cs Cs':List (Nat×(List Ob->Prop))},(∀C∈Cs',C∈Cs)->cj P Γ K l ws i gs t h hs Cs->cj P Γ K l ws i gs t h hs Cs'
 |[],_,_,_,_,_,_,_,_,_,h1=>h1
 |o::os,l,ws,i,t,h,hs,Cs,Cs',hs',h1=>by
  unfold cj at h1⊢
  have hH:∀{j h},fX Cs j h->fX Cs' j h:=fun q C hC=>q C (hs' C hC)
  have hcons:∀{C:Nat×(List Ob->Prop)},∀D∈C::Cs',D∈C::Cs:=by
   intro C D hD
   rcases bq.1 hD with rfl|hD
   ·simp
   ·exact dY _ (hs' D hD)
  split at h1
  ·split at h1
   ·split
    ·rename_i h2;rw[if_pos h2]at h1;exact⟨hH h1.1,n5 hs' h1.2⟩
    ·rename_i h2;rw[if_neg h2]at h1
     split
     ·rename_i h3;rw[if_pos h3]at h1;exact⟨h1.1,n5 hcons h1.2⟩
     ·rename_i h3;rw[if_neg h3]at h1;exact n5 hs' h1
   ·exact⟨hH h1.1,n5 hs' h1.2⟩
   ·refine⟨h1.1,?_⟩;have h1:=h1.2
    split
    ·rename_i h2;rw[if_pos h2]at h1;obtain⟨v,C,a,b,c⟩:=h1;exact⟨v,C,a,b,n5 hcons c⟩
    ·rename_i h2;rw[if_neg h2]at h1;obtain⟨v,h',a,b,c⟩:=h1;exact⟨v,h',a,hH b,n5 hs' c⟩
   ·obtain⟨h0,v,h',a,b,c⟩:=h1;exact⟨h0,v,h',a,hH b,n5 hs' c⟩
   ·exact h1
  ·exact n5 hs' h1
  ·exact h1
theorem xX{K:lL}{gs:List AG}{l:List Bool}{ws:List Nat}{i j:Nat}{t:List AV}{h:List Ob}{hs:List (List Ob)}{Cs:List (Nat×(List Ob->Prop))}(h1:cj P Γ K l ws j gs t h hs Cs):cj P Γ K l ws j gs t h hs (Cs.filter fun C=>decide (i<C.1)):=
 n5 (fun C hC=>(dM.1 hC).1) h1
theorem lh{K:lL}:∀{gs:List AG}{l:List Bool}{ws:List Nat}{i:Nat}{t:List AV}{h:List Ob}{hs0:List (List Ob)}{Cs0:List (Nat×(List Ob->Prop))},cj P Γ K l ws i gs t h hs0 Cs0->h∈hs0->(∀C∈Cs0,∀g∈hs0,C.2 g)->
 ∃(orc:List (AV×List Ob))(t':List AV)(h':List Ob)(obls:List fJ)(hs:List (List Ob))(obls1:List fJ),gE P Γ orc gs t h=some (t',h',obls,hs)/\K.k t' h'/\(∀C∈Cs0,∀k g,hs[k]? =some g->i+1+k<C.1->C.2 g)/\
  (∀o∈obls,o∈obls1)/\(∀o∈obls1,(∀up,Reach P Γ (o.f.cfg o.args up o.h) (.back up o.v o.h'))\/K.X o)/\
  ∀(HS:List (List Ob))(obls0:List fJ),pM i hs0 hs HS->(∀o∈obls1,o∈obls0)->calm P Γ obls0 HS l ws orc gs t h
 |[],l,ws,i,t,h,hs0,Cs0,hD,_,_=>⟨[],t,h,[],[],[],rfl,hD,by simp,by simp,by simp,fun _ _ _ _=>trivial⟩
 |o::os,l,ws,i,t,h,hs0,Cs0,hD,hh,hC=>by
  unfold cj at hD;unfold gE calm
  have hnext:∀{h':List Ob}{hs:List (List Ob)},(∀C∈Cs0,i+1<C.1->C.2 h')->(∀C∈Cs0,∀k g,hs[k]? =some g->i+1+1+k<C.1->C.2 g)->∀C∈Cs0,∀k g,(h'::hs)[k]? =some g->i+1+k<C.1->C.2 g:=by
   intro h' hs q1 q2 C hCm k g hk hlt
   cases k with
   |zero=>simp at hk;subst hk;exact q1 C hCm (by omega)
   |succ k=>exact q2 C hCm k g (by simpa using hk) (by omega)
  cases hw:dt t o.guard with
  |none=>rw[hw]at hD;exact hD.elim
  |some b=>
   rw[hw]at hD
   cases b with
   |false=>
    simp only at hD⊢;obtain⟨orc,t',h2',obls,hs,obls1,e1,e2,e3,e4,e5,e6⟩:=lh hD hh hC;exact⟨orc,t',h2',obls,h::hs,obls1,by rw[e1];rfl,e2,hnext (fun C hCm _=>hC C hCm h hh) e3,e4,e5,fun HS obls0 q1 q2=>e6 HS obls0 (q1.next (fun _ x=>x) hh) q2⟩
   |true=>
    simp only at hD⊢
    cases ha:ay P Γ t h o.op with
    |val v h'=>
     rw[ha]at hD;simp only at hD⊢
     by_cases h2:df o.op=2
     ·rw[if_pos h2]at hD;obtain⟨hn,hD⟩:=hD
      have p9:∀C∈Cs0.filter (fun C=>decide (i+1<C.1)),∀g∈h'::hs0,C.2 g:=by
       intro C hCm g hg;simp only[dM,bd]at hCm
       rcases bq.1 hg with rfl|hg
       ·exact hn C hCm.1 hCm.2
       ·exact hC C hCm.1 g hg
      have hD':=xX (i:=i+1) hD;obtain⟨orc,t',h2',obls,hs,obls1,e1,e2,e3,e4,e5,e6⟩:=lh hD' (by simp) p9
      refine⟨orc,t',h2',obls,h'::hs,obls1,by rw[e1];rfl,e2,hnext hn (fun C hCm k g hk hlt=>e3 C (by simp only[dM,bd];exact⟨hCm,by omega⟩) k g hk hlt),e4,e5,
       fun HS obls0 q1 q2=>⟨fun _ h1=>(by rw[h2]at h1;cases h1),e6 HS obls0 (q1.next (fun _ x=>dY _ x) (by simp)) q2⟩⟩
     ·rw[if_neg h2]at hD;have hhe:=YZ ha h2
      by_cases h1:l.headD true=true/\df o.op=1
      ·rw[if_pos h1]at hD;obtain⟨hn,hD⟩:=hD;subst hhe
       obtain⟨orc,t',h2',obls,hs,obls1,e1,e2,e3,e4,e5,e6⟩:=lh hD hh (fun C hCm g hg=>by
        rcases bq.1 hCm with rfl|hCm
        ·exact hn g hg
        ·exact hC C hCm g hg)
       refine⟨orc,t',h2',obls,h'::hs,obls1,by rw[e1];rfl,e2,hnext (fun C hCm _=>hC C hCm h' hh) (fun C hCm=>e3 C (dY _ hCm)),e4,e5,fun HS obls0 q1 q2=>⟨fun _ _ g hg=>?_,e6 HS obls0 (q1.next (fun _ x=>x) hh) q2⟩⟩;have q1':=q1.next (hs1:=hs0) (fun _ x=>x) hh;exact q1'.all (C:=fun g=>ay P Γ t g o.op=.val v g) hn (fun k g hk hlt=>e3 _ qm k g hk hlt) g hg
      ·rw[if_neg h1]at hD;subst hhe;obtain⟨orc,t',h2',obls,hs,obls1,e1,e2,e3,e4,e5,e6⟩:=lh hD hh hC;exact⟨orc,t',h2',obls,h'::hs,obls1,by rw[e1];rfl,e2,hnext (fun C hCm _=>hC C hCm h' hh) e3,e4,e5,fun HS obls0 q1 q2=>⟨fun q3 q4=>absurd ⟨q3,q4⟩ h1,e6 HS obls0 (q1.next (fun _ x=>x) hh) q2⟩⟩
    |skip h'=>
     rw[ha]at hD;simp only at hD⊢;obtain⟨hn,hD⟩:=hD
     have p9:∀C∈Cs0.filter (fun C=>decide (i+1<C.1)),∀g∈h'::hs0,C.2 g:=by
      intro C hCm g hg;simp only[dM,bd]at hCm
      rcases bq.1 hg with rfl|hg
      ·exact hn C hCm.1 hCm.2
      ·exact hC C hCm.1 g hg
     have hD':=xX (i:=i+1) hD;obtain⟨orc,t',h2',obls,hs,obls1,e1,e2,e3,e4,e5,e6⟩:=lh hD' (by simp) p9
     exact⟨orc,t',h2',obls,h'::hs,obls1,by rw[e1];rfl,e2,hnext hn (fun C hCm k g hk hlt=>e3 C (by simp only[dM,bd];exact⟨hCm,by omega⟩) k g hk hlt),e4,e5,
      fun HS obls0 q1 q2=>e6 HS obls0 (q1.next (fun _ x=>dY _ x) (by simp)) q2⟩
    |call f args=>
     rw[ha]at hD;simp only at hD⊢;obtain⟨hb,hD⟩:=hD
     have hb':¬au P f=false:=by simp[hb]
     by_cases hl:l.headD true=true
     ·rw[if_pos hl]at hD;obtain⟨v,C,hC1,hC2,hD⟩:=hD
      obtain⟨orc,t',h2',obls,hs,obls1,e1,e2,e3,e4,e5,e6⟩:=lh hD hh (fun C' hCm g hg=>by
       rcases bq.1 hCm with rfl|hCm
       ·exact hC2 g hg
       ·exact hC C' hCm g hg)
      have hall:∀{HS:List (List Ob)},pM i hs0 (h::hs) HS->∀g∈HS.take (ws.headD 0),C g:=fun q1=>(q1.next (hs1:=hs0) (fun _ x=>x) hh).all hC2 (fun k g hk hlt=>e3 _ qm k g hk hlt)
      have hHS:pM i hs0 (h::hs) (List.replicate (i+1) h++h::hs):=by
       intro k g hk;refine⟨fun hki=>?_,fun hki=>?_⟩
       ·rw[dz (by simp;omega),Ro,if_pos (by omega)]at hk
        cases hk
        exact hh
       ·rw[dL (by simp;omega)]at hk;rw[rW]at hk;rw[show k-i-1=k-(i+1) by omega];exact hk
      have hgs:∀g,g∈hs0\/(∃k,hs[k]? =some g/\i+1+1+k<ws.headD 0)->C g:=by
       rintro g (hg|⟨k,hk,hlt⟩)
       ·exact hC2 g hg
       ·exact e3 _ qm k g hk hlt
      refine⟨(v,h)::orc,t',h2',⟨.fn f,args,h,v,h⟩::obls,h::hs,((hs0++(hs.take (ws.headD 0-(i+2)))).map fun g=>⟨.fn f,args,g,v,g⟩)++obls1,by rw[if_neg hb'];simp only[e1,dp],e2,hnext (fun C' hCm _=>hC C' hCm h hh) (fun C' hCm=>e3 C' (dY _ hCm)),
       fun ob hob=>?_,fun ob hob=>?_,fun HS obls0 q1 q2=>⟨fun _=>⟨rfl,fun g hg=>?_⟩,e6 HS obls0 (q1.next (fun _ x=>x) hh) (fun ob hob=>q2 ob (Rp _ hob))⟩⟩
      ·rcases bq.1 hob with rfl|hob
       ·exact uw _ (dn.2 ⟨h,uw _ hh,rfl⟩)
       ·exact Rp _ (e4 ob hob)
      ·rcases bF.1 hob with hob|hob
       ·obtain⟨g,hg,rfl⟩:=dn.1 hob;refine .inl (hC1 g (hgs g ?_)).2
        rcases bF.1 hg with hg|hg
        ·exact Or.inl hg
        ·obtain⟨k,hk⟩:=ur.1 hg;rw[oX]at hk
         split at hk
         ·exact Or.inr ⟨k,hk,by omega⟩
         ·cases hk
       ·exact e5 ob hob
      ·refine⟨(hC1 g (hall q1 g hg)).1,q2 _ (uw _ (dn.2 ⟨g,?_,rfl⟩))⟩;obtain⟨k,hk⟩:=ur.1 hg;rw[oX]at hk
       split at hk
       ·rename_i hkw;obtain⟨x1,x2⟩:=q1 k g hk
        by_cases hki:k<=i
        ·exact uw _ (x1 hki)
        ·have x3:=x2 (by omega)
         by_cases hk1:k=i+1
         ·subst hk1;simp at x3;subst x3;exact uw _ hh
         ·rw[show k-i-1=(k-(i+2))+1 by omega]at x3;simp only[nF]at x3;refine Rp _ (gX (i:=k-(i+2)) ?_);rw[oX,if_pos (by omega)];exact x3
       ·cases hk
     ·rw[if_neg hl]at hD;obtain⟨v,h',hR,hn,hD⟩:=hD
      have p9:∀C∈Cs0.filter (fun C=>decide (i+1<C.1)),∀g∈h'::hs0,C.2 g:=by
       intro C hCm g hg;simp only[dM,bd]at hCm
       rcases bq.1 hg with rfl|hg
       ·exact hn C hCm.1 hCm.2
       ·exact hC C hCm.1 g hg
      have hD':=xX (i:=i+1) hD;obtain⟨orc,t',h2',obls,hs,obls1,e1,e2,e3,e4,e5,e6⟩:=lh hD' (by simp) p9
      refine⟨(v,h')::orc,t',h2',⟨.fn f,args,h,v,h'⟩::obls,h'::hs,⟨.fn f,args,h,v,h'⟩::obls1,by rw[if_neg hb'];simp only[e1,dp],e2,hnext hn (fun C hCm k g hk hlt=>e3 C (by simp only[dM,bd];exact⟨hCm,by omega⟩) k g hk hlt),
       fun ob hob=>?_,fun ob hob=>?_,fun HS obls0 q1 q2=>⟨fun q3=>absurd q3 hl,e6 HS obls0 (q1.next (fun _ x=>dY _ x) (by simp)) (fun ob hob=>q2 ob (dY _ hob))⟩⟩
      ·rcases bq.1 hob with rfl|hob
       ·simp
       ·exact dY _ (e4 ob hob)
      ·rcases bq.1 hob with rfl|hob
       ·exact hR
       ·exact e5 ob hob
    |yield y args=>
     rw[ha]at hD;simp only at hD⊢;obtain⟨hl,v,h',hR,hn,hD⟩:=hD
     have p9:∀C∈Cs0.filter (fun C=>decide (i+1<C.1)),∀g∈h'::hs0,C.2 g:=by
      intro C hCm g hg;simp only[dM,bd]at hCm
      rcases bq.1 hg with rfl|hg
      ·exact hn C hCm.1 hCm.2
      ·exact hC C hCm.1 g hg
     have hD':=xX (i:=i+1) hD;obtain⟨orc,t',h2',obls,hs,obls1,e1,e2,e3,e4,e5,e6⟩:=lh hD' (by simp) p9
     refine⟨(v,h')::orc,t',h2',⟨.yl y,args,h,v,h'⟩::obls,h'::hs,⟨.yl y,args,h,v,h'⟩::obls1,by simp only[e1,dp],e2,hnext hn (fun C hCm k g hk hlt=>e3 C (by simp only[dM,bd];exact⟨hCm,by omega⟩) k g hk hlt),
      fun ob hob=>?_,fun ob hob=>?_,fun HS obls0 q1 q2=>⟨hl,e6 HS obls0 (q1.next (fun _ x=>dY _ x) (by simp)) (fun ob hob=>q2 ob (dY _ hob))⟩⟩
     ·rcases bq.1 hob with rfl|hob
      ·simp
      ·exact dY _ (e4 ob hob)
     ·rcases bq.1 hob with rfl|hob
      ·exact .inl hR
      ·exact e5 ob hob
    |_=>rw[ha]at hD;exact hD.elim
structure gk where
 fn:FuncId
 k:List It
 e:Cx
 n:Nat
 st:Nat
def gk.Oc(P:Program)(Γ:Nat->Option AV)(b:gk)(o:Out):lL:=⟨fun t h=>az P Γ (AM.go P Γ 0 b.n (.fr ⟨.run,b.fn,b.k,t,b.e.ds,b.e.kind,b.e.base⟩ b.e.up h)) o,fun _=>False⟩
def gk.reach(P:Program)(Γ:Nat->Option AV)(b:gk)(c:ar):lL:=⟨fun t h=>Reach P Γ (AM.go P Γ b.st b.n (.fr ⟨.run,b.fn,b.k,t,b.e.ds,b.e.kind,b.e.base⟩ b.e.up h)) c,fun _=>False⟩
def Ax(h:List Ob):Prop:=∃(i:Nat)(E:TypeId)(es:List AV)(gr:Option Nat)(fl sh:Bool),h[i]? =some (.row 0 E es gr fl sh)
abbrev A0:Ob:=.row 0 0 [] none false false
theorem Ax.of{h:List Ob}(h1:A0∈h):Ax h:=by
 obtain⟨i,hi⟩:=ur.1 h1;exact⟨i,_,_,_,_,_,hi⟩
def gk.die(P:Program)(Γ:Nat->Option AV)(b:gk)(gs:List AG)(t0:List AV)(D:ar):lL:=⟨fun _ h=>Ax h,fun o=>∀its t,tG gs t0 t->Reach P Γ (o.f.cfg o.args (⟨.run,b.fn,its,t,b.e.ds,b.e.kind,b.e.base⟩::b.e.up) o.h) D⟩
variable{fn:FuncId}{k:List It}{t:List AV}{ds:List da}{kind:FK}{base:Nat}{up:List Fr}{h:List Ob}
theorem Reach.dr{l:List Bool}{ws:List Nat}{gs:List AG}{c:ar}(h1:cj P Γ ⟨fun t' h'=>Reach P Γ (.fr ⟨.run,fn,k,t',ds,kind,base⟩ up h') c,fun _=>False⟩ l ws 0 gs t h [h] []):
 Reach P Γ (.fr ⟨.run,fn,.code (.aQ l ws gs)::k,t,ds,kind,base⟩ up h) c:=by
 obtain⟨orc,t',h',obls,hs,obls1,e1,e2,_,e4,e5,e6⟩:=lh h1 (by simp) (by simp)
 exact .trans (.aQ (f:=⟨.run,fn,.code (.aQ l ws gs)::k,t,ds,kind,base⟩) rfl rfl e1 e4 (fun o ho up=>(e5 o ho).elim (fun h=>h up) False.elim) (e6 (h::hs) obls1 (by
  intro k g hk;refine⟨fun hk0=>?_,fun hk0=>?_⟩
  ·have:k=0:=by omega
   subst this;simp at hk;simp[hk]
  ·cases k with
   |zero=>omega
   |succ k=>simpa using hk) (fun _ ho=>ho))) e2
theorem Reach.NL{l:List Bool}{ws:List Nat}{gs:List AG}{D:ar}(h1:cj P Γ (gk.die P Γ ⟨fn,k,⟨ds,kind,base,up⟩,0,0⟩ gs t D) l ws 0 gs t h [h] []):
 Reach P Γ (.fr ⟨.run,fn,.code (.aQ l ws gs)::k,t,ds,kind,base⟩ up h) D:=by
 obtain⟨orc,t',h',obls,hs,obls1,e1,e2,_,e4,e5,e6⟩:=lh h1 (by simp) (by simp);obtain⟨i,E,es,gr,fl,sh,hi⟩:=e2
 refine .zY (f:=⟨.run,fn,.code (.aQ l ws gs)::k,t,ds,kind,base⟩) (fun o=>¬∀up,Reach P Γ (o.f.cfg o.args up o.h) (.back up o.v o.h')) rfl rfl e1 e4 (fun o ho hd=>by simpa using hd) (fun o ho hd=>(e5 o ho).resolve_left hd) (e6 (h::hs) obls1 (by
  intro k g hk;refine⟨fun hk0=>?_,fun hk0=>?_⟩
  ·have:k=0:=by omega
   subst this;simp at hk;simp[hk]
  ·cases k with
   |zero=>omega
   |succ k=>simpa using hk) (fun _ ho=>ho)) hi
theorem mW{K K':lL}(hX:∀o,K.X o->K'.X o)(hK:∀t h,K.k t h->K'.k t h):∀{gs:List AG}{l:List Bool}{ws:List Nat}{i:Nat}{t:List AV}{h:List Ob}{hs:List (List Ob)}{Cs:List (Nat×(List Ob->Prop))},cj P Γ K l ws i gs t h hs Cs->cj P Γ K' l ws i gs t h hs Cs
 |[],_,_,_,_,_,_,_,h1=>hK _ _ h1
 |o::os,l,ws,i,t,h,hs,Cs,h1=>by
  unfold cj at h1⊢
  split at h1
  ·split at h1
   ·split
    ·rename_i h2;rw[if_pos h2]at h1;exact⟨h1.1,mW hX hK h1.2⟩
    ·rename_i h2;rw[if_neg h2]at h1
     split
     ·rename_i h3;rw[if_pos h3]at h1;exact⟨h1.1,mW hX hK h1.2⟩
     ·rename_i h3;rw[if_neg h3]at h1;exact mW hX hK h1
   ·exact⟨h1.1,mW hX hK h1.2⟩
   ·refine⟨h1.1,?_⟩;have h1:=h1.2
    split
    ·rename_i h2;rw[if_pos h2]at h1;obtain⟨v,C,a,b,c⟩:=h1;exact⟨v,C,a,b,mW hX hK c⟩
    ·rename_i h2;rw[if_neg h2]at h1;obtain⟨v,h',a,b,c⟩:=h1;exact⟨v,h',a.imp_right (hX _),b,mW hX hK c⟩
   ·obtain⟨h0,v,h',a,b,c⟩:=h1;exact⟨h0,v,h',a,b,mW hX hK c⟩
   ·exact h1
  ·exact mW hX hK h1
  ·exact h1
theorem az.dr(n:Nat){l:List Bool}{ws:List Nat}{gs:List AG}{o:Out}(h1:cj P Γ (gk.Oc P Γ ⟨fn,k,⟨ds,kind,base,up⟩,n,0⟩ o) l ws 0 gs t h [h] []):
 az P Γ (.fr ⟨.run,fn,.code (.aQ l ws gs)::k,t,ds,kind,base⟩ up h) o:=by
 cases o with
 |ret r=>
  obtain⟨orc,t',h',obls,hs,obls1,e1,e2,_,e4,e5,e6⟩:=lh h1 (by simp) (by simp)
  refine .reach (.aQ (f:=⟨.run,fn,.code (.aQ l ws gs)::k,t,ds,kind,base⟩) rfl rfl e1 e4 (fun o ho up=>(e5 o ho).elim (fun h=>h up) False.elim) (e6 (h::hs) obls1 (by
  intro k g hk;refine⟨fun hk0=>?_,fun hk0=>?_⟩
  ·have:k=0:=by omega
   subst this;simp at hk;simp[hk]
  ·cases k with
   |zero=>omega
   |succ k=>simpa using hk) (fun _ ho=>ho))) (.go n e2)
 |die v=>
  obtain⟨orc,t',h',obls,hs,obls1,e1,e2,_,e4,e5,e6⟩:=lh h1 (by simp) (by simp)
  refine .reach (.aQ (f:=⟨.run,fn,.code (.aQ l ws gs)::k,t,ds,kind,base⟩) rfl rfl e1 e4 (fun o ho up=>(e5 o ho).elim (fun h=>h up) False.elim) (e6 (h::hs) obls1 (by
  intro k g hk;refine⟨fun hk0=>?_,fun hk0=>?_⟩
  ·have:k=0:=by omega
   subst this;simp at hk;simp[hk]
  ·cases k with
   |zero=>omega
   |succ k=>simpa using hk) (fun _ ho=>ho))) (.go n e2)
theorem Reach.drS(n:Nat){l:List Bool}{ws:List Nat}{gs:List AG}{c:ar}(h1:cj P Γ (gk.reach P Γ ⟨fn,k,⟨ds,kind,base,up⟩,n,1⟩ c) l ws 0 gs t h [h] []):
 Reach P Γ (.fr ⟨.run,fn,.code (.aQ l ws gs)::k,t,ds,kind,base⟩ up h) c:=.dr (mW (K:=gk.reach P Γ ⟨fn,k,⟨ds,kind,base,up⟩,n,1⟩ c) (K':=⟨fun t' h'=>Reach P Γ (.fr ⟨.run,fn,k,t',ds,kind,base⟩ up h') c,fun _=>False⟩) (fun _ x=>x) (fun _ _ hr=>Reach.dK n hr) h1)
theorem Reach.nw(n:Nat){l:List Bool}{ws:List Nat}{gs:List AG}{c:ar}(h1:cj P Γ (gk.reach P Γ ⟨fn,k,⟨ds,kind,base,up⟩,n,2⟩ c) l ws 0 gs t h [h] []):
 Reach P Γ (.fr ⟨.run,fn,.code (.aQ l ws gs)::k,t,ds,kind,base⟩ up h) c:=.dr (mW (K:=gk.reach P Γ ⟨fn,k,⟨ds,kind,base,up⟩,n,2⟩ c) (K':=⟨fun t' h'=>Reach P Γ (.fr ⟨.run,fn,k,t',ds,kind,base⟩ up h') c,fun _=>False⟩) (fun _ x=>x) (fun _ _ hr=>Reach.ba n hr) h1)
variable{K:lL}{l:List Bool}{ws:List Nat}{i w:Nat}{b:Bool}{d:Option Nat}{a:AO}{os:List AG}{hs:List (List Ob)}{Cs:List (Nat×(List Ob->Prop))}{h':List Ob}{v:AV}{f:FuncId}{args:List AV}
def p4(P:Program)(Γ:Nat->Option AV)(K:lL)(b:Bool)(l:List Bool)(w:Nat)(ws:List Nat)(i:Nat)(d:Option Nat)(a:AO)(os:List AG)(t:List AV)(h:List Ob)(hs:List (List Ob))(Cs:List (Nat×(List Ob->Prop))):R->Prop
 |.val v h'=>
  if df a=2 then fX Cs (i+1) h'/\cj P Γ K l ws (i+1) os (aX t d v) h' (h'::hs) Cs
  else if b=true/\df a=1 then(∀g∈hs,ay P Γ t g a=.val v g)/\cj P Γ K l ws (i+1) os (aX t d v) h' hs ((w,fun g=>ay P Γ t g a=.val v g)::Cs)
  else cj P Γ K l ws (i+1) os (aX t d v) h' hs Cs
 |.skip h'=>fX Cs (i+1) h'/\cj P Γ K l ws (i+1) os (aX t d (.aG [])) h' (h'::hs) Cs
 |.call f args=>au P f=true/\
  if b=true then∃(v:AV)(C:List Ob->Prop),(∀g,C g->ay P Γ t g a=.call f args/\∀up,Reach P Γ (.cl f args up g) (.back up v g))/\(∀g∈hs,C g)/\cj P Γ K l ws (i+1) os (aX t d v) h hs ((w,C)::Cs)
  else∃(v:AV)(h':List Ob),((∀up,Reach P Γ (.cl f args up h) (.back up v h'))\/K.X ⟨.fn f,args,h,v,h'⟩)/\fX Cs (i+1) h'/\cj P Γ K l ws (i+1) os (aX t d v) h' (h'::hs) Cs
 |.yield y args=>b=false/\∃(v:AV)(h':List Ob),(∀up,Reach P Γ ((iR.yl y).cfg args up h) (.back up v h'))/\fX Cs (i+1) h'/\cj P Γ K l ws (i+1) os (aX t d v) h' (h'::hs) Cs
 |_=>False
structure G0(P:Program)(Γ:Nat->Option AV)(K:lL)(b:Bool)(l:List Bool)(w:Nat)(ws:List Nat)(i:Nat)(d:Option Nat)(a:AO)(os:List AG)(t:List AV)(h:List Ob)(hs:List (List Ob))(Cs:List (Nat×(List Ob->Prop)))(y:Nat)(args:List AV):Prop where
 is:p4 P Γ K b l w ws i d a os t h hs Cs (.yield y args)
structure f_(P:Program)(Γ:Nat->Option AV)(K:lL)(b:Bool)(l:List Bool)(w:Nat)(ws:List Nat)(i:Nat)(d:Option Nat)(a:AO)(os:List AG)(t:List AV)(h:List Ob)(hs:List (List Ob))(Cs:List (Nat×(List Ob->Prop)))(f:FuncId)(args:List AV):Prop where
 is:p4 P Γ K b l w ws i d a os t h hs Cs (.call f args)
@[simp] theorem axb{bh:gk}{o:Out}:cj P Γ (gk.Oc P Γ bh o) l ws i [] t h hs Cs↔az P Γ (AM.go P Γ 0 bh.n (.fr ⟨.run,bh.fn,bh.k,t,bh.e.ds,bh.e.kind,bh.e.base⟩ bh.e.up h)) o:=nO
@[simp] theorem awL{bh:gk}{c:ar}:cj P Γ (gk.reach P Γ bh c) l ws i [] t h hs Cs↔Reach P Γ (AM.go P Γ bh.st bh.n (.fr ⟨.run,bh.fn,bh.k,t,bh.e.ds,bh.e.kind,bh.e.base⟩ bh.e.up h)) c:=nO
@[simp] theorem axP{bh:gk}{gs0:List AG}{t0:List AV}{D:ar}:cj P Γ (gk.die P Γ bh gs0 t0 D) l ws i [] t h hs Cs↔Ax h:=nO
@[simp] theorem ayb:cj P Γ K (b::l) (w::ws) i (⟨d,none,a⟩::os) t h hs Cs↔p4 P Γ K b l w ws i d a os t h hs Cs (ay P Γ t h a):=by
 rw[cj];simp only[U9]
 cases ay P Γ t h a<;>exact nO
@[simp] theorem axv{j:Nat}{u:Bool}:cj P Γ K (b::l) (w::ws) i (⟨d,some (j,u),a⟩::os) t h hs Cs↔(match dt t (some (j,u))with
  |some true=>p4 P Γ K b l w ws i d a os t h hs Cs (ay P Γ t h a)
  |some false=>cj P Γ K l ws (i+1) os (aX t d (.aG [])) h hs Cs
  |none=>False):=by
 rw[cj]
 cases dt t (some (j,u))with
 |none=>exact nO
 |some x=>
  cases x with
  |false=>exact nO
  |true=>cases ay P Γ t h a<;>exact nO
@[simp] theorem ayf:p4 P Γ K b l w ws i d a os t h hs Cs (.val v h')↔if df a=2 then fX Cs (i+1) h'/\cj P Γ K l ws (i+1) os (aX t d v) h' (h'::hs) Cs
  else if b=true/\df a=1 then(∀g∈hs,ay P Γ t g a=.val v g)/\cj P Γ K l ws (i+1) os (aX t d v) h' hs ((w,fun g=>ay P Γ t g a=.val v g)::Cs)
  else cj P Γ K l ws (i+1) os (aX t d v) h' hs Cs:=nO
@[simp] theorem axK:p4 P Γ K b l w ws i d a os t h hs Cs (.skip h')↔fX Cs (i+1) h'/\cj P Γ K l ws (i+1) os (aX t d (.aG [])) h' (h'::hs) Cs:=nO
@[simp] theorem axZ:p4 P Γ K b l w ws i d a os t h hs Cs (.call f args)↔f_ P Γ K b l w ws i d a os t h hs Cs f args:=⟨fun h1=>⟨h1⟩,fun h1=>h1.is⟩
@[simp] theorem awZ{y:Nat}:p4 P Γ K b l w ws i d a os t h hs Cs (.yield y args)↔G0 P Γ K b l w ws i d a os t h hs Cs y args:=⟨fun h1=>⟨h1⟩,fun h1=>h1.is⟩
theorem G0.go{y:Nat}(v:AV)(h':List Ob)(h1:∀up,Reach P Γ ((iR.yl y).cfg args up h) (.back up v h'))
 (h3:fX Cs (i+1) h'/\cj P Γ K l ws (i+1) os (aX t d v) h' (h'::hs) Cs):G0 P Γ K false l w ws i d a os t h hs Cs y args:=⟨⟨rfl,v,h',h1,h3.1,h3.2⟩⟩
theorem back_eq{f:FuncId}{args as:List AV}{r:AV}{h:List Ob}(h1:bP h args=some as)(h2:aS P Γ f as r):∀up,Reach P Γ (.cl f args up h) (.back up (dE h.length r).1 (fP h args r)):=fun _=>.pure h1 h2
theorem f_.call{as:List AV}{r:AV}(h1:bP h args=some as)(h2:aS P Γ f as r)
 (h3:fX Cs (i+1) (fP h args r)/\cj P Γ K l ws (i+1) os (aX t d (dE h.length r).1) (fP h args r) (fP h args r::hs) Cs):f_ P Γ K false l w ws i d a os t h hs Cs f args:=
 ⟨h2.1,by rw[if_neg (by simp)];exact⟨_,_,.inl (back_eq h1 h2),h3.1,h3.2⟩⟩
theorem f_.quiet{as:List AV}{r:AV}(h2:aS P Γ f as r)(hr:∀n,dE n r=(r,[]))
 (h1:∀g∈hs,ay P Γ t g a=.call f args/\bP g args=some as/\fP g args r=g)
 (h3:cj P Γ K l ws (i+1) os (aX t d r) h hs ((w,fun g=>ay P Γ t g a=.call f args/\bP g args=some as/\fP g args r=g)::Cs)):f_ P Γ K true l w ws i d a os t h hs Cs f args:=
 ⟨h2.1,by
  rw[if_pos rfl];refine⟨r,_,fun g hg=>⟨hg.1,fun up=>?_⟩,h1,h3⟩;have h4:=back_eq hg.2.1 h2 up;rw[hr,hg.2.2]at h4
  exact h4⟩
theorem f_.reach{v:AV}{h':List Ob}(hb:au P f=true)(h1:∀up,Reach P Γ (.cl f args up h) (.back up v h'))
 (h3:fX Cs (i+1) h'/\cj P Γ K l ws (i+1) os (aX t d v) h' (h'::hs) Cs):f_ P Γ K false l w ws i d a os t h hs Cs f args:=
 ⟨hb,by rw[if_neg (by simp)];exact⟨_,_,.inl h1,h3.1,h3.2⟩⟩
theorem f_.die(v:AV){bh:gk}{gs0:List AG}{t0:List AV}{D:ar}(hb:au P f=true)(h1:∀its t',tG gs0 t0 t'->Reach P Γ (.cl f args (⟨.run,bh.fn,its,t',bh.e.ds,bh.e.kind,bh.e.base⟩::bh.e.up) h) D)
 (h3:fX Cs (i+1) (h++[A0])/\cj P Γ (gk.die P Γ bh gs0 t0 D) l ws (i+1) os (aX t d v) (h++[A0]) ((h++[A0])::hs) Cs):f_ P Γ (gk.die P Γ bh gs0 t0 D) false l w ws i d a os t h hs Cs f args:=
 ⟨hb,by rw[if_neg (by simp)];exact⟨v,_,.inr h1,h3.1,h3.2⟩⟩
theorem az.a_(n:Nat){v:AV}{h':List Ob}{o:Out}(h1:∀up,Reach P Γ (.cl f args up h) (.back up v h'))(h2:az P Γ (AM.go P Γ 0 n (.back up v h')) o):az P Γ (.cl f args up h) o:=.reach (h1 up) (.go n h2)
theorem Reach.a_(n:Nat){v:AV}{h':List Ob}{c:ar}(h1:∀up,Reach P Γ (.cl f args up h) (.back up v h'))(h2:Reach P Γ (AM.go P Γ 2 n (AM.pop (.back up v h'))) c):Reach P Γ (.cl f args up h) c:=.trans (h1 up) (.trans (.pop _) (.ba n h2))
theorem Reach.na(n:Nat){as:List AV}{r:AV}{c:ar}(h1:bP h args=some as)(h2:aS P Γ f as r)(h3:Reach P Γ (AM.go P Γ 2 n (AM.pop (.back up (dE h.length r).1 (fP h args r)))) c):Reach P Γ (.cl f args up h) c:=.a_ n (back_eq h1 h2) h3
theorem Reach.bB(n:Nat){F:aB}{c:ar}(hF:aA P f=some F)(h1:Reach P Γ (AM.go P Γ 2 n (.fr ⟨.run,f,[.code F.body],args++List.replicate (F.nt-args.length) .undef,[],.norm,h.length⟩ up h)) c):Reach P Γ (.cl f args up h) c:=vy hF args (.ba n h1)
theorem Reach.inLoop{m:List Bool}{bc:ah}{c:ar}(h1:Reach P Γ (.fr ⟨.run,fn,.code bc::.inLoop m bc::k,c9 m t,ds,kind,base⟩ up h) c):Reach P Γ (.fr ⟨.run,fn,.code (.loop m bc)::k,t,ds,kind,base⟩ up h) c:=.trans (MW (.refl _)) h1
theorem Reach.aN{m:List Bool}{bc:ah}{c:ar}(h1:Reach P Γ (.fr ⟨.run,fn,.code bc::.inLoop m bc::k,c9 m t,ds,kind,base⟩ up h) c):Reach P Γ (.fr ⟨.run,fn,.inLoop m bc::k,t,ds,kind,base⟩ up h) c:=.trans (MD (.refl _)) h1
theorem Reach.ml{f:Fr}{h':List Ob}{c:ar}(n:Nat)(hh:h.take n=h')(h1:f.base<=n)(h2:jJ n f=true)(h3:cw n h'=true)(h4:Reach P Γ (.fr f up h') c):Reach P Γ (.fr f up h) c:=by
 subst hh;exact .trans (.drop n h1 h2 h3) h4
theorem Reach.pF{f:Fr}{i k:Nat}{E:TypeId}{es:List AV}{fl sh:Bool}{c:ar}(hi:h[i]? =some (.row k E es (some 0) fl sh))(h1:f.base<=i)(h2:fZ i es.length f=true)(h3:cD i es.length h=true)
 (h4:Reach P Γ (.fr f up (h.set i (.row k E es none fl sh))) c):Reach P Γ (.fr f up h) c:=.trans (.reset h1 hi h2 h3) h4
def tS:List Nat->List AV->List Ob->List AV×List Ob
 |[],t,h=>(t,h)
 |i::is,t,h=>tS is (t.set i (k7 h (t.getD i .undef))) (share (rowsOf (t.getD i .undef)) h)
theorem Reach.trees:∀(is:List Nat){f:Fr}{up:List Fr}{h:List Ob}{c:ar},Reach P Γ (.fr {f with t:=(tS is f.t h).1} up (tS is f.t h).2) c->Reach P Γ (.fr f up h) c
 |[],_,_,_,_,h1=>h1
 |i::is,f,up,h,c,h1=>.trans (.tree i) (Reach.trees is (f:={f with t:=f.t.set i (k7 h (f.t.getD i .undef))}) h1)
theorem az.trees(is:List Nat){f:Fr}{o:Out}(h1:az P Γ (.fr {f with t:=(tS is f.t h).1} up (tS is f.t h).2) o):az P Γ (.fr f up h) o:=.reach (Reach.trees is (.refl _)) h1
theorem az.lA(j:Nat){f:Fr}{i:Nat}{cs:List AV}{o:Out}(hi:h[i]? =some (.cells cs))(h1:az P Γ (.fr f up ((share (rowsOf (cs.getD j .undef)) h).set i (.cells (cs.set j (k7 h (cs.getD j .undef)))))) o):az P Γ (.fr f up h) o:=.reach (.lA j hi) h1
attribute [simp] tS k7 rowsOf
end
@[simp] theorem avJ(h:List Ob)(a b:List AV):bP h (a++b)=(match bP h a,bP h b with
  |some a',some b'=>some (a'++b')
  |_,_=>none):=by
 induction a with
 |nil=>simp only[ld,bP];cases bP h b<;>rfl
 |cons x a ih=>
  simp only[fh,bP,ih]
  cases view h x<;>cases bP h a<;>cases bP h b<;>rfl
@[simp] theorem axf{α:Type}(h:List Ob)(f:α->AV)(l:List α)(hf:∀x,view h (f x)=some (f x)):bP h (l.map f)=some (l.map f):=by
 induction l with
 |nil=>rfl
 |cons x l ih=>simp only[cn,bP,hf,ih]
@[simp] theorem au3(a b:List AV):bJ (a++b)=bJ a++bJ b:=by
 induction a with
 |nil=>rfl
 |cons x a ih=>simp only[fh,bJ,ih,eQ]
@[simp] theorem aww{α:Type}(f:α->AV)(l:List α)(hf:∀x,rowsOf (f x)=[]):bJ (l.map f)=[]:=by
 induction l with
 |nil=>rfl
 |cons x l ih=>simp only[cn,bJ,hf,ih,fM]
def ic(P:Program)(Γ:Nat->Option AV)(φ:List Ob->Prop)(f:FuncId)(caps:List AV){α:Type}(e:α->AV)(p:α->Bool)(l:List α):Prop:=
 au P f=true/\∀x∈l,∀up h,φ h->Reach P Γ (.cl f (e x::caps) up h) (.back up (.bool (p x)) h)
def bo{α:Type}(p:α->Bool)(l:List α):Bool:=l.any p
@[simp] theorem qP{α:Type}(p:α->Bool):bo p []=false:=rfl
theorem iy{α:Type}(p:α->Bool)(x:α)(l:List α):bo p (x::l)=(p x||bo p l):=rfl
theorem n9{α:Type}{p:α->Bool}{l:List α}:bo p l=false↔∀x∈l,p x=false:=by simp[bo]
theorem zA{α:Type}{p:α->Bool}{l:List α}:bo p l=true↔∃x∈l,p x=true:=by simp[bo]
def eh{α:Type}(p:α->Bool):List α->Nat->Int
 |[],_=>-1
 |x::xs,i=>if p x=true then i else eh p xs (i+1)
theorem z_{α:Type}(p:α->Bool):∀(l:List α)(i:Nat),(0<=eh p l i)↔bo p l=true
 |[],i=>by simp[eh]
 |x::xs,i=>by
  rw[eh]
  by_cases h:p x=true
  ·simp[h,iy]
  ·simp[h,iy,z_ p xs (i+1)]
@[simp] theorem ax7(n:Nat):((n:Int)<0)=False:=lf (by omega)
@[simp] theorem ayk(n:Nat):(0<=(n:Int))=True:=cF (by omega)
@[simp] theorem av9(c:AV)(k:IntKind)(n:Int):eI [c] (.int k n)=c:=rfl
@[simp] theorem avv(c:AV)(b:Bool):eI [c] (.bool b)=c:=rfl
@[simp] theorem av0(c:AV)(s:List UInt8):eI [c] (.str s)=c:=rfl
@[simp] theorem avO(c:AV)(f:Bool)(k:Nat)(es:List AV):eI [c] (.list f k es)=c:=rfl
@[simp] theorem awN(c:AV)(i o n:Nat):eI [c] (.sl i o n)=c:=rfl
@[simp] theorem awh(cs ds:List AV):eI cs (.agg ds)=.agg cs:=by cases cs<;>rfl
theorem AP{a:Nat}(h:(a:Int)<2^62):IntKind.i64.wrap (a:Int)=a:=wrap64 (by omega) (by omega)
@[simp high] theorem ayL(a:Nat):fV .shr .i64 (a:Int) 1=some ((a/2:Nat):Int):=by
 simp[fV,IntKind.bits];rw[Int.fdiv_eq_ediv_of_nonneg _ (by omega)]
@[simp high] theorem ayO(a:Nat):fV .and .i64 (a:Int) 1=some ((a%2:Nat):Int):=by
 have h1:(BitVec.ofInt 64 (a:Int)&&&BitVec.ofInt 64 1).toNat=a%2:=by
  have e1:BitVec.ofInt 64 (1:Int)=1#64:=by decide
  rw[e1,BitVec.toNat_and,Rq]
  have e2:(1#64:BitVec 64).toNat=1:=by decide
  rw[e2,Nat.and_one_is_mod];omega
 show some (IntKind.i64.wrap ((BitVec.ofInt 64 (a:Int)&&&BitVec.ofInt 64 1).toNat:Int))=_
 rw[h1,AP (by omega)]
theorem Y7(a:Nat):(a^^^1)%2=1-a%2:=by
 have h1:=@Nat.xor_mod_two_eq_one a 1;have h2:(a^^^1)%2<2:=w7 _ (by omega);have h3:a%2<2:=w7 _ (by omega);have h4:(1%2=1):=rfl;simp only[h4,iff_true]at h1;omega
theorem Za(a:Nat):(a^^^1)/2=a/2:=by rw[Nat.xor_div_two];simp
theorem sW(a:Nat):a^^^1=if a%2=0 then a+1 else a-1:=by
 have h1:=Y7 a;have h2:=Za a
 split<;>omega
@[simp high] theorem adJ(a:Nat)(h:(a:Int)<2^60):fV .xor .i64 (a:Int) 1=some ((a^^^1:Nat):Int):=by
 have h1:(BitVec.ofInt 64 (a:Int)^^^BitVec.ofInt 64 1).toNat=a^^^1:=by
  have e1:BitVec.ofInt 64 (1:Int)=1#64:=by decide
  rw[e1,BitVec.toNat_xor,Rq]
  have e2:(1#64:BitVec 64).toNat=1:=by decide
  rw[e2];congr 1;omega
 show some (IntKind.i64.wrap ((BitVec.ofInt 64 (a:Int)^^^BitVec.ofInt 64 1).toNat:Int))=_
 rw[h1,AP (by rw[sW];split<;>omega)]
@[simp high] theorem Oi(a:Nat)(h:(a:Int)<2^62):fV .quo .i64 (a:Int) 2=some ((a/2:Nat):Int):=by
 simp only[fV];rw[if_neg (by omega),show((a:Int)).tdiv 2=((a/2:Nat):Int)from rfl,AP (by omega)]
@[simp high] theorem ayK(a:Nat):fV .rem .i64 (a:Int) 2=some ((a%2:Nat):Int):=by
 simp only[fV];rw[if_neg (by omega)];rfl
theorem fq{h:List Ob}{i:Nat}{o:Ob}(hi:h[i]? =some o)(os:List Ob):(h++os)[i]? =some o:=by
 rw[dz (aV hi)];exact hi
@[simp] theorem aaD(h l:List Ob)(k:Nat):(h++l)[h.length+k]? =l[k]? :=by
 rw[dL (by omega)];congr 1;omega
@[simp] theorem YI(h l:List Ob):(h++l)[h.length]? =l[0]? :=by
 rw[dL (by omega)];congr 1;omega
@[simp] theorem ayg(h l:List Ob)(k:Nat)(x:Ob):(h++l).set (h.length+k) x=h++l.set k x:=by
 rw[List.set_append,if_neg (by omega)];congr 2;omega
@[simp] theorem ZU(h l:List Ob)(x:Ob):(h++l).set h.length x=h++l.set 0 x:=by
 rw[List.set_append,if_neg (by omega)];congr 2;omega
@[simp] theorem axO(h l:List Ob)(k:Nat):(h++l).take (h.length+k)=h++l.take k:=by
 rw[List.take_append,cL (by omega)];simp
@[simp] theorem iv(i m:Nat)(a b:List Ob):cD i m (a++b)=(cD i m a&&cD i m b):=by
 induction a with
 |nil=>simp[cD]
 |cons x a ih=>simp[cD,ih,mQ]
@[simp] theorem nX(n:Nat)(a b:List Ob):cw n (a++b)=(cw n a&&cw n b):=by
 induction a with
 |nil=>simp[cw]
 |cons x a ih=>simp[cw,ih,mQ]
section
variable{P:Program}{Γ:Nat->Option AV}
theorem az.cq(n:Nat)(E:TypeId){fn:FuncId}{d:Option Nat}{gd:Option (Nat×Bool)}{k:Nat}{zs:List AV}{ps:List (Nat×AX)}{os:List AG}{k':List It}{t:List AV}{ds:List da}{kind:FK}{base:Nat}{up:List Fr}{h:List Ob}{o:Out}{es:List AV}
 (hw:dt t gd=some true)(hf:my k zs (ps.map fun p=>(p.1,ax t p.2))=some es)
 (h1:az P Γ (AM.go P Γ 0 n (.fr ⟨.run,fn,.ops os::k',aX t d (.sl h.length 0 es.length),ds,kind,base⟩ up (h++[.row k E es none (cd es k) false]))) o):
 az P Γ (.fr ⟨.run,fn,.ops (⟨d,gd,.lit k zs ps⟩::os)::k',t,ds,kind,base⟩ up h) o:=
 .reach (.cq (f:=⟨.run,fn,.ops (⟨d,gd,.lit k zs ps⟩::os)::k',t,ds,kind,base⟩) E rfl rfl hw hf) (.go n h1)
theorem LU:∀(i:Nat)(t:List AV),i<t.length->c9 (List.replicate i true++[false]) t=t.set i .undef
 |_,[],h=>by simp at h
 |0,a::t,_=>by cases t<;>rfl
 |i+1,a::t,h=>by
  simp only[ku,fh,c9,oW];rw[LU i t (by simpa using h)]
def lM(is:List Nat)(t:List AV):List AV:=is.foldl (fun t i=>t.set i .undef) t
theorem aa1(t:List AV)(i:Nat):t.set i .undef=t\/i<t.length:=by
 by_cases h:i<t.length
 ·exact .inr h
 ·exact .inl (List.set_eq_of_length_le (by omega))
theorem Reach.lN{fn:FuncId}{k:List It}{ds:List da}{kind:FK}{base:Nat}{up:List Fr}{h:List Ob}:∀(is:List Nat)(t:List AV),Reach P Γ (.fr ⟨.run,fn,k,t,ds,kind,base⟩ up h) (.fr ⟨.run,fn,k,lM is t,ds,kind,base⟩ up h)
 |[],t=>.refl _
 |i::is,t=>by
  refine .trans ?_ (Reach.lN is (t.set i .undef))
  rcases aa1 t i with h1|h1
  ·rw[h1];exact .refl _
  ·have:=Reach.mask (P:=P) (Γ:=Γ) (f:=⟨.run,fn,k,t,ds,kind,base⟩) (up:=up) (h:=h) (List.replicate i true++[false]);simp only[LU i t h1]at this;exact this
@[simp] theorem axU(t:List AV):lM [] t=t:=rfl
@[simp] theorem axj(i:Nat)(is:List Nat)(t:List AV):lM (i::is) t=lM is (t.set i .undef):=rfl
theorem az.lN(is:List Nat){fn:FuncId}{k:List It}{t:List AV}{ds:List da}{kind:FK}{base:Nat}{up:List Fr}{h:List Ob}{o:Out}(h1:az P Γ (.fr ⟨.run,fn,k,lM is t,ds,kind,base⟩ up h) o):az P Γ (.fr ⟨.run,fn,k,t,ds,kind,base⟩ up h) o:=.reach (.lN is t) h1
theorem az.pB(i j k:Nat)(E:TypeId){f:Fr}{up:List Fr}{h:List Ob}{o:Out}{k0:Nat}{cs:List AV}(hi:h[i]? =some (.cells cs))(hj:cs[j]? =some (.list true k0 []))(hk:0<k)
 (h4:az P Γ (.fr f up ((h++[Ob.row k E [] none true false]).set i (.cells (cs.set j (.sl h.length 0 0))))) o):az P Γ (.fr f up h) o:=.reach (.pB E hi hj hk) h4
theorem Reach.YH(n:Nat)(E:TypeId){fn:FuncId}{d:Option Nat}{gd:Option (Nat×Bool)}{k:Nat}{zs:List AV}{ps:List (Nat×AX)}{os:List AG}{k':List It}{t:List AV}{ds:List da}{kind:FK}{base:Nat}{up:List Fr}{h:List Ob}{c:ar}{es:List AV}
 (hw:dt t gd=some true)(hf:my k zs (ps.map fun p=>(p.1,ax t p.2))=some es)
 (h1:Reach P Γ (AM.go P Γ 2 n (.fr ⟨.run,fn,.ops os::k',aX t d (.sl h.length 0 es.length),ds,kind,base⟩ up (h++[.row k E es none (cd es k) false]))) c):
 Reach P Γ (.fr ⟨.run,fn,.ops (⟨d,gd,.lit k zs ps⟩::os)::k',t,ds,kind,base⟩ up h) c:=
 .trans (.cq (f:=⟨.run,fn,.ops (⟨d,gd,.lit k zs ps⟩::os)::k',t,ds,kind,base⟩) E rfl rfl hw hf) (.ba n h1)
theorem Reach.M9(st n:Nat){f:FuncId}{args:List AV}{up:List Fr}{h:List Ob}{v:AV}{h':List Ob}{c:ar}(h1:∀up,Reach P Γ (.cl f args up h) (.back up v h'))(h2:Reach P Γ (AM.go P Γ st n (AM.pop (.back up v h'))) c):Reach P Γ (.cl f args up h) c:=.trans (h1 up) (.trans (.pop _) (.trans (.goes n _) h2))
theorem Reach.EW{f:Fr}{up:List Fr}{h:List Ob}{c:ar}{i k:Nat}{E:TypeId}{es:List AV}{fl sh:Bool}(hi:h[i]? =some (.row k E es (some 0) fl sh))(h1:fZ i es.length f=true)(h2:up.all (fZ i es.length)=true)(h3:cD i es.length h=true)
 (h4:Reach P Γ (.fr f up (h.set i (.row k E es none fl sh))) c):Reach P Γ (.fr f up h) c:=.trans (.Ni hi (by simp only[qf,h1,h2,l5]) h3) h4
theorem az.ly{f:Fr}{up:List Fr}{h:List Ob}{o:Out}{i k:Nat}{E:TypeId}{es:List AV}{gr:Option Nat}{fl sh:Bool}(hi:h[i]? =some (.row k E es gr fl sh))(hg:gr=none\/gr=some 0)(h1:f.base<=i)(h2:fZ i es.length f=true)(h3:cD i es.length h=true)
 (h4:az P Γ (.fr f up (h.set i (.row k E es none fl sh))) o):az P Γ (.fr f up h) o:=by
 rcases hg with rfl|rfl
 ·have:h.set i (.row k E es none fl sh)=h:=by
   apply iU;intro j
   by_cases hj:i=j
   ·subst hj;rw[ef (aV hi),hi]
   ·rw[dx hj]
  rw[this]at h4;exact h4
 ·exact .reset hi h1 h2 h3 h4
end
theorem Reach.og(n:Nat){P:Program}{Γ:Nat->Option AV}{fn:FuncId}{as:List (List Nat)}{gs:List AG}{k:List It}{t:List AV}{ds:List da}{kind:FK}{base:Nat}{up:List Fr}{h:List Ob}{c:ar}
 (h1:∀l∈eL as as.length [],Reach P Γ (AM.go P Γ 2 n (.fr ⟨.run,fn,.ops (l.map fun i=>gs.getD i default)::k,t,ds,kind,base⟩ up h)) c):
 Reach P Γ (.fr ⟨.run,fn,.code (.ea as gs)::k,t,ds,kind,base⟩ up h) c:=
 .ea (f:=⟨.run,fn,.code (.ea as gs)::k,t,ds,kind,base⟩) rfl rfl fun l hl=>.ba n (h1 l hl)
theorem az.either(n:Nat){P:Program}{Γ:Nat->Option AV}{fn:FuncId}{d:Option Nat}{x:AX}{neg:Bool}{os:List AG}{k:List It}{t:List AV}{ds:List da}{kind:FK}{base:Nat}{up:List Fr}{h:List Ob}{o:Out}(h0:nj (ax t x)=some 0)
 (h1:∀b,az P Γ (AM.go P Γ 0 n (.fr ⟨.run,fn,.ops os::k,aX t d (.bool b),ds,kind,base⟩ up h)) o):az P Γ (.fr ⟨.run,fn,.ops (⟨d,none,.jc neg x⟩::os)::k,t,ds,kind,base⟩ up h) o:=
 .jc (f:=⟨.run,fn,.ops (⟨d,none,.jc neg x⟩::os)::k,t,ds,kind,base⟩) rfl rfl rfl (by simp only[ay,h0]) fun b=>.go n (h1 b)
theorem Reach.Xp(i k:Nat)(E:TypeId){P:Program}{Γ:Nat->Option AV}{fn:FuncId}{its:List It}{t:List AV}{ds:List da}{kind:FK}{base:Nat}{up:List Fr}{h:List Ob}{c:ar}{k0:Nat}(hi:t[i]? =some (.list true k0 []))(hk:0<k)
 (h4:Reach P Γ (.fr ⟨.run,fn,its,t.set i (.sl h.length 0 0),ds,kind,base⟩ up (h++[Ob.row k E [] none true false])) c):Reach P Γ (.fr ⟨.run,fn,its,t,ds,kind,base⟩ up h) c:=
 .trans (.pz (f:=⟨.run,fn,its,t,ds,kind,base⟩) E rfl hi hk) h4
theorem az.pz(i k:Nat)(E:TypeId){P:Program}{Γ:Nat->Option AV}{fn:FuncId}{its:List It}{t:List AV}{ds:List da}{kind:FK}{base:Nat}{up:List Fr}{h:List Ob}{o:Out}{k0:Nat}(hi:t[i]? =some (.list true k0 []))(hk:0<k)
 (h4:az P Γ (.fr ⟨.run,fn,its,t.set i (.sl h.length 0 0),ds,kind,base⟩ up (h++[Ob.row k E [] none true false])) o):az P Γ (.fr ⟨.run,fn,its,t,ds,kind,base⟩ up h) o:=
 .reach (.Xp i k E hi hk (.refl _)) h4
def pL(P:Program)(Γ:Nat->Option AV):ar->ar
 |.fr f up h=>match f.md with
  |.run=>match f.its with
   |.ops (o::os)::k=>gN P Γ f up h (.ops (o::os)::k)
   |_=>.fr f up h
  |_=>.fr f up h
 |.back (c::up) v h=>match c.finish v with
  |some c'=>.fr c' up h
  |none=>.bad
 |c=>c
def kj(P:Program)(Γ:Nat->Option AV):Nat->ar->ar
 |0,c=>c
 |n+1,c=>kj P Γ n (pL P Γ c)
section
variable{P:Program}{Γ:Nat->Option AV}{n:Nat}{fn:FuncId}{k:List It}{t:List AV}{ds:List da}{kind:FK}{base:Nat}{up:List Fr}{h h':List Ob}
theorem Reach.pL(c:ar):Reach P Γ c (AM.pL P Γ c):=by
 cases c with
 |fr f up h=>
  obtain⟨md,fn,its,t,ds,kind,base⟩:=f
  cases md with
  |run=>
   simp only[AM.pL]
   split
   ·exact .step _
   ·exact .refl _
  |_=>exact .refl _
 |back up v h=>cases up<;>first|exact .refl _|exact .step _
 |_=>exact .refl _
theorem Reach.tz:∀(n:Nat)(c:ar),Reach P Γ c (AM.kj P Γ n c)
 |0,c=>.refl c
 |n+1,c=>.trans (.pL c) (Reach.tz n _)
theorem Ew{c:ar}(hc:pL P Γ c=c):∀n,kj P Γ n c=c
 |0=>rfl
 |n+1=>by rw[kj,hc];exact Ew hc n
@[simp] theorem Nk{d:Option Nat}{o:AO}{os:List AG}:kj P Γ (n+1) (.fr ⟨.run,fn,.ops (⟨d,none,o⟩::os)::k,t,ds,kind,base⟩ up h)=
  kj P Γ n (fg P ⟨.run,fn,.ops (⟨d,none,o⟩::os)::k,t,ds,kind,base⟩ up h ⟨d,none,o⟩ os k (ay P Γ t h o)):=(rfl)
@[simp] theorem ax4:kj P Γ n (.fr ⟨.run,fn,.ops []::k,t,ds,kind,base⟩ up h)=.fr ⟨.run,fn,.ops []::k,t,ds,kind,base⟩ up h:=Ew rfl n
@[simp] theorem ays{f:FuncId}{args:List AV}:kj P Γ n (.cl f args up h)=.cl f args up h:=Ew rfl n
@[simp] theorem ax1{c:Fr}{v:AV}:kj P Γ (n+1) (.back (c::up) v h)=kj P Γ n (match c.finish v with
  |some c'=>.fr c' up h
  |none=>.bad):=(rfl)
theorem az.ogO(n:Nat){as:List (List Nat)}{gs:List AG}{r:AV}
 (h1:∀l∈eL as as.length [],az P Γ (AM.kj P Γ n (.fr ⟨.run,fn,.ops (l.map fun i=>gs.getD i default)::k,t,ds,kind,base⟩ up h)) (.ret r)):
 az P Γ (.fr ⟨.run,fn,.code (.ea as gs)::k,t,ds,kind,base⟩ up h) (.ret r):=
 .An (f:=⟨.run,fn,.code (.ea as gs)::k,t,ds,kind,base⟩) rfl rfl (fun v hv=>by cases hv) fun l hl=>.reach (.tz n _) (h1 l hl)
theorem az.O4(n:Nat){l:List Bool}{ws:List Nat}{gs:List AG}{r:AV}
 (h1:∀l∈eL (mF gs) gs.length [],az P Γ (AM.kj P Γ n (.fr ⟨.run,fn,.ops (l.map fun i=>gs.getD i default)::k,t,ds,kind,base⟩ up h)) (.ret r)):
 az P Γ (.fr ⟨.run,fn,.code (.aQ l ws gs)::k,t,ds,kind,base⟩ up h) (.ret r):=
 .z6 (f:=⟨.run,fn,.code (.aQ l ws gs)::k,t,ds,kind,base⟩) rfl rfl (fun v hv=>by cases hv) fun l hl=>.reach (.tz n _) (h1 l hl)
theorem az.wb(n:Nat){f:FuncId}{args as:List AV}{r:AV}{o:Out}(h1:bP h args=some as)(h2:aS P Γ f as r)(h3:az P Γ (AM.kj P Γ n (.back up (dE h.length r).1 (fP h args r))) o):az P Γ (.cl f args up h) o:=
 .reach (.pure h1 h2) (.reach (.tz n _) h3)
end
def FI(n:Nat)(τ:List Nat)(its:List It)(t:List AV)(ds:List da)(kind:FK)(base:Nat)(h:List Ob):Prop:=
 base<=n/\n<=h.length/\(∀j∈τ,n+j<h.length)/\dJ n τ t=true/\jI n ds=true/\fF n its=true/\nv n kind=true/\fe n τ (h.take n)=true/\p6 n τ (lE h n τ)=true
theorem Reach.pW(n:Nat)(τ:List Nat){P:Program}{Γ:Nat->Option AV}{fn:FuncId}{its:List It}{t:List AV}{ds:List da}{kind:FK}{base:Nat}{up:List Fr}{h:List Ob}{c:ar}(hc:FI n τ its t ds kind base h)(hnd:τ.Nodup)
 (h4:Reach P Γ (.fr ⟨.run,fn,its,cf n τ t,ds,kind,base⟩ up (ij n τ h)) c):Reach P Γ (.fr ⟨.run,fn,its,t,ds,kind,base⟩ up h) c:=
 .trans (.gc (f:=⟨.run,fn,its,t,ds,kind,base⟩) n τ rfl hc.1 hc.2.1 hc.2.2.1 hnd hc.2.2.2.1 hc.2.2.2.2.1 hc.2.2.2.2.2.1 hc.2.2.2.2.2.2.1 hc.2.2.2.2.2.2.2.1 hc.2.2.2.2.2.2.2.2) h4
theorem az.gc(n:Nat)(τ:List Nat){P:Program}{Γ:Nat->Option AV}{fn:FuncId}{its:List It}{t:List AV}{ds:List da}{kind:FK}{base:Nat}{up:List Fr}{h:List Ob}{o:Out}(hc:FI n τ its t ds kind base h)(hnd:τ.Nodup)
 (h4:az P Γ (.fr ⟨.run,fn,its,cf n τ t,ds,kind,base⟩ up (ij n τ h)) o):az P Γ (.fr ⟨.run,fn,its,t,ds,kind,base⟩ up h) o:=
 .reach (.pW n τ hc hnd (.refl _)) h4
attribute [simp] jD iR.cfg FI ff ep dw cf eF dJ lY oS jN kf fe p6 ig lE ij List.idxOf_cons
theorem Reach.adD{P:Program}{Γ:Nat->Option AV}{f:FuncId}{args as:List AV}{r:AV}{h:List Ob}(h1:bP h args=some as)(h2:aS P Γ f as r)(h3:∀n,dE n r=(r,[]))(h4:fP h args r=h):∀up,Reach P Γ (.cl f args up h) (.back up r h):=by
 intro up;have:=back_eq h1 h2 up;rw[h3,h4]at this;exact this
end Go.AM
namespace Go.AM
open Go.RowKit
variable{P:Program}{Γ:Nat->Option AV}
theorem Inv.below{N:Env}{g:G}{h:List Ob}{w w':World}(H:Inv P Γ N g h w)(hb:Below w.heap.size w w'):Inv P Γ N g h w':=by
 have hblk:∀b x,w.heap[b]? =some x->w'.heap[b]? =some x:=fun b x hx=>by
  rw[hb.block b (by
   rcases kv b w.heap.size with h1|h1
   ·exact h1
   ·rw[mJ h1]at hx;cases hx)]
  exact hx
 have hcell:∀b o v,w.cell? ⟨b,o,none⟩=some v->w'.cell? ⟨b,o,none⟩=some v:=fun b o v hv=>by
  rcases kv b w.heap.size with h1|h1
  ·rw[sB (hb.block b h1)];exact hv
  ·simp[World.cell?,mJ h1]at hv
 refine⟨hb.os.trans H.os,hb.tape.trans H.tape,hb.output.trans H.output,fun b o hk=>hblk b o (H.fU b o hk),fun i b x hi=>⟨(H.own i b x hi).1,jO (H.own i b x hi).2 hb.size⟩,H.inj,H.nC,
  fun b o v hv=>hcell b o v (H.mem b o v hv),fun b es ck hk=>⟨hblk b _ (H.mm b es ck hk).1,(H.mm b es ck hk).2⟩,H.d_,?_,H.ke,H.mK,H.iQ⟩
 intro i o hi;exact mf (Ext.refl _ _ _) rfl (fun b y hy=>hb.block b (H.own i b y hy).2) (H.ob i o hi)
theorem aS.Ou{f:FuncId}{as:List AV}{r:AV}(hb:au P f=true)(hun:∀n,dE n r=(r,[]))(ht:rn r=true)
 (hc:∀(N:Env)(g:G)(h:List Ob)(w:World)(us:List Value),Inv P Γ N g h w->VL g h as us->Calls P f us.toArray w fun e w'=>(∃u,e=.returned u/\∀g h,V g h r u)/\Below w.heap.size w w'):aS P Γ f as r:=by
 refine⟨hb,fun _ N g h w us H hV=>(hc N g h w us H hV).mono ?_⟩
 rintro e w' ⟨⟨u,rfl,hu⟩,hB⟩
 refine⟨u,g,rfl,ht,?_,?_,fun _ _=>rfl,fun _ _ _ x=>x,fun b hb=>hB.block b hb⟩
 ·rw[hun];simpa using H.below hB
 ·rw[hun];exact hu _ _
@[simp] theorem UL(c:UInt8):Aq (eM c)=some c:=by
 simp only[Aq,eM,jr,aj];exact UInt8.ofNat_toNat
@[simp] theorem Vz:∀w:List UInt8,oa (w.map eM)=some w
 |[]=>rfl
 |c::w=>by rw[cn,oa,UL,Vz w]
end Go.AM
namespace Go.AM
open Go.ChangeShapes Go.WideShapes Go.ChangeAt Go.RowKit
theorem L1{P:Program}{W:World}:∀{l:List (String×DataW Unit)}{ps:List MemPlace},DataW.LaidVars P W l ps->∀n d,(n,d)∈l->
 ∃g t cs fuel p,P.globalNamed n=some g/\(P.globals[g]?).map (·.type)=some t/\W.var? P n=some cs/\DataW.trod (fun _=>()) P W 0 (fun _=>true) false fuel t cs.toList=some (d,p)
 |[],ps,_,n,d,hm=>by simp at hm
 |(n0,d0)::l,ps,h,n,d,hm=>by
  obtain⟨g,t,cs,fuel,p,q,h1,h2,h3,h4,h5,_⟩:=h
  rcases bq.1 hm with hm|hm
  ·cases hm
   exact⟨g,t,cs,fuel,p,h1,h2,h3,h4⟩
  ·exact L1 h5 n d hm
theorem JN{H:Type}(z x:Lit×DataW H):∀l,z∈DataW.insert x l↔z=x\/z∈l
 |[]=>by simp[DataW.insert]
 |y::r=>by
  rw[DataW.insert]
  split
  ·simp
  ·simp only[bq,JN z x r];constructor
   ·rintro(h|h|h)
    ·exact .inr (.inl h)
    ·exact .inl h
    ·exact .inr (.inr h)
   ·rintro(h|h|h)
    ·exact .inr (.inl h)
    ·exact .inl h
    ·exact .inr (.inr h)
theorem qG{H:Type}(z:Lit×DataW H):∀l:List (Lit×DataW H),z∈l.foldr DataW.insert []↔z∈l
 |[]=>by simp
 |x::l=>by simp only[List.foldr_cons,JN,qG z l,bq]
theorem Mj{α β:Type}{f:α->Option β}:∀{l:List α}{r:List β},l.mapM f=some r->F2 (fun a b=>f a=some b) l r
 |[],r,h=>by simp at h;subst h;exact .nil
 |x::l,r,h=>by
  simp only[qg,nN,mO,Ih,aj]at h;obtain⟨b,hb,r',hr',rfl⟩:=h;exact .cons hb (Mj hr')
theorem K1{H:Type}{enc:TypeId×Value->H}{P:Program}{w:World}{base:Nat}{sp:Nat->Bool}{held:Bool}{t k e:TypeId}(ht:P.underlying t=some (.map k e)){fuel:Nat}{cs:List Value}{D:List (Lit×DataW H)}{ps:List MemPlace}
 (h:DataW.trod enc P w base sp held fuel t cs=some (.map D,ps)):
 ∃n b es clock,∃entries:List ((Lit×DataW H)×List MemPlace),cs=[.map (some b)]/\w.heap[b]? =some (.map es clock)/\
  F2 (fun(x:MapEntry) y=>keyOf P k x.key=some y.1.1/\x.val.formed P e=true/\DataW.trod enc P w base sp held n e x.val.cells.toList=some (y.1.2,y.2)) es.toList entries/\D=(entries.map (·.1)).foldr DataW.insert []:=by
 cases fuel with
 |zero=>simp[DataW.trod]at h
 |succ n=>
  rw[DataW.trod_step]at h;unfold DataW.trodStep at h;rw[ht]at h
  split at h<;>simp_all
  rename_i b _
  cases hb:w.heap[b]? with
  |none=>simp[hb]at h
  |some o=>
   cases o<;>simp only[hb,reduceCtorEq]at h
   rename_i es clock
   split at h
   ·simp only[mO]at h;obtain⟨entries,h1,h2⟩:=h
    split at h2
    ·simp only[aj,bN,DataW.map.injEq]at h2;refine⟨n,es,⟨clock,rfl⟩,entries,?_,h2.1.symm⟩
     refine Aj (Mj h1) fun x y hxy=>?_
     simp only[mO]at hxy;obtain⟨key,h3,h4⟩:=hxy
     split at h4
     ·rename_i hf;rw[bO]at h4;obtain⟨z,h5,rfl⟩:=h4;exact⟨h3,hf,h5⟩
     ·cases h4
    ·cases h2
   ·cases h
def iL:Lit->AV
 |.string s=>.str s
 |.int k n=>.int k n
 |_=>.undef
def vZ{H:Type}:DataW H->AV
 |.lit (.bool b)=>.bool b
 |.lit (.int k n)=>.int k n
 |.lit (.string s)=>.str s
 |_=>.undef
def m_{H:Type}:DataW H->AV
 |.agg ds=>.agg (ds.map vZ)
 |d=>vZ d
theorem MG{P:Program}{k:TypeId}{q:IntKind}(hk:P.underlying k=some (.int q)){g:G}{h:List Ob}{v:Value}{l:Lit}(hv:keyOf P k v=some l):V g h (iL l) v/\aF 0 (iL l)=true/\∃n,l=.int q n:=by
 rw[keyOf_int hk]at hv
 cases v<;>simp[mapKey,hk]at hv
 obtain⟨⟨rfl,_⟩,rfl⟩:=hv;exact⟨by simp[iL,V],rfl,_,rfl⟩
theorem Zq{P:Program}{e e':TypeId}{q:IntKind}(he:P.underlying e=some (.array 2 e'))(he':P.underlying e'=some (.int q))(h1:P.cellsOf e'=1)(h2:P.cellsOf e=2){H:Type}{enc:TypeId×Value->H}{w:World}{base:Nat}{sp:Nat->Bool}{held:Bool}{n:Nat}{v:Value}{x:DataW H×List MemPlace}{g:G}{h:List Ob}
 (hf:v.formed P e=true)(ht:DataW.trod enc P w base sp held n e v.cells.toList=some x):V g h (m_ x.1) v/\aF 0 (m_ x.1)=true:=by
 cases v<;>simp[Value.formed,he]at hf
 rename_i cs
 have hl:cs.toList.length=2:=by simpa[h2]using hf
 obtain⟨a,b,hab⟩:∃a b,cs.toList=[a,b]:=by
  match hc:cs.toList,hl with
  |[a,b],_=>exact⟨a,b,rfl⟩
 cases n with
 |zero=>simp[DataW.trod]at ht
 |succ m=>
  simp only[Value.cells,hab]at ht;rw[DataW.trod_step]at ht;unfold DataW.trodStep at ht;rw[he]at ht;simp only[h1,h2,b9,dq,cu,show List.range 2=[0,1]from rfl,qg,List.mapM_nil]at ht;simp only[nN,Ih,bO,mO,aj,Nat.mul_one,iu,List.drop_succ_cons,H6,List.take_zero]at ht;obtain⟨y,⟨y1,hy1,ys,⟨y2,hy2,zs,rfl,rfl⟩,rfl⟩,rfl⟩:=ht;obtain⟨n1,e1,rfl,_⟩:=DataW.trod_int he' hy1;obtain⟨n2,e2,rfl,_⟩:=DataW.trod_int he' hy2;simp only[rT,nI]at e1 e2;subst e1 e2
  have hcs:cs=[Value.int q n1,Value.int q n2].toArray:=by rw[<-hab]
  subst hcs;simp[m_,vZ,V,VL,aF,aI]
theorem C_(E:EK)(kk:AV):∀(l:List (AV×AV)),(∀y∈l,(bX E kk y.1=some true/\kk=y.1)\/(bX E kk y.1=some false/\kk≠y.1))->
 ∃r,ew E kk l=some r/\(r=none->∀y∈l,kk≠y.1)/\(∀v,r=some v->(kk,v)∈l)
 |[],_=>⟨none,rfl,fun _ y hy=>by simp at hy,fun v hv=>by cases hv⟩
 |(a,u)::l,h=>by
  rcases h (a,u) (qm ..)with⟨h1,h2⟩|⟨h1,h2⟩
  ·refine⟨some u,by simp only[ew,h1],fun hn=>absurd hn (by simp),fun v hv=>?_⟩;obtain rfl:=Option.some.inj hv;rw[show kk=a from h2];exact qm ..
  ·obtain⟨r,h3,h4,h5⟩:=C_ E kk l (fun y hy=>h y (dY _ hy));refine⟨r,by simp only[ew,h1];exact h3,fun hn y hy=>?_,fun v hv=>dY _ (h5 v hv)⟩
   rcases bq.1 hy with rfl|hy
   ·exact h2
   ·exact h4 hn y hy
theorem ow{α β:Type}{R:α->β->Prop}{g:G}{h:List Ob}{f:β->AV}{e:α->Value}:∀{l:List α}{m:List β},F2 R l m->(∀a b,R a b->V g h (f b) (e a)/\aF 0 (f b)=true)->VL g h (m.map f) (l.map e)/\aI 0 (m.map f)=true
 |_,_,.nil,_=>⟨by simp[VL],rfl⟩
 |_,_,.cons h1 h2,hR=>by
  obtain⟨a1,a2⟩:=hR _ _ h1;obtain⟨b1,b2⟩:=ow h2 hR;simp only[cn,VL,aI,a2,b2,l5,nI];exact⟨_,_,rfl,a1,b1⟩
theorem Y8{P:Program}{W:World}{l:List (String×DataW Unit)}(hl:laidMetH P l W)(hp:(l.all fun x=>x.2.handleName?.isNone)=true){name:String}{D:List (Lit×DataW Unit)}{g:Nat}{t k e:TypeId}(hm:(name,DataW.map D)∈l)
 (hg:P.globalNamed name=some g)(ht:(P.globals[g]?).map (·.type)=some t)(hu:P.underlying t=some (.map k e))
 (hK:∀(v:Value)(q:Lit),keyOf P k v=some q->V (gw W) [] (iL q) v/\aF 0 (iL q)=true)
 (hV:∀(n:Nat)(v:Value)(x:DataW Unit×List MemPlace),v.formed P e=true->DataW.trod (fun _=>()) P W 0 (fun _=>true) false n e v.cells.toList=some x->V (gw W) [] (m_ x.1) v/\aF 0 (m_ x.1)=true):
 ∃ks us,aI 0 (AV.cells (.c8 ks us))=true/\(∃vs,VL (gw W) [] (AV.cells (.c8 ks us)) vs/\∀j(hj:j<vs.length),W.cell? ⟨g,j,none⟩=some vs[j])/\∃z:List (AV×AV),ks.zip us=z/\∀y,y∈z↔y∈D.map fun d=>(iL d.1,m_ d.2):=by
 rw[MakeChecks.laidMetH_plain _ _ _ hp]at hl;obtain⟨ps,h1,_⟩:=hl;obtain⟨g',t',cs,fuel,p,h2,h3,h4,h5⟩:=L1 h1 _ _ hm;obtain rfl:=Option.some.inj (hg.symm.trans h2);obtain rfl:=Option.some.inj (ht.symm.trans h3);obtain⟨n,b,es,ck,entries,hcs,hb,hF,rfl⟩:=K1 hu h5;refine⟨entries.map fun y=>iL y.1.1,entries.map fun y=>m_ y.1.2,?_,⟨[.map (some b)],?_,?_⟩,_,rfl,?_⟩
 ·have a:=ow (g:=gw W) (h:=[]) (f:=fun y=>iL y.1.1) (e:=fun x:MapEntry=>x.key) hF (fun x y hxy=>hK _ _ hxy.1);have c:=ow (g:=gw W) (h:=[]) (f:=fun y=>m_ y.1.2) (e:=fun x:MapEntry=>x.val) hF (fun x y hxy=>hV n _ (y.1.2,y.2) hxy.2.1 hxy.2.2);simp only[AV.cells,aI,aF,a.2,c.2,l5]
 ·have a:=ow (g:=gw W) (h:=[]) (f:=fun y=>iL y.1.1) (e:=fun x:MapEntry=>x.key) hF (fun x y hxy=>hK _ _ hxy.1);have c:=ow (g:=gw W) (h:=[]) (f:=fun y=>m_ y.1.2) (e:=fun x:MapEntry=>x.val) hF (fun x y hxy=>hV n _ (y.1.2,y.2) hxy.2.1 hxy.2.2);simp only[AV.cells,VL,V];refine⟨_,[],rfl,⟨b,es,ck,rfl,by simp only[gw,hb],a.1,c.1⟩,rfl⟩
 ·intro j hj
  obtain rfl:j=0:=by simp at hj;omega
  rw[World.var?_cell hg h4 0,um.symm,hcs];rfl
 ·intro y;rw[List.zip_map',dn,dn];constructor
  ·rintro⟨x,hx,rfl⟩
   exact⟨x.1,(qG _ _).2 (rY hx),rfl⟩
  ·rintro⟨d,hd,rfl⟩
   obtain⟨x,hx,rfl⟩:=dn.1 ((qG _ _).1 hd);exact⟨x,hx,rfl⟩
end Go.AM
namespace Go.AM
theorem aan{n:Nat}{τ:List Nat}{o:Ob}(hb:fW n o=true):kf n τ o=true:=by
 have okM_bel:∀es:List (AV×AV),fE n es=true->oS n τ es=true:=by
  intro es
  induction es with
  |nil=>intro _;rfl
  |cons x r ih=>
   obtain⟨a,b⟩:=x;intro h;simp only[fE,aw]at h;simp only[oS,iA h.1.1,iA h.1.2,ih h.2,l5]
 cases o<;>simp only[fW]at hb<;>simp only[kf]
 ·exact lp hb
 ·rw[eH]at hb⊢;exact hb.imp id lp
 ·exact okM_bel _ hb
 ·exact lp hb
theorem px{n:Nat}{τ:List Nat}:∀{h:List Ob},cw n h=true->fe n τ h=true
 |[],_=>rfl
 |o::os,hb=>by
  simp only[cw,aw]at hb;have h1:=px (τ:=τ) hb.2
  cases o with
  |loop st pend fn t ps a b=>
   have h2:=hb.1;simp only[fW]at h2;simp only[fe,h1,h2,l5]
  |_=>
   have h2:=aan (τ:=τ) hb.1;simp only[fe,h1,h2,l5]
@[simp] theorem V5(n:Nat)(τ:List Nat):∀a b:List Ob,fe n τ (a++b)=(fe n τ a&&fe n τ b)
 |[],b=>rfl
 |o::a,b=>by
  have ih:=V5 n τ a b
  cases o<;>simp[fe,ih,mQ]
@[simp] theorem Ww(n:Nat)(τ:List Nat):∀a b:List Ob,ig n τ (a++b)=ig n τ a++ig n τ b
 |[],b=>rfl
 |o::a,b=>by simp[ig,Ww n τ a b]
@[simp] theorem Wo(n:Nat)(τ:List Nat):∀a b:List AV,cf n τ (a++b)=cf n τ a++cf n τ b
 |[],b=>rfl
 |o::a,b=>by simp[cf,Wo n τ a b]
@[simp] theorem Wc(n:Nat)(τ:List Nat):∀a b:List AV,dJ n τ (a++b)=(dJ n τ a&&dJ n τ b)
 |[],b=>rfl
 |o::a,b=>by simp[dJ,Wc n τ a b,mQ]
attribute [simp] C9
@[simp] theorem Vi(i m:Nat):∀a b:List AV,cW i m (a++b)=(cW i m a&&cW i m b)
 |[],b=>rfl
 |o::a,b=>by simp[cW,Vi i m a b,mQ]
theorem UN{as:List (List Nat)}{d1 d2:List Nat}(h:∀x,d1.contains x=d2.contains x)(i:Nat):j6 as d1 i=j6 as d2 i:=by
 unfold j6;rw[h i];congr 1
 refine List.all_congr rfl fun x=>h x
theorem IM(as:List (List Nat)):∀(n:Nat)(d1 d2:List Nat),(∀x,d1.contains x=d2.contains x)->eL as n d1=eL as n d2
 |0,_,_,_=>rfl
 |n+1,d1,d2,h=>by
  rw[eL,eL,show j6 as d1=j6 as d2 from funext (UN h)];congr 1
  funext i
  rw[IM as n (i::d1) (i::d2) fun x=>by simp only[List.contains_cons,h x]]
section
variable{P:Program}{Γ:Nat->Option AV}{as:List (List Nat)}{gs:List AG}{fn:FuncId}{k:List It}{ds:List da}{kind:FK}{base:Nat}{up:List Fr}{c:ar}
def kY(P:Program)(Γ:Nat->Option AV)(as:List (List Nat))(gs:List AG)(fn:FuncId)(k:List It)(ds:List da)(kind:FK)(base:Nat)(up:List Fr)(c:ar)(done:List Nat)(n:Nat)(t:List AV)(h:List Ob):Prop:=
 ∀l∈eL as n done,Reach P Γ (.fr ⟨.run,fn,.ops (l.map fun i=>gs.getD i default)::k,t,ds,kind,base⟩ up h) c
theorem kY.step{done:List Nat}{n:Nat}{t:List AV}{h:List Ob}
 (h1:∀i∈(List.range as.length).filter (j6 as done),∃d op v h',gs.getD i default=⟨d,none,op⟩/\(ay P Γ t h op=.val v h'\/v=.aG []/\ay P Γ t h op=.skip h')/\kY P Γ as gs fn k ds kind base up c (i::done) n (aX t d v) h'):kY P Γ as gs fn k ds kind base up c done (n+1) t h:=by
 intro l hl;simp only[eL,uo,dn]at hl;obtain⟨i,hi,l',hl',rfl⟩:=hl;obtain⟨d,op,v,h',e1,e2,h3⟩:=h1 i hi;have h4:=h3 l' hl';refine .trans (Reach.tz 1 _) ?_;simp only[cn,e1]
 rcases e2 with e2|⟨rfl,e2⟩
 ·rw[show(1:Nat)=0+1 from rfl,Nk,e2,aa3];exact h4
 ·rw[show(1:Nat)=0+1 from rfl,Nk,e2,Y6];exact h4
theorem kY.congr{d1 d2:List Nat}{n:Nat}{t:List AV}{h:List Ob}(h1:kY P Γ as gs fn k ds kind base up c d1 n t h)(h2:∀x,d1.contains x=d2.contains x):kY P Γ as gs fn k ds kind base up c d2 n t h:=by
 intro l hl;rw[<-IM as n d1 d2 h2]at hl;exact h1 l hl
theorem kY.perm{d1 d2:List Nat}{n:Nat}{t:List AV}{h:List Ob}(h1:kY P Γ as gs fn k ds kind base up c d1 n t h)(h2:d1.Perm d2):kY P Γ as gs fn k ds kind base up c d2 n t h:=
 h1.congr fun x=>by rw[fN,Rr,Rr];exact h2.mem_iff
theorem kY.all{t:List AV}{h:List Ob}(h1:kY P Γ as gs fn k ds kind base up c [] as.length t h):Reach P Γ (.fr ⟨.run,fn,.code (.ea as gs)::k,t,ds,kind,base⟩ up h) c:=
 .ea (f:=⟨.run,fn,.code (.ea as gs)::k,t,ds,kind,base⟩) rfl rfl h1
end
end Go.AM
namespace Go.AM
open Go.ChangeShapes Go.WideShapes Go.ChangeAt Go.RowKit
theorem VU{P:Program}{W:World}{l:List (String×DataW Unit)}(hl:laidMetH P l W):laidMetH P (l.filter fun x=>x.2.handleName?.isNone) W:=by
 have h:=(laidMetH_iff.1 hl).1;rw[MakeChecks.laidMetH_plain _ _ _ (by rw[dy];intro x hx;exact(dM.1 hx).2)];exact h
def Fb(fno:List UInt8->FuncId):DataW (List UInt8)->AV
 |.held t=>.fn (.func (fno t)) [] []
 |d=>vZ d
def m3(fno:List UInt8->FuncId):DataW (List UInt8)->AV
 |.agg ds=>.agg (ds.map (Fb fno))
 |d=>Fb fno d
theorem ZQ{P:Program}{e tf ti:TypeId}{q:IntKind}{fs:Array Field}(he:P.underlying e=some (.struct fs))(hfs:fs.toList.map (fun f=>(f.type,f.offset))=[(tf,0),(ti,1)])
 (htf:(match P.underlying tf with|some (.func ..)=>true|_=>false)=true)(hti:P.underlying ti=some (.int q))(h1:P.cellsOf tf=1)(h2:P.cellsOf ti=1)(h3:P.cellsOf e=2)
 {fno:List UInt8->FuncId}{w:World}{base:Nat}{sp:Nat->Bool}{n:Nat}{v:Value}{x:DataW (List UInt8)×List MemPlace}{g:G}{h:List Ob}{t0:List UInt8}{k:Int}(hx:x.1=.agg [.held t0,.lit (.int q k)])(ht0:t0≠[])
 (hno:∀f fn,P.funcs[f]? =some fn->fn.name.toUTF8.data.toList=t0->fno t0=f)
 (hf:v.formed P e=true)(ht:DataW.trod (funcToken P) P w base sp true n e v.cells.toList=some x):V g h (m3 fno x.1) v/\aF 0 (m3 fno x.1)=true:=by
 cases v<;>simp[Value.formed,he]at hf
 rename_i cs
 have hl:cs.toList.length=2:=by simpa[h3]using hf
 obtain⟨a,b,hab⟩:∃a b,cs.toList=[a,b]:=by
  match hc:cs.toList,hl with
  |[a,b],_=>exact⟨a,b,rfl⟩
 obtain⟨f1,f2,hff,e1,e2,e3,e4⟩:∃f1 f2,fs.toList=[f1,f2]/\f1.type=tf/\f1.offset=0/\f2.type=ti/\f2.offset=1:=by
  rcases hc:fs.toList with _|⟨f1,_|⟨f2,_|⟨f3,r⟩⟩⟩<;>rw[hc]at hfs<;>simp at hfs
  exact⟨f1,f2,rfl,hfs.1.1,hfs.1.2,hfs.2.1,hfs.2.2⟩
 cases n with
 |zero=>simp[DataW.trod]at ht
 |succ m=>
  simp only[Value.cells,hab]at ht;rw[DataW.trod_step]at ht;unfold DataW.trodStep at ht;rw[he]at ht;simp only[hff,e1,e2,e3,e4,h1,h2,h3,b9,dq,cu,qg,List.mapM_nil]at ht;simp only[nN,Ih,bO,mO,aj,iu,List.drop_succ_cons,H6,List.take_zero]at ht;obtain⟨y,⟨y1,hy1,ys,⟨y2,hy2,zs,rfl,rfl⟩,rfl⟩,rfl⟩:=ht;simp only[cn,lZ,DataW.agg.injEq,rT,nI]at hx;obtain⟨hx1,hx2⟩:=hx;obtain⟨n2,w2,rfl,_⟩:=DataW.trod_int hti hy2;simp only[rT,nI]at w2;subst w2
  cases m with
  |zero=>simp[DataW.trod]at hy1
  |succ m=>
  rw[DataW.trod_step]at hy1;unfold DataW.trodStep at hy1
  cases hu:P.underlying tf with
  |none=>rw[hu]at htf;cases htf
  |some d=>
  rw[hu]at htf hy1
  cases d<;>simp only[reduceCtorEq]at htf hy1
  cases a<;>simp only[aj,cu,reduceCtorEq]at hy1
  ·rename_i fn first cap
   subst hy1;simp only[DataW.held.injEq]at hx1
   obtain⟨b0,r0,hbr⟩:∃b0 r0,t0=b0::r0:=by
    cases t0 with
    |nil=>exact absurd rfl ht0
    |cons b0 r0=>exact⟨b0,r0,rfl⟩
   obtain⟨f,fu,hv,hfu,_,hname⟩:=funcToken_tells (hx1.trans hbr)
   cases hv
   have:=hno f fu hfu (hname.trans hbr.symm)
   have hcs:cs=[Value.func (.func f) #[] #[],Value.int q n2].toArray:=by rw[<-hab]
   subst hcs;simp[m3,Fb,vZ,V,VL,aF,aI,hx1,this]
  ·subst hy1
   cases hx1
theorem NH{α β:Type}{R:α->β->Prop}:∀{l:List α}{m:List β},F2 R l m->F2 (fun a b=>R a b/\b∈m) l m
 |_,_,.nil=>.nil
 |_,_,.cons h1 h2=>.cons ⟨h1,by simp⟩ (Aj (NH h2) fun a b h=>⟨h.1,by simp[h.2]⟩)
theorem XG{P:Program}{W:World}{l:List (String×DataW Unit)}(hl:laidMetH P l W){name:String}{en:List (Lit×DataW Unit)}{g:Nat}{t k e:TypeId}(hm:(name,DataW.iface "func table" (.map en))∈l)(fno:List UInt8->FuncId)
 (hg:P.globalNamed name=some g)(ht:(P.globals[g]?).map (·.type)=some t)(hu:P.underlying t=some (.map k e))
 (hK:∀(v:Value)(q:Lit),keyOf P k v=some q->V (gw W) [] (iL q) v/\aF 0 (iL q)=true)
 (hV:∀(n:Nat)(v:Value)(x:DataW (List UInt8)×List MemPlace),(∃z∈DataW.funcsOutEntries en,z.2=x.1)->v.formed P e=true->DataW.trod (funcToken P) P W 0 (fun _=>true) true n e v.cells.toList=some x->V (gw W) [] (m3 fno x.1) v/\aF 0 (m3 fno x.1)=true):
 ∃ks us,aI 0 (AV.cells (.c8 ks us))=true/\(∃vs,VL (gw W) [] (AV.cells (.c8 ks us)) vs/\∀j(hj:j<vs.length),W.cell? ⟨g,j,none⟩=some vs[j])/\∃z:List (AV×AV),ks.zip us=z/\∀y,y∈z↔y∈(DataW.funcsOutEntries en).map fun d=>(iL d.1,m3 fno d.2):=by
 obtain⟨g',t',cs,fuel,p,h2,h3,h4,h5⟩:=hl.funcs hm;obtain rfl:=Option.some.inj (hg.symm.trans h2);obtain rfl:=Option.some.inj (ht.symm.trans h3);rw[DataW.funcsOut]at h5;generalize hD:DataW.funcsOutEntries en=D at*;obtain⟨n,b,es,ck,entries,hcs,hb,hF,rfl⟩:=K1 hu h5;have hF2:=NH hF;refine⟨entries.map fun y=>iL y.1.1,entries.map fun y=>m3 fno y.1.2,?_,⟨[.map (some b)],?_,?_⟩,_,rfl,?_⟩
 ·have a:=ow (g:=gw W) (h:=[]) (f:=fun y=>iL y.1.1) (e:=fun x:MapEntry=>x.key) hF (fun x y hxy=>hK _ _ hxy.1);have c:=ow (g:=gw W) (h:=[]) (f:=fun y=>m3 fno y.1.2) (e:=fun x:MapEntry=>x.val) hF2 (fun x y hxy=>hV n _ (y.1.2,y.2) ⟨y.1,(qG _ _).2 (rY hxy.2),rfl⟩ hxy.1.2.1 hxy.1.2.2);simp only[AV.cells,aI,aF,a.2,c.2,l5]
 ·have a:=ow (g:=gw W) (h:=[]) (f:=fun y=>iL y.1.1) (e:=fun x:MapEntry=>x.key) hF (fun x y hxy=>hK _ _ hxy.1);have c:=ow (g:=gw W) (h:=[]) (f:=fun y=>m3 fno y.1.2) (e:=fun x:MapEntry=>x.val) hF2 (fun x y hxy=>hV n _ (y.1.2,y.2) ⟨y.1,(qG _ _).2 (rY hxy.2),rfl⟩ hxy.1.2.1 hxy.1.2.2);simp only[AV.cells,VL,V];refine⟨_,[],rfl,⟨b,es,ck,rfl,by simp only[gw,hb],a.1,c.1⟩,rfl⟩
 ·intro j hj
  obtain rfl:j=0:=by simp at hj;omega
  rw[World.var?_cell hg h4 0,um.symm,hcs];rfl
 ·intro y;rw[List.zip_map',dn,dn];constructor
  ·rintro⟨x,hx,rfl⟩
   exact⟨x.1,(qG _ _).2 (rY hx),rfl⟩
  ·rintro⟨d,hd,rfl⟩
   obtain⟨x,hx,rfl⟩:=dn.1 ((qG _ _).1 hd);exact⟨x,hx,rfl⟩
end Go.AM
