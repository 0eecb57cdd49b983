/- The abstract machine: rows of slices whose slices turn no more; literals that are rows of their own. -/
import Derived.Test.YtchjijfjidlpjaaGreatDoorAMc
import Derived.ProofKit
import Derived.OpenShut
import Derived.JoinedCond
import Derived.ChangeStays
import Derived.ChangeBears
import Derived.ChangeCalls
import Derived.Below
import Derived.MakeChecks
import Derived.LaidMore
import Derived.StringKeys
import Derived.ChangeKeys
import Derived.LaidHandle
import Derived.LaidSub
set_option linter.unusedSimpArgs false
set_option linter.unusedVariables false
namespace Go.AM
open Go.RowKit
theorem L8{j:Nat}:∀(is:List Nat)(h:List Ob),j∉is->(share is h)[j]? =h[j]?
 |[],_,_=>rfl
 |i::is,h,hj=>by
  simp only[bw,not_or]at hj;simp only[share]
  have hne:¬i=j:=fun e=>hj.1 e.symm
  rw[L8 is _ hj.2,xt];simp[hne]
section
variable{P:Program}{Γ:Nat->Option AV}{N:Env}{g:G}{h:List Ob}{w:World}
theorem K8{a a':AV}(hv:view h a=some a')(ho:a.one=true):a'.one=true:=by
 cases a with
 |agg _|aL _|undef|own _ _ _=>simp[AV.one]at ho
 |list f k es=>simp only[view,al]at hv;subst hv;rfl
 |sl i o n=>simp only[view,bN]at hv;obtain⟨p,_,rfl⟩:=hv;rfl
 |ptr _ _|mp _|it _|dA _|cL _ _ _ _=>simp[view]at hv
 |de _ _=>simp only[view]at hv;split at hv<;>simp at hv;subst hv;rfl
 |fn f x y=>simp only[view]at hv;split at hv<;>simp at hv;subst hv;rfl
 |bX t x=>simp only[view,bN]at hv;obtain⟨y,_,rfl⟩:=hv;rfl
 |_=>simp only[view,al]at hv;subst hv;rfl
theorem Dm:∀{as as':List AV},bK h as=some as'->as'.length=as.length/\(bO as=true->bO as'=true)
 |[],as',hv=>by simp only[bK,al]at hv;subst hv;exact⟨rfl,id⟩
 |a::as,as',hv=>by
  simp only[bK]at hv
  split at hv
  ·rename_i a1 as1 h1 h2;simp only[al]at hv;subst hv;obtain⟨h3,h4⟩:=Dm h2;refine⟨by simp[h3],fun ho=>?_⟩;simp only[bO,aC]at ho⊢;exact⟨K8 h1 ho.1,h4 ho.2⟩
  ·cases hv
theorem U9{a a':AV}(hv:view h a=some a')(ho:bO a.cells=true):a'.cells.length=a.cells.length/\bO a'.cells=true:=by
 by_cases ha:∃cs,a=.agg cs
 ·obtain⟨cs,rfl⟩:=ha;simp only[view,bN]at hv;obtain⟨cs',h1,rfl⟩:=hv;obtain⟨h2,h3⟩:=Dm h1;exact⟨h2,h3 ho⟩
 ·have hc:a.cells=[a]:=by cases a<;>first|rfl|exact absurd ⟨_,rfl⟩ ha
  rw[hc]at ho;simp only[bO,pF]at ho;have h1:=K8 hv ho
  have hc':a'.cells=[a']:=by cases a'<;>first|rfl|simp[AV.one]at h1
  rw[hc,hc'];exact⟨rfl,by simp[bO,h1]⟩
theorem WM{n:Nat}{a:AV}(h:aJ n a=true):aO n a.cells=true:=by
 cases a<;>simp_all [AV.cells,aJ,aO]
theorem L'(H:Inv P Γ N g h w){g':G}{h':List Ob}(x:Ext h.length g h g' h'):∀{as as':List AV}{us:List Value},(∀i∈bF as,pB g' h w g i)->VE g h as us->bK h as=some as'->VE g' h' as' us
 |[],as',us,_,hv,ha=>by
  simp only[bK,al]at ha;subst ha;simpa only [VE]using hv
 |a::as,as',us,hc,hv,ha=>by
  simp only[bK]at ha
  split at ha
  ·rename_i a1 as1 h1 h2;simp only[al]at ha;subst ha;simp only[VE]at hv⊢;obtain⟨u,us',h3,rfl,h4⟩:=hv;simp only[bF,ba]at hc;exact⟨u,us',rO H x (fun i hi=>hc i (Or.inl hi)) h3 h1,rfl,L' H x (fun i hi=>hc i (Or.inr hi)) h4 h2⟩
  ·cases ha
theorem Nx(H:Inv P Γ N g h w){k:Nat}:∀{as as':List AV}{us:List Value},dz k as->VE g h as us->bK h as=some as'->cj as' k=true
 |[],as',us,_,_,ha=>by simp only[bK,al]at ha;subst ha;rfl
 |a::as,as',us,hK,hv,ha=>by
  simp only[bK]at ha
  split at ha
  ·rename_i a1 as1 h1 h2;simp only[al]at ha;subst ha;simp only[VE]at hv;obtain⟨u,us',h3,rfl,h4⟩:=hv;obtain⟨hk1,hk2⟩:=hK a (by simp);obtain⟨h5,h6⟩:=U9 h1 hk2;simp only[cj,aC,a8];exact⟨⟨⟨by omega,h6⟩,WM (zX H h3 h1)⟩,Nx H (fun e he=>hK e (dm _ he)) h4 h2⟩
  ·cases ha
theorem KY{es es':List AV}(h:es'.length=es.length)(gr:Option Nat)(off n:Nat):cr es' gr off n=cr es gr off n:=by
 unfold cr;rw[h]
theorem Inv.freeze(H:Inv P Γ N g h w){i k:Nat}{E:TypeId}{es es':List AV}{gr:Option Nat}{fl sh:Bool}(hi:h[i]? =some (.row k E es gr fl sh))(hg:gr.getD 0=0)
 (hv:bK h es=some es')(hn:(bF es).contains i=false):
 ∃g',Inv P Γ N g' ((share (bF es) h).set i (.row k E es' gr true sh)) w/\Ext h.length g h g' ((share (bF es) h).set i (.row k E es' gr true sh)):=by
 obtain⟨g1,hρ1,hMM1,hM1,H1,hE1,hC1⟩:=nr (bF es) H
 have hni:i∉bF es:=by simpa using hn
 have hi1:(share (bF es) h)[i]? =some (.row k E es gr fl sh):=by rw[L8 _ _ hni];exact hi
 have hlen:=(Dm hv).1;have hil1:=bj hi1;have hob:=H.ob i _ hi;simp only[OV]at hob;obtain⟨hk0,hK,hfl,hgl,hb⟩:=hob
 have hE2:Ext (share (bF es) h).length g1 (share (bF es) h) g1 ((share (bF es) h).set i (.row k E es' gr true sh)):=by
  have:=Ext.oJ (E':=E) (es':=es') (gr':=gr) (fl':=true) (sh':=sh) (ρ':=g1.ρ i) hi1 (by omega) (fun off m hom hok=>⟨by rw[<-KY hlen];exact hok,hlen,fun _ x=>x⟩);rwa[cK]at this
 have hokall:es'=[]\/(∃us,VE g h es us):=by
  cases hρ:g.ρ i with
  |none=>
   rw[hρ]at hb;simp only at hb;subst hb;simp only[bK,al]at hv;exact Or.inl hv.symm
  |some y=>
   obtain⟨b,sz,st⟩:=y;rw[hρ]at hb;obtain⟨_,c,Ty,fz,vs,_,_,_,hVE,_⟩:=hb;rw[hg]at hVE;exact Or.inr ⟨vs,by simpa using hVE⟩
 have hok':cj es' k=true:=by
  rcases hokall with rfl|⟨us,hus⟩
  ·rfl
  ·exact Nx H hK hus hv
 refine⟨g1,?_,?_⟩
 ·have:=Inv.set (r:=g1.ρ i) (w':=w) (o':=.row k E es' gr true sh) H1 hil1 (by rw[cK];exact hE2) rfl rfl rfl (fun _ _ _=>rfl) (aU _)
   (fun b y hy=>⟨Or.inl ⟨y,hy⟩,(H1.own i b y hy).2⟩)
   (fun b y o v _ hv=>H1.mem b o v hv)
   (by
    intro b sz st o v hy hv';obtain⟨k2,E2,es2,gr2,fl2,h2,h3⟩:=H1.dX i b sz st o v hy hv';rw[hi1]at h2;simp only[al,Ob.row.injEq]at h2;obtain⟨rfl,rfl,rfl,rfl,rfl,rfl⟩:=h2
    exact⟨_,_,_,_,_,rfl,by rw[hlen];exact h3⟩)
   (by
    rw[cK];simp only[OV];refine⟨hk0,jf hok',fun _=>hok',by rw[hlen];exact hgl,?_⟩;rw[hρ1]
    cases hρ:g.ρ i with
    |none=>
     rw[hρ]at hb;simp only at hb⊢;subst hb;simp only[bK,al]at hv;exact hv.symm
    |some y=>
     obtain⟨b,sz,st⟩:=y;rw[hρ]at hb;simp only at hb⊢;obtain⟨q1,c,Ty,fz,vs,q2,q3,q4,hVE,q5⟩:=hb;refine⟨q1,c,Ty,fz,vs,q2,q3,q4,?_,q5⟩;rw[hg]at hVE⊢;simp only[dV]at hVE⊢;have h1:=L' H hE1 hC1 hVE hv
     exact fg hE2 (jm h1) h1)
  rwa[cK]at this
 ·have:=jL (bF es) h;rw[this]at hE2;exact hE1.trans hE2
theorem Inv.eN(H:Inv P Γ N g h w){i j k k0:Nat}(E:TypeId){cs:List AV}(hi:h[i]? =some (.cells cs))(hj:cs[j]? =some (.list true k0 []))(hk:0<k):
 ∃g',Inv P Γ N g' ((h++[Ob.row k E [] none true false]).set i (.cells (cs.set j (.sl h.length 0 0)))) w/\Ext h.length g h g' ((h++[Ob.row k E [] none true false]).set i (.cells (cs.set j (.sl h.length 0 0)))):=by
 have hE1:=Ext.push (g:=g) (h:=h) [Ob.row k E [] none true false] none
 have H1:Inv P Γ N (g.bA h.length none) (h++[Ob.row k E [] none true false]) w:=by
  refine Inv.push (r:=none) H rfl rfl rfl (fun _ _=>rfl) (aU _) (fun b x hb=>by cases hb) ?_ (fun j o hj=>by simp at hj);simp only[OV];rw[cJ];exact⟨hk,by simp,fun _=>rfl,by simp,trivial⟩
 have hi1:(h++[Ob.row k E [] none true false])[i]? =some (.cells cs):=by rw[dk (bj hi)];exact hi
 have hE2:=Ext.Dt (g:=g.bA h.length none) (vs':=cs.set j (.sl h.length 0 0)) hi1;have hil1:=bj hi1
 have hni:h.length≠i:=by have:=bj hi;omega
 refine⟨g.bA h.length none,?_,?_⟩
 ·have:=Inv.set (r:=(g.bA h.length none).ρ i) (w':=w) (o':=.cells (cs.set j (.sl h.length 0 0))) H1 hil1 hE2 rfl rfl rfl (fun _ _ _=>rfl) (aU _)
   (fun b y hy=>⟨Or.inl ⟨y,hy⟩,(H1.own i b y hy).2⟩)
   (fun b y o v _ hv=>H1.mem b o v hv)
   (by
    intro b sz st o v hy hv';obtain⟨k2,E2,es2,gr2,fl2,h2,h3⟩:=H1.dX i b sz st o v hy hv';rw[hi1]at h2
    cases h2)
   (by
    rw[cK];simp only[OV];intro b sz st hb;have hob:=H1.ob i _ hi1;simp only[OV]at hob;obtain⟨c,Ty,fz,q1,q2,q3⟩:=hob b sz st hb;refine⟨c,Ty,fz,q1,q2,?_⟩;obtain⟨v,hv1,hv2⟩:=qc q3 hj;simp only[V]at hv2;obtain⟨_,a,cap,rfl,hcap,_,_⟩:=hv2
    have hcap0:cap=0:=by simpa using hcap trivial
    subst hcap0
    have hx:V (g.bA h.length none) ((h++[Ob.row k E [] none true false]).set i (.cells (cs.set j (.sl h.length 0 0)))) (.sl h.length 0 0) (.slice a ([]:List AV).length 0):=by
     simp only[V];refine⟨k,E,[],none,true,false,?_,by simp,a,0,rfl,by simp,by simp,fun _=>⟨by simp,Or.inl ⟨rfl,rfl⟩⟩⟩;rw[dK (Ne.symm hni)];simp
    have hE2':=hE2;rw[cK]at hE2';have hvl:=b_ hE2' (cV q3) q3;have h5:=oN j hvl hx
    have h6:c.toList.set j (.slice a ([]:List AV).length 0)=c.toList:=by
     apply lh;intro m
     by_cases hm:j=m
     ·subst hm;rw[gn (bj hv1),hv1]
     ·rw[dK hm]
    rwa[h6]at h5)
  rwa[cK]at this
 ·rw[cK]at hE2;exact hE1.trans (hE2.mono (by simp))
theorem J5{g:G}{h:List Ob}{r:Nat}(hr:∀a,V g h (.sl r 0 0) (.slice a 0 0)):∀{es:List AV}{vs:List Value}{j k0:Nat},VE g h es vs->es[j]? =some (.list true k0 [])->VE g h (es.set j (.sl r 0 0)) vs
 |[],_,_,_,_,hj=>by simp at hj
 |e::es,vs,0,k0,hv,hj=>by
  simp only[pH,al]at hj;subst hj;simp only[VE]at hv;obtain⟨v,vs',h1,rfl,h2⟩:=hv;simp only[V]at h1;obtain⟨_,a,cap,rfl,hcap,_,_⟩:=h1
  have hcap0:cap=0:=by simpa using hcap trivial
  subst hcap0;simp only[xj,VE];exact⟨_,vs',hr a,rfl,h2⟩
 |e::es,vs,j+1,k0,hv,hj=>by
  simp only[ni]at hj;simp only[VE]at hv;obtain⟨v,vs',h1,rfl,h2⟩:=hv;simp only[uP,VE];exact⟨v,vs',h1,rfl,J5 hr h2 hj⟩
theorem Inv.EC(H:Inv P Γ N g h w){i j k k0:Nat}(E:TypeId){E0:TypeId}{es:List AV}{fl sh:Bool}(hi:h[i]? =some (.row 1 E0 es none fl sh))(hj:es[j]? =some (.list true k0 []))(hk:0<k):
 ∃g',Inv P Γ N g' ((h++[Ob.row k E [] none true false]).set i (.row 1 E0 (es.set j (.sl h.length 0 0)) none false sh)) w/\Ext h.length g h g' ((h++[Ob.row k E [] none true false]).set i (.row 1 E0 (es.set j (.sl h.length 0 0)) none false sh)):=by
 have hE1:=Ext.push (g:=g) (h:=h) [Ob.row k E [] none true false] none
 have H1:Inv P Γ N (g.bA h.length none) (h++[Ob.row k E [] none true false]) w:=by
  refine Inv.push (r:=none) H rfl rfl rfl (fun _ _=>rfl) (aU _) (fun b x hb=>by cases hb) ?_ (fun j o hj=>by simp at hj);simp only[OV];rw[cJ];exact⟨hk,by simp,fun _=>rfl,by simp,trivial⟩
 have hi1:(h++[Ob.row k E [] none true false])[i]? =some (.row 1 E0 es none fl sh):=by rw[dk (bj hi)];exact hi
 have hlen:(es.set j (.sl h.length 0 0)).length=es.length:=by simp
 have hE2:Ext (h++[Ob.row k E [] none true false]).length (g.bA h.length none) (h++[Ob.row k E [] none true false]) (g.bA h.length none) ((h++[Ob.row k E [] none true false]).set i (.row 1 E0 (es.set j (.sl h.length 0 0)) none false sh)):=by
  have:=Ext.oJ (E':=E0) (es':=es.set j (.sl h.length 0 0)) (gr':=none) (fl':=false) (sh':=sh) (ρ':=(g.bA h.length none).ρ i) hi1 (by omega) (fun off m hom hok=>⟨by rw[<-KY hlen];exact hok,hlen,fun _ x=>x⟩);rwa[cK]at this
 have hil1:=bj hi1
 have hni:h.length≠i:=by have:=bj hi;omega
 refine⟨g.bA h.length none,?_,hE1.trans (hE2.mono (by simp))⟩
 have:=Inv.set (r:=(g.bA h.length none).ρ i) (w':=w) (o':=.row 1 E0 (es.set j (.sl h.length 0 0)) none false sh) H1 hil1 (by rw[cK];exact hE2) rfl rfl rfl (fun _ _ _=>rfl) (aU _)
  (fun b y hy=>⟨Or.inl ⟨y,hy⟩,(H1.own i b y hy).2⟩)
  (fun b y o v _ hv=>H1.mem b o v hv)
  (by
   intro b sz st o v hy hv';obtain⟨k2,E2,es2,gr2,fl2,h2,h3⟩:=H1.dX i b sz st o v hy hv';rw[hi1]at h2;simp only[al,Ob.row.injEq]at h2;obtain⟨rfl,rfl,rfl,rfl,rfl,rfl⟩:=h2
   exact⟨_,_,_,_,_,rfl,by rw[hlen];exact h3⟩)
  (by
   rw[cK];have hob:=H1.ob i _ hi1;simp only[OV]at hob⊢;obtain⟨_,hK,_,hgl,hb⟩:=hob;refine⟨by omega,?_,by simp,by simp,?_⟩
   ·intro e he
    rcases xp he with he|rfl
    ·exact hK e he
    ·exact⟨rfl,rfl⟩
   ·cases hρ:(g.bA h.length none).ρ i with
    |none=>
     rw[hρ]at hb;simp only at hb;subst hb;simp at hj
    |some y=>
     obtain⟨b,sz,st⟩:=y;rw[hρ]at hb;simp only at hb⊢;obtain⟨q1,c,Ty,fz,vs,q2,q3,q4,hVE,q5⟩:=hb;refine⟨q1,c,Ty,fz,vs,q2,q3,q4,?_,q5⟩;simp only[sB,dV]at hVE⊢
     have hx:∀a,V (g.bA h.length none) ((h++[Ob.row k E [] none true false]).set i (.row 1 E0 (es.set j (.sl h.length 0 0)) none false sh)) (.sl h.length 0 0) (.slice a ([]:List AV).length 0):=by
      intro a;simp only[V];refine⟨k,E,[],none,true,false,?_,by simp,a,0,rfl,by simp,by simp,fun _=>⟨by simp,Or.inl ⟨rfl,rfl⟩⟩⟩;rw[dK (Ne.symm hni)];simp
     exact J5 hx (fg hE2 (jm hVE) hVE) hj)
 rwa[cK]at this
def ma(h:List Ob)(a:AV):AV:=(view h a).getD a
theorem NA(H:Inv P Γ N g h w){g':G}{h':List Ob}(x:Ext h.length g h g' h'){a:AV}{u:Value}(hc:∀i∈rowsOf a,pB g' h w g i)(hv:V g h a u):V g' h' (ma h a) u:=by
 unfold ma
 cases hw:view h a with
 |none=>exact fo x (jU hv) hv
 |some a'=>exact rO H x hc hv hw
theorem IU{i:Nat}{cs:List AV}:∀(is:List Nat)(h:List Ob),h[i]? =some (.cells cs)->(share is h)[i]? =some (.cells cs)
 |[],h,hi=>hi
 |j::is,h,hi=>IU is _ (by
   rw[xt,hi]
   by_cases hj:j=i<;>simp[hj,gy])
theorem Inv.mM(H:Inv P Γ N g h w){i:Nat}(j:Nat){cs:List AV}(hi:h[i]? =some (.cells cs)):
 ∃g',Inv P Γ N g' ((share (rowsOf (cs.getD j .undef)) h).set i (.cells (cs.set j (ma h (cs.getD j .undef))))) w/\Ext h.length g h g' ((share (rowsOf (cs.getD j .undef)) h).set i (.cells (cs.set j (ma h (cs.getD j .undef))))):=by
 obtain⟨g1,hρ1,hMM1,hM1,H1,hE1,hC1⟩:=nr (rowsOf (cs.getD j .undef)) H;have hi1:=IU (rowsOf (cs.getD j .undef)) h hi;have hE2:=Ext.Dt (g:=g1) (vs':=cs.set j (ma h (cs.getD j .undef))) hi1;have hil1:=bj hi1;refine⟨g1,?_,?_⟩
 ·have:=Inv.set (r:=g1.ρ i) (w':=w) (o':=.cells (cs.set j (ma h (cs.getD j .undef)))) H1 hil1 hE2 rfl rfl rfl (fun _ _ _=>rfl) (aU _)
   (fun b y hy=>⟨Or.inl ⟨y,hy⟩,(H1.own i b y hy).2⟩)
   (fun b y o v _ hv=>H1.mem b o v hv)
   (by
    intro b sz st o v hy hv';obtain⟨k2,E2,es2,gr2,fl2,h2,h3⟩:=H1.dX i b sz st o v hy hv';rw[hi1]at h2
    cases h2)
   (by
    rw[cK];simp only[OV];intro b sz st hb;have hob:=H.ob i _ hi;simp only[OV]at hob;rw[hρ1]at hb;obtain⟨c,Ty,fz,q1,q2,q3⟩:=hob b sz st hb;refine⟨c,Ty,fz,q1,q2,?_⟩;have hE2':=hE2;rw[cK,jL]at hE2';have hE3:=hE1.trans hE2';have hx:=NA H hE3 hC1 (rK j q3);have h5:=oN j (b_ hE3 (cV q3) q3) hx
    have h6:c.toList.set j (c.toList.getD j undef)=c.toList:=by
     apply lh;intro m
     by_cases hm:j=m
     ·subst hm;rw[mn]
      by_cases hl:j<c.toList.length
      ·rw[if_pos rfl,if_pos hl,bz,a_ hl];rfl
      ·rw[if_pos rfl,if_neg hl,mh (by omega)]
     ·rw[dK hm]
    rwa[h6]at h5)
  rwa[cK]at this
 ·rw[cK,jL]at hE2;exact hE1.trans hE2
theorem Z6{o:Oper}{k:Nat}{zs:List AV}{ps:List (Nat×AX)}(hc:bL P o=some (.lit k zs ps)):
 ∃ty n parts e z,o.op=.buildSlice ty n parts/\P.underlying ty=some (.slice e)/\bm P e=some k/\0<k/\dy P e=some z/\jF k z=true/\n*k<=2^24/\zs=List.replicate n z/\ps=parts.toList.map fun q=>(q.1,ay q.2):=by
 cases ho:o.op with
 |buildSlice ty n parts=>
  simp only[bL,ho]at hc
  cases hE:jV P ty with
  |none=>simp[hE]at hc
  |some e=>
  cases hk:bm P e with
  |none=>simp[hE,hk]at hc
  |some k2=>
  cases hz:dy P e with
  |none=>simp[hE,hk,hz]at hc
  |some z=>
  simp only[hE,hk,hz,pI,jb]at hc
  split at hc
  ·cases hc
  ·rename_i hcond;simp only[al,AO.lit.injEq]at hc;obtain⟨rfl,rfl,rfl⟩:=hc;simp only[not_or]at hcond;obtain⟨c1,c2,c3⟩:=hcond;refine⟨ty,n,parts,e,z,rfl,?_,hk,by omega,hz,by simpa using c3,by omega,rfl,rfl⟩;unfold jV at hE
   split at hE<;>simp_all
 |call c=>
  exfalso;simp only[bL,ho,lN]at hc
  (repeat' split at hc)<;>first|(cases hc;done)|(simp[oe]at hc;done)|(simp only[pI,oe,bN]at hc;obtain⟨_,_,h1⟩:=hc;revert h1;simp;done)|(simp only[pI,oe]at hc;obtain⟨_,_,_,_,_,_,_,_,h1⟩:=hc;revert h1;split<;>(try split)<;>simp;done)|skip
 |_=>exfalso;simp only[bL,ho]at hc;(repeat' split at hc)<;>first|contradiction|(cases hc;done)|(simp[oe]at hc;done)|skip
theorem VX(H:Inv P Γ N g h w){r:Operand->Value}{t:List AV}{o:Oper}{ty e:TypeId}{n:Nat}{ps:Array (Nat×Operand)}(ho:o.op=.buildSlice ty n ps)(hu:P.underlying ty=some (.slice e)){k:Nat}(hk:bm P e=some k)(hk0:0<k)
 {z:AV}(hz:dy P e=some z)(hzo:jF k z=true)(hnk:n*k<=2^24)(he:∀x,V g h (ax t (ay x)) (r x))
 {es:List AV}(hf:o_ k (List.replicate n z) ((ps.toList.map fun q=>(q.1,ay q.2)).map fun q=>(q.1,ax t q.2))=some es){fl:Bool}(hfl:fl=true->cj es k=true)(E:TypeId):
 aG P Γ N r o w g h (h++[.row k E es none fl false]) (some (.sl h.length 0 es.length)):=by
 obtain⟨zv,hzr,rfl⟩:=tp hz;simp only[jF,aC,a8]at hzo;obtain⟨⟨hzk,hz1⟩,hzb⟩:=hzo;have hzk':=tc hzk
 have hF:F2 (fun(p:Nat×AV) (q:Nat×Value)=>p.1=q.1/\V g h p.2 q.2) ((ps.toList.map fun q=>(q.1,ay q.2)).map fun q=>(q.1,ax t q.2)) (ps.map fun q=>(q.1,r q.2)).toList:=by
  rw[Array.toList_map,lf];generalize ps.toList=l
  induction l with
  |nil=>exact .nil
  |cons q l ih=>exact .cons ⟨rfl,he q.2⟩ ih
 have hVE0:=sP (mG g h zv) n;have hzl:=td hzk' n
 let zs:Array Value:=(Array.range (n*k)).map fun i=>(if n*k=0 then#[]else zv.cells)[i%(if n*k=0 then#[]else zv.cells).size]!
 have hzs:zs.toList=(List.replicate n zv.cells.toList).flatten:=by
  simp only[zs]
  by_cases hnk0:n*k=0
  ·have:n=0:=by
    rcases HK.1 hnk0 with h1|h1
    ·exact h1
    ·omega
   simp[this]
  ·simp only[hnk0,cE,hzk'];exact hzl
 obtain⟨us,h1,h2,h3,h4⟩:=CD (zs:=zs) hF hf (jf (sH hzk hz1 hzb n)) (by rw[hzs];exact hVE0)
 have hlen:es.length=n:=by rw[h4,ku]
 have husl:us.toList.length=n*k:=by rw[gv h3 h2,hlen]
 have hrun:(Instr.buildSlice ty n (ps.map fun q=>(q.1,r q.2))).run P w=.ok (.slice (some ⟨w.heap.size,0,none⟩) n n) (w.alloc (.cells (us.toList++[]).toArray e)):=by
  have hus:(us.toList++[]).toArray=us:=by simp
  rw[hus];simp only[Instr.buildSlice,Sem.run_bind,run_underlying hu,Result.andThen_ok,gN hk];rw[if_neg (by omega)]
  by_cases hnk0:n*k=0
  ·have hzs0:zs=(Array.range (n*k)).map fun i=>(#[]:Array Value)[i%(#[]:Array Value).size]! :=by simp only[zs,hnk0,bY]
   rw[hzs0]at h1;rw[if_pos hnk0];simp only[Sem.run_bind,Sem.run_pure,Result.andThen_ok];rw[h1];simp[newRow]
  ·have hzs0:zs=(Array.range (n*k)).map fun i=>zv.cells[i%zv.cells.size]! :=by simp only[zs,hnk0,cE]
   rw[hzs0]at h1;rw[if_neg hnk0];simp only[Sem.run_bind,hzr,Sem.run_pure,Result.andThen_ok];rw[h1];simp[newRow]
 refine aG.make (w':=w) H rfl rfl rfl rfl (sz:=n*k) (by simp only[execOp,ho];rw[Sem.run_bind,hrun];rfl) ?_ (by simp) ?_
 ·exact Ag (P:=P) hk0 h3 hfl (cJ _ _ _) (kx w _) (by simpa using husl.symm) (tG _) (fg (Ext.push _ _) (jm h2) h2)
 ·have:=zn (h:=h) (g':=g.bA h.length (some (w.heap.size,n*k,0))) (k:=k) (E:=E) (es:=es) (os:=[]) (fl:=fl) (sh:=false) (cJ _ _ _) (cap:=n) (by omega) (aU _);rw[hlen]at this⊢;exact this
end
def e8(n:Nat)(τ:List Nat)(i:Nat):Nat:=if i<n then i else n+τ.idxOf (i-n)
def ey(n:Nat)(τ:List Nat)(i:Nat):Bool:=decide (i<n)||τ.contains (i-n)
mutual
def df(n:Nat)(τ:List Nat):AV->AV
 |.sl i off m=>.sl (e8 n τ i) off m
 |.ptr i off=>.ptr (e8 n τ i) off
 |.mp i=>.mp (e8 n τ i)
 |.it i=>.it (e8 n τ i)
 |.dA i=>.dA (e8 n τ i)
 |.cL a k ix off=>.cL (df n τ a) k ix off
 |.agg cs=>.agg (bT n τ cs)
 |.aL cs=>.aL (bT n τ cs)
 |.fn f a b=>.fn f (bT n τ a) (bT n τ b)
 |.bX t v=>.bX t (df n τ v)
 |.de ks vs=>.de (bT n τ ks) (bT n τ vs)
 |.list f k es=>.list f k es
 |.own k E es=>.own k E es
 |.undef=>.undef
 |.bool b=>.bool b
 |.int k x=>.int k x
 |.str s=>.str s
 |.iq=>.iq
 |.eu=>.eu
 |.ei=>.ei
 |.dZ=>.dZ
 |.dF g off=>.dF g off
def bT(n:Nat)(τ:List Nat):List AV->List AV
 |[]=>[]
 |a::as=>df n τ a::bT n τ as
end
mutual
def eA(n:Nat)(τ:List Nat):AV->Bool
 |.sl i _ _|.ptr i _|.mp i|.it i|.dA i=>ey n τ i
 |.cL a _ _ _=>eA n τ a
 |.agg cs|.aL cs=>dI n τ cs
 |.fn _ a b=>dI n τ a&&dI n τ b
 |.bX _ v=>eA n τ v
 |.de ks vs=>dI n τ ks&&dI n τ vs
 |_=>true
def dI(n:Nat)(τ:List Nat):List AV->Bool
 |[]=>true
 |a::as=>eA n τ a&&dI n τ as
end
def l9(n:Nat)(τ:List Nat):List (AV×AV)->List (AV×AV)
 |[]=>[]
 |(a,b)::r=>(df n τ a,df n τ b)::l9 n τ r
def sk(n:Nat)(τ:List Nat):List (AV×AV)->Bool
 |[]=>true
 |(a,b)::r=>eA n τ a&&eA n τ b&&sk n τ r
def pt(n:Nat)(τ:List Nat):Ob->Ob
 |.cells cs=>.cells (bT n τ cs)
 |.row k E es g fl sh=>.row k E (if fl=true then es else bT n τ es) g fl sh
 |.map es fl=>.map (l9 n τ es) fl
 |.loop st j fn t ps a b=>.loop st j fn (bT n τ t) ps a b
 |o=>o
def m_(n:Nat)(τ:List Nat):Ob->Bool
 |.cells cs=>dI n τ cs
 |.row _ _ es _ fl _=>fl||dI n τ es
 |.map es _=>sk n τ es
 |.loop _ _ _ t _ _ _=>dI n τ t
 |_=>true
def qL(n:Nat)(τ:List Nat):List Ob->Bool
 |[]=>true
 |o::os=>m_ n τ o&&qL n τ os
def kh(n:Nat)(τ:List Nat):List Ob->Bool
 |[]=>true
 |.loop _ _ _ t _ _ _::os=>aO n t&&kh n τ os
 |o::os=>m_ n τ o&&kh n τ os
def kV(n:Nat)(τ:List Nat):List Ob->List Ob
 |[]=>[]
 |o::os=>pt n τ o::kV n τ os
def lK(h:List Ob)(n:Nat):List Nat->List Ob
 |[]=>[]
 |j::js=>h.getD (n+j) .gone::lK h n js
def gX(n:Nat)(τ:List Nat)(h:List Ob):List Ob:=kV n τ (h.take n++lK h n τ)
mutual
theorem vY{n:Nat}{τ:List Nat}:∀{a:AV},aJ n a=true->df n τ a=a
 |.undef,_|.bool _,_|.int _ _,_|.str _,_|.iq,_|.eu,_|.ei,_|.dZ,_|.dF _ _,_|.list _ _ _,_|.own _ _ _,_=>rfl
 |.de ks us,hb=>by simp only[aJ,aC]at hb;simp only[df,qf hb.1,qf hb.2]
 |.sl i _ _,hb|.ptr i _,hb|.mp i,hb|.it i,hb|.dA i,hb=>by simp only[aJ,a8]at hb;simp only[df,e8,hb,bY]
 |.cL a _ _ _,hb=>by simp only[aJ]at hb;simp only[df,vY hb]
 |.agg cs,hb|.aL cs,hb=>by simp only[aJ]at hb;simp only[df,qf hb]
 |.fn f a b,hb=>by simp only[aJ,aC]at hb;simp only[df,qf hb.1,qf hb.2]
 |.bX t v,hb=>by simp only[aJ]at hb;simp only[df,vY hb]
theorem qf{n:Nat}{τ:List Nat}:∀{as:List AV},aO n as=true->bT n τ as=as
 |[],_=>rfl
 |a::as,hb=>by simp only[aO,aC]at hb;simp only[bT,vY hb.1,qf hb.2]
end
theorem Ms{n:Nat}{τ:List Nat}:∀{es:List (AV×AV)},iw n es=true->l9 n τ es=es
 |[],_=>rfl
 |(a,b)::es,hb=>by simp only[iw,aC]at hb;simp only[l9,vY hb.1.1,vY hb.1.2,Ms hb.2]
mutual
theorem Eo{n:Nat}{τ:List Nat}:∀{a:AV},aJ n a=true->eA n τ a=true
 |.undef,_|.bool _,_|.int _ _,_|.str _,_|.iq,_|.eu,_|.ei,_|.dZ,_|.dF _ _,_|.list _ _ _,_|.own _ _ _,_=>rfl
 |.de _ _,hb=>by simp only[aJ,aC]at hb;simp only[eA,rI hb.1,rI hb.2,uX]
 |.sl i _ _,hb|.ptr i _,hb|.mp i,hb|.it i,hb|.dA i,hb=>by simp only[aJ]at hb;simp only[eA,ey,hb,Bool.true_or]
 |.cL a _ _ _,hb=>by simp only[aJ]at hb;simp only[eA,Eo hb]
 |.agg cs,hb|.aL cs,hb=>by simp only[aJ]at hb;simp only[eA,rI hb]
 |.fn f a b,hb=>by simp only[aJ,aC]at hb;simp only[eA,rI hb.1,rI hb.2,uX]
 |.bX t v,hb=>by simp only[aJ]at hb;simp only[eA,Eo hb]
theorem rI{n:Nat}{τ:List Nat}:∀{as:List AV},aO n as=true->dI n τ as=true
 |[],_=>rfl
 |a::as,hb=>by simp only[aO,aC]at hb;simp only[dI,Eo hb.1,rI hb.2,uX]
end
section
variable{P:Program}{Γ:Nat->Option AV}{N:Env}{g g':G}{h h':List Ob}{w:World}{n:Nat}{τ:List Nat}
theorem tR:∀(as:List AV),(bT n τ as).length=as.length
 |[]=>rfl
 |a::as=>by simp[bT,tR as]
theorem Mo:∀(as:List AV)(i:Nat),(bT n τ as)[i]? =(as[i]?).map (df n τ)
 |[],i=>by simp[bT]
 |a::as,0=>by simp[bT]
 |a::as,i+1=>by simp[bT,Mo as i]
theorem Lm:∀(as:List AV)(i:Nat),(bT n τ as).drop i=bT n τ (as.drop i)
 |[],i=>by simp[bT]
 |a::as,0=>by simp
 |a::as,i+1=>by simp[bT,Lm as i]
theorem W4(a:AV):(df n τ a).cells=bT n τ a.cells:=by
 cases a<;>simp[df,AV.cells,bT]
theorem aai(a:AV):(df n τ a).one=a.one:=by cases a<;>rfl
theorem MU:∀(as:List AV),bO (bT n τ as)=bO as
 |[]=>rfl
 |a::as=>by simp[bT,bO,aai,MU as]
theorem MY:∀(es:List (AV×AV)),(l9 n τ es).map (·.1)=bT n τ (es.map (·.1))
 |[]=>rfl
 |(a,b)::es=>by simp[l9,bT,MY es]
theorem EI:∀(es:List (AV×AV)),(l9 n τ es).map (·.2)=bT n τ (es.map (·.2))
 |[]=>rfl
 |(a,b)::es=>by simp[l9,bT,EI es]
theorem K4:∀{es:List (AV×AV)},sk n τ es=true->dI n τ (es.map (·.1))=true/\dI n τ (es.map (·.2))=true
 |[],_=>⟨rfl,rfl⟩
 |(a,b)::es,hb=>by
  simp only[sk,aC]at hb;obtain⟨h1,h2⟩:=K4 hb.2;simp only[cv,dI,aC];exact⟨⟨hb.1.1,h1⟩,⟨hb.1.2,h2⟩⟩
theorem L7:∀{as:List AV}(i:Nat),dI n τ as=true->dI n τ (as.drop i)=true
 |[],_,_=>by simp[dI]
 |a::as,0,h=>by simpa using h
 |a::as,i+1,h=>by
  simp only[dI,aC]at h;simpa using L7 i h.2
structure Rn(n:Nat)(τ:List Nat)(g:G)(h:List Ob)(g':G)(h':List Ob):Prop where
 M:g'.M=g.M
 MM:g'.MM=g.MM
 get:∀i o,h[i]? =some o->ey n τ i=true->h'[e8 n τ i]? =some (pt n τ o)
 uF:∀i,i<h.length->ey n τ i=true->g'.ρ (e8 n τ i)=g.ρ i
theorem Rn.zero(x:Rn n τ g h g' h'):Ext 0 g h g' h':=Ext.zero (fun _ _ _ y=>by rw[x.M];exact y) (fun _ _ y=>by rw[x.MM];exact y)
mutual
theorem AZ(x:Rn n τ g h g' h'):∀{a:AV}{v:Value},eA n τ a=true->V g h a v->V g' h' (df n τ a) v
 |.undef,_,_,_=>by simp[df,V]
 |.bool _,_,_,hv|.int _ _,_,_,hv|.str _,_,_,hv|.iq,_,_,hv|.eu,_,_,hv|.ei,_,_,hv|.dZ,_,_,hv|.dF _ _,_,_,hv=>by simpa only [df,V]using hv
 |.own _ _ _,_,_,hv=>by simp only[V]at hv
 |.list full k es,v,_,hv=>by
  have h0:aJ 0 (.list full k es)=true:=by
   simp only[V]at hv;simp only[aJ];exact h_ hv.1
  simp only[df];exact fo x.zero h0 hv
 |.de ks us,v,hb,hv=>by
  simp only[eA,aC]at hb;simp only[df,V]at hv⊢;obtain⟨b,es,ck,h1,h2,h3,h4⟩:=hv;exact⟨b,es,ck,h1,by rw[x.MM];exact h2,lD x hb.1 h3,lD x hb.2 h4⟩
 |.sl j off m,v,hb,hv=>by
  simp only[eA]at hb;simp only[df,V]at hv⊢;obtain⟨k',E',es',gr',fl',sh',h1,h2,a,cap,h3,h4,h5,h6⟩:=hv
  have hlen:(if fl'=true then es' else bT n τ es').length=es'.length:=by split<;>simp[tR]
  refine⟨k',E',_,gr',fl',sh',x.get _ _ h1 hb,by rw[hlen];exact h2,a,cap,h3,h4,h5,fun hok=>?_⟩;obtain⟨h7,h8⟩:=h6 (by unfold cr at hok⊢;rwa[hlen]at hok);rw[hlen];refine⟨h7,h8.imp id fun h9=>?_⟩;rw[x.uF j (bj h1) hb];exact h9
 |.cL a _ _ _,v,hb,hv=>by
  simp only[eA]at hb;simp only[df,V]at hv⊢;obtain⟨u,b,o,h1,h2,⟨m,h4,h5⟩,rfl⟩:=hv;refine⟨u,b,o,AZ x hb h1,h2,⟨m,?_,h5⟩,rfl⟩
  cases a<;>simp only[nP,df]at h4⊢<;>first|exact h4|cases h4
 |.ptr j off,v,hb,hv=>by
  simp only[eA]at hb;simp only[df,V]at hv⊢;obtain⟨⟨vs,hj⟩,h2⟩:=hv;exact⟨⟨_,x.get _ _ hj hb⟩,by rw[x.uF j (bj hj) hb];exact h2⟩
 |.mp j,v,hb,hv=>by
  simp only[eA]at hb;simp only[df,V]at hv⊢;obtain⟨⟨es,fl,hj⟩,h2⟩:=hv;exact⟨⟨_,_,x.get _ _ hj hb⟩,by rw[x.uF j (bj hj) hb];exact h2⟩
 |.it j,v,hb,hv=>by
  simp only[eA]at hb;simp only[df,V]at hv⊢;obtain⟨⟨es,fl,hj⟩,h2⟩:=hv;exact⟨⟨_,_,x.get _ _ hj hb⟩,by rw[x.uF j (bj hj) hb];exact h2⟩
 |.dA j,v,hb,hv=>by
  simp only[eA]at hb;simp only[df,V]at hv⊢;obtain⟨⟨x1,x2,x3,x4,x5,x6,x7,hj⟩,h2⟩:=hv;exact⟨⟨_,_,_,_,_,_,_,x.get _ _ hj hb⟩,by rw[x.uF j (bj hj) hb];exact h2⟩
 |.agg cs,v,hb,hv=>by
  simp only[eA]at hb;simp only[df,V]at hv⊢;obtain⟨vs,rfl,h1⟩:=hv;exact⟨vs,rfl,lD x hb h1⟩
 |.aL cs,v,hb,hv=>by
  simp only[eA]at hb;simp only[df,V]at hv⊢;obtain⟨vs,rfl,h1⟩:=hv;exact⟨vs,rfl,lD x hb h1⟩
 |.fn f a b,v,hb,hv=>by
  simp only[eA,aC]at hb;simp only[df,V]at hv⊢;obtain⟨xs,ys,rfl,h1,h2⟩:=hv;exact⟨xs,ys,rfl,lD x hb.1 h1,lD x hb.2 h2⟩
 |.bX t a,v,hb,hv=>by
  simp only[eA]at hb;simp only[df,V]at hv⊢;obtain⟨y,rfl,h1⟩:=hv;exact⟨y,rfl,AZ x hb h1⟩
theorem lD(x:Rn n τ g h g' h'):∀{as:List AV}{vs:List Value},dI n τ as=true->VL g h as vs->VL g' h' (bT n τ as) vs
 |[],_,_,hv=>by simpa only [bT,VL]using hv
 |a::as,_,hb,hv=>by
  simp only[bT,VL]at hv⊢;simp only[dI,aC]at hb;obtain⟨v,vs',rfl,h1,h2⟩:=hv;exact⟨v,vs',rfl,AZ x hb.1 h1,lD x hb.2 h2⟩
end
theorem NH(x:Rn n τ g h g' h'):∀{as:List AV}{vs:List Value},dI n τ as=true->VE g h as vs->VE g' h' (bT n τ as) vs
 |[],_,_,hv=>by simpa only [bT,VE]using hv
 |a::as,_,hb,hv=>by
  simp only[bT,VE]at hv⊢;simp only[dI,aC]at hb;obtain⟨v,vs',h1,rfl,h2⟩:=hv;exact⟨v,vs',AZ x hb.1 h1,rfl,NH x hb.2 h2⟩
theorem NB(x:Rn n τ g h g' h'){i j:Nat}{o:Ob}(hρ:g'.ρ j=g.ρ i)(hb:m_ n τ o=true)(ho:OV P g h w i o):OV P g' h' w j (pt n τ o):=by
 cases o with
 |gone=>trivial
 |cells vs=>
  intro b sz st hb';rw[hρ]at hb';obtain⟨c,E,fz,h1,h2,h3⟩:=ho b sz st hb';exact⟨c,E,fz,h1,h2,lD x (by simpa only [m_]using hb) h3⟩
 |row k E es gr fl sh=>
  simp only[OV,pt]at ho⊢;obtain⟨h1,h2,h3,h4,h5⟩:=ho
  cases fl with
  |true=>
   simp only[bY];refine⟨h1,h2,fun _=>h3 rfl,h4,?_⟩;rw[hρ]
   cases hr:g.ρ i with
   |none=>rw[hr]at h5;exact h5
   |some y=>
    obtain⟨b,sz,st⟩:=y;rw[hr]at h5;simp only at h5⊢;obtain⟨h6,c,E',fz,vs,h7,h8,h9,h10,h11⟩:=h5;exact⟨h6,c,E',fz,vs,h7,h8,h9,fg x.zero (zj _ (h_ (h3 rfl))) h10,h11⟩
  |false=>
   simp only[m_,lp]at hb;simp only[dU,cE];refine⟨h1,?_,fun hf=>(by cases hf),by rw[tR];exact h4,?_⟩
   ·intro e he;obtain⟨q,hq⟩:=uY.1 he;rw[Mo,bN]at hq;obtain⟨a,ha,rfl⟩:=hq;have:=h2 a (fQ ha);rw[W4,tR,MU];exact this
   ·rw[hρ]
    cases hr:g.ρ i with
    |none=>
     rw[hr]at h5;simp only at h5⊢;subst h5;rfl
    |some y=>
     obtain⟨b,sz,st⟩:=y;rw[hr]at h5;simp only at h5⊢;obtain⟨h6,c,E',fz,vs,h7,h8,h9,h10,h11⟩:=h5;exact⟨h6,c,E',fz,vs,h7,h8,h9,by rw[Lm];exact NH x (L7 _ hb) h10,h11⟩
 |map es fl=>
  simp only[m_]at hb;obtain⟨q1,q2⟩:=K4 hb;obtain⟨h1,h3⟩:=ho;refine⟨fun hf=>?_,fun b sz st hb'=>?_⟩
  ·rw[EI,qf (p9 (xi n) (h1 hf))];exact h1 hf
  ·rw[hρ]at hb';obtain⟨bd,ck,h4,h5,h6⟩:=h3 b sz st hb';exact⟨bd,ck,h4,by rw[MY];exact lD x q1 h5,by rw[EI];exact lD x q2 h6⟩
 |gC s p=>
  intro b sz st hb';rw[hρ]at hb';exact ho b sz st hb'
 |loop st q fn t ps a b=>
  intro bk sz sta hb';rw[hρ]at hb';obtain⟨L,h1,h2,h3,h4,h5,h6⟩:=ho bk sz sta hb';exact⟨L,h1,h2,h3,h4,lD x (by simpa only [m_]using hb) h5,h6⟩
 |bB live=>
  intro b sz st hb';rw[hρ]at hb';exact ho b sz st hb'
theorem EO:∀{h:List Ob}{i:Nat},(kV n τ h)[i]? =(h[i]?).map (pt n τ)
 |[],i=>by simp[kV]
 |o::os,0=>by simp[kV]
 |o::os,i+1=>by simp[kV,EO (h:=os)]
theorem DG:∀{τ:List Nat}{i:Nat},(lK h n τ)[i]? =(τ[i]?).map fun j=>h.getD (n+j) .gone
 |[],i=>by simp[lK]
 |j::js,0=>by simp[lK]
 |j::js,i+1=>by simp[lK,DG (τ:=js)]
theorem EG:∀{h:List Ob},(kV n τ h).length=h.length
 |[]=>rfl
 |o::os=>by simp[kV,EG (h:=os)]
theorem DN:∀{τ:List Nat},(lK h n τ).length=τ.length
 |[]=>rfl
 |j::js=>by simp[lK,DN (τ:=js)]
theorem Mp:∀{h:List Ob}{i:Nat}{o:Ob},qL n τ h=true->h[i]? =some o->m_ n τ o=true
 |[],_,_,_,hi=>by simp at hi
 |a::h,0,o,hb,hi=>by
  simp only[qL,aC]at hb
  simp at hi;subst hi;exact hb.1
 |a::h,i+1,o,hb,hi=>by
  simp only[qL,aC]at hb;exact Mp hb.2 (by simpa using hi)
theorem EA:∀{h:List Ob}{i:Nat}{o:Ob},kh n τ h=true->h[i]? =some o->m_ n τ o=true/\∀st j fn t ps a b,o=.loop st j fn t ps a b->aO n t=true
 |[],_,_,_,hi=>by simp at hi
 |a::h,0,o,hb,hi=>by
  simp at hi;subst hi
  cases a<;>simp only[kh,aC]at hb<;>first
   |exact⟨hb.1,fun _ _ _ _ _ _ _ e=>by cases e⟩
   |exact⟨by simp only[m_];exact rI hb.1,fun _ _ _ _ _ _ _ e=>by cases e;exact hb.1⟩
 |a::h,i+1,o,hb,hi=>by
  have h2:kh n τ h=true:=by
   cases a<;>simp only[kh,aC]at hb<;>exact hb.2
  exact EA h2 (by simpa using hi)
theorem Inv.gc(H:Inv P Γ N g h w)(hn:n<=h.length)(hτ:∀j∈τ,n+j<h.length)(hnd:τ.Nodup)(hp:kh n τ (h.take n)=true)(hq:qL n τ (lK h n τ)=true):
 ∃g',Inv P Γ N g' (gX n τ h) w/\Ext n g h g' (gX n τ h)/\Rn n τ g h g' (gX n τ h):=by
 let ke:Nat->Option Nat:=fun j=>if j<n then some j else(τ[j-n]?).map (n+·)
 let g':G:={g with ρ:=fun j=>(ke j).bind g.ρ}
 have hold:∀{j i},ke j=some i->i<h.length/\ey n τ i=true/\e8 n τ i=j:=by
  intro j i hj;simp only[ke]at hj
  split at hj
  ·rename_i hjn
   cases hj
   exact⟨by omega,by simp[ey,hjn],by simp[e8,hjn]⟩
  ·rename_i hjn;rw[bN]at hj;obtain⟨x,hx,rfl⟩:=hj;have hm:=fQ hx;refine⟨hτ x hm,by simp[ey,hm],?_⟩;unfold e8;rw[if_neg (by omega),xx];have hlt:=bj hx
   have hxe:τ[j-n]=x:=by rw[a_ hlt]at hx;simpa using hx
   have:τ.idxOf x=j-n:=by rw[<-hxe];exact hnd.idxOf_getElem _ hlt
   omega
 have hnew:∀{i},ey n τ i=true->ke (e8 n τ i)=some i:=by
  intro i hi;simp only[ke,e8]
  by_cases hin:i<n
  ·simp[hin]
  ·simp only[ey,hin,pL,lp,xv,a8]at hi;simp only[hin,cE];rw[if_neg (by omega),xx,a_ (List.idxOf_lt_length_of_mem hi),List.getElem_idxOf]
   simp;omega
 have hget:∀i o,h[i]? =some o->ey n τ i=true->(gX n τ h)[e8 n τ i]? =some (pt n τ o):=by
  intro i o hi hok;unfold gX;rw[EO]
  by_cases hin:i<n
  ·have:e8 n τ i=i:=by simp[e8,hin]
   rw[this,dk (by rw[fc];omega),xw hin,hi];rfl
  ·simp only[ey,hin,pL,lp,xv,a8]at hok
   have:e8 n τ i=n+τ.idxOf (i-n):=by simp[e8,hin]
   rw[this,e_ (by rw[fc];omega),fc,qP hn,xx,DG,
    a_ (List.idxOf_lt_length_of_mem hok),List.getElem_idxOf]
   simp only[eb]
   rw[show n+(i-n)=i by omega,bz,hi];rfl
 have hx:Rn n τ g h g' (gX n τ h):=by
  refine⟨rfl,rfl,hget,fun i hi hok=>?_⟩;simp only[g']
  rw[hnew hok];rfl
 have hρn:∀i,i<n->g'.ρ i=g.ρ i:=by
  intro i hi;have:=hx.uF i (by omega) (by simp[ey,hi]);rwa[show e8 n τ i=i by simp[e8,hi]]at this
 have hgn:∀i o,i<n->h[i]? =some o->(gX n τ h)[i]? =some (pt n τ o):=by
  intro i o hi ho;have:=hget i o ho (by simp[ey,hi]);rwa[show e8 n τ i=i by simp[e8,hi]]at this
 have hE:Ext n g h g' (gX n τ h):=by
  refine⟨fun _ _ _ y=>y,fun _ _ y=>y,fun i vs hi ho=>⟨⟨_,hgn i _ hi ho⟩,fun x hx=>by rw[hρn i hi];exact hx⟩,fun i es fl hi ho=>⟨⟨_,_,hgn i _ hi ho⟩,fun x hx=>by rw[hρn i hi];exact hx⟩,
   fun i s p hi ho=>⟨⟨_,_,hgn i _ hi ho⟩,fun x hx=>by rw[hρn i hi];exact hx⟩,fun i st j fn t ps a b hi ho=>⟨⟨st,j,?_⟩,fun x hx=>by rw[hρn i hi];exact hx⟩,
   fun i l hi ho=>⟨⟨_,hgn i _ hi ho⟩,fun x hx=>by rw[hρn i hi];exact hx⟩,fun i k E es gr fl sh hi ho=>?_⟩
  ·have h1:=hgn i _ hi ho;have h2:=(EA hp (by rw[xw hi];exact ho)).2 _ _ _ _ _ _ _ rfl;simp only[pt,qf h2]at h1;exact h1
  ·have hlen:(if fl=true then es else bT n τ es).length=es.length:=by split<;>simp[tR]
   refine⟨_,_,_,_,_,hgn i _ hi ho,by rw[hlen];exact aU _,fun off m hom hok=>⟨?_,hlen,fun x hx=>by rw[hρn i hi];exact hx⟩⟩;unfold cr at hok⊢;rwa[hlen]at hok
 have hsub:∀{j b x},g'.ρ j=some (b,x)->∃i,ke j=some i/\g.ρ i=some (b,x):=by
  intro j b x hj;simp only[g',oe]at hj;exact hj
 have hlen:(gX n τ h).length=n+τ.length:=by
  unfold gX;rw[EG,bp,DN,fc,qP hn]
 refine⟨g',⟨H.os,H.tape,H.output,H.eG,fun i b x hi=>?_,?_,?_,H.mem,?_,?_,?_,?_,H.mK,H.iz,H.km⟩,hE,hx⟩
 ·obtain⟨j,_,h2⟩:=hsub hi;exact H.own j b x h2
 ·intro i j b x y hi hj;obtain⟨i',h1,h2⟩:=hsub hi;obtain⟨j',h3,h4⟩:=hsub hj;have:=H.inj i' j' b x y h2 h4;subst this;rw[<-(hold h1).2.2,<-(hold h3).2.2]
 ·intro i hi;simp only[g',ke]
  rw[if_neg (by omega),mh (by omega)];rfl
 ·intro b es ck hb;obtain⟨h1,h2⟩:=H.mm b es ck hb
  exact⟨h1,fun i x hi=>by
   obtain⟨j,_,h4⟩:=hsub hi
   exact h2 j x h4⟩
 ·intro i b sz st o v hi hv;obtain⟨j,h1,h2⟩:=hsub hi;obtain⟨q1,q2,q3⟩:=hold h1;obtain⟨k,E,es,gr,fl,h3,h4⟩:=H.dX j b sz st o v h2 hv;have h5:=hget j _ h3 q2;rw[q3]at h5;refine⟨k,E,_,gr,fl,h5,?_⟩
  have:(if fl=true then es else bT n τ es).length=es.length:=by split<;>simp[tR]
  rw[this];exact h4
 ·intro j o hj;have hjl:=bj hj;rw[hlen]at hjl;unfold gX at hj;rw[EO,bN]at hj;obtain⟨o0,ho,rfl⟩:=hj
  by_cases hjn:j<n
  ·rw[dk (by rw[fc];omega)]at ho;have hok:=(EA hp ho).1;rw[xw hjn]at ho;exact NB hx (hρn j hjn) hok (H.ob j o0 ho)
  ·rw[e_ (by rw[fc];omega),fc,qP hn]at ho;have hok:=Mp hq ho;rw[DG,bN]at ho;obtain⟨x,hxj,ho⟩:=ho;have hm:=fQ hxj;have hlt:=hτ x hm
   have ho2:h[n+x]? =some o0:=by rw[bz,a_ hlt]at ho;rw[a_ hlt];simpa using ho
   have hold1:ke j=some (n+x):=by simp only[ke];rw[if_neg hjn,hxj];rfl
   have hr:g'.ρ j=g.ρ (n+x):=by simp only[g'];rw[hold1];rfl
   exact NB hx hr hok (H.ob _ o0 ho2)
 ·intro m a hm;obtain⟨h1,vs,h2,h3⟩:=H.j5 m a hm;exact⟨h1,vs,b_ hx.zero h1 h2,h3⟩
end
def AL(i m:Nat):Md->Bool
 |.cM v _=>jC i m v
 |_=>true
def n3(i m:Nat)(f:Fr):Bool:=dG i m f.t&&nX i m f.ds&&AL i m f.md
def jk(as:List (List Nat))(done:List Nat)(i:Nat):Bool:=!done.contains i&&(as.getD i []).all fun j=>done.contains j
def eM(as:List (List Nat)):Nat->List Nat->List (List Nat)
 |0,_=>[[]]
 |n+1,done=>((List.range as.length).filter (jk as done)).flatMap fun i=>(eM as n (i::done)).map (i::·)
theorem MV{ops:Array Oper}(hed:nB ops=true):∀(fuel n:Nat)(listed:Array Bool)(done:List Nat),listed.size=ops.size->(∀i,i<ops.size->listed.getD i true=done.contains i)->left ops.size listed=fuel->
 Region.linearise.go .any ops fuel n listed []∈eM (mI ops) fuel done
 |0,n,listed,done,_,_,_=>by simp[Region.linearise.go,eM]
 |fuel+1,n,listed,done,hsz,hd,hl=>by
  have hed1:∀i(h:i<ops.size),∀e∈(ops[i]).after.toList,Region.binds .any e=true->e.on<i:=by
   intro i h e he hb;simp only[nB,dL]at hed;have h6:=hed (ops[i],i) (by rw[Q0];simp[h]);rw[<-qR,dL]at h6;have h7:=h6 e he;rw[hb]at h7;simpa using h7
  have hal:(mI ops).length=ops.size:=by simp[mI]
  have hf:((List.range ops.size).filter fun i=>!listed.getD i true&&((ops[i]?).map (·.after.all fun e=>!Region.binds .any e||listed.getD e.on false)).getD false)=(List.range ops.size).filter (jk (mI ops) done):=by
   refine List.filter_congr fun i hi=>?_
   have hi:=dw.1 hi
   have hai:(mI ops).getD i []=(ops[i].after.toList.filter (Region.binds .any)).map (·.on):=by
    simp[mI,bz,hi]
   simp only[jk,hai,hd i hi,iD hi,eb,gZ];congr 1;rw[<-qR,gL,dL,dL];constructor
   ·intro h j hj;simp only[db,dh]at hj;obtain⟨e,⟨he,hb⟩,rfl⟩:=hj;have h1:=h e he;rw[hb]at h1;have hlt:=hed1 i hi e he hb;rw[tM (by omega) false true,hd e.on (by omega)]at h1;simpa using h1
   ·intro h e he
    cases hb:Region.binds .any e with
    |false=>rfl
    |true=>
     have hlt:=hed1 i hi e he hb;have h1:=h e.on (db.2 ⟨e,dh.2 ⟨he,hb⟩,rfl⟩);rw[tM (by omega) false true,hd e.on (by omega)];simpa using h1
  have hne:0<((List.range ops.size).filter fun i=>!listed.getD i true&&((ops[i]?).map (·.after.all fun e=>!Region.binds .any e||listed.getD e.on false)).getD false).length:=by
   have hex:∃i,i<ops.size/\listed.getD i true=false:=by
    unfold left at hl;obtain⟨i,hi⟩:=HN (l:=(List.range ops.size).filter fun i=>!listed.getD i true) (by omega);simp only[dh,dw,je]at hi;exact⟨i,hi⟩
   have hmin:∀m i,i<=m->i<ops.size->listed.getD i true=false->∃i,i<ops.size/\listed.getD i true=false/\∀j,j<i->listed.getD j true=true:=by
    intro m
    induction m with
    |zero=>intro i h1 h2 h3;exact⟨i,h2,h3,fun j hj=>by omega⟩
    |succ m ihm=>
     intro i h1 h2 h3
     by_cases h4:∃j,j<i/\listed.getD j true=false
     ·obtain⟨j,h5,h6⟩:=h4;exact ihm j (by omega) (by omega) h6
     ·refine⟨i,h2,h3,fun j hj=>?_⟩
      cases hq:listed.getD j true with
      |true=>rfl
      |false=>exact absurd ⟨j,hj,hq⟩ h4
   obtain⟨i0,h1,h2⟩:=hex;obtain⟨i,h3,h4,h5⟩:=hmin i0 i0 (aU _) h1 h2;refine Ca (a:=i) ?_;simp only[dh,dw,h4,uU,Cb,iD h3,eb,gZ];refine⟨h3,?_⟩;rw[<-qR,dL];intro e he
   cases hb:Region.binds .any e with
   |false=>rfl
   |true=>
    have h7:=hed1 i h3 e he hb;simp only[pE,lp];rw[tM (by omega) false true];exact h5 _ h7
  simp only[Region.linearise.go,eM];rw[hf]at hne⊢;rw[hal];generalize hrs:(List.range ops.size).filter (jk (mI ops) done)=rs at hne⊢;have hlt:n%rs.length<rs.length:=Nat.mod_lt _ hne;rw[a_ hlt];generalize hri:rs[n%rs.length]=i
  have him:i∈rs:=by rw[<-hri];exact bZ hlt
  have him2:=him;rw[<-hrs]at him2;simp only[dh,dw,jk,aC,je]at him2;obtain⟨h1,h2,_⟩:=him2
  have h2':listed.getD i true=false:=by rw[hd i h1];exact h2
  simp only;rw[linearise_go_acc,Q1,sA];refine od.2 ⟨i,him,db.2 ⟨_,MV hed fuel _ _ _ (by simpa using hsz) ?_ ?_,rfl⟩⟩
  ·intro j hj;simp only[fS,sC]
   by_cases hij:i=j
   ·subst hij;simp[hsz,h1]
   ·rw[if_neg hij];have:=hd j hj;rw[fS]at this;rw[this];simp[Ne.symm hij]
  ·have:=DP h1 h2';omega
inductive Reach(P:Program)(Γ:Nat->Option AV):aw->aw->Prop
 |refl (c:aw):Reach P Γ c c
 |trans {a b c:aw}:Reach P Γ a b->Reach P Γ b c->Reach P Γ a c
 |step (c:aw):Reach P Γ c (eO P Γ c)
 |pure {f:FuncId} {args as:List AV} {r:AV} {up:List Fr} {h:List Ob}:bK h args=some as->aN P Γ f as r->Reach P Γ (.cl f args up h) (.back up (dc h.length r).1 (dx h args r))
 |Fw {f:FuncId} {args as:List AV} {v:AV} {up:List Fr} {h:List Ob}:bK h args=some as->kH P Γ f as v->Reach P Γ (.cl f args up h) (.die up v h)
 |iL {f:Fr} {up:List Fr} {h:List Ob} {o:AG} {os:List AG} {k:List It} {c:aw}:f.md=.run->f.its=.ops (o::os)::k->dn f.t o.guard=some true->aA P Γ f.t h o.op=.either->
  (∀b,Reach P Γ (.fr {f with its:=.ops os::k,t:=aW f.t o.dst (.bool b)} up h) c)->Reach P Γ (.fr f up h) c
 |leave {f:FuncId} {args:List AV} {up:List Fr} {h h':List Ob} {v:AV}:Reach P Γ (.cl f args up h) (.back up v h')->aJ h.length v=true->dS h.length (h'.take h.length)=true->Reach P Γ (.cl f args up h) (.back up v (h'.take h.length))
 |abj {f:FuncId} {args:List AV} {up:List Fr} {h h':List Ob} {v:AV}:Reach P Γ (.cl f args up h) (.die up v h')->aJ h.length v=true->dS h.length (h'.take h.length)=true->Reach P Γ (.cl f args up h) (.die up v (h'.take h.length))
 |drop {f:Fr} {up:List Fr} {h:List Ob} (n:Nat):f.base<=n->j3 n f=true->dS n (h.take n)=true->Reach P Γ (.fr f up h) (.fr f up (h.take n))
 |reset {f:Fr} {up:List Fr} {h:List Ob} {i k:Nat} {E:TypeId} {es:List AV} {fl sh:Bool}:f.base<=i->h[i]? =some (.row k E es (some 0) fl sh)->n3 i es.length f=true->ew i es.length h=true->
  Reach P Γ (.fr f up h) (.fr f up (h.set i (.row k E es none fl sh)))
 |abg {f:Fr} {up:List Fr} {h:List Ob} {i k:Nat} {E:TypeId} {es:List AV} {fl sh:Bool}:h[i]? =some (.row k E es (some 0) fl sh)->(f::up).all (n3 i es.length)=true->ew i es.length h=true->
  Reach P Γ (.fr f up h) (.fr f up (h.set i (.row k E es none fl sh)))
 |freeze {f:Fr} {up:List Fr} {h:List Ob} {i k:Nat} {E:TypeId} {es es':List AV} {gr:Option Nat} {fl sh:Bool}:h[i]? =some (.row k E es gr fl sh)->gr.getD 0=0->bK h es=some es'->(bF es).contains i=false->
  Reach P Γ (.fr f up h) (.fr f up ((share (bF es) h).set i (.row k E es' gr true sh)))
 |Ni {f:Fr} {up:List Fr} {h:List Ob} (l:List Nat):Reach P Γ (.fr f up h) (.fr f up (share l h))
 |tree {f:Fr} {up:List Fr} {h:List Ob} (i:Nat):Reach P Γ (.fr f up h) (.fr {f with t:=f.t.set i (ma h (f.t.getD i .undef))} up (share (rowsOf (f.t.getD i .undef)) h))
 |mM {f:Fr} {up:List Fr} {h:List Ob} {i:Nat} (j:Nat) {cs:List AV}:h[i]? =some (.cells cs)->Reach P Γ (.fr f up h) (.fr f up ((share (rowsOf (cs.getD j .undef)) h).set i (.cells (cs.set j (ma h (cs.getD j .undef))))))
 |nA {f:Fr} {up:List Fr} {h:List Ob} {i j k k0:Nat} {cs:List AV} (E:TypeId):h[i]? =some (.cells cs)->cs[j]? =some (.list true k0 [])->0<k->
  Reach P Γ (.fr f up h) (.fr f up ((h++[Ob.row k E [] none true false]).set i (.cells (cs.set j (.sl h.length 0 0)))))
 |EC {f:Fr} {up:List Fr} {h:List Ob} {i j k k0:Nat} {es:List AV} {E0:TypeId} {fl sh:Bool} (E:TypeId):h[i]? =some (.row 1 E0 es none fl sh)->es[j]? =some (.list true k0 [])->0<k->
  Reach P Γ (.fr f up h) (.fr f up ((h++[Ob.row k E [] none true false]).set i (.row 1 E0 (es.set j (.sl h.length 0 0)) none false sh)))
 |aas {f:Fr} {up:List Fr} {h:List Ob} {d:Option Nat} {gd:Option (Nat×Bool)} {k:Nat} {zs:List AV} {ps:List (Nat×AX)} {os:List AG} {k':List It} {es:List AV} (E:TypeId):f.md=.run->f.its=.ops (⟨d,gd,.lit k zs ps⟩::os)::k'->
  dn f.t gd=some true->o_ k zs (ps.map fun p=>(p.1,ax f.t p.2))=some es->
  Reach P Γ (.fr f up h) (.fr {f with its:=.ops os::k',t:=aW f.t d (.sl h.length 0 es.length)} up (h++[.row k E es none (cj es k) false]))
 |mask {f:Fr} {up:List Fr} {h:List Ob} (m:List Bool):Reach P Γ (.fr f up h) (.fr {f with t:=cW m f.t} up h)
 |aR {f:Fr} {up:List Fr} {h h':List Ob} {l:List Bool} {ws:List Nat} {gs:List AG} {k:List It} {orc:List (AV×List Ob)} {t':List AV} {obls obls0:List fG} {hs:List (List Ob)}:f.md=.run->f.its=.code (.aR l ws gs)::k->
  ga P Γ orc gs f.t h=some (t',h',obls,hs)->(∀o∈obls,o∈obls0)->(∀o∈obls0,∀up,Reach P Γ (o.f.cfg o.args up o.h) (.back up o.v o.h'))->calm P Γ obls0 (h::hs) l ws orc gs f.t h->
  Reach P Γ (.fr f up h) (.fr {f with its:=k,t:=t'} up h')
 |EB {f:Fr} {up:List Fr} {h h':List Ob} {l:List Bool} {ws:List Nat} {gs:List AG} {k:List It} {orc:List (AV×List Ob)} {t':List AV} {obls obls0:List fG} {hs:List (List Ob)} {D:aw} {i:Nat} {E:TypeId} {es:List AV} {gr:Option Nat} {fl sh:Bool} (dies:fG->Prop):f.md=.run->f.its=.code (.aR l ws gs)::k->
  ga P Γ orc gs f.t h=some (t',h',obls,hs)->(∀o∈obls,o∈obls0)->(∀o∈obls0,¬dies o->∀up,Reach P Γ (o.f.cfg o.args up o.h) (.back up o.v o.h'))->(∀o∈obls0,dies o->∀its t,ue gs f.t t->Reach P Γ (o.f.cfg o.args ({f with its:=its,t:=t}::up) o.h) D)->calm P Γ obls0 (h::hs) l ws orc gs f.t h->h'[i]? =some (.row 0 E es gr fl sh)->
  Reach P Γ (.fr f up h) D
 |qe {f:Fr} {up:List Fr} {h:List Ob} {i k k0:Nat} (E:TypeId):f.md=.run->f.t[i]? =some (.list true k0 [])->0<k->
  Reach P Γ (.fr f up h) (.fr {f with t:=f.t.set i (.sl h.length 0 0)} up (h++[Ob.row k E [] none true false]))
 |gc {f:Fr} {up:List Fr} {h:List Ob} (n:Nat) (τ:List Nat):f.md=.run->f.base<=n->n<=h.length->(∀j∈τ,n+j<h.length)->τ.Nodup->dI n τ f.t=true->jw n f.ds=true->fE n f.its=true->nY n f.kind=true->
  kh n τ (h.take n)=true->qL n τ (lK h n τ)=true->Reach P Γ (.fr f up h) (.fr {f with t:=bT n τ f.t} up (gX n τ h))
 |eH {f:Fr} {up:List Fr} {h:List Ob} {as:List (List Nat)} {gs:List AG} {k:List It} {c:aw}:f.md=.run->f.its=.code (.eH as gs)::k->
  (∀l∈eM as as.length [],Reach P Γ (.fr {f with its:=.ops (l.map fun i=>gs.getD i default)::k} up h) c)->Reach P Γ (.fr f up h) c
section
variable{P:Program}{Γ:Nat->Option AV}{N:Env}{g0:G}{f0:FuncId}{cs0:List Frame}
theorem Aw{ops:Array Oper}:∀(fuel t:Nat)(listed:Array Bool)(i:Nat),i∈Region.linearise.go .any ops fuel t listed []->i<ops.size
 |0,t,listed,i,h=>by simp[Region.linearise.go]at h
 |fuel+1,t,listed,i,h=>by
  simp only[Region.linearise.go]at h
  split at h
  ·rename_i j hj;rw[linearise_go_acc]at h;simp only[List.reverse_cons,List.reverse_nil,lg,ek,bw]at h
   rcases h with rfl|h
   ·have:=fQ hj;simp only[dh,dw]at this;exact this.1
   ·exact Aw fuel _ _ i h
  ·simp at h
theorem zD{ops:Array Oper}{gs:List AG}(h:ops.toList.mapM (nb P ops.toList)=some gs):∀{l:List Nat},(∀i∈l,i<ops.size)->FF P ops (l.map fun i=>gs.getD i default) l
 |[],_=>.nil
 |i::l,hl=>by
  obtain⟨h1,h2⟩:=vM h
  have hi:i<gs.length:=by rw[h1];simpa using hl i (by simp)
  obtain⟨o,ho,hc⟩:=h2 i _ (a_ hi);refine .cons ⟨o,by simpa using ho,?_⟩ (zD h fun j hj=>hl j (dm _ hj));simp only[bz,a_ hi];exact hc
def fC(P:Program)(Γ:Nat->Option AV)(N:Env)(g0:G)(f0:FuncId)(cs0:List Frame)(c c':aw):Prop:=
 ∀m,bn P Γ N g0 f0 cs0 c m->∃m',Steps P m m'/\bn P Γ N g0 f0 cs0 c' m'
theorem fC.trans{a b c:aw}(h1:fC P Γ N g0 f0 cs0 a b)(h2:fC P Γ N g0 f0 cs0 b c):fC P Γ N g0 f0 cs0 a c:=by
 intro m hm;obtain⟨m1,s1,h⟩:=h1 m hm;obtain⟨m2,s2,h⟩:=h2 m1 h;exact⟨m2,s1.trans s2,h⟩
theorem fC.step(c:aw):fC P Γ N g0 f0 cs0 c (eO P Γ c):=fun _ hm=>UX hm
theorem Vz{g:G}{h:List Ob}{i k:Nat}{E:TypeId}{es:List AV}{fl sh:Bool}{f:Fr}{fr:Frame}(hi:h[i]? =some (.row k E es (some 0) fl sh))(hf:n3 i es.length f=true)(S:jY P g h f fr):jY P g (h.set i (.row k E es none fl sh)) f fr:=by
 have hmr:=S.md;simp only[n3,aC]at hf
 have hkind:∀{j:Nat}{o:Ob},h[j]? =some o->(∀k E es gr fl sh,o≠Ob.row k E es gr fl sh)->(h.set i (.row k E es none fl sh))[j]? =some o:=by
  intro j o hj hne;rw[dK]
  ·exact hj
  ·rintro rfl
   rw[hi]at hj
   cases hj
   exact hne _ _ _ _ _ _ rfl
 have hLR:∀{l b},LR g h l b->LR g (h.set i (.row k E es none fl sh)) l b:=by
  rintro l b ⟨⟨a1,a2,a3,a4,a5,a6,a7,h1⟩,h2⟩
  exact⟨⟨a1,a2,a3,a4,a5,a6,a7,hkind h1 (by simp)⟩,h2⟩
 have hIR:∀{k1:List It}{k2:List Item},IR P g h k1 k2->IR P g (h.set i (.row k E es none fl sh)) k1 k2:=by
  intro k1
  induction k1 with
  |nil=>intro k2 hk;cases k2<;>simp only[IR]at hk⊢
  |cons a k1 ih=>
   intro k2 hk
   cases k2 with
   |nil=>cases a<;>simp only[IR]at hk
   |cons b k2=>
    cases a<;>cases b<;>simp only[IR]at hk⊢
    ·exact⟨hk.1,ih hk.2⟩
    ·exact⟨hk.1,ih hk.2⟩
    ·exact⟨hk.1,ih hk.2⟩
    ·exact⟨hk.1,ih hk.2⟩
    ·exact⟨hLR hk.1,ih hk.2⟩
    ·exact⟨hLR hk.1,ih hk.2⟩
    ·exact ih hk
 have hDR:∀{ds1:List di}{ds2:List Deferred},nX i es.length ds1=true->F2 (DR g h) ds1 ds2->F2 (DR g (h.set i (.row k E es none fl sh))) ds1 ds2:=by
  intro ds1 ds2 hv hd
  induction hd with
  |nil=>exact .nil
  |@cons a b as bs h1 _ ih=>
   cases a with
   |call c args=>
    simp only[nX,aC]at hv;obtain⟨cap,q1,q2⟩:=h1;exact .cons ⟨cap,q1,kz hi hv.1 q2⟩ (ih hv.2)
   |mark l=>
    simp only[nX]at hv;obtain⟨⟨q,q1⟩,q2⟩:=h1;exact .cons ⟨⟨q,hkind q1 (by simp)⟩,q2⟩ (ih hv)
 ·refine⟨?_,S.fn,hIR S.its,kz hi hf.1.1 S.t,hDR hf.1.2 S.ds,?_,S.is⟩
  ·have hv:=hf.2
   cases hm2:f.md with
   |run=>rw[hm2]at hmr;exact hmr
   |ret=>rw[hm2]at hmr;exact hmr
   |cM v rc=>
    rw[hm2]at hmr hv;obtain⟨u,q1,q2⟩:=hmr;exact⟨u,q1,tK hi (by simpa only [AL]using hv) q2⟩
  ·have hk:=S.kind
   cases hk2:f.kind with
   |norm=>rw[hk2]at hk;exact hk
   |bB=>rw[hk2]at hk;exact hk
   |round l=>
    rw[hk2]at hk;obtain⟨q1,b,q2,q3⟩:=hk;exact⟨q1,b,q2,hLR q3⟩
theorem LD{g:G}{h:List Ob}{i k:Nat}{E:TypeId}{es:List AV}{fl sh:Bool}{f0:FuncId}(hi:h[i]? =some (.row k E es (some 0) fl sh)):∀{n:Nat}{l:List Fr}{fs:List Frame},l.all (n3 i es.length)=true->SR P g h f0 n l fs->SR P g (h.set i (.row k E es none fl sh)) f0 n l fs
 |_,[],_,_,h1=>h1
 |n,f::up,fs,hv,h1=>by
  obtain⟨fr,fs',h2,h3,h4,h5,h6,h7⟩:=h1;simp only[sx,aC]at hv;exact⟨fr,fs',h2,Vz hi hv.1 h3,h4,h5,h6,LD hi hv.2 h7⟩
theorem MO{Rl:aw->aw->Prop}(htr:∀a b c,Rl a b->Rl b c->Rl a c)(hst:∀c,Rl c (eO P Γ c)){f:Fr}{up:List Fr}{h h':List Ob}{l:List Bool}{ws:List Nat}{gs:List AG}{k:List It}{orc:List (AV×List Ob)}{t':List AV}{obls obls0:List fG}{hs:List (List Ob)}(hmd:f.md=.run)(hits:f.its=.code (.aR l ws gs)::k)
 (hr:ga P Γ orc gs f.t h=some (t',h',obls,hs))(hsub:∀o∈obls,o∈obls0)(hob:∀o∈obls0,∀its t,ue gs f.t t->Rl (o.f.cfg o.args ({f with its:=its,t:=t}::up) o.h) (.back ({f with its:=its,t:=t}::up) o.v o.h'))(hc:calm P Γ obls0 (h::hs) l ws orc gs f.t h){m:Machine}(hm:bn P Γ N g0 f0 cs0 (.fr f up h) m):
 ∃m1 c1,Steps P m m1/\bn P Γ N g0 f0 cs0 c1 m1/\Rl c1 (.fr {f with its:=k,t:=t'} up h'):=by
 obtain⟨g,w,tmps,todo,ds,kd,ro,md,fs,rfl,S,hmr⟩:=hm.inv;rw[hmd]at hmr;simp only[MR]at hmr;subst hmr;have hI:=S.its;rw[hits]at hI
 cases todo with
 |nil=>simp only[IR]at hI
 |cons im k'=>
 cases im<;>simp only[IR]at hI
 rename_i c;obtain⟨hC,hk⟩:=hI
 cases c<;>try (simp only[CR]at hC;done)
 rename_i id ops draw
 cases draw<;>simp only[CR]at hC
 obtain⟨hgs,hok,rfl,rfl⟩:=hC;simp only[we,aC]at hok;obtain⟨⟨hok1,hok2⟩,hok3⟩:=hok;obtain⟨T,H,v,hT0,hH0,hTn,hHn,hat,hk0⟩:=tI hr hsub hc
 have hlen:gs.length=ops.size:=by rw[(vM hgs).1];simp
 have R:pA P Γ ops gs obls0 h hs T H v:=⟨hlen,hok1,hok2,hH0,hat,hk0⟩
 have hsched:∀x,Region.schedule (P.follows .mixedOrders) ops x=Region.linearise.go .any ops ops.size x (Array.replicate ops.size false) []:=by
  intro x;unfold Region.schedule;rw[if_pos (by simpa using hok3)];rfl
 have hgetD:∀i d,(Array.replicate ops.size false).getD i d=if i<ops.size then false else d:=by
  intro i d;rw[fS,Q2]
  split<;>rfl
 have F:wN ops gs T H v (Array.replicate ops.size false) f.t h:=by
  refine⟨by simp,?_,by rw[hT0],?_,fun s _=>by rw[hT0],0,xi _,hH0.symm,fun _ _ h=>by omega,?_⟩
  ·intro i o ho hl;have:=bj (l:=ops.toList) (i:=i) (a:=o) (by simpa using ho);rw[hgetD,if_pos (by simpa using this)]at hl
   cases hl
  ·intro j x s hx hl;have:=bj hx;rw[hgetD,if_pos (by omega)]at hl
   cases hl
  ·intro j x _ hx _;have:=bj hx;rw[hgetD,if_pos (by omega)]
 have hleft:left ops.size (Array.replicate ops.size false)=ops.size:=by
  unfold left;rw[HO.2,qQ];intro i hi;rw[hgetD,if_pos (by simpa using hi)];rfl
 have h1:=XD (Rl:=Rl) R htr hst (by rw[hT0];exact hob) hmd (k:=k) ops.size (w.tape w.drawn (.order f.fn id)) _ f.t h F hleft;rw[hTn,hHn]at h1;have S':St P Γ N g0 f0 g h w.drew f up tmps (.code (.region id ops true)::k') ds kd ro fs:=⟨S.H.world rfl rfl rfl rfl,S.M,S.its,S.t,S.ds,S.kind,S.is,S.b,S.z,S.s⟩
 have h2:bn P Γ N g0 f0 cs0 (.fr {f with its:=.ops ((Region.linearise.go .any ops ops.size (w.tape w.drawn (.order f.fn id)) (Array.replicate ops.size false) []).map fun i=>gs.getD i default)::k,t:=f.t} up h)
  (lone (aF f.fn tmps (.inRegion ops (Region.schedule (P.follows .mixedOrders) ops (w.tape w.drawn (.order f.fn id)))::k') ds kd ro) (fs++cs0) w.drew):=by
  rw[hsched];exact S'.go hmd (its:=.ops _::k) ⟨zD hgs fun i hi=>Aw _ _ _ i hi,hk⟩ S.t
 exact⟨_,_,Steps.one Es,h2,h1⟩
theorem fC.aR{f:Fr}{up:List Fr}{h h':List Ob}{l:List Bool}{ws:List Nat}{gs:List AG}{k:List It}{orc:List (AV×List Ob)}{t':List AV}{obls obls0:List fG}{hs:List (List Ob)}(hmd:f.md=.run)(hits:f.its=.code (.aR l ws gs)::k)
 (hr:ga P Γ orc gs f.t h=some (t',h',obls,hs))(hsub:∀o∈obls,o∈obls0)(hob:∀o∈obls0,∀up,fC P Γ N g0 f0 cs0 (o.f.cfg o.args up o.h) (.back up o.v o.h'))(hc:calm P Γ obls0 (h::hs) l ws orc gs f.t h):
 fC P Γ N g0 f0 cs0 (.fr f up h) (.fr {f with its:=k,t:=t'} up h'):=by
 intro m hm;obtain⟨m1,c1,s1,h1,h2⟩:=MO (Rl:=fC P Γ N g0 f0 cs0) (fun _ _ _ a b=>a.trans b) fC.step hmd hits hr hsub (fun o ho _ _ _=>hob o ho _) hc hm;obtain⟨m',s',h3⟩:=h2 _ h1;exact⟨m',s1.trans s',h3⟩
theorem fC.EB{f:Fr}{up:List Fr}{h h':List Ob}{l:List Bool}{ws:List Nat}{gs:List AG}{k:List It}{orc:List (AV×List Ob)}{t':List AV}{obls obls0:List fG}{hs:List (List Ob)}{D:aw}{i:Nat}{E:TypeId}{es:List AV}{gr:Option Nat}{fl sh:Bool}(hmd:f.md=.run)(hits:f.its=.code (.aR l ws gs)::k)
 (hr:ga P Γ orc gs f.t h=some (t',h',obls,hs))(hsub:∀o∈obls,o∈obls0)(hob:∀o∈obls0,(∀up,fC P Γ N g0 f0 cs0 (o.f.cfg o.args up o.h) (.back up o.v o.h'))\/∀its t,ue gs f.t t->fC P Γ N g0 f0 cs0 (o.f.cfg o.args ({f with its:=its,t:=t}::up) o.h) D)(hc:calm P Γ obls0 (h::hs) l ws orc gs f.t h)(hi:h'[i]? =some (.row 0 E es gr fl sh)):
 fC P Γ N g0 f0 cs0 (.fr f up h) D:=by
 intro m hm
 obtain⟨m1,c1,s1,h1,h2⟩:=MO (Rl:=fun a b=>fC P Γ N g0 f0 cs0 a D\/fC P Γ N g0 f0 cs0 a b) (fun _ _ _ a b=>by
  rcases a with a|a
  ·exact .inl a
  ·rcases b with b|b
   ·exact .inl (a.trans b)
   ·exact .inr (a.trans b)) (fun c=>.inr (fC.step c)) hmd hits hr hsub (fun o ho its t hk=>by
  rcases hob o ho with h4|h4
  ·exact .inr (h4 _)
  ·exact .inl (h4 its t hk)) hc hm
 rcases h2 with h2|h2
 ·obtain⟨m',s',h3⟩:=h2 _ h1;exact⟨m',s1.trans s',h3⟩
 ·obtain⟨m',s',h3⟩:=h2 _ h1;obtain⟨g,w,fr,fs,_,H,_⟩:=h3;have:=H.ob i _ hi;simp only[OV]at this;omega
theorem C8{f:Fr}{up:List Fr}{h:List Ob}{as:List (List Nat)}{gs:List AG}{k:List It}(hmd:f.md=.run)(hits:f.its=.code (.eH as gs)::k){m:Machine}(hm:bn P Γ N g0 f0 cs0 (.fr f up h) m):
 ∃l∈eM as as.length [],∃m1,Steps P m m1/\bn P Γ N g0 f0 cs0 (.fr {f with its:=.ops (l.map fun i=>gs.getD i default)::k} up h) m1:=by
 obtain⟨g,w,tmps,todo,ds,kd,ro,md,fs,rfl,S,hmr⟩:=hm.inv;rw[hmd]at hmr;simp only[MR]at hmr;subst hmr;have hI:=S.its;rw[hits]at hI
 cases todo with
 |nil=>simp only[IR]at hI
 |cons im k'=>
 cases im<;>simp only[IR]at hI
 rename_i c;obtain⟨hC,hk⟩:=hI
 cases c<;>try (simp only[CR]at hC;done)
 rename_i id ops draw
 cases draw<;>simp only[CR]at hC
 obtain⟨hgs,hok2,hok3,rfl⟩:=hC
 have hsched:∀x,Region.schedule (P.follows .mixedOrders) ops x=Region.linearise.go .any ops ops.size x (Array.replicate ops.size false) []:=by
  intro x;unfold Region.schedule;rw[if_pos (by simpa using hok3)];rfl
 have hgetD:∀i d,(Array.replicate ops.size false).getD i d=if i<ops.size then false else d:=by
  intro i d;rw[fS,Q2]
  split<;>rfl
 have hleft:left ops.size (Array.replicate ops.size false)=ops.size:=by
  unfold left;rw[HO.2,qQ];intro i hi;rw[hgetD,if_pos (by simpa using hi)];rfl
 have hmem:=MV hok2 ops.size (w.tape w.drawn (.order f.fn id)) (Array.replicate ops.size false) [] (by simp) (fun i hi=>by rw[hgetD,if_pos hi];rfl) hleft
 have hal:(mI ops).length=ops.size:=by simp[mI]
 have S':St P Γ N g0 f0 g h w.drew f up tmps (.code (.region id ops true)::k') ds kd ro fs:=⟨S.H.world rfl rfl rfl rfl,S.M,S.its,S.t,S.ds,S.kind,S.is,S.b,S.z,S.s⟩;refine⟨_,by rw[hal];exact hmem,_,Steps.one Es,?_⟩;rw[hsched];exact S'.go hmd (its:=.ops _::k) ⟨zD hgs fun i hi=>Aw _ _ _ i hi,hk⟩ S.t
theorem CL{f:Fr}{up:List Fr}{h:List Ob}{o:AG}{os:List AG}{k:List It}(hmd:f.md=.run)(hits:f.its=.ops (o::os)::k)(hw:dn f.t o.guard=some true)(ha:aA P Γ f.t h o.op=.either){m:Machine}(hm:bn P Γ N g0 f0 cs0 (.fr f up h) m):
 ∃b m1,Steps P m m1/\bn P Γ N g0 f0 cs0 (.fr {f with its:=.ops os::k,t:=aW f.t o.dst (.bool b)} up h) m1:=by
 obtain⟨g,w,tmps,todo,ds,kd,ro,md,fs,rfl,S,hmr⟩:=hm.inv;rw[hmd]at hmr;simp only[MR]at hmr;subst hmr;have hI:=S.its;rw[hits]at hI
 cases todo with
 |nil=>simp only[IR]at hI
 |cons im k'=>
 cases im<;>simp only[IR]at hI
 rename_i ops todo;obtain⟨hO,hk⟩:=hI
 cases hO with
 |cons h1 hO=>
 rename_i i rest;obtain⟨op,hop,hcag⟩:=h1;obtain⟨hw1,hcop,hdst⟩:=xZ hcag S.t hw;have hs:eJ P Γ N g h w (⟨tmps,ds⟩:Act).eval op (aA P Γ f.t h o.op):=Kj (a:=⟨tmps,ds⟩) S.H S.t hcop
 have hnd:=fun x y=>Ky (Γ:=Γ) (h:=h) (t:=f.t) hcop x y
 rw[ha]at hs hnd;obtain⟨b,g',w',nx,h2,h3,h4,u,rfl,h6⟩:=hs;have S1:=S.mono h3 h4 (aU _);have hs1:=St.go (cs0:=cs0) S1 hmd (its:=.ops os::k) (todo':=.inRegion ops rest::k') (t:=aW f.t o.dst (.bool b)) (tmps':=kS tmps o.dst u) ⟨hO,by have:=S1.its;rw[hits]at this;exact this.2⟩ (mL S1.t h6);rw[hdst]at hs1;have hst:=DX (cs:=fs++cs0) (fn:=f.fn) (k:=k') (rest:=rest) (kd:=kd) (ro:=ro) hop hw1 (Or.inr (hnd (by simp) (by simp))) h2;rw[<-hdst]at hs1;exact⟨b,_,Steps.one hst,by rw[hdst]at hs1⊢;exact hs1⟩
theorem NL{g1 g2:G}{h1 h2:List Ob}{n m:Nat}:∀{up:List Fr}{fs1 fs2:List Frame},SR P g1 h1 f0 n up fs1->SR P g2 h2 f0 m up fs2->SR P g2 h2 f0 n up fs2
 |[],_,_,_,b=>b
 |f::up,_,_,a,b=>by
  obtain⟨_,_,_,_,a4,a5,_,_⟩:=a;obtain⟨fr,fs',b2,b3,b4,b5,b6,b7⟩:=b;exact⟨fr,fs',b2,b3,a4,a5,b6,b7⟩
theorem yH{c c':aw}(hr:Reach P Γ c c'):fC P Γ N g0 f0 cs0 c c':=by
 induction hr with
 |refl c=>exact fun m hm=>⟨m,.refl _ _,hm⟩
 |trans _ _ h1 h2=>exact h1.trans h2
 |step c=>exact fC.step c
 |pure hv hp=>exact fun m hm=>UO hp hv hm
 |Fw hv hp=>exact fun m hm=>Wt hp hv hm
 |@iL f up h o os k c hmd hits hw ha _ ih=>
  intro m hm;obtain⟨b,m1,s1,h1⟩:=CL hmd hits hw ha hm;obtain⟨m',s',h7⟩:=ih b _ h1;exact⟨m',s1.trans s',h7⟩
 |@leave f args up h h' v _ hv hh ih=>
  intro m hm;obtain⟨m',s',h7⟩:=ih m hm
  by_cases hn:h'.length<=h.length
  ·rw[cF hn];exact⟨m',s',h7⟩
  refine⟨m',s',?_⟩
  have hlen:(h'.take h.length).length=h.length:=by rw[fc];omega
  obtain⟨g0,w0,vs0,fs0,_,_,_,_,_,S0,_⟩:=hm
  cases up with
  |nil=>
   obtain⟨g,w,u,fr,e,H,M,hV,h8,h9⟩:=h7;obtain⟨H',x⟩:=H.drop hh;exact⟨_,w,u,fr,e,H',M,fo x hv hV,h8,h9⟩
  |cons c up=>
   obtain⟨g,w,u,fr,fs,e,H,M,hV,S⟩:=h7;obtain⟨H',x⟩:=H.drop hh;exact⟨_,w,u,fr,fs,e,H',M,fo x hv hV,by rw[hlen];exact fJ x (aU _) (NL S0 S)⟩
 |@abj f args up h h' v _ hv hh ih=>
  intro m hm;obtain⟨m',s',h7⟩:=ih m hm
  by_cases hn:h'.length<=h.length
  ·rw[cF hn];exact⟨m',s',h7⟩
  refine⟨m',s',?_⟩
  have hlen:(h'.take h.length).length=h.length:=by rw[fc];omega
  obtain⟨g0,w0,vs0,fs0,_,_,_,_,_,S0,_⟩:=hm
  cases up with
  |nil=>
   obtain⟨g,w,u,fr,e,H,M,hV,h8,h9⟩:=h7;obtain⟨H',x⟩:=H.drop hh;exact⟨_,w,u,fr,e,H',M,fo x hv hV,h8,h9⟩
  |cons c up=>
   obtain⟨g,w,u,fr,fs,e,H,M,hV,S⟩:=h7;obtain⟨H',x⟩:=H.drop hh;exact⟨_,w,u,fr,fs,e,H',M,fo x hv hV,by rw[hlen];exact fJ x (aU _) (NL S0 S)⟩
 |@drop f up h n hb hf hh=>
  intro m hm;obtain⟨g,w,tmps,todo,ds,kd,ro,md,fs,rfl,S,hmr⟩:=hm.inv;obtain⟨H',x⟩:=S.H.drop hh;have hR:=zx x hf (S.rel hmr);refine⟨_,.refl _ _,?_⟩
  by_cases hn:n<=h.length
  ·exact⟨_,w,_,fs,rfl,H',S.M,_,fs,rfl,hR,oB hR,by rw[fc,qP hn];exact hb,S.z,fJ (x.mono hb) (aU _) S.s⟩
  ·exact⟨_,w,_,fs,rfl,H',S.M,_,fs,rfl,hR,oB hR,by rw[fc,HP (by omega)];exact S.b,S.z,fJ (x.mono hb) (aU _) S.s⟩
 |@reset f up h i k E es fl sh hb hi hf hh=>
  intro m hm;obtain⟨g,w,tmps,todo,ds,kd,ro,md,fs,rfl,S,hmr⟩:=hm.inv;have H':=S.H.reset hi hh;have x:Ext f.base g h g (h.set i (.row k E es none fl sh)):=Ext.reset hb _;simp only[n3,aC]at hf
  have hkind:∀{j:Nat}{o:Ob},h[j]? =some o->(∀k E es gr fl sh,o≠Ob.row k E es gr fl sh)->(h.set i (.row k E es none fl sh))[j]? =some o:=by
   intro j o hj hne;rw[dK]
   ·exact hj
   ·rintro rfl
    rw[hi]at hj
    cases hj
    exact hne _ _ _ _ _ _ rfl
  have hLR:∀{l b},LR g h l b->LR g (h.set i (.row k E es none fl sh)) l b:=by
   rintro l b ⟨⟨a1,a2,a3,a4,a5,a6,a7,h1⟩,h2⟩
   exact⟨⟨a1,a2,a3,a4,a5,a6,a7,hkind h1 (by simp)⟩,h2⟩
  have hIR:∀{k1:List It}{k2:List Item},IR P g h k1 k2->IR P g (h.set i (.row k E es none fl sh)) k1 k2:=by
   intro k1
   induction k1 with
   |nil=>intro k2 hk;cases k2<;>simp only[IR]at hk⊢
   |cons a k1 ih=>
    intro k2 hk
    cases k2 with
    |nil=>cases a<;>simp only[IR]at hk
    |cons b k2=>
     cases a<;>cases b<;>simp only[IR]at hk⊢
     ·exact⟨hk.1,ih hk.2⟩
     ·exact⟨hk.1,ih hk.2⟩
     ·exact⟨hk.1,ih hk.2⟩
     ·exact⟨hk.1,ih hk.2⟩
     ·exact⟨hLR hk.1,ih hk.2⟩
     ·exact⟨hLR hk.1,ih hk.2⟩
     ·exact ih hk
  have hDR:∀{ds1:List di}{ds2:List Deferred},nX i es.length ds1=true->F2 (DR g h) ds1 ds2->F2 (DR g (h.set i (.row k E es none fl sh))) ds1 ds2:=by
   intro ds1 ds2 hv hd
   induction hd with
   |nil=>exact .nil
   |@cons a b as bs h1 _ ih=>
    cases a with
    |call c args=>
     simp only[nX,aC]at hv;obtain⟨cap,q1,q2⟩:=h1;exact .cons ⟨cap,q1,kz hi hv.1 q2⟩ (ih hv.2)
    |mark l=>
     simp only[nX]at hv;obtain⟨⟨q,q1⟩,q2⟩:=h1;exact .cons ⟨⟨q,hkind q1 (by simp)⟩,q2⟩ (ih hv)
  have hR:jY P g (h.set i (.row k E es none fl sh)) f (aF f.fn tmps todo ds kd ro md):=by
   refine⟨?_,rfl,hIR S.its,kz hi hf.1.1 S.t,hDR hf.1.2 S.ds,?_,S.is⟩
   ·have hv:=hf.2
    cases hm2:f.md with
    |run=>rw[hm2]at hmr;exact hmr
    |ret=>rw[hm2]at hmr;exact hmr
    |cM v rc=>
     rw[hm2]at hmr hv;obtain⟨u,q1,q2⟩:=hmr;exact⟨u,q1,tK hi (by simpa only [AL]using hv) q2⟩
   ·have hk:=S.kind
    cases hk2:f.kind with
    |norm=>rw[hk2]at hk;exact hk
    |bB=>rw[hk2]at hk;exact hk
    |round l=>
     rw[hk2]at hk;obtain⟨q1,b,q2,q3⟩:=hk;exact⟨q1,b,q2,hLR q3⟩
  exact⟨_,.refl _ _,g,w,_,fs,rfl,H',S.M,_,fs,rfl,hR,oB hR,by rw[kp];exact S.b,S.z,fJ x (aU _) S.s⟩
 |@abg f up h i k E es fl sh hi hf hh=>
  intro m hm;obtain⟨g,w,fr,fs,rfl,H,M,S⟩:=hm;refine⟨_,.refl _ _,g,w,fr,fs,rfl,H.reset hi hh,M,?_⟩;rw[kp];exact LD hi hf S
 |@freeze f up h i k E es es' gr fl sh hi hg hv hn=>
  intro m hm;obtain⟨g,w,fr,fs,rfl,H,M,S⟩:=hm;obtain⟨g',H',x⟩:=H.freeze hi hg hv hn;exact⟨_,.refl _ _,g',w,fr,fs,rfl,H',fun b o v hv=>x.M _ _ _ (M b o v hv),fJ x (by simp[jL]) S⟩
 |@Ni f up h l=>
  intro m hm;obtain⟨g,w,fr,fs,rfl,H,M,S⟩:=hm;obtain⟨g',_,_,_,H',x,_⟩:=nr l H;exact⟨_,.refl _ _,g',w,fr,fs,rfl,H',fun b o v hv=>x.M _ _ _ (M b o v hv),fJ x (by simp[jL]) S⟩
 |@tree f up h i=>
  intro m hm;obtain⟨g,w,fr,fs,rfl,H,M,fr',fs',hfs,hR,hb0,hb,hz,hS⟩:=hm
  cases hfs
  obtain⟨g',_,_,_,H',x,hC⟩:=nr (rowsOf (f.t.getD i .undef)) H;have hR1:=zx x hb0 hR;have ht:=oN i hR1.t (NA H x hC (rK i hR.t))
  have h6:fr.tmps.toList.set i (fr.tmps.toList.getD i undef)=fr.tmps.toList:=by
   apply lh;intro m
   by_cases hm:i=m
   ·subst hm;rw[mn]
    by_cases hl:i<fr.tmps.toList.length
    ·rw[if_pos rfl,if_pos hl,bz,a_ hl];rfl
    ·rw[if_pos rfl,if_neg hl,mh (by omega)]
   ·rw[dK hm]
  rw[h6]at ht;have hR2:jY P g' (share (rowsOf (f.t.getD i .undef)) h) {f with t:=f.t.set i (ma h (f.t.getD i .undef))} fr:=⟨hR1.md,hR1.fn,hR1.its,ht,hR1.ds,hR1.kind,hR1.is⟩;exact⟨_,.refl _ _,g',w,fr,fs,rfl,H',fun b o v hv=>x.M _ _ _ (M b o v hv),fr,fs,rfl,hR2,oB hR2,by rw[jL];exact hb,hz,fJ (x.mono hb) (aU _) hS⟩
 |@mM f up h i j cs hi=>
  intro m hm;obtain⟨g,w,fr,fs,rfl,H,M,S⟩:=hm;obtain⟨g',H',x⟩:=H.mM j hi;exact⟨_,.refl _ _,g',w,fr,fs,rfl,H',fun b o v hv=>x.M _ _ _ (M b o v hv),fJ x (by simp[jL]) S⟩
 |@nA f up h i j k k0 cs E hi hj hk=>
  intro m hm;obtain⟨g,w,fr,fs,rfl,H,M,S⟩:=hm;obtain⟨g',H',x⟩:=H.eN E hi hj hk;exact⟨_,.refl _ _,g',w,fr,fs,rfl,H',fun b o v hv=>x.M _ _ _ (M b o v hv),fJ x (by simp) S⟩
 |@EC f up h i j k k0 es E0 fl sh E hi hj hk=>
  intro m hm;obtain⟨g,w,fr,fs,rfl,H,M,S⟩:=hm;obtain⟨g',H',x⟩:=H.EC E hi hj hk;exact⟨_,.refl _ _,g',w,fr,fs,rfl,H',fun b o v hv=>x.M _ _ _ (M b o v hv),fJ x (by simp) S⟩
 |@aas f up h d gd k zs ps os k' es E hmd hits hw hf=>
  intro m hm;obtain⟨g,w,tmps,todo,ds,kd,ro,md,fs,rfl,S,hmr⟩:=hm.inv;rw[hmd]at hmr;simp only[MR]at hmr;subst hmr;have hI:=S.its;rw[hits]at hI
  cases todo with
  |nil=>simp only[IR]at hI
  |cons im k'_1=>
  cases im<;>simp only[IR]at hI
  rename_i ops todo;obtain⟨hO,hk⟩:=hI
  cases hO with
  |cons h1 hO=>
  rename_i i rest;obtain⟨op,hop,hcag⟩:=h1;obtain⟨hw1,hcop,hdst⟩:=xZ hcag S.t hw;obtain⟨ty,n,parts,e,z,q1,q2,q3,q4,q5,q6,q7,rfl,rfl⟩:=Z6 hcop;have hs:=VX (t:=f.t) (fl:=cj es k) S.H (r:=(⟨tmps,ds⟩:Act).eval) q1 q2 q3 q4 q5 q6 q7 (fun x=>AS S.t x) hf id E;obtain⟨g',w',nx,h2,h3,h4,u,rfl,h6⟩:=hs;have S1:=S.mono h3 h4 (by simp);have hs1:=St.go (cs0:=cs0) S1 hmd (its:=.ops os::k') (todo':=.inRegion ops rest::k'_1) (t:=aW f.t d (.sl h.length 0 es.length)) (tmps':=kS tmps d u) ⟨hO,by have:=S1.its;rw[hits]at this;exact this.2⟩ (mL S1.t h6);have hdst':d=op.dst:=hdst;have hst:=DX (cs:=fs++cs0) (fn:=f.fn) (k:=k'_1) (rest:=rest) (kd:=kd) (ro:=ro) hop hw1 (Or.inr (by intro c hc;rw[q1]at hc;cases hc)) h2;rw[<-hdst']at hst;exact⟨_,Steps.one hst,hs1⟩
 |@mask f up h m=>
  intro mm hm;obtain⟨g,w,tmps,todo,ds,kd,ro,md,fs,rfl,S,hmr⟩:=hm.inv;exact⟨_,.refl _ _,St.i_ (f:={f with t:=cW m f.t}) ⟨S.H,S.M,S.its,oF m S.t,S.ds,S.kind,S.is,S.b,S.z,S.s⟩ hmr⟩
 |aR hmd hits hr hsub _ hc ih=>exact fC.aR hmd hits hr hsub ih hc
 |EB dies hmd hits hr hsub _ _ hc hi ih1 ih2=>
  exact fC.EB hmd hits hr hsub (fun o ho=>by
   by_cases hd:dies o
   ·exact .inr (ih2 o ho hd)
   ·exact .inl (ih1 o ho hd)) hc hi
 |@qe f up h i k k0 E hmd hi hk=>
  intro m hm;obtain⟨g,w,fr,fs,rfl,H,M,fr',fs',hfs,hR,hb0,hb,hz,hS⟩:=hm
  cases hfs
  have hE:=Ext.push (g:=g) (h:=h) [Ob.row k E [] none true false] none
  have H1:Inv P Γ N (g.bA h.length none) (h++[Ob.row k E [] none true false]) w:=by
   refine Inv.push (r:=none) H rfl rfl rfl (fun _ _=>rfl) (aU _) (fun b x hb=>by cases hb) ?_ (fun j o hj=>by simp at hj);simp only[OV];rw[cJ];exact⟨hk,by simp,fun _=>rfl,by simp,trivial⟩
  have hR1:=zx hE hb0 hR;obtain⟨v,hv1,hv2⟩:=qc hR1.t hi;simp only[V]at hv2;obtain⟨_,a,cap,rfl,hcap,_,_⟩:=hv2
  have hcap0:cap=0:=by simpa using hcap trivial
  subst hcap0
  have hx:V (g.bA h.length none) (h++[Ob.row k E [] none true false]) (.sl h.length 0 0) (.slice a ([]:List AV).length 0):=by
   simp only[V];exact⟨k,E,[],none,true,false,by simp,by simp,a,0,rfl,by simp,by simp,fun _=>⟨by simp,Or.inl ⟨rfl,rfl⟩⟩⟩
  have ht:=oN i hR1.t hx
  have h6:fr.tmps.toList.set i (.slice a ([]:List AV).length 0)=fr.tmps.toList:=by
   apply lh;intro m
   by_cases hm:i=m
   ·subst hm;rw[gn (bj hv1),hv1]
   ·rw[dK hm]
  rw[h6]at ht;have hR2:jY P (g.bA h.length none) (h++[Ob.row k E [] none true false]) {f with t:=f.t.set i (.sl h.length 0 0)} fr:=⟨hR1.md,hR1.fn,hR1.its,ht,hR1.ds,hR1.kind,hR1.is⟩;exact⟨_,.refl _ _,_,w,fr,fs,rfl,H1,fun b o v hv=>hE.M _ _ _ (M b o v hv),fr,fs,rfl,hR2,oB hR2,by simp;omega,hz,fJ (hE.mono hb) (aU _) hS⟩
 |@gc f up h n τ hmd hb hn hτ hnd ht hd hi hk hp hq=>
  intro m hm;obtain⟨g,w,fr,fs,rfl,H,M,fr',fs',hfs,hR,_,_,hz,hS⟩:=hm;obtain⟨g',H',hE,hx⟩:=H.gc hn hτ hnd hp hq
  cases hfs
  have hR':jY P g' (gX n τ h) {f with t:=bT n τ f.t} fr:=by
   refine⟨?_,hR.fn,jP hE hi hR.its,lD hx ht hR.t,vT hE hd hR.ds,Et hE hk hR.kind,hR.is⟩;have:=hR.md;rw[hmd]at this;simp only[hmd];exact this
  refine⟨_,.refl _ _,g',w,fr,fs,rfl,H',fun b o v hv=>by rw[hx.M];exact M b o v hv,fr,fs,rfl,hR',oB hR',?_,hz,fJ (hE.mono hb) (aU _) hS⟩
  have hl:(gX n τ h).length=n+τ.length:=by
   unfold gX;rw[EG,bp,DN,fc,qP hn]
  rw[hl];simp only;omega
 |eH hmd hits _ ih=>
  intro m hm;obtain⟨l,hl,m1,s1,h1⟩:=C8 hmd hits hm;obtain⟨m2,s2,h2⟩:=ih l hl _ h1;exact⟨m2,s1.trans s2,h2⟩
end
def lP(h:List Ob)(all:List Nat):AV->Option Nat
 |.sl i off n=>
  match h[i]? with
  |some (.row _ _ es g true sh)=>if cr es g off n=true/\(off=0/\n=es.length/\sh=false/\all.count i=1)then some i else none
  |_=>none
 |_=>none
def fj(h:List Ob)(all:List Nat)(vs:List AV):List Nat:=vs.filterMap (lP h all)
def nE(h:List Ob)(all:List Nat)(vs:List AV):List Nat:=vs.flatMap fun a=>if(lP h all a).isSome=true then[]else rowsOf a
theorem s5{h:List Ob}{all:List Nat}{a:AV}{i:Nat}(ho:lP h all a=some i):
 ∃k E es gr,a=.sl i 0 es.length/\h[i]? =some (.row k E es gr true false)/\cr es gr 0 es.length=true/\all.count i=1/\oV h all a=some (.own k E es):=by
 unfold lP at ho
 split at ho
 ·rename_i j off n
  split at ho
  ·rename_i k E es gr sh hj
   split at ho
   ·rename_i hc;simp only[al]at ho;subst ho;obtain⟨h1,rfl,rfl,rfl,h5⟩:=hc;refine⟨k,E,es,gr,rfl,hj,h1,h5,?_⟩;simp[oV,hj,h1,h5]
   ·cases ho
  ·cases ho
 ·cases ho
theorem Dg{h:List Ob}{all:List Nat}{a r:AV}(ho:lP h all a=none)(hr:oV h all a=some r):(r=a/\∃f k es,a=.list f k es)\/view h a=some r:=by
 unfold oV at hr
 split at hr
 ·rename_i j off n;right
  split at hr
  ·rename_i k E es gr sh hj
   split at hr
   ·rename_i hok
    split at hr
    ·rename_i hc;unfold lP at ho;simp only[hj,hok,uT]at ho;rw[if_pos hc]at ho
     cases ho
    ·simp only[al]at hr;subst hr;simp[view,tY,hj,hok]
   ·cases hr
  ·cases hr
 ·rename_i f k es;simp only[al]at hr;exact Or.inl ⟨hr.symm,_,_,_,rfl⟩
 ·exact Or.inr hr
theorem CV(h:List Ob)(all:List Nat)(j:Nat):∀(vs:List AV),(bF vs).count j=(fj h all vs).count j+(nE h all vs).count j
 |[]=>by simp[bF,fj,nE]
 |a::vs=>by
  have ih:=CV h all j vs;simp only[bF,List.count_append,fj,nE,nn,uZ]at ih⊢
  cases ho:lP h all a with
  |none=>simp;omega
  |some i=>
   obtain⟨k,E,es,gr,rfl,_⟩:=s5 ho;simp only[rowsOf,Option.isSome_some,bY,List.count_nil,List.count_cons];omega
theorem Td{h:List Ob}{a r:AV}(hv:view h a=some r):∀k E es,r≠.own k E es:=by
 intro k E es hr;subst hr
 cases a<;>simp[view]at hv
 all_goals (try (split at hv<;>simp at hv))
theorem CH{n:Nat}{r:AV}(hr:∀k E es,r≠.own k E es):dW n r=(r,[]):=by
 cases r<;>first|rfl|exact absurd rfl (hr _ _ _)
theorem zr{h:List Ob}{all:List Nat}{a r:AV}(ho:lP h all a=none)(hr:oV h all a=some r):∀k E es,r≠.own k E es:=by
 rcases Dg ho hr with⟨rfl,f,k,es,rfl⟩|hv
 ·simp
 ·exact Td hv
theorem En{h:List Ob}{all:List Nat}:∀{vs rs:List AV},iR h all vs=some rs->∀(n q:Nat)(o:Ob),(bP n rs).2[q]? =some o->
 ∃j k E es gr,(fj h all vs)[q]? =some j/\o=.row k E es none true false/\h[j]? =some (.row k E es gr true false)/\cr es gr 0 es.length=true
 |[],rs,hr,n,q,o,ho=>by
  simp only[iR,al]at hr;subst hr;simp[bP]at ho
 |a::vs,rs,hr,n,q,o,ho=>by
  simp only[iR]at hr
  split at hr
  ·rename_i r rs' h1 h2;simp only[al]at hr;subst hr;simp only[bP]at ho
   cases hown:lP h all a with
   |none=>
    rw[CH (zr hown h1)]at ho;simp only[lg,cN,jd]at ho;simpa only [fj,uZ,hown]using En h2 n q o ho
   |some i=>
    obtain⟨k,E,es,gr,rfl,h3,h4,h5,h6⟩:=s5 hown;rw[h1]at h6;simp only[al]at h6;subst h6;simp only[dW,xo,sA]at ho;simp only[fj,uZ,hown]
    cases q with
    |zero=>
     simp at ho;exact⟨i,k,E,es,gr,by simp,ho.symm,h3,h4⟩
    |succ q=>
     have:=En h2 (n+1) q o (by simpa using ho);simpa only [fj,ni]using this
  ·cases hr
theorem CZ{h:List Ob}{all:List Nat}{vs:List AV}{j:Nat}(hj:j∈fj h all vs):all.count j=1/\∃k E es gr,h[j]? =some (.row k E es gr true false):=by
 simp only[fj,List.mem_filterMap]at hj;obtain⟨a,_,ha⟩:=hj;obtain⟨k,E,es,gr,_,h2,_,h4,_⟩:=s5 ha;exact⟨h4,k,E,es,gr,h2⟩
theorem J1{j:Nat}:∀(is:List Nat)(h:List Ob),j∉is->(share is h)[j]? =h[j]?
 |[],_,_=>rfl
 |i::is,h,hn=>by
  simp only[share];rw[J1 is _ (fun hm=>hn (dm _ hm)),xt]
  have:i≠j:=fun e=>hn (by simp[e])
  simp[this]
section
variable{P:Program}{Γ:Nat->Option AV}{N N':Env}{g g2 g2' g3:G}{h hh hh' h3:List Ob}{w w2:World}
theorem Fh(H2:Inv P Γ N' g2 hh w2)(x:Ext hh.length g2 hh g2' hh')(x0:Ext 0 g2' hh' g3 h3){all:List Nat}:∀{vs rs:List AV}{us:List Value},(∀i∈nE hh all vs,pB g2' hh w2 g2 i)->VL g2 hh vs us->iR hh all vs=some rs->
 ∀n,(∀q o,(bP n rs).2[q]? =some o->h3[n+q]? =some o)->(∀q j,(fj hh all vs)[q]? =some j->g3.ρ (n+q)=g2.ρ j)->VL g3 h3 (bP n rs).1 us/\oU rs=true
 |[],rs,us,_,hv,hr,n,_,_=>by
  simp only[iR,al]at hr;subst hr;exact⟨by simpa only [bP,VL]using hv,rfl⟩
 |a::vs,rs,us,hc,hv,hr,n,hos,hρ=>by
  simp only[iR]at hr
  split at hr
  ·rename_i r rs' h1 h2;simp only[al]at hr;subst hr;simp only[VL]at hv;obtain⟨u,us',rfl,hv1,hv2⟩:=hv
   cases hown:lP hh all a with
   |none=>
    have hpl:=CH (n:=n) (zr hown h1)
    have hsh:∀i∈rowsOf a,pB g2' hh w2 g2 i:=fun i hi=>hc i (by simp only[nE,nn,hown];simp[hi])
    have htail:=Fh H2 x x0 (vs:=vs) (rs:=rs') (us:=us') (fun i hi=>hc i (by simp only[nE,nn,ba];exact Or.inr hi)) hv2 h2 n
     (fun q o hq=>hos q o (by simp only[bP,hpl,lg,cN,jd];exact hq))
     (fun q j hq=>hρ q j (by simpa only [fj,uZ,hown]using hq))
    have hone:V g3 h3 r u/\o5 r=true:=by
     have htr:aJ 0 r=true->o5 r=true:=by
      intro hb
      cases r<;>first|exact hb|exact absurd rfl (zr hown h1 _ _ _)
     rcases Dg hown h1 with⟨rfl,f,k,es,rfl⟩|hvw
     ·have hb:aJ 0 (.list f k es)=true:=by
       simp only[V]at hv1;simp only[aJ];exact h_ hv1.1
      exact⟨fo x0 hb (fo x (jU hv1) hv1),htr hb⟩
     ·have hb:=zX H2 hv1 hvw;exact⟨fo x0 hb (rO H2 x hsh hv1 hvw),htr hb⟩
    simp only[bP,hpl,cN,jd,VL,oU,aC];exact⟨⟨u,us',rfl,hone.1,htail.1⟩,hone.2,htail.2⟩
   |some i=>
    obtain⟨k,E,es,gr,rfl,h3',h4,h5,h6⟩:=s5 hown;rw[h1]at h6;simp only[al]at h6;subst h6
    have htail:=Fh H2 x x0 (vs:=vs) (rs:=rs') (us:=us') (fun i hi=>hc i (by simp only[nE,nn,ba];exact Or.inr hi)) hv2 h2 (n+1)
     (fun q o hq=>by
      have:=hos (q+1) o (by simpa only [bP,dW,xo,sA,ni]using hq)
      rwa[show n+1+q=n+(q+1) by omega])
     (fun q j hq=>by
      have:=hρ (q+1) j (by simpa only [fj,uZ,hown,ni]using hq)
      rwa[show n+1+q=n+(q+1) by omega])
    have hrow:=hos 0 _ (by simp[bP,dW];rfl);have hr0:=hρ 0 i (by simp[fj,hown]);simp only[jd]at hrow hr0;have hob:=H2.ob i _ h3';simp only[OV]at hob;obtain⟨_,_,hfl,_,_⟩:=hob;simp only[bP,dW,xo,VL,oU,o5,aC];refine⟨⟨u,us',rfl,?_,htail.1⟩,h_ (hfl (by trivial)),htail.2⟩;simp only[V]at hv1⊢;obtain⟨k',E',es',gr',fl',sh',q1,q2,aa,cap,q3,q4,q5,q6⟩:=hv1;rw[h3']at q1;simp only[al,Ob.row.injEq]at q1;obtain⟨rfl,rfl,rfl,rfl,rfl,rfl⟩:=q1;refine⟨_,_,_,none,_,_,hrow,q2,aa,cap,q3,q4,q5,fun _=>?_⟩;rw[hr0];exact q6 h4
  ·cases hr
theorem Ep(H:Inv P Γ N g h w)(H2:Inv P Γ {K:=fun b=>w.heap[b]?,M0:=g.M,MM:=g.MM,w0:=w} g2 hh w2)(hM:∀b o v,g.M b o=some v->g2.M b o=some v){vs rs:List AV}{us:List Value}(hv:VL g2 hh vs us)(hr:iR hh (bF vs) vs=some rs):
 ∃g3,oU rs=true/\Inv P Γ N g3 (h++(bP h.length rs).2) w2/\VL g3 (h++(bP h.length rs).2) (bP h.length rs).1 us/\(∀i,i<h.length->g3.ρ i=g.ρ i)/\
  (∀b o v,g.M b o=some v->g3.M b o=some v)/\(∀b,b<w.heap.size->w2.heap[b]? =w.heap[b]?):=by
 obtain⟨g2',hρ2,hMM2,hM2,H2',x,hcov⟩:=nr (nE hh (bF vs) vs) H2
 have hheap:∀b,b<w.heap.size->w2.heap[b]? =w.heap[b]? :=by
  intro b hb;rw[H2.eG b w.heap[b] (iD hb),iD hb]
 have hbig:w.heap.size<=w2.heap.size:=by
  rcases Q3 w.heap.size with h0|h0
  ·omega
  ·have:=hheap (w.heap.size-1) (by omega);rw[iD (xs:=w.heap) (by omega)]at this;have:=bj (l:=w2.heap.toList) (i:=w.heap.size-1) (by simpa using this);simp at this;omega
 have hnewb:∀i b y,g2.ρ i=some (b,y)->w.heap.size<=b/\b<w2.heap.size:=by
  intro i b y hi;obtain⟨h1,h2⟩:=H2.own i b y hi;refine⟨?_,h2⟩
  rcases jG b w.heap.size with h3|h3
  ·simp only[iD h3]at h1;cases h1
  ·exact h3
 have hnd:(fj hh (bF vs) vs).Nodup:=by
  rw[List.nodup_iff_count];intro j
  by_cases hj:j∈fj hh (bF vs) vs
  ·have h1:=(CZ hj).1;have h2:=CV hh (bF vs) j vs;omega
  ·rw[List.count_eq_zero_of_not_mem hj];omega
 have hnsh:∀j∈fj hh (bF vs) vs,j∉nE hh (bF vs) vs:=by
  intro j hj hs;have h1:=(CZ hj).1;have h2:=CV hh (bF vs) j vs;have h3:=Q4.2 hj;have h4:=Q4.2 hs;omega
 generalize hown:fj hh (bF vs) vs=owned at hnd hnsh
 let g3:G:={ρ:=fun i=>if i<h.length then g.ρ i else(owned[i-h.length]?).bind g2.ρ,M:=g2'.M,MM:=g.MM}
 have hMall:∀b o v,g.M b o=some v->g2'.M b o=some v:=fun b o v hv=>hM2 _ _ _ (hM _ _ _ hv)
 have hρold:∀i,i<h.length->g3.ρ i=g.ρ i:=fun i hi=>if_pos hi
 have hρnew:∀q,g3.ρ (h.length+q)=(owned[q]?).bind g2.ρ:=fun q=>by
  show(if h.length+q<h.length then _ else _)=_
  rw[if_neg (by omega),show h.length+q-h.length=q by omega]
 have hMMeq:g2'.MM=g.MM:=by rw[hMM2,H2.iz]
 have hE:Ext h.length g h g3 (h++(bP h.length rs).2):=Ext.app _ hρold hMall rfl;have x0:Ext 0 g2' (share (nE hh (bF vs) vs) hh) g3 (h++(bP h.length rs).2):=Ext.zero (fun _ _ _ x=>x) (fun _ _ hx=>by rw[<-hMMeq];exact hx)
 obtain⟨hV3,hT⟩:=Fh H2 x x0 hcov hv hr h.length (fun q o hq=>by rw[e_ (by omega),show h.length+q-h.length=q by omega];exact hq) (fun q j hq=>by
  rw[hown]at hq;rw[hρnew,hq]
  rfl)
 have hcase:∀{i b y},g3.ρ i=some (b,y)->(i<h.length/\g.ρ i=some (b,y))\/∃q j,i=h.length+q/\owned[q]? =some j/\g2.ρ j=some (b,y):=by
  intro i b y hi
  by_cases hil:i<h.length
  ·rw[hρold i hil]at hi;exact Or.inl ⟨hil,hi⟩
  ·obtain⟨q,rfl⟩:∃q,i=h.length+q:=⟨i-h.length,by omega⟩;rw[hρnew]at hi
   cases hq:owned[q]? with
   |none=>rw[hq]at hi;cases hi
   |some j=>rw[hq]at hi;exact Or.inr ⟨q,j,rfl,hq,hi⟩
 refine⟨g3,hT,⟨H2.os.trans H.os,H2.tape.trans H.tape,H2.output.trans H.output,?_,?_,?_,?_,H2'.mem,?_,?_,?_,?_,?_,H.iz,H.km⟩,hV3,hρold,hMall,hheap⟩
 ·intro b o hb;exact H2.eG b o (H.eG b o hb)
 ·intro i b y hi
  rcases hcase hi with⟨_,h2⟩|⟨q,j,_,_,h2⟩
  ·exact⟨(H.own i b y h2).1,nh (H.own i b y h2).2 hbig⟩
  ·obtain⟨h3,h4⟩:=hnewb j b y h2;refine⟨?_,h4⟩
   cases hk:N.K b with
   |none=>rfl
   |some o=>
    have:=H.eG b o hk;have:=bj (l:=w.heap.toList) (i:=b) (by simpa using this);simp at this;omega
 ·intro i j b y z hi hj
  rcases hcase hi with⟨h1,h2⟩|⟨q,p,rfl,h2,h4⟩
  ·rcases hcase hj with⟨h5,h6⟩|⟨q',p',rfl,h5,h6⟩
   ·exact H.inj i j b y z h2 h6
   ·have:=(hnewb p' b z h6).1;have:=(H.own i b y h2).2;omega
  ·rcases hcase hj with⟨h5,h6⟩|⟨q',p',rfl,h5,h6⟩
   ·have:=(hnewb p b y h4).1;have:=(H.own j b z h6).2;omega
   ·have hp:=H2.inj p p' b y z h4 h6;subst hp
    have hq:q=q':=by
     exact(List.getElem?_inj (bj h2) hnd).1 (h2.trans h5.symm)
    rw[hq]
 ·intro i hi;rw[bp]at hi;obtain⟨q,rfl⟩:∃q,i=h.length+q:=⟨i-h.length,by omega⟩;rw[hρnew]
  cases hq:owned[q]? with
  |none=>rfl
  |some j=>
   exfalso
   have hlen:∀{us ws:List AV},iR hh (bF vs) us=some ws->∀n,(bP n ws).2.length=(fj hh (bF vs) us).length:=by
    intro us
    induction us with
    |nil=>intro ws hw n;simp only[iR,al]at hw;subst hw;simp[bP,fj]
    |cons a us ih=>
     intro ws hw n;simp only[iR]at hw
     split at hw
     ·rename_i r rs' h1 h2;simp only[al]at hw;subst hw
      cases ho:lP hh (bF vs) a with
      |none=>
       simp only[bP,CH (zr ho h1),lg,cN,jd,fj,uZ,ho];exact ih h2 n
      |some i=>
       obtain⟨k,E,es,gr,rfl,_,_,_,h6⟩:=s5 ho;rw[h1]at h6;simp only[al]at h6;subst h6;simp only[fj]at ih;simp only[bP,dW,sA,fj,uZ,ho,bC];rw[ih h2]
     ·cases hw
   have:=hlen hr h.length;rw[hown]at this;have:=bj hq;omega
 ·intro b es ck hb
  have h1:g2.MM b=some (es,ck):=by rw[H2.iz];exact hb
  refine⟨(H2.mm b es ck h1).1,?_⟩;intro i y hi
  rcases hcase hi with⟨_,h3⟩|⟨q,p,_,_,h4⟩
  ·exact(H.mm b es ck hb).2 i y h3
  ·exact(H2.mm b es ck h1).2 p y h4
 ·intro i b sz st o v hi hv
  rcases hcase hi with⟨h2,h3⟩|⟨q,p,rfl,h2,h4⟩
  ·have hb:=(H.own i b _ h3).2;have h5:=H2'.mK b o v _ hv (iD hb);obtain⟨k,E,es,gr,fl,h6,h7⟩:=H.dX i b sz st o v h3 h5;exact⟨k,E,es,gr,fl,by rw[dk (bj h6)];exact h6,h7⟩
  ·exfalso;obtain⟨k,E,es,gr,fl,h6,h7⟩:=H2'.dX p b sz st o v (by rw[hρ2];exact h4) hv;have hpm:p∈owned:=fQ h2;rw[J1 _ _ (hnsh p hpm)]at h6;rw[<-hown]at hpm;obtain⟨_,k',E',es',gr',h8⟩:=CZ hpm;rw[h8]at h6
   cases h6
 ·intro i o hi
  by_cases hil:i<h.length
  ·rw[dk hil]at hi;exact mF hE (hρold i hil) (fun b y hb=>hheap b (H.own i b y hb).2) (H.ob i o hi)
  ·obtain⟨q,rfl⟩:∃q,i=h.length+q:=⟨i-h.length,by omega⟩;rw[e_ (by omega),show h.length+q-h.length=q by omega]at hi;obtain⟨j,k,E,es,gr,h2,rfl,h4,h5⟩:=En hr h.length q o hi;have hob:=H2.ob j _ h4;simp only[OV]at hob⊢;obtain⟨q1,q2,q3,q4,q5⟩:=hob;refine⟨q1,q2,q3,by simp,?_⟩;rw[hown]at h2;rw[hρnew,h2];simp only[jb]
   have hgr:gr.getD 0=0:=by
    cases gr with
    |none=>rfl
    |some lo=>simp only[cr,aC,a8]at h5;simpa using h5.1
   cases hρj:g2.ρ j with
   |none=>rw[hρj]at q5;exact q5
   |some y=>
    obtain⟨b,sz,st⟩:=y;rw[hρj,hgr]at q5;simp only[sB]at q5⊢;obtain⟨h6,c,E',fz,ws,h7,h8,h9,h10,h11⟩:=q5;refine⟨h6,c,E',fz,ws,h7,h8,h9,?_,h11⟩;rw[dV]at h10⊢;exact fg x0 (h_ (q3 (by trivial))) (fg (x.mono (xi _)) (h_ (q3 (by trivial))) h10)
 ·intro n a hn;obtain⟨h1,ws,h2,h3⟩:=H.j5 n a hn;exact⟨h1,ws,b_ hE (cV h2) h2,fun j hj=>hMall _ _ _ (h3 j hj)⟩
 ·intro b o v B hv hB;exact H.mK b o v B (H2'.mK b o v B hv (H.eG b B hB)) hB
end
section
variable{P:Program}{Γ:Nat->Option AV}
theorem Y3{N:Env}{g g2:G}{h hh:List Ob}{w w2:World}(H:Inv P Γ N g h w)(H2:Inv P Γ {K:=fun b=>w.heap[b]?,M0:=g.M,MM:=g.MM,w0:=w} g2 hh w2)(hM:∀b o v,g.M b o=some v->g2.M b o=some v){v r:AV}{u:Value}(hv:V g2 hh v u)(hr:sd hh v=some r):
 ∃g3,rU r=true/\Inv P Γ N g3 (h++(dc h.length r).2) w2/\V g3 (h++(dc h.length r).2) (dc h.length r).1 u/\(∀i,i<h.length->g3.ρ i=g.ρ i)/\
  (∀b o v,g.M b o=some v->g3.M b o=some v)/\(∀b,b<w.heap.size->w2.heap[b]? =w.heap[b]?):=by
 by_cases ht:∃vs,v=.aL vs
 ·obtain⟨vs,rfl⟩:=ht;simp only[sd,bN]at hr;obtain⟨rs,hr,rfl⟩:=hr;simp only[V]at hv;obtain⟨us,rfl,hv⟩:=hv;obtain⟨g3,h1,h2,h3,h4⟩:=Ep H H2 hM hv hr;exact⟨g3,h1,h2,by simp only[dc,V];exact⟨us,rfl,h3⟩,h4⟩
 ·have hr2:oV hh (rowsOf v) v=some r:=by
   cases v<;>first|exact hr|exact absurd ⟨_,rfl⟩ ht
  have hrt:∀vs,r≠.aL vs:=by
   rintro vs rfl
   cases hown:lP hh (rowsOf v) v with
   |some i=>
    obtain⟨k,E,es,gr,rfl,_,_,_,h6⟩:=s5 hown;rw[hr2]at h6
    cases h6
   |none=>
    rcases Dg hown hr2 with⟨h1,f,k,es,rfl⟩|hvw
    ·cases h1
    ·cases v<;>simp[view]at hvw
     all_goals first
      |exact ht ⟨_,rfl⟩
      |(split at hvw<;>cases hvw)
  have hl:iR hh (bF [v]) [v]=some [r]:=by
   simp[iR,bF,hr2]
  have hvl:VL g2 hh [v] [u]:=by simp only[VL];exact⟨u,[],rfl,hv,rfl⟩
  obtain⟨g3,h1,h2,h3,h4⟩:=Ep H H2 hM hvl hl
  have hun:dc h.length r=dW h.length r:=by cases r<;>first|rfl|exact absurd rfl (hrt _)
  have htr:rU r=o5 r:=by cases r<;>first|rfl|exact absurd rfl (hrt _)
  have hol:(bP h.length [r]).2=(dW h.length r).2:=by simp[bP]
  have hov:(bP h.length [r]).1=[(dW h.length r).1]:=by simp[bP]
  rw[hol]at h2 h3;rw[hov]at h3;rw[hun,htr];simp only[VL]at h3;obtain⟨u',us',h5,h6,rfl⟩:=h3
  cases h5
  refine⟨g3,?_,h2,h6,h4⟩;simpa[oU]using h1
theorem aN.wO{f:FuncId}{as:List AV}{r:AV}(hb:aD P f=true)(hr:∀(N:Env)(g0:G)(f0:FuncId)(cs0:List Frame)(m:Machine),bn P Γ N g0 f0 cs0 (.cl f as [] []) m->∃m' v hh,Steps P m m'/\bn P Γ N g0 f0 cs0 (.back [] v hh) m'/\sd hh v=some r):aN P Γ f as r:=by
 refine⟨hb,fun hbel N g h w us H hV cs=>?_⟩;have hz:Ext 0 g h {ρ:=fun _=>none,M:=g.M,MM:=g.MM} []:=Ext.zero (fun _ _ _ x=>x) (fun _ _ x=>x)
 have H0:Inv P Γ {K:=fun b=>w.heap[b]?,M0:=g.M,MM:=g.MM,w0:=w} {ρ:=fun _=>none,M:=g.M,MM:=g.MM} [] w:=by
  refine⟨rfl,rfl,rfl,fun b o hb=>hb,fun i b x hi=>(by cases hi),fun i j b x y hi=>(by cases hi),fun _ _=>rfl,H.mem,fun b es ck hb=>⟨(H.mm b es ck hb).1,fun i x hi=>(by cases hi)⟩,
   fun i b sz st o v hi=>(by cases hi),fun i o hi=>(by simp at hi),?_,fun b o v B hv _=>hv,rfl,fun n zs h0 hn=>by
    obtain⟨t,q,hq⟩:=H.km n zs h0 hn
    exact⟨t,q,H.eG n _ hq⟩⟩
  intro n a hn;obtain⟨h1,vs,h2,h3⟩:=H.j5 n a hn;exact⟨h1,vs,b_ hz h1 h2,h3⟩
 have hs:bn P Γ {K:=fun b=>w.heap[b]?,M0:=g.M,MM:=g.MM,w0:=w} {ρ:=fun _=>none,M:=g.M,MM:=g.MM} f cs (.cl f as [] []) (lone (Frame.enter P f us.toArray .normal) ([]++cs) w):=
  ⟨_,w,us.toArray,[],rfl,H0,fun _ _ _ x=>x,by simpa using b_ hz hbel hV,hb,rfl,fun _=>rfl⟩
 obtain⟨m',v,hh,steps,⟨g2,w2,u,fr,rfl,H2,hM,hv,hfn,hleave⟩,hres⟩:=hr _ _ _ _ _ hs
 ·obtain⟨g3,h1,h2,h3,h4,h5,h6⟩:=Y3 H H2 hM hv hres;exact⟨.returned u,w2,fr,⟨u,g3,rfl,h1,h2,h3,h4,h5,h6⟩,steps,hfn,hleave⟩
theorem kH.wO{f:FuncId}{as:List AV}{v:AV}(hb:aD P f=true)(hr:∀(N:Env)(g0:G)(f0:FuncId)(cs0:List Frame)(m:Machine),bn P Γ N g0 f0 cs0 (.cl f as [] []) m->∃m' hh,Steps P m m'/\bn P Γ N g0 f0 cs0 (.die [] v hh) m')(hbv:aJ 0 v=true)(hnv:dH v=true):kH P Γ f as v:=by
 refine⟨hb,hbv,hnv,fun hbel N g h w us H hV cs=>?_⟩;have hz:Ext 0 g h {ρ:=fun _=>none,M:=g.M,MM:=g.MM} []:=Ext.zero (fun _ _ _ x=>x) (fun _ _ x=>x)
 have H0:Inv P Γ {K:=fun b=>w.heap[b]?,M0:=g.M,MM:=g.MM,w0:=w} {ρ:=fun _=>none,M:=g.M,MM:=g.MM} [] w:=by
  refine⟨rfl,rfl,rfl,fun b o hb=>hb,fun i b x hi=>(by cases hi),fun i j b x y hi=>(by cases hi),fun _ _=>rfl,H.mem,fun b es ck hb=>⟨(H.mm b es ck hb).1,fun i x hi=>(by cases hi)⟩,
   fun i b sz st o v hi=>(by cases hi),fun i o hi=>(by simp at hi),?_,fun b o v B hv _=>hv,rfl,fun n zs h0 hn=>by
    obtain⟨t,q,hq⟩:=H.km n zs h0 hn
    exact⟨t,q,H.eG n _ hq⟩⟩
  intro n a hn;obtain⟨h1,vs,h2,h3⟩:=H.j5 n a hn;exact⟨h1,vs,b_ hz h1 h2,h3⟩
 have hs:bn P Γ {K:=fun b=>w.heap[b]?,M0:=g.M,MM:=g.MM,w0:=w} {ρ:=fun _=>none,M:=g.M,MM:=g.MM} f cs (.cl f as [] []) (lone (Frame.enter P f us.toArray .normal) ([]++cs) w):=
  ⟨_,w,us.toArray,[],rfl,H0,fun _ _ _ x=>x,by simpa using b_ hz hbel hV,hb,rfl,fun _=>rfl⟩
 obtain⟨m',hh,steps,⟨g2,w2,u,fr,rfl,H2,hM,hv,hfn,hleave⟩⟩:=hr _ _ _ _ _ hs;obtain⟨g3,_,h2,_,h4,h5,h6⟩:=Ep (vs:=[]) (rs:=[]) (us:=[]) H H2 hM (by simp[VL]) (by simp[iR]);simp only[bP,eL]at h2;exact⟨_,w2,fr,⟨u,g3,rfl,h2,rW hbv hnv hv,h4,h5,h6⟩,steps,hfn,hleave⟩
theorem aN.of{f:FuncId}{as:List AV}{v r:AV}{hh:List Ob}(hb:aD P f=true)(hr:Reach P Γ (.cl f as [] []) (.back [] v hh))(hres:sd hh v=some r):aN P Γ f as r:=
 .wO hb fun _ _ _ _ m hm=>by
  obtain⟨m',h1,h2⟩:=yH hr m hm;exact⟨m',v,hh,h1,h2,hres⟩
theorem kH.of{f:FuncId}{as:List AV}{v:AV}{hh:List Ob}(hb:aD P f=true)(hr:Reach P Γ (.cl f as [] []) (.die [] v hh))(hbv:aJ 0 v=true)(hnv:dH v=true):kH P Γ f as v:=
 .wO hb (fun _ _ _ _ m hm=>by
  obtain⟨m',h1,h2⟩:=yH hr m hm
  exact⟨m',hh,h1,h2⟩) hbv hnv
end
end Go.AM
namespace Go.AM
def Fe(P:Program)(Γ:Nat->Option AV):Nat->aw->aw
 |0,c=>c
 |n+1,c=>Fe P Γ n (eO P Γ c)
theorem Reach.steps{P:Program}{Γ:Nat->Option AV}:∀(n:Nat)(c:aw),Reach P Γ c (Fe P Γ n c)
 |0,c=>.refl c
 |n+1,c=>.trans (.step c) (Reach.steps n _)
def eB(P:Program)(Γ:Nat->Option AV):aw->aw
 |.fr f up h=>match f.md with
  |.run=>match f.its with
   |.code (.loop m b)::k=>.fr {f with its:=.code (.loop m b)::k} up h
   |.inLoop m b::k=>.fr {f with its:=.inLoop m b::k} up h
   |.code (.aR l ws gs)::k=>.fr {f with its:=.code (.aR l ws gs)::k} up h
   |its=>gz P Γ f up h its
  |_=>mE P Γ f up h
 |.cl g args up h=>.cl g args up h
 |.back (c::up) v h=>match c.finish v with
  |some c'=>.fr c' up h
  |none=>.bad
 |.back [] v h=>.back [] v h
 |.die (c::up) v h=>match c.md with
  |.run=>.fr {c with md:=.cM v false} up h
  |_=>.bad
 |.die [] v h=>.die [] v h
 |.bad=>.bad
theorem X0(P:Program)(Γ:Nat->Option AV)(c:aw):eB P Γ c=c\/eB P Γ c=eO P Γ c:=by
 cases c with
 |fr f up h=>
  obtain⟨md,fn,its,t,ds,kind,base⟩:=f
  cases md with
  |run=>
   simp only[eB,eO]
   split<;>first|exact Or.inl rfl|exact Or.inr rfl
  |ret=>exact Or.inr rfl
  |cM v rc=>exact Or.inr rfl
 |cl g args up h=>exact Or.inl rfl
 |back up v h=>cases up<;>exact Or.inr rfl
 |die up v h=>cases up<;>exact Or.inr rfl
 |bad=>exact Or.inl rfl
def pe(P:Program)(Γ:Nat->Option AV):Nat->aw->aw
 |0,c=>c
 |n+1,c=>pe P Γ n (eB P Γ c)
theorem Reach.pe{P:Program}{Γ:Nat->Option AV}:∀(n:Nat)(c:aw),Reach P Γ c (pe P Γ n c)
 |0,c=>.refl c
 |n+1,c=>by
  refine .trans ?_ (Reach.pe n _)
  rcases X0 P Γ c with h|h
  ·rw[h];exact .refl c
  ·rw[h];exact .step c
theorem Reach.on{P:Program}{Γ:Nat->Option AV}(n:Nat){c c':aw}(h:Reach P Γ (AM.pe P Γ n c) c'):Reach P Γ c c':=.trans (Reach.pe n c) h
theorem Reach.one{P:Program}{Γ:Nat->Option AV}{c c':aw}(h:Reach P Γ (eO P Γ c) c'):Reach P Γ c c':=.trans (.step c) h
section
variable{P:Program}{Γ:Nat->Option AV}{md:Md}{fn:FuncId}{its k:List It}{t:List AV}{ds:List di}{kind:FK}{base:Nat}{up:List Fr}{h:List Ob}
theorem WW{c:aw}:pe P Γ 0 c=c:=rfl
theorem Xb{n:Nat}{c:aw}:pe P Γ (n+1) c=pe P Γ n (eB P Γ c):=rfl
end
section
variable{P:Program}{Γ:Nat->Option AV}{fn:FuncId}{k:List It}{t:List AV}{ds:List di}{kind:FK}{base:Nat}{up:List Fr}{h:List Ob}
theorem aaK:eB P Γ (.fr ⟨.run,fn,.code .skip::k,t,ds,kind,base⟩ up h)=.fr ⟨.run,fn,k,t,ds,kind,base⟩ up h:=rfl
theorem abD{os:List AG}:eB P Γ (.fr ⟨.run,fn,.code (.ae os)::k,t,ds,kind,base⟩ up h)=.fr ⟨.run,fn,.ops os::k,t,ds,kind,base⟩ up h:=rfl
theorem abC{a b:an}:eB P Γ (.fr ⟨.run,fn,.code (.seq a b)::k,t,ds,kind,base⟩ up h)=.fr ⟨.run,fn,.code a::.code b::k,t,ds,kind,base⟩ up h:=rfl
theorem abl{x:AX}{a b:an}:eB P Γ (.fr ⟨.run,fn,.code (.cond x a b)::k,t,ds,kind,base⟩ up h)=(match ax t x with
 |.bool v=>.fr ⟨.run,fn,.code (if v then a else b)::k,t,ds,kind,base⟩ up h
 |_=>.bad):=rfl
theorem ZG{id:Nat}{m:List Bool}{b:an}:eB P Γ (.fr ⟨.run,fn,.code (.block id m b)::k,t,ds,kind,base⟩ up h)=.fr ⟨.run,fn,.code b::.inBlock id m::k,t,ds,kind,base⟩ up h:=rfl
theorem Wd{id:Nat}{m:List Bool}:eB P Γ (.fr ⟨.run,fn,.inBlock id m::k,t,ds,kind,base⟩ up h)=.fr ⟨.run,fn,k,cW m t,ds,kind,base⟩ up h:=rfl
theorem aaY{id:Nat}:eB P Γ (.fr ⟨.run,fn,.code (.exit id)::k,t,ds,kind,base⟩ up h)=(match nO id k with
 |some (k',m)=>.fr ⟨.run,fn,k',cW m t,ds,kind,base⟩ up h
 |none=>leave ⟨.run,fn,.code (.exit id)::k,t,ds,kind,base⟩ up h (.exit id)):=rfl
theorem ab4:eB P Γ (.fr ⟨.run,fn,.code .ret::k,t,ds,kind,base⟩ up h)=leave ⟨.run,fn,.code .ret::k,t,ds,kind,base⟩ up h .ret:=rfl
theorem abt:eB P Γ (.fr ⟨.run,fn,[],t,ds,kind,base⟩ up h)=leave ⟨.run,fn,[],t,ds,kind,base⟩ up h .none:=rfl
theorem aaA:eB P Γ (.fr ⟨.run,fn,.ops []::k,t,ds,kind,base⟩ up h)=.fr ⟨.run,fn,k,t,ds,kind,base⟩ up h:=rfl
theorem ace{d:Option Nat}{o:AO}{os:List AG}:eB P Γ (.fr ⟨.run,fn,.ops (⟨d,none,o⟩::os)::k,t,ds,kind,base⟩ up h)=
 eX P ⟨.run,fn,.ops (⟨d,none,o⟩::os)::k,t,ds,kind,base⟩ up h ⟨d,none,o⟩ os k (aA P Γ t h o):=rfl
theorem abB{d:Option Nat}{j:Nat}{b:Bool}{o:AO}{os:List AG}:eB P Γ (.fr ⟨.run,fn,.ops (⟨d,some (j,b),o⟩::os)::k,t,ds,kind,base⟩ up h)=(match dn t (some (j,b))with
 |some true=>eX P ⟨.run,fn,.ops (⟨d,some (j,b),o⟩::os)::k,t,ds,kind,base⟩ up h ⟨d,some (j,b),o⟩ os k (aA P Γ t h o)
 |some false=>.fr ⟨.run,fn,.ops os::k,aW t d (.aL []),ds,kind,base⟩ up h
 |none=>.bad):=rfl
theorem aa2{m:List Bool}{b:an}:eB P Γ (.fr ⟨.run,fn,.code (.loop m b)::k,t,ds,kind,base⟩ up h)=.fr ⟨.run,fn,.code (.loop m b)::k,t,ds,kind,base⟩ up h:=rfl
theorem XF{m:List Bool}{b:an}:eB P Γ (.fr ⟨.run,fn,.inLoop m b::k,t,ds,kind,base⟩ up h)=.fr ⟨.run,fn,.inLoop m b::k,t,ds,kind,base⟩ up h:=rfl
theorem abf{l:List Bool}{ws:List Nat}{gs:List AG}:eB P Γ (.fr ⟨.run,fn,.code (.aR l ws gs)::k,t,ds,kind,base⟩ up h)=.fr ⟨.run,fn,.code (.aR l ws gs)::k,t,ds,kind,base⟩ up h:=rfl
theorem ab3:eB P Γ (.fr ⟨.ret,fn,k,t,ds,kind,base⟩ up h)=mE P Γ ⟨.ret,fn,k,t,ds,kind,base⟩ up h:=rfl
theorem acw{g:FuncId}{args:List AV}:eB P Γ (.cl g args up h)=.cl g args up h:=rfl
theorem aaL{c:Fr}{v:AV}:eB P Γ (.back (c::up) v h)=(match c.finish v with
 |some c'=>.fr c' up h
 |none=>.bad):=rfl
theorem Zq{v:AV}:eB P Γ (.back [] v h)=.back [] v h:=rfl
theorem Mm{m:List Bool}{b:an}{c:aw}(h1:Reach P Γ (.fr ⟨.run,fn,.code b::.inLoop m b::k,cW m t,ds,kind,base⟩ up h) c):Reach P Γ (.fr ⟨.run,fn,.code (.loop m b)::k,t,ds,kind,base⟩ up h) c:=.one h1
theorem M3{m:List Bool}{b:an}{c:aw}(h1:Reach P Γ (.fr ⟨.run,fn,.code b::.inLoop m b::k,cW m t,ds,kind,base⟩ up h) c):Reach P Γ (.fr ⟨.run,fn,.inLoop m b::k,t,ds,kind,base⟩ up h) c:=.one h1
theorem Reach.G6{f:FuncId}{args as:List AV}{r:AV}{c:aw}(h1:bK h args=some as)(h2:aN P Γ f as r)(h3:Reach P Γ (.back up (dc h.length r).1 (dx h args r)) c):Reach P Γ (.cl f args up h) c:=.trans (.pure h1 h2) h3
theorem zJ{f:FuncId}{F:aM}(hF:aH P f=some F)(as:List AV){c:aw}(h1:Reach P Γ (.fr ⟨.run,f,[.code F.body],as++List.replicate (F.nt-as.length) .undef,[],.norm,h.length⟩ up h) c):Reach P Γ (.cl f as up h) c:=by
 refine .one ?_;simp only[eO,hF,enter];exact h1
end
def slot(t:List AV)(i:Nat):AV:=t.getD i .undef
@[simp] theorem aqW(a:AV)(l:List AV):slot (a::l) 0=a:=rfl
@[simp] theorem aq1(a:AV)(l:List AV)(n:Nat):slot (a::l) (n+1)=slot l n:=rfl
@[simp] theorem asx(t:List AV)(i:Nat):ax t (.t i)=slot t i:=rfl
@[simp] theorem asy(t:List AV)(v:AV):ax t (.c v)=v:=rfl
@[simp] theorem ast(t:List AV)(n:Nat):ax t (.g n)=.dF n 0:=rfl
@[simp] theorem asq(t:List AV)(n:Nat):ax t (.f n)=.fn (.func n) [] []:=rfl
@[simp] theorem Un(t:List AV):dn t none=some true:=rfl
@[simp] theorem ap5(t:List AV)(j:Nat)(b:Bool):dn t (some (j,b))=(match slot t j with
  |.bool x=>some (x==b)
  |.aL []=>some false
  |_=>none):=rfl
@[simp] theorem aqo(Γ:Nat->Option AV)(t:List AV)(h:List Ob)(i:Nat):tU Γ t h (.tmp i)=some (slot t i):=rfl
@[simp] theorem apL(Γ:Nat->Option AV)(t:List AV)(h:List Ob)(a sz:Nat)(g:Bool):tU Γ t h (.cell a g sz)=oY Γ h g sz (slot t a):=rfl
@[simp] theorem aqY(s:SK)(x y:AV):bU (.sc s) x y=eD s x y:=rfl
@[simp] theorem ao7(t:TypeId)(v:AV):bU .iface .dZ (.bX t v)=some false:=rfl
@[simp] theorem ao6(t:TypeId)(v:AV):bU .iface (.bX t v) .dZ=some false:=rfl
@[simp] theorem apV:bU .nil .ei .ei=some true:=rfl
@[simp] theorem apS(f:Fn)(a b:List AV):bU .nil .ei (.fn f a b)=some false:=rfl
@[simp] theorem apZ(f:Fn)(a b:List AV):bU .nil (.fn f a b) .ei=some false:=rfl
attribute [simp] mR enter um ga calm cU WW Xb aaK abD abC abl ZG Wd aaY ab4 abt aaA ace abB aa2 XF abf ab3 acw aaL Zq aA aW leave mE zL rD oY uc bP dW dc rS AV.cells AV.ok over lE bO AV.one nO cW Fr.finish tY jh elems nP cr fU bound bK view sd oV iR dx dH eh share gy rowsOf bF nC o_ cj aJ aO gB
@[simp] theorem ark(k:IntKind)(x y:Int):gf .add k x y=some (k.wrap (x+y)):=rfl
@[simp] theorem arF(k:IntKind)(x y:Int):gf .sub k x y=some (k.wrap (x-y)):=rfl
@[simp] theorem aq6(k:IntKind)(x y:Int):gf .mul k x y=some (k.wrap (x*y)):=rfl
@[simp low] theorem ars(k:IntKind)(x y:Int):gf .quo k x y=if y=0 then none else some (k.wrap (x.tdiv y)):=rfl
@[simp low] theorem arj(k:IntKind)(x y:Int):gf .rem k x y=if y=0 then none else some (x.tmod y):=rfl
@[simp low] theorem ari(k:IntKind)(x y:Int):gf .shr k x y=if y<0 then none else some (x.fdiv (2^(min y.toNat k.bits))):=rfl
@[simp low] theorem arb(k:IntKind)(x y:Int):gf .shl k x y=if y<0 then none else some (k.wrap (x*2^(min y.toNat k.bits))):=rfl
@[simp] theorem aru(a b:Int):lS .eql a b=decide (a=b):=by rw[gL];simp[lS]
@[simp] theorem arH(a b:Int):lS .neq a b=!decide (a=b):=by rw[gL];simp[lS]
@[simp] theorem arv(a b:Int):lS .lss a b=decide (a<b):=rfl
@[simp] theorem arl(a b:Int):lS .leq a b=decide (a<=b):=rfl
@[simp] theorem arA(a b:Int):lS .gtr a b=decide (b<a):=rfl
@[simp] theorem art(a b:Int):lS .geq a b=decide (b<=a):=rfl
@[simp] theorem aqy(k:IntKind)(a b:Int):eD .int (.int k a) (.int k b)=some (decide (a=b)):=by simp only[eD,bY,al];rw[gL];simp
@[simp] theorem aqZ(a b:List UInt8):eD .str (.str a) (.str b)=some (decide (a=b)):=by simp only[eD,al];rw[gL];simp
@[simp] theorem aqg(a b:Bool):eD .bool (.bool a) (.bool b)=some (decide (a=b)):=by simp only[eD,al];rw[gL];simp
theorem aaI{c d:UInt8}{m:Int}(h:(d.toNat:Int)=m):((c.toNat:Int)=m)↔c=d:=by
 subst h;rw[Int.ofNat_inj];exact⟨fun e=>UInt8.toNat_inj.1 e,fun e=>by rw[e]⟩
@[simp] theorem abw{c d:UInt8}:((c.toNat:Int)=(d.toNat:Int))↔c=d:=aaI rfl
theorem vR{m:Int}(h0:0<=m)(h1:m<256):((UInt8.ofNat m.toNat).toNat:Int)=m:=by
 rw[UInt8.toNat_ofNat_of_lt' (by simp[UInt8.size];omega)];omega
@[simp] theorem aqU(c:UInt8)(m:Int)(h0:0<=m)(h1:m<256):((c.toNat:Int)=m)↔c=UInt8.ofNat m.toNat:=by rw[<-abw,vR h0 h1]
@[simp] theorem Nz{c d:UInt8}:((c.toNat:Int)<(d.toNat:Int))↔c<d:=by rw[Int.ofNat_lt];exact mo
@[simp] theorem Ny{c d:UInt8}:((c.toNat:Int)<=(d.toNat:Int))↔c<=d:=by rw[Int.ofNat_le];exact mo
@[simp] theorem aqI(c:UInt8)(m:Int)(h0:0<=m)(h1:m<256):((c.toNat:Int)<m)↔c<UInt8.ofNat m.toNat:=by rw[<-Nz,vR h0 h1]
@[simp] theorem aqP(c:UInt8)(m:Int)(h0:0<=m)(h1:m<256):((c.toNat:Int)<=m)↔c<=UInt8.ofNat m.toNat:=by rw[<-Ny,vR h0 h1]
@[simp] theorem aqC(c:UInt8)(m:Int)(h0:0<=m)(h1:m<256):(m<(c.toNat:Int))↔UInt8.ofNat m.toNat<c:=by rw[<-Nz,vR h0 h1]
@[simp] theorem aqu(c:UInt8)(m:Int)(h0:0<=m)(h1:m<256):(m<=(c.toNat:Int))↔UInt8.ofNat m.toNat<=c:=by rw[<-Ny,vR h0 h1]
@[simp] theorem asd{c d:UInt8}:(c.toNat=d.toNat)↔c=d:=UInt8.toNat_inj
theorem wrap64{n:Int}(h1:-2^62<=n)(h2:n<=2^62):IntKind.i64.wrap n=n:=by
 rw[IntKind.wrap_i64];omega
abbrev o(d:Nat)(x:AO):AG:=⟨some d,none,x⟩
abbrev q(x:AO):AG:=⟨none,none,x⟩
abbrev oy(d j:Nat)(x:AO):AG:=⟨some d,some (j,true),x⟩
abbrev on(d j:Nat)(x:AO):AG:=⟨some d,some (j,false),x⟩
abbrev I:Bool:=true
abbrev O:Bool:=false
abbrev U:AV:=.undef
structure Cx where
 ds:List di
 kind:FK
 base:Nat
 up:List Fr
abbrev cx:Cx:=⟨[],.norm,0,[]⟩
abbrev bg(fn:FuncId)(its:List It)(t:List AV)(h:List Ob)(e:Cx):aw:=.fr ⟨.run,fn,its,t,e.ds,e.kind,e.base⟩ e.up h
@[simp] def tight:List Bool->List AG->Bool
 |_,[]=>true
 |false::l,_::os=>tight l os
 |_,_=>false
def runN(P:Program)(Γ:Nat->Option AV):List AG->List AV->List Ob->Option (List AV×List Ob)
 |[],t,h=>some (t,h)
 |o::os,t,h=>
  match dn t o.guard with
  |some true=>match aA P Γ t h o.op with
   |.val v h'=>runN P Γ os (aW t o.dst v) h'
   |.skip h'=>runN P Γ os (aW t o.dst (.aL [])) h'
   |_=>none
  |some false=>runN P Γ os (aW t o.dst (.aL [])) h
  |none=>none
theorem Al{P:Program}{Γ:Nat->Option AV}:∀{gs:List AG}{t:List AV}{h:List Ob}{p:List AV×List Ob},runN P Γ gs t h=some p->∃hs,ga P Γ [] gs t h=some (p.1,p.2,[],hs)
 |[],t,h,p,hr=>by simp only[runN,al]at hr;subst hr;exact⟨[],rfl⟩
 |o::os,t,h,p,hr=>by
  unfold runN at hr;unfold ga
  cases hw:dn t o.guard with
  |none=>rw[hw]at hr;cases hr
  |some b=>
   rw[hw]at hr
   cases b with
   |false=>
    simp only at hr⊢;obtain⟨hs,h1⟩:=Al hr;exact⟨_,by rw[h1];rfl⟩
   |true=>
    simp only at hr⊢
    cases ha:aA P Γ t h o.op with
    |val v h'=>
     rw[ha]at hr;simp only at hr⊢;obtain⟨hs,h1⟩:=Al hr;exact⟨_,by rw[h1];rfl⟩
    |skip h'=>
     rw[ha]at hr;simp only at hr⊢;obtain⟨hs,h1⟩:=Al hr;exact⟨_,by rw[h1];rfl⟩
    |_=>rw[ha]at hr;simp at hr
def wH(P:Program)(Γ:Nat->Option AV)(os:List AG)(d:Option Nat)(t:List AV):R->Option (List AV×List Ob)
 |.val v h'=>runN P Γ os (aW t d v) h'
 |.skip h'=>runN P Γ os (aW t d (.aL [])) h'
 |_=>none
def qy(P:Program)(Γ:Nat->Option AV)(l:List Bool)(gs:List AG)(t:List AV)(h:List Ob):Option (List AV×List Ob):=
 if tight l gs=true then runN P Γ gs t h else none
def stepG(P:Program)(Γ:Nat->Option AV)(st:Nat):aw->aw
 |.fr f up h=>match f.md with
  |.run=>match f.its with
   |.code (.loop m b)::k=>.fr {f with its:=.code (.loop m b)::k} up h
   |.inLoop m b::k=>.fr {f with its:=.inLoop m b::k} up h
   |.code (.aR l ws gs)::k=>match qy P Γ l gs f.t h with
    |some p=>.fr {f with its:=k,t:=p.1} up p.2
    |none=>.fr {f with its:=.code (.aR l ws gs)::k} up h
   |.code (.eH as gs)::k=>.fr {f with its:=.code (.eH as gs)::k} up h
   |.code (.exit id)::k=>match nO id k with
    |some (k',m)=>if st==1&&!m.isEmpty then .fr {f with its:=.code (.exit id)::k} up h else .fr {f with its:=k',t:=cW m f.t} up h
    |none=>leave f up h (.exit id)
   |its=>gz P Γ f up h its
  |_=>mE P Γ f up h
 |.cl g args up h=>.cl g args up h
 |.back (c::up) v h=>if st==2 then .back (c::up) v h else match c.finish v with
  |some c'=>.fr c' up h
  |none=>.bad
 |.back [] v h=>.back [] v h
 |.die (c::up) v h=>if st==2 then .die (c::up) v h else match c.md with
  |.run=>.fr {c with md:=.cM v false} up h
  |_=>.bad
 |.die [] v h=>.die [] v h
 |.bad=>.bad
theorem tL{P:Program}{Γ:Nat->Option AV}{obls:List fG}{hs:List (List Ob)}:∀{gs:List AG}{l:List Bool}{ws:List Nat}{orc:List (AV×List Ob)}{t:List AV}{h:List Ob}{x},tight l gs=true->ga P Γ orc gs t h=some x->calm P Γ obls hs l ws orc gs t h
 |[],_,_,_,_,_,_,_,_=>trivial
 |o::os,[],ws,orc,t,h,x,hl,hr=>by simp[tight]at hl
 |o::os,true::l,ws,orc,t,h,x,hl,hr=>by simp[tight]at hl
 |o::os,false::l,ws,orc,t,h,x,hl,hr=>by
  simp only[tight]at hl;unfold calm;unfold ga at hr
  split at hr
  ·split at hr
   ·rename_i v h' ha;rw[bN]at hr;obtain⟨y,hy,_⟩:=hr;exact⟨fun hb=>(by cases hb),tL hl hy⟩
   ·rename_i h' ha;rw[bN]at hr;obtain⟨y,hy,_⟩:=hr;exact tL hl hy
   ·rename_i f args ha
    split at hr
    ·cases hr
    ·split at hr
     ·rw[bN]at hr;obtain⟨y,hy,_⟩:=hr;exact⟨fun hb=>(by cases hb),tL hl hy⟩
     ·cases hr
   ·split at hr
    ·rw[bN]at hr;obtain⟨y,hy,_⟩:=hr;exact⟨rfl,tL hl hy⟩
    ·cases hr
   ·cases hr
  ·rw[bN]at hr;obtain⟨y,hy,_⟩:=hr;exact tL hl hy
  ·cases hr
theorem Reach.stepG{P:Program}{Γ:Nat->Option AV}{st:Nat}(c:aw):Reach P Γ c (AM.stepG P Γ st c):=by
 cases c with
 |fr f up h=>
  obtain⟨md,fn,its,t,ds,kind,base⟩:=f
  cases md with
  |run=>
   simp only[AM.stepG]
   split
   ·exact .refl _
   ·exact .refl _
   ·rename_i l ws gs k
    split
    ·rename_i p hp;unfold qy at hp
     split at hp
     ·rename_i ht;obtain⟨hs,hr⟩:=Al hp;exact .aR (f:=⟨.run,fn,.code (.aR l ws gs)::k,t,ds,kind,base⟩) rfl rfl hr (fun _ ho=>ho) (by simp) (tL ht hr)
     ·cases hp
    ·exact .refl _
   ·exact .refl _
   ·rename_i id k
    split
    ·rename_i k' m he
     split
     ·exact .refl _
     ·refine .one ?_;simp only[eO,gz,he];exact .refl _
    ·rename_i he;refine .one ?_;simp only[eO,gz,he];exact .refl _
   ·exact .step _
  |ret=>exact .step _
  |cM v rc=>exact .step _
 |cl g args up h=>exact .refl _
 |back up v h=>
  cases up with
  |nil=>exact .refl _
  |cons c up=>simp only[AM.stepG];split<;>first|exact .refl _|exact .step _
 |die up v h=>
  cases up with
  |nil=>exact .refl _
  |cons c up=>simp only[AM.stepG];split<;>first|exact .refl _|exact .step _
 |bad=>exact .refl _
def go(P:Program)(Γ:Nat->Option AV)(st:Nat):Nat->aw->aw
 |0,c=>c
 |n+1,c=>go P Γ st n (stepG P Γ st c)
theorem Reach.goes{P:Program}{Γ:Nat->Option AV}{st:Nat}:∀(n:Nat)(c:aw),Reach P Γ c (AM.go P Γ st n c)
 |0,c=>.refl c
 |n+1,c=>.trans (.stepG c) (Reach.goes n _)
theorem Reach.go{P:Program}{Γ:Nat->Option AV}(n:Nat){c c':aw}(h:Reach P Γ (AM.go P Γ 0 n c) c'):Reach P Γ c c':=.trans (Reach.goes n c) h
theorem Reach.du{P:Program}{Γ:Nat->Option AV}(n:Nat){c c':aw}(h:Reach P Γ (AM.go P Γ 2 n c) c'):Reach P Γ c c':=.trans (Reach.goes n c) h
def pop:aw->aw
 |.back (c::up) v h=>match c.finish v with
  |some c'=>.fr c' up h
  |none=>.bad
 |.die (c::up) v h=>match c.md with
  |.run=>.fr {c with md:=.cM v false} up h
  |_=>.bad
 |c=>c
@[simp] theorem are{c:Fr}{up:List Fr}{v:AV}{h:List Ob}:pop (.back (c::up) v h)=(match c.finish v with
  |some c'=>.fr c' up h
  |none=>.bad):=(rfl)
@[simp] theorem ar3{c:Fr}{up:List Fr}{v:AV}{h:List Ob}:pop (.die (c::up) v h)=(match c.md with
  |.run=>.fr {c with md:=.cM v false} up h
  |_=>.bad):=(rfl)
theorem Reach.pop{P:Program}{Γ:Nat->Option AV}(c:aw):Reach P Γ c (AM.pop c):=by
 cases c with
 |back up v h=>cases up<;>first|exact .refl _|exact .step _
 |die up v h=>cases up<;>first|exact .refl _|exact .step _
 |_=>exact .refl _
theorem Reach.gk{P:Program}{Γ:Nat->Option AV}(n:Nat){c c':aw}(h:Reach P Γ (AM.go P Γ 1 n c) c'):Reach P Γ c c':=.trans (Reach.goes n c) h
section
variable{P:Program}{Γ:Nat->Option AV}{st:Nat}{n:Nat}{fn:FuncId}{k:List It}{t:List AV}{ds:List di}{kind:FK}{base:Nat}{up:List Fr}{h h':List Ob}
theorem lA{c:aw}(hc:stepG P Γ st c=c):∀n,go P Γ st n c=c
 |0=>rfl
 |n+1=>by rw[go,hc];exact lA hc n
@[simp] theorem arQ:go P Γ st (n+1) (.fr ⟨.run,fn,.code .skip::k,t,ds,kind,base⟩ up h)=go P Γ st n (.fr ⟨.run,fn,k,t,ds,kind,base⟩ up h):=(rfl)
@[simp] theorem asm{os:List AG}:go P Γ st (n+1) (.fr ⟨.run,fn,.code (.ae os)::k,t,ds,kind,base⟩ up h)=go P Γ st n (.fr ⟨.run,fn,.ops os::k,t,ds,kind,base⟩ up h):=(rfl)
@[simp] theorem asi{a b:an}:go P Γ st (n+1) (.fr ⟨.run,fn,.code (.seq a b)::k,t,ds,kind,base⟩ up h)=go P Γ st n (.fr ⟨.run,fn,.code a::.code b::k,t,ds,kind,base⟩ up h):=(rfl)
@[simp] theorem arO{x:AX}{a b:an}:go P Γ st (n+1) (.fr ⟨.run,fn,.code (.cond x a b)::k,t,ds,kind,base⟩ up h)=go P Γ st n (match ax t x with
  |.bool v=>.fr ⟨.run,fn,.code (if v then a else b)::k,t,ds,kind,base⟩ up h
  |_=>.bad):=(rfl)
@[simp] theorem aro{id:Nat}{m:List Bool}{b:an}:go P Γ st (n+1) (.fr ⟨.run,fn,.code (.block id m b)::k,t,ds,kind,base⟩ up h)=go P Γ st n (.fr ⟨.run,fn,.code b::.inBlock id m::k,t,ds,kind,base⟩ up h):=(rfl)
@[simp] theorem aqn{id:Nat}{m:List Bool}:go P Γ st (n+1) (.fr ⟨.run,fn,.inBlock id m::k,t,ds,kind,base⟩ up h)=go P Γ st n (.fr ⟨.run,fn,k,cW m t,ds,kind,base⟩ up h):=(rfl)
@[simp] theorem ar5{id:Nat}:go P Γ st (n+1) (.fr ⟨.run,fn,.code (.exit id)::k,t,ds,kind,base⟩ up h)=go P Γ st n (match nO id k with
  |some (k',m)=>if st==1&&!m.isEmpty then .fr ⟨.run,fn,.code (.exit id)::k,t,ds,kind,base⟩ up h else .fr ⟨.run,fn,k',cW m t,ds,kind,base⟩ up h
  |none=>leave ⟨.run,fn,.code (.exit id)::k,t,ds,kind,base⟩ up h (.exit id)):=(rfl)
@[simp] theorem asg:go P Γ st (n+1) (.fr ⟨.run,fn,.code .ret::k,t,ds,kind,base⟩ up h)=go P Γ st n (leave ⟨.run,fn,.code .ret::k,t,ds,kind,base⟩ up h .ret):=(rfl)
@[simp] theorem asc:go P Γ st (n+1) (.fr ⟨.run,fn,[],t,ds,kind,base⟩ up h)=go P Γ st n (leave ⟨.run,fn,[],t,ds,kind,base⟩ up h .none):=(rfl)
@[simp] theorem ar6:go P Γ st (n+1) (.fr ⟨.run,fn,.ops []::k,t,ds,kind,base⟩ up h)=go P Γ st n (.fr ⟨.run,fn,k,t,ds,kind,base⟩ up h):=(rfl)
@[simp] theorem asp{d:Option Nat}{o:AO}{os:List AG}:go P Γ st (n+1) (.fr ⟨.run,fn,.ops (⟨d,none,o⟩::os)::k,t,ds,kind,base⟩ up h)=
  go P Γ st n (eX P ⟨.run,fn,.ops (⟨d,none,o⟩::os)::k,t,ds,kind,base⟩ up h ⟨d,none,o⟩ os k (aA P Γ t h o)):=(rfl)
@[simp] theorem ase{d:Option Nat}{j:Nat}{b:Bool}{o:AO}{os:List AG}:go P Γ st (n+1) (.fr ⟨.run,fn,.ops (⟨d,some (j,b),o⟩::os)::k,t,ds,kind,base⟩ up h)=go P Γ st n (match dn t (some (j,b))with
  |some true=>eX P ⟨.run,fn,.ops (⟨d,some (j,b),o⟩::os)::k,t,ds,kind,base⟩ up h ⟨d,some (j,b),o⟩ os k (aA P Γ t h o)
  |some false=>.fr ⟨.run,fn,.ops os::k,aW t d (.aL []),ds,kind,base⟩ up h
  |none=>.bad):=(rfl)
@[simp] theorem arR{m:List Bool}{b:an}:go P Γ st n (.fr ⟨.run,fn,.code (.loop m b)::k,t,ds,kind,base⟩ up h)=.fr ⟨.run,fn,.code (.loop m b)::k,t,ds,kind,base⟩ up h:=lA rfl n
@[simp] theorem aqA{m:List Bool}{b:an}:go P Γ st n (.fr ⟨.run,fn,.inLoop m b::k,t,ds,kind,base⟩ up h)=.fr ⟨.run,fn,.inLoop m b::k,t,ds,kind,base⟩ up h:=lA rfl n
@[simp] theorem arM{as:List (List Nat)}{gs:List AG}:go P Γ st n (.fr ⟨.run,fn,.code (.eH as gs)::k,t,ds,kind,base⟩ up h)=.fr ⟨.run,fn,.code (.eH as gs)::k,t,ds,kind,base⟩ up h:=lA rfl n
@[simp] theorem aq9{l:List Bool}{ws:List Nat}{gs:List AG}:go P Γ st (n+1) (.fr ⟨.run,fn,.code (.aR l ws gs)::k,t,ds,kind,base⟩ up h)=(if tight l gs=true then(match runN P Γ gs t h with
  |some p=>go P Γ st n (.fr ⟨.run,fn,k,p.1,ds,kind,base⟩ up p.2)
  |none=>.fr ⟨.run,fn,.code (.aR l ws gs)::k,t,ds,kind,base⟩ up h)else .fr ⟨.run,fn,.code (.aR l ws gs)::k,t,ds,kind,base⟩ up h):=by
 split
 ·rename_i ht
  split
  ·rename_i p hr
   have hp:qy P Γ l gs t h=some p:=by simp only[qy,ht,bY,hr]
   simp only[go,stepG,hp]
  ·rename_i hr;refine lA ?_ _
   have hp:qy P Γ l gs t h=none:=by simp only[qy,ht,bY,hr]
   simp only[stepG,hp]
 ·rename_i ht;refine lA ?_ _
  have hp:qy P Γ l gs t h=none:=by simp[qy,ht]
  simp only[stepG,hp]
@[simp] theorem aq8:runN P Γ [] t h=some (t,h):=(rfl)
@[simp] theorem ar9{d:Option Nat}{o:AO}{os:List AG}:runN P Γ (⟨d,none,o⟩::os) t h=wH P Γ os d t (aA P Γ t h o):=(rfl)
@[simp] theorem arx{d:Option Nat}{j:Nat}{b:Bool}{o:AO}{os:List AG}:runN P Γ (⟨d,some (j,b),o⟩::os) t h=(match dn t (some (j,b))with
  |some true=>wH P Γ os d t (aA P Γ t h o)
  |some false=>runN P Γ os (aW t d (.aL [])) h
  |none=>none):=(rfl)
@[simp] theorem arB{os:List AG}{d:Option Nat}{v:AV}:wH P Γ os d t (.val v h)=runN P Γ os (aW t d v) h:=(rfl)
@[simp] theorem aqz{os:List AG}{d:Option Nat}:wH P Γ os d t (.skip h)=runN P Γ os (aW t d (.aL [])) h:=(rfl)
@[simp] theorem aqG{os:List AG}{d:Option Nat}{f:FuncId}{args:List AV}:wH P Γ os d t (.call f args)=none:=(rfl)
@[simp] theorem aqj{f:Fr}{o:AG}{os:List AG}:eX P f up h o os k .either=.fr f up h:=(rfl)
@[simp] theorem Mj{f:Fr}{o:AG}{os:List AG}{v:AV}:eX P f up h o os k (.val v h')=.fr ⟨f.md,f.fn,.ops os::k,aW f.t o.dst v,f.ds,f.kind,f.base⟩ up h':=(rfl)
@[simp] theorem K_{f:Fr}{o:AG}{os:List AG}:eX P f up h o os k (.skip h')=.fr ⟨f.md,f.fn,.ops os::k,aW f.t o.dst (.aL []),f.ds,f.kind,f.base⟩ up h':=(rfl)
@[simp] theorem arN{f:Fr}{o:AG}{os:List AG}{v:AV}:eX P f up h o os k (.cM v)=.fr ⟨.cM v false,f.fn,f.its,f.t,f.ds,f.kind,f.base⟩ up h:=(rfl)
@[simp] theorem YV{f:Fr}{o:AG}{os:List AG}{g:FuncId}{args:List AV}:eX P f up h o os k (.call g args)=if aD P g=true then .cl g args (f::up) h else .bad:=(rfl)
@[simp] theorem arL{f:Fr}{o:AG}{os:List AG}:eX P f up h o os k .qI=(match um f up with
 |some (v,up')=>.fr {f with its:=.ops os::k,t:=aW f.t o.dst v} up' h
 |none=>.bad):=(rfl)
@[simp] theorem arV{f:Fr}{o:AG}{os:List AG}{g:FuncId}{args:List AV}:eX P f up h o os k (.bB g args)=(match f.kind with
  |.round _=>.bad
  |_=>.fr {f with its:=.ops os::k,t:=aW f.t o.dst (.aL []),ds:=.call g args::f.ds} up h):=(rfl)
@[simp] theorem aqQ{f:Fr}{o:AG}{os:List AG}{l:Nat}{args:List AV}:eX P f up h o os k (.yield l args)=(match h[l]? with
  |some (.loop _ _ fn t ps a b)=>
   if args.length=ps.length then
    .fr {md:=.run,fn:=fn,its:=[.code a,.beginRound,.code b],t:=kF t ps args,ds:=[],kind:=.round l,base:=h.length} (f::up) h
   else .bad
  |_=>.bad):=(rfl)
@[simp] theorem ar4{f:Fr}{o:AG}{os:List AG}:eX P f up h o os k .bad=.bad:=(rfl)
@[simp] theorem apx{x:AX}{ps:List Nat}{m:List Bool}{a b:an}:go P Γ st (n+1) (.fr ⟨.run,fn,.code (.rangeFunc x ps m a b)::k,t,ds,kind,base⟩ up h)=go P Γ st n (match ax t x with
  |.fn (.func g) fs cs=>if aD P g=false then .bad else match kind with
   |.round _=>.cl g (fs++.dA h.length::cs) (⟨.run,fn,.iE h.length::k,t,ds,kind,base⟩::up) (h++[.loop .ready .none fn (cW m t) ps a b])
   |_=>.cl g (fs++.dA (h.length+1)::cs) (⟨.run,fn,.iE (h.length+1)::k,t,.mark h.length::ds,kind,base⟩::up) (h++[.bB true,.loop .ready .none fn (cW m t) ps a b])
  |_=>.bad):=(rfl)
@[simp] theorem apl:go P Γ st (n+1) (.fr ⟨.run,fn,.beginRound::k,t,ds,kind,base⟩ up h)=go P Γ st n (match kind with
  |.round l=>match h[l]? with
   |some (.loop .ready j fn' t' ps a b)=>.fr ⟨.run,fn,k,t,ds,kind,base⟩ up (h.set l (.loop .busy j fn' t' ps a b))
   |_=>.bad
  |_=>.bad):=(rfl)
@[simp] theorem apQ{l:Nat}:go P Γ st (n+1) (.fr ⟨.run,fn,.tz l::k,t,ds,kind,base⟩ up h)=go P Γ st n (match h[l]? with
  |some (.loop sta j fn' t' ps a b)=>
   if sta=.busy then .bad
   else .fr ⟨.run,fn,(match j with|.none=>k|.ret=>.code .ret::k|.exit id=>.code (.exit id)::k),t,ds,kind,base⟩ up (h.set l (.loop .exhausted j fn' t' ps a b))
  |_=>.bad):=(rfl)
@[simp] theorem asa:go P Γ st (n+1) (.fr ⟨.ret,fn,k,t,ds,kind,base⟩ up h)=go P Γ st n (mE P Γ ⟨.ret,fn,k,t,ds,kind,base⟩ up h):=(rfl)
@[simp] theorem asf{v:AV}{rc:Bool}:go P Γ st (n+1) (.fr ⟨.cM v rc,fn,k,t,ds,kind,base⟩ up h)=go P Γ st n (mE P Γ ⟨.cM v rc,fn,k,t,ds,kind,base⟩ up h):=(rfl)
@[simp] theorem aso{g:FuncId}{args:List AV}:go P Γ st n (.cl g args up h)=.cl g args up h:=lA rfl n
@[simp] theorem arT{c:Fr}{v:AV}:go P Γ 0 (n+1) (.back (c::up) v h)=go P Γ 0 n (match c.finish v with
  |some c'=>.fr c' up h
  |none=>.bad):=(rfl)
@[simp] theorem aq7{c:Fr}{v:AV}:go P Γ 1 (n+1) (.back (c::up) v h)=go P Γ 1 n (match c.finish v with
  |some c'=>.fr c' up h
  |none=>.bad):=(rfl)
@[simp] theorem arh{v:AV}:go P Γ 2 n (.back up v h)=.back up v h:=lA (by cases up<;>rfl) n
@[simp] theorem arn{v:AV}:go P Γ st n (.back [] v h)=.back [] v h:=lA rfl n
@[simp] theorem asl{c:Fr}{v:AV}:go P Γ 0 (n+1) (.die (c::up) v h)=go P Γ 0 n (match c.md with
  |.run=>.fr {c with md:=.cM v false} up h
  |_=>.bad):=(rfl)
@[simp] theorem arW{c:Fr}{v:AV}:go P Γ 1 (n+1) (.die (c::up) v h)=go P Γ 1 n (match c.md with
  |.run=>.fr {c with md:=.cM v false} up h
  |_=>.bad):=(rfl)
@[simp] theorem ar2{v:AV}:go P Γ 2 n (.die up v h)=.die up v h:=lA (by cases up<;>rfl) n
@[simp] theorem arK{v:AV}:go P Γ st n (.die [] v h)=.die [] v h:=lA rfl n
@[simp] theorem asn:go P Γ st n .bad=.bad:=lA rfl n
@[simp] theorem ar7{c:aw}:go P Γ st 0 c=c:=(rfl)
end
end Go.AM
namespace Go.AM
open Go.ChangeShapes Go.WideShapes Go.ChangeAt Go.RowKit
inductive Sh where
 |bool|str
 |int (k:IntKind)
 |list (k:Nat) (ag:Bool) (e:Sh)
 |parts (l:List Sh)
def me:Bool->List AV->AV
 |true,cs=>.agg cs
 |false,[c]=>c
 |false,_=>.undef
mutual
def eE(B:Nat):Sh->List AV->Prop
 |.bool,cs=>∃b,cs=[.bool b]
 |.str,cs=>∃s:List UInt8,cs=[.str s]/\s.length<=B
 |.int k,cs=>∃n,cs=[.int k n]/\k.min<=n/\n<=k.max
 |.list k ag e,cs=>∃xs:List (List AV),cs=[.list false k (xs.map (me ag))]/\xs.length<=B/\∀x∈xs,eE B e x/\x.length=k
 |.parts l,cs=>qz B l cs
def qz(B:Nat):List Sh->List AV->Prop
 |[],cs=>cs=[]
 |s::ss,cs=>∃a b,cs=a++b/\eE B s a/\qz B ss b
end
def gJ(P:Program):Nat->TypeId->Option Sh
 |0,_=>none
 |n+1,t=>match P.underlying t with
  |some .bool=>some .bool
  |some .string=>some .str
  |some (.int k)=>some (.int k)
  |some (.slice e)=>match gJ P n e,fB P e with
   |some s,some ag=>if P.cellsOf e=0\/(ag=false/\P.cellsOf e≠1)then none else some (.list (P.cellsOf e) ag s)
   |_,_=>none
  |some (.struct fs)=>(fs.toList.mapM fun f=>gJ P n f.type).map .parts
  |some (.array m e)=>(gJ P n e).map fun s=>.parts (List.replicate m s)
  |_=>none
def gw(w:World):G:={ρ:=fun _=>none,M:=fun b o=>w.cell? ⟨b,o,none⟩,MM:=fun b=>match w.heap[b]? with|some (.map es ck)=>some (es,ck)|_=>none}
structure Down{H:Type}(B:Nat)(Q:DataW H->Prop):Prop where
 sl:∀e r,Q (.slice e r)->e.length<=9223372036854775807->e.length<=B/\∀d∈e,Q d
 ag:∀ps,Q (.agg ps)->∀d∈ps,Q d
 st:∀b,Q (.lit (.string b))->b.length<=9223372036854775807->b.length<=B
theorem Down.any{H:Type}:Down (H:=H) 9223372036854775807 (fun _=>True):=⟨fun _ _ _ h=>⟨h,fun _ _=>trivial⟩,fun _ _ _ _=>trivial,fun _ _ h=>h⟩
section
variable{P:Program}{w:World}{H:Type}{enc:TypeId×Value->H}{sp:Nat->Bool}{T:TypeId->Prop}
def Rd(B:Nat)(w:World)(s:Sh)(cs:List Value):Prop:=∃as,eE B s as/\VL (gw w) [] as cs/\bO as=true/\aO 0 as=true
theorem SC{as bs:List AV}(h1:bO as=true)(h2:bO bs=true):bO (as++bs)=true:=by
 induction as with
 |nil=>simpa using h2
 |cons a as ih=>simp only[bO,ek,aC]at h1⊢;exact⟨h1.1,ih h1.2⟩
theorem Tn{n:Nat}{as bs:List AV}(h1:aO n as=true)(h2:aO n bs=true):aO n (as++bs)=true:=by
 induction as with
 |nil=>simpa using h2
 |cons a as ih=>simp only[aO,ek,aC]at h1⊢;exact⟨h1.1,ih h1.2⟩
theorem VF{ag:Bool}{as:List AV}{k:Nat}(hk:as.length=k)(h1:ag=true\/k=1)(ho:bO as=true):(me ag as).cells=as:=by
 cases ag with
 |true=>rfl
 |false=>
  have:k=1:=by simpa using h1
  subst this
  match as,hk with
  |[c],_=>simp[me];simp[bO]at ho;cases c<;>simp_all [AV.cells,AV.one]
theorem Ij{k:Nat}:∀{es fs:List AV},cj es k=true->cj fs k=true->cj (es++fs) k=true
 |[],_,_,h2=>by simpa using h2
 |e::es,fs,h1,h2=>by
  simp only[cj,ek,aC]at h1⊢;exact⟨h1.1,Ij h1.2 h2⟩
theorem Di{B:Nat}{n:Nat}{r:List Value->Sh->Prop}:∀(ss:List Sh)(css:List (List Value)),css.length=ss.length->(∀(i:Nat) s c,ss[i]? =some s->css[i]? =some c->Rd B w s c)->
 ∃as,qz B ss as/\VL (gw w) [] as css.flatten/\bO as=true/\aO 0 as=true
 |[],css,hl,_=>by
  have:css=[]:=by simpa using hl
  subst this;exact⟨[],by simp[qz],by simp[VL],rfl,rfl⟩
 |s::ss,css,hl,hr=>by
  match css,hl with
  |c::css,hl=>
   obtain⟨a,h1,h2,h3,h4⟩:=hr 0 s c rfl rfl;obtain⟨b,h5,h6,h7,h8⟩:=Di (n:=n) (r:=r) ss css (by simpa using hl) (fun i s c hs hc=>hr (i+1) s c (by simpa using hs) (by simpa using hc));exact⟨a++b,by simp only[qz];exact⟨a,b,rfl,h1,h5⟩,by simpa using jN h2 h6,SC h3 h7,Tn h4 h8⟩
theorem D9{α:Type}:∀(ns:List Nat)(cs:List α),cs.length=ns.sum->∃css:List (List α),css.length=ns.length/\css.flatten=cs/\∀(i n:Nat),ns[i]? =some n->css[i]? =some ((cs.drop (ns.take i).sum).take n)
 |[],cs,h=>⟨[],rfl,by simp at h;simp[h],by simp⟩
 |n::ns,cs,h=>by
  obtain⟨css,h1,h2,h3⟩:=D9 ns (cs.drop n) (by simp at h⊢;omega);refine⟨cs.take n::css,by simp[h1],by simp[h2],?_⟩;intro i m hi
  cases i with
  |zero=>simp at hi;subst hi;simp
  |succ i=>
   simp only[ni,QX,List.sum_cons]at hi⊢;rw[h3 i m hi,List.drop_drop]
theorem abV{B:Nat}{Q:DataW H->Prop}(K:Kids P T)(D:Down B Q):∀(n:Nat)(t:TypeId)(s:Sh),T t->gJ P n t=some s->∀(fuel:Nat)(cs:List Value)(x:DataW H×List MemPlace),DataW.trod enc P w 0 sp true fuel t cs=some x->Q x.1->Rd B w s cs:=by
 intro n
 induction n with
 |zero=>intro t s _ hs;simp[gJ]at hs
 |succ n ih=>
  intro t s hT hs fuel cs x hx hQ;unfold gJ at hs
  split at hs
  ·rename_i hu
   cases hs
   obtain⟨b,rfl,_⟩:=DataW.trod_bool hu hx;exact⟨[.bool b],by simp[eE],by simp[VL,V],rfl,rfl⟩
  ·rename_i hu
   cases hs
   obtain⟨b,rfl,hxe,h⟩:=DataW.trod_string hu hx;refine⟨[.str b.data.toList],?_,by simp[VL,V],rfl,rfl⟩;simp only[eE];rw[hxe]at hQ;exact⟨_,rfl,D.st _ hQ (by simpa[maxLen]using h)⟩
  ·rename_i k hu
   cases hs
   obtain⟨i,rfl,_,h⟩:=DataW.trod_int hu hx;refine⟨[.int k i],?_,by simp[VL,V],rfl,rfl⟩;simp only[Lit.wf,aC,a8]at h;simp only[eE];exact⟨i,rfl,h.1,h.2⟩
  ·rename_i e hu
   split at hs
   ·rename_i se ag hse hag
    split at hs
    ·cases hs
    ·rename_i hk
     cases hs
     have hTe:=K.slice hT hu
     have hk0:0<P.cellsOf e:=by omega
     have hk1:ag=true\/P.cellsOf e=1:=by cases ag<;>simp_all
     rcases DataW.trod_slice hu hx with⟨rfl,_⟩|⟨a,len,cap,elems,rest,m,_,rfl,hxe,_,hlc,hcap,hel,hget,_⟩
     ·refine⟨[.list false (P.cellsOf e) []],?_,?_,rfl,rfl⟩
      ·simp only[eE];exact⟨[],rfl,by simp,by simp⟩
      ·simp[VL,V,cj]
     ·have hQ2:=D.sl (elems.map (·.1)) (rest.map (·.1)) (by rw[hxe]at hQ;exact hQ) (by rw[iB];simp[maxLen]at hcap;omega);rw[iB]at hQ2
      have key:∀q,q<=len->∃xs:List (List AV),xs.length=q/\(∀x∈xs,eE B se x/\x.length=P.cellsOf e)/\cj (xs.map (me ag)) (P.cellsOf e)=true/\
       ∃vs,VE (gw w) [] (xs.map (me ag)) vs/\vs.length=q*P.cellsOf e/\∀j(hj:j<vs.length),w.cell? (a.add j)=some vs[j]:=by
       intro q
       induction q with
       |zero=>intro _;exact⟨[],rfl,by simp,rfl,[],by simp[VE],by simp,by simp⟩
       |succ q ihq=>
        intro hq;obtain⟨xs,h1,h2,h3,vs,h4,h5,h6⟩:=ihq (by omega);have hg:=hget q (by omega);obtain⟨y,hy⟩:∃y,elems[q]? =some y:=⟨elems[q]'(by omega),a_ (by omega)⟩;rw[hy,oe]at hg;obtain⟨c,hc,ht⟩:=hg;obtain⟨as,g1,g2,g3,g4⟩:=ih e se hTe hse _ _ _ ht (hQ2.2 _ (HQ (fQ hy)));unfold World.cells? at hc
        split at hc
        ·have hcl:c.length=P.cellsOf e:=by simpa using mapM_some_length hc
         have hal:as.length=P.cellsOf e:=by rw[<-fe g2];exact hcl
         have hcells:=VF hal hk1 g3;refine⟨xs++[as],by simp[h1],?_,?_,vs++c,?_,?_,?_⟩
         ·intro x hx
          rcases ba.1 hx with hx|hx
          ·exact h2 x hx
          ·simp at hx;subst hx;exact⟨g1,hal⟩
         ·rw[nk];refine Ij h3 ?_;simp only[cv,iC,cj,hcells,hal,g3,g4,decide_true,pF]
         ·rw[nk];refine oA h4 ?_;simp only[cv,iC,VE]
          cases ag with
          |true=>exact⟨.agg c.toArray,[],by simp only[me,V];exact⟨c,rfl,g2⟩,by simp[Value.cells],rfl⟩
          |false=>
           have hk2:P.cellsOf e=1:=by simpa using hk1
           match as,hal.trans hk2,c,hcl.trans hk2 with
           |[a1],_,[c1],_=>
            simp only[VL]at g2;obtain⟨v,_,h7,h8,h9⟩:=g2;subst h9
            cases h7
            refine⟨c1,[],h8,?_,rfl⟩
            have ho:a1.one=true:=by simpa[bO]using g3
            have:c1.cells=#[c1]:=by
             cases a1<;>simp[AV.one]at ho<;>simp only[V]at h8<;>first
              |(subst h8;rfl)
              |(obtain⟨_,_,_,rfl,_⟩:=h8;rfl)
              |(obtain⟨_,_,_,_,_,rfl⟩:=h8;rfl)
              |(obtain⟨_,_,_,_,_,_,rfl⟩:=h8;rfl)
              |(obtain⟨_,_,rfl,_⟩:=h8;rfl)
              |(obtain⟨_,rfl,_⟩:=h8;rfl)
              |(obtain⟨_,_,_,_,rfl⟩:=h8;rfl)
              |(simp[aJ,aO]at g4)
              |(exfalso;simp_all [Bh,isCells,isMap,M7,EY])
            simp[this]
         ·simp[h5,hcl];rw[fa];simp
         ·intro j hj;rw[List.getElem_append]
          split
          ·rename_i hjv;exact h6 j hjv
          ·rename_i hjv;have h7:=mapM_some_get hc (j-vs.length) (j-vs.length) (by rw[bp]at hj;rw[Q5 (by omega)]);rw[a_ (by simp at hj;omega)]at h7;rw[<-h7];congr 1
           have hadd:(a.add (q*P.cellsOf e)).add (j-vs.length)=a.add j:=by
            unfold Addr.add
            split<;>split<;>split<;>simp_all<;>omega
           rw[hadd]
        ·cases hc
      obtain⟨xs,h1,h2,h3,vs,h4,h5,h6⟩:=key len (aU _);refine⟨[.list false (P.cellsOf e) (xs.map (me ag))],?_,?_,rfl,?_⟩
      ·simp only[eE];exact⟨xs,rfl,by omega,h2⟩
      ·simp only[VL,V];refine⟨_,[],rfl,⟨h3,some a,cap,by simp[h1],by simp,by simpa[h1]using hlc,?_⟩,rfl⟩
       by_cases hl:len=0
       ·subst hl;left;simpa using h1
       ·right
        have h0:0<vs.length:=by rw[h5];exact Nat.mul_pos (by omega) hk0
        have hs:=h6 0 h0
        have hsp:a.spot=none:=by
         unfold World.cell? Addr.add at hs;rw[if_pos rfl]at hs
         split at hs
         ·split at hs
          ·cases hs
          ·rename_i h8;simpa using h8
         ·cases hs
        obtain⟨b,o,sp'⟩:=a;simp only at hsp;subst hsp;refine⟨b,o,vs,rfl,h4,fun j hj=>?_⟩;have h9:=h6 j hj
        have:(⟨b,o,none⟩:Addr).add j=⟨b,o+j,none⟩:=by
         unfold Addr.add
         split<;>simp_all
        rw[this]at h9;exact h9
      ·simp only[aO,aJ,pF];exact h_ h3
   ·cases hs
  ·rename_i fs hu;rw[bN]at hs;obtain⟨ss,hss,rfl⟩:=hs;obtain⟨hf,hsz,hoff⟩:=K.struct hT hu;obtain⟨xs,m,_,hxe,hcl,hxl,hget⟩:=DataW.trod_struct hu hx;have hQ2:=D.ag (xs.map (·.1)) (by rw[hxe]at hQ;exact hQ);obtain⟨css,h1,h2,h3⟩:=D9 (fs.toList.map fun f=>P.cellsOf f.type) cs (by rw[hcl,hsz]);have hssl:ss.length=fs.toList.length:=mapM_some_length hss
   obtain⟨as,g1,g2,g3,g4⟩:=Di (w:=w) (n:=0) (r:=fun _ _=>True) ss css (by rw[h1,hssl];simp) (by
    intro i s c hs hc
    have hi:i<fs.size:=by have:=bj hs;rw[hssl]at this;simpa using this
    obtain⟨f,hfi⟩:∃f,fs[i]? =some f:=⟨fs[i],by simp[hi]⟩
    have hfl:fs.toList[i]? =some f:=by simpa using hfi
    have h4:=h3 i (P.cellsOf f.type) (by simp[hfi]);rw[hc]at h4;have h4:=Option.some.inj h4;have h5:=hget i f hfi;rw[hoff i f hfl]at h5;have h6:=mapM_some_get hss i f hfl;rw[hs]at h6;have hxi:∃y,xs[i]? =some y:=⟨xs[i]'(by omega),a_ (by omega)⟩;obtain⟨y,hy⟩:=hxi;rw[hy]at h5;subst h4;rw[<-List.map_take]
    exact ih f.type s (hf f (fQ hfl)) h6 _ _ y h5 (hQ2 _ (HQ (fQ hy))))
   exact⟨as,by simpa only [eE]using g1,by rw[h2]at g2;exact g2,g3,g4⟩
  ·rename_i m e hu;rw[bN]at hs;obtain⟨s,hs,rfl⟩:=hs;obtain⟨hTe,hsz⟩:=K.array hT hu;obtain⟨xs,q,_,hxe,hcl,hxl,hget⟩:=DataW.trod_array hu hx;have hQ2:=D.ag (xs.map (·.1)) (by rw[hxe]at hQ;exact hQ);obtain⟨css,h1,h2,h3⟩:=D9 (List.replicate m (P.cellsOf e)) cs (by rw[hcl,hsz];simp)
   obtain⟨as,g1,g2,g3,g4⟩:=Di (w:=w) (n:=0) (r:=fun _ _=>True) (List.replicate m s) css (by rw[h1];simp) (by
    intro i s' c hs' hc
    have hi:i<m:=by have:=bj hs';simpa using this
    rw[HR]at hs';simp only[hi,bY,al]at hs';subst hs';have h4:=h3 i (P.cellsOf e) (by simp[HR,hi]);rw[hc]at h4;have h4:=Option.some.inj h4;have h5:=hget i hi;obtain⟨y,hy⟩:∃y,xs[i]? =some y:=⟨xs[i]'(by omega),a_ (by omega)⟩;rw[hy]at h5;subst h4
    have he:(List.take i (List.replicate m (P.cellsOf e))).sum=i*P.cellsOf e:=by simp[List.take_replicate,qP (Nat.le_of_lt hi)]
    rw[he]
    exact ih e s hTe hs _ _ y h5 (hQ2 _ (HQ (fQ hy))))
   exact⟨as,by simpa only [eE]using g1,by rw[h2]at g2;exact g2,g3,g4⟩
  ·cases hs
end
def TS(P:Program)(t:TypeId):Prop:=t<P.types.size/\∃n,(gJ P n t).isSome=true
theorem Y8{P:Program}(hl:laidOutB P=true)(hm:mapsRowed P=true):Kids P (TS P):=by
 have K:=kids_rows hl hm;refine⟨fun{t e} ht hu=>?_,fun{t e} ht hu=>?_,fun{t e n} ht hu=>?_,fun{t fs} ht hu=>?_,fun{t k e} ht hu=>?_⟩
 ·obtain⟨_,n,hn⟩:=ht
  cases n<;>simp[gJ,hu]at hn
 ·obtain⟨h1,n,hn⟩:=ht;refine⟨K.slice h1 hu,?_⟩
  cases n with
  |zero=>simp[gJ]at hn
  |succ n=>
   simp only[gJ,hu]at hn
   split at hn
   ·rename_i h2 _;exact⟨n,by simp[h2]⟩
   ·cases hn
 ·obtain⟨h1,m,hn⟩:=ht;refine⟨⟨(K.array h1 hu).1,?_⟩,(K.array h1 hu).2⟩
  cases m with
  |zero=>simp[gJ]at hn
  |succ m=>simp only[gJ,hu,Option.isSome_map]at hn;exact⟨m,hn⟩
 ·obtain⟨h1,n,hn⟩:=ht;refine⟨fun f hf=>⟨(K.struct h1 hu).1 f hf,?_⟩,(K.struct h1 hu).2⟩
  cases n with
  |zero=>simp[gJ]at hn
  |succ n=>
   simp only[gJ,hu,Option.isSome_map]at hn;obtain⟨ss,hss⟩:=HJ.1 hn;obtain⟨i,hi⟩:=uY.1 hf;have:=mapM_some_get hss i f hi;have hlen:=mapM_some_length hss
   have hlt:i<ss.length:=by rw[hlen];exact bj hi
   exact⟨n,by rw[this,a_ hlt];rfl⟩
 ·obtain⟨_,n,hn⟩:=ht
  cases n<;>simp[gJ,hu]at hn
def rJ(B:Nat):List (Bool×Sh)->List AV->Prop
 |[],as=>as=[]
 |(ag,s)::r,as=>∃cs as',as=me ag cs::as'/\eE B s cs/\(ag=false->cs.length=1)/\rJ B r as'
def BR(P:Program)(t:TypeId):Option (Bool×Sh):=match fB P t,gJ P 12 t with
 |some ag,some s=>some (ag,s)
 |_,_=>none
section
variable{P:Program}{W:World}{H:Type}{enc:TypeId×Value->H}{sp:Nat->Bool}
theorem MB{B:Nat}{Q:DataW H->Prop}(K:Kids P (TS P))(D:Down B Q):∀{ts:List TypeId}{shs:List (Bool×Sh)}{vs:List Value}{ds:List (DataW H)}{ps:List MemPlace},(∀t∈ts,t<P.types.size)->ts.mapM (BR P)=some shs->
 (∀(j:Nat) t v,ts[j]? =some t->vs[j]? =some v->∃r base,Value.okWide P W r base t v)->DataW.TrodAll enc P W 0 sp true ts vs ds ps->(∀d∈ds,Q d)->∃as,rJ B shs as/\VL (gw W) [] as vs
 |[],shs,vs,ds,ps,_,hs,_,hT,_=>by
  obtain⟨rfl,_,_⟩:=trodAll_nil hT;simp at hs;subst hs;exact⟨[],by simp[rJ],by simp[VL]⟩
 |t::ts,shs,vs,ds,ps,hlt,hs,hok,hT,hQ=>by
  obtain⟨v,vs1,d,ds1,a,b,rfl,rfl,rfl,h1,h2⟩:=trodAll_cons hT;simp only[sy,pI,oe,Option.pure_def,al]at hs;obtain⟨x,hx,ys,hys,rfl⟩:=hs;obtain⟨as,g1,g2⟩:=MB K D (fun t ht=>hlt t (dm _ ht)) hys (fun j t v h3 h4=>hok (j+1) t v (by simpa using h3) (by simpa using h4)) h2 (fun d hd=>hQ d (dm _ hd));unfold BR at hx
  split at hx
  ·rename_i ag s hag hsh
   cases hx
   obtain⟨fuel,hf⟩:=h1;obtain⟨cs,h3,h4,h5,h6⟩:=abV K D 12 t s ⟨hlt t (by simp),12,by simp[hsh]⟩ hsh _ _ _ hf (hQ _ (oh ..));obtain⟨r,base,hokv⟩:=hok 0 t v rfl rfl
   cases ag with
   |true=>
    have hv:∃c,v=.agg c:=by
     unfold fB at hag;unfold Value.okWide at hokv
     cases hu:P.underlying t with
     |none=>simp[hu]at hag
     |some d=>
      rw[hu]at hag hokv
      cases d<;>simp at hag<;>(obtain⟨c,rfl,_⟩:=hokv;exact⟨c,rfl⟩)
    obtain⟨c,rfl⟩:=hv;refine⟨.agg cs::as,by simp only[rJ];exact⟨cs,as,rfl,h3,by simp,g1⟩,?_⟩;simp only[VL,V];exact⟨_,_,rfl,⟨c.toList,by simp,by simpa[Value.cells]using h4⟩,g2⟩
   |false=>
    have hv:v.cells=#[v]:=by
     unfold fB at hag
     cases v with
     |agg c=>
      exfalso
      cases fuel with
      |zero=>simp[DataW.trod]at hf
      |succ n=>
      cases hu:P.underlying t with
      |none=>simp[hu]at hag
      |some d=>
       rw[hu]at hag;unfold Value.okWide at hokv;rw[hu]at hokv
       cases d<;>simp at hag<;>simp[Cell.okWide,Cell.ok,hu]at hokv
       all_goals (unfold gJ at hsh;rw[hu]at hsh;simp at hsh)
     |_=>rfl
    rw[hv]at h4
    have hlen:cs.length=1:=by rw[<-fe h4];rfl
    match cs,hlen with
    |[c],_=>
     simp only[VL]at h4;obtain⟨u,us,h7,h8,h9⟩:=h4
     cases h7
     refine⟨c::as,by simp only[rJ];exact⟨[c],as,rfl,h3,fun _=>rfl,g1⟩,?_⟩;simp only[VL];exact⟨_,_,rfl,h8,g2⟩
  ·cases hx
theorem U6:∀{shs:List (Bool×Sh)}{as:List AV}{vs:List Value},VL (gw W) [] as vs->aO 0 as=true
 |_,_,_,h=>by simpa using cV h
theorem UJ{B:Nat}{Q:DataW H->Prop}(D:Down B Q){f:FuncId}{fn:Func}{s:ChangeSpec}{Γ:Nat->Option AV}{tb:TypeId}{shs:List (Bool×Sh)}(hl:laidOutB P=true)(hm:mapsRowed P=true)(hres:fn.resultTypes=#[tb])(htb:P.underlying tb=some .bool)
 (hlt:∀t∈fn.params.toList,t<P.types.size)(hsh:fn.params.toList.mapM (BR P)=some shs)(hvars:s.vars=[])
 (hspec:∀ds:List (DataW H),ds.length=fn.params.size->(s.fn H ds).results=[.lit (.bool true)]/\(s.fn H ds).args=ds/\(s.fn H ds).vars=[])
 (hΓ:∀n a,Γ n=some a->aO 0 a.cells=true/\∃vs,VL (gw W) [] a.cells vs/\∀j(hj:j<vs.length),W.cell? ⟨n,j,none⟩=some vs[j])
 (hpin:FH Γ {K:=fun b=>W.heap[b]?,M0:=(gw W).M,MM:=(gw W).MM,w0:=W})
 (G6:∀as,rJ B shs as->aN P Γ f as (.bool true))
 {base:Nat}{args:Array Value}{ds gs:List (DataW H)}{before:List MemPlace}
 (hval:∀(j:Nat) t v,fn.params[j]? =some t->args[j]? =some v->Value.okWide P W .any base t v)
 (hW:DataW.Whole enc P fn.params.toList s.vars false W args.toList ds gs before)(hQ:∀d∈ds,Q d):
 Calls P f args W fun e W'=>∃v,e=.returned v/\s.post enc P fn false true false false W args v W':=by
 have K:=Y8 hl hm;have hW':=hW;obtain⟨p,q,hA,hV,rfl,hfz,hnd⟩:=hW;rw[hvars]at hV;obtain⟨rfl,rfl⟩:=trodVars_none hV;obtain⟨as,h1,h2⟩:=MB K D hlt hsh (fun j t v hj hv=>⟨_,_,hval j t v (by simpa using hj) (by simpa using hv)⟩) hA hQ
 have hI:Inv P Γ {K:=fun b=>W.heap[b]?,M0:=(gw W).M,MM:=(gw W).MM,w0:=W} (gw W) [] W:=by
  refine⟨rfl,rfl,rfl,fun b o hb=>hb,fun i b x hi=>(by cases hi),fun i j b x y hi=>(by cases hi),fun _ _=>rfl,fun b o v hv=>hv,?_,fun i b sz st o v hi=>(by cases hi),fun i o hi=>(by simp at hi),hΓ,
   fun b o v B hv _=>hv,rfl,hpin⟩
  intro b es ck hb;simp only[gw]at hb
  split at hb
  ·rename_i es' ck' hh
   cases hb
   exact⟨hh,fun i x hi=>(by cases hi)⟩
  ·cases hb
 have hC:=(G6 as h1).2 (U6 (shs:=shs) h2) _ _ [] W args.toList hI h2;rw[Array.toArray_toList]at hC;refine hC.mono ?_
 rintro e W' ⟨u,g',rfl,_,hI',hu,_,_,hheap⟩
 simp only[dc,dW,V]at hu;subst hu;refine⟨_,rfl,ds,[],p++[],[],p,[],hW',?_,?_,?_,?_,fun h=>by cases h⟩
 ·have hlen:ds.length=fn.params.size:=by
   have:=(trodAll_length hA).2;simpa using this
  rw[eL,(hspec ds hlen).1,hres];exact trodAll_cons_mk (shut_bool htb _) trodAll_mk0
 ·have hlen:ds.length=fn.params.size:=by
   have:=(trodAll_length hA).2;simpa using this
  rw[eL,(hspec ds hlen).2.1];have hp:∀x∈p,x.block<W.heap.size:=hA.lt
  have key:∀{ts:List TypeId}{vs:List Value}{ds:List (DataW H)}{ps:List MemPlace},(∀t∈ts,TS P t)->(∀x∈ps,x.block<W.heap.size)->DataW.TrodAll enc P W 0 (fun _=>true) true ts vs ds ps->
   DataW.TrodAll enc P W' 0 (fun b=>decide (b<W.heap.size)) true ts vs ds ps:=by
   intro ts
   induction ts with
   |nil=>
    intro vs ds ps _ _ hT;obtain⟨rfl,rfl,rfl⟩:=trodAll_nil hT;exact trodAll_mk0
   |cons t ts ih=>
    intro vs ds ps ht hb hT;obtain⟨v,vs1,d,ds1,a,b,rfl,rfl,rfl,h3,h4⟩:=trodAll_cons hT;obtain⟨fuel,hf⟩:=h3;refine trodAll_cons_mk ⟨fuel,DataW.trod_stays K ?_ (by simp) (ht t (by simp)) hf ?_ ?_⟩ (ih (fun t' ht'=>ht t' (dm _ ht')) (fun x hx=>hb x (by simp[hx])) h4)
    ·intro t e ht' hu;obtain⟨_,n,hn⟩:=ht'
     cases n with
     |zero=>simp[gJ]at hn
     |succ n=>
      simp only[gJ,hu]at hn
      split at hn
      ·split at hn
       ·cases hn
       ·rename_i h5;omega
      ·cases hn
    ·intro x hx;have hxb:=hb x (by simp[hx])
     cases x with
     |cell b o=>simp only[World.sameAt,World.cell?];rw[hheap b hxb]
     |map b=>simp only[World.sameAt];exact hheap b hxb
    ·intro x hx;have hxb:=hb x (by simp[hx]);simpa using hxb
  refine key (fun t ht=>⟨hlt t ht,?_⟩) hp hA;obtain⟨i,hi⟩:=uY.1 ht;have h3:=mapM_some_get hsh i t hi
  have hl3:i<shs.length:=by rw[mapM_some_length hsh];exact bj hi
  rw[a_ hl3]at h3;unfold BR at h3
  split at h3
  ·rename_i h4;exact⟨12,by simp[h4]⟩
  ·cases h3
 ·have hlen:ds.length=fn.params.size:=by
   have:=(trodAll_length hA).2;simpa using this
  rw[eL,(hspec ds hlen).2.2,hvars];rfl
 ·refine⟨hI'.os,hI'.output,fun i hi=>?_⟩;rw[hheap i hi];have:=(World.keptBut_refl W (fun p_1=>p_1∈p++[]/\(p_1∈[]\/p_1∈p\/p_1∈[]))).2.2 i hi;exact this
end
theorem z_{α β γ:Type}{f:α->γ}{e:β->γ}:∀{xs:List α},(∀x∈xs,∃t,f x=e t)->∃ts:List β,xs.map f=ts.map e/\ts.length=xs.length
 |[],_=>⟨[],rfl,rfl⟩
 |x::xs,h=>by
  obtain⟨t,ht⟩:=h x (by simp);obtain⟨ts,h1,h2⟩:=z_ (xs:=xs) (e:=e) (fun y hy=>h y (dm _ hy));exact⟨t::ts,by simp[ht,h1],by simp[h2]⟩
end Go.AM
namespace Go.AM
open Go.RowKit
theorem drop_eq{α:Type}{a b:List α}{i:Nat}(h1:i<a.length)(h2:i<b.length):(a.drop i=b.drop i)↔(a[i]=b[i]/\a.drop (i+1)=b.drop (i+1)):=by
 rw[br h1,br h2,xn]
@[simp] theorem arC{α:Type}(n:Nat)(f:α->AV)(l:List α):aO n (l.map f)=l.all fun x=>aJ n (f x):=by
 induction l with
 |nil=>rfl
 |cons a l ih=>simp[aO,ih]
@[simp] theorem ard{α:Type}(f:α->AV)(l:List α):eh (l.map f)=l.all fun x=>dH (f x):=by
 induction l with
 |nil=>rfl
 |cons a l ih=>simp[eh,ih]
@[simp] theorem apI(a b:List AV):eh (a++b)=(eh a&&eh b):=by
 induction a with
 |nil=>simp[eh]
 |cons x a ih=>simp[eh,ih,pM]
@[simp] theorem arE{α β:Type}(f:α->β)(l:List α):(l.map f).take l.length=l.map f:=by rw[cF];simp
@[simp] theorem TV(n:Nat)(a b:List AV):aO n (a++b)=(aO n a&&aO n b):=by
 induction a with
 |nil=>simp[aO]
 |cons x a ih=>simp[aO,ih,pM]
@[simp] theorem ash{c:Prop}[Decidable c]{r:R}(h:c):(if c then r else R.bad)=r:=if_pos h
@[simp] theorem arZ{c:Prop}[Decidable c]{α:Type}{x:α}(h:c):(if c then some x else none)=some x:=if_pos h
@[simp] theorem natCast_eq(a b:Nat):((a:Int)=(b:Int))↔a=b:=by omega
@[simp] theorem toNat_add{x y:Int}(h1:0<=x)(h2:0<=y):(x+y).toNat=x.toNat+y.toNat:=by omega
@[simp] theorem toNat_sub{x y:Int}(h2:0<=y):(x-y).toNat=x.toNat-y.toNat:=by omega
attribute [simp] j3 jw fE nY qx dS mZ iw n3 dG jC nX AL ew mV pd wrap64 pH ni
@[simp] theorem aqp{P:Program}{Γ:Nat->Option AV}(c:aw):Reach P Γ c c:=.refl c
section
variable{P:Program}{Γ:Nat->Option AV}
theorem Na{g:G}{h:List Ob}{s:List UInt8}{as:List AV}{us:List Value}(hv:VL g h (.str s::as) us):∃us',us=.string ⟨s.toArray⟩::us'/\VL g h as us':=by
 simp only[VL,V]at hv;obtain⟨v,us',rfl,rfl,h2⟩:=hv;exact⟨us',rfl,h2⟩
theorem aa9{g:G}{h:List Ob}{k:IntKind}{n:Int}{as:List AV}{us:List Value}(hv:VL g h (.int k n::as) us):∃us',us=.int k n::us'/\VL g h as us':=by
 simp only[VL,V]at hv;obtain⟨v,us',rfl,rfl,h2⟩:=hv;exact⟨us',rfl,h2⟩
theorem MG{g:G}{h:List Ob}{us:List Value}(hv:VL g h [] us):us=[]:=by simpa only [VL]using hv
theorem Reach.acm{f:FuncId}{args as:List AV}{v:AV}{up:List Fr}{h:List Ob}{c:aw}(h1:bK h args=some as)(h2:kH P Γ f as v)(h3:Reach P Γ (.die up v h) c):Reach P Γ (.cl f args up h) c:=.trans (.Fw h1 h2) h3
theorem Reach.call(n:Nat){f:FuncId}{args as:List AV}{r:AV}{up:List Fr}{h:List Ob}{c:aw}(h1:bK h args=some as)(h2:aN P Γ f as r)(h3:Reach P Γ (AM.go P Γ 0 n (.back up (dc h.length r).1 (dx h args r))) c):Reach P Γ (.cl f args up h) c:=.G6 h1 h2 (.go n h3)
theorem Reach.kP(n:Nat){f:FuncId}{args as:List AV}{v:AV}{up:List Fr}{h:List Ob}{c:aw}(h1:bK h args=some as)(h2:kH P Γ f as v)(h3:Reach P Γ (AM.go P Γ 0 n (.die up v h)) c):Reach P Γ (.cl f args up h) c:=.acm h1 h2 (.go n h3)
def nR(gs:List AG):List (List Nat):=(List.range gs.length).map fun i=>(List.range i).filter fun j=>match gs[i]?,gs[j]? with
 |some gi,some gj=>(match gj.dst with
  |some d=>(rH gi).contains d
  |none=>false)
 |_,_=>false
theorem M4{ops:Array Oper}{dep:List (List Nat)}(hed:nB ops=true)(hdl:dep.length=ops.size)(hda:∀i j,j∈dep.getD i []->kf ops j i=true):∀(fuel n:Nat)(listed:Array Bool)(done:List Nat),listed.size=ops.size->(∀i,i<ops.size->listed.getD i true=done.contains i)->Ar ops listed->left ops.size listed=fuel->
 Region.linearise.go .any ops fuel n listed []∈eM dep fuel done
 |0,n,listed,done,_,_,_,_=>by simp[Region.linearise.go,eM]
 |fuel+1,n,listed,done,hsz,hd,hcl,hl=>by
  have hed1:∀i(h:i<ops.size),∀e∈(ops[i]).after.toList,Region.binds .any e=true->e.on<i:=by
   intro i h e he hb;simp only[nB,dL]at hed;have h6:=hed (ops[i],i) (by rw[Q0];simp[h]);rw[<-qR,dL]at h6;have h7:=h6 e he;rw[hb]at h7;simpa using h7
  have hne:0<((List.range ops.size).filter fun i=>!listed.getD i true&&((ops[i]?).map (·.after.all fun e=>!Region.binds .any e||listed.getD e.on false)).getD false).length:=by
   have hex:∃i,i<ops.size/\listed.getD i true=false:=by
    unfold left at hl;obtain⟨i,hi⟩:=HN (l:=(List.range ops.size).filter fun i=>!listed.getD i true) (by omega);simp only[dh,dw,je]at hi;exact⟨i,hi⟩
   have hmin:∀m i,i<=m->i<ops.size->listed.getD i true=false->∃i,i<ops.size/\listed.getD i true=false/\∀j,j<i->listed.getD j true=true:=by
    intro m
    induction m with
    |zero=>intro i h1 h2 h3;exact⟨i,h2,h3,fun j hj=>by omega⟩
    |succ m ihm=>
     intro i h1 h2 h3
     by_cases h4:∃j,j<i/\listed.getD j true=false
     ·obtain⟨j,h5,h6⟩:=h4;exact ihm j (by omega) (by omega) h6
     ·refine⟨i,h2,h3,fun j hj=>?_⟩
      cases hq:listed.getD j true with
      |true=>rfl
      |false=>exact absurd ⟨j,hj,hq⟩ h4
   obtain⟨i0,h1,h2⟩:=hex;obtain⟨i,h3,h4,h5⟩:=hmin i0 i0 (aU _) h1 h2;refine Ca (a:=i) ?_;simp only[dh,dw,h4,uU,Cb,iD h3,eb,gZ];refine⟨h3,?_⟩;rw[<-qR,dL];intro e he
   cases hb:Region.binds .any e with
   |false=>rfl
   |true=>
    have h7:=hed1 i h3 e he hb;simp only[pE,lp];rw[tM (by omega) false true];exact h5 _ h7
  simp only[Region.linearise.go,eM];generalize hrs:((List.range ops.size).filter fun i=>!listed.getD i true&&((ops[i]?).map (·.after.all fun e=>!Region.binds .any e||listed.getD e.on false)).getD false)=rs at hne⊢;have hlt:n%rs.length<rs.length:=Nat.mod_lt _ hne;rw[a_ hlt];generalize hri:rs[n%rs.length]=i
  have him:i∈rs:=by rw[<-hri];exact bZ hlt
  have him2:=him;rw[<-hrs]at him2;simp only[dh,dw,aC,je]at him2;obtain⟨h1,h2,h3⟩:=him2;rw[iD h1,eb,gZ]at h3
  have hedge:∀e∈(ops[i]).after.toList,Region.binds .any e=true->listed.getD e.on false=true:=by
   intro e he hb;rw[<-qR,dL]at h3;have:=h3 e he;rw[hb]at this;simpa using this
  have hready:i∈(List.range dep.length).filter (jk dep done):=by
   simp only[dh,dw,jk,aC,je,hdl];refine⟨h1,by rw[<-hd i h1];exact h2,?_⟩;rw[dL];intro j hj;have h4:=C7 hcl i i j (aU _) ⟨ops[i],iD h1,hedge⟩ (hda i j hj)
   have hjs:j<ops.size:=by
    rw[<-hsz]
    refine xy fun hn=>?_
    rw[fS,n_ (by omega)]at h4
    cases h4
   rw[<-hd j hjs,<-tM (by omega) false true];exact h4
  have h2':listed.getD i true=false:=h2;simp only;rw[linearise_go_acc,Q1,sA];refine od.2 ⟨i,hready,db.2 ⟨_,M4 hed hdl hda fuel _ _ _ (by simpa using hsz) ?_ ?_ ?_,rfl⟩⟩
  ·intro j hj;simp only[fS,sC]
   by_cases hij:i=j
   ·subst hij;simp[hsz,h1]
   ·rw[if_neg hij];have:=hd j hj;rw[fS]at this;rw[this];simp[Ne.symm hij]
  ·intro j o ho hj e he hb
   have hset:∀q,listed.getD q false=true->(listed.setIfInBounds i true).getD q false=true:=by
    intro q hq;simp only[fS,sC]at hq⊢
    by_cases hiq:i=q
    ·subst hiq;simp[hsz,h1]
    ·rw[if_neg hiq];exact hq
   refine hset _ ?_
   by_cases hij:i=j
   ·subst hij;rw[iD h1]at ho
    cases ho
    exact hedge e he hb
   ·refine hcl j o ho ?_ e he hb;simp only[fS,sC,if_neg hij]at hj⊢;exact hj
  ·have:=DP h1 h2';omega
theorem Yb{ops:Array Oper}{gs:List AG}(hok:tQ ops gs=true)(hlen:gs.length=ops.size)(i j:Nat)(hj:j∈(nR gs).getD i []):kf ops j i=true:=by
 by_cases hi:i<gs.length
 ·have e:(nR gs).getD i []=(List.range i).filter fun j=>match gs[i]?,gs[j]? with
   |some gi,some gj=>(match gj.dst with
    |some d=>(rH gi).contains d
    |none=>false)
   |_,_=>false:=by
   simp[nR,bz,hi]
  rw[e]at hj;simp only[dh,dw]at hj;obtain⟨hji,hj⟩:=hj;simp only[tQ,dL,dw]at hok;have h1:=hok i hi;rw[a_ hi]at h1 hj;simp only[aC,dL,dw]at h1;have h2:=h1.2 j hji;rw[a_ (by omega:j<gs.length)]at h2 hj;simp only at h2 hj
  cases hd:(gs[j]'(by omega)).dst with
  |none=>rw[hd]at hj;cases hj
  |some d=>
   rw[hd]at hj;simp only[lB,hd,hj,pE,Bool.false_and,Bool.or_false,aC]at h2;exact h2.2
 ·rw[bz,mh (by simp[nR];omega)]at hj;simp at hj
theorem Jf{P:Program}{Γ:Nat->Option AV}{N:Env}{g0:G}{f0:FuncId}{cs0:List Frame}{f:Fr}{up:List Fr}{h:List Ob}{l:List Bool}{ws:List Nat}{gs:List AG}{k:List It}(hmd:f.md=.run)(hits:f.its=.code (.aR l ws gs)::k){m:Machine}(hm:bn P Γ N g0 f0 cs0 (.fr f up h) m):
 ∃lst∈eM (nR gs) gs.length [],∃m1,Steps P m m1/\bn P Γ N g0 f0 cs0 (.fr {f with its:=.ops (lst.map fun i=>gs.getD i default)::k} up h) m1:=by
 obtain⟨g,w,tmps,todo,ds,kd,ro,md,fs,rfl,S,hmr⟩:=hm.inv;rw[hmd]at hmr;simp only[MR]at hmr;subst hmr;have hI:=S.its;rw[hits]at hI
 cases todo with
 |nil=>simp only[IR]at hI
 |cons im k'=>
 cases im<;>simp only[IR]at hI
 rename_i c;obtain⟨hC,hk⟩:=hI
 cases c<;>try (simp only[CR]at hC;done)
 rename_i id ops draw
 cases draw<;>simp only[CR]at hC
 obtain⟨hgs,hok,rfl,rfl⟩:=hC;simp only[we,aC]at hok;obtain⟨⟨hok1,hok2⟩,hok3⟩:=hok
 have hlen:gs.length=ops.size:=by rw[(vM hgs).1];simp
 have hsched:∀x,Region.schedule (P.follows .mixedOrders) ops x=Region.linearise.go .any ops ops.size x (Array.replicate ops.size false) []:=by
  intro x;unfold Region.schedule;rw[if_pos (by simpa using hok3)];rfl
 have hgetD:∀i d,(Array.replicate ops.size false).getD i d=if i<ops.size then false else d:=by
  intro i d;rw[fS,Q2]
  split<;>rfl
 have hleft:left ops.size (Array.replicate ops.size false)=ops.size:=by
  unfold left;rw[HO.2,qQ];intro i hi;rw[hgetD,if_pos (by simpa using hi)];rfl
 have hcl:Ar ops (Array.replicate ops.size false):=by
  intro i o ho hl;have:=bj (l:=ops.toList) (i:=i) (a:=o) (by simpa using ho);rw[hgetD,if_pos (by simpa using this)]at hl
  cases hl
 have hmem:=M4 (dep:=nR gs) hok2 (by simp[nR,hlen]) (Yb hok1 hlen) ops.size (w.tape w.drawn (.order f.fn id)) (Array.replicate ops.size false) [] (by simp) (fun i hi=>by rw[hgetD,if_pos hi];rfl) hcl hleft;have S':St P Γ N g0 f0 g h w.drew f up tmps (.code (.region id ops true)::k') ds kd ro fs:=⟨S.H.world rfl rfl rfl rfl,S.M,S.its,S.t,S.ds,S.kind,S.is,S.b,S.z,S.s⟩;refine⟨_,by rw[hlen];exact hmem,_,Steps.one Es,?_⟩;rw[hsched];exact S'.go hmd (its:=.ops _::k) ⟨zD hgs fun i hi=>Aw _ _ _ i hi,hk⟩ S.t
inductive Out where
 |ret (r:AV)
 |die (v:AV)
def Hb(P:Program)(Γ:Nat->Option AV)(f:FuncId)(as:List AV):Out->Prop
 |.ret r=>aN P Γ f as r
 |.die v=>kH P Γ f as v
inductive aB(P:Program)(Γ:Nat->Option AV):aw->Out->Prop
 |back {v r:AV} {hh:List Ob}:sd hh v=some r->aB P Γ (.back [] v hh) (.ret r)
 |die {v:AV} {hh:List Ob}:aJ 0 v=true->dH v=true->aB P Γ (.die [] v hh) (.die v)
 |reach {c c':aw} {o:Out}:Reach P Γ c c'->aB P Γ c' o->aB P Γ c o
 |At {f:Fr} {up:List Fr} {h:List Ob} {as:List (List Nat)} {gs:List AG} {k:List It} {o:Out}:f.md=.run->f.its=.code (.eH as gs)::k->(∀v,o=.die v->aJ 0 v=true/\dH v=true)->
  (∀l∈eM as as.length [],aB P Γ (.fr {f with its:=.ops (l.map fun i=>gs.getD i default)::k} up h) o)->aB P Γ (.fr f up h) o
 |Ah {f:Fr} {up:List Fr} {h:List Ob} {l:List Bool} {ws:List Nat} {gs:List AG} {k:List It} {o:Out}:f.md=.run->f.its=.code (.aR l ws gs)::k->(∀v,o=.die v->aJ 0 v=true/\dH v=true)->
  (∀l∈eM (nR gs) gs.length [],aB P Γ (.fr {f with its:=.ops (l.map fun i=>gs.getD i default)::k} up h) o)->aB P Γ (.fr f up h) o
 |iL {f:Fr} {up:List Fr} {h:List Ob} {a:AG} {os:List AG} {k:List It} {o:Out}:f.md=.run->f.its=.ops (a::os)::k->dn f.t a.guard=some true->aA P Γ f.t h a.op=.either->
  (∀b,aB P Γ (.fr {f with its:=.ops os::k,t:=aW f.t a.dst (.bool b)} up h) o)->aB P Γ (.fr f up h) o
theorem YZ{N:Env}{g0:G}{f0:FuncId}{cs0:List Frame}{c:aw}{o:Out}(hf:aB P Γ c o):∀r,o=.ret r->∀m,bn P Γ N g0 f0 cs0 c m->∃m' v hh,Steps P m m'/\bn P Γ N g0 f0 cs0 (.back [] v hh) m'/\sd hh v=some r:=by
 induction hf with
 |@back v r hh h1=>intro r' hr m hm;cases hr;exact⟨m,v,hh,.refl _ _,hm,h1⟩
 |die _ _=>intro r' hr;cases hr
 |reach h1 _ ih=>
  intro r hr m hm;obtain⟨m1,s1,h2⟩:=yH h1 m hm;obtain⟨m2,v,hh,s2,h3,h4⟩:=ih r hr m1 h2;exact⟨m2,v,hh,s1.trans s2,h3,h4⟩
 |At hmd hits _ _ ih=>
  intro r hr m hm;obtain⟨l,hl,m1,s1,h2⟩:=C8 hmd hits hm;obtain⟨m2,v,hh,s2,h3,h4⟩:=ih l hl r hr m1 h2;exact⟨m2,v,hh,s1.trans s2,h3,h4⟩
 |Ah hmd hits _ _ ih=>
  intro r hr m hm;obtain⟨l,hl,m1,s1,h2⟩:=Jf hmd hits hm;obtain⟨m2,v,hh,s2,h3,h4⟩:=ih l hl r hr m1 h2;exact⟨m2,v,hh,s1.trans s2,h3,h4⟩
 |iL hmd hits hw ha _ ih=>
  intro r hr m hm;obtain⟨b,m1,s1,h2⟩:=CL hmd hits hw ha hm;obtain⟨m2,v,hh,s2,h3,h4⟩:=ih b r hr m1 h2;exact⟨m2,v,hh,s1.trans s2,h3,h4⟩
theorem Xz{N:Env}{g0:G}{f0:FuncId}{cs0:List Frame}{c:aw}{o:Out}(hf:aB P Γ c o):∀v,o=.die v->∀m,bn P Γ N g0 f0 cs0 c m->∃m' hh,Steps P m m'/\bn P Γ N g0 f0 cs0 (.die [] v hh) m':=by
 induction hf with
 |back _=>intro r' hr;cases hr
 |@die v hh _ _=>intro v' hr m hm;cases hr;exact⟨m,hh,.refl _ _,hm⟩
 |reach h1 _ ih=>
  intro r hr m hm;obtain⟨m1,s1,h2⟩:=yH h1 m hm;obtain⟨m2,hh,s2,h3⟩:=ih r hr m1 h2;exact⟨m2,hh,s1.trans s2,h3⟩
 |At hmd hits _ _ ih=>
  intro r hr m hm;obtain⟨l,hl,m1,s1,h2⟩:=C8 hmd hits hm;obtain⟨m2,hh,s2,h3⟩:=ih l hl r hr m1 h2;exact⟨m2,hh,s1.trans s2,h3⟩
 |Ah hmd hits _ _ ih=>
  intro r hr m hm;obtain⟨l,hl,m1,s1,h2⟩:=Jf hmd hits hm;obtain⟨m2,hh,s2,h3⟩:=ih l hl r hr m1 h2;exact⟨m2,hh,s1.trans s2,h3⟩
 |iL hmd hits hw ha _ ih=>
  intro r hr m hm;obtain⟨b,m1,s1,h2⟩:=CL hmd hits hw ha hm;obtain⟨m2,hh,s2,h3⟩:=ih b r hr m1 h2;exact⟨m2,hh,s1.trans s2,h3⟩
theorem MA{c:aw}{o:Out}(hf:aB P Γ c o):∀v,o=.die v->aJ 0 v=true/\dH v=true:=by
 induction hf with
 |back _=>intro r' hr;cases hr
 |@die v hh h1 h2=>intro v' hr;cases hr;exact⟨h1,h2⟩
 |reach _ _ ih=>exact ih
 |At _ _ h1 _ _=>exact h1
 |Ah _ _ h1 _ _=>exact h1
 |iL _ _ _ _ _ ih=>exact ih true
theorem aB.go(n:Nat){c:aw}{o:Out}(h:aB P Γ (AM.go P Γ 0 n c) o):aB P Γ c o:=.reach (.goes n c) h
theorem aB.gk(n:Nat){c:aw}{o:Out}(h:aB P Γ (AM.go P Γ 1 n c) o):aB P Γ c o:=.reach (.goes n c) h
theorem Reach.exit{fn:FuncId}{k k':List It}{t t':List AV}{ds:List di}{kind:FK}{base:Nat}{up:List Fr}{h:List Ob}{id:Nat}{m:List Bool}(h1:nO id k=some (k',m))(h2:cW m t=t'):
 Reach P Γ (.fr ⟨.run,fn,.code (.exit id)::k,t,ds,kind,base⟩ up h) (.fr ⟨.run,fn,k',t',ds,kind,base⟩ up h):=by
 refine .one ?_;simp only[eO,gz,h1,h2];exact .refl _
theorem aB.call(n:Nat){f:FuncId}{args as:List AV}{r:AV}{up:List Fr}{h:List Ob}{o:Out}(h1:bK h args=some as)(h2:aN P Γ f as r)(h3:aB P Γ (AM.go P Γ 0 n (.back up (dc h.length r).1 (dx h args r))) o):aB P Γ (.cl f args up h) o:=
 .reach (.pure h1 h2) (.go n h3)
theorem aB.kP(n:Nat){f:FuncId}{args as:List AV}{v:AV}{up:List Fr}{h:List Ob}{o:Out}(h1:bK h args=some as)(h2:kH P Γ f as v)(h3:aB P Γ (AM.go P Γ 0 n (.die up v h)) o):aB P Γ (.cl f args up h) o:=
 .reach (.Fw h1 h2) (.go n h3)
theorem Hb.of{f:FuncId}{F:aM}{as:List AV}{o:Out}(n:Nat)(hF:aH P f=some F)(hb:aD P f=true)
 (h:aB P Γ (AM.go P Γ 0 n (.fr ⟨.run,f,[.code F.body],as++List.replicate (F.nt-as.length) .undef,[],.norm,0⟩ [] [])) o):Hb P Γ f as o:=by
 have h2:aB P Γ (.cl f as [] []) o:=.reach (zJ hF as (.refl _)) (.go n h)
 cases o with
 |ret r=>exact aN.wO hb fun _ _ _ _ m hm=>YZ h2 r rfl m hm
 |die v=>exact kH.wO hb (fun _ _ _ _ m hm=>Xz h2 v rfl m hm) (MA h2 v rfl).1 (MA h2 v rfl).2
theorem aN.run{f:FuncId}{F:aM}{as:List AV}{r:AV}(n:Nat)(hF:aH P f=some F)(hb:aD P f=true)
 (h:aB P Γ (AM.go P Γ 0 n (.fr ⟨.run,f,[.code F.body],as++List.replicate (F.nt-as.length) .undef,[],.norm,0⟩ [] [])) (.ret r)):aN P Γ f as r:=Hb.of (o:=.ret r) n hF hb h
theorem aB.drop{f:Fr}{up:List Fr}{h h':List Ob}{o:Out}(n:Nat)(hh:h.take n=h')(h1:f.base<=n)(h2:j3 n f=true)(h3:dS n h'=true)(h4:aB P Γ (.fr f up h') o):aB P Γ (.fr f up h) o:=by
 subst hh;exact .reach (.drop n h1 h2 h3) h4
theorem aB.reset{f:Fr}{up:List Fr}{h:List Ob}{o:Out}{i k:Nat}{E:TypeId}{es:List AV}{fl sh:Bool}(hi:h[i]? =some (.row k E es (some 0) fl sh))(h1:f.base<=i)(h2:n3 i es.length f=true)(h3:ew i es.length h=true)
 (h4:aB P Γ (.fr f up (h.set i (.row k E es none fl sh))) o):aB P Γ (.fr f up h) o:=.reach (.reset h1 hi h2 h3) h4
section
variable{fn:FuncId}{k:List It}{t:List AV}{ds:List di}{kind:FK}{base:Nat}{up:List Fr}{h:List Ob}{o:Out}
theorem aB.enter(n:Nat){g:FuncId}{F:aM}{args:List AV}(hF:aH P g=some F)(h1:aB P Γ (AM.go P Γ 0 n (.fr ⟨.run,g,[.code F.body],args++List.replicate (F.nt-args.length) .undef,[],.norm,h.length⟩ up h)) o):aB P Γ (.cl g args up h) o:=
 .reach (zJ hF args (.refl _)) (.go n h1)
theorem aB.inLoop{m:List Bool}{b:an}(h1:aB P Γ (.fr ⟨.run,fn,.code b::.inLoop m b::k,cW m t,ds,kind,base⟩ up h) o):aB P Γ (.fr ⟨.run,fn,.code (.loop m b)::k,t,ds,kind,base⟩ up h) o:=.reach (Mm (.refl _)) h1
theorem aB.aT{m:List Bool}{b:an}(h1:aB P Γ (.fr ⟨.run,fn,.code b::.inLoop m b::k,cW m t,ds,kind,base⟩ up h) o):aB P Γ (.fr ⟨.run,fn,.inLoop m b::k,t,ds,kind,base⟩ up h) o:=.reach (M3 (.refl _)) h1
end
end
end Go.AM
namespace Go.AM
section
variable{P:Program}{Γ:Nat->Option AV}
def fO(Cs:List (Nat×(List Ob->Prop)))(i:Nat)(h:List Ob):Prop:=∀C∈Cs,i<C.1->C.2 h
@[simp] theorem arG(i:Nat)(h:List Ob):fO [] i h↔True:=by simp[fO]
@[simp] theorem aqO(C:Nat×(List Ob->Prop))(Cs:List (Nat×(List Ob->Prop)))(i:Nat)(h:List Ob):fO (C::Cs) i h↔(i<C.1->C.2 h)/\fO Cs i h:=by simp[fO]
structure kT where
 k:List AV->List Ob->Prop
 X:fG->Prop
def bV(P:Program)(Γ:Nat->Option AV)(K:kT):List Bool->List Nat->Nat->List AG->List AV->List Ob->List (List Ob)->List (Nat×(List Ob->Prop))->Prop
 |_,_,_,[],t,h,_,_=>K.k t h
 |l,ws,i,o::os,t,h,hs,Cs=>
  match dn t o.guard with
  |some true=>
   match aA P Γ t h o.op with
   |.val v h'=>
    if cU o.op=2 then fO Cs (i+1) h'/\bV P Γ K l.tail ws.tail (i+1) os (aW t o.dst v) h' (h'::hs) Cs
    else if l.headD true=true/\cU o.op=1 then(∀g∈hs,aA P Γ t g o.op=.val v g)/\bV P Γ K l.tail ws.tail (i+1) os (aW t o.dst v) h' hs ((ws.headD 0,fun g=>aA P Γ t g o.op=.val v g)::Cs)
    else bV P Γ K l.tail ws.tail (i+1) os (aW t o.dst v) h' hs Cs
   |.skip h'=>fO Cs (i+1) h'/\bV P Γ K l.tail ws.tail (i+1) os (aW t o.dst (.aL [])) h' (h'::hs) Cs
   |.call f args=>aD P f=true/\
    if l.headD true=true then∃(v:AV)(C:List Ob->Prop),(∀g,C g->aA P Γ t g o.op=.call f args/\∀up,Reach P Γ (.cl f args up g) (.back up v g))/\(∀g∈hs,C g)/\bV P Γ K l.tail ws.tail (i+1) os (aW t o.dst v) h hs ((ws.headD 0,C)::Cs)
    else∃(v:AV)(h':List Ob),((∀up,Reach P Γ (.cl f args up h) (.back up v h'))\/K.X ⟨.fn f,args,h,v,h'⟩)/\fO Cs (i+1) h'/\bV P Γ K l.tail ws.tail (i+1) os (aW t o.dst v) h' (h'::hs) Cs
   |.yield y args=>l.headD true=false/\∃(v:AV)(h':List Ob),(∀up,Reach P Γ ((kj.yl y).cfg args up h) (.back up v h'))/\fO Cs (i+1) h'/\bV P Γ K l.tail ws.tail (i+1) os (aW t o.dst v) h' (h'::hs) Cs
   |_=>False
  |some false=>bV P Γ K l.tail ws.tail (i+1) os (aW t o.dst (.aL [])) h hs Cs
  |none=>False
theorem Ya{t:List AV}{h h':List Ob}{o:AO}{v:AV}(hv:aA P Γ t h o=.val v h')(hc:cU o≠2):h'=h:=(zu (v:=v) (h':=h') hc).1 hv
def qp(i:Nat)(hs0 hs HS:List (List Ob)):Prop:=∀k g,HS[k]? =some g->(k<=i->g∈hs0)/\(i<k->hs[k-i-1]? =some g)
theorem qp.next{i:Nat}{hs0 hs1 hs HS:List (List Ob)}{h':List Ob}(h1:qp i hs0 (h'::hs) HS)(h2:∀g∈hs0,g∈hs1)(h3:h'∈hs1):qp (i+1) hs1 hs HS:=by
 intro k g hk;obtain⟨a,b⟩:=h1 k g hk;refine⟨fun h=>?_,fun h=>?_⟩
 ·by_cases hki:k<=i
  ·exact h2 g (a hki)
  ·have:=b (by omega)
   have e:k-i-1=0:=by omega
   rw[e]at this;simp at this;subst this;exact h3
 ·have:=b (by omega)
  have e:k-i-1=(k-(i+1)-1)+1:=by omega
  rw[e]at this;simpa using this
theorem qp.all{i w:Nat}{hs0 hs HS:List (List Ob)}{C:List Ob->Prop}(h1:qp i hs0 hs HS)(h2:∀g∈hs0,C g)(h3:∀k g,hs[k]? =some g->i+1+k<w->C g):∀g∈HS.take w,C g:=by
 intro g hg;obtain⟨k,hk⟩:=uY.1 hg;rw[pC]at hk
 split at hk
 ·rename_i hkw;obtain⟨a,b⟩:=h1 k g hk
  by_cases hki:k<=i
  ·exact h2 g (a hki)
  ·exact h3 _ g (b (by omega)) (by omega)
 ·cases hk
theorem oz{K:kT}:∀{gs:List AG}{l:List Bool}{ws:List Nat}{i:Nat}{t:List AV}{h:List Ob}{hs:List (List Ob)}{Cs Cs':List (Nat×(List Ob->Prop))},(∀C∈Cs',C∈Cs)->bV P Γ K l ws i gs t h hs Cs->bV P Γ K l ws i gs t h hs Cs'
 |[],_,_,_,_,_,_,_,_,_,h1=>h1
 |o::os,l,ws,i,t,h,hs,Cs,Cs',hs',h1=>by
  unfold bV at h1⊢
  have hH:∀{j h},fO Cs j h->fO Cs' j h:=fun q C hC=>q C (hs' C hC)
  have hcons:∀{C:Nat×(List Ob->Prop)},∀D∈C::Cs',D∈C::Cs:=by
   intro C D hD
   rcases bw.1 hD with rfl|hD
   ·simp
   ·exact dm _ (hs' D hD)
  split at h1
  ·split at h1
   ·split
    ·rename_i h2;rw[if_pos h2]at h1;exact⟨hH h1.1,oz hs' h1.2⟩
    ·rename_i h2;rw[if_neg h2]at h1
     split
     ·rename_i h3;rw[if_pos h3]at h1;exact⟨h1.1,oz hcons h1.2⟩
     ·rename_i h3;rw[if_neg h3]at h1;exact oz hs' h1
   ·exact⟨hH h1.1,oz hs' h1.2⟩
   ·refine⟨h1.1,?_⟩;have h1:=h1.2
    split
    ·rename_i h2;rw[if_pos h2]at h1;obtain⟨v,C,a,b,c⟩:=h1;exact⟨v,C,a,b,oz hcons c⟩
    ·rename_i h2;rw[if_neg h2]at h1;obtain⟨v,h',a,b,c⟩:=h1;exact⟨v,h',a,hH b,oz hs' c⟩
   ·obtain⟨h0,v,h',a,b,c⟩:=h1;exact⟨h0,v,h',a,hH b,oz hs' c⟩
   ·exact h1
  ·exact oz hs' h1
  ·exact h1
theorem y0{K:kT}{gs:List AG}{l:List Bool}{ws:List Nat}{i j:Nat}{t:List AV}{h:List Ob}{hs:List (List Ob)}{Cs:List (Nat×(List Ob->Prop))}(h1:bV P Γ K l ws j gs t h hs Cs):bV P Γ K l ws j gs t h hs (Cs.filter fun C=>decide (i<C.1)):=
 oz (fun C hC=>(dh.1 hC).1) h1
theorem mB{K:kT}:∀{gs:List AG}{l:List Bool}{ws:List Nat}{i:Nat}{t:List AV}{h:List Ob}{hs0:List (List Ob)}{Cs0:List (Nat×(List Ob->Prop))},bV P Γ K l ws i gs t h hs0 Cs0->h∈hs0->(∀C∈Cs0,∀g∈hs0,C.2 g)->
 ∃(orc:List (AV×List Ob))(t':List AV)(h':List Ob)(obls:List fG)(hs:List (List Ob))(obls1:List fG),ga P Γ orc gs t h=some (t',h',obls,hs)/\K.k t' h'/\(∀C∈Cs0,∀k g,hs[k]? =some g->i+1+k<C.1->C.2 g)/\
  (∀o∈obls,o∈obls1)/\(∀o∈obls1,(∀up,Reach P Γ (o.f.cfg o.args up o.h) (.back up o.v o.h'))\/K.X o)/\
  ∀(HS:List (List Ob))(obls0:List fG),qp i hs0 hs HS->(∀o∈obls1,o∈obls0)->calm P Γ obls0 HS l ws orc gs t h
 |[],l,ws,i,t,h,hs0,Cs0,hD,_,_=>⟨[],t,h,[],[],[],rfl,hD,by simp,by simp,by simp,fun _ _ _ _=>trivial⟩
 |o::os,l,ws,i,t,h,hs0,Cs0,hD,hh,hC=>by
  unfold bV at hD;unfold ga calm
  have hnext:∀{h':List Ob}{hs:List (List Ob)},(∀C∈Cs0,i+1<C.1->C.2 h')->(∀C∈Cs0,∀k g,hs[k]? =some g->i+1+1+k<C.1->C.2 g)->∀C∈Cs0,∀k g,(h'::hs)[k]? =some g->i+1+k<C.1->C.2 g:=by
   intro h' hs q1 q2 C hCm k g hk hlt
   cases k with
   |zero=>simp at hk;subst hk;exact q1 C hCm (by omega)
   |succ k=>exact q2 C hCm k g (by simpa using hk) (by omega)
  cases hw:dn t o.guard with
  |none=>rw[hw]at hD;exact hD.elim
  |some b=>
   rw[hw]at hD
   cases b with
   |false=>
    simp only at hD⊢;obtain⟨orc,t',h2',obls,hs,obls1,e1,e2,e3,e4,e5,e6⟩:=mB hD hh hC;exact⟨orc,t',h2',obls,h::hs,obls1,by rw[e1];rfl,e2,hnext (fun C hCm _=>hC C hCm h hh) e3,e4,e5,fun HS obls0 q1 q2=>e6 HS obls0 (q1.next (fun _ x=>x) hh) q2⟩
   |true=>
    simp only at hD⊢
    cases ha:aA P Γ t h o.op with
    |val v h'=>
     rw[ha]at hD;simp only at hD⊢
     by_cases h2:cU o.op=2
     ·rw[if_pos h2]at hD;obtain⟨hn,hD⟩:=hD
      have qE:∀C∈Cs0.filter (fun C=>decide (i+1<C.1)),∀g∈h'::hs0,C.2 g:=by
       intro C hCm g hg;simp only[dh,a8]at hCm
       rcases bw.1 hg with rfl|hg
       ·exact hn C hCm.1 hCm.2
       ·exact hC C hCm.1 g hg
      have hD':=y0 (i:=i+1) hD;obtain⟨orc,t',h2',obls,hs,obls1,e1,e2,e3,e4,e5,e6⟩:=mB hD' (by simp) qE
      refine⟨orc,t',h2',obls,h'::hs,obls1,by rw[e1];rfl,e2,hnext hn (fun C hCm k g hk hlt=>e3 C (by simp only[dh,a8];exact⟨hCm,by omega⟩) k g hk hlt),e4,e5,
       fun HS obls0 q1 q2=>⟨fun _ h1=>(by rw[h2]at h1;cases h1),e6 HS obls0 (q1.next (fun _ x=>dm _ x) (by simp)) q2⟩⟩
     ·rw[if_neg h2]at hD;have hhe:=Ya ha h2
      by_cases h1:l.headD true=true/\cU o.op=1
      ·rw[if_pos h1]at hD;obtain⟨hn,hD⟩:=hD;subst hhe
       obtain⟨orc,t',h2',obls,hs,obls1,e1,e2,e3,e4,e5,e6⟩:=mB hD hh (fun C hCm g hg=>by
        rcases bw.1 hCm with rfl|hCm
        ·exact hn g hg
        ·exact hC C hCm g hg)
       refine⟨orc,t',h2',obls,h'::hs,obls1,by rw[e1];rfl,e2,hnext (fun C hCm _=>hC C hCm h' hh) (fun C hCm=>e3 C (dm _ hCm)),e4,e5,fun HS obls0 q1 q2=>⟨fun _ _ g hg=>?_,e6 HS obls0 (q1.next (fun _ x=>x) hh) q2⟩⟩;have q1':=q1.next (hs1:=hs0) (fun _ x=>x) hh;exact q1'.all (C:=fun g=>aA P Γ t g o.op=.val v g) hn (fun k g hk hlt=>e3 _ oh k g hk hlt) g hg
      ·rw[if_neg h1]at hD;subst hhe;obtain⟨orc,t',h2',obls,hs,obls1,e1,e2,e3,e4,e5,e6⟩:=mB hD hh hC;exact⟨orc,t',h2',obls,h'::hs,obls1,by rw[e1];rfl,e2,hnext (fun C hCm _=>hC C hCm h' hh) e3,e4,e5,fun HS obls0 q1 q2=>⟨fun q3 q4=>absurd ⟨q3,q4⟩ h1,e6 HS obls0 (q1.next (fun _ x=>x) hh) q2⟩⟩
    |skip h'=>
     rw[ha]at hD;simp only at hD⊢;obtain⟨hn,hD⟩:=hD
     have qE:∀C∈Cs0.filter (fun C=>decide (i+1<C.1)),∀g∈h'::hs0,C.2 g:=by
      intro C hCm g hg;simp only[dh,a8]at hCm
      rcases bw.1 hg with rfl|hg
      ·exact hn C hCm.1 hCm.2
      ·exact hC C hCm.1 g hg
     have hD':=y0 (i:=i+1) hD;obtain⟨orc,t',h2',obls,hs,obls1,e1,e2,e3,e4,e5,e6⟩:=mB hD' (by simp) qE
     exact⟨orc,t',h2',obls,h'::hs,obls1,by rw[e1];rfl,e2,hnext hn (fun C hCm k g hk hlt=>e3 C (by simp only[dh,a8];exact⟨hCm,by omega⟩) k g hk hlt),e4,e5,
      fun HS obls0 q1 q2=>e6 HS obls0 (q1.next (fun _ x=>dm _ x) (by simp)) q2⟩
    |call f args=>
     rw[ha]at hD;simp only at hD⊢;obtain⟨hb,hD⟩:=hD
     have hb':¬aD P f=false:=by simp[hb]
     by_cases hl:l.headD true=true
     ·rw[if_pos hl]at hD;obtain⟨v,C,hC1,hC2,hD⟩:=hD
      obtain⟨orc,t',h2',obls,hs,obls1,e1,e2,e3,e4,e5,e6⟩:=mB hD hh (fun C' hCm g hg=>by
       rcases bw.1 hCm with rfl|hCm
       ·exact hC2 g hg
       ·exact hC C' hCm g hg)
      have hall:∀{HS:List (List Ob)},qp i hs0 (h::hs) HS->∀g∈HS.take (ws.headD 0),C g:=fun q1=>(q1.next (hs1:=hs0) (fun _ x=>x) hh).all hC2 (fun k g hk hlt=>e3 _ oh k g hk hlt)
      have hHS:qp i hs0 (h::hs) (List.replicate (i+1) h++h::hs):=by
       intro k g hk;refine⟨fun hki=>?_,fun hki=>?_⟩
       ·rw[dk (by simp;omega),HR,if_pos (by omega)]at hk
        cases hk
        exact hh
       ·rw[e_ (by simp;omega)]at hk;rw[ku]at hk;rw[show k-i-1=k-(i+1) by omega];exact hk
      have hgs:∀g,g∈hs0\/(∃k,hs[k]? =some g/\i+1+1+k<ws.headD 0)->C g:=by
       rintro g (hg|⟨k,hk,hlt⟩)
       ·exact hC2 g hg
       ·exact e3 _ oh k g hk hlt
      refine⟨(v,h)::orc,t',h2',⟨.fn f,args,h,v,h⟩::obls,h::hs,((hs0++(hs.take (ws.headD 0-(i+2)))).map fun g=>⟨.fn f,args,g,v,g⟩)++obls1,by rw[if_neg hb'];simp only[e1,eb],e2,hnext (fun C' hCm _=>hC C' hCm h hh) (fun C' hCm=>e3 C' (dm _ hCm)),
       fun ob hob=>?_,fun ob hob=>?_,fun HS obls0 q1 q2=>⟨fun _=>⟨rfl,fun g hg=>?_⟩,e6 HS obls0 (q1.next (fun _ x=>x) hh) (fun ob hob=>q2 ob (sD _ hob))⟩⟩
      ·rcases bw.1 hob with rfl|hob
       ·exact jJ _ (db.2 ⟨h,jJ _ hh,rfl⟩)
       ·exact sD _ (e4 ob hob)
      ·rcases ba.1 hob with hob|hob
       ·obtain⟨g,hg,rfl⟩:=db.1 hob;refine .inl (hC1 g (hgs g ?_)).2
        rcases ba.1 hg with hg|hg
        ·exact Or.inl hg
        ·obtain⟨k,hk⟩:=uY.1 hg;rw[pC]at hk
         split at hk
         ·exact Or.inr ⟨k,hk,by omega⟩
         ·cases hk
       ·exact e5 ob hob
      ·refine⟨(hC1 g (hall q1 g hg)).1,q2 _ (jJ _ (db.2 ⟨g,?_,rfl⟩))⟩;obtain⟨k,hk⟩:=uY.1 hg;rw[pC]at hk
       split at hk
       ·rename_i hkw;obtain⟨x1,x2⟩:=q1 k g hk
        by_cases hki:k<=i
        ·exact jJ _ (x1 hki)
        ·have x3:=x2 (by omega)
         by_cases hk1:k=i+1
         ·subst hk1;simp at x3;subst x3;exact jJ _ hh
         ·rw[show k-i-1=(k-(i+2))+1 by omega]at x3;simp only[ni]at x3;refine sD _ (fQ (i:=k-(i+2)) ?_);rw[pC,if_pos (by omega)];exact x3
       ·cases hk
     ·rw[if_neg hl]at hD;obtain⟨v,h',hR,hn,hD⟩:=hD
      have qE:∀C∈Cs0.filter (fun C=>decide (i+1<C.1)),∀g∈h'::hs0,C.2 g:=by
       intro C hCm g hg;simp only[dh,a8]at hCm
       rcases bw.1 hg with rfl|hg
       ·exact hn C hCm.1 hCm.2
       ·exact hC C hCm.1 g hg
      have hD':=y0 (i:=i+1) hD;obtain⟨orc,t',h2',obls,hs,obls1,e1,e2,e3,e4,e5,e6⟩:=mB hD' (by simp) qE
      refine⟨(v,h')::orc,t',h2',⟨.fn f,args,h,v,h'⟩::obls,h'::hs,⟨.fn f,args,h,v,h'⟩::obls1,by rw[if_neg hb'];simp only[e1,eb],e2,hnext hn (fun C hCm k g hk hlt=>e3 C (by simp only[dh,a8];exact⟨hCm,by omega⟩) k g hk hlt),
       fun ob hob=>?_,fun ob hob=>?_,fun HS obls0 q1 q2=>⟨fun q3=>absurd q3 hl,e6 HS obls0 (q1.next (fun _ x=>dm _ x) (by simp)) (fun ob hob=>q2 ob (dm _ hob))⟩⟩
      ·rcases bw.1 hob with rfl|hob
       ·simp
       ·exact dm _ (e4 ob hob)
      ·rcases bw.1 hob with rfl|hob
       ·exact hR
       ·exact e5 ob hob
    |yield y args=>
     rw[ha]at hD;simp only at hD⊢;obtain⟨hl,v,h',hR,hn,hD⟩:=hD
     have qE:∀C∈Cs0.filter (fun C=>decide (i+1<C.1)),∀g∈h'::hs0,C.2 g:=by
      intro C hCm g hg;simp only[dh,a8]at hCm
      rcases bw.1 hg with rfl|hg
      ·exact hn C hCm.1 hCm.2
      ·exact hC C hCm.1 g hg
     have hD':=y0 (i:=i+1) hD;obtain⟨orc,t',h2',obls,hs,obls1,e1,e2,e3,e4,e5,e6⟩:=mB hD' (by simp) qE
     refine⟨(v,h')::orc,t',h2',⟨.yl y,args,h,v,h'⟩::obls,h'::hs,⟨.yl y,args,h,v,h'⟩::obls1,by simp only[e1,eb],e2,hnext hn (fun C hCm k g hk hlt=>e3 C (by simp only[dh,a8];exact⟨hCm,by omega⟩) k g hk hlt),
      fun ob hob=>?_,fun ob hob=>?_,fun HS obls0 q1 q2=>⟨hl,e6 HS obls0 (q1.next (fun _ x=>dm _ x) (by simp)) (fun ob hob=>q2 ob (dm _ hob))⟩⟩
     ·rcases bw.1 hob with rfl|hob
      ·simp
      ·exact dm _ (e4 ob hob)
     ·rcases bw.1 hob with rfl|hob
      ·exact .inl hR
      ·exact e5 ob hob
    |_=>rw[ha]at hD;exact hD.elim
structure gh where
 fn:FuncId
 k:List It
 e:Cx
 n:Nat
 st:Nat
def gh.N5(P:Program)(Γ:Nat->Option AV)(b:gh)(o:Out):kT:=⟨fun t h=>aB P Γ (AM.go P Γ 0 b.n (.fr ⟨.run,b.fn,b.k,t,b.e.ds,b.e.kind,b.e.base⟩ b.e.up h)) o,fun _=>False⟩
def gh.reach(P:Program)(Γ:Nat->Option AV)(b:gh)(c:aw):kT:=⟨fun t h=>Reach P Γ (AM.go P Γ b.st b.n (.fr ⟨.run,b.fn,b.k,t,b.e.ds,b.e.kind,b.e.base⟩ b.e.up h)) c,fun _=>False⟩
def Au(h:List Ob):Prop:=∃(i:Nat)(E:TypeId)(es:List AV)(gr:Option Nat)(fl sh:Bool),h[i]? =some (.row 0 E es gr fl sh)
abbrev AY:Ob:=.row 0 0 [] none false false
theorem Au.of{h:List Ob}(h1:AY∈h):Au h:=by
 obtain⟨i,hi⟩:=uY.1 h1;exact⟨i,_,_,_,_,_,hi⟩
def gh.die(P:Program)(Γ:Nat->Option AV)(b:gh)(gs:List AG)(t0:List AV)(D:aw):kT:=⟨fun _ h=>Au h,fun o=>∀its t,ue gs t0 t->Reach P Γ (o.f.cfg o.args (⟨.run,b.fn,its,t,b.e.ds,b.e.kind,b.e.base⟩::b.e.up) o.h) D⟩
variable{fn:FuncId}{k:List It}{t:List AV}{ds:List di}{kind:FK}{base:Nat}{up:List Fr}{h:List Ob}
theorem Reach.dr{l:List Bool}{ws:List Nat}{gs:List AG}{c:aw}(h1:bV P Γ ⟨fun t' h'=>Reach P Γ (.fr ⟨.run,fn,k,t',ds,kind,base⟩ up h') c,fun _=>False⟩ l ws 0 gs t h [h] []):
 Reach P Γ (.fr ⟨.run,fn,.code (.aR l ws gs)::k,t,ds,kind,base⟩ up h) c:=by
 obtain⟨orc,t',h',obls,hs,obls1,e1,e2,_,e4,e5,e6⟩:=mB h1 (by simp) (by simp)
 exact .trans (.aR (f:=⟨.run,fn,.code (.aR l ws gs)::k,t,ds,kind,base⟩) rfl rfl e1 e4 (fun o ho up=>(e5 o ho).elim (fun h=>h up) False.elim) (e6 (h::hs) obls1 (by
  intro k g hk;refine⟨fun hk0=>?_,fun hk0=>?_⟩
  ·have:k=0:=by omega
   subst this;simp at hk;simp[hk]
  ·cases k with
   |zero=>omega
   |succ k=>simpa using hk) (fun _ ho=>ho))) e2
theorem nw{K K':kT}(hX:∀o,K.X o->K'.X o)(hK:∀t h,K.k t h->K'.k t h):∀{gs:List AG}{l:List Bool}{ws:List Nat}{i:Nat}{t:List AV}{h:List Ob}{hs:List (List Ob)}{Cs:List (Nat×(List Ob->Prop))},bV P Γ K l ws i gs t h hs Cs->bV P Γ K' l ws i gs t h hs Cs
 |[],_,_,_,_,_,_,_,h1=>hK _ _ h1
 |o::os,l,ws,i,t,h,hs,Cs,h1=>by
  unfold bV at h1⊢
  split at h1
  ·split at h1
   ·split
    ·rename_i h2;rw[if_pos h2]at h1;exact⟨h1.1,nw hX hK h1.2⟩
    ·rename_i h2;rw[if_neg h2]at h1
     split
     ·rename_i h3;rw[if_pos h3]at h1;exact⟨h1.1,nw hX hK h1.2⟩
     ·rename_i h3;rw[if_neg h3]at h1;exact nw hX hK h1
   ·exact⟨h1.1,nw hX hK h1.2⟩
   ·refine⟨h1.1,?_⟩;have h1:=h1.2
    split
    ·rename_i h2;rw[if_pos h2]at h1;obtain⟨v,C,a,b,c⟩:=h1;exact⟨v,C,a,b,nw hX hK c⟩
    ·rename_i h2;rw[if_neg h2]at h1;obtain⟨v,h',a,b,c⟩:=h1;exact⟨v,h',a.imp_right (hX _),b,nw hX hK c⟩
   ·obtain⟨h0,v,h',a,b,c⟩:=h1;exact⟨h0,v,h',a,b,nw hX hK c⟩
   ·exact h1
  ·exact nw hX hK h1
  ·exact h1
theorem aB.dr(n:Nat){l:List Bool}{ws:List Nat}{gs:List AG}{o:Out}(h1:bV P Γ (gh.N5 P Γ ⟨fn,k,⟨ds,kind,base,up⟩,n,0⟩ o) l ws 0 gs t h [h] []):
 aB P Γ (.fr ⟨.run,fn,.code (.aR l ws gs)::k,t,ds,kind,base⟩ up h) o:=by
 cases o with
 |ret r=>
  obtain⟨orc,t',h',obls,hs,obls1,e1,e2,_,e4,e5,e6⟩:=mB h1 (by simp) (by simp)
  refine .reach (.aR (f:=⟨.run,fn,.code (.aR l ws gs)::k,t,ds,kind,base⟩) rfl rfl e1 e4 (fun o ho up=>(e5 o ho).elim (fun h=>h up) False.elim) (e6 (h::hs) obls1 (by
  intro k g hk;refine⟨fun hk0=>?_,fun hk0=>?_⟩
  ·have:k=0:=by omega
   subst this;simp at hk;simp[hk]
  ·cases k with
   |zero=>omega
   |succ k=>simpa using hk) (fun _ ho=>ho))) (.go n e2)
 |die v=>
  obtain⟨orc,t',h',obls,hs,obls1,e1,e2,_,e4,e5,e6⟩:=mB h1 (by simp) (by simp)
  refine .reach (.aR (f:=⟨.run,fn,.code (.aR l ws gs)::k,t,ds,kind,base⟩) rfl rfl e1 e4 (fun o ho up=>(e5 o ho).elim (fun h=>h up) False.elim) (e6 (h::hs) obls1 (by
  intro k g hk;refine⟨fun hk0=>?_,fun hk0=>?_⟩
  ·have:k=0:=by omega
   subst this;simp at hk;simp[hk]
  ·cases k with
   |zero=>omega
   |succ k=>simpa using hk) (fun _ ho=>ho))) (.go n e2)
theorem Reach.pw(n:Nat){l:List Bool}{ws:List Nat}{gs:List AG}{c:aw}(h1:bV P Γ (gh.reach P Γ ⟨fn,k,⟨ds,kind,base,up⟩,n,1⟩ c) l ws 0 gs t h [h] []):
 Reach P Γ (.fr ⟨.run,fn,.code (.aR l ws gs)::k,t,ds,kind,base⟩ up h) c:=.dr (nw (K:=gh.reach P Γ ⟨fn,k,⟨ds,kind,base,up⟩,n,1⟩ c) (K':=⟨fun t' h'=>Reach P Γ (.fr ⟨.run,fn,k,t',ds,kind,base⟩ up h') c,fun _=>False⟩) (fun _ x=>x) (fun _ _ hr=>Reach.gk n hr) h1)
theorem Reach.eW(n:Nat){l:List Bool}{ws:List Nat}{gs:List AG}{c:aw}(h1:bV P Γ (gh.reach P Γ ⟨fn,k,⟨ds,kind,base,up⟩,n,2⟩ c) l ws 0 gs t h [h] []):
 Reach P Γ (.fr ⟨.run,fn,.code (.aR l ws gs)::k,t,ds,kind,base⟩ up h) c:=.dr (nw (K:=gh.reach P Γ ⟨fn,k,⟨ds,kind,base,up⟩,n,2⟩ c) (K':=⟨fun t' h'=>Reach P Γ (.fr ⟨.run,fn,k,t',ds,kind,base⟩ up h') c,fun _=>False⟩) (fun _ x=>x) (fun _ _ hr=>Reach.du n hr) h1)
variable{K:kT}{l:List Bool}{ws:List Nat}{i w:Nat}{b:Bool}{d:Option Nat}{a:AO}{os:List AG}{hs:List (List Ob)}{Cs:List (Nat×(List Ob->Prop))}{h':List Ob}{v:AV}{f:FuncId}{args:List AV}
def qD(P:Program)(Γ:Nat->Option AV)(K:kT)(b:Bool)(l:List Bool)(w:Nat)(ws:List Nat)(i:Nat)(d:Option Nat)(a:AO)(os:List AG)(t:List AV)(h:List Ob)(hs:List (List Ob))(Cs:List (Nat×(List Ob->Prop))):R->Prop
 |.val v h'=>
  if cU a=2 then fO Cs (i+1) h'/\bV P Γ K l ws (i+1) os (aW t d v) h' (h'::hs) Cs
  else if b=true/\cU a=1 then(∀g∈hs,aA P Γ t g a=.val v g)/\bV P Γ K l ws (i+1) os (aW t d v) h' hs ((w,fun g=>aA P Γ t g a=.val v g)::Cs)
  else bV P Γ K l ws (i+1) os (aW t d v) h' hs Cs
 |.skip h'=>fO Cs (i+1) h'/\bV P Γ K l ws (i+1) os (aW t d (.aL [])) h' (h'::hs) Cs
 |.call f args=>aD P f=true/\
  if b=true then∃(v:AV)(C:List Ob->Prop),(∀g,C g->aA P Γ t g a=.call f args/\∀up,Reach P Γ (.cl f args up g) (.back up v g))/\(∀g∈hs,C g)/\bV P Γ K l ws (i+1) os (aW t d v) h hs ((w,C)::Cs)
  else∃(v:AV)(h':List Ob),((∀up,Reach P Γ (.cl f args up h) (.back up v h'))\/K.X ⟨.fn f,args,h,v,h'⟩)/\fO Cs (i+1) h'/\bV P Γ K l ws (i+1) os (aW t d v) h' (h'::hs) Cs
 |.yield y args=>b=false/\∃(v:AV)(h':List Ob),(∀up,Reach P Γ ((kj.yl y).cfg args up h) (.back up v h'))/\fO Cs (i+1) h'/\bV P Γ K l ws (i+1) os (aW t d v) h' (h'::hs) Cs
 |_=>False
structure F7(P:Program)(Γ:Nat->Option AV)(K:kT)(b:Bool)(l:List Bool)(w:Nat)(ws:List Nat)(i:Nat)(d:Option Nat)(a:AO)(os:List AG)(t:List AV)(h:List Ob)(hs:List (List Ob))(Cs:List (Nat×(List Ob->Prop)))(y:Nat)(args:List AV):Prop where
 is:qD P Γ K b l w ws i d a os t h hs Cs (.yield y args)
structure gm(P:Program)(Γ:Nat->Option AV)(K:kT)(b:Bool)(l:List Bool)(w:Nat)(ws:List Nat)(i:Nat)(d:Option Nat)(a:AO)(os:List AG)(t:List AV)(h:List Ob)(hs:List (List Ob))(Cs:List (Nat×(List Ob->Prop)))(f:FuncId)(args:List AV):Prop where
 is:qD P Γ K b l w ws i d a os t h hs Cs (.call f args)
@[simp] theorem aqM{bh:gh}{o:Out}:bV P Γ (gh.N5 P Γ bh o) l ws i [] t h hs Cs↔aB P Γ (AM.go P Γ 0 bh.n (.fr ⟨.run,bh.fn,bh.k,t,bh.e.ds,bh.e.kind,bh.e.base⟩ bh.e.up h)) o:=mo
@[simp] theorem aqd{bh:gh}{c:aw}:bV P Γ (gh.reach P Γ bh c) l ws i [] t h hs Cs↔Reach P Γ (AM.go P Γ bh.st bh.n (.fr ⟨.run,bh.fn,bh.k,t,bh.e.ds,bh.e.kind,bh.e.base⟩ bh.e.up h)) c:=mo
@[simp] theorem ara{bh:gh}{gs0:List AG}{t0:List AV}{D:aw}:bV P Γ (gh.die P Γ bh gs0 t0 D) l ws i [] t h hs Cs↔Au h:=mo
@[simp] theorem arX:bV P Γ K (b::l) (w::ws) i (⟨d,none,a⟩::os) t h hs Cs↔qD P Γ K b l w ws i d a os t h hs Cs (aA P Γ t h a):=by
 rw[bV];simp only[Un]
 cases aA P Γ t h a<;>exact mo
@[simp] theorem aq5{j:Nat}{u:Bool}:bV P Γ K (b::l) (w::ws) i (⟨d,some (j,u),a⟩::os) t h hs Cs↔(match dn t (some (j,u))with
  |some true=>qD P Γ K b l w ws i d a os t h hs Cs (aA P Γ t h a)
  |some false=>bV P Γ K l ws (i+1) os (aW t d (.aL [])) h hs Cs
  |none=>False):=by
 rw[bV]
 cases dn t (some (j,u))with
 |none=>exact mo
 |some x=>
  cases x with
  |false=>exact mo
  |true=>cases aA P Γ t h a<;>exact mo
@[simp] theorem ar8:qD P Γ K b l w ws i d a os t h hs Cs (.val v h')↔if cU a=2 then fO Cs (i+1) h'/\bV P Γ K l ws (i+1) os (aW t d v) h' (h'::hs) Cs
  else if b=true/\cU a=1 then(∀g∈hs,aA P Γ t g a=.val v g)/\bV P Γ K l ws (i+1) os (aW t d v) h' hs ((w,fun g=>aA P Γ t g a=.val v g)::Cs)
  else bV P Γ K l ws (i+1) os (aW t d v) h' hs Cs:=mo
@[simp] theorem arp:qD P Γ K b l w ws i d a os t h hs Cs (.skip h')↔fO Cs (i+1) h'/\bV P Γ K l ws (i+1) os (aW t d (.aL [])) h' (h'::hs) Cs:=mo
@[simp] theorem arq:qD P Γ K b l w ws i d a os t h hs Cs (.call f args)↔gm P Γ K b l w ws i d a os t h hs Cs f args:=⟨fun h1=>⟨h1⟩,fun h1=>h1.is⟩
@[simp] theorem aq3{y:Nat}:qD P Γ K b l w ws i d a os t h hs Cs (.yield y args)↔F7 P Γ K b l w ws i d a os t h hs Cs y args:=⟨fun h1=>⟨h1⟩,fun h1=>h1.is⟩
theorem F7.go{y:Nat}(v:AV)(h':List Ob)(h1:∀up,Reach P Γ ((kj.yl y).cfg args up h) (.back up v h'))
 (h3:fO Cs (i+1) h'/\bV P Γ K l ws (i+1) os (aW t d v) h' (h'::hs) Cs):F7 P Γ K false l w ws i d a os t h hs Cs y args:=⟨⟨rfl,v,h',h1,h3.1,h3.2⟩⟩
theorem back_eq{f:FuncId}{args as:List AV}{r:AV}{h:List Ob}(h1:bK h args=some as)(h2:aN P Γ f as r):∀up,Reach P Γ (.cl f args up h) (.back up (dc h.length r).1 (dx h args r)):=fun _=>.pure h1 h2
theorem gm.call{as:List AV}{r:AV}(h1:bK h args=some as)(h2:aN P Γ f as r)
 (h3:fO Cs (i+1) (dx h args r)/\bV P Γ K l ws (i+1) os (aW t d (dc h.length r).1) (dx h args r) (dx h args r::hs) Cs):gm P Γ K false l w ws i d a os t h hs Cs f args:=
 ⟨h2.1,by rw[if_neg (by simp)];exact⟨_,_,.inl (back_eq h1 h2),h3.1,h3.2⟩⟩
theorem gm.quiet{as:List AV}{r:AV}(h2:aN P Γ f as r)(hr:∀n,dc n r=(r,[]))
 (h1:∀g∈hs,aA P Γ t g a=.call f args/\bK g args=some as/\dx g args r=g)
 (h3:bV P Γ K l ws (i+1) os (aW t d r) h hs ((w,fun g=>aA P Γ t g a=.call f args/\bK g args=some as/\dx g args r=g)::Cs)):gm P Γ K true l w ws i d a os t h hs Cs f args:=
 ⟨h2.1,by
  rw[if_pos rfl];refine⟨r,_,fun g hg=>⟨hg.1,fun up=>?_⟩,h1,h3⟩;have h4:=back_eq hg.2.1 h2 up;rw[hr,hg.2.2]at h4
  exact h4⟩
theorem gm.reach{v:AV}{h':List Ob}(hb:aD P f=true)(h1:∀up,Reach P Γ (.cl f args up h) (.back up v h'))
 (h3:fO Cs (i+1) h'/\bV P Γ K l ws (i+1) os (aW t d v) h' (h'::hs) Cs):gm P Γ K false l w ws i d a os t h hs Cs f args:=
 ⟨hb,by rw[if_neg (by simp)];exact⟨_,_,.inl h1,h3.1,h3.2⟩⟩
theorem gm.die(v:AV){bh:gh}{gs0:List AG}{t0:List AV}{D:aw}(hb:aD P f=true)(h1:∀its t',ue gs0 t0 t'->Reach P Γ (.cl f args (⟨.run,bh.fn,its,t',bh.e.ds,bh.e.kind,bh.e.base⟩::bh.e.up) h) D)
 (h3:fO Cs (i+1) (h++[AY])/\bV P Γ (gh.die P Γ bh gs0 t0 D) l ws (i+1) os (aW t d v) (h++[AY]) ((h++[AY])::hs) Cs):gm P Γ (gh.die P Γ bh gs0 t0 D) false l w ws i d a os t h hs Cs f args:=
 ⟨hb,by rw[if_neg (by simp)];exact⟨v,_,.inr h1,h3.1,h3.2⟩⟩
theorem aB.dE(n:Nat){v:AV}{h':List Ob}{o:Out}(h1:∀up,Reach P Γ (.cl f args up h) (.back up v h'))(h2:aB P Γ (AM.go P Γ 0 n (.back up v h')) o):aB P Γ (.cl f args up h) o:=.reach (h1 up) (.go n h2)
theorem Reach.dE(n:Nat){v:AV}{h':List Ob}{c:aw}(h1:∀up,Reach P Γ (.cl f args up h) (.back up v h'))(h2:Reach P Γ (AM.go P Γ 2 n (AM.pop (.back up v h'))) c):Reach P Γ (.cl f args up h) c:=.trans (h1 up) (.trans (.pop _) (.du n h2))
theorem Reach.nI(n:Nat){as:List AV}{r:AV}{c:aw}(h1:bK h args=some as)(h2:aN P Γ f as r)(h3:Reach P Γ (AM.go P Γ 2 n (AM.pop (.back up (dc h.length r).1 (dx h args r)))) c):Reach P Γ (.cl f args up h) c:=.dE n (back_eq h1 h2) h3
theorem Reach.dq(n:Nat){F:aM}{c:aw}(hF:aH P f=some F)(h1:Reach P Γ (AM.go P Γ 2 n (.fr ⟨.run,f,[.code F.body],args++List.replicate (F.nt-args.length) .undef,[],.norm,h.length⟩ up h)) c):Reach P Γ (.cl f args up h) c:=zJ hF args (.du n h1)
theorem Reach.inLoop{m:List Bool}{bc:an}{c:aw}(h1:Reach P Γ (.fr ⟨.run,fn,.code bc::.inLoop m bc::k,cW m t,ds,kind,base⟩ up h) c):Reach P Γ (.fr ⟨.run,fn,.code (.loop m bc)::k,t,ds,kind,base⟩ up h) c:=.trans (Mm (.refl _)) h1
theorem Reach.aT{m:List Bool}{bc:an}{c:aw}(h1:Reach P Γ (.fr ⟨.run,fn,.code bc::.inLoop m bc::k,cW m t,ds,kind,base⟩ up h) c):Reach P Γ (.fr ⟨.run,fn,.inLoop m bc::k,t,ds,kind,base⟩ up h) c:=.trans (M3 (.refl _)) h1
theorem Reach.abp{f:Fr}{h':List Ob}{c:aw}(n:Nat)(hh:h.take n=h')(h1:f.base<=n)(h2:j3 n f=true)(h3:dS n h'=true)(h4:Reach P Γ (.fr f up h') c):Reach P Γ (.fr f up h) c:=by
 subst hh;exact .trans (.drop n h1 h2 h3) h4
theorem Reach.Ad{f:Fr}{i k:Nat}{E:TypeId}{es:List AV}{fl sh:Bool}{c:aw}(hi:h[i]? =some (.row k E es (some 0) fl sh))(h1:f.base<=i)(h2:n3 i es.length f=true)(h3:ew i es.length h=true)
 (h4:Reach P Γ (.fr f up (h.set i (.row k E es none fl sh))) c):Reach P Γ (.fr f up h) c:=.trans (.reset h1 hi h2 h3) h4
def uJ:List Nat->List AV->List Ob->List AV×List Ob
 |[],t,h=>(t,h)
 |i::is,t,h=>uJ is (t.set i (ma h (t.getD i .undef))) (share (rowsOf (t.getD i .undef)) h)
theorem Reach.trees:∀(is:List Nat){f:Fr}{up:List Fr}{h:List Ob}{c:aw},Reach P Γ (.fr {f with t:=(uJ is f.t h).1} up (uJ is f.t h).2) c->Reach P Γ (.fr f up h) c
 |[],_,_,_,_,h1=>h1
 |i::is,f,up,h,c,h1=>.trans (.tree i) (Reach.trees is (f:={f with t:=f.t.set i (ma h (f.t.getD i .undef))}) h1)
theorem aB.trees(is:List Nat){f:Fr}{o:Out}(h1:aB P Γ (.fr {f with t:=(uJ is f.t h).1} up (uJ is f.t h).2) o):aB P Γ (.fr f up h) o:=.reach (Reach.trees is (.refl _)) h1
attribute [simp] uJ ma rowsOf
end
@[simp] theorem apC(h:List Ob)(a b:List AV):bK h (a++b)=(match bK h a,bK h b with
  |some a',some b'=>some (a'++b')
  |_,_=>none):=by
 induction a with
 |nil=>simp only[lg,bK];cases bK h b<;>rfl
 |cons x a ih=>
  simp only[ek,bK,ih]
  cases view h x<;>cases bK h a<;>cases bK h b<;>rfl
@[simp] theorem aqR{α:Type}(h:List Ob)(f:α->AV)(l:List α)(hf:∀x,view h (f x)=some (f x)):bK h (l.map f)=some (l.map f):=by
 induction l with
 |nil=>rfl
 |cons x l ih=>simp only[cv,bK,hf,ih]
@[simp] theorem ao0(a b:List AV):bF (a++b)=bF a++bF b:=by
 induction a with
 |nil=>rfl
 |cons x a ih=>simp only[ek,bF,ih,c8]
@[simp] theorem apN{α:Type}(f:α->AV)(l:List α)(hf:∀x,rowsOf (f x)=[]):bF (l.map f)=[]:=by
 induction l with
 |nil=>rfl
 |cons x l ih=>simp only[cv,bF,hf,ih,eL]
def mU(P:Program)(Γ:Nat->Option AV)(φ:List Ob->Prop)(f:FuncId)(caps:List AV){α:Type}(e:α->AV)(p:α->Bool)(l:List α):Prop:=
 aD P f=true/\∀x∈l,∀up h,φ h->Reach P Γ (.cl f (e x::caps) up h) (.back up (.bool (p x)) h)
def aZ{α:Type}(p:α->Bool)(l:List α):Bool:=l.any p
@[simp] theorem zU{α:Type}(p:α->Bool):aZ p []=false:=rfl
theorem jM{α:Type}(p:α->Bool)(x:α)(l:List α):aZ p (x::l)=(p x||aZ p l):=rfl
theorem Dl{α:Type}{l:List α}{i:Nat}(h:i<l.length)(p:α->Bool):aZ p (l.drop i)=(p l[i]||aZ p (l.drop (i+1))):=by
 rw[br h];rfl
theorem DT{α:Type}{l:List α}{i:Nat}(h:l.length<=i)(p:α->Bool):aZ p (l.drop i)=false:=by
 rw[bq h];rfl
theorem ji{α:Type}{p:α->Bool}{l:List α}:aZ p l=false↔∀x∈l,p x=false:=by simp[aZ]
theorem zC{α:Type}{p:α->Bool}{l:List α}:aZ p l=true↔∃x∈l,p x=true:=by simp[aZ]
def gF{α:Type}(p:α->Bool):List α->Nat->Int
 |[],_=>-1
 |x::xs,i=>if p x=true then i else gF p xs (i+1)
theorem An{α:Type}(p:α->Bool):∀(l:List α)(i:Nat),(0<=gF p l i)↔aZ p l=true
 |[],i=>by simp[gF]
 |x::xs,i=>by
  rw[gF]
  by_cases h:p x=true
  ·simp[h,jM]
  ·simp[h,jM,An p xs (i+1)]
@[simp] theorem ar1(n:Nat):((n:Int)<0)=False:=gq (by omega)
@[simp] theorem arY(n:Nat):(0<=(n:Int))=True:=bl (by omega)
@[simp] theorem apF(c:AV)(k:IntKind)(n:Int):jR [c] (.int k n)=c:=rfl
@[simp] theorem apr(c:AV)(b:Bool):jR [c] (.bool b)=c:=rfl
@[simp] theorem apH(c:AV)(s:List UInt8):jR [c] (.str s)=c:=rfl
@[simp] theorem apA(c:AV)(f:Bool)(k:Nat)(es:List AV):jR [c] (.list f k es)=c:=rfl
@[simp] theorem aqf(c:AV)(i o n:Nat):jR [c] (.sl i o n)=c:=rfl
@[simp] theorem apO(cs ds:List AV):jR cs (.agg ds)=.agg cs:=by cases cs<;>rfl
theorem wB{a:Nat}(h:(a:Int)<2^62):IntKind.i64.wrap (a:Int)=a:=wrap64 (by omega) (by omega)
@[simp high] theorem asr(a:Nat):gf .shr .i64 (a:Int) 1=some ((a/2:Nat):Int):=by
 simp[gf,IntKind.bits];rw[Int.fdiv_eq_ediv_of_nonneg _ (by omega)]
@[simp high] theorem lV(a:Nat):gf .and .i64 (a:Int) 1=some ((a%2:Nat):Int):=by
 have h1:(BitVec.ofInt 64 (a:Int)&&&BitVec.ofInt 64 1).toNat=a%2:=by
  have e1:BitVec.ofInt 64 (1:Int)=1#64:=by decide
  rw[e1,BitVec.toNat_and,HT]
  have e2:(1#64:BitVec 64).toNat=1:=by decide
  rw[e2,Nat.and_one_is_mod];omega
 show some (IntKind.i64.wrap ((BitVec.ofInt 64 (a:Int)&&&BitVec.ofInt 64 1).toNat:Int))=_
 rw[h1,wB (by omega)]
theorem XN(a:Nat):(a^^^1)%2=1-a%2:=by
 have h1:=@Nat.xor_mod_two_eq_one a 1;have h2:(a^^^1)%2<2:=Nat.mod_lt _ (by omega);have h3:a%2<2:=Nat.mod_lt _ (by omega);have h4:(1%2=1):=rfl;simp only[h4,iff_true]at h1;omega
theorem XQ(a:Nat):(a^^^1)/2=a/2:=by rw[Nat.xor_div_two];simp
theorem ky(a:Nat):a^^^1=if a%2=0 then a+1 else a-1:=by
 have h1:=XN a;have h2:=XQ a
 split<;>omega
@[simp high] theorem NV(a:Nat)(h:(a:Int)<2^60):gf .xor .i64 (a:Int) 1=some ((a^^^1:Nat):Int):=by
 have h1:(BitVec.ofInt 64 (a:Int)^^^BitVec.ofInt 64 1).toNat=a^^^1:=by
  have e1:BitVec.ofInt 64 (1:Int)=1#64:=by decide
  rw[e1,BitVec.toNat_xor,HT]
  have e2:(1#64:BitVec 64).toNat=1:=by decide
  rw[e2];congr 1;omega
 show some (IntKind.i64.wrap ((BitVec.ofInt 64 (a:Int)^^^BitVec.ofInt 64 1).toNat:Int))=_
 rw[h1,wB (by rw[ky];split<;>omega)]
@[simp high] theorem asu(a:Nat)(h:(a:Int)<2^62):gf .quo .i64 (a:Int) 2=some ((a/2:Nat):Int):=by
 simp only[gf];rw[if_neg (by omega),show((a:Int)).tdiv 2=((a/2:Nat):Int)from rfl,wB (by omega)]
@[simp high] theorem asv(a:Nat):gf .rem .i64 (a:Int) 2=some ((a%2:Nat):Int):=by
 simp only[gf];rw[if_neg (by omega)];rfl
theorem rF{h:List Ob}{i:Nat}{o:Ob}(hi:h[i]? =some o)(os:List Ob):(h++os)[i]? =some o:=by
 rw[dk (bj hi)];exact hi
@[simp] theorem arS(h l:List Ob)(k:Nat):(h++l)[h.length+k]? =l[k]? :=by
 rw[e_ (by omega)];congr 1;omega
@[simp] theorem arf(h l:List Ob):(h++l)[h.length]? =l[0]? :=by
 rw[e_ (by omega)];congr 1;omega
@[simp] theorem ar0(h l:List Ob)(k:Nat)(x:Ob):(h++l).set (h.length+k) x=h++l.set k x:=by
 rw[List.set_append,if_neg (by omega)];congr 2;omega
@[simp] theorem arD(h l:List Ob)(x:Ob):(h++l).set h.length x=h++l.set 0 x:=by
 rw[List.set_append,if_neg (by omega)];congr 2;omega
@[simp] theorem arc(h l:List Ob)(k:Nat):(h++l).take (h.length+k)=h++l.take k:=by
 rw[List.take_append,cF (by omega)];simp
@[simp] theorem apM(i m:Nat)(a b:List Ob):ew i m (a++b)=(ew i m a&&ew i m b):=by
 induction a with
 |nil=>simp[ew]
 |cons x a ih=>simp[ew,ih,pM]
@[simp] theorem ap3(n:Nat)(a b:List Ob):dS n (a++b)=(dS n a&&dS n b):=by
 induction a with
 |nil=>simp[dS]
 |cons x a ih=>simp[dS,ih,pM]
section
variable{P:Program}{Γ:Nat->Option AV}
theorem LQ:∀(i:Nat)(t:List AV),i<t.length->cW (List.replicate i true++[false]) t=t.set i .undef
 |_,[],h=>by simp at h
 |0,a::t,_=>by cases t<;>rfl
 |i+1,a::t,h=>by
  simp only[qN,ek,cW,uP];rw[LQ i t (by simpa using h)]
def nQ(is:List Nat)(t:List AV):List AV:=is.foldl (fun t i=>t.set i .undef) t
theorem Zf(t:List AV)(i:Nat):t.set i .undef=t\/i<t.length:=by
 by_cases h:i<t.length
 ·exact .inr h
 ·exact .inl (List.set_eq_of_length_le (by omega))
theorem Reach.nS{fn:FuncId}{k:List It}{ds:List di}{kind:FK}{base:Nat}{up:List Fr}{h:List Ob}:∀(is:List Nat)(t:List AV),Reach P Γ (.fr ⟨.run,fn,k,t,ds,kind,base⟩ up h) (.fr ⟨.run,fn,k,nQ is t,ds,kind,base⟩ up h)
 |[],t=>.refl _
 |i::is,t=>by
  refine .trans ?_ (Reach.nS is (t.set i .undef))
  rcases Zf t i with h1|h1
  ·rw[h1];exact .refl _
  ·have:=Reach.mask (P:=P) (Γ:=Γ) (f:=⟨.run,fn,k,t,ds,kind,base⟩) (up:=up) (h:=h) (List.replicate i true++[false]);simp only[LQ i t h1]at this;exact this
@[simp] theorem arw(t:List AV):nQ [] t=t:=rfl
@[simp] theorem aqX(i:Nat)(is:List Nat)(t:List AV):nQ (i::is) t=nQ is (t.set i .undef):=rfl
theorem aB.nS(is:List Nat){fn:FuncId}{k:List It}{t:List AV}{ds:List di}{kind:FK}{base:Nat}{up:List Fr}{h:List Ob}{o:Out}(h1:aB P Γ (.fr ⟨.run,fn,k,nQ is t,ds,kind,base⟩ up h) o):aB P Γ (.fr ⟨.run,fn,k,t,ds,kind,base⟩ up h) o:=.reach (.nS is t) h1
theorem aB.nA(i j k:Nat)(E:TypeId){f:Fr}{up:List Fr}{h:List Ob}{o:Out}{k0:Nat}{cs:List AV}(hi:h[i]? =some (.cells cs))(hj:cs[j]? =some (.list true k0 []))(hk:0<k)
 (h4:aB P Γ (.fr f up ((h++[Ob.row k E [] none true false]).set i (.cells (cs.set j (.sl h.length 0 0))))) o):aB P Γ (.fr f up h) o:=.reach (.nA E hi hj hk) h4
theorem aB.iF{f:Fr}{up:List Fr}{h:List Ob}{o:Out}{i k:Nat}{E:TypeId}{es:List AV}{gr:Option Nat}{fl sh:Bool}(hi:h[i]? =some (.row k E es gr fl sh))(hg:gr=none\/gr=some 0)(h1:f.base<=i)(h2:n3 i es.length f=true)(h3:ew i es.length h=true)
 (h4:aB P Γ (.fr f up (h.set i (.row k E es none fl sh))) o):aB P Γ (.fr f up h) o:=by
 rcases hg with rfl|rfl
 ·have:h.set i (.row k E es none fl sh)=h:=by
   apply lh;intro j
   by_cases hj:i=j
   ·subst hj;rw[gn (bj hi),hi]
   ·rw[dK hj]
  rw[this]at h4;exact h4
 ·exact .reset hi h1 h2 h3 h4
end
theorem aB.either(n:Nat){P:Program}{Γ:Nat->Option AV}{fn:FuncId}{d:Option Nat}{x:AX}{neg:Bool}{os:List AG}{k:List It}{t:List AV}{ds:List di}{kind:FK}{base:Nat}{up:List Fr}{h:List Ob}{o:Out}(h0:nP (ax t x)=some 0)
 (h1:∀b,aB P Γ (AM.go P Γ 0 n (.fr ⟨.run,fn,.ops os::k,aW t d (.bool b),ds,kind,base⟩ up h)) o):aB P Γ (.fr ⟨.run,fn,.ops (⟨d,none,.iL neg x⟩::os)::k,t,ds,kind,base⟩ up h) o:=
 .iL (f:=⟨.run,fn,.ops (⟨d,none,.iL neg x⟩::os)::k,t,ds,kind,base⟩) rfl rfl rfl (by simp only[aA,h0]) fun b=>.go n (h1 b)
theorem Reach.We(i k:Nat)(E:TypeId){P:Program}{Γ:Nat->Option AV}{fn:FuncId}{its:List It}{t:List AV}{ds:List di}{kind:FK}{base:Nat}{up:List Fr}{h:List Ob}{c:aw}{k0:Nat}(hi:t[i]? =some (.list true k0 []))(hk:0<k)
 (h4:Reach P Γ (.fr ⟨.run,fn,its,t.set i (.sl h.length 0 0),ds,kind,base⟩ up (h++[Ob.row k E [] none true false])) c):Reach P Γ (.fr ⟨.run,fn,its,t,ds,kind,base⟩ up h) c:=
 .trans (.qe (f:=⟨.run,fn,its,t,ds,kind,base⟩) E rfl hi hk) h4
theorem aB.qe(i k:Nat)(E:TypeId){P:Program}{Γ:Nat->Option AV}{fn:FuncId}{its:List It}{t:List AV}{ds:List di}{kind:FK}{base:Nat}{up:List Fr}{h:List Ob}{o:Out}{k0:Nat}(hi:t[i]? =some (.list true k0 []))(hk:0<k)
 (h4:aB P Γ (.fr ⟨.run,fn,its,t.set i (.sl h.length 0 0),ds,kind,base⟩ up (h++[Ob.row k E [] none true false])) o):aB P Γ (.fr ⟨.run,fn,its,t,ds,kind,base⟩ up h) o:=
 .reach (.We i k E hi hk (.refl _)) h4
def qu(P:Program)(Γ:Nat->Option AV):aw->aw
 |.fr f up h=>match f.md with
  |.run=>match f.its with
   |.ops (o::os)::k=>gz P Γ f up h (.ops (o::os)::k)
   |_=>.fr f up h
  |_=>.fr f up h
 |.back (c::up) v h=>match c.finish v with
  |some c'=>.fr c' up h
  |none=>.bad
 |c=>c
def kX(P:Program)(Γ:Nat->Option AV):Nat->aw->aw
 |0,c=>c
 |n+1,c=>kX P Γ n (qu P Γ c)
section
variable{P:Program}{Γ:Nat->Option AV}{n:Nat}{fn:FuncId}{k:List It}{t:List AV}{ds:List di}{kind:FK}{base:Nat}{up:List Fr}{h h':List Ob}
theorem Reach.qu(c:aw):Reach P Γ c (AM.qu P Γ c):=by
 cases c with
 |fr f up h=>
  obtain⟨md,fn,its,t,ds,kind,base⟩:=f
  cases md with
  |run=>
   simp only[AM.qu]
   split
   ·exact .step _
   ·exact .refl _
  |_=>exact .refl _
 |back up v h=>cases up<;>first|exact .refl _|exact .step _
 |_=>exact .refl _
theorem Reach.uj:∀(n:Nat)(c:aw),Reach P Γ c (AM.kX P Γ n c)
 |0,c=>.refl c
 |n+1,c=>.trans (.qu c) (Reach.uj n _)
theorem DW{c:aw}(hc:qu P Γ c=c):∀n,kX P Γ n c=c
 |0=>rfl
 |n+1=>by rw[kX,hc];exact DW hc n
@[simp] theorem wi{d:Option Nat}{o:AO}{os:List AG}:kX P Γ (n+1) (.fr ⟨.run,fn,.ops (⟨d,none,o⟩::os)::k,t,ds,kind,base⟩ up h)=
  kX P Γ n (eX P ⟨.run,fn,.ops (⟨d,none,o⟩::os)::k,t,ds,kind,base⟩ up h ⟨d,none,o⟩ os k (aA P Γ t h o)):=(rfl)
@[simp] theorem arP:kX P Γ n (.fr ⟨.run,fn,.ops []::k,t,ds,kind,base⟩ up h)=.fr ⟨.run,fn,.ops []::k,t,ds,kind,base⟩ up h:=DW rfl n
@[simp] theorem asj{f:FuncId}{args:List AV}:kX P Γ n (.cl f args up h)=.cl f args up h:=DW rfl n
@[simp] theorem arJ{c:Fr}{v:AV}:kX P Γ (n+1) (.back (c::up) v h)=kX P Γ n (match c.finish v with
  |some c'=>.fr c' up h
  |none=>.bad):=(rfl)
theorem aB.ogO(n:Nat){as:List (List Nat)}{gs:List AG}{r:AV}
 (h1:∀l∈eM as as.length [],aB P Γ (AM.kX P Γ n (.fr ⟨.run,fn,.ops (l.map fun i=>gs.getD i default)::k,t,ds,kind,base⟩ up h)) (.ret r)):
 aB P Γ (.fr ⟨.run,fn,.code (.eH as gs)::k,t,ds,kind,base⟩ up h) (.ret r):=
 .At (f:=⟨.run,fn,.code (.eH as gs)::k,t,ds,kind,base⟩) rfl rfl (fun v hv=>by cases hv) fun l hl=>.reach (.uj n _) (h1 l hl)
theorem aB.ogD(n:Nat){l:List Bool}{ws:List Nat}{gs:List AG}{r:AV}
 (h1:∀l∈eM (nR gs) gs.length [],aB P Γ (AM.kX P Γ n (.fr ⟨.run,fn,.ops (l.map fun i=>gs.getD i default)::k,t,ds,kind,base⟩ up h)) (.ret r)):
 aB P Γ (.fr ⟨.run,fn,.code (.aR l ws gs)::k,t,ds,kind,base⟩ up h) (.ret r):=
 .Ah (f:=⟨.run,fn,.code (.aR l ws gs)::k,t,ds,kind,base⟩) rfl rfl (fun v hv=>by cases hv) fun l hl=>.reach (.uj n _) (h1 l hl)
theorem aB.NI(n:Nat){f:FuncId}{args as:List AV}{r:AV}{o:Out}(h1:bK h args=some as)(h2:aN P Γ f as r)(h3:aB P Γ (AM.kX P Γ n (.back up (dc h.length r).1 (dx h args r))) o):aB P Γ (.cl f args up h) o:=
 .reach (.pure h1 h2) (.reach (.uj n _) h3)
end
def FG(n:Nat)(τ:List Nat)(its:List It)(t:List AV)(ds:List di)(kind:FK)(base:Nat)(h:List Ob):Prop:=
 base<=n/\n<=h.length/\(∀j∈τ,n+j<h.length)/\dI n τ t=true/\jw n ds=true/\fE n its=true/\nY n kind=true/\kh n τ (h.take n)=true/\qL n τ (lK h n τ)=true
theorem Reach.Fv(n:Nat)(τ:List Nat){P:Program}{Γ:Nat->Option AV}{fn:FuncId}{its:List It}{t:List AV}{ds:List di}{kind:FK}{base:Nat}{up:List Fr}{h:List Ob}{c:aw}(hc:FG n τ its t ds kind base h)(hnd:τ.Nodup)
 (h4:Reach P Γ (.fr ⟨.run,fn,its,bT n τ t,ds,kind,base⟩ up (gX n τ h)) c):Reach P Γ (.fr ⟨.run,fn,its,t,ds,kind,base⟩ up h) c:=
 .trans (.gc (f:=⟨.run,fn,its,t,ds,kind,base⟩) n τ rfl hc.1 hc.2.1 hc.2.2.1 hnd hc.2.2.2.1 hc.2.2.2.2.1 hc.2.2.2.2.2.1 hc.2.2.2.2.2.2.1 hc.2.2.2.2.2.2.2.1 hc.2.2.2.2.2.2.2.2) h4
theorem aB.gc(n:Nat)(τ:List Nat){P:Program}{Γ:Nat->Option AV}{fn:FuncId}{its:List It}{t:List AV}{ds:List di}{kind:FK}{base:Nat}{up:List Fr}{h:List Ob}{o:Out}(hc:FG n τ its t ds kind base h)(hnd:τ.Nodup)
 (h4:aB P Γ (.fr ⟨.run,fn,its,bT n τ t,ds,kind,base⟩ up (gX n τ h)) o):aB P Γ (.fr ⟨.run,fn,its,t,ds,kind,base⟩ up h) o:=
 .reach (.Fv n τ hc hnd (.refl _)) h4
attribute [simp] kF kj.cfg FG e8 ey df bT eA dI l9 sk pt m_ kh qL kV lK gX List.idxOf_cons
theorem Reach.NY{P:Program}{Γ:Nat->Option AV}{f:FuncId}{args as:List AV}{r:AV}{h:List Ob}(h1:bK h args=some as)(h2:aN P Γ f as r)(h3:∀n,dc n r=(r,[]))(h4:dx h args r=h):∀up,Reach P Γ (.cl f args up h) (.back up r h):=by
 intro up;have:=back_eq h1 h2 up;rw[h3,h4]at this;exact this
end Go.AM
namespace Go.AM
open Go.RowKit
variable{P:Program}{Γ:Nat->Option AV}
theorem Inv.below{N:Env}{g:G}{h:List Ob}{w w':World}(H:Inv P Γ N g h w)(hb:Below w.heap.size w w'):Inv P Γ N g h w':=by
 have hblk:∀b x,w.heap[b]? =some x->w'.heap[b]? =some x:=fun b x hx=>by
  rw[hb.block b (by
   rcases jG b w.heap.size with h1|h1
   ·exact h1
   ·rw[n_ h1]at hx;cases hx)]
  exact hx
 have hcell:∀b o v,w.cell? ⟨b,o,none⟩=some v->w'.cell? ⟨b,o,none⟩=some v:=fun b o v hv=>by
  rcases jG b w.heap.size with h1|h1
  ·rw[sX (hb.block b h1)];exact hv
  ·simp[World.cell?,n_ h1]at hv
 refine⟨hb.os.trans H.os,hb.tape.trans H.tape,hb.output.trans H.output,fun b o hk=>hblk b o (H.eG b o hk),fun i b x hi=>⟨(H.own i b x hi).1,nh (H.own i b x hi).2 hb.size⟩,H.inj,H.n7,
  fun b o v hv=>hcell b o v (H.mem b o v hv),fun b es ck hk=>⟨hblk b _ (H.mm b es ck hk).1,(H.mm b es ck hk).2⟩,H.dX,?_,H.j5,H.mK,H.iz,H.km⟩
 intro i o hi;exact mF (Ext.refl _ _ _) rfl (fun b y hy=>hb.block b (H.own i b y hy).2) (H.ob i o hi)
theorem aN.NU{f:FuncId}{as:List AV}{r:AV}(hb:aD P f=true)(hun:∀n,dc n r=(r,[]))(ht:rU r=true)
 (hc:∀(N:Env)(g:G)(h:List Ob)(w:World)(us:List Value),Inv P Γ N g h w->VL g h as us->Calls P f us.toArray w fun e w'=>(∃u,e=.returned u/\∀g h,V g h r u)/\Below w.heap.size w w'):aN P Γ f as r:=by
 refine⟨hb,fun _ N g h w us H hV=>(hc N g h w us H hV).mono ?_⟩
 rintro e w' ⟨⟨u,rfl,hu⟩,hB⟩
 refine⟨u,g,rfl,ht,?_,?_,fun _ _=>rfl,fun _ _ _ x=>x,fun b hb=>hB.block b hb⟩
 ·rw[hun];simpa using H.below hB
 ·rw[hun];exact hu _ _
@[simp] theorem TC(c:UInt8):Ay (gB c)=some c:=by
 simp only[Ay,gB,cZ,al];exact UInt8.ofNat_toNat
@[simp] theorem IT:∀w:List UInt8,nD (w.map gB)=some w
 |[]=>rfl
 |c::w=>by rw[cv,nD,TC,IT w]
end Go.AM
namespace Go.AM
open Go.ChangeShapes Go.WideShapes Go.ChangeAt Go.RowKit
theorem Ea{P:Program}{W:World}:∀{l:List (String×DataW Unit)}{ps:List MemPlace},DataW.LaidVars P W l ps->∀n d,(n,d)∈l->
 ∃g t cs fuel p,P.globalNamed n=some g/\(P.globals[g]?).map (·.type)=some t/\W.var? P n=some cs/\DataW.trod (fun _=>()) P W 0 (fun _=>true) false fuel t cs.toList=some (d,p)
 |[],ps,_,n,d,hm=>by simp at hm
 |(n0,d0)::l,ps,h,n,d,hm=>by
  obtain⟨g,t,cs,fuel,p,q,h1,h2,h3,h4,h5,_⟩:=h
  rcases bw.1 hm with hm|hm
  ·cases hm
   exact⟨g,t,cs,fuel,p,h1,h2,h3,h4⟩
  ·exact Ea h5 n d hm
theorem Jy{H:Type}(z x:Lit×DataW H):∀l,z∈DataW.insert x l↔z=x\/z∈l
 |[]=>by simp[DataW.insert]
 |y::r=>by
  rw[DataW.insert]
  split
  ·simp
  ·simp only[bw,Jy z x r];constructor
   ·rintro(h|h|h)
    ·exact .inr (.inl h)
    ·exact .inl h
    ·exact .inr (.inr h)
   ·rintro(h|h|h)
    ·exact .inr (.inl h)
    ·exact .inl h
    ·exact .inr (.inr h)
theorem CI{H:Type}(z:Lit×DataW H):∀l:List (Lit×DataW H),z∈l.foldr DataW.insert []↔z∈l
 |[]=>by simp
 |x::l=>by simp only[List.foldr_cons,Jy,CI z l,bw]
theorem ML{α β:Type}{f:α->Option β}:∀{l:List α}{r:List β},l.mapM f=some r->F2 (fun a b=>f a=some b) l r
 |[],r,h=>by simp at h;subst h;exact .nil
 |x::l,r,h=>by
  simp only[sy,pI,oe,Option.pure_def,al]at h;obtain⟨b,hb,r',hr',rfl⟩:=h;exact .cons hb (ML hr')
theorem YG{H:Type}{enc:TypeId×Value->H}{P:Program}{w:World}{base:Nat}{sp:Nat->Bool}{held:Bool}{t k e:TypeId}(ht:P.underlying t=some (.map k e)){fuel:Nat}{cs:List Value}{D:List (Lit×DataW H)}{ps:List MemPlace}
 (h:DataW.trod enc P w base sp held fuel t cs=some (.map D,ps)):
 ∃n b es clock,∃entries:List ((Lit×DataW H)×List MemPlace),cs=[.map (some b)]/\w.heap[b]? =some (.map es clock)/\
  F2 (fun(x:MapEntry) y=>keyOf P k x.key=some y.1.1/\x.val.formed P e=true/\DataW.trod enc P w base sp held n e x.val.cells.toList=some (y.1.2,y.2)) es.toList entries/\D=(entries.map (·.1)).foldr DataW.insert []:=by
 cases fuel with
 |zero=>simp[DataW.trod]at h
 |succ n=>
  rw[DataW.trod_step]at h;unfold DataW.trodStep at h;rw[ht]at h
  split at h<;>simp_all
  rename_i b _
  cases hb:w.heap[b]? with
  |none=>simp[hb]at h
  |some o=>
   cases o<;>simp only[hb,reduceCtorEq]at h
   rename_i es clock
   split at h
   ·simp only[oe]at h;obtain⟨entries,h1,h2⟩:=h
    split at h2
    ·simp only[al,bH,DataW.map.injEq]at h2;refine⟨n,es,⟨clock,rfl⟩,entries,?_,h2.1.symm⟩
     refine El (ML h1) fun x y hxy=>?_
     simp only[oe]at hxy;obtain⟨key,h3,h4⟩:=hxy
     split at h4
     ·rename_i hf;rw[bN]at h4;obtain⟨z,h5,rfl⟩:=h4;exact⟨h3,hf,h5⟩
     ·cases h4
    ·cases h2
   ·cases h
def nG:Lit->AV
 |.string s=>.str s
 |.int k n=>.int k n
 |_=>.undef
def Fp{H:Type}:DataW H->AV
 |.lit (.bool b)=>.bool b
 |.lit (.int k n)=>.int k n
 |.lit (.string s)=>.str s
 |_=>.undef
def nH{H:Type}:DataW H->AV
 |.agg ds=>.agg (ds.map Fp)
 |d=>Fp d
theorem Zr{P:Program}{k:TypeId}{q:IntKind}(hk:P.underlying k=some (.int q)){g:G}{h:List Ob}{v:Value}{l:Lit}(hv:keyOf P k v=some l):V g h (nG l) v/\aJ 0 (nG l)=true/\∃n,l=.int q n:=by
 rw[keyOf_int hk]at hv
 cases v<;>simp[mapKey,hk]at hv
 obtain⟨⟨rfl,_⟩,rfl⟩:=hv;exact⟨by simp[nG,V],rfl,_,rfl⟩
theorem XU{P:Program}{e e':TypeId}{q:IntKind}(he:P.underlying e=some (.array 2 e'))(he':P.underlying e'=some (.int q))(h1:P.cellsOf e'=1)(h2:P.cellsOf e=2){H:Type}{enc:TypeId×Value->H}{w:World}{base:Nat}{sp:Nat->Bool}{held:Bool}{n:Nat}{v:Value}{x:DataW H×List MemPlace}{g:G}{h:List Ob}
 (hf:v.formed P e=true)(ht:DataW.trod enc P w base sp held n e v.cells.toList=some x):V g h (nH x.1) v/\aJ 0 (nH x.1)=true:=by
 cases v<;>simp[Value.formed,he]at hf
 rename_i cs
 have hl:cs.toList.length=2:=by simpa[h2]using hf
 obtain⟨a,b,hab⟩:∃a b,cs.toList=[a,b]:=by
  match hc:cs.toList,hl with
  |[a,b],_=>exact⟨a,b,rfl⟩
 cases n with
 |zero=>simp[DataW.trod]at ht
 |succ m=>
  simp only[Value.cells,hab]at ht;rw[DataW.trod_step]at ht;unfold DataW.trodStep at ht;rw[he]at ht;simp only[h1,h2,bC,cN,bY,show List.range 2=[0,1]from rfl,sy,List.mapM_nil]at ht;simp only[pI,Option.pure_def,bN,oe,al,Nat.mul_one,dV,List.drop_succ_cons,QX,List.take_zero]at ht;obtain⟨y,⟨y1,hy1,ys,⟨y2,hy2,zs,rfl,rfl⟩,rfl⟩,rfl⟩:=ht;obtain⟨n1,e1,rfl,_⟩:=DataW.trod_int he' hy1;obtain⟨n2,e2,rfl,_⟩:=DataW.trod_int he' hy2;simp only[xn,pD]at e1 e2;subst e1 e2
  have hcs:cs=[Value.int q n1,Value.int q n2].toArray:=by rw[<-hab]
  subst hcs;simp[nH,Fp,V,VL,aJ,aO]
theorem I3(E:EK)(kk:AV):∀(l:List (AV×AV)),(∀y∈l,(bU E kk y.1=some true/\kk=y.1)\/(bU E kk y.1=some false/\kk≠y.1))->
 ∃r,fm E kk l=some r/\(r=none->∀y∈l,kk≠y.1)/\(∀v,r=some v->(kk,v)∈l)
 |[],_=>⟨none,rfl,fun _ y hy=>by simp at hy,fun v hv=>by cases hv⟩
 |(a,u)::l,h=>by
  rcases h (a,u) (oh ..)with⟨h1,h2⟩|⟨h1,h2⟩
  ·refine⟨some u,by simp only[fm,h1],fun hn=>absurd hn (by simp),fun v hv=>?_⟩;obtain rfl:=Option.some.inj hv;rw[show kk=a from h2];exact oh ..
  ·obtain⟨r,h3,h4,h5⟩:=I3 E kk l (fun y hy=>h y (dm _ hy));refine⟨r,by simp only[fm,h1];exact h3,fun hn y hy=>?_,fun v hv=>dm _ (h5 v hv)⟩
   rcases bw.1 hy with rfl|hy
   ·exact h2
   ·exact h4 hn y hy
theorem wm{α β:Type}{R:α->β->Prop}{g:G}{h:List Ob}{f:β->AV}{e:α->Value}:∀{l:List α}{m:List β},F2 R l m->(∀a b,R a b->V g h (f b) (e a)/\aJ 0 (f b)=true)->VL g h (m.map f) (l.map e)/\aO 0 (m.map f)=true
 |_,_,.nil,_=>⟨by simp[VL],rfl⟩
 |_,_,.cons h1 h2,hR=>by
  obtain⟨a1,a2⟩:=hR _ _ h1;obtain⟨b1,b2⟩:=wm h2 hR;simp only[cv,VL,aO,a2,b2,uX,pD];exact⟨_,_,rfl,a1,b1⟩
theorem YC{P:Program}{W:World}{l:List (String×DataW Unit)}(hl:laidMetH P l W)(hp:(l.all fun x=>x.2.handleName?.isNone)=true){name:String}{D:List (Lit×DataW Unit)}{g:Nat}{t k e:TypeId}(hm:(name,DataW.map D)∈l)
 (hg:P.globalNamed name=some g)(ht:(P.globals[g]?).map (·.type)=some t)(hu:P.underlying t=some (.map k e))
 (hK:∀(v:Value)(q:Lit),keyOf P k v=some q->V (gw W) [] (nG q) v/\aJ 0 (nG q)=true)
 (hV:∀(n:Nat)(v:Value)(x:DataW Unit×List MemPlace),v.formed P e=true->DataW.trod (fun _=>()) P W 0 (fun _=>true) false n e v.cells.toList=some x->V (gw W) [] (nH x.1) v/\aJ 0 (nH x.1)=true):
 ∃ks us,aO 0 (AV.cells (.de ks us))=true/\(∃vs,VL (gw W) [] (AV.cells (.de ks us)) vs/\∀j(hj:j<vs.length),W.cell? ⟨g,j,none⟩=some vs[j])/\∃z:List (AV×AV),ks.zip us=z/\∀y,y∈z↔y∈D.map fun d=>(nG d.1,nH d.2):=by
 rw[MakeChecks.laidMetH_plain _ _ _ hp]at hl;obtain⟨ps,h1,_⟩:=hl;obtain⟨g',t',cs,fuel,p,h2,h3,h4,h5⟩:=Ea h1 _ _ hm;obtain rfl:=Option.some.inj (hg.symm.trans h2);obtain rfl:=Option.some.inj (ht.symm.trans h3);obtain⟨n,b,es,ck,entries,hcs,hb,hF,rfl⟩:=YG hu h5;refine⟨entries.map fun y=>nG y.1.1,entries.map fun y=>nH y.1.2,?_,⟨[.map (some b)],?_,?_⟩,_,rfl,?_⟩
 ·have a:=wm (g:=gw W) (h:=[]) (f:=fun y=>nG y.1.1) (e:=fun x:MapEntry=>x.key) hF (fun x y hxy=>hK _ _ hxy.1);have c:=wm (g:=gw W) (h:=[]) (f:=fun y=>nH y.1.2) (e:=fun x:MapEntry=>x.val) hF (fun x y hxy=>hV n _ (y.1.2,y.2) hxy.2.1 hxy.2.2);simp only[AV.cells,aO,aJ,a.2,c.2,uX]
 ·have a:=wm (g:=gw W) (h:=[]) (f:=fun y=>nG y.1.1) (e:=fun x:MapEntry=>x.key) hF (fun x y hxy=>hK _ _ hxy.1);have c:=wm (g:=gw W) (h:=[]) (f:=fun y=>nH y.1.2) (e:=fun x:MapEntry=>x.val) hF (fun x y hxy=>hV n _ (y.1.2,y.2) hxy.2.1 hxy.2.2);simp only[AV.cells,VL,V];refine⟨_,[],rfl,⟨b,es,ck,rfl,by simp only[gw,hb],a.1,c.1⟩,rfl⟩
 ·intro j hj
  obtain rfl:j=0:=by simp at hj;omega
  rw[World.var?_cell hg h4 0,xr.symm,hcs];rfl
 ·intro y;rw[List.zip_map',db,db];constructor
  ·rintro⟨x,hx,rfl⟩
   exact⟨x.1,(CI _ _).2 (HQ hx),rfl⟩
  ·rintro⟨d,hd,rfl⟩
   obtain⟨x,hx,rfl⟩:=db.1 ((CI _ _).1 hd);exact⟨x,hx,rfl⟩
end Go.AM
namespace Go.AM
@[simp] theorem UT(n:Nat)(τ:List Nat):∀a b:List Ob,kh n τ (a++b)=(kh n τ a&&kh n τ b)
 |[],b=>rfl
 |o::a,b=>by
  have ih:=UT n τ a b
  cases o<;>simp[kh,ih,pM]
@[simp] theorem U0(n:Nat)(τ:List Nat):∀a b:List Ob,kV n τ (a++b)=kV n τ a++kV n τ b
 |[],b=>rfl
 |o::a,b=>by simp[kV,U0 n τ a b]
@[simp] theorem UK(n:Nat)(τ:List Nat):∀a b:List AV,bT n τ (a++b)=bT n τ a++bT n τ b
 |[],b=>rfl
 |o::a,b=>by simp[bT,UK n τ a b]
@[simp] theorem UY(n:Nat)(τ:List Nat):∀a b:List AV,dI n τ (a++b)=(dI n τ a&&dI n τ b)
 |[],b=>rfl
 |o::a,b=>by simp[dI,UY n τ a b,pM]
attribute [simp] TV
@[simp] theorem Uq(i m:Nat):∀a b:List AV,dG i m (a++b)=(dG i m a&&dG i m b)
 |[],b=>rfl
 |o::a,b=>by simp[dG,Uq i m a b,pM]
theorem Tg{as:List (List Nat)}{d1 d2:List Nat}(h:∀x,d1.contains x=d2.contains x)(i:Nat):jk as d1 i=jk as d2 i:=by
 unfold jk;rw[h i];congr 1
 refine List.all_congr rfl fun x=>h x
theorem Io(as:List (List Nat)):∀(n:Nat)(d1 d2:List Nat),(∀x,d1.contains x=d2.contains x)->eM as n d1=eM as n d2
 |0,_,_,_=>rfl
 |n+1,d1,d2,h=>by
  rw[eM,eM,show jk as d1=jk as d2 from funext (Tg h)];congr 1
  funext i
  rw[Io as n (i::d1) (i::d2) fun x=>by simp only[Q6,h x]]
section
variable{P:Program}{Γ:Nat->Option AV}{as:List (List Nat)}{gs:List AG}{fn:FuncId}{k:List It}{ds:List di}{kind:FK}{base:Nat}{up:List Fr}{c:aw}
def iU(P:Program)(Γ:Nat->Option AV)(as:List (List Nat))(gs:List AG)(fn:FuncId)(k:List It)(ds:List di)(kind:FK)(base:Nat)(up:List Fr)(c:aw)(done:List Nat)(n:Nat)(t:List AV)(h:List Ob):Prop:=
 ∀l∈eM as n done,Reach P Γ (.fr ⟨.run,fn,.ops (l.map fun i=>gs.getD i default)::k,t,ds,kind,base⟩ up h) c
theorem iU.step{done:List Nat}{n:Nat}{t:List AV}{h:List Ob}
 (h1:∀i∈(List.range as.length).filter (jk as done),∃d op v h',gs.getD i default=⟨d,none,op⟩/\(aA P Γ t h op=.val v h'\/v=.aL []/\aA P Γ t h op=.skip h')/\iU P Γ as gs fn k ds kind base up c (i::done) n (aW t d v) h'):iU P Γ as gs fn k ds kind base up c done (n+1) t h:=by
 intro l hl;simp only[eM,od,db]at hl;obtain⟨i,hi,l',hl',rfl⟩:=hl;obtain⟨d,op,v,h',e1,e2,h3⟩:=h1 i hi;have h4:=h3 l' hl';refine .trans (Reach.uj 1 _) ?_;simp only[cv,e1]
 rcases e2 with e2|⟨rfl,e2⟩
 ·rw[show(1:Nat)=0+1 from rfl,wi,e2,Mj];exact h4
 ·rw[show(1:Nat)=0+1 from rfl,wi,e2,K_];exact h4
theorem iU.congr{d1 d2:List Nat}{n:Nat}{t:List AV}{h:List Ob}(h1:iU P Γ as gs fn k ds kind base up c d1 n t h)(h2:∀x,d1.contains x=d2.contains x):iU P Γ as gs fn k ds kind base up c d2 n t h:=by
 intro l hl;rw[<-Io as n d1 d2 h2]at hl;exact h1 l hl
theorem iU.perm{d1 d2:List Nat}{n:Nat}{t:List AV}{h:List Ob}(h1:iU P Γ as gs fn k ds kind base up c d1 n t h)(h2:d1.Perm d2):iU P Γ as gs fn k ds kind base up c d2 n t h:=
 h1.congr fun x=>by rw[gL,Cc,Cc];exact h2.mem_iff
theorem iU.all{t:List AV}{h:List Ob}(h1:iU P Γ as gs fn k ds kind base up c [] as.length t h):Reach P Γ (.fr ⟨.run,fn,.code (.eH as gs)::k,t,ds,kind,base⟩ up h) c:=
 .eH (f:=⟨.run,fn,.code (.eH as gs)::k,t,ds,kind,base⟩) rfl rfl h1
end
end Go.AM
namespace Go.AM
open Go.ChangeShapes Go.WideShapes Go.ChangeAt Go.RowKit
theorem JI{P:Program}{W:World}{l:List (String×DataW Unit)}(hl:laidMetH P l W):laidMetH P (l.filter fun x=>x.2.handleName?.isNone) W:=by
 have h:=(laidMetH_iff.1 hl).1;rw[MakeChecks.laidMetH_plain _ _ _ (by rw[dL];intro x hx;exact(dh.1 hx).2)];exact h
end Go.AM
