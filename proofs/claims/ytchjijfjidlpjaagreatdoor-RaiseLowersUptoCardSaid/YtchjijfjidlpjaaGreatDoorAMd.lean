/- The abstract machine: ro -/
import Derived.Test.YtchjijfjidlpjaaGreatDoorAMc
import Derived.ProofKit
import Derived.OpenShut
import Derived.JoinedCond
import Derived.ChangeStays
import Derived.ChangeBears
import Derived.ChangeCalls
import Derived.Below
import Derived.MakeChecks
import Derived.LaidMore
import Derived.StringKeys
import Derived.ChangeKeys
import Derived.LaidHandle
import Derived.LaidSub
set_option linter.unusedSimpArgs false
set_option linter.unusedVariables false
namespace Go.AM
open Go.RowKit
theorem QL{j:Nat}:∀(is:List Nat)(h:List Ob),j∉is->(share is h)[j]? =h[j]?
 |[],_,_=>rfl
 |i::is,h,hj=>by
  simp only[bD,not_or]at hj;simp only[share]
  have h2:¬i=j:=fun e=>hj.1 e.symm
  rw[QL is _ hj.2,Bv];simp[h2]
section
variable{P:Program}{Γ:Nat->Option AV}{N:Env}{g:G}{h:List Ob}{w:World}
theorem PZ{a a':AV}(hv:view h a=some a')(ho:a.one=true):a'.one=true:=by
 cases a with
 |agg _|aH _|undef|own _ _ _=>simp[AV.one]at ho
 |list f k es=>simp only[view,an]at hv;subst hv;rfl
 |sl i o n=>simp only[view,cm]at hv;obtain⟨p,_,rfl⟩:=hv;rfl
 |ptr _ _|mp _|it _|de _|dw _ _ _ _=>simp[view]at hv
 |dG _ _=>simp only[view]at hv;split at hv<;>simp at hv;subst hv;rfl
 |fn f x y=>simp only[view]at hv;split at hv<;>simp at hv;subst hv;rfl
 |bW t x=>simp only[view,cm]at hv;obtain⟨y,_,rfl⟩:=hv;rfl
 |_=>simp only[view,an]at hv;subst hv;rfl
theorem HN:∀{as hb:List AV},cy h as=some hb->hb.length=as.length/\(cr as=true->cr hb=true)
 |[],hb,hv=>by simp only[cy,an]at hv;subst hv;exact⟨rfl,id⟩
 |a::as,hb,hv=>by
  simp only[cy]at hv
  split at hv
  ·rename_i a1 hc h1 h2;simp only[an]at hv;subst hv;obtain⟨h3,h4⟩:=HN h2;refine⟨by simp[h3],fun ho=>?_⟩;simp only[cr,aB]at ho⊢;exact⟨PZ h1 ho.1,h4 ho.2⟩
  ·cases hv
theorem ac3{a a':AV}(hv:view h a=some a')(ho:cr a.cells=true):a'.cells.length=a.cells.length/\cr a'.cells=true:=by
 by_cases ha:∃cs,a=.agg cs
 ·obtain⟨cs,rfl⟩:=ha;simp only[view,cm]at hv;obtain⟨hx,h1,rfl⟩:=hv;obtain⟨h2,h3⟩:=HN h1;exact⟨h2,h3 ho⟩
 ·have hc:a.cells=[a]:=by cases a<;>first|rfl|exact absurd ⟨_,rfl⟩ ha
  rw[hc]at ho;simp only[cr,qt]at ho;have h1:=PZ hv ho
  have hb:a'.cells=[a']:=by cases a'<;>first|rfl|simp[AV.one]at h1
  rw[hc,hb];exact⟨rfl,by simp[cr,h1]⟩
theorem afd{n:Nat}{a:AV}(h:aK n a=true):aN n a.cells=true:=by
 cases a<;>simp_all [AV.cells,aK,aN]
theorem RF(H:Inv P Γ N g h w){g':G}{h':List Ob}(x:Ext h.length g h g' h'):∀{as hb:List AV}{us:List Value},(∀i∈b_ as,rM g' h w g i)->VE g h as us->cy h as=some hb->VE g' h' hb us
 |[],hb,us,_,hv,ha=>by
  simp only[cy,an]at ha;subst ha;simpa only [VE]using hv
 |a::as,hb,us,hc,hv,ha=>by
  simp only[cy]at ha
  split at ha
  ·rename_i a1 hk h1 h2;simp only[an]at ha;subst ha;simp only[VE]at hv⊢;obtain⟨u,hx,h3,rfl,h4⟩:=hv;simp only[b_,a8]at hc;exact⟨u,hx,uB H x (fun i hi=>hc i (Or.inl hi)) h3 h1,rfl,RF H x (fun i hi=>hc i (Or.inr hi)) h4 h2⟩
  ·cases ha
theorem Tg(H:Inv P Γ N g h w){k:Nat}:∀{as hb:List AV}{us:List Value},eC k as->VE g h as us->cy h as=some hb->cG hb k=true
 |[],hb,us,_,_,ha=>by simp only[cy,an]at ha;subst ha;rfl
 |a::as,hb,us,hK,hv,ha=>by
  simp only[cy]at ha
  split at ha
  ·rename_i a1 hx h1 h2;simp only[an]at ha;subst ha;simp only[VE]at hv;obtain⟨u,hk,h3,rfl,h4⟩:=hv;obtain⟨hj,hc⟩:=hK a (by simp);obtain⟨h5,h6⟩:=ac3 h1 hc;simp only[cG,aB,bj];exact⟨⟨⟨by omega,h6⟩,afd (Da H h3 h1)⟩,Tg H (fun e he=>hK e (dH _ he)) h4 h2⟩
  ·cases ha
theorem Qj{es es':List AV}(h:es'.length=es.length)(gr:Option Nat)(off n:Nat):cW es' gr off n=cW es gr off n:=by
 unfold cW;rw[h]
theorem Inv.freeze(H:Inv P Γ N g h w){i k:Nat}{E:TypeId}{es es':List AV}{gr:Option Nat}{fl sh:Bool}(hi:h[i]? =some (.row k E es gr fl sh))(hg:gr.getD 0=0)
 (hv:cy h es=some es')(hn:(b_ es).contains i=false):
 ∃g',Inv P Γ N g' ((share (b_ es) h).set i (.row k E es' gr true sh)) w/\Ext h.length g h g' ((share (b_ es) h).set i (.row k E es' gr true sh)):=by
 obtain⟨g1,hp,h5,hz,H1,ih,hq⟩:=pC (b_ es) H
 have ht:i∉b_ es:=by simpa using hn
 have hl:(share (b_ es) h)[i]? =some (.row k E es gr fl sh):=by rw[QL _ _ ht];exact hi
 have hlen:=(HN hv).1;have h4:=bd hl;have hf:=H.ob i _ hi;simp only[OV]at hf;obtain⟨hd,hK,ys,ps,hb⟩:=hf
 have hj:Ext (share (b_ es) h).length g1 (share (b_ es) h) g1 ((share (b_ es) h).set i (.row k E es' gr true sh)):=by
  have:=Ext.qU (E':=E) (es':=es') (gr':=gr) (fl':=true) (sh':=sh) (ρ':=g1.ρ i) hl (by omega) (fun off m h7 e1=>⟨by rw[<-Qj hlen];exact e1,hlen,fun _ x=>x⟩);rwa[dt]at this
 have hc:es'=[]\/(∃us,VE g h es us):=by
  cases hρ:g.ρ i with
  |none=>
   rw[hρ]at hb;simp only at hb;subst hb;simp only[cy,an]at hv;exact Or.inl hv.symm
  |some y=>
   obtain⟨b,sz,st⟩:=y;rw[hρ]at hb;obtain⟨_,c,Ty,fz,vs,_,_,_,hx,_⟩:=hb;rw[hg]at hx;exact Or.inr ⟨vs,by simpa using hx⟩
 have hk:cG es' k=true:=by
  rcases hc with rfl|⟨us,e2⟩
  ·rfl
  ·exact Tg H hK e2 hv
 refine⟨g1,?_,?_⟩
 ·have:=Inv.set (r:=g1.ρ i) (w':=w) (o':=.row k E es' gr true sh) H1 h4 (by rw[dt];exact hj) rfl rfl rfl (fun _ _ _=>rfl) (aT _)
   (fun b y hy=>⟨Or.inl ⟨y,hy⟩,(H1.own i b y hy).2⟩)
   (fun b y o v _ hv=>H1.mem b o v hv)
   (by
    intro b sz st o v hy h6;obtain⟨k2,E2,ck,gu,gg,h2,h3⟩:=H1.fo i b sz st o v hy h6;rw[hl]at h2;simp only[an,Ob.row.injEq]at h2;obtain⟨rfl,rfl,rfl,rfl,rfl,rfl⟩:=h2
    exact⟨_,_,_,_,_,rfl,by rw[hlen];exact h3⟩)
   (by
    rw[dt];simp only[OV];refine⟨hd,ly hk,fun _=>hk,by rw[hlen];exact ps,?_⟩;rw[hp]
    cases hρ:g.ρ i with
    |none=>
     rw[hρ]at hb;simp only at hb⊢;subst hb;simp only[cy,an]at hv;exact hv.symm
    |some y=>
     obtain⟨b,sz,st⟩:=y;rw[hρ]at hb;simp only at hb⊢;obtain⟨q1,c,Ty,fz,vs,q2,q3,q4,hx,q5⟩:=hb;refine⟨q1,c,Ty,fz,vs,q2,q3,q4,?_,q5⟩;rw[hg]at hx⊢;simp only[fM]at hx⊢;have h1:=RF H ih hq hx hv
     exact gY hj (lH h1) h1)
  rwa[dt]at this
 ·have:=l6 (b_ es) h;rw[this]at hj;exact ih.trans hj
theorem Inv.cS(H:Inv P Γ N g h w){i j k k0:Nat}(E:TypeId){cs:List AV}(hi:h[i]? =some (.cells cs))(hj:cs[j]? =some (.list true k0 []))(hk:0<k):
 ∃g',Inv P Γ N g' ((h++[Ob.row k E [] none true false]).set i (.cells (cs.set j (.sl h.length 0 0)))) w/\Ext h.length g h g' ((h++[Ob.row k E [] none true false]).set i (.cells (cs.set j (.sl h.length 0 0)))):=by
 have hg:=Ext.push (g:=g) (h:=h) [Ob.row k E [] none true false] none
 have H1:Inv P Γ N (g.bP h.length none) (h++[Ob.row k E [] none true false]) w:=by
  refine Inv.push (r:=none) H rfl rfl rfl (fun _ _=>rfl) (aT _) (fun b x hb=>by cases hb) ?_ (fun j o hj=>by simp at hj);simp only[OV];rw[du];exact⟨hk,by simp,fun _=>rfl,by simp,trivial⟩
 have h4:(h++[Ob.row k E [] none true false])[i]? =some (.cells cs):=by rw[cF (bd hi)];exact hi
 have ih:=Ext.HP (g:=g.bP h.length none) (vs':=cs.set j (.sl h.length 0 0)) h4;have hf:=bd h4
 have ps:h.length≠i:=by have:=bd hi;omega
 refine⟨g.bP h.length none,?_,?_⟩
 ·have:=Inv.set (r:=(g.bP h.length none).ρ i) (w':=w) (o':=.cells (cs.set j (.sl h.length 0 0))) H1 hf ih rfl rfl rfl (fun _ _ _=>rfl) (aT _)
   (fun b y hy=>⟨Or.inl ⟨y,hy⟩,(H1.own i b y hy).2⟩)
   (fun b y o v _ hv=>H1.mem b o v hv)
   (by
    intro b sz st o v hy e1;obtain⟨k2,E2,hz,ys,h7,h2,h3⟩:=H1.fo i b sz st o v hy e1;rw[h4]at h2
    cases h2)
   (by
    rw[dt];simp only[OV];intro b sz st hb;have hq:=H1.ob i _ h4;simp only[OV]at hq;obtain⟨c,Ty,fz,q1,q2,q3⟩:=hq b sz st hb;refine⟨c,Ty,fz,q1,q2,?_⟩;obtain⟨v,ht,hd⟩:=sy q3 hj;simp only[V]at hd;obtain⟨_,a,cap,rfl,hp,_,_⟩:=hd
    have hc:cap=0:=by simpa using hp trivial
    subst hc
    have hx:V (g.bP h.length none) ((h++[Ob.row k E [] none true false]).set i (.cells (cs.set j (.sl h.length 0 0)))) (.sl h.length 0 0) (.slice a ([]:List AV).length 0):=by
     simp only[V];refine⟨k,E,[],none,true,false,?_,by simp,a,0,rfl,by simp,by simp,fun _=>⟨by simp,Or.inl ⟨rfl,rfl⟩⟩⟩;rw[dW (Ne.symm ps)];simp
    have hl:=ih;rw[dt]at hl;have e2:=cM hl (dM q3) q3;have h5:=ra j e2 hx
    have h6:c.toList.set j (.slice a ([]:List AV).length 0)=c.toList:=by
     apply iX;intro m
     by_cases hm:j=m
     ·subst hm;rw[ff (bd ht),ht]
     ·rw[dW hm]
    rwa[h6]at h5)
  rwa[dt]at this
 ·rw[dt]at ih;exact hg.trans (ih.mono (by simp))
theorem Pt{g:G}{h:List Ob}{r:Nat}(hr:∀a,V g h (.sl r 0 0) (.slice a 0 0)):∀{es:List AV}{vs:List Value}{j k0:Nat},VE g h es vs->es[j]? =some (.list true k0 [])->VE g h (es.set j (.sl r 0 0)) vs
 |[],_,_,_,_,hj=>by simp at hj
 |e::es,vs,0,k0,hv,hj=>by
  simp only[rV,an]at hj;subst hj;simp only[VE]at hv;obtain⟨v,vs',h1,rfl,h2⟩:=hv;simp only[V]at h1;obtain⟨_,a,cap,rfl,hc,_,_⟩:=h1
  have hb:cap=0:=by simpa using hc trivial
  subst hb;simp only[xv,VE];exact⟨_,vs',hr a,rfl,h2⟩
 |e::es,vs,j+1,k0,hv,hj=>by
  simp only[oB]at hj;simp only[VE]at hv;obtain⟨v,vs',h1,rfl,h2⟩:=hv;simp only[rQ,VE];exact⟨v,vs',h1,rfl,Pt hr h2 hj⟩
theorem Inv.Dv(H:Inv P Γ N g h w){i j k k0:Nat}(E:TypeId){E0:TypeId}{es:List AV}{fl sh:Bool}(hi:h[i]? =some (.row 1 E0 es none fl sh))(hj:es[j]? =some (.list true k0 []))(hk:0<k):
 ∃g',Inv P Γ N g' ((h++[Ob.row k E [] none true false]).set i (.row 1 E0 (es.set j (.sl h.length 0 0)) none false sh)) w/\Ext h.length g h g' ((h++[Ob.row k E [] none true false]).set i (.row 1 E0 (es.set j (.sl h.length 0 0)) none false sh)):=by
 have hp:=Ext.push (g:=g) (h:=h) [Ob.row k E [] none true false] none
 have H1:Inv P Γ N (g.bP h.length none) (h++[Ob.row k E [] none true false]) w:=by
  refine Inv.push (r:=none) H rfl rfl rfl (fun _ _=>rfl) (aT _) (fun b x hb=>by cases hb) ?_ (fun j o hj=>by simp at hj);simp only[OV];rw[du];exact⟨hk,by simp,fun _=>rfl,by simp,trivial⟩
 have hc:(h++[Ob.row k E [] none true false])[i]? =some (.row 1 E0 es none fl sh):=by rw[cF (bd hi)];exact hi
 have hlen:(es.set j (.sl h.length 0 0)).length=es.length:=by simp
 have hl:Ext (h++[Ob.row k E [] none true false]).length (g.bP h.length none) (h++[Ob.row k E [] none true false]) (g.bP h.length none) ((h++[Ob.row k E [] none true false]).set i (.row 1 E0 (es.set j (.sl h.length 0 0)) none false sh)):=by
  have:=Ext.qU (E':=E0) (es':=es.set j (.sl h.length 0 0)) (gr':=none) (fl':=false) (sh':=sh) (ρ':=(g.bP h.length none).ρ i) hc (by omega) (fun off m hd h5=>⟨by rw[<-Qj hlen];exact h5,hlen,fun _ x=>x⟩);rwa[dt]at this
 have h4:=bd hc
 have hq:h.length≠i:=by have:=bd hi;omega
 refine⟨g.bP h.length none,?_,hp.trans (hl.mono (by simp))⟩
 have:=Inv.set (r:=(g.bP h.length none).ρ i) (w':=w) (o':=.row 1 E0 (es.set j (.sl h.length 0 0)) none false sh) H1 h4 (by rw[dt];exact hl) rfl rfl rfl (fun _ _ _=>rfl) (aT _)
  (fun b y hy=>⟨Or.inl ⟨y,hy⟩,(H1.own i b y hy).2⟩)
  (fun b y o v _ hv=>H1.mem b o v hv)
  (by
   intro b sz st o v hy ht;obtain⟨k2,E2,hg,ps,e1,h2,h3⟩:=H1.fo i b sz st o v hy ht;rw[hc]at h2;simp only[an,Ob.row.injEq]at h2;obtain⟨rfl,rfl,rfl,rfl,rfl,rfl⟩:=h2
   exact⟨_,_,_,_,_,rfl,by rw[hlen];exact h3⟩)
  (by
   rw[dt];have hf:=H1.ob i _ hc;simp only[OV]at hf⊢;obtain⟨_,hK,_,e2,hb⟩:=hf;refine⟨by omega,?_,by simp,by simp,?_⟩
   ·intro e he
    rcases qu he with he|rfl
    ·exact hK e he
    ·exact⟨rfl,rfl⟩
   ·cases hρ:(g.bP h.length none).ρ i with
    |none=>
     rw[hρ]at hb;simp only at hb;subst hb;simp at hj
    |some y=>
     obtain⟨b,sz,st⟩:=y;rw[hρ]at hb;simp only at hb⊢;obtain⟨q1,c,Ty,fz,vs,q2,q3,q4,ih,q5⟩:=hb;refine⟨q1,c,Ty,fz,vs,q2,q3,q4,?_,q5⟩;simp only[vf,fM]at ih⊢
     have hx:∀a,V (g.bP h.length none) ((h++[Ob.row k E [] none true false]).set i (.row 1 E0 (es.set j (.sl h.length 0 0)) none false sh)) (.sl h.length 0 0) (.slice a ([]:List AV).length 0):=by
      intro a;simp only[V];refine⟨k,E,[],none,true,false,?_,by simp,a,0,rfl,by simp,by simp,fun _=>⟨by simp,Or.inl ⟨rfl,rfl⟩⟩⟩;rw[dW (Ne.symm hq)];simp
     exact Pt hx (gY hl (lH ih) ih) hj)
 rwa[dt]at this
def my(h:List Ob)(a:AV):AV:=(view h a).getD a
theorem Tj(H:Inv P Γ N g h w){g':G}{h':List Ob}(x:Ext h.length g h g' h'){a:AV}{u:Value}(hc:∀i∈rowsOf a,rM g' h w g i)(hv:V g h a u):V g' h' (my h a) u:=by
 unfold my
 cases hw:view h a with
 |none=>exact gZ x (mj hv) hv
 |some a'=>exact uB H x hc hv hw
theorem M9{i:Nat}{cs:List AV}:∀(is:List Nat)(h:List Ob),h[i]? =some (.cells cs)->(share is h)[i]? =some (.cells cs)
 |[],h,hi=>hi
 |j::is,h,hi=>M9 is _ (by
   rw[Bv,hi]
   by_cases hj:j=i<;>simp[hj,eI])
theorem Inv.iE(H:Inv P Γ N g h w){i:Nat}(j:Nat){cs:List AV}(hi:h[i]? =some (.cells cs)):
 ∃g',Inv P Γ N g' ((share (rowsOf (cs.getD j .undef)) h).set i (.cells (cs.set j (my h (cs.getD j .undef))))) w/\Ext h.length g h g' ((share (rowsOf (cs.getD j .undef)) h).set i (.cells (cs.set j (my h (cs.getD j .undef))))):=by
 obtain⟨g1,hq,ht,ps,H1,ih,hd⟩:=pC (rowsOf (cs.getD j .undef)) H;have hj:=M9 (rowsOf (cs.getD j .undef)) h hi;have hk:=Ext.HP (g:=g1) (vs':=cs.set j (my h (cs.getD j .undef))) hj;have h4:=bd hj;refine⟨g1,?_,?_⟩
 ·have:=Inv.set (r:=g1.ρ i) (w':=w) (o':=.cells (cs.set j (my h (cs.getD j .undef)))) H1 h4 hk rfl rfl rfl (fun _ _ _=>rfl) (aT _)
   (fun b y hy=>⟨Or.inl ⟨y,hy⟩,(H1.own i b y hy).2⟩)
   (fun b y o v _ hv=>H1.mem b o v hv)
   (by
    intro b sz st o v hy hg;obtain⟨k2,E2,e1,e2,hz,h2,h3⟩:=H1.fo i b sz st o v hy hg;rw[hj]at h2
    cases h2)
   (by
    rw[dt];simp only[OV];intro b sz st hb;have hf:=H.ob i _ hi;simp only[OV]at hf;rw[hq]at hb;obtain⟨c,Ty,fz,q1,q2,q3⟩:=hf b sz st hb;refine⟨c,Ty,fz,q1,q2,?_⟩;have hc:=hk;rw[dt,l6]at hc;have hp:=ih.trans hc;have hx:=Tj H hp hd (uy j q3);have h5:=ra j (cM hp (dM q3) q3) hx
    have h6:c.toList.set j (c.toList.getD j undef)=c.toList:=by
     apply iX;intro m
     by_cases hm:j=m
     ·subst hm;rw[qy]
      by_cases hl:j<c.toList.length
      ·rw[if_pos rfl,if_pos hl,bz,aW hl];rfl
      ·rw[if_pos rfl,if_neg hl,gy (by omega)]
     ·rw[dW hm]
    rwa[h6]at h5)
  rwa[dt]at this
 ·rw[dt,l6]at hk;exact ih.trans hk
theorem aid{o:Oper}{k:Nat}{zs:List AV}{ps:List (Nat×AX)}(hc:cg P o=some (.lit k zs ps)):
 ∃ty n parts e z,o.op=.buildSlice ty n parts/\P.underlying ty=some (.slice e)/\bH P e=some k/\0<k/\eB P e=some z/\lT k z=true/\n*k<=2^24/\zs=List.replicate n z/\ps=parts.toList.map fun q=>(q.1,ay q.2):=by
 cases ho:o.op with
 |buildSlice ty n parts=>
  simp only[cg,ho]at hc
  cases hE:mi P ty with
  |none=>simp[hE]at hc
  |some e=>
  cases hk:bH P e with
  |none=>simp[hE,hk]at hc
  |some k2=>
  cases hz:eB P e with
  |none=>simp[hE,hk,hz]at hc
  |some z=>
  simp only[hE,hk,hz,qz,lv]at hc
  split at hc
  ·cases hc
  ·rename_i h2;simp only[an,AO.lit.injEq]at hc;obtain⟨rfl,rfl,rfl⟩:=hc;simp only[not_or]at h2;obtain⟨c1,c2,c3⟩:=h2;refine⟨ty,n,parts,e,z,rfl,?_,hk,by omega,hz,by simpa using c3,by omega,rfl,rfl⟩;unfold mi at hE
   split at hE<;>simp_all
 |call c=>
  exfalso;simp only[cg,ho,nY]at hc
  (repeat' split at hc)<;>first|(cases hc;done)|(simp[pt]at hc;done)|(simp only[qz,pt,cm]at hc;obtain⟨_,_,h1⟩:=hc;revert h1;simp;done)|(simp only[qz,pt]at hc;obtain⟨_,_,_,_,_,_,_,_,h1⟩:=hc;revert h1;split<;>(try split)<;>simp;done)|skip
 |_=>exfalso;simp only[cg,ho]at hc;(repeat' split at hc)<;>first|contradiction|(cases hc;done)|(simp[pt]at hc;done)|skip
theorem afk(H:Inv P Γ N g h w){r:Operand->Value}{t:List AV}{o:Oper}{ty e:TypeId}{n:Nat}{ps:Array (Nat×Operand)}(ho:o.op=.buildSlice ty n ps)(hu:P.underlying ty=some (.slice e)){k:Nat}(hk:bH P e=some k)(hp:0<k)
 {z:AV}(hz:eB P e=some z)(q1:lT k z=true)(e2:n*k<=2^24)(he:∀x,V g h (ax t (ay x)) (r x))
 {es:List AV}(hf:oZ k (List.replicate n z) ((ps.toList.map fun q=>(q.1,ay q.2)).map fun q=>(q.1,ax t q.2))=some es){fl:Bool}(h5:fl=true->cG es k=true)(E:TypeId):
 aO P Γ N r o w g h (h++[.row k E es none fl false]) (some (.sl h.length 0 es.length)):=by
 obtain⟨zv,hq,rfl⟩:=vS hz;simp only[lT,aB,bj]at q1;obtain⟨⟨hy,ht⟩,hd⟩:=q1;have hc:=vJ hy
 have hF:F2 (fun(p:Nat×AV) (q:Nat×Value)=>p.1=q.1/\V g h p.2 q.2) ((ps.toList.map fun q=>(q.1,ay q.2)).map fun q=>(q.1,ax t q.2)) (ps.map fun q=>(q.1,r q.2)).toList:=by
  rw[Array.toList_map,iW];generalize ps.toList=l
  induction l with
  |nil=>exact .nil
  |cons q l ih=>exact .cons ⟨rfl,he q.2⟩ ih
 have hx:=vz (oM g h zv) n;have hg:=vF hc n
 let zs:Array Value:=(Array.range (n*k)).map fun i=>(if n*k=0 then#[]else zv.cells)[i%(if n*k=0 then#[]else zv.cells).size]!
 have q2:zs.toList=(List.replicate n zv.cells.toList).flatten:=by
  simp only[zs]
  by_cases hv:n*k=0
  ·have:n=0:=by
    rcases LX.1 hv with h1|h1
    ·exact h1
    ·omega
   simp[this]
  ·simp only[hv,dq,hc];exact hg
 obtain⟨us,h1,h2,h3,h4⟩:=GR (zs:=zs) hF hf (ly (vr hy ht hd n)) (by rw[q2];exact hx)
 have hlen:es.length=n:=by rw[h4,qx]
 have hj:us.toList.length=n*k:=by rw[jD h3 h2,hlen]
 have hl:(Instr.buildSlice ty n (ps.map fun q=>(q.1,r q.2))).run P w=.ok (.slice (some ⟨w.heap.size,0,none⟩) n n) (w.alloc (.cells (us.toList++[]).toArray e)):=by
  have e1:(us.toList++[]).toArray=us:=by simp
  rw[e1];simp only[Instr.buildSlice,Sem.run_bind,run_underlying hu,Result.andThen_ok,jQ hk];rw[if_neg (by omega)]
  by_cases hv:n*k=0
  ·have hb:zs=(Array.range (n*k)).map fun i=>(#[]:Array Value)[i%(#[]:Array Value).size]! :=by simp only[zs,hv,cE]
   rw[hb]at h1;rw[if_pos hv];simp only[Sem.run_bind,Sem.run_pure,Result.andThen_ok];rw[h1];simp[newRow]
  ·have hb:zs=(Array.range (n*k)).map fun i=>zv.cells[i%zv.cells.size]! :=by simp only[zs,hv,dq]
   rw[hb]at h1;rw[if_neg hv];simp only[Sem.run_bind,hq,Sem.run_pure,Result.andThen_ok];rw[h1];simp[newRow]
 refine aO.make (w':=w) H rfl rfl rfl rfl (sz:=n*k) (by simp only[execOp,ho];rw[Sem.run_bind,hl];rfl) ?_ (by simp) ?_
 ·exact Dr (P:=P) hp h3 h5 (du _ _ _) (mM w _) (by simpa using hj.symm) (v8 _) (gY (Ext.push _ _) (lH h2) h2)
 ·have:=CO (h:=h) (g':=g.bP h.length (some (w.heap.size,n*k,0))) (k:=k) (E:=E) (es:=es) (os:=[]) (fl:=fl) (sh:=false) (du _ _ _) (cap:=n) (by omega) (aT _);rw[hlen]at this⊢;exact this
end
def gT(n:Nat)(τ:List Nat)(i:Nat):Nat:=if i<n then i else n+τ.idxOf (i-n)
def fK(n:Nat)(τ:List Nat)(i:Nat):Bool:=decide (i<n)||τ.contains (i-n)
mutual
def ee(n:Nat)(τ:List Nat):AV->AV
 |.sl i off m=>.sl (gT n τ i) off m
 |.ptr i off=>.ptr (gT n τ i) off
 |.mp i=>.mp (gT n τ i)
 |.it i=>.it (gT n τ i)
 |.de i=>.de (gT n τ i)
 |.dw a k ix off=>.dw (ee n τ a) k ix off
 |.agg cs=>.agg (cJ n τ cs)
 |.aH cs=>.aH (cJ n τ cs)
 |.fn f a b=>.fn f (cJ n τ a) (cJ n τ b)
 |.bW t v=>.bW t (ee n τ v)
 |.dG ks vs=>.dG (cJ n τ ks) (cJ n τ vs)
 |.list f k es=>.list f k es
 |.own k E es=>.own k E es
 |.undef=>.undef
 |.bool b=>.bool b
 |.int k x=>.int k x
 |.str s=>.str s
 |.jn=>.jn
 |.dk=>.dk
 |.dn=>.dn
 |.fv=>.fv
 |.eP g off=>.eP g off
def cJ(n:Nat)(τ:List Nat):List AV->List AV
 |[]=>[]
 |a::as=>ee n τ a::cJ n τ as
end
mutual
def f_(n:Nat)(τ:List Nat):AV->Bool
 |.sl i _ _|.ptr i _|.mp i|.it i|.de i=>fK n τ i
 |.dw a _ _ _=>f_ n τ a
 |.agg cs|.aH cs=>eG n τ cs
 |.fn _ a b=>eG n τ a&&eG n τ b
 |.bW _ v=>f_ n τ v
 |.dG ks vs=>eG n τ ks&&eG n τ vs
 |_=>true
def eG(n:Nat)(τ:List Nat):List AV->Bool
 |[]=>true
 |a::as=>f_ n τ a&&eG n τ as
end
def oe(n:Nat)(τ:List Nat):List (AV×AV)->List (AV×AV)
 |[]=>[]
 |(a,b)::r=>(ee n τ a,ee n τ b)::oe n τ r
def rP(n:Nat)(τ:List Nat):List (AV×AV)->Bool
 |[]=>true
 |(a,b)::r=>f_ n τ a&&f_ n τ b&&rP n τ r
def lW(n:Nat)(τ:List Nat):Ob->Ob
 |.cells cs=>.cells (cJ n τ cs)
 |.row k E es g fl sh=>.row k E (if fl=true then es else cJ n τ es) g fl sh
 |.map es fl=>.map (oe n τ es) fl
 |.loop st j fn t ps a b=>.loop st j fn (cJ n τ t) ps a b
 |o=>o
def mw(n:Nat)(τ:List Nat):Ob->Bool
 |.cells cs=>eG n τ cs
 |.row _ _ es _ fl _=>fl||eG n τ es
 |.map es _=>rP n τ es
 |.loop _ _ _ t _ _ _=>eG n τ t
 |_=>true
def tc(n:Nat)(τ:List Nat):List Ob->Bool
 |[]=>true
 |o::os=>mw n τ o&&tc n τ os
def gO(n:Nat)(τ:List Nat):List Ob->Bool
 |[]=>true
 |.loop _ _ _ t _ _ _::os=>aN n t&&gO n τ os
 |o::os=>mw n τ o&&gO n τ os
def jZ(n:Nat)(τ:List Nat):List Ob->List Ob
 |[]=>[]
 |o::os=>lW n τ o::jZ n τ os
def n7(h:List Ob)(n:Nat):List Nat->List Ob
 |[]=>[]
 |j::js=>h.getD (n+j) .gone::n7 h n js
def jX(n:Nat)(τ:List Nat)(h:List Ob):List Ob:=jZ n τ (h.take n++n7 h n τ)
mutual
theorem ke{n:Nat}{τ:List Nat}:∀{a:AV},aK n a=true->ee n τ a=a
 |.undef,_|.bool _,_|.int _ _,_|.str _,_|.jn,_|.dk,_|.dn,_|.fv,_|.eP _ _,_|.list _ _ _,_|.own _ _ _,_=>rfl
 |.dG ks us,hb=>by simp only[aK,aB]at hb;simp only[ee,ma hb.1,ma hb.2]
 |.sl i _ _,hb|.ptr i _,hb|.mp i,hb|.it i,hb|.de i,hb=>by simp only[aK,bj]at hb;simp only[ee,gT,hb,cE]
 |.dw a _ _ _,hb=>by simp only[aK]at hb;simp only[ee,ke hb]
 |.agg cs,hb|.aH cs,hb=>by simp only[aK]at hb;simp only[ee,ma hb]
 |.fn f a b,hb=>by simp only[aK,aB]at hb;simp only[ee,ma hb.1,ma hb.2]
 |.bW t v,hb=>by simp only[aK]at hb;simp only[ee,ke hb]
theorem ma{n:Nat}{τ:List Nat}:∀{as:List AV},aN n as=true->cJ n τ as=as
 |[],_=>rfl
 |a::as,hb=>by simp only[aN,aB]at hb;simp only[cJ,ke hb.1,ma hb.2]
end
theorem IN{n:Nat}{τ:List Nat}:∀{es:List (AV×AV)},fC n es=true->oe n τ es=es
 |[],_=>rfl
 |(a,b)::es,hb=>by simp only[fC,aB]at hb;simp only[oe,ke hb.1.1,ke hb.1.2,IN hb.2]
theorem RV{n:Nat}{τ:List Nat}{o:Ob}(hb:iL n o=true):lW n τ o=o:=by
 cases o with
 |cells cs=>simp only[iL]at hb;simp only[lW,ma hb]
 |row k E es g fl sh=>
  simp only[iL,fL]at hb;simp only[lW]
  cases fl with
  |true=>rfl
  |false=>
   rcases hb with hb|hb
   ·cases hb
   ·simp[ma hb]
 |map es fl=>simp only[iL]at hb;simp only[lW,IN hb]
 |loop st j fn t ps a b=>simp only[iL]at hb;simp only[lW,ma hb]
 |_=>rfl
theorem nQ{n:Nat}{τ:List Nat}:∀{h:List Ob},cz n h=true->jZ n τ h=h
 |[],_=>rfl
 |o::os,hb=>by simp only[cz,aB]at hb;simp only[jZ,RV hb.1,nQ hb.2]
mutual
theorem j_{n:Nat}{τ:List Nat}:∀{a:AV},aK n a=true->f_ n τ a=true
 |.undef,_|.bool _,_|.int _ _,_|.str _,_|.jn,_|.dk,_|.dn,_|.fv,_|.eP _ _,_|.list _ _ _,_|.own _ _ _,_=>rfl
 |.dG _ _,hb=>by simp only[aK,aB]at hb;simp only[f_,nO hb.1,nO hb.2,oC]
 |.sl i _ _,hb|.ptr i _,hb|.mp i,hb|.it i,hb|.de i,hb=>by simp only[aK]at hb;simp only[f_,fK,hb,Bool.true_or]
 |.dw a _ _ _,hb=>by simp only[aK]at hb;simp only[f_,j_ hb]
 |.agg cs,hb|.aH cs,hb=>by simp only[aK]at hb;simp only[f_,nO hb]
 |.fn f a b,hb=>by simp only[aK,aB]at hb;simp only[f_,nO hb.1,nO hb.2,oC]
 |.bW t v,hb=>by simp only[aK]at hb;simp only[f_,j_ hb]
theorem nO{n:Nat}{τ:List Nat}:∀{as:List AV},aN n as=true->eG n τ as=true
 |[],_=>rfl
 |a::as,hb=>by simp only[aN,aB]at hb;simp only[eG,j_ hb.1,nO hb.2,oC]
end
section
variable{P:Program}{Γ:Nat->Option AV}{N:Env}{g g':G}{h h':List Ob}{w:World}{n:Nat}{τ:List Nat}
theorem wy:∀(as:List AV),(cJ n τ as).length=as.length
 |[]=>rfl
 |a::as=>by simp[cJ,wy as]
theorem Rs:∀(as:List AV)(i:Nat),(cJ n τ as)[i]? =(as[i]?).map (ee n τ)
 |[],i=>by simp[cJ]
 |a::as,0=>by simp[cJ]
 |a::as,i+1=>by simp[cJ,Rs as i]
theorem QV:∀(as:List AV)(i:Nat),(cJ n τ as).drop i=cJ n τ (as.drop i)
 |[],i=>by simp[cJ]
 |a::as,0=>by simp
 |a::as,i+1=>by simp[cJ,QV as i]
theorem aeX(a:AV):(ee n τ a).cells=cJ n τ a.cells:=by
 cases a<;>simp[ee,AV.cells,cJ]
theorem ajk(a:AV):(ee n τ a).one=a.one:=by cases a<;>rfl
theorem R0:∀(as:List AV),cr (cJ n τ as)=cr as
 |[]=>rfl
 |a::as=>by simp[cJ,cr,ajk,R0 as]
theorem R4:∀(es:List (AV×AV)),(oe n τ es).map (·.1)=cJ n τ (es.map (·.1))
 |[]=>rfl
 |(a,b)::es=>by simp[oe,cJ,R4 es]
theorem I8:∀(es:List (AV×AV)),(oe n τ es).map (·.2)=cJ n τ (es.map (·.2))
 |[]=>rfl
 |(a,b)::es=>by simp[oe,cJ,I8 es]
theorem Qh:∀{es:List (AV×AV)},rP n τ es=true->eG n τ (es.map (·.1))=true/\eG n τ (es.map (·.2))=true
 |[],_=>⟨rfl,rfl⟩
 |(a,b)::es,hb=>by
  simp only[rP,aB]at hb;obtain⟨h1,h2⟩:=Qh hb.2;simp only[bX,eG,aB];exact⟨⟨hb.1.1,h1⟩,⟨hb.1.2,h2⟩⟩
theorem P0:∀{as:List AV}(i:Nat),eG n τ as=true->eG n τ (as.drop i)=true
 |[],_,_=>by simp[eG]
 |a::as,0,h=>by simpa using h
 |a::as,i+1,h=>by
  simp only[eG,aB]at h;simpa using P0 i h.2
structure Rn(n:Nat)(τ:List Nat)(g:G)(h:List Ob)(g':G)(h':List Ob):Prop where
 M:g'.M=g.M
 MM:g'.MM=g.MM
 get:∀i o,h[i]? =some o->fK n τ i=true->h'[gT n τ i]? =some (lW n τ o)
 w9:∀i,i<h.length->fK n τ i=true->g'.ρ (gT n τ i)=g.ρ i
theorem Rn.zero(x:Rn n τ g h g' h'):Ext 0 g h g' h':=Ext.zero (fun _ _ _ y=>by rw[x.M];exact y) (fun _ _ y=>by rw[x.MM];exact y)
mutual
theorem Ej(x:Rn n τ g h g' h'):∀{a:AV}{v:Value},f_ n τ a=true->V g h a v->V g' h' (ee n τ a) v
 |.undef,_,_,_=>by simp[ee,V]
 |.bool _,_,_,hv|.int _ _,_,_,hv|.str _,_,_,hv|.jn,_,_,hv|.dk,_,_,hv|.dn,_,_,hv|.fv,_,_,hv|.eP _ _,_,_,hv=>by simpa only [ee,V]using hv
 |.own _ _ _,_,_,hv=>by simp only[V]at hv
 |.list full k es,v,_,hv=>by
  have h0:aK 0 (.list full k es)=true:=by
   simp only[V]at hv;simp only[aK];exact j7 hv.1
  simp only[ee];exact gZ x.zero h0 hv
 |.dG ks us,v,hb,hv=>by
  simp only[f_,aB]at hb;simp only[ee,V]at hv⊢;obtain⟨b,es,ck,h1,h2,h3,h4⟩:=hv;exact⟨b,es,ck,h1,by rw[x.MM];exact h2,nZ x hb.1 h3,nZ x hb.2 h4⟩
 |.sl j off m,v,hb,hv=>by
  simp only[f_]at hb;simp only[ee,V]at hv⊢;obtain⟨k',E',es',gr',fl',sh',h1,h2,a,cap,h3,h4,h5,h6⟩:=hv
  have hlen:(if fl'=true then es' else cJ n τ es').length=es'.length:=by split<;>simp[wy]
  refine⟨k',E',_,gr',fl',sh',x.get _ _ h1 hb,by rw[hlen];exact h2,a,cap,h3,h4,h5,fun hc=>?_⟩;obtain⟨h7,h8⟩:=h6 (by unfold cW at hc⊢;rwa[hlen]at hc);rw[hlen];refine⟨h7,h8.imp id fun h9=>?_⟩;rw[x.w9 j (bd h1) hb];exact h9
 |.dw a _ _ _,v,hb,hv=>by
  simp only[f_]at hb;simp only[ee,V]at hv⊢;obtain⟨u,b,o,h1,h2,⟨m,h4,h5⟩,rfl⟩:=hv;refine⟨u,b,o,Ej x hb h1,h2,⟨m,?_,h5⟩,rfl⟩
  cases a<;>simp only[pY,ee]at h4⊢<;>first|exact h4|cases h4
 |.ptr j off,v,hb,hv=>by
  simp only[f_]at hb;simp only[ee,V]at hv⊢;obtain⟨⟨vs,hj⟩,h2⟩:=hv;exact⟨⟨_,x.get _ _ hj hb⟩,by rw[x.w9 j (bd hj) hb];exact h2⟩
 |.mp j,v,hb,hv=>by
  simp only[f_]at hb;simp only[ee,V]at hv⊢;obtain⟨⟨es,fl,hj⟩,h2⟩:=hv;exact⟨⟨_,_,x.get _ _ hj hb⟩,by rw[x.w9 j (bd hj) hb];exact h2⟩
 |.it j,v,hb,hv=>by
  simp only[f_]at hb;simp only[ee,V]at hv⊢;obtain⟨⟨es,fl,hj⟩,h2⟩:=hv;exact⟨⟨_,_,x.get _ _ hj hb⟩,by rw[x.w9 j (bd hj) hb];exact h2⟩
 |.de j,v,hb,hv=>by
  simp only[f_]at hb;simp only[ee,V]at hv⊢;obtain⟨⟨x1,x2,x3,x4,x5,x6,x7,hj⟩,h2⟩:=hv;exact⟨⟨_,_,_,_,_,_,_,x.get _ _ hj hb⟩,by rw[x.w9 j (bd hj) hb];exact h2⟩
 |.agg cs,v,hb,hv=>by
  simp only[f_]at hb;simp only[ee,V]at hv⊢;obtain⟨vs,rfl,h1⟩:=hv;exact⟨vs,rfl,nZ x hb h1⟩
 |.aH cs,v,hb,hv=>by
  simp only[f_]at hb;simp only[ee,V]at hv⊢;obtain⟨vs,rfl,h1⟩:=hv;exact⟨vs,rfl,nZ x hb h1⟩
 |.fn f a b,v,hb,hv=>by
  simp only[f_,aB]at hb;simp only[ee,V]at hv⊢;obtain⟨xs,ys,rfl,h1,h2⟩:=hv;exact⟨xs,ys,rfl,nZ x hb.1 h1,nZ x hb.2 h2⟩
 |.bW t a,v,hb,hv=>by
  simp only[f_]at hb;simp only[ee,V]at hv⊢;obtain⟨y,rfl,h1⟩:=hv;exact⟨y,rfl,Ej x hb h1⟩
theorem nZ(x:Rn n τ g h g' h'):∀{as:List AV}{vs:List Value},eG n τ as=true->VL g h as vs->VL g' h' (cJ n τ as) vs
 |[],_,_,hv=>by simpa only [cJ,VL]using hv
 |a::as,_,hb,hv=>by
  simp only[cJ,VL]at hv⊢;simp only[eG,aB]at hb;obtain⟨v,vs',rfl,h1,h2⟩:=hv;exact⟨v,vs',rfl,Ej x hb.1 h1,nZ x hb.2 h2⟩
end
theorem Tn(x:Rn n τ g h g' h'):∀{as:List AV}{vs:List Value},eG n τ as=true->VE g h as vs->VE g' h' (cJ n τ as) vs
 |[],_,_,hv=>by simpa only [cJ,VE]using hv
 |a::as,_,hb,hv=>by
  simp only[cJ,VE]at hv⊢;simp only[eG,aB]at hb;obtain⟨v,vs',h1,rfl,h2⟩:=hv;exact⟨v,vs',Ej x hb.1 h1,rfl,Tn x hb.2 h2⟩
theorem Tk(x:Rn n τ g h g' h'){i j:Nat}{o:Ob}(hρ:g'.ρ j=g.ρ i)(hb:mw n τ o=true)(ho:OV P g h w i o):OV P g' h' w j (lW n τ o):=by
 cases o with
 |gone=>trivial
 |cells vs=>
  intro b sz st hv;rw[hρ]at hv;obtain⟨c,E,fz,h1,h2,h3⟩:=ho b sz st hv;exact⟨c,E,fz,h1,h2,nZ x (by simpa only [mw]using hb) h3⟩
 |row k E es gr fl sh=>
  simp only[OV,lW]at ho⊢;obtain⟨h1,h2,h3,h4,h5⟩:=ho
  cases fl with
  |true=>
   simp only[cE];refine⟨h1,h2,fun _=>h3 rfl,h4,?_⟩;rw[hρ]
   cases hr:g.ρ i with
   |none=>rw[hr]at h5;exact h5
   |some y=>
    obtain⟨b,sz,st⟩:=y;rw[hr]at h5;simp only at h5⊢;obtain⟨h6,c,E',fz,vs,h7,h8,h9,hc,hx⟩:=h5;exact⟨h6,c,E',fz,vs,h7,h8,h9,gY x.zero (CB _ (j7 (h3 rfl))) hc,hx⟩
  |false=>
   simp only[mw,pr]at hb;simp only[fe,dq];refine⟨h1,?_,fun hf=>(by cases hf),by rw[wy];exact h4,?_⟩
   ·intro e he;obtain⟨q,hq⟩:=xJ.1 he;rw[Rs,cm]at hq;obtain⟨a,ha,rfl⟩:=hq;have:=h2 a (jz ha);rw[aeX,wy,R0];exact this
   ·rw[hρ]
    cases hr:g.ρ i with
    |none=>
     rw[hr]at h5;simp only at h5⊢;subst h5;rfl
    |some y=>
     obtain⟨b,sz,st⟩:=y;rw[hr]at h5;simp only at h5⊢;obtain⟨h6,c,E',fz,vs,h7,h8,h9,hc,hx⟩:=h5;exact⟨h6,c,E',fz,vs,h7,h8,h9,by rw[QV];exact Tn x (P0 _ hb) hc,hx⟩
 |map es fl=>
  simp only[mw]at hb;obtain⟨q1,q2⟩:=Qh hb;obtain⟨h1,h3⟩:=ho;refine⟨fun hf=>?_,fun b sz st hv=>?_⟩
  ·rw[I8,ma (sn (xu n) (h1 hf))];exact h1 hf
  ·rw[hρ]at hv;obtain⟨bn,ck,h4,h5,h6⟩:=h3 b sz st hv;exact⟨bn,ck,h4,by rw[R4];exact nZ x q1 h5,by rw[I8];exact nZ x q2 h6⟩
 |jf s p=>
  intro b sz st hv;rw[hρ]at hv;exact ho b sz st hv
 |loop st q fn t ps a b=>
  intro bk sz hk hv;rw[hρ]at hv;obtain⟨L,h1,h2,h3,h4,h5,h6⟩:=ho bk sz hk hv;exact⟨L,h1,h2,h3,h4,nZ x (by simpa only [mw]using hb) h5,h6⟩
 |bK live=>
  intro b sz st hv;rw[hρ]at hv;exact ho b sz st hv
theorem Je:∀{h:List Ob}{i:Nat},(jZ n τ h)[i]? =(h[i]?).map (lW n τ)
 |[],i=>by simp[jZ]
 |o::os,0=>by simp[jZ]
 |o::os,i+1=>by simp[jZ,Je (h:=os)]
theorem HI:∀{τ:List Nat}{i:Nat},(n7 h n τ)[i]? =(τ[i]?).map fun j=>h.getD (n+j) .gone
 |[],i=>by simp[n7]
 |j::js,0=>by simp[n7]
 |j::js,i+1=>by simp[n7,HI (τ:=js)]
theorem I':∀{h:List Ob},(jZ n τ h).length=h.length
 |[]=>rfl
 |o::os=>by simp[jZ,I' (h:=os)]
theorem HE:∀{τ:List Nat},(n7 h n τ).length=τ.length
 |[]=>rfl
 |j::js=>by simp[n7,HE (τ:=js)]
theorem RN:∀{h:List Ob}{i:Nat}{o:Ob},tc n τ h=true->h[i]? =some o->mw n τ o=true
 |[],_,_,_,hi=>by simp at hi
 |a::h,0,o,hb,hi=>by
  simp only[tc,aB]at hb
  simp at hi;subst hi;exact hb.1
 |a::h,i+1,o,hb,hi=>by
  simp only[tc,aB]at hb;exact RN hb.2 (by simpa using hi)
theorem I4:∀{h:List Ob}{i:Nat}{o:Ob},gO n τ h=true->h[i]? =some o->mw n τ o=true/\∀st j fn t ps a b,o=.loop st j fn t ps a b->aN n t=true
 |[],_,_,_,hi=>by simp at hi
 |a::h,0,o,hb,hi=>by
  simp at hi;subst hi
  cases a<;>simp only[gO,aB]at hb<;>first
   |exact⟨hb.1,fun _ _ _ _ _ _ _ e=>by cases e⟩
   |exact⟨by simp only[mw];exact nO hb.1,fun _ _ _ _ _ _ _ e=>by cases e;exact hb.1⟩
 |a::h,i+1,o,hb,hi=>by
  have h2:gO n τ h=true:=by
   cases a<;>simp only[gO,aB]at hb<;>exact hb.2
  exact I4 h2 (by simpa using hi)
theorem Inv.gc(H:Inv P Γ N g h w)(hn:n<=h.length)(hτ:∀j∈τ,n+j<h.length)(h6:τ.Nodup)(hp:gO n τ (h.take n)=true)(hq:tc n τ (n7 h n τ)=true):
 ∃g',Inv P Γ N g' (jX n τ h) w/\Ext n g h g' (jX n τ h)/\Rn n τ g h g' (jX n τ h):=by
 let mu:Nat->Option Nat:=fun j=>if j<n then some j else(τ[j-n]?).map (n+·)
 let g':G:={g with ρ:=fun j=>(mu j).bind g.ρ}
 have hold:∀{j i},mu j=some i->i<h.length/\fK n τ i=true/\gT n τ i=j:=by
  intro j i hj;simp only[mu]at hj
  split at hj
  ·rename_i ih
   cases hj
   exact⟨by omega,by simp[fK,ih],by simp[gT,ih]⟩
  ·rename_i ih;rw[cm]at hj;obtain⟨x,hx,rfl⟩:=hj;have hm:=jz hx;refine⟨hτ x hm,by simp[fK,hm],?_⟩;unfold gT;rw[if_neg (by omega),rY];have hd:=bd hx
   have hz:τ[j-n]=x:=by rw[aW hd]at hx;simpa using hx
   have:τ.idxOf x=j-n:=by rw[<-hz];exact h6.idxOf_getElem _ hd
   omega
 have e1:∀{i},fK n τ i=true->mu (gT n τ i)=some i:=by
  intro i hi;simp only[mu,gT]
  by_cases hl:i<n
  ·simp[hl]
  ·simp only[fK,hl,nD,pr,xI,bj]at hi;simp only[hl,dq];rw[if_neg (by omega),rY,aW (List.idxOf_lt_length_of_mem hi),List.getElem_idxOf]
   simp;omega
 have hf:∀i o,h[i]? =some o->fK n τ i=true->(jX n τ h)[gT n τ i]? =some (lW n τ o):=by
  intro i o hi hc;unfold jX;rw[Je]
  by_cases hl:i<n
  ·have:gT n τ i=i:=by simp[gT,hl]
   rw[this,cF (by rw[fw];omega),nC hl,hi];rfl
  ·simp only[fK,hl,nD,pr,xI,bj]at hc
   have:gT n τ i=n+τ.idxOf (i-n):=by simp[gT,hl]
   rw[this,dB (by rw[fw];omega),fw,rR hn,rY,HI,
    aW (List.idxOf_lt_length_of_mem hc),List.getElem_idxOf]
   simp only[dC]
   rw[show n+(i-n)=i by omega,bz,hi];rfl
 have hx:Rn n τ g h g' (jX n τ h):=by
  refine⟨rfl,rfl,hf,fun i hi hc=>?_⟩;simp only[g']
  rw[e1 hc];rfl
 have hy:∀i,i<n->g'.ρ i=g.ρ i:=by
  intro i hi;have:=hx.w9 i (by omega) (by simp[fK,hi]);rwa[show gT n τ i=i by simp[gT,hi]]at this
 have ht:∀i o,i<n->h[i]? =some o->(jX n τ h)[i]? =some (lW n τ o):=by
  intro i o hi ho;have:=hf i o ho (by simp[fK,hi]);rwa[show gT n τ i=i by simp[gT,hi]]at this
 have hE:Ext n g h g' (jX n τ h):=by
  refine⟨fun _ _ _ y=>y,fun _ _ y=>y,fun i vs hi ho=>⟨⟨_,ht i _ hi ho⟩,fun x hx=>by rw[hy i hi];exact hx⟩,fun i es fl hi ho=>⟨⟨_,_,ht i _ hi ho⟩,fun x hx=>by rw[hy i hi];exact hx⟩,
   fun i s p hi ho=>⟨⟨_,_,ht i _ hi ho⟩,fun x hx=>by rw[hy i hi];exact hx⟩,fun i st j fn t ps a b hi ho=>⟨⟨st,j,?_⟩,fun x hx=>by rw[hy i hi];exact hx⟩,
   fun i l hi ho=>⟨⟨_,ht i _ hi ho⟩,fun x hx=>by rw[hy i hi];exact hx⟩,fun i k E es gr fl sh hi ho=>?_⟩
  ·have h1:=ht i _ hi ho;have h2:=(I4 hp (by rw[nC hi];exact ho)).2 _ _ _ _ _ _ _ rfl;simp only[lW,ma h2]at h1;exact h1
  ·have hlen:(if fl=true then es else cJ n τ es).length=es.length:=by split<;>simp[wy]
   refine⟨_,_,_,_,_,ht i _ hi ho,by rw[hlen];exact aT _,fun off m k2 hc=>⟨?_,hlen,fun x hx=>by rw[hy i hi];exact hx⟩⟩;unfold cW at hc⊢;rwa[hlen]at hc
 have hk:∀{j b x},g'.ρ j=some (b,x)->∃i,mu j=some i/\g.ρ i=some (b,x):=by
  intro j b x hj;simp only[g',pt]at hj;exact hj
 have hlen:(jX n τ h).length=n+τ.length:=by
  unfold jX;rw[I',bC,HE,fw,rR hn]
 refine⟨g',⟨H.os,H.tape,H.output,H.gp,fun i b x hi=>?_,?_,?_,H.mem,?_,?_,?_,?_,H.mK,H.ky,H.mz⟩,hE,hx⟩
 ·obtain⟨j,_,h2⟩:=hk hi;exact H.own j b x h2
 ·intro i j b x y hi hj;obtain⟨i',h1,h2⟩:=hk hi;obtain⟨j',h3,h4⟩:=hk hj;have:=H.inj i' j' b x y h2 h4;subst this;rw[<-(hold h1).2.2,<-(hold h3).2.2]
 ·intro i hi;simp only[g',mu]
  rw[if_neg (by omega),gy (by omega)];rfl
 ·intro b es ck hb;obtain⟨h1,h2⟩:=H.mm b es ck hb
  exact⟨h1,fun i x hi=>by
   obtain⟨j,_,h4⟩:=hk hi
   exact h2 j x h4⟩
 ·intro i b sz st o v hi hv;obtain⟨j,h1,h2⟩:=hk hi;obtain⟨q1,q2,q3⟩:=hold h1;obtain⟨k,E,es,gr,fl,h3,h4⟩:=H.fo j b sz st o v h2 hv;have h5:=hf j _ h3 q2;rw[q3]at h5;refine⟨k,E,_,gr,fl,h5,?_⟩
  have:(if fl=true then es else cJ n τ es).length=es.length:=by split<;>simp[wy]
  rw[this];exact h4
 ·intro j o hj;have ys:=bd hj;rw[hlen]at ys;unfold jX at hj;rw[Je,cm]at hj;obtain⟨o0,ho,rfl⟩:=hj
  by_cases ih:j<n
  ·rw[cF (by rw[fw];omega)]at ho;have hc:=(I4 hp ho).1;rw[nC ih]at ho;exact Tk hx (hy j ih) hc (H.ob j o0 ho)
  ·rw[dB (by rw[fw];omega),fw,rR hn]at ho;have hc:=RN hq ho;rw[HI,cm]at ho;obtain⟨x,e2,ho⟩:=ho;have hm:=jz e2;have hd:=hτ x hm
   have h7:h[n+x]? =some o0:=by rw[bz,aW hd]at ho;rw[aW hd];simpa using ho
   have hg:mu j=some (n+x):=by simp only[mu];rw[if_neg ih,e2];rfl
   have hr:g'.ρ j=g.ρ (n+x):=by simp only[g'];rw[hg];rfl
   exact Tk hx hr hc (H.ob _ o0 h7)
 ·intro m a hm;obtain⟨h1,vs,h2,h3⟩:=H.mo m a hm;exact⟨h1,vs,cM hx.zero h1 h2,h3⟩
end
def D0(i m:Nat):Md->Bool
 |.dF v _=>j0 i m v
 |_=>true
def iQ(i m:Nat)(f:Fr):Bool:=dx i m f.t&&pV i m f.ds&&D0 i m f.md
def mc(as:List (List Nat))(done:List Nat)(i:Nat):Bool:=!done.contains i&&(as.getD i []).all fun j=>done.contains j
def gA(as:List (List Nat)):Nat->List Nat->List (List Nat)
 |0,_=>[[]]
 |n+1,done=>((List.range as.length).filter (mc as done)).flatMap fun i=>(gA as n (i::done)).map (i::·)
theorem Rx{ops:Array Oper}(hk:pI ops=true):∀(fuel n:Nat)(listed:Array Bool)(done:List Nat),listed.size=ops.size->(∀i,i<ops.size->listed.getD i true=done.contains i)->left ops.size listed=fuel->
 Region.linearise.go .any ops fuel n listed []∈gA (oQ ops) fuel done
 |0,n,listed,done,_,_,_=>by simp[Region.linearise.go,gA]
 |fuel+1,n,listed,done,hp,hd,hl=>by
  have hv:∀i(h:i<ops.size),∀e∈(ops[i]).after.toList,Region.binds .any e=true->e.on<i:=by
   intro i h e he hb;simp only[pI,eh]at hk;have h6:=hk (ops[i],i) (by rw[Yb];simp[h]);rw[<-tB,eh]at h6;have h7:=h6 e he;rw[hb]at h7;simpa using h7
  have hg:(oQ ops).length=ops.size:=by simp[oQ]
  have hf:((List.range ops.size).filter fun i=>!listed.getD i true&&((ops[i]?).map (·.after.all fun e=>!Region.binds .any e||listed.getD e.on false)).getD false)=(List.range ops.size).filter (mc (oQ ops) done):=by
   refine List.filter_congr fun i hi=>?_
   have hi:=dS.1 hi
   have q2:(oQ ops).getD i []=(ops[i].after.toList.filter (Region.binds .any)).map (·.on):=by
    simp[oQ,bz,hi]
   simp only[mc,q2,hd i hi,kJ hi,dC,kH];congr 1;rw[<-tB,gV,eh,eh];constructor
   ·intro h j hj;simp only[cd,dX]at hj;obtain⟨e,⟨he,hb⟩,rfl⟩:=hj;have h1:=h e he;rw[hb]at h1;have hx:=hv i hi e he hb;rw[wo (by omega) false true,hd e.on (by omega)]at h1;simpa using h1
   ·intro h e he
    cases hb:Region.binds .any e with
    |false=>rfl
    |true=>
     have hx:=hv i hi e he hb;have h1:=h e.on (cd.2 ⟨e,dX.2 ⟨he,hb⟩,rfl⟩);rw[wo (by omega) false true,hd e.on (by omega)];simpa using h1
  have q1:0<((List.range ops.size).filter fun i=>!listed.getD i true&&((ops[i]?).map (·.after.all fun e=>!Region.binds .any e||listed.getD e.on false)).getD false).length:=by
   have hex:∃i,i<ops.size/\listed.getD i true=false:=by
    unfold left at hl;obtain⟨i,hi⟩:=Fu (l:=(List.range ops.size).filter fun i=>!listed.getD i true) (by omega);simp only[dX,dS,j4]at hi;exact⟨i,hi⟩
   have ih:∀m i,i<=m->i<ops.size->listed.getD i true=false->∃i,i<ops.size/\listed.getD i true=false/\∀j,j<i->listed.getD j true=true:=by
    intro m
    induction m with
    |zero=>intro i h1 h2 h3;exact⟨i,h2,h3,fun j hj=>by omega⟩
    |succ m ps=>
     intro i h1 h2 h3
     by_cases h4:∃j,j<i/\listed.getD j true=false
     ·obtain⟨j,h5,h6⟩:=h4;exact ps j (by omega) (by omega) h6
     ·refine⟨i,h2,h3,fun j hj=>?_⟩
      cases hq:listed.getD j true with
      |true=>rfl
      |false=>exact absurd ⟨j,hj,hq⟩ h4
   obtain⟨i0,h1,h2⟩:=hex;obtain⟨i,h3,h4,h5⟩:=ih i0 i0 (aT _) h1 h2;refine Ft (a:=i) ?_;simp only[dX,dS,h4,xC,tA,kJ h3,dC,kH];refine⟨h3,?_⟩;rw[<-tB,eh];intro e he
   cases hb:Region.binds .any e with
   |false=>rfl
   |true=>
    have h7:=hv i h3 e he hb;simp only[rT,pr];rw[wo (by omega) false true];exact h5 _ h7
  simp only[Region.linearise.go,gA];rw[hf]at q1⊢;rw[hg];generalize e1:(List.range ops.size).filter (mc (oQ ops) done)=rs at q1⊢;have hx:n%rs.length<rs.length:=Nat.mod_lt _ q1;rw[aW hx];generalize e2:rs[n%rs.length]=i
  have ht:i∈rs:=by rw[<-e2];exact bA hx
  have hc:=ht;rw[<-e1]at hc;simp only[dX,dS,mc,aB,j4]at hc;obtain⟨h1,h2,_⟩:=hc
  have hz:listed.getD i true=false:=by rw[hd i h1];exact h2
  simp only;rw[linearise_go_acc,Yc,tz];refine qA.2 ⟨i,ht,cd.2 ⟨_,Rx hk fuel _ _ _ (by simpa using hp) ?_ ?_,rfl⟩⟩
  ·intro j hj;simp only[iY,vg]
   by_cases hy:i=j
   ·subst hy;simp[hp,h1]
   ·rw[if_neg hy];have:=hd j hj;rw[iY]at this;rw[this];simp[Ne.symm hy]
  ·have:=Ij h1 hz;omega
inductive Reach(P:Program)(Γ:Nat->Option AV):ar->ar->Prop
 |refl (c:ar):Reach P Γ c c
 |trans {a b c:ar}:Reach P Γ a b->Reach P Γ b c->Reach P Γ a c
 |step (c:ar):Reach P Γ c (iG P Γ c)
 |pure {f:FuncId} {args as:List AV} {r:AV} {up:List Fr} {h:List Ob}:cy h args=some as->aQ P Γ f as r->Reach P Γ (.cl f args up h) (.back up (er h.length r).1 (eV h args r))
 |JY {f:FuncId} {args as:List AV} {v:AV} {up:List Fr} {h:List Ob}:cy h args=some as->mV P Γ f as v->Reach P Γ (.cl f args up h) (.die up v h)
 |kT {f:Fr} {up:List Fr} {h:List Ob} {o:AG} {os:List AG} {k:List It} {c:ar}:f.md=.run->f.its=.ops (o::os)::k->dY f.t o.guard=some true->aD P Γ f.t h o.op=.either->
  (∀b,Reach P Γ (.fr {f with its:=.ops os::k,t:=bl f.t o.dst (.bool b)} up h) c)->Reach P Γ (.fr f up h) c
 |leave {f:FuncId} {args:List AV} {up:List Fr} {h h':List Ob} {v:AV}:Reach P Γ (.cl f args up h) (.back up v h')->aK h.length v=true->cz h.length (h'.take h.length)=true->Reach P Γ (.cl f args up h) (.back up v (h'.take h.length))
 |SB {f:FuncId} {args:List AV} {up:List Fr} {h h':List Ob} {v:AV}:Reach P Γ (.cl f args up h) (.die up v h')->aK h.length v=true->cz h.length (h'.take h.length)=true->Reach P Γ (.cl f args up h) (.die up v (h'.take h.length))
 |drop {f:Fr} {up:List Fr} {h:List Ob} (n:Nat):f.base<=n->lP n f=true->cz n (h.take n)=true->Reach P Γ (.fr f up h) (.fr f up (h.take n))
 |reset {f:Fr} {up:List Fr} {h:List Ob} {i k:Nat} {E:TypeId} {es:List AV} {fl sh:Bool}:f.base<=i->h[i]? =some (.row k E es (some 0) fl sh)->iQ i es.length f=true->c8 i es.length h=true->
  Reach P Γ (.fr f up h) (.fr f up (h.set i (.row k E es none fl sh)))
 |Sf {f:Fr} {up:List Fr} {h:List Ob} {i k:Nat} {E:TypeId} {es:List AV} {fl sh:Bool}:h[i]? =some (.row k E es (some 0) fl sh)->(f::up).all (iQ i es.length)=true->c8 i es.length h=true->
  Reach P Γ (.fr f up h) (.fr f up (h.set i (.row k E es none fl sh)))
 |freeze {f:Fr} {up:List Fr} {h:List Ob} {i k:Nat} {E:TypeId} {es es':List AV} {gr:Option Nat} {fl sh:Bool}:h[i]? =some (.row k E es gr fl sh)->gr.getD 0=0->cy h es=some es'->(b_ es).contains i=false->
  Reach P Γ (.fr f up h) (.fr f up ((share (b_ es) h).set i (.row k E es' gr true sh)))
 |Sz {f:Fr} {up:List Fr} {h:List Ob} (l:List Nat):Reach P Γ (.fr f up h) (.fr f up (share l h))
 |tree {f:Fr} {up:List Fr} {h:List Ob} (i:Nat):Reach P Γ (.fr f up h) (.fr {f with t:=f.t.set i (my h (f.t.getD i .undef))} up (share (rowsOf (f.t.getD i .undef)) h))
 |iE {f:Fr} {up:List Fr} {h:List Ob} {i:Nat} (j:Nat) {cs:List AV}:h[i]? =some (.cells cs)->Reach P Γ (.fr f up h) (.fr f up ((share (rowsOf (cs.getD j .undef)) h).set i (.cells (cs.set j (my h (cs.getD j .undef))))))
 |mN {f:Fr} {up:List Fr} {h:List Ob} {i j k k0:Nat} {cs:List AV} (E:TypeId):h[i]? =some (.cells cs)->cs[j]? =some (.list true k0 [])->0<k->
  Reach P Γ (.fr f up h) (.fr f up ((h++[Ob.row k E [] none true false]).set i (.cells (cs.set j (.sl h.length 0 0)))))
 |Dv {f:Fr} {up:List Fr} {h:List Ob} {i j k k0:Nat} {es:List AV} {E0:TypeId} {fl sh:Bool} (E:TypeId):h[i]? =some (.row 1 E0 es none fl sh)->es[j]? =some (.list true k0 [])->0<k->
  Reach P Γ (.fr f up h) (.fr f up ((h++[Ob.row k E [] none true false]).set i (.row 1 E0 (es.set j (.sl h.length 0 0)) none false sh)))
 |cN {f:Fr} {up:List Fr} {h:List Ob} {d:Option Nat} {gd:Option (Nat×Bool)} {k:Nat} {zs:List AV} {ps:List (Nat×AX)} {os:List AG} {k':List It} {es:List AV} (E:TypeId):f.md=.run->f.its=.ops (⟨d,gd,.lit k zs ps⟩::os)::k'->
  dY f.t gd=some true->oZ k zs (ps.map fun p=>(p.1,ax f.t p.2))=some es->
  Reach P Γ (.fr f up h) (.fr {f with its:=.ops os::k',t:=bl f.t d (.sl h.length 0 es.length)} up (h++[.row k E es none (cG es k) false]))
 |mask {f:Fr} {up:List Fr} {h:List Ob} (m:List Bool):Reach P Γ (.fr f up h) (.fr {f with t:=dJ m f.t} up h)
 |aR {f:Fr} {up:List Fr} {h h':List Ob} {l:List Bool} {ws:List Nat} {gs:List AG} {k:List It} {hv:List (AV×List Ob)} {t':List AV} {obls h2:List iw} {hs:List (List Ob)}:f.md=.run->f.its=.code (.aR l ws gs)::k->
  jm P Γ hv gs f.t h=some (t',h',obls,hs)->(∀o∈obls,o∈h2)->(∀o∈h2,∀up,Reach P Γ (o.f.cfg o.args up o.h) (.back up o.v o.h'))->calm P Γ h2 (h::hs) l ws hv gs f.t h->
  Reach P Γ (.fr f up h) (.fr {f with its:=k,t:=t'} up h')
 |Dm {f:Fr} {up:List Fr} {h h':List Ob} {l:List Bool} {ws:List Nat} {gs:List AG} {k:List It} {hv:List (AV×List Ob)} {t':List AV} {obls h2:List iw} {hs:List (List Ob)} {D:ar} {i:Nat} {E:TypeId} {es:List AV} {gr:Option Nat} {fl sh:Bool} (dies:iw->Prop):f.md=.run->f.its=.code (.aR l ws gs)::k->
  jm P Γ hv gs f.t h=some (t',h',obls,hs)->(∀o∈obls,o∈h2)->(∀o∈h2,¬dies o->∀up,Reach P Γ (o.f.cfg o.args up o.h) (.back up o.v o.h'))->(∀o∈h2,dies o->∀its t,wQ gs f.t t->Reach P Γ (o.f.cfg o.args ({f with its:=its,t:=t}::up) o.h) D)->calm P Γ h2 (h::hs) l ws hv gs f.t h->h'[i]? =some (.row 0 E es gr fl sh)->
  Reach P Γ (.fr f up h) D
 |qS {f:Fr} {up:List Fr} {h:List Ob} {i k k0:Nat} (E:TypeId):f.md=.run->f.t[i]? =some (.list true k0 [])->0<k->
  Reach P Γ (.fr f up h) (.fr {f with t:=f.t.set i (.sl h.length 0 0)} up (h++[Ob.row k E [] none true false]))
 |gc {f:Fr} {up:List Fr} {h:List Ob} (n:Nat) (τ:List Nat):f.md=.run->f.base<=n->n<=h.length->(∀j∈τ,n+j<h.length)->τ.Nodup->eG n τ f.t=true->lQ n f.ds=true->ir n f.its=true->qa n f.kind=true->
  gO n τ (h.take n)=true->tc n τ (n7 h n τ)=true->Reach P Γ (.fr f up h) (.fr {f with t:=cJ n τ f.t} up (jX n τ h))
 |gM {f:Fr} {up:List Fr} {h:List Ob} {as:List (List Nat)} {gs:List AG} {k:List It} {c:ar}:f.md=.run->f.its=.code (.gM as gs)::k->
  (∀l∈gA as as.length [],Reach P Γ (.fr {f with its:=.ops (l.map fun i=>gs.getD i default)::k} up h) c)->Reach P Γ (.fr f up h) c
section
variable{P:Program}{Γ:Nat->Option AV}{N:Env}{g0:G}{f0:FuncId}{cs0:List Frame}
theorem DH{ops:Array Oper}:∀(fuel t:Nat)(listed:Array Bool)(i:Nat),i∈Region.linearise.go .any ops fuel t listed []->i<ops.size
 |0,t,listed,i,h=>by simp[Region.linearise.go]at h
 |fuel+1,t,listed,i,h=>by
  simp only[Region.linearise.go]at h
  split at h
  ·rename_i j hj;rw[linearise_go_acc]at h;simp only[List.reverse_cons,List.reverse_nil,kF,eH,bD]at h
   rcases h with rfl|h
   ·have:=jz hj;simp only[dX,dS]at this;exact this.1
   ·exact DH fuel _ _ i h
  ·simp at h
theorem CS{ops:Array Oper}{gs:List AG}(h:ops.toList.mapM (pf P ops.toList)=some gs):∀{l:List Nat},(∀i∈l,i<ops.size)->J6 P ops (l.map fun i=>gs.getD i default) l
 |[],_=>.nil
 |i::l,hl=>by
  obtain⟨h1,h2⟩:=z8 h
  have hi:i<gs.length:=by rw[h1];simpa using hl i (by simp)
  obtain⟨o,ho,hc⟩:=h2 i _ (aW hi);refine .cons ⟨o,by simpa using ho,?_⟩ (CS h fun j hj=>hl j (dH _ hj));simp only[bz,aW hi];exact hc
def il(P:Program)(Γ:Nat->Option AV)(N:Env)(g0:G)(f0:FuncId)(cs0:List Frame)(c c':ar):Prop:=
 ∀m,dp P Γ N g0 f0 cs0 c m->∃m',Steps P m m'/\dp P Γ N g0 f0 cs0 c' m'
theorem il.trans{a b c:ar}(h1:il P Γ N g0 f0 cs0 a b)(h2:il P Γ N g0 f0 cs0 b c):il P Γ N g0 f0 cs0 a c:=by
 intro m hm;obtain⟨m1,s1,h⟩:=h1 m hm;obtain⟨m2,s2,h⟩:=h2 m1 h;exact⟨m2,s1.trans s2,h⟩
theorem il.step(c:ar):il P Γ N g0 f0 cs0 c (iG P Γ c):=fun _ hm=>adb hm
theorem adT{g:G}{h:List Ob}{i k:Nat}{E:TypeId}{es:List AV}{fl sh:Bool}{f:Fr}{fr:Frame}(hi:h[i]? =some (.row k E es (some 0) fl sh))(hf:iQ i es.length f=true)(S:mr P g h f fr):mr P g (h.set i (.row k E es none fl sh)) f fr:=by
 have hc:=S.md;simp only[iQ,aB]at hf
 have hb:∀{j:Nat}{o:Ob},h[j]? =some o->(∀k E es gr fl sh,o≠Ob.row k E es gr fl sh)->(h.set i (.row k E es none fl sh))[j]? =some o:=by
  intro j o hj h5;rw[dW]
  ·exact hj
  ·rintro rfl
   rw[hi]at hj
   cases hj
   exact h5 _ _ _ _ _ _ rfl
 have hl:∀{l b},LR g h l b->LR g (h.set i (.row k E es none fl sh)) l b:=by
  rintro l b ⟨⟨a1,a2,a3,a4,a5,a6,a7,h1⟩,h2⟩
  exact⟨⟨a1,a2,a3,a4,a5,a6,a7,hb h1 (by simp)⟩,h2⟩
 have hq:∀{k1:List It}{k2:List Item},IR P g h k1 k2->IR P g (h.set i (.row k E es none fl sh)) k1 k2:=by
  intro k1
  induction k1 with
  |nil=>intro k2 hk;cases k2<;>simp only[IR]at hk⊢
  |cons a k1 ih=>
   intro k2 hk
   cases k2 with
   |nil=>cases a<;>simp only[IR]at hk
   |cons b k2=>
    cases a<;>cases b<;>simp only[IR]at hk⊢
    ·exact⟨hk.1,ih hk.2⟩
    ·exact⟨hk.1,ih hk.2⟩
    ·exact⟨hk.1,ih hk.2⟩
    ·exact⟨hk.1,ih hk.2⟩
    ·exact⟨hl hk.1,ih hk.2⟩
    ·exact⟨hl hk.1,ih hk.2⟩
    ·exact ih hk
 have ht:∀{hx:List dO}{h4:List Deferred},pV i es.length hx=true->F2 (DR g h) hx h4->F2 (DR g (h.set i (.row k E es none fl sh))) hx h4:=by
  intro hx h4 hv hd
  induction hd with
  |nil=>exact .nil
  |@cons a b as bs h1 _ ih=>
   cases a with
   |call c args=>
    simp only[pV,aB]at hv;obtain⟨cap,q1,q2⟩:=h1;exact .cons ⟨cap,q1,mL hi hv.1 q2⟩ (ih hv.2)
   |mark l=>
    simp only[pV]at hv;obtain⟨⟨q,q1⟩,q2⟩:=h1;exact .cons ⟨⟨q,hb q1 (by simp)⟩,q2⟩ (ih hv)
 ·refine⟨?_,S.fn,hq S.its,mL hi hf.1.1 S.t,ht hf.1.2 S.ds,?_,S.is⟩
  ·have hv:=hf.2
   cases hy:f.md with
   |run=>rw[hy]at hc;exact hc
   |ret=>rw[hy]at hc;exact hc
   |dF v rc=>
    rw[hy]at hc hv;obtain⟨u,q1,q2⟩:=hc;exact⟨u,q1,wx hi (by simpa only [D0]using hv) q2⟩
  ·have hk:=S.kind
   cases hp:f.kind with
   |norm=>rw[hp]at hk;exact hk
   |bK=>rw[hp]at hk;exact hk
   |round l=>
    rw[hp]at hk;obtain⟨q1,b,q2,q3⟩:=hk;exact⟨q1,b,q2,hl q3⟩
theorem QS{g:G}{h:List Ob}{i k:Nat}{E:TypeId}{es:List AV}{fl sh:Bool}{f0:FuncId}(hi:h[i]? =some (.row k E es (some 0) fl sh)):∀{n:Nat}{l:List Fr}{fs:List Frame},l.all (iQ i es.length)=true->SR P g h f0 n l fs->SR P g (h.set i (.row k E es none fl sh)) f0 n l fs
 |_,[],_,_,h1=>h1
 |n,f::up,fs,hv,h1=>by
  obtain⟨fr,hb,h2,h3,h4,h5,h6,h7⟩:=h1;simp only[tw,aB]at hv;exact⟨fr,hb,h2,adT hi hv.1 h3,h4,h5,h6,QS hi hv.2 h7⟩
theorem Q9{Rl:ar->ar->Prop}(e1:∀a b c,Rl a b->Rl b c->Rl a c)(e2:∀c,Rl c (iG P Γ c)){f:Fr}{up:List Fr}{h h':List Ob}{l:List Bool}{ws:List Nat}{gs:List AG}{k:List It}{hd:List (AV×List Ob)}{t':List AV}{obls hv:List iw}{hs:List (List Ob)}(h4:f.md=.run)(ih:f.its=.code (.aR l ws gs)::k)
 (hr:jm P Γ hd gs f.t h=some (t',h',obls,hs))(hf:∀o∈obls,o∈hv)(h6:∀o∈hv,∀its t,wQ gs f.t t->Rl (o.f.cfg o.args ({f with its:=its,t:=t}::up) o.h) (.back ({f with its:=its,t:=t}::up) o.v o.h'))(hc:calm P Γ hv (h::hs) l ws hd gs f.t h){m:Machine}(hm:dp P Γ N g0 f0 cs0 (.fr f up h) m):
 ∃m1 c1,Steps P m m1/\dp P Γ N g0 f0 cs0 c1 m1/\Rl c1 (.fr {f with its:=k,t:=t'} up h'):=by
 obtain⟨g,w,tmps,todo,ds,kd,ro,md,fs,rfl,S,hy⟩:=hm.inv;rw[h4]at hy;simp only[MR]at hy;subst hy;have hI:=S.its;rw[ih]at hI
 cases todo with
 |nil=>simp only[IR]at hI
 |cons im k'=>
 cases im<;>simp only[IR]at hI
 rename_i c;obtain⟨hC,hk⟩:=hI
 cases c<;>try (simp only[CR]at hC;done)
 rename_i id ops draw
 cases draw<;>simp only[CR]at hC
 obtain⟨hg,q2,rfl,rfl⟩:=hC;simp only[Ar,aB]at q2;obtain⟨⟨hp,h5⟩,hq⟩:=q2;obtain⟨T,H,v,ht,ps,hz,ys,h7,q3⟩:=wc hr hf hc
 have hlen:gs.length=ops.size:=by rw[(z8 hg).1];simp
 have R:rK P Γ ops gs hv h hs T H v:=⟨hlen,hp,h5,ps,h7,q3⟩
 have hj:∀x,Region.schedule (P.follows .mixedOrders) ops x=Region.linearise.go .any ops ops.size x (Array.replicate ops.size false) []:=by
  intro x;unfold Region.schedule;rw[if_pos (by simpa using hq)];rfl
 have hb:∀i d,(Array.replicate ops.size false).getD i d=if i<ops.size then false else d:=by
  intro i d;rw[iY,Yd]
  split<;>rfl
 have F:Bd ops gs T H v (Array.replicate ops.size false) f.t h:=by
  refine⟨by simp,?_,by rw[ht],?_,fun s _=>by rw[ht],0,xu _,ps.symm,fun _ _ h=>by omega,?_⟩
  ·intro i o ho hl;have:=bd (l:=ops.toList) (i:=i) (a:=o) (by simpa using ho);rw[hb,if_pos (by simpa using this)]at hl
   cases hl
  ·intro j x s hx hl;have:=bd hx;rw[hb,if_pos (by omega)]at hl
   cases hl
  ·intro j x _ hx _;have:=bd hx;rw[hb,if_pos (by omega)]
 have q1:left ops.size (Array.replicate ops.size false)=ops.size:=by
  unfold left;rw[Bx.2,qw];intro i hi;rw[hb,if_pos (by simpa using hi)];rfl
 have h1:=agH (Rl:=Rl) R e1 e2 (by rw[ht];exact h6) h4 (k:=k) ops.size (w.tape w.drawn (.order f.fn id)) _ f.t h F q1;rw[hz,ys]at h1;have S':St P Γ N g0 f0 g h w.drew f up tmps (.code (.region id ops true)::k') ds kd ro fs:=⟨S.H.world rfl rfl rfl rfl,S.M,S.its,S.t,S.ds,S.kind,S.is,S.b,S.z,S.s⟩
 have h2:dp P Γ N g0 f0 cs0 (.fr {f with its:=.ops ((Region.linearise.go .any ops ops.size (w.tape w.drawn (.order f.fn id)) (Array.replicate ops.size false) []).map fun i=>gs.getD i default)::k,t:=f.t} up h)
  (lone (aL f.fn tmps (.inRegion ops (Region.schedule (P.follows .mixedOrders) ops (w.tape w.drawn (.order f.fn id)))::k') ds kd ro) (fs++cs0) w.drew):=by
  rw[hj];exact S'.go h4 (its:=.ops _::k) ⟨CS hg fun i hi=>DH _ _ _ i hi,hk⟩ S.t
 exact⟨_,_,Steps.one Jf,h2,h1⟩
theorem il.aR{f:Fr}{up:List Fr}{h h':List Ob}{l:List Bool}{ws:List Nat}{gs:List AG}{k:List It}{hk:List (AV×List Ob)}{t':List AV}{obls hv:List iw}{hs:List (List Ob)}(hj:f.md=.run)(hb:f.its=.code (.aR l ws gs)::k)
 (hr:jm P Γ hk gs f.t h=some (t',h',obls,hs))(hx:∀o∈obls,o∈hv)(hl:∀o∈hv,∀up,il P Γ N g0 f0 cs0 (o.f.cfg o.args up o.h) (.back up o.v o.h'))(hc:calm P Γ hv (h::hs) l ws hk gs f.t h):
 il P Γ N g0 f0 cs0 (.fr f up h) (.fr {f with its:=k,t:=t'} up h'):=by
 intro m hm;obtain⟨m1,c1,s1,h1,h2⟩:=Q9 (Rl:=il P Γ N g0 f0 cs0) (fun _ _ _ a b=>a.trans b) il.step hj hb hr hx (fun o ho _ _ _=>hl o ho _) hc hm;obtain⟨m',s',h3⟩:=h2 _ h1;exact⟨m',s1.trans s',h3⟩
theorem il.Dm{f:Fr}{up:List Fr}{h h':List Ob}{l:List Bool}{ws:List Nat}{gs:List AG}{k:List It}{hj:List (AV×List Ob)}{t':List AV}{obls hv:List iw}{hs:List (List Ob)}{D:ar}{i:Nat}{E:TypeId}{es:List AV}{gr:Option Nat}{fl sh:Bool}(hl:f.md=.run)(hb:f.its=.code (.aR l ws gs)::k)
 (hr:jm P Γ hj gs f.t h=some (t',h',obls,hs))(hx:∀o∈obls,o∈hv)(q1:∀o∈hv,(∀up,il P Γ N g0 f0 cs0 (o.f.cfg o.args up o.h) (.back up o.v o.h'))\/∀its t,wQ gs f.t t->il P Γ N g0 f0 cs0 (o.f.cfg o.args ({f with its:=its,t:=t}::up) o.h) D)(hc:calm P Γ hv (h::hs) l ws hj gs f.t h)(hi:h'[i]? =some (.row 0 E es gr fl sh)):
 il P Γ N g0 f0 cs0 (.fr f up h) D:=by
 intro m hm
 obtain⟨m1,c1,s1,h1,h2⟩:=Q9 (Rl:=fun a b=>il P Γ N g0 f0 cs0 a D\/il P Γ N g0 f0 cs0 a b) (fun _ _ _ a b=>by
  rcases a with a|a
  ·exact .inl a
  ·rcases b with b|b
   ·exact .inl (a.trans b)
   ·exact .inr (a.trans b)) (fun c=>.inr (il.step c)) hl hb hr hx (fun o ho its t hk=>by
  rcases q1 o ho with h4|h4
  ·exact .inr (h4 _)
  ·exact .inl (h4 its t hk)) hc hm
 rcases h2 with h2|h2
 ·obtain⟨m',s',h3⟩:=h2 _ h1;exact⟨m',s1.trans s',h3⟩
 ·obtain⟨m',s',h3⟩:=h2 _ h1;obtain⟨g,w,fr,fs,_,H,_⟩:=h3;have:=H.ob i _ hi;simp only[OV]at this;omega
theorem G1{f:Fr}{up:List Fr}{h:List Ob}{as:List (List Nat)}{gs:List AG}{k:List It}(h4:f.md=.run)(hc:f.its=.code (.gM as gs)::k){m:Machine}(hm:dp P Γ N g0 f0 cs0 (.fr f up h) m):
 ∃l∈gA as as.length [],∃m1,Steps P m m1/\dp P Γ N g0 f0 cs0 (.fr {f with its:=.ops (l.map fun i=>gs.getD i default)::k} up h) m1:=by
 obtain⟨g,w,tmps,todo,ds,kd,ro,md,fs,rfl,S,hx⟩:=hm.inv;rw[h4]at hx;simp only[MR]at hx;subst hx;have hI:=S.its;rw[hc]at hI
 cases todo with
 |nil=>simp only[IR]at hI
 |cons im k'=>
 cases im<;>simp only[IR]at hI
 rename_i c;obtain⟨hC,hk⟩:=hI
 cases c<;>try (simp only[CR]at hC;done)
 rename_i id ops draw
 cases draw<;>simp only[CR]at hC
 obtain⟨ih,hj,hl,rfl⟩:=hC
 have hv:∀x,Region.schedule (P.follows .mixedOrders) ops x=Region.linearise.go .any ops ops.size x (Array.replicate ops.size false) []:=by
  intro x;unfold Region.schedule;rw[if_pos (by simpa using hl)];rfl
 have h2:∀i d,(Array.replicate ops.size false).getD i d=if i<ops.size then false else d:=by
  intro i d;rw[iY,Yd]
  split<;>rfl
 have hb:left ops.size (Array.replicate ops.size false)=ops.size:=by
  unfold left;rw[Bx.2,qw];intro i hi;rw[h2,if_pos (by simpa using hi)];rfl
 have q1:=Rx hj ops.size (w.tape w.drawn (.order f.fn id)) (Array.replicate ops.size false) [] (by simp) (fun i hi=>by rw[h2,if_pos hi];rfl) hb
 have hf:(oQ ops).length=ops.size:=by simp[oQ]
 have S':St P Γ N g0 f0 g h w.drew f up tmps (.code (.region id ops true)::k') ds kd ro fs:=⟨S.H.world rfl rfl rfl rfl,S.M,S.its,S.t,S.ds,S.kind,S.is,S.b,S.z,S.s⟩;refine⟨_,by rw[hf];exact q1,_,Steps.one Jf,?_⟩;rw[hv];exact S'.go h4 (its:=.ops _::k) ⟨CS ih fun i hi=>DH _ _ _ i hi,hk⟩ S.t
theorem GL{f:Fr}{up:List Fr}{h:List Ob}{o:AG}{os:List AG}{k:List It}(hl:f.md=.run)(hb:f.its=.ops (o::os)::k)(hw:dY f.t o.guard=some true)(ha:aD P Γ f.t h o.op=.either){m:Machine}(hm:dp P Γ N g0 f0 cs0 (.fr f up h) m):
 ∃b m1,Steps P m m1/\dp P Γ N g0 f0 cs0 (.fr {f with its:=.ops os::k,t:=bl f.t o.dst (.bool b)} up h) m1:=by
 obtain⟨g,w,tmps,todo,ds,kd,ro,md,fs,rfl,S,hx⟩:=hm.inv;rw[hl]at hx;simp only[MR]at hx;subst hx;have hI:=S.its;rw[hb]at hI
 cases todo with
 |nil=>simp only[IR]at hI
 |cons im k'=>
 cases im<;>simp only[IR]at hI
 rename_i ops todo;obtain⟨hO,hk⟩:=hI
 cases hO with
 |cons h1 hO=>
 rename_i i rest;obtain⟨op,ih,hj⟩:=h1;obtain⟨hf,hc,hv⟩:=B4 hj S.t hw;have hs:gv P Γ N g h w (⟨tmps,ds⟩:Act).eval op (aD P Γ f.t h o.op):=Oy (a:=⟨tmps,ds⟩) S.H S.t hc
 have q1:=fun x y=>Of (Γ:=Γ) (h:=h) (t:=f.t) hc x y
 rw[ha]at hs q1;obtain⟨b,g',w',nx,h2,h3,h4,u,rfl,h6⟩:=hs;have S1:=S.mono h3 h4 (aT _);have hs1:=St.go (cs0:=cs0) S1 hl (its:=.ops os::k) (todo':=.inRegion ops rest::k') (t:=bl f.t o.dst (.bool b)) (tmps':=nf tmps o.dst u) ⟨hO,by have:=S1.its;rw[hb]at this;exact this.2⟩ (oV S1.t h6);rw[hv]at hs1;have hy:=ID (cs:=fs++cs0) (fn:=f.fn) (k:=k') (rest:=rest) (kd:=kd) (ro:=ro) ih hf (Or.inr (q1 (by simp) (by simp))) h2;rw[<-hv]at hs1;exact⟨b,_,Steps.one hy,by rw[hv]at hs1⊢;exact hs1⟩
theorem S6{g1 g2:G}{h1 h2:List Ob}{n m:Nat}:∀{up:List Fr}{hb hv:List Frame},SR P g1 h1 f0 n up hb->SR P g2 h2 f0 m up hv->SR P g2 h2 f0 n up hv
 |[],_,_,_,b=>b
 |f::up,_,_,a,b=>by
  obtain⟨_,_,_,_,a4,a5,_,_⟩:=a;obtain⟨fr,hc,b2,b3,b4,b5,b6,b7⟩:=b;exact⟨fr,hc,b2,b3,a4,a5,b6,b7⟩
theorem GF{c c':ar}(hr:Reach P Γ c c'):il P Γ N g0 f0 cs0 c c':=by
 induction hr with
 |refl c=>exact fun m hm=>⟨m,.refl _ _,hm⟩
 |trans _ _ h1 h2=>exact h1.trans h2
 |step c=>exact il.step c
 |pure hv hp=>exact fun m hm=>acY hp hv hm
 |JY hv hp=>exact fun m hm=>aew hp hv hm
 |@kT f up h o os k c e1 hy hw ha _ ih=>
  intro m hm;obtain⟨b,m1,s1,h1⟩:=GL e1 hy hw ha hm;obtain⟨m',s',h7⟩:=ih b _ h1;exact⟨m',s1.trans s',h7⟩
 |@leave f args up h h' v _ hv hh ih=>
  intro m hm;obtain⟨m',s',h7⟩:=ih m hm
  by_cases hn:h'.length<=h.length
  ·rw[cj hn];exact⟨m',s',h7⟩
  refine⟨m',s',?_⟩
  have hlen:(h'.take h.length).length=h.length:=by rw[fw];omega
  obtain⟨g0,w0,e5,ix,_,_,_,_,_,S0,_⟩:=hm
  cases up with
  |nil=>
   obtain⟨g,w,u,fr,e,H,M,hV,h8,h9⟩:=h7;obtain⟨H',x⟩:=H.drop hh;exact⟨_,w,u,fr,e,H',M,gZ x hv hV,h8,h9⟩
  |cons c up=>
   obtain⟨g,w,u,fr,fs,e,H,M,hV,S⟩:=h7;obtain⟨H',x⟩:=H.drop hh;exact⟨_,w,u,fr,fs,e,H',M,gZ x hv hV,by rw[hlen];exact iD x (aT _) (S6 S0 S)⟩
 |@SB f args up h h' v _ hv hh ih=>
  intro m hm;obtain⟨m',s',h7⟩:=ih m hm
  by_cases hn:h'.length<=h.length
  ·rw[cj hn];exact⟨m',s',h7⟩
  refine⟨m',s',?_⟩
  have hlen:(h'.take h.length).length=h.length:=by rw[fw];omega
  obtain⟨g0,w0,e5,ix,_,_,_,_,_,S0,_⟩:=hm
  cases up with
  |nil=>
   obtain⟨g,w,u,fr,e,H,M,hV,h8,h9⟩:=h7;obtain⟨H',x⟩:=H.drop hh;exact⟨_,w,u,fr,e,H',M,gZ x hv hV,h8,h9⟩
  |cons c up=>
   obtain⟨g,w,u,fr,fs,e,H,M,hV,S⟩:=h7;obtain⟨H',x⟩:=H.drop hh;exact⟨_,w,u,fr,fs,e,H',M,gZ x hv hV,by rw[hlen];exact iD x (aT _) (S6 S0 S)⟩
 |@drop f up h n hb hf hh=>
  intro m hm;obtain⟨g,w,tmps,todo,ds,kd,ro,md,fs,rfl,S,e2⟩:=hm.inv;obtain⟨H',x⟩:=S.H.drop hh;have hR:=CC x hf (S.rel e2);refine⟨_,.refl _ _,?_⟩
  by_cases hn:n<=h.length
  ·exact⟨_,w,_,fs,rfl,H',S.M,_,fs,rfl,hR,qP hR,by rw[fw,rR hn];exact hb,S.z,iD (x.mono hb) (aT _) S.s⟩
  ·exact⟨_,w,_,fs,rfl,H',S.M,_,fs,rfl,hR,qP hR,by rw[fw,Nat.min_eq_right (by omega)];exact S.b,S.z,iD (x.mono hb) (aT _) S.s⟩
 |@reset f up h i k E es fl sh hb hi hf hh=>
  intro m hm;obtain⟨g,w,tmps,todo,ds,kd,ro,md,fs,rfl,S,e2⟩:=hm.inv;have H':=S.H.reset hi hh;have x:Ext f.base g h g (h.set i (.row k E es none fl sh)):=Ext.reset hb _;simp only[iQ,aB]at hf
  have ys:∀{j:Nat}{o:Ob},h[j]? =some o->(∀k E es gr fl sh,o≠Ob.row k E es gr fl sh)->(h.set i (.row k E es none fl sh))[j]? =some o:=by
   intro j o hj xc;rw[dW]
   ·exact hj
   ·rintro rfl
    rw[hi]at hj
    cases hj
    exact xc _ _ _ _ _ _ rfl
  have b2:∀{l b},LR g h l b->LR g (h.set i (.row k E es none fl sh)) l b:=by
   rintro l b ⟨⟨a1,a2,a3,a4,a5,a6,a7,h1⟩,h2⟩
   exact⟨⟨a1,a2,a3,a4,a5,a6,a7,ys h1 (by simp)⟩,h2⟩
  have q0:∀{k1:List It}{k2:List Item},IR P g h k1 k2->IR P g (h.set i (.row k E es none fl sh)) k1 k2:=by
   intro k1
   induction k1 with
   |nil=>intro k2 hk;cases k2<;>simp only[IR]at hk⊢
   |cons a k1 ih=>
    intro k2 hk
    cases k2 with
    |nil=>cases a<;>simp only[IR]at hk
    |cons b k2=>
     cases a<;>cases b<;>simp only[IR]at hk⊢
     ·exact⟨hk.1,ih hk.2⟩
     ·exact⟨hk.1,ih hk.2⟩
     ·exact⟨hk.1,ih hk.2⟩
     ·exact⟨hk.1,ih hk.2⟩
     ·exact⟨b2 hk.1,ih hk.2⟩
     ·exact⟨b2 hk.1,ih hk.2⟩
     ·exact ih hk
  have r1:∀{x0:List dO}{lo:List Deferred},pV i es.length x0=true->F2 (DR g h) x0 lo->F2 (DR g (h.set i (.row k E es none fl sh))) x0 lo:=by
   intro x0 lo hv hd
   induction hd with
   |nil=>exact .nil
   |@cons a b as bs h1 _ ih=>
    cases a with
    |call c args=>
     simp only[pV,aB]at hv;obtain⟨cap,q1,q2⟩:=h1;exact .cons ⟨cap,q1,mL hi hv.1 q2⟩ (ih hv.2)
    |mark l=>
     simp only[pV]at hv;obtain⟨⟨q,q1⟩,q2⟩:=h1;exact .cons ⟨⟨q,ys q1 (by simp)⟩,q2⟩ (ih hv)
  have hR:mr P g (h.set i (.row k E es none fl sh)) f (aL f.fn tmps todo ds kd ro md):=by
   refine⟨?_,rfl,q0 S.its,mL hi hf.1.1 S.t,r1 hf.1.2 S.ds,?_,S.is⟩
   ·have hv:=hf.2
    cases x5:f.md with
    |run=>rw[x5]at e2;exact e2
    |ret=>rw[x5]at e2;exact e2
    |dF v rc=>
     rw[x5]at e2 hv;obtain⟨u,q1,q2⟩:=e2;exact⟨u,q1,wx hi (by simpa only [D0]using hv) q2⟩
   ·have hk:=S.kind
    cases ts:f.kind with
    |norm=>rw[ts]at hk;exact hk
    |bK=>rw[ts]at hk;exact hk
    |round l=>
     rw[ts]at hk;obtain⟨q1,b,q2,q3⟩:=hk;exact⟨q1,b,q2,b2 q3⟩
  exact⟨_,.refl _ _,g,w,_,fs,rfl,H',S.M,_,fs,rfl,hR,qP hR,by rw[kD];exact S.b,S.z,iD x (aT _) S.s⟩
 |@Sf f up h i k E es fl sh hi hf hh=>
  intro m hm;obtain⟨g,w,fr,fs,rfl,H,M,S⟩:=hm;refine⟨_,.refl _ _,g,w,fr,fs,rfl,H.reset hi hh,M,?_⟩;rw[kD];exact QS hi hf S
 |@freeze f up h i k E es es' gr fl sh hi hg hv hn=>
  intro m hm;obtain⟨g,w,fr,fs,rfl,H,M,S⟩:=hm;obtain⟨g',H',x⟩:=H.freeze hi hg hv hn;exact⟨_,.refl _ _,g',w,fr,fs,rfl,H',fun b o v hv=>x.M _ _ _ (M b o v hv),iD x (by simp[l6]) S⟩
 |@Sz f up h l=>
  intro m hm;obtain⟨g,w,fr,fs,rfl,H,M,S⟩:=hm;obtain⟨g',_,_,_,H',x,_⟩:=pC l H;exact⟨_,.refl _ _,g',w,fr,fs,rfl,H',fun b o v hv=>x.M _ _ _ (M b o v hv),iD x (by simp[l6]) S⟩
 |@tree f up h i=>
  intro m hm;obtain⟨g,w,fr,fs,rfl,H,M,x8,ad,ck,hR,b3,hb,hz,hS⟩:=hm
  cases ck
  obtain⟨g',_,_,_,H',x,hC⟩:=pC (rowsOf (f.t.getD i .undef)) H;have h5:=CC x b3 hR;have ht:=ra i h5.t (Tj H x hC (uy i hR.t))
  have h6:fr.tmps.toList.set i (fr.tmps.toList.getD i undef)=fr.tmps.toList:=by
   apply iX;intro m
   by_cases hm:i=m
   ·subst hm;rw[qy]
    by_cases hl:i<fr.tmps.toList.length
    ·rw[if_pos rfl,if_pos hl,bz,aW hl];rfl
    ·rw[if_pos rfl,if_neg hl,gy (by omega)]
   ·rw[dW hm]
  rw[h6]at ht;have gu:mr P g' (share (rowsOf (f.t.getD i .undef)) h) {f with t:=f.t.set i (my h (f.t.getD i .undef))} fr:=⟨h5.md,h5.fn,h5.its,ht,h5.ds,h5.kind,h5.is⟩;exact⟨_,.refl _ _,g',w,fr,fs,rfl,H',fun b o v hv=>x.M _ _ _ (M b o v hv),fr,fs,rfl,gu,qP gu,by rw[l6];exact hb,hz,iD (x.mono hb) (aT _) hS⟩
 |@iE f up h i j cs hi=>
  intro m hm;obtain⟨g,w,fr,fs,rfl,H,M,S⟩:=hm;obtain⟨g',H',x⟩:=H.iE j hi;exact⟨_,.refl _ _,g',w,fr,fs,rfl,H',fun b o v hv=>x.M _ _ _ (M b o v hv),iD x (by simp[l6]) S⟩
 |@mN f up h i j k k0 cs E hi hj hk=>
  intro m hm;obtain⟨g,w,fr,fs,rfl,H,M,S⟩:=hm;obtain⟨g',H',x⟩:=H.cS E hi hj hk;exact⟨_,.refl _ _,g',w,fr,fs,rfl,H',fun b o v hv=>x.M _ _ _ (M b o v hv),iD x (by simp) S⟩
 |@Dv f up h i j k k0 es E0 fl sh E hi hj hk=>
  intro m hm;obtain⟨g,w,fr,fs,rfl,H,M,S⟩:=hm;obtain⟨g',H',x⟩:=H.Dv E hi hj hk;exact⟨_,.refl _ _,g',w,fr,fs,rfl,H',fun b o v hv=>x.M _ _ _ (M b o v hv),iD x (by simp) S⟩
 |@cN f up h d gd k zs ps os k' es E e1 hy hw hf=>
  intro m hm;obtain⟨g,w,tmps,todo,ds,kd,ro,md,fs,rfl,S,e2⟩:=hm.inv;rw[e1]at e2;simp only[MR]at e2;subst e2;have hI:=S.its;rw[hy]at hI
  cases todo with
  |nil=>simp only[IR]at hI
  |cons im gg=>
  cases im<;>simp only[IR]at hI
  rename_i ops todo;obtain⟨hO,hk⟩:=hI
  cases hO with
  |cons h1 hO=>
  rename_i i rest;obtain⟨op,j1,e4⟩:=h1;obtain⟨bk,l1,l2⟩:=B4 e4 S.t hw;obtain⟨ty,n,parts,e,z,q1,q2,q3,q4,q5,q6,q7,rfl,rfl⟩:=aid l1;have hs:=afk (t:=f.t) (fl:=cG es k) S.H (r:=(⟨tmps,ds⟩:Act).eval) q1 q2 q3 q4 q5 q6 q7 (fun x=>Ea S.t x) hf id E;obtain⟨g',w',nx,h2,h3,h4,u,rfl,h6⟩:=hs;have S1:=S.mono h3 h4 (by simp);have hs1:=St.go (cs0:=cs0) S1 e1 (its:=.ops os::k') (todo':=.inRegion ops rest::gg) (t:=bl f.t d (.sl h.length 0 es.length)) (tmps':=nf tmps d u) ⟨hO,by have:=S1.its;rw[hy]at this;exact this.2⟩ (oV S1.t h6);have e3:d=op.dst:=l2;have o1:=ID (cs:=fs++cs0) (fn:=f.fn) (k:=gg) (rest:=rest) (kd:=kd) (ro:=ro) j1 bk (Or.inr (by intro c hc;rw[q1]at hc;cases hc)) h2;rw[<-e3]at o1;exact⟨_,Steps.one o1,hs1⟩
 |@mask f up h m=>
  intro mm hm;obtain⟨g,w,tmps,todo,ds,kd,ro,md,fs,rfl,S,e2⟩:=hm.inv;exact⟨_,.refl _ _,St.lp (f:={f with t:=dJ m f.t}) ⟨S.H,S.M,S.its,qT m S.t,S.ds,S.kind,S.is,S.b,S.z,S.s⟩ e2⟩
 |aR e1 hy hr fz _ hc ih=>exact il.aR e1 hy hr fz ih hc
 |Dm dies e1 hy hr fz _ _ hc hi gj r2=>
  exact il.Dm e1 hy hr fz (fun o ho=>by
   by_cases hd:dies o
   ·exact .inr (r2 o ho hd)
   ·exact .inl (gj o ho hd)) hc hi
 |@qS f up h i k k0 E e1 hi hk=>
  intro m hm;obtain⟨g,w,fr,fs,rfl,H,M,x8,ad,ck,hR,b3,hb,hz,hS⟩:=hm
  cases ck
  have hE:=Ext.push (g:=g) (h:=h) [Ob.row k E [] none true false] none
  have H1:Inv P Γ N (g.bP h.length none) (h++[Ob.row k E [] none true false]) w:=by
   refine Inv.push (r:=none) H rfl rfl rfl (fun _ _=>rfl) (aT _) (fun b x hb=>by cases hb) ?_ (fun j o hj=>by simp at hj);simp only[OV];rw[du];exact⟨hk,by simp,fun _=>rfl,by simp,trivial⟩
  have h5:=CC hE b3 hR;obtain⟨v,ss,x7⟩:=sy h5.t hi;simp only[V]at x7;obtain⟨_,a,cap,rfl,k3,_,_⟩:=x7
  have zv:cap=0:=by simpa using k3 trivial
  subst zv
  have hx:V (g.bP h.length none) (h++[Ob.row k E [] none true false]) (.sl h.length 0 0) (.slice a ([]:List AV).length 0):=by
   simp only[V];exact⟨k,E,[],none,true,false,by simp,by simp,a,0,rfl,by simp,by simp,fun _=>⟨by simp,Or.inl ⟨rfl,rfl⟩⟩⟩
  have ht:=ra i h5.t hx
  have h6:fr.tmps.toList.set i (.slice a ([]:List AV).length 0)=fr.tmps.toList:=by
   apply iX;intro m
   by_cases hm:i=m
   ·subst hm;rw[ff (bd ss),ss]
   ·rw[dW hm]
  rw[h6]at ht;have gu:mr P (g.bP h.length none) (h++[Ob.row k E [] none true false]) {f with t:=f.t.set i (.sl h.length 0 0)} fr:=⟨h5.md,h5.fn,h5.its,ht,h5.ds,h5.kind,h5.is⟩;exact⟨_,.refl _ _,_,w,fr,fs,rfl,H1,fun b o v hv=>hE.M _ _ _ (M b o v hv),fr,fs,rfl,gu,qP gu,by simp;omega,hz,iD (hE.mono hb) (aT _) hS⟩
 |@gc f up h n τ e1 hb hn hτ j2 ht hd hi hk hp hq=>
  intro m hm;obtain⟨g,w,fr,fs,rfl,H,M,x8,ad,ck,hR,_,_,hz,hS⟩:=hm;obtain⟨g',H',hE,hx⟩:=H.gc hn hτ j2 hp hq
  cases ck
  have ao:mr P g' (jX n τ h) {f with t:=cJ n τ f.t} fr:=by
   refine⟨?_,hR.fn,mb hE hi hR.its,nZ hx ht hR.t,z7 hE hd hR.ds,I7 hE hk hR.kind,hR.is⟩;have:=hR.md;rw[e1]at this;simp only[e1];exact this
  refine⟨_,.refl _ _,g',w,fr,fs,rfl,H',fun b o v hv=>by rw[hx.M];exact M b o v hv,fr,fs,rfl,ao,qP ao,?_,hz,iD (hE.mono hb) (aT _) hS⟩
  have hl:(jX n τ h).length=n+τ.length:=by
   unfold jX;rw[I',bC,HE,fw,rR hn]
  rw[hl];simp only;omega
 |gM e1 hy _ ih=>
  intro m hm;obtain⟨l,hl,m1,s1,h1⟩:=G1 e1 hy hm;obtain⟨m2,s2,h2⟩:=ih l hl _ h1;exact⟨m2,s1.trans s2,h2⟩
end
def n5(h:List Ob)(all:List Nat):AV->Option Nat
 |.sl i off n=>
  match h[i]? with
  |some (.row _ _ es g true sh)=>if cW es g off n=true/\(off=0/\n=es.length/\sh=false/\all.count i=1)then some i else none
  |_=>none
 |_=>none
def hY(h:List Ob)(all:List Nat)(vs:List AV):List Nat:=vs.filterMap (n5 h all)
def pK(h:List Ob)(all:List Nat)(vs:List AV):List Nat:=vs.flatMap fun a=>if(n5 h all a).isSome=true then[]else rowsOf a
theorem vG{h:List Ob}{all:List Nat}{a:AV}{i:Nat}(ho:n5 h all a=some i):
 ∃k E es gr,a=.sl i 0 es.length/\h[i]? =some (.row k E es gr true false)/\cW es gr 0 es.length=true/\all.count i=1/\qW h all a=some (.own k E es):=by
 unfold n5 at ho
 split at ho
 ·rename_i j off n
  split at ho
  ·rename_i k E es gr sh hj
   split at ho
   ·rename_i hc;simp only[an]at ho;subst ho;obtain⟨h1,rfl,rfl,rfl,h5⟩:=hc;refine⟨k,E,es,gr,rfl,hj,h1,h5,?_⟩;simp[qW,hj,h1,h5]
   ·cases ho
  ·cases ho
 ·cases ho
theorem G3{h:List Ob}{all:List Nat}{a r:AV}(ho:n5 h all a=none)(hr:qW h all a=some r):(r=a/\∃f k es,a=.list f k es)\/view h a=some r:=by
 unfold qW at hr
 split at hr
 ·rename_i j off n;right
  split at hr
  ·rename_i k E es gr sh hj
   split at hr
   ·rename_i h2
    split at hr
    ·rename_i hc;unfold n5 at ho;simp only[hj,h2,xB]at ho;rw[if_pos hc]at ho
     cases ho
    ·simp only[an]at hr;subst hr;simp[view,wJ,hj,h2]
   ·cases hr
  ·cases hr
 ·rename_i f k es;simp only[an]at hr;exact Or.inl ⟨hr.symm,_,_,_,rfl⟩
 ·exact Or.inr hr
theorem G9(h:List Ob)(all:List Nat)(j:Nat):∀(vs:List AV),(b_ vs).count j=(hY h all vs).count j+(pK h all vs).count j
 |[]=>by simp[b_,hY,pK]
 |a::vs=>by
  have ih:=G9 h all j vs;simp only[b_,List.count_append,hY,pK,oD,xK]at ih⊢
  cases ho:n5 h all a with
  |none=>simp;omega
  |some i=>
   obtain⟨k,E,es,gr,rfl,_⟩:=vG ho;simp only[rowsOf,Option.isSome_some,cE,List.count_nil,List.count_cons];omega
theorem abL{h:List Ob}{a r:AV}(hv:view h a=some r):∀k E es,r≠.own k E es:=by
 intro k E es hr;subst hr
 cases a<;>simp[view]at hv
 all_goals (try (split at hv<;>simp at hv))
theorem GC{n:Nat}{r:AV}(hr:∀k E es,r≠.own k E es):fh n r=(r,[]):=by
 cases r<;>first|rfl|exact absurd rfl (hr _ _ _)
theorem CD{h:List Ob}{all:List Nat}{a r:AV}(ho:n5 h all a=none)(hr:qW h all a=some r):∀k E es,r≠.own k E es:=by
 rcases G3 ho hr with⟨rfl,f,k,es,rfl⟩|hv
 ·simp
 ·exact abL hv
theorem IK{h:List Ob}{all:List Nat}:∀{vs rs:List AV},kY h all vs=some rs->∀(n q:Nat)(o:Ob),(cu n rs).2[q]? =some o->
 ∃j k E es gr,(hY h all vs)[q]? =some j/\o=.row k E es none true false/\h[j]? =some (.row k E es gr true false)/\cW es gr 0 es.length=true
 |[],rs,hr,n,q,o,ho=>by
  simp only[kY,an]at hr;subst hr;simp[cu]at ho
 |a::vs,rs,hr,n,q,o,ho=>by
  simp only[kY]at hr
  split at hr
  ·rename_i r hb h1 h2;simp only[an]at hr;subst hr;simp only[cu]at ho
   cases hv:n5 h all a with
   |none=>
    rw[GC (CD hv h1)]at ho;simp only[kF,c_,iz]at ho;simpa only [hY,xK,hv]using IK h2 n q o ho
   |some i=>
    obtain⟨k,E,es,gr,rfl,h3,h4,h5,h6⟩:=vG hv;rw[h1]at h6;simp only[an]at h6;subst h6;simp only[fh,ve,tz]at ho;simp only[hY,xK,hv]
    cases q with
    |zero=>
     simp at ho;exact⟨i,k,E,es,gr,by simp,ho.symm,h3,h4⟩
    |succ q=>
     have:=IK h2 (n+1) q o (by simpa using ho);simpa only [hY,oB]using this
  ·cases hr
theorem G6{h:List Ob}{all:List Nat}{vs:List AV}{j:Nat}(hj:j∈hY h all vs):all.count j=1/\∃k E es gr,h[j]? =some (.row k E es gr true false):=by
 simp only[hY,List.mem_filterMap]at hj;obtain⟨a,_,ha⟩:=hj;obtain⟨k,E,es,gr,_,h2,_,h4,_⟩:=vG ha;exact⟨h4,k,E,es,gr,h2⟩
theorem OZ{j:Nat}:∀(is:List Nat)(h:List Ob),j∉is->(share is h)[j]? =h[j]?
 |[],_,_=>rfl
 |i::is,h,hn=>by
  simp only[share];rw[OZ is _ (fun hm=>hn (dH _ hm)),Bv]
  have:i≠j:=fun e=>hn (by simp[e])
  simp[this]
section
variable{P:Program}{Γ:Nat->Option AV}{N N':Env}{g g2 g2' g3:G}{h hh hh' h3:List Ob}{w w2:World}
theorem JB(H2:Inv P Γ N' g2 hh w2)(x:Ext hh.length g2 hh g2' hh')(x0:Ext 0 g2' hh' g3 h3){all:List Nat}:∀{vs rs:List AV}{us:List Value},(∀i∈pK hh all vs,rM g2' hh w2 g2 i)->VL g2 hh vs us->kY hh all vs=some rs->
 ∀n,(∀q o,(cu n rs).2[q]? =some o->h3[n+q]? =some o)->(∀q j,(hY hh all vs)[q]? =some j->g3.ρ (n+q)=g2.ρ j)->VL g3 h3 (cu n rs).1 us/\qZ rs=true
 |[],rs,us,_,hv,hr,n,_,_=>by
  simp only[kY,an]at hr;subst hr;exact⟨by simpa only [cu,VL]using hv,rfl⟩
 |a::vs,rs,us,hc,hv,hr,n,hy,hρ=>by
  simp only[kY]at hr
  split at hr
  ·rename_i r hp h1 h2;simp only[an]at hr;subst hr;simp only[VL]at hv;obtain⟨u,hf,rfl,hj,ht⟩:=hv
   cases hx:n5 hh all a with
   |none=>
    have hd:=GC (n:=n) (CD hx h1)
    have ys:∀i∈rowsOf a,rM g2' hh w2 g2 i:=fun i hi=>hc i (by simp only[pK,oD,hx];simp[hi])
    have hk:=JB H2 x x0 (vs:=vs) (rs:=hp) (us:=hf) (fun i hi=>hc i (by simp only[pK,oD,a8];exact Or.inr hi)) ht h2 n
     (fun q o hq=>hy q o (by simp only[cu,hd,kF,c_,iz];exact hq))
     (fun q j hq=>hρ q j (by simpa only [hY,xK,hx]using hq))
    have hl:V g3 h3 r u/\rv r=true:=by
     have hg:aK 0 r=true->rv r=true:=by
      intro hb
      cases r<;>first|exact hb|exact absurd rfl (CD hx h1 _ _ _)
     rcases G3 hx h1 with⟨rfl,f,k,es,rfl⟩|ps
     ·have hb:aK 0 (.list f k es)=true:=by
       simp only[V]at hj;simp only[aK];exact j7 hj.1
      exact⟨gZ x0 hb (gZ x (mj hj) hj),hg hb⟩
     ·have hb:=Da H2 hj ps;exact⟨gZ x0 hb (uB H2 x ys hj ps),hg hb⟩
    simp only[cu,hd,c_,iz,VL,qZ,aB];exact⟨⟨u,hf,rfl,hl.1,hk.1⟩,hl.2,hk.2⟩
   |some i=>
    obtain⟨k,E,es,gr,rfl,e1,h4,h5,h6⟩:=vG hx;rw[h1]at h6;simp only[an]at h6;subst h6
    have hk:=JB H2 x x0 (vs:=vs) (rs:=hp) (us:=hf) (fun i hi=>hc i (by simp only[pK,oD,a8];exact Or.inr hi)) ht h2 (n+1)
     (fun q o hq=>by
      have:=hy (q+1) o (by simpa only [cu,fh,ve,tz,oB]using hq)
      rwa[show n+1+q=n+(q+1) by omega])
     (fun q j hq=>by
      have:=hρ (q+1) j (by simpa only [hY,xK,hx,oB]using hq)
      rwa[show n+1+q=n+(q+1) by omega])
    have ih:=hy 0 _ (by simp[cu,fh];rfl);have e2:=hρ 0 i (by simp[hY,hx]);simp only[iz]at ih e2;have hz:=H2.ob i _ e1;simp only[OV]at hz;obtain⟨_,_,h7,_,_⟩:=hz;simp only[cu,fh,ve,VL,qZ,rv,aB];refine⟨⟨u,hf,rfl,?_,hk.1⟩,j7 (h7 (by trivial)),hk.2⟩;simp only[V]at hj⊢;obtain⟨k',E',es',gr',fl',sh',q1,q2,aa,cap,q3,q4,q5,q6⟩:=hj;rw[e1]at q1;simp only[an,Ob.row.injEq]at q1;obtain⟨rfl,rfl,rfl,rfl,rfl,rfl⟩:=q1;refine⟨_,_,_,none,_,_,ih,q2,aa,cap,q3,q4,q5,fun _=>?_⟩;rw[e2];exact q6 h4
  ·cases hr
theorem IV(H:Inv P Γ N g h w)(H2:Inv P Γ {K:=fun b=>w.heap[b]?,M0:=g.M,MM:=g.MM,w0:=w} g2 hh w2)(hM:∀b o v,g.M b o=some v->g2.M b o=some v){vs rs:List AV}{us:List Value}(hv:VL g2 hh vs us)(hr:kY hh (b_ vs) vs=some rs):
 ∃g3,qZ rs=true/\Inv P Γ N g3 (h++(cu h.length rs).2) w2/\VL g3 (h++(cu h.length rs).2) (cu h.length rs).1 us/\(∀i,i<h.length->g3.ρ i=g.ρ i)/\
  (∀b o v,g.M b o=some v->g3.M b o=some v)/\(∀b,b<w.heap.size->w2.heap[b]? =w.heap[b]?):=by
 obtain⟨g2',bs,hz,b2,H2',x,ys⟩:=pC (pK hh (b_ vs) vs) H2
 have hy:∀b,b<w.heap.size->w2.heap[b]? =w.heap[b]? :=by
  intro b hb;rw[H2.gp b w.heap[b] (kJ hb),kJ hb]
 have k2:w.heap.size<=w2.heap.size:=by
  rcases Ye w.heap.size with h0|h0
  ·omega
  ·have:=hy (w.heap.size-1) (by omega);rw[kJ (xs:=w.heap) (by omega)]at this;have:=bd (l:=w2.heap.toList) (i:=w.heap.size-1) (by simpa using this);simp at this;omega
 have ht:∀i b y,g2.ρ i=some (b,y)->w.heap.size<=b/\b<w2.heap.size:=by
  intro i b y hi;obtain⟨h1,h2⟩:=H2.own i b y hi;refine⟨?_,h2⟩
  rcases mF b w.heap.size with h3|h3
  ·simp only[kJ h3]at h1;cases h1
  ·exact h3
 have gg:(hY hh (b_ vs) vs).Nodup:=by
  rw[List.nodup_iff_count];intro j
  by_cases hj:j∈hY hh (b_ vs) vs
  ·have h1:=(G6 hj).1;have h2:=G9 hh (b_ vs) j vs;omega
  ·rw[List.count_eq_zero_of_not_mem hj];omega
 have ps:∀j∈hY hh (b_ vs) vs,j∉pK hh (b_ vs) vs:=by
  intro j hj hs;have h1:=(G6 hj).1;have h2:=G9 hh (b_ vs) j vs;have h3:=Yf.2 hj;have h4:=Yf.2 hs;omega
 generalize hg:hY hh (b_ vs) vs=owned at gg ps
 let g3:G:={ρ:=fun i=>if i<h.length then g.ρ i else(owned[i-h.length]?).bind g2.ρ,M:=g2'.M,MM:=g.MM}
 have hd:∀b o v,g.M b o=some v->g2'.M b o=some v:=fun b o v hv=>b2 _ _ _ (hM _ _ _ hv)
 have hl:∀i,i<h.length->g3.ρ i=g.ρ i:=fun i hi=>if_pos hi
 have hf:∀q,g3.ρ (h.length+q)=(owned[q]?).bind g2.ρ:=fun q=>by
  show(if h.length+q<h.length then _ else _)=_
  rw[if_neg (by omega),show h.length+q-h.length=q by omega]
 have e1:g2'.MM=g.MM:=by rw[hz,H2.ky]
 have hE:Ext h.length g h g3 (h++(cu h.length rs).2):=Ext.app _ hl hd rfl;have x0:Ext 0 g2' (share (pK hh (b_ vs) vs) hh) g3 (h++(cu h.length rs).2):=Ext.zero (fun _ _ _ x=>x) (fun _ _ hx=>by rw[<-e1];exact hx)
 obtain⟨x5,hT⟩:=JB H2 x x0 ys hv hr h.length (fun q o hq=>by rw[dB (by omega),show h.length+q-h.length=q by omega];exact hq) (fun q j hq=>by
  rw[hg]at hq;rw[hf,hq]
  rfl)
 have hc:∀{i b y},g3.ρ i=some (b,y)->(i<h.length/\g.ρ i=some (b,y))\/∃q j,i=h.length+q/\owned[q]? =some j/\g2.ρ j=some (b,y):=by
  intro i b y hi
  by_cases e2:i<h.length
  ·rw[hl i e2]at hi;exact Or.inl ⟨e2,hi⟩
  ·obtain⟨q,rfl⟩:∃q,i=h.length+q:=⟨i-h.length,by omega⟩;rw[hf]at hi
   cases hq:owned[q]? with
   |none=>rw[hq]at hi;cases hi
   |some j=>rw[hq]at hi;exact Or.inr ⟨q,j,rfl,hq,hi⟩
 refine⟨g3,hT,⟨H2.os.trans H.os,H2.tape.trans H.tape,H2.output.trans H.output,?_,?_,?_,?_,H2'.mem,?_,?_,?_,?_,?_,H.ky,H.mz⟩,x5,hl,hd,hy⟩
 ·intro b o hb;exact H2.gp b o (H.gp b o hb)
 ·intro i b y hi
  rcases hc hi with⟨_,h2⟩|⟨q,j,_,_,h2⟩
  ·exact⟨(H.own i b y h2).1,lX (H.own i b y h2).2 k2⟩
  ·obtain⟨h3,h4⟩:=ht j b y h2;refine⟨?_,h4⟩
   cases hk:N.K b with
   |none=>rfl
   |some o=>
    have:=H.gp b o hk;have:=bd (l:=w.heap.toList) (i:=b) (by simpa using this);simp at this;omega
 ·intro i j b y z hi hj
  rcases hc hi with⟨h1,h2⟩|⟨q,p,rfl,h2,h4⟩
  ·rcases hc hj with⟨h5,h6⟩|⟨q',p',rfl,h5,h6⟩
   ·exact H.inj i j b y z h2 h6
   ·have:=(ht p' b z h6).1;have:=(H.own i b y h2).2;omega
  ·rcases hc hj with⟨h5,h6⟩|⟨q',p',rfl,h5,h6⟩
   ·have:=(ht p b y h4).1;have:=(H.own j b z h6).2;omega
   ·have hp:=H2.inj p p' b y z h4 h6;subst hp
    have hq:q=q':=by
     exact(List.getElem?_inj (bd h2) gg).1 (h2.trans h5.symm)
    rw[hq]
 ·intro i hi;rw[bC]at hi;obtain⟨q,rfl⟩:∃q,i=h.length+q:=⟨i-h.length,by omega⟩;rw[hf]
  cases hq:owned[q]? with
  |none=>rfl
  |some j=>
   exfalso
   have hlen:∀{us ws:List AV},kY hh (b_ vs) us=some ws->∀n,(cu n ws).2.length=(hY hh (b_ vs) us).length:=by
    intro us
    induction us with
    |nil=>intro ws hw n;simp only[kY,an]at hw;subst hw;simp[cu,hY]
    |cons a us ih=>
     intro ws hw n;simp only[kY]at hw
     split at hw
     ·rename_i r e4 h1 h2;simp only[an]at hw;subst hw
      cases ho:n5 hh (b_ vs) a with
      |none=>
       simp only[cu,GC (CD ho h1),kF,c_,iz,hY,xK,ho];exact ih h2 n
      |some i=>
       obtain⟨k,E,es,gr,rfl,_,_,_,h6⟩:=vG ho;rw[h1]at h6;simp only[an]at h6;subst h6;simp only[hY]at ih;simp only[cu,fh,tz,hY,xK,ho,bL];rw[ih h2]
     ·cases hw
   have:=hlen hr h.length;rw[hg]at this;have:=bd hq;omega
 ·intro b es ck hb
  have h1:g2.MM b=some (es,ck):=by rw[H2.ky];exact hb
  refine⟨(H2.mm b es ck h1).1,?_⟩;intro i y hi
  rcases hc hi with⟨_,h3⟩|⟨q,p,_,_,h4⟩
  ·exact(H.mm b es ck hb).2 i y h3
  ·exact(H2.mm b es ck h1).2 p y h4
 ·intro i b sz st o v hi hv
  rcases hc hi with⟨h2,h3⟩|⟨q,p,rfl,h2,h4⟩
  ·have hb:=(H.own i b _ h3).2;have h5:=H2'.mK b o v _ hv (kJ hb);obtain⟨k,E,es,gr,fl,h6,h7⟩:=H.fo i b sz st o v h3 h5;exact⟨k,E,es,gr,fl,by rw[cF (bd h6)];exact h6,h7⟩
  ·exfalso;obtain⟨k,E,es,gr,fl,h6,h7⟩:=H2'.fo p b sz st o v (by rw[bs];exact h4) hv;have gu:p∈owned:=jz h2;rw[OZ _ _ (ps p gu)]at h6;rw[<-hg]at gu;obtain⟨_,k',E',es',gr',h8⟩:=G6 gu;rw[h8]at h6
   cases h6
 ·intro i o hi
  by_cases e2:i<h.length
  ·rw[cF e2]at hi;exact oN hE (hl i e2) (fun b y hb=>hy b (H.own i b y hb).2) (H.ob i o hi)
  ·obtain⟨q,rfl⟩:∃q,i=h.length+q:=⟨i-h.length,by omega⟩;rw[dB (by omega),show h.length+q-h.length=q by omega]at hi;obtain⟨j,k,E,es,gr,h2,rfl,h4,h5⟩:=IK hr h.length q o hi;have k1:=H2.ob j _ h4;simp only[OV]at k1⊢;obtain⟨q1,q2,q3,q4,q5⟩:=k1;refine⟨q1,q2,q3,by simp,?_⟩;rw[hg]at h2;rw[hf,h2];simp only[lv]
   have ts:gr.getD 0=0:=by
    cases gr with
    |none=>rfl
    |some lo=>simp only[cW,aB,bj]at h5;simpa using h5.1
   cases e3:g2.ρ j with
   |none=>rw[e3]at q5;exact q5
   |some y=>
    obtain⟨b,sz,st⟩:=y;rw[e3,ts]at q5;simp only[vf]at q5⊢;obtain⟨h6,c,E',fz,ws,h7,h8,h9,zv,b3⟩:=q5;refine⟨h6,c,E',fz,ws,h7,h8,h9,?_,b3⟩;rw[fM]at zv⊢;exact gY x0 (j7 (q3 (by trivial))) (gY (x.mono (xu _)) (j7 (q3 (by trivial))) zv)
 ·intro n a hn;obtain⟨h1,ws,h2,h3⟩:=H.mo n a hn;exact⟨h1,ws,cM hE (dM h2) h2,fun j hj=>hd _ _ _ (h3 j hj)⟩
 ·intro b o v B hv hB;exact H.mK b o v B (H2'.mK b o v B hv (H.gp b B hB)) hB
end
section
variable{P:Program}{Γ:Nat->Option AV}
theorem ahc{N:Env}{g g2:G}{h hh:List Ob}{w w2:World}(H:Inv P Γ N g h w)(H2:Inv P Γ {K:=fun b=>w.heap[b]?,M0:=g.M,MM:=g.MM,w0:=w} g2 hh w2)(hM:∀b o v,g.M b o=some v->g2.M b o=some v){v r:AV}{u:Value}(hv:V g2 hh v u)(hr:wU hh v=some r):
 ∃g3,uE r=true/\Inv P Γ N g3 (h++(er h.length r).2) w2/\V g3 (h++(er h.length r).2) (er h.length r).1 u/\(∀i,i<h.length->g3.ρ i=g.ρ i)/\
  (∀b o v,g.M b o=some v->g3.M b o=some v)/\(∀b,b<w.heap.size->w2.heap[b]? =w.heap[b]?):=by
 by_cases ht:∃vs,v=.aH vs
 ·obtain⟨vs,rfl⟩:=ht;simp only[wU,cm]at hr;obtain⟨rs,hr,rfl⟩:=hr;simp only[V]at hv;obtain⟨us,rfl,hv⟩:=hv;obtain⟨g3,h1,h2,h3,h4⟩:=IV H H2 hM hv hr;exact⟨g3,h1,h2,by simp only[er,V];exact⟨us,rfl,h3⟩,h4⟩
 ·have hc:qW hh (rowsOf v) v=some r:=by
   cases v<;>first|exact hr|exact absurd ⟨_,rfl⟩ ht
  have hk:∀vs,r≠.aH vs:=by
   rintro vs rfl
   cases hb:n5 hh (rowsOf v) v with
   |some i=>
    obtain⟨k,E,es,gr,rfl,_,_,_,h6⟩:=vG hb;rw[hc]at h6
    cases h6
   |none=>
    rcases G3 hb hc with⟨h1,f,k,es,rfl⟩|hx
    ·cases h1
    ·cases v<;>simp[view]at hx
     all_goals first
      |exact ht ⟨_,rfl⟩
      |(split at hx<;>cases hx)
  have hl:kY hh (b_ [v]) [v]=some [r]:=by
   simp[kY,b_,hc]
  have hj:VL g2 hh [v] [u]:=by simp only[VL];exact⟨u,[],rfl,hv,rfl⟩
  obtain⟨g3,h1,h2,h3,h4⟩:=IV H H2 hM hj hl
  have q1:er h.length r=fh h.length r:=by cases r<;>first|rfl|exact absurd rfl (hk _)
  have ih:uE r=rv r:=by cases r<;>first|rfl|exact absurd rfl (hk _)
  have hf:(cu h.length [r]).2=(fh h.length r).2:=by simp[cu]
  have hy:(cu h.length [r]).1=[(fh h.length r).1]:=by simp[cu]
  rw[hf]at h2 h3;rw[hy]at h3;rw[q1,ih];simp only[VL]at h3;obtain⟨u',hp,h5,h6,rfl⟩:=h3
  cases h5
  refine⟨g3,?_,h2,h6,h4⟩;simpa[qZ]using h1
theorem aQ.Ey{f:FuncId}{as:List AV}{r:AV}(hb:dv P f=true)(hr:∀(N:Env)(g0:G)(f0:FuncId)(cs0:List Frame)(m:Machine),dp P Γ N g0 f0 cs0 (.cl f as [] []) m->∃m' v hh,Steps P m m'/\dp P Γ N g0 f0 cs0 (.back [] v hh) m'/\wU hh v=some r):aQ P Γ f as r:=by
 refine⟨hb,fun hx N g h w us H hV cs=>?_⟩;have hz:Ext 0 g h {ρ:=fun _=>none,M:=g.M,MM:=g.MM} []:=Ext.zero (fun _ _ _ x=>x) (fun _ _ x=>x)
 have H0:Inv P Γ {K:=fun b=>w.heap[b]?,M0:=g.M,MM:=g.MM,w0:=w} {ρ:=fun _=>none,M:=g.M,MM:=g.MM} [] w:=by
  refine⟨rfl,rfl,rfl,fun b o hb=>hb,fun i b x hi=>(by cases hi),fun i j b x y hi=>(by cases hi),fun _ _=>rfl,H.mem,fun b es ck hb=>⟨(H.mm b es ck hb).1,fun i x hi=>(by cases hi)⟩,
   fun i b sz st o v hi=>(by cases hi),fun i o hi=>(by simp at hi),?_,fun b o v B hv _=>hv,rfl,fun n zs h0 hn=>by
    obtain⟨t,q,hq⟩:=H.mz n zs h0 hn
    exact⟨t,q,H.gp n _ hq⟩⟩
  intro n a hn;obtain⟨h1,vs,h2,h3⟩:=H.mo n a hn;exact⟨h1,vs,cM hz h1 h2,h3⟩
 have hs:dp P Γ {K:=fun b=>w.heap[b]?,M0:=g.M,MM:=g.MM,w0:=w} {ρ:=fun _=>none,M:=g.M,MM:=g.MM} f cs (.cl f as [] []) (lone (Frame.enter P f us.toArray .normal) ([]++cs) w):=
  ⟨_,w,us.toArray,[],rfl,H0,fun _ _ _ x=>x,by simpa using cM hz hx hV,hb,rfl,fun _=>rfl⟩
 obtain⟨m',v,hh,steps,⟨g2,w2,u,fr,rfl,H2,hM,hv,hj,hc⟩,hk⟩:=hr _ _ _ _ _ hs
 ·obtain⟨g3,h1,h2,h3,h4,h5,h6⟩:=ahc H H2 hM hv hk;exact⟨.returned u,w2,fr,⟨u,g3,rfl,h1,h2,h3,h4,h5,h6⟩,steps,hj,hc⟩
theorem mV.Ey{f:FuncId}{as:List AV}{v:AV}(hb:dv P f=true)(hr:∀(N:Env)(g0:G)(f0:FuncId)(cs0:List Frame)(m:Machine),dp P Γ N g0 f0 cs0 (.cl f as [] []) m->∃m' hh,Steps P m m'/\dp P Γ N g0 f0 cs0 (.die [] v hh) m')(hk:aK 0 v=true)(hj:eS v=true):mV P Γ f as v:=by
 refine⟨hb,hk,hj,fun hx N g h w us H hV cs=>?_⟩;have hz:Ext 0 g h {ρ:=fun _=>none,M:=g.M,MM:=g.MM} []:=Ext.zero (fun _ _ _ x=>x) (fun _ _ x=>x)
 have H0:Inv P Γ {K:=fun b=>w.heap[b]?,M0:=g.M,MM:=g.MM,w0:=w} {ρ:=fun _=>none,M:=g.M,MM:=g.MM} [] w:=by
  refine⟨rfl,rfl,rfl,fun b o hb=>hb,fun i b x hi=>(by cases hi),fun i j b x y hi=>(by cases hi),fun _ _=>rfl,H.mem,fun b es ck hb=>⟨(H.mm b es ck hb).1,fun i x hi=>(by cases hi)⟩,
   fun i b sz st o v hi=>(by cases hi),fun i o hi=>(by simp at hi),?_,fun b o v B hv _=>hv,rfl,fun n zs h0 hn=>by
    obtain⟨t,q,hq⟩:=H.mz n zs h0 hn
    exact⟨t,q,H.gp n _ hq⟩⟩
  intro n a hn;obtain⟨h1,vs,h2,h3⟩:=H.mo n a hn;exact⟨h1,vs,cM hz h1 h2,h3⟩
 have hs:dp P Γ {K:=fun b=>w.heap[b]?,M0:=g.M,MM:=g.MM,w0:=w} {ρ:=fun _=>none,M:=g.M,MM:=g.MM} f cs (.cl f as [] []) (lone (Frame.enter P f us.toArray .normal) ([]++cs) w):=
  ⟨_,w,us.toArray,[],rfl,H0,fun _ _ _ x=>x,by simpa using cM hz hx hV,hb,rfl,fun _=>rfl⟩
 obtain⟨m',hh,steps,⟨g2,w2,u,fr,rfl,H2,hM,hv,hl,hc⟩⟩:=hr _ _ _ _ _ hs;obtain⟨g3,_,h2,_,h4,h5,h6⟩:=IV (vs:=[]) (rs:=[]) (us:=[]) H H2 hM (by simp[VL]) (by simp[kY]);simp only[cu,ey]at h2;exact⟨_,w2,fr,⟨u,g3,rfl,h2,uH hk hj hv,h4,h5,h6⟩,steps,hl,hc⟩
theorem mV.of{f:FuncId}{as:List AV}{v:AV}{hh:List Ob}(hb:dv P f=true)(hr:Reach P Γ (.cl f as [] []) (.die [] v hh))(hv:aK 0 v=true)(hc:eS v=true):mV P Γ f as v:=
 .Ey hb (fun _ _ _ _ m hm=>by
  obtain⟨m',h1,h2⟩:=GF hr m hm
  exact⟨m',hh,h1,h2⟩) hv hc
end
def jb(P:Program)(Γ:Nat->Option AV):Nat->ar->ar
 |0,c=>c
 |n+1,c=>jb P Γ n (iG P Γ c)
def iI(P:Program)(Γ:Nat->Option AV):ar->ar
 |.fr f up h=>match f.md with
  |.run=>match f.its with
   |.code (.loop m b)::k=>.fr {f with its:=.code (.loop m b)::k} up h
   |.inLoop m b::k=>.fr {f with its:=.inLoop m b::k} up h
   |.code (.aR l ws gs)::k=>.fr {f with its:=.code (.aR l ws gs)::k} up h
   |its=>jE P Γ f up h its
  |_=>oL P Γ f up h
 |.cl g args up h=>.cl g args up h
 |.back (c::up) v h=>match c.finish v with
  |some c'=>.fr c' up h
  |none=>.bad
 |.back [] v h=>.back [] v h
 |.die (c::up) v h=>match c.md with
  |.run=>.fr {c with md:=.dF v false} up h
  |_=>.bad
 |.die [] v h=>.die [] v h
 |.bad=>.bad
def Em(P:Program)(Γ:Nat->Option AV):Nat->ar->ar
 |0,c=>c
 |n+1,c=>Em P Γ n (iI P Γ c)
theorem Reach.one{P:Program}{Γ:Nat->Option AV}{c c':ar}(h:Reach P Γ (iG P Γ c) c'):Reach P Γ c c':=.trans (.step c) h
section
variable{P:Program}{Γ:Nat->Option AV}{md:Md}{fn:FuncId}{its k:List It}{t:List AV}{ds:List dO}{kind:FK}{base:Nat}{up:List Fr}{h:List Ob}
theorem afv{c:ar}:Em P Γ 0 c=c:=rfl
theorem aek{n:Nat}{c:ar}:Em P Γ (n+1) c=Em P Γ n (iI P Γ c):=rfl
end
section
variable{P:Program}{Γ:Nat->Option AV}{fn:FuncId}{k:List It}{t:List AV}{ds:List dO}{kind:FK}{base:Nat}{up:List Fr}{h:List Ob}
theorem aj0:iI P Γ (.fr ⟨.run,fn,.code .skip::k,t,ds,kind,base⟩ up h)=.fr ⟨.run,fn,k,t,ds,kind,base⟩ up h:=rfl
theorem ak3{os:List AG}:iI P Γ (.fr ⟨.run,fn,.code (.av os)::k,t,ds,kind,base⟩ up h)=.fr ⟨.run,fn,.ops os::k,t,ds,kind,base⟩ up h:=rfl
theorem ak4{a b:aj}:iI P Γ (.fr ⟨.run,fn,.code (.seq a b)::k,t,ds,kind,base⟩ up h)=.fr ⟨.run,fn,.code a::.code b::k,t,ds,kind,base⟩ up h:=rfl
theorem akj{x:AX}{a b:aj}:iI P Γ (.fr ⟨.run,fn,.code (.cond x a b)::k,t,ds,kind,base⟩ up h)=(match ax t x with
 |.bool v=>.fr ⟨.run,fn,.code (if v then a else b)::k,t,ds,kind,base⟩ up h
 |_=>.bad):=rfl
theorem ahQ{id:Nat}{m:List Bool}{b:aj}:iI P Γ (.fr ⟨.run,fn,.code (.block id m b)::k,t,ds,kind,base⟩ up h)=.fr ⟨.run,fn,.code b::.inBlock id m::k,t,ds,kind,base⟩ up h:=rfl
theorem afA{id:Nat}{m:List Bool}:iI P Γ (.fr ⟨.run,fn,.inBlock id m::k,t,ds,kind,base⟩ up h)=.fr ⟨.run,fn,k,dJ m t,ds,kind,base⟩ up h:=rfl
theorem akD{id:Nat}:iI P Γ (.fr ⟨.run,fn,.code (.exit id)::k,t,ds,kind,base⟩ up h)=(match pR id k with
 |some (k',m)=>.fr ⟨.run,fn,k',dJ m t,ds,kind,base⟩ up h
 |none=>leave ⟨.run,fn,.code (.exit id)::k,t,ds,kind,base⟩ up h (.exit id)):=rfl
theorem alI:iI P Γ (.fr ⟨.run,fn,.code .ret::k,t,ds,kind,base⟩ up h)=leave ⟨.run,fn,.code .ret::k,t,ds,kind,base⟩ up h .ret:=rfl
theorem alA:iI P Γ (.fr ⟨.run,fn,[],t,ds,kind,base⟩ up h)=leave ⟨.run,fn,[],t,ds,kind,base⟩ up h .none:=rfl
theorem ajR:iI P Γ (.fr ⟨.run,fn,.ops []::k,t,ds,kind,base⟩ up h)=.fr ⟨.run,fn,k,t,ds,kind,base⟩ up h:=rfl
theorem al1{d:Option Nat}{o:AO}{os:List AG}:iI P Γ (.fr ⟨.run,fn,.ops (⟨d,none,o⟩::os)::k,t,ds,kind,base⟩ up h)=
 gS P ⟨.run,fn,.ops (⟨d,none,o⟩::os)::k,t,ds,kind,base⟩ up h ⟨d,none,o⟩ os k (aD P Γ t h o):=rfl
theorem alJ{d:Option Nat}{j:Nat}{b:Bool}{o:AO}{os:List AG}:iI P Γ (.fr ⟨.run,fn,.ops (⟨d,some (j,b),o⟩::os)::k,t,ds,kind,base⟩ up h)=(match dY t (some (j,b))with
 |some true=>gS P ⟨.run,fn,.ops (⟨d,some (j,b),o⟩::os)::k,t,ds,kind,base⟩ up h ⟨d,some (j,b),o⟩ os k (aD P Γ t h o)
 |some false=>.fr ⟨.run,fn,.ops os::k,bl t d (.aH []),ds,kind,base⟩ up h
 |none=>.bad):=rfl
theorem akN{m:List Bool}{b:aj}:iI P Γ (.fr ⟨.run,fn,.code (.loop m b)::k,t,ds,kind,base⟩ up h)=.fr ⟨.run,fn,.code (.loop m b)::k,t,ds,kind,base⟩ up h:=rfl
theorem af7{m:List Bool}{b:aj}:iI P Γ (.fr ⟨.run,fn,.inLoop m b::k,t,ds,kind,base⟩ up h)=.fr ⟨.run,fn,.inLoop m b::k,t,ds,kind,base⟩ up h:=rfl
theorem akL{l:List Bool}{ws:List Nat}{gs:List AG}:iI P Γ (.fr ⟨.run,fn,.code (.aR l ws gs)::k,t,ds,kind,base⟩ up h)=.fr ⟨.run,fn,.code (.aR l ws gs)::k,t,ds,kind,base⟩ up h:=rfl
theorem ale:iI P Γ (.fr ⟨.ret,fn,k,t,ds,kind,base⟩ up h)=oL P Γ ⟨.ret,fn,k,t,ds,kind,base⟩ up h:=rfl
theorem alO{g:FuncId}{args:List AV}:iI P Γ (.cl g args up h)=.cl g args up h:=rfl
theorem ajX{c:Fr}{v:AV}:iI P Γ (.back (c::up) v h)=(match c.finish v with
 |some c'=>.fr c' up h
 |none=>.bad):=rfl
theorem aiJ{v:AV}:iI P Γ (.back [] v h)=.back [] v h:=rfl
theorem Q_{m:List Bool}{b:aj}{c:ar}(h1:Reach P Γ (.fr ⟨.run,fn,.code b::.inLoop m b::k,dJ m t,ds,kind,base⟩ up h) c):Reach P Γ (.fr ⟨.run,fn,.code (.loop m b)::k,t,ds,kind,base⟩ up h) c:=.one h1
theorem R2{m:List Bool}{b:aj}{c:ar}(h1:Reach P Γ (.fr ⟨.run,fn,.code b::.inLoop m b::k,dJ m t,ds,kind,base⟩ up h) c):Reach P Γ (.fr ⟨.run,fn,.inLoop m b::k,t,ds,kind,base⟩ up h) c:=.one h1
theorem zV{f:FuncId}{F:aF}(hF:nb P f=some F)(as:List AV){c:ar}(h1:Reach P Γ (.fr ⟨.run,f,[.code F.body],as++List.replicate (F.nt-as.length) .undef,[],.norm,h.length⟩ up h) c):Reach P Γ (.cl f as up h) c:=by
 refine .one ?_;simp only[iG,hF,enter];exact h1
end
def slot(t:List AV)(i:Nat):AV:=t.getD i .undef
@[simp] theorem aCZ(a:AV)(l:List AV):slot (a::l) 0=a:=rfl
@[simp] theorem aDa(a:AV)(l:List AV)(n:Nat):slot (a::l) (n+1)=slot l n:=rfl
@[simp] theorem aEC(t:List AV)(i:Nat):ax t (.t i)=slot t i:=rfl
@[simp] theorem aEH(t:List AV)(v:AV):ax t (.c v)=v:=rfl
@[simp] theorem aEE(t:List AV)(n:Nat):ax t (.g n)=.eP n 0:=rfl
@[simp] theorem aEJ(t:List AV)(n:Nat):ax t (.f n)=.fn (.func n) [] []:=rfl
@[simp] theorem abZ(t:List AV):dY t none=some true:=rfl
@[simp] theorem aCO(t:List AV)(j:Nat)(b:Bool):dY t (some (j,b))=(match slot t j with
  |.bool x=>some (x==b)
  |.aH []=>some false
  |_=>none):=rfl
@[simp] theorem aCV(Γ:Nat->Option AV)(t:List AV)(h:List Ob)(i:Nat):wj Γ t h (.tmp i)=some (slot t i):=rfl
@[simp] theorem aCM(Γ:Nat->Option AV)(t:List AV)(h:List Ob)(a sz:Nat)(g:Bool):wj Γ t h (.cell a g sz)=rn Γ h g sz (slot t a):=rfl
@[simp] theorem aDj(s:SK)(x y:AV):cC (.sc s) x y=fR s x y:=rfl
@[simp] theorem aCA(t:TypeId)(v:AV):cC .iface .fv (.bW t v)=some false:=rfl
@[simp] theorem aCy(t:TypeId)(v:AV):cC .iface (.bW t v) .fv=some false:=rfl
@[simp] theorem aCL:cC .nil .dn .dn=some true:=rfl
@[simp] theorem aCG(f:Fn)(a b:List AV):cC .nil .dn (.fn f a b)=some false:=rfl
@[simp] theorem aCI(f:Fn)(a b:List AV):cC .nil (.fn f a b) .dn=some false:=rfl
attribute [simp] o7 enter wR jm calm dK afv aek aj0 ak3 ak4 akj ahQ afA akD alI alA ajR al1 alJ akN af7 akL ale alO ajX aiJ aD bl leave oL C7 uh rn wG cu fh er uL AV.cells AV.ok over n8 cr AV.one pR dJ Fr.finish wJ lD elems pY cW ja bound cy view wU qW kY eV eS fF share eI rowsOf b_ pJ oZ cG aK aN gm
@[simp] theorem aDO(k:IntKind)(x y:Int):iv .add k x y=some (k.wrap (x+y)):=rfl
@[simp] theorem aDD(k:IntKind)(x y:Int):iv .sub k x y=some (k.wrap (x-y)):=rfl
@[simp] theorem aDz(k:IntKind)(x y:Int):iv .mul k x y=some (k.wrap (x*y)):=rfl
@[simp low] theorem aDH(k:IntKind)(x y:Int):iv .quo k x y=if y=0 then none else some (k.wrap (x.tdiv y)):=rfl
@[simp low] theorem aDN(k:IntKind)(x y:Int):iv .rem k x y=if y=0 then none else some (x.tmod y):=rfl
@[simp low] theorem aDG(k:IntKind)(x y:Int):iv .shr k x y=if y<0 then none else some (x.fdiv (2^(min y.toNat k.bits))):=rfl
@[simp low] theorem aDR(k:IntKind)(x y:Int):iv .shl k x y=if y<0 then none else some (k.wrap (x*2^(min y.toNat k.bits))):=rfl
@[simp] theorem aDE(a b:Int):n9 .eql a b=decide (a=b):=by rw[gV];simp[n9]
@[simp] theorem aDr(a b:Int):n9 .neq a b=!decide (a=b):=by rw[gV];simp[n9]
@[simp] theorem aDS(a b:Int):n9 .lss a b=decide (a<b):=rfl
@[simp] theorem aDv(a b:Int):n9 .leq a b=decide (a<=b):=rfl
@[simp] theorem aDQ(a b:Int):n9 .gtr a b=decide (b<a):=rfl
@[simp] theorem aDL(a b:Int):n9 .geq a b=decide (b<=a):=rfl
@[simp] theorem aC3(k:IntKind)(a b:Int):fR .int (.int k a) (.int k b)=some (decide (a=b)):=by simp only[fR,cE,an];rw[gV];simp
@[simp] theorem aDg(a b:List UInt8):fR .str (.str a) (.str b)=some (decide (a=b)):=by simp only[fR,an];rw[gV];simp
@[simp] theorem aCT(a b:Bool):fR .bool (.bool a) (.bool b)=some (decide (a=b)):=by simp only[fR,an];rw[gV];simp
theorem aj9{c d:UInt8}{m:Int}(h:(d.toNat:Int)=m):((c.toNat:Int)=m)↔c=d:=by
 subst h;rw[Int.ofNat_inj];exact⟨fun e=>L0.1 e,fun e=>by rw[e]⟩
@[simp] theorem alk{c d:UInt8}:((c.toNat:Int)=(d.toNat:Int))↔c=d:=aj9 rfl
theorem z1{m:Int}(h0:0<=m)(h1:m<256):((UInt8.ofNat m.toNat).toNat:Int)=m:=by
 rw[UInt8.toNat_ofNat_of_lt' (by simp[UInt8.size];omega)];omega
@[simp] theorem aDo(c:UInt8)(m:Int)(h0:0<=m)(h1:m<256):((c.toNat:Int)=m)↔c=UInt8.ofNat m.toNat:=by rw[<-alk,z1 h0 h1]
@[simp] theorem SW{c d:UInt8}:((c.toNat:Int)<(d.toNat:Int))↔c<d:=by rw[Int.ofNat_lt];exact oE
@[simp] theorem To{c d:UInt8}:((c.toNat:Int)<=(d.toNat:Int))↔c<=d:=by rw[Int.ofNat_le];exact oE
@[simp] theorem aC0(c:UInt8)(m:Int)(h0:0<=m)(h1:m<256):((c.toNat:Int)<m)↔c<UInt8.ofNat m.toNat:=by rw[<-SW,z1 h0 h1]
@[simp] theorem aDl(c:UInt8)(m:Int)(h0:0<=m)(h1:m<256):((c.toNat:Int)<=m)↔c<=UInt8.ofNat m.toNat:=by rw[<-To,z1 h0 h1]
@[simp] theorem aDm(c:UInt8)(m:Int)(h0:0<=m)(h1:m<256):(m<(c.toNat:Int))↔UInt8.ofNat m.toNat<c:=by rw[<-SW,z1 h0 h1]
@[simp] theorem aC8(c:UInt8)(m:Int)(h0:0<=m)(h1:m<256):(m<=(c.toNat:Int))↔UInt8.ofNat m.toNat<=c:=by rw[<-To,z1 h0 h1]
@[simp] theorem aEx{c d:UInt8}:(c.toNat=d.toNat)↔c=d:=L0
theorem wrap64{n:Int}(h1:-2^62<=n)(h2:n<=2^62):IntKind.i64.wrap n=n:=by
 rw[IntKind.wrap_i64];omega
abbrev o(d:Nat)(x:AO):AG:=⟨some d,none,x⟩
abbrev q(x:AO):AG:=⟨none,none,x⟩
abbrev oy(d j:Nat)(x:AO):AG:=⟨some d,some (j,true),x⟩
abbrev on(d j:Nat)(x:AO):AG:=⟨some d,some (j,false),x⟩
abbrev I:Bool:=true
abbrev O:Bool:=false
abbrev U:AV:=.undef
structure Cx where
 ds:List dO
 kind:FK
 base:Nat
 up:List Fr
abbrev cx:Cx:=⟨[],.norm,0,[]⟩
abbrev jt(fn:FuncId)(its:List It)(t:List AV)(h:List Ob)(e:Cx):ar:=.fr ⟨.run,fn,its,t,e.ds,e.kind,e.base⟩ e.up h
@[simp] def tight:List Bool->List AG->Bool
 |_,[]=>true
 |false::l,_::os=>tight l os
 |_,_=>false
def runN(P:Program)(Γ:Nat->Option AV):List AG->List AV->List Ob->Option (List AV×List Ob)
 |[],t,h=>some (t,h)
 |o::os,t,h=>
  match dY t o.guard with
  |some true=>match aD P Γ t h o.op with
   |.val v h'=>runN P Γ os (bl t o.dst v) h'
   |.skip h'=>runN P Γ os (bl t o.dst (.aH [])) h'
   |_=>none
  |some false=>runN P Γ os (bl t o.dst (.aH [])) h
  |none=>none
theorem Dx{P:Program}{Γ:Nat->Option AV}:∀{gs:List AG}{t:List AV}{h:List Ob}{p:List AV×List Ob},runN P Γ gs t h=some p->∃hs,jm P Γ [] gs t h=some (p.1,p.2,[],hs)
 |[],t,h,p,hr=>by simp only[runN,an]at hr;subst hr;exact⟨[],rfl⟩
 |o::os,t,h,p,hr=>by
  unfold runN at hr;unfold jm
  cases hw:dY t o.guard with
  |none=>rw[hw]at hr;cases hr
  |some b=>
   rw[hw]at hr
   cases b with
   |false=>
    simp only at hr⊢;obtain⟨hs,h1⟩:=Dx hr;exact⟨_,by rw[h1];rfl⟩
   |true=>
    simp only at hr⊢
    cases ha:aD P Γ t h o.op with
    |val v h'=>
     rw[ha]at hr;simp only at hr⊢;obtain⟨hs,h1⟩:=Dx hr;exact⟨_,by rw[h1];rfl⟩
    |skip h'=>
     rw[ha]at hr;simp only at hr⊢;obtain⟨hs,h1⟩:=Dx hr;exact⟨_,by rw[h1];rfl⟩
    |_=>rw[ha]at hr;simp at hr
def AR(P:Program)(Γ:Nat->Option AV)(os:List AG)(d:Option Nat)(t:List AV):R->Option (List AV×List Ob)
 |.val v h'=>runN P Γ os (bl t d v) h'
 |.skip h'=>runN P Γ os (bl t d (.aH [])) h'
 |_=>none
def sH(P:Program)(Γ:Nat->Option AV)(l:List Bool)(gs:List AG)(t:List AV)(h:List Ob):Option (List AV×List Ob):=
 if tight l gs=true then runN P Γ gs t h else none
def stepG(P:Program)(Γ:Nat->Option AV)(st:Nat):ar->ar
 |.fr f up h=>match f.md with
  |.run=>match f.its with
   |.code (.loop m b)::k=>.fr {f with its:=.code (.loop m b)::k} up h
   |.inLoop m b::k=>.fr {f with its:=.inLoop m b::k} up h
   |.code (.aR l ws gs)::k=>match sH P Γ l gs f.t h with
    |some p=>.fr {f with its:=k,t:=p.1} up p.2
    |none=>.fr {f with its:=.code (.aR l ws gs)::k} up h
   |.code (.gM as gs)::k=>.fr {f with its:=.code (.gM as gs)::k} up h
   |.code (.exit id)::k=>match pR id k with
    |some (k',m)=>if st==1&&!m.isEmpty then .fr {f with its:=.code (.exit id)::k} up h else .fr {f with its:=k',t:=dJ m f.t} up h
    |none=>leave f up h (.exit id)
   |its=>jE P Γ f up h its
  |_=>oL P Γ f up h
 |.cl g args up h=>.cl g args up h
 |.back (c::up) v h=>if st==2 then .back (c::up) v h else match c.finish v with
  |some c'=>.fr c' up h
  |none=>.bad
 |.back [] v h=>.back [] v h
 |.die (c::up) v h=>if st==2 then .die (c::up) v h else match c.md with
  |.run=>.fr {c with md:=.dF v false} up h
  |_=>.bad
 |.die [] v h=>.die [] v h
 |.bad=>.bad
theorem wk{P:Program}{Γ:Nat->Option AV}{obls:List iw}{hs:List (List Ob)}:∀{gs:List AG}{l:List Bool}{ws:List Nat}{h2:List (AV×List Ob)}{t:List AV}{h:List Ob}{x},tight l gs=true->jm P Γ h2 gs t h=some x->calm P Γ obls hs l ws h2 gs t h
 |[],_,_,_,_,_,_,_,_=>trivial
 |o::os,[],ws,h2,t,h,x,hl,hr=>by simp[tight]at hl
 |o::os,true::l,ws,h2,t,h,x,hl,hr=>by simp[tight]at hl
 |o::os,false::l,ws,h2,t,h,x,hl,hr=>by
  simp only[tight]at hl;unfold calm;unfold jm at hr
  split at hr
  ·split at hr
   ·rename_i v h' ha;rw[cm]at hr;obtain⟨y,hy,_⟩:=hr;exact⟨fun hb=>(by cases hb),wk hl hy⟩
   ·rename_i h' ha;rw[cm]at hr;obtain⟨y,hy,_⟩:=hr;exact wk hl hy
   ·rename_i f args ha
    split at hr
    ·cases hr
    ·split at hr
     ·rw[cm]at hr;obtain⟨y,hy,_⟩:=hr;exact⟨fun hb=>(by cases hb),wk hl hy⟩
     ·cases hr
   ·split at hr
    ·rw[cm]at hr;obtain⟨y,hy,_⟩:=hr;exact⟨rfl,wk hl hy⟩
    ·cases hr
   ·cases hr
  ·rw[cm]at hr;obtain⟨y,hy,_⟩:=hr;exact wk hl hy
  ·cases hr
theorem Reach.stepG{P:Program}{Γ:Nat->Option AV}{st:Nat}(c:ar):Reach P Γ c (AM.stepG P Γ st c):=by
 cases c with
 |fr f up h=>
  obtain⟨md,fn,its,t,ds,kind,base⟩:=f
  cases md with
  |run=>
   simp only[AM.stepG]
   split
   ·exact .refl _
   ·exact .refl _
   ·rename_i l ws gs k
    split
    ·rename_i p hp;unfold sH at hp
     split at hp
     ·rename_i ht;obtain⟨hs,hr⟩:=Dx hp;exact .aR (f:=⟨.run,fn,.code (.aR l ws gs)::k,t,ds,kind,base⟩) rfl rfl hr (fun _ ho=>ho) (by simp) (wk ht hr)
     ·cases hp
    ·exact .refl _
   ·exact .refl _
   ·rename_i id k
    split
    ·rename_i k' m he
     split
     ·exact .refl _
     ·refine .one ?_;simp only[iG,jE,he];exact .refl _
    ·rename_i he;refine .one ?_;simp only[iG,jE,he];exact .refl _
   ·exact .step _
  |ret=>exact .step _
  |dF v rc=>exact .step _
 |cl g args up h=>exact .refl _
 |back up v h=>
  cases up with
  |nil=>exact .refl _
  |cons c up=>simp only[AM.stepG];split<;>first|exact .refl _|exact .step _
 |die up v h=>
  cases up with
  |nil=>exact .refl _
  |cons c up=>simp only[AM.stepG];split<;>first|exact .refl _|exact .step _
 |bad=>exact .refl _
def go(P:Program)(Γ:Nat->Option AV)(st:Nat):Nat->ar->ar
 |0,c=>c
 |n+1,c=>go P Γ st n (stepG P Γ st c)
theorem Reach.goes{P:Program}{Γ:Nat->Option AV}{st:Nat}:∀(n:Nat)(c:ar),Reach P Γ c (AM.go P Γ st n c)
 |0,c=>.refl c
 |n+1,c=>.trans (.stepG c) (Reach.goes n _)
theorem Reach.go{P:Program}{Γ:Nat->Option AV}(n:Nat){c c':ar}(h:Reach P Γ (AM.go P Γ 0 n c) c'):Reach P Γ c c':=.trans (Reach.goes n c) h
theorem Reach.aY{P:Program}{Γ:Nat->Option AV}(n:Nat){c c':ar}(h:Reach P Γ (AM.go P Γ 2 n c) c'):Reach P Γ c c':=.trans (Reach.goes n c) h
def pop:ar->ar
 |.back (c::up) v h=>match c.finish v with
  |some c'=>.fr c' up h
  |none=>.bad
 |.die (c::up) v h=>match c.md with
  |.run=>.fr {c with md:=.dF v false} up h
  |_=>.bad
 |c=>c
@[simp] theorem aDC{c:Fr}{up:List Fr}{v:AV}{h:List Ob}:pop (.back (c::up) v h)=(match c.finish v with
  |some c'=>.fr c' up h
  |none=>.bad):=(rfl)
@[simp] theorem aD8{c:Fr}{up:List Fr}{v:AV}{h:List Ob}:pop (.die (c::up) v h)=(match c.md with
  |.run=>.fr {c with md:=.dF v false} up h
  |_=>.bad):=(rfl)
theorem Reach.pop{P:Program}{Γ:Nat->Option AV}(c:ar):Reach P Γ c (AM.pop c):=by
 cases c with
 |back up v h=>cases up<;>first|exact .refl _|exact .step _
 |die up v h=>cases up<;>first|exact .refl _|exact .step _
 |_=>exact .refl _
theorem Reach.dh{P:Program}{Γ:Nat->Option AV}(n:Nat){c c':ar}(h:Reach P Γ (AM.go P Γ 1 n c) c'):Reach P Γ c c':=.trans (Reach.goes n c) h
section
variable{P:Program}{Γ:Nat->Option AV}{st:Nat}{n:Nat}{fn:FuncId}{k:List It}{t:List AV}{ds:List dO}{kind:FK}{base:Nat}{up:List Fr}{h h':List Ob}
theorem nM{c:ar}(hc:stepG P Γ st c=c):∀n,go P Γ st n c=c
 |0=>rfl
 |n+1=>by rw[go,hc];exact nM hc n
@[simp] theorem aEj:go P Γ st (n+1) (.fr ⟨.run,fn,.code .skip::k,t,ds,kind,base⟩ up h)=go P Γ st n (.fr ⟨.run,fn,k,t,ds,kind,base⟩ up h):=(rfl)
@[simp] theorem aEw{os:List AG}:go P Γ st (n+1) (.fr ⟨.run,fn,.code (.av os)::k,t,ds,kind,base⟩ up h)=go P Γ st n (.fr ⟨.run,fn,.ops os::k,t,ds,kind,base⟩ up h):=(rfl)
@[simp] theorem aEq{a b:aj}:go P Γ st (n+1) (.fr ⟨.run,fn,.code (.seq a b)::k,t,ds,kind,base⟩ up h)=go P Γ st n (.fr ⟨.run,fn,.code a::.code b::k,t,ds,kind,base⟩ up h):=(rfl)
@[simp] theorem aD9{x:AX}{a b:aj}:go P Γ st (n+1) (.fr ⟨.run,fn,.code (.cond x a b)::k,t,ds,kind,base⟩ up h)=go P Γ st n (match ax t x with
  |.bool v=>.fr ⟨.run,fn,.code (if v then a else b)::k,t,ds,kind,base⟩ up h
  |_=>.bad):=(rfl)
@[simp] theorem aDt{id:Nat}{m:List Bool}{b:aj}:go P Γ st (n+1) (.fr ⟨.run,fn,.code (.block id m b)::k,t,ds,kind,base⟩ up h)=go P Γ st n (.fr ⟨.run,fn,.code b::.inBlock id m::k,t,ds,kind,base⟩ up h):=(rfl)
@[simp] theorem aCW{id:Nat}{m:List Bool}:go P Γ st (n+1) (.fr ⟨.run,fn,.inBlock id m::k,t,ds,kind,base⟩ up h)=go P Γ st n (.fr ⟨.run,fn,k,dJ m t,ds,kind,base⟩ up h):=(rfl)
@[simp] theorem aEc{id:Nat}:go P Γ st (n+1) (.fr ⟨.run,fn,.code (.exit id)::k,t,ds,kind,base⟩ up h)=go P Γ st n (match pR id k with
  |some (k',m)=>if st==1&&!m.isEmpty then .fr ⟨.run,fn,.code (.exit id)::k,t,ds,kind,base⟩ up h else .fr ⟨.run,fn,k',dJ m t,ds,kind,base⟩ up h
  |none=>leave ⟨.run,fn,.code (.exit id)::k,t,ds,kind,base⟩ up h (.exit id)):=(rfl)
@[simp] theorem aEu:go P Γ st (n+1) (.fr ⟨.run,fn,.code .ret::k,t,ds,kind,base⟩ up h)=go P Γ st n (leave ⟨.run,fn,.code .ret::k,t,ds,kind,base⟩ up h .ret):=(rfl)
@[simp] theorem aEz:go P Γ st (n+1) (.fr ⟨.run,fn,[],t,ds,kind,base⟩ up h)=go P Γ st n (leave ⟨.run,fn,[],t,ds,kind,base⟩ up h .none):=(rfl)
@[simp] theorem aD2:go P Γ st (n+1) (.fr ⟨.run,fn,.ops []::k,t,ds,kind,base⟩ up h)=go P Γ st n (.fr ⟨.run,fn,k,t,ds,kind,base⟩ up h):=(rfl)
@[simp] theorem alo{d:Option Nat}{o:AO}{os:List AG}:go P Γ st (n+1) (.fr ⟨.run,fn,.ops (⟨d,none,o⟩::os)::k,t,ds,kind,base⟩ up h)=
  go P Γ st n (gS P ⟨.run,fn,.ops (⟨d,none,o⟩::os)::k,t,ds,kind,base⟩ up h ⟨d,none,o⟩ os k (aD P Γ t h o)):=(rfl)
@[simp] theorem aEy{d:Option Nat}{j:Nat}{b:Bool}{o:AO}{os:List AG}:go P Γ st (n+1) (.fr ⟨.run,fn,.ops (⟨d,some (j,b),o⟩::os)::k,t,ds,kind,base⟩ up h)=go P Γ st n (match dY t (some (j,b))with
  |some true=>gS P ⟨.run,fn,.ops (⟨d,some (j,b),o⟩::os)::k,t,ds,kind,base⟩ up h ⟨d,some (j,b),o⟩ os k (aD P Γ t h o)
  |some false=>.fr ⟨.run,fn,.ops os::k,bl t d (.aH []),ds,kind,base⟩ up h
  |none=>.bad):=(rfl)
@[simp] theorem aD5{m:List Bool}{b:aj}:go P Γ st n (.fr ⟨.run,fn,.code (.loop m b)::k,t,ds,kind,base⟩ up h)=.fr ⟨.run,fn,.code (.loop m b)::k,t,ds,kind,base⟩ up h:=nM rfl n
@[simp] theorem aDf{m:List Bool}{b:aj}:go P Γ st n (.fr ⟨.run,fn,.inLoop m b::k,t,ds,kind,base⟩ up h)=.fr ⟨.run,fn,.inLoop m b::k,t,ds,kind,base⟩ up h:=nM rfl n
@[simp] theorem aEf{as:List (List Nat)}{gs:List AG}:go P Γ st n (.fr ⟨.run,fn,.code (.gM as gs)::k,t,ds,kind,base⟩ up h)=.fr ⟨.run,fn,.code (.gM as gs)::k,t,ds,kind,base⟩ up h:=nM rfl n
@[simp] theorem aDJ{l:List Bool}{ws:List Nat}{gs:List AG}:go P Γ st (n+1) (.fr ⟨.run,fn,.code (.aR l ws gs)::k,t,ds,kind,base⟩ up h)=(if tight l gs=true then(match runN P Γ gs t h with
  |some p=>go P Γ st n (.fr ⟨.run,fn,k,p.1,ds,kind,base⟩ up p.2)
  |none=>.fr ⟨.run,fn,.code (.aR l ws gs)::k,t,ds,kind,base⟩ up h)else .fr ⟨.run,fn,.code (.aR l ws gs)::k,t,ds,kind,base⟩ up h):=by
 split
 ·rename_i ht
  split
  ·rename_i p hr
   have hp:sH P Γ l gs t h=some p:=by simp only[sH,ht,cE,hr]
   simp only[go,stepG,hp]
  ·rename_i hr;refine nM ?_ _
   have hp:sH P Γ l gs t h=none:=by simp only[sH,ht,cE,hr]
   simp only[stepG,hp]
 ·rename_i ht;refine nM ?_ _
  have hp:sH P Γ l gs t h=none:=by simp[sH,ht]
  simp only[stepG,hp]
@[simp] theorem aDy:runN P Γ [] t h=some (t,h):=(rfl)
@[simp] theorem aD6{d:Option Nat}{o:AO}{os:List AG}:runN P Γ (⟨d,none,o⟩::os) t h=AR P Γ os d t (aD P Γ t h o):=(rfl)
@[simp] theorem aDX{d:Option Nat}{j:Nat}{b:Bool}{o:AO}{os:List AG}:runN P Γ (⟨d,some (j,b),o⟩::os) t h=(match dY t (some (j,b))with
  |some true=>AR P Γ os d t (aD P Γ t h o)
  |some false=>runN P Γ os (bl t d (.aH [])) h
  |none=>none):=(rfl)
@[simp] theorem aDs{os:List AG}{d:Option Nat}{v:AV}:AR P Γ os d t (.val v h)=runN P Γ os (bl t d v) h:=(rfl)
@[simp] theorem aDn{os:List AG}{d:Option Nat}:AR P Γ os d t (.skip h)=runN P Γ os (bl t d (.aH [])) h:=(rfl)
@[simp] theorem aDb{os:List AG}{d:Option Nat}{f:FuncId}{args:List AV}:AR P Γ os d t (.call f args)=none:=(rfl)
@[simp] theorem aCQ{f:Fr}{o:AG}{os:List AG}:gS P f up h o os k .either=.fr f up h:=(rfl)
@[simp] theorem aiE{f:Fr}{o:AG}{os:List AG}{v:AV}:gS P f up h o os k (.val v h')=.fr ⟨f.md,f.fn,.ops os::k,bl f.t o.dst v,f.ds,f.kind,f.base⟩ up h':=(rfl)
@[simp] theorem ahD{f:Fr}{o:AG}{os:List AG}:gS P f up h o os k (.skip h')=.fr ⟨f.md,f.fn,.ops os::k,bl f.t o.dst (.aH []),f.ds,f.kind,f.base⟩ up h':=(rfl)
@[simp] theorem aEg{f:Fr}{o:AG}{os:List AG}{v:AV}:gS P f up h o os k (.dF v)=.fr ⟨.dF v false,f.fn,f.its,f.t,f.ds,f.kind,f.base⟩ up h:=(rfl)
@[simp] theorem aDp{f:Fr}{o:AG}{os:List AG}{g:FuncId}{args:List AV}:gS P f up h o os k (.call g args)=if dv P g=true then .cl g args (f::up) h else .bad:=(rfl)
@[simp] theorem aD3{f:Fr}{o:AG}{os:List AG}:gS P f up h o os k .s8=(match wR f up with
 |some (v,up')=>.fr {f with its:=.ops os::k,t:=bl f.t o.dst v} up' h
 |none=>.bad):=(rfl)
@[simp] theorem aEd{f:Fr}{o:AG}{os:List AG}{g:FuncId}{args:List AV}:gS P f up h o os k (.bK g args)=(match f.kind with
  |.round _=>.bad
  |_=>.fr {f with its:=.ops os::k,t:=bl f.t o.dst (.aH []),ds:=.call g args::f.ds} up h):=(rfl)
@[simp] theorem aC6{f:Fr}{o:AG}{os:List AG}{l:Nat}{args:List AV}:gS P f up h o os k (.yield l args)=(match h[l]? with
  |some (.loop _ _ fn t ps a b)=>
   if args.length=ps.length then
    .fr {md:=.run,fn:=fn,its:=[.code a,.beginRound,.code b],t:=kf t ps args,ds:=[],kind:=.round l,base:=h.length} (f::up) h
   else .bad
  |_=>.bad):=(rfl)
@[simp] theorem aEh{f:Fr}{o:AG}{os:List AG}:gS P f up h o os k .bad=.bad:=(rfl)
@[simp] theorem aCB{x:AX}{ps:List Nat}{m:List Bool}{a b:aj}:go P Γ st (n+1) (.fr ⟨.run,fn,.code (.rangeFunc x ps m a b)::k,t,ds,kind,base⟩ up h)=go P Γ st n (match ax t x with
  |.fn (.func g) fs cs=>if dv P g=false then .bad else match kind with
   |.round _=>.cl g (fs++.de h.length::cs) (⟨.run,fn,.j8 h.length::k,t,ds,kind,base⟩::up) (h++[.loop .ready .none fn (dJ m t) ps a b])
   |_=>.cl g (fs++.de (h.length+1)::cs) (⟨.run,fn,.j8 (h.length+1)::k,t,.mark h.length::ds,kind,base⟩::up) (h++[.bK true,.loop .ready .none fn (dJ m t) ps a b])
  |_=>.bad):=(rfl)
@[simp] theorem aCz:go P Γ st (n+1) (.fr ⟨.run,fn,.beginRound::k,t,ds,kind,base⟩ up h)=go P Γ st n (match kind with
  |.round l=>match h[l]? with
   |some (.loop .ready j h2 t' ps a b)=>.fr ⟨.run,fn,k,t,ds,kind,base⟩ up (h.set l (.loop .busy j h2 t' ps a b))
   |_=>.bad
  |_=>.bad):=(rfl)
@[simp] theorem aCF{l:Nat}:go P Γ st (n+1) (.fr ⟨.run,fn,.wb l::k,t,ds,kind,base⟩ up h)=go P Γ st n (match h[l]? with
  |some (.loop h2 j hv t' ps a b)=>
   if h2=.busy then .bad
   else .fr ⟨.run,fn,(match j with|.none=>k|.ret=>.code .ret::k|.exit id=>.code (.exit id)::k),t,ds,kind,base⟩ up (h.set l (.loop .exhausted j hv t' ps a b))
  |_=>.bad):=(rfl)
@[simp] theorem aEr:go P Γ st (n+1) (.fr ⟨.ret,fn,k,t,ds,kind,base⟩ up h)=go P Γ st n (oL P Γ ⟨.ret,fn,k,t,ds,kind,base⟩ up h):=(rfl)
@[simp] theorem aEA{v:AV}{rc:Bool}:go P Γ st (n+1) (.fr ⟨.dF v rc,fn,k,t,ds,kind,base⟩ up h)=go P Γ st n (oL P Γ ⟨.dF v rc,fn,k,t,ds,kind,base⟩ up h):=(rfl)
@[simp] theorem aEB{g:FuncId}{args:List AV}:go P Γ st n (.cl g args up h)=.cl g args up h:=nM rfl n
@[simp] theorem aD1{c:Fr}{v:AV}:go P Γ 0 (n+1) (.back (c::up) v h)=go P Γ 0 n (match c.finish v with
  |some c'=>.fr c' up h
  |none=>.bad):=(rfl)
@[simp] theorem aDI{c:Fr}{v:AV}:go P Γ 1 (n+1) (.back (c::up) v h)=go P Γ 1 n (match c.finish v with
  |some c'=>.fr c' up h
  |none=>.bad):=(rfl)
@[simp] theorem aDT{v:AV}:go P Γ 2 n (.back up v h)=.back up v h:=nM (by cases up<;>rfl) n
@[simp] theorem aDU{v:AV}:go P Γ st n (.back [] v h)=.back [] v h:=nM rfl n
@[simp] theorem aEo{c:Fr}{v:AV}:go P Γ 0 (n+1) (.die (c::up) v h)=go P Γ 0 n (match c.md with
  |.run=>.fr {c with md:=.dF v false} up h
  |_=>.bad):=(rfl)
@[simp] theorem aEa{c:Fr}{v:AV}:go P Γ 1 (n+1) (.die (c::up) v h)=go P Γ 1 n (match c.md with
  |.run=>.fr {c with md:=.dF v false} up h
  |_=>.bad):=(rfl)
@[simp] theorem aEn{v:AV}:go P Γ 2 n (.die up v h)=.die up v h:=nM (by cases up<;>rfl) n
@[simp] theorem aEi{v:AV}:go P Γ st n (.die [] v h)=.die [] v h:=nM rfl n
@[simp] theorem aEv:go P Γ st n .bad=.bad:=nM rfl n
@[simp] theorem aEb{c:ar}:go P Γ st 0 c=c:=(rfl)
end
open Go.ChangeShapes Go.WideShapes Go.ChangeAt Go.RowKit
inductive Sh where
 |bool|str
 |int (k:IntKind)
 |list (k:Nat) (ag:Bool) (e:Sh)
 |parts (l:List Sh)
def nw:Bool->List AV->AV
 |true,cs=>.agg cs
 |false,[c]=>c
 |false,_=>.undef
mutual
def e_(B:Nat):Sh->List AV->Prop
 |.bool,cs=>∃b,cs=[.bool b]
 |.str,cs=>∃s:List UInt8,cs=[.str s]/\s.length<=B
 |.int k,cs=>∃n,cs=[.int k n]/\k.min<=n/\n<=k.max
 |.list k ag e,cs=>∃xs:List (List AV),cs=[.list false k (xs.map (nw ag))]/\xs.length<=B/\∀x∈xs,e_ B e x/\x.length=k
 |.parts l,cs=>sQ B l cs
def sQ(B:Nat):List Sh->List AV->Prop
 |[],cs=>cs=[]
 |s::ss,cs=>∃a b,cs=a++b/\e_ B s a/\sQ B ss b
end
def jN(P:Program):Nat->TypeId->Option Sh
 |0,_=>none
 |n+1,t=>match P.underlying t with
  |some .bool=>some .bool
  |some .string=>some .str
  |some (.int k)=>some (.int k)
  |some (.slice e)=>match jN P n e,iu P e with
   |some s,some ag=>if P.cellsOf e=0\/(ag=false/\P.cellsOf e≠1)then none else some (.list (P.cellsOf e) ag s)
   |_,_=>none
  |some (.struct fs)=>(fs.toList.mapM fun f=>jN P n f.type).map .parts
  |some (.array m e)=>(jN P n e).map fun s=>.parts (List.replicate m s)
  |_=>none
def gw(w:World):G:={ρ:=fun _=>none,M:=fun b o=>w.cell? ⟨b,o,none⟩,MM:=fun b=>match w.heap[b]? with|some (.map es ck)=>some (es,ck)|_=>none}
structure Down{H:Type}(B:Nat)(Q:DataW H->Prop):Prop where
 sl:∀e r,Q (.slice e r)->e.length<=9223372036854775807->e.length<=B/\∀d∈e,Q d
 ag:∀ps,Q (.agg ps)->∀d∈ps,Q d
 st:∀b,Q (.lit (.string b))->b.length<=9223372036854775807->b.length<=B
section
variable{P:Program}{w:World}{H:Type}{enc:TypeId×Value->H}{sp:Nat->Bool}{T:TypeId->Prop}
def Rd(B:Nat)(w:World)(s:Sh)(cs:List Value):Prop:=∃as,e_ B s as/\VL (gw w) [] as cs/\cr as=true/\aN 0 as=true
theorem abb{as bs:List AV}(h1:cr as=true)(h2:cr bs=true):cr (as++bs)=true:=by
 induction as with
 |nil=>simpa using h2
 |cons a as ih=>simp only[cr,eH,aB]at h1⊢;exact⟨h1.1,ih h1.2⟩
theorem abz{n:Nat}{as bs:List AV}(h1:aN n as=true)(h2:aN n bs=true):aN n (as++bs)=true:=by
 induction as with
 |nil=>simpa using h2
 |cons a as ih=>simp only[aN,eH,aB]at h1⊢;exact⟨h1.1,ih h1.2⟩
theorem afM{ag:Bool}{as:List AV}{k:Nat}(hk:as.length=k)(h1:ag=true\/k=1)(ho:cr as=true):(nw ag as).cells=as:=by
 cases ag with
 |true=>rfl
 |false=>
  have:k=1:=by simpa using h1
  subst this
  match as,hk with
  |[c],_=>simp[nw];simp[cr]at ho;cases c<;>simp_all [AV.cells,AV.one]
theorem MH{k:Nat}:∀{es fs:List AV},cG es k=true->cG fs k=true->cG (es++fs) k=true
 |[],_,_,h2=>by simpa using h2
 |e::es,fs,h1,h2=>by
  simp only[cG,eH,aB]at h1⊢;exact⟨h1.1,MH h1.2 h2⟩
theorem Ha{B:Nat}{n:Nat}{r:List Value->Sh->Prop}:∀(ss:List Sh)(hv:List (List Value)),hv.length=ss.length->(∀(i:Nat) s c,ss[i]? =some s->hv[i]? =some c->Rd B w s c)->
 ∃as,sQ B ss as/\VL (gw w) [] as hv.flatten/\cr as=true/\aN 0 as=true
 |[],hv,hl,_=>by
  have:hv=[]:=by simpa using hl
  subst this;exact⟨[],by simp[sQ],by simp[VL],rfl,rfl⟩
 |s::ss,hv,hl,hr=>by
  match hv,hl with
  |c::hv,hl=>
   obtain⟨a,h1,h2,h3,h4⟩:=hr 0 s c rfl rfl;obtain⟨b,h5,h6,h7,h8⟩:=Ha (n:=n) (r:=r) ss hv (by simpa using hl) (fun i s c hs hc=>hr (i+1) s c (by simpa using hs) (by simpa using hc));exact⟨a++b,by simp only[sQ];exact⟨a,b,rfl,h1,h5⟩,by simpa using l7 h2 h6,abb h3 h7,abz h4 h8⟩
theorem Ir{α:Type}:∀(ns:List Nat)(cs:List α),cs.length=ns.sum->∃hv:List (List α),hv.length=ns.length/\hv.flatten=cs/\∀(i n:Nat),ns[i]? =some n->hv[i]? =some ((cs.drop (ns.take i).sum).take n)
 |[],cs,h=>⟨[],rfl,by simp at h;simp[h],by simp⟩
 |n::ns,cs,h=>by
  obtain⟨hv,h1,h2,h3⟩:=Ir ns (cs.drop n) (by simp at h⊢;omega);refine⟨cs.take n::hv,by simp[h1],by simp[h2],?_⟩;intro i m hi
  cases i with
  |zero=>simp at hi;subst hi;simp
  |succ i=>
   simp only[oB,LS,List.sum_cons]at hi⊢;rw[h3 i m hi,List.drop_drop]
theorem ak2{B:Nat}{Q:DataW H->Prop}(K:Kids P T)(D:Down B Q):∀(n:Nat)(t:TypeId)(s:Sh),T t->jN P n t=some s->∀(fuel:Nat)(cs:List Value)(x:DataW H×List MemPlace),DataW.trod enc P w 0 sp true fuel t cs=some x->Q x.1->Rd B w s cs:=by
 intro n
 induction n with
 |zero=>intro t s _ hs;simp[jN]at hs
 |succ n ih=>
  intro t s hT hs fuel cs x hx hQ;unfold jN at hs
  split at hs
  ·rename_i hu
   cases hs
   obtain⟨b,rfl,_⟩:=DataW.trod_bool hu hx;exact⟨[.bool b],by simp[e_],by simp[VL,V],rfl,rfl⟩
  ·rename_i hu
   cases hs
   obtain⟨b,rfl,hb,h⟩:=DataW.trod_string hu hx;refine⟨[.str b.data.toList],?_,by simp[VL,V],rfl,rfl⟩;simp only[e_];rw[hb]at hQ;exact⟨_,rfl,D.st _ hQ (by simpa[maxLen]using h)⟩
  ·rename_i k hu
   cases hs
   obtain⟨i,rfl,_,h⟩:=DataW.trod_int hu hx;refine⟨[.int k i],?_,by simp[VL,V],rfl,rfl⟩;simp only[Lit.wf,aB,bj]at h;simp only[e_];exact⟨i,rfl,h.1,h.2⟩
  ·rename_i e hu
   split at hs
   ·rename_i se ag bs e4
    split at hs
    ·cases hs
    ·rename_i hk
     cases hs
     have e2:=K.slice hT hu
     have b2:0<P.cellsOf e:=by omega
     have gg:ag=true\/P.cellsOf e=1:=by cases ag<;>simp_all
     rcases DataW.trod_slice hu hx with⟨rfl,_⟩|⟨a,len,cap,elems,rest,m,_,rfl,hb,_,lo,hz,l1,hv,_⟩
     ·refine⟨[.list false (P.cellsOf e) []],?_,?_,rfl,rfl⟩
      ·simp only[e_];exact⟨[],rfl,by simp,by simp⟩
      ·simp[VL,V,cG]
     ·have hd:=D.sl (elems.map (·.1)) (rest.map (·.1)) (by rw[hb]at hQ;exact hQ) (by rw[fy];simp[maxLen]at hz;omega);rw[fy]at hd
      have key:∀q,q<=len->∃xs:List (List AV),xs.length=q/\(∀x∈xs,e_ B se x/\x.length=P.cellsOf e)/\cG (xs.map (nw ag)) (P.cellsOf e)=true/\
       ∃vs,VE (gw w) [] (xs.map (nw ag)) vs/\vs.length=q*P.cellsOf e/\∀j(hj:j<vs.length),w.cell? (a.add j)=some vs[j]:=by
       intro q
       induction q with
       |zero=>intro _;exact⟨[],rfl,by simp,rfl,[],by simp[VE],by simp,by simp⟩
       |succ q x5=>
        intro hq;obtain⟨xs,h1,h2,h3,vs,h4,h5,h6⟩:=x5 (by omega);have hg:=hv q (by omega);obtain⟨y,hy⟩:∃y,elems[q]? =some y:=⟨elems[q]'(by omega),aW (by omega)⟩;rw[hy,pt]at hg;obtain⟨c,hc,ht⟩:=hg;obtain⟨as,g1,g2,g3,g4⟩:=ih e se e2 bs _ _ _ ht (hd.2 _ (rZ (jz hy)));unfold World.cells? at hc
        split at hc
        ·have q1:c.length=P.cellsOf e:=by simpa using mapM_some_length hc
         have ps:as.length=P.cellsOf e:=by rw[<-gX g2];exact q1
         have hp:=afM ps gg g3;refine⟨xs++[as],by simp[h1],?_,?_,vs++c,?_,?_,?_⟩
         ·intro x hx
          rcases a8.1 hx with hx|hx
          ·exact h2 x hx
          ·simp at hx;subst hx;exact⟨g1,ps⟩
         ·rw[jA];refine MH h3 ?_;simp only[bX,jO,cG,hp,ps,g3,g4,decide_true,qt]
         ·rw[jA];refine qL h4 ?_;simp only[bX,jO,VE]
          cases ag with
          |true=>exact⟨.agg c.toArray,[],by simp only[nw,V];exact⟨c,rfl,g2⟩,by simp[Value.cells],rfl⟩
          |false=>
           have k1:P.cellsOf e=1:=by simpa using gg
           match as,ps.trans k1,c,q1.trans k1 with
           |[a1],_,[c1],_=>
            simp only[VL]at g2;obtain⟨v,_,h7,h8,h9⟩:=g2;subst h9
            cases h7
            refine⟨c1,[],h8,?_,rfl⟩
            have ho:a1.one=true:=by simpa[cr]using g3
            have:c1.cells=#[c1]:=by
             cases a1<;>simp[AV.one]at ho<;>simp only[V]at h8<;>first
              |(subst h8;rfl)
              |(obtain⟨_,_,_,rfl,_⟩:=h8;rfl)
              |(obtain⟨_,_,_,_,_,rfl⟩:=h8;rfl)
              |(obtain⟨_,_,_,_,_,_,rfl⟩:=h8;rfl)
              |(obtain⟨_,_,rfl,_⟩:=h8;rfl)
              |(obtain⟨_,rfl,_⟩:=h8;rfl)
              |(obtain⟨_,_,_,_,rfl⟩:=h8;rfl)
              |(simp[aK,aN]at g4)
              |(exfalso;simp_all [E5,isCells,isMap,SI,Jm])
            simp[this]
         ·simp[h5,q1];rw[gU];simp
         ·intro j hj;rw[List.getElem_append]
          split
          ·rename_i e3;exact h6 j e3
          ·rename_i e3;have h7:=mapM_some_get hc (j-vs.length) (j-vs.length) (by rw[bC]at hj;rw[L4 (by omega)]);rw[aW (by simp at hj;omega)]at h7;rw[<-h7];congr 1
           have ys:(a.add (q*P.cellsOf e)).add (j-vs.length)=a.add j:=by
            unfold Addr.add
            split<;>split<;>split<;>simp_all<;>omega
           rw[ys]
        ·cases hc
      obtain⟨xs,h1,h2,h3,vs,h4,h5,h6⟩:=key len (aT _);refine⟨[.list false (P.cellsOf e) (xs.map (nw ag))],?_,?_,rfl,?_⟩
      ·simp only[e_];exact⟨xs,rfl,by omega,h2⟩
      ·simp only[VL,V];refine⟨_,[],rfl,⟨h3,some a,cap,by simp[h1],by simp,by simpa[h1]using lo,?_⟩,rfl⟩
       by_cases hl:len=0
       ·subst hl;left;simpa using h1
       ·right
        have h0:0<vs.length:=by rw[h5];exact Nat.mul_pos (by omega) b2
        have hs:=h6 0 h0
        have zv:a.spot=none:=by
         unfold World.cell? Addr.add at hs;rw[if_pos rfl]at hs
         split at hs
         ·split at hs
          ·cases hs
          ·rename_i h8;simpa using h8
         ·cases hs
        obtain⟨b,o,l2⟩:=a;simp only at zv;subst zv;refine⟨b,o,vs,rfl,h4,fun j hj=>?_⟩;have h9:=h6 j hj
        have:(⟨b,o,none⟩:Addr).add j=⟨b,o+j,none⟩:=by
         unfold Addr.add
         split<;>simp_all
        rw[this]at h9;exact h9
      ·simp only[aN,aK,qt];exact j7 h3
   ·cases hs
  ·rename_i fs hu;rw[cm]at hs;obtain⟨ss,x0,rfl⟩:=hs;obtain⟨hf,q3,k2⟩:=K.struct hT hu;obtain⟨xs,m,_,hb,q1,ts,hv⟩:=DataW.trod_struct hu hx;have hd:=D.ag (xs.map (·.1)) (by rw[hb]at hQ;exact hQ);obtain⟨fz,h1,h2,h3⟩:=Ir (fs.toList.map fun f=>P.cellsOf f.type) cs (by rw[q1,q3]);have q2:ss.length=fs.toList.length:=mapM_some_length x0
   obtain⟨as,g1,g2,g3,g4⟩:=Ha (w:=w) (n:=0) (r:=fun _ _=>True) ss fz (by rw[h1,q2];simp) (by
    intro i s c hs hc
    have hi:i<fs.size:=by have:=bd hs;rw[q2]at this;simpa using this
    obtain⟨f,ck⟩:∃f,fs[i]? =some f:=⟨fs[i],by simp[hi]⟩
    have gu:fs.toList[i]? =some f:=by simpa using ck
    have h4:=h3 i (P.cellsOf f.type) (by simp[ck]);rw[hc]at h4;have h4:=Option.some.inj h4;have h5:=hv i f ck;rw[k2 i f gu]at h5;have h6:=mapM_some_get x0 i f gu;rw[hs]at h6;have b3:∃y,xs[i]? =some y:=⟨xs[i]'(by omega),aW (by omega)⟩;obtain⟨y,hy⟩:=b3;rw[hy]at h5;subst h4;rw[<-List.map_take]
    exact ih f.type s (hf f (jz gu)) h6 _ _ y h5 (hd _ (rZ (jz hy))))
   exact⟨as,by simpa only [e_]using g1,by rw[h2]at g2;exact g2,g3,g4⟩
  ·rename_i m e hu;rw[cm]at hs;obtain⟨s,hs,rfl⟩:=hs;obtain⟨e2,q3⟩:=K.array hT hu;obtain⟨xs,q,_,hb,q1,ts,hv⟩:=DataW.trod_array hu hx;have hd:=D.ag (xs.map (·.1)) (by rw[hb]at hQ;exact hQ);obtain⟨fz,h1,h2,h3⟩:=Ir (List.replicate m (P.cellsOf e)) cs (by rw[q1,q3];simp)
   obtain⟨as,g1,g2,g3,g4⟩:=Ha (w:=w) (n:=0) (r:=fun _ _=>True) (List.replicate m s) fz (by rw[h1];simp) (by
    intro i s' c e1 hc
    have hi:i<m:=by have:=bd e1;simpa using this
    rw[L5]at e1;simp only[hi,cE,an]at e1;subst e1;have h4:=h3 i (P.cellsOf e) (by simp[L5,hi]);rw[hc]at h4;have h4:=Option.some.inj h4;have h5:=hv i hi;obtain⟨y,hy⟩:∃y,xs[i]? =some y:=⟨xs[i]'(by omega),aW (by omega)⟩;rw[hy]at h5;subst h4
    have he:(List.take i (List.replicate m (P.cellsOf e))).sum=i*P.cellsOf e:=by simp[List.take_replicate,rR (Nat.le_of_lt hi)]
    rw[he]
    exact ih e s e2 hs _ _ y h5 (hd _ (rZ (jz hy))))
   exact⟨as,by simpa only [e_]using g1,by rw[h2]at g2;exact g2,g3,g4⟩
  ·cases hs
end
def TS(P:Program)(t:TypeId):Prop:=t<P.types.size/\∃n,(jN P n t).isSome=true
theorem ail{P:Program}(hl:laidOutB P=true)(hm:mapsRowed P=true):Kids P (TS P):=by
 have K:=kids_rows hl hm;refine⟨fun{t e} ht hu=>?_,fun{t e} ht hu=>?_,fun{t e n} ht hu=>?_,fun{t fs} ht hu=>?_,fun{t k e} ht hu=>?_⟩
 ·obtain⟨_,n,hn⟩:=ht
  cases n<;>simp[jN,hu]at hn
 ·obtain⟨h1,n,hn⟩:=ht;refine⟨K.slice h1 hu,?_⟩
  cases n with
  |zero=>simp[jN]at hn
  |succ n=>
   simp only[jN,hu]at hn
   split at hn
   ·rename_i h2 _;exact⟨n,by simp[h2]⟩
   ·cases hn
 ·obtain⟨h1,m,hn⟩:=ht;refine⟨⟨(K.array h1 hu).1,?_⟩,(K.array h1 hu).2⟩
  cases m with
  |zero=>simp[jN]at hn
  |succ m=>simp only[jN,hu,Option.isSome_map]at hn;exact⟨m,hn⟩
 ·obtain⟨h1,n,hn⟩:=ht;refine⟨fun f hf=>⟨(K.struct h1 hu).1 f hf,?_⟩,(K.struct h1 hu).2⟩
  cases n with
  |zero=>simp[jN]at hn
  |succ n=>
   simp only[jN,hu,Option.isSome_map]at hn;obtain⟨ss,hv⟩:=LW.1 hn;obtain⟨i,hi⟩:=xJ.1 hf;have:=mapM_some_get hv i f hi;have hlen:=mapM_some_length hv
   have hb:i<ss.length:=by rw[hlen];exact bd hi
   exact⟨n,by rw[this,aW hb];rfl⟩
 ·obtain⟨_,n,hn⟩:=ht
  cases n<;>simp[jN,hu]at hn
def ux(B:Nat):List (Bool×Sh)->List AV->Prop
 |[],as=>as=[]
 |(ag,s)::r,as=>∃cs h2,as=nw ag cs::h2/\e_ B s cs/\(ag=false->cs.length=1)/\ux B r h2
def Fg(P:Program)(t:TypeId):Option (Bool×Sh):=match iu P t,jN P 12 t with
 |some ag,some s=>some (ag,s)
 |_,_=>none
section
variable{P:Program}{W:World}{H:Type}{enc:TypeId×Value->H}{sp:Nat->Bool}
theorem Ry{B:Nat}{Q:DataW H->Prop}(K:Kids P (TS P))(D:Down B Q):∀{ts:List TypeId}{shs:List (Bool×Sh)}{vs:List Value}{ds:List (DataW H)}{ps:List MemPlace},(∀t∈ts,t<P.types.size)->ts.mapM (Fg P)=some shs->
 (∀(j:Nat) t v,ts[j]? =some t->vs[j]? =some v->∃r base,Value.okWide P W r base t v)->DataW.TrodAll enc P W 0 sp true ts vs ds ps->(∀d∈ds,Q d)->∃as,ux B shs as/\VL (gw W) [] as vs
 |[],shs,vs,ds,ps,_,hs,_,hT,_=>by
  obtain⟨rfl,_,_⟩:=trodAll_nil hT;simp at hs;subst hs;exact⟨[],by simp[ux],by simp[VL]⟩
 |t::ts,shs,vs,ds,ps,hj,hs,hl,hT,hQ=>by
  obtain⟨v,ih,d,hy,a,b,rfl,rfl,rfl,h1,h2⟩:=trodAll_cons hT;simp only[tx,qz,pt,L6,an]at hs;obtain⟨x,hx,ys,q1,rfl⟩:=hs;obtain⟨as,g1,g2⟩:=Ry K D (fun t ht=>hj t (dH _ ht)) q1 (fun j t v h3 h4=>hl (j+1) t v (by simpa using h3) (by simpa using h4)) h2 (fun d hd=>hQ d (dH _ hd));unfold Fg at hx
  split at hx
  ·rename_i ag s hc hk
   cases hx
   obtain⟨fuel,hf⟩:=h1;obtain⟨cs,h3,h4,h5,h6⟩:=ak2 K D 12 t s ⟨hj t (by simp),12,by simp[hk]⟩ hk _ _ _ hf (hQ _ (pv ..));obtain⟨r,base,hb⟩:=hl 0 t v rfl rfl
   cases ag with
   |true=>
    have hv:∃c,v=.agg c:=by
     unfold iu at hc;unfold Value.okWide at hb
     cases hu:P.underlying t with
     |none=>simp[hu]at hc
     |some d=>
      rw[hu]at hc hb
      cases d<;>simp at hc<;>(obtain⟨c,rfl,_⟩:=hb;exact⟨c,rfl⟩)
    obtain⟨c,rfl⟩:=hv;refine⟨.agg cs::as,by simp only[ux];exact⟨cs,as,rfl,h3,by simp,g1⟩,?_⟩;simp only[VL,V];exact⟨_,_,rfl,⟨c.toList,by simp,by simpa[Value.cells]using h4⟩,g2⟩
   |false=>
    have hv:v.cells=#[v]:=by
     unfold iu at hc
     cases v with
     |agg c=>
      exfalso
      cases fuel with
      |zero=>simp[DataW.trod]at hf
      |succ n=>
      cases hu:P.underlying t with
      |none=>simp[hu]at hc
      |some d=>
       rw[hu]at hc;unfold Value.okWide at hb;rw[hu]at hb
       cases d<;>simp at hc<;>simp[Cell.okWide,Cell.ok,hu]at hb
       all_goals (unfold jN at hk;rw[hu]at hk;simp at hk)
     |_=>rfl
    rw[hv]at h4
    have hlen:cs.length=1:=by rw[<-gX h4];rfl
    match cs,hlen with
    |[c],_=>
     simp only[VL]at h4;obtain⟨u,us,h7,h8,h9⟩:=h4
     cases h7
     refine⟨c::as,by simp only[ux];exact⟨[c],as,rfl,h3,fun _=>rfl,g1⟩,?_⟩;simp only[VL];exact⟨_,_,rfl,h8,g2⟩
  ·cases hx
theorem adY:∀{shs:List (Bool×Sh)}{as:List AV}{vs:List Value},VL (gw W) [] as vs->aN 0 as=true
 |_,_,_,h=>by simpa using dM h
theorem adp{B:Nat}{Q:DataW H->Prop}(D:Down B Q){f:FuncId}{fn:Func}{s:ChangeSpec}{Γ:Nat->Option AV}{tb:TypeId}{shs:List (Bool×Sh)}(hl:laidOutB P=true)(hm:mapsRowed P=true)(hd:fn.resultTypes=#[tb])(ys:P.underlying tb=some .bool)
 (h6:∀t∈fn.params.toList,t<P.types.size)(hg:fn.params.toList.mapM (Fg P)=some shs)(q1:s.vars=[])
 (hc:∀ds:List (DataW H),ds.length=fn.params.size->(s.fn H ds).results=[.lit (.bool true)]/\(s.fn H ds).args=ds/\(s.fn H ds).vars=[])
 (hΓ:∀n a,Γ n=some a->aN 0 a.cells=true/\∃vs,VL (gw W) [] a.cells vs/\∀j(hj:j<vs.length),W.cell? ⟨n,j,none⟩=some vs[j])
 (q2:JS Γ {K:=fun b=>W.heap[b]?,M0:=(gw W).M,MM:=(gw W).MM,w0:=W})
 (h7:∀as,ux B shs as->aQ P Γ f as (.bool true))
 {base:Nat}{args:Array Value}{ds gs:List (DataW H)}{before:List MemPlace}
 (e1:∀(j:Nat) t v,fn.params[j]? =some t->args[j]? =some v->Value.okWide P W .any base t v)
 (hW:DataW.Whole enc P fn.params.toList s.vars false W args.toList ds gs before)(hQ:∀d∈ds,Q d):
 Calls P f args W fun e W'=>∃v,e=.returned v/\s.post enc P fn false true false false W args v W':=by
 have K:=ail hl hm;have q3:=hW;obtain⟨p,q,hA,hV,rfl,fz,gu⟩:=hW;rw[q1]at hV;obtain⟨rfl,rfl⟩:=trodVars_none hV;obtain⟨as,h1,h2⟩:=Ry K D h6 hg (fun j t v hj hv=>⟨_,_,e1 j t v (by simpa using hj) (by simpa using hv)⟩) hA hQ
 have hI:Inv P Γ {K:=fun b=>W.heap[b]?,M0:=(gw W).M,MM:=(gw W).MM,w0:=W} (gw W) [] W:=by
  refine⟨rfl,rfl,rfl,fun b o hb=>hb,fun i b x hi=>(by cases hi),fun i j b x y hi=>(by cases hi),fun _ _=>rfl,fun b o v hv=>hv,?_,fun i b sz st o v hi=>(by cases hi),fun i o hi=>(by simp at hi),hΓ,
   fun b o v B hv _=>hv,rfl,q2⟩
  intro b es ck hb;simp only[gw]at hb
  split at hb
  ·rename_i es' gg hh
   cases hb
   exact⟨hh,fun i x hi=>(by cases hi)⟩
  ·cases hb
 have hC:=(h7 as h1).2 (adY (shs:=shs) h2) _ _ [] W args.toList hI h2;rw[Array.toArray_toList]at hC;refine hC.mono ?_
 rintro e W' ⟨u,g',rfl,_,hz,hu,_,_,hk⟩
 simp only[er,fh,V]at hu;subst hu;refine⟨_,rfl,ds,[],p++[],[],p,[],q3,?_,?_,?_,?_,fun h=>by cases h⟩
 ·have hlen:ds.length=fn.params.size:=by
   have:=(trodAll_length hA).2;simpa using this
  rw[ey,(hc ds hlen).1,hd];exact trodAll_cons_mk (shut_bool ys _) trodAll_mk0
 ·have hlen:ds.length=fn.params.size:=by
   have:=(trodAll_length hA).2;simpa using this
  rw[ey,(hc ds hlen).2.1];have hp:∀x∈p,x.block<W.heap.size:=hA.lt
  have key:∀{ts:List TypeId}{vs:List Value}{ds:List (DataW H)}{ps:List MemPlace},(∀t∈ts,TS P t)->(∀x∈ps,x.block<W.heap.size)->DataW.TrodAll enc P W 0 (fun _=>true) true ts vs ds ps->
   DataW.TrodAll enc P W' 0 (fun b=>decide (b<W.heap.size)) true ts vs ds ps:=by
   intro ts
   induction ts with
   |nil=>
    intro vs ds ps _ _ hT;obtain⟨rfl,rfl,rfl⟩:=trodAll_nil hT;exact trodAll_mk0
   |cons t ts ih=>
    intro vs ds ps ht hb hT;obtain⟨v,k1,d,h9,a,b,rfl,rfl,rfl,h3,h4⟩:=trodAll_cons hT;obtain⟨fuel,hf⟩:=h3;refine trodAll_cons_mk ⟨fuel,DataW.trod_stays K ?_ (by simp) (ht t (by simp)) hf ?_ ?_⟩ (ih (fun t' e2=>ht t' (dH _ e2)) (fun x hx=>hb x (by simp[hx])) h4)
    ·intro t e e2 hu;obtain⟨_,n,hn⟩:=e2
     cases n with
     |zero=>simp[jN]at hn
     |succ n=>
      simp only[jN,hu]at hn
      split at hn
      ·split at hn
       ·cases hn
       ·rename_i h5;omega
      ·cases hn
    ·intro x hx;have hy:=hb x (by simp[hx])
     cases x with
     |cell b o=>simp only[World.sameAt,World.cell?];rw[hk b hy]
     |map b=>simp only[World.sameAt];exact hk b hy
    ·intro x hx;have hy:=hb x (by simp[hx]);simpa using hy
  refine key (fun t ht=>⟨h6 t ht,?_⟩) hp hA;obtain⟨i,hi⟩:=xJ.1 ht;have h3:=mapM_some_get hg i t hi
  have k2:i<shs.length:=by rw[mapM_some_length hg];exact bd hi
  rw[aW k2]at h3;unfold Fg at h3
  split at h3
  ·rename_i h4;exact⟨12,by simp[h4]⟩
  ·cases h3
 ·have hlen:ds.length=fn.params.size:=by
   have:=(trodAll_length hA).2;simpa using this
  rw[ey,(hc ds hlen).2.2,q1];rfl
 ·refine⟨hz.os,hz.output,fun i hi=>?_⟩;rw[hk i hi];have:=(World.keptBut_refl W (fun hq=>hq∈p++[]/\(hq∈[]\/hq∈p\/hq∈[]))).2.2 i hi;exact this
end
theorem Am{α β γ:Type}{f:α->γ}{e:β->γ}:∀{xs:List α},(∀x∈xs,∃t,f x=e t)->∃ts:List β,xs.map f=ts.map e/\ts.length=xs.length
 |[],_=>⟨[],rfl,rfl⟩
 |x::xs,h=>by
  obtain⟨t,ht⟩:=h x (by simp);obtain⟨ts,h1,h2⟩:=Am (xs:=xs) (e:=e) (fun y hy=>h y (dH _ hy));exact⟨t::ts,by simp[ht,h1],by simp[h2]⟩
theorem drop_eq{α:Type}{a b:List α}{i:Nat}(h1:i<a.length)(h2:i<b.length):(a.drop i=b.drop i)↔(a[i]=b[i]/\a.drop (i+1)=b.drop (i+1)):=by
 rw[bJ h1,bJ h2,vd]
@[simp] theorem aDx{α:Type}(n:Nat)(f:α->AV)(l:List α):aN n (l.map f)=l.all fun x=>aK n (f x):=by
 induction l with
 |nil=>rfl
 |cons a l ih=>simp[aN,ih]
@[simp] theorem aDM{α:Type}(f:α->AV)(l:List α):fF (l.map f)=l.all fun x=>eS (f x):=by
 induction l with
 |nil=>rfl
 |cons a l ih=>simp[fF,ih]
@[simp] theorem aCJ(a b:List AV):fF (a++b)=(fF a&&fF b):=by
 induction a with
 |nil=>simp[fF]
 |cons x a ih=>simp[fF,ih,pw]
@[simp] theorem aDw{α β:Type}(f:α->β)(l:List α):(l.map f).take l.length=l.map f:=by rw[cj];simp
@[simp] theorem GK(n:Nat)(a b:List AV):aN n (a++b)=(aN n a&&aN n b):=by
 induction a with
 |nil=>simp[aN]
 |cons x a ih=>simp[aN,ih,pw]
@[simp] theorem aEs{c:Prop}[Decidable c]{r:R}(h:c):(if c then r else R.bad)=r:=if_pos h
@[simp] theorem aD0{c:Prop}[Decidable c]{α:Type}{x:α}(h:c):(if c then some x else none)=some x:=if_pos h
@[simp] theorem natCast_eq(a b:Nat):((a:Int)=(b:Int))↔a=b:=by omega
@[simp] theorem toNat_add{x y:Int}(h1:0<=x)(h2:0<=y):(x+y).toNat=x.toNat+y.toNat:=by omega
@[simp] theorem toNat_sub{x y:Int}(h2:0<=y):(x-y).toNat=x.toNat-y.toNat:=by omega
attribute [simp] lP lQ ir qa sF cz iL fC iQ dx j0 pV D0 c8 nh o_ wrap64 rV oB
@[simp] theorem aCS{P:Program}{Γ:Nat->Option AV}(c:ar):Reach P Γ c c:=.refl c
section
variable{P:Program}{Γ:Nat->Option AV}
theorem DC{g:G}{h:List Ob}{s:List UInt8}{as:List AV}{us:List Value}(hv:VL g h (.str s::as) us):∃hb,us=.string ⟨s.toArray⟩::hb/\VL g h as hb:=by
 simp only[VL,V]at hv;obtain⟨v,hb,rfl,rfl,h2⟩:=hv;exact⟨hb,rfl,h2⟩
theorem ajO{g:G}{h:List Ob}{k:IntKind}{n:Int}{as:List AV}{us:List Value}(hv:VL g h (.int k n::as) us):∃hb,us=.int k n::hb/\VL g h as hb:=by
 simp only[VL,V]at hv;obtain⟨v,hb,rfl,rfl,h2⟩:=hv;exact⟨hb,rfl,h2⟩
theorem I9{g:G}{h:List Ob}{us:List Value}(hv:VL g h [] us):us=[]:=by simpa only [VL]using hv
theorem Reach.al8{f:FuncId}{args as:List AV}{v:AV}{up:List Fr}{h:List Ob}{c:ar}(h1:cy h args=some as)(h2:mV P Γ f as v)(h3:Reach P Γ (.die up v h) c):Reach P Γ (.cl f args up h) c:=.trans (.JY h1 h2) h3
theorem Reach.mY(n:Nat){f:FuncId}{args as:List AV}{v:AV}{up:List Fr}{h:List Ob}{c:ar}(h1:cy h args=some as)(h2:mV P Γ f as v)(h3:Reach P Γ (AM.go P Γ 0 n (.die up v h)) c):Reach P Γ (.cl f args up h) c:=.al8 h1 h2 (.go n h3)
def o9(gs:List AG):List (List Nat):=(List.range gs.length).map fun i=>(List.range i).filter fun j=>match gs[i]?,gs[j]? with
 |some gi,some gj=>(match gj.dst with
  |some d=>(uk gi).contains d
  |none=>false)
 |_,_=>false
theorem Rt{ops:Array Oper}{dep:List (List Nat)}(ih:pI ops=true)(ht:dep.length=ops.size)(hg:∀i j,j∈dep.getD i []->mA ops j i=true):∀(fuel n:Nat)(listed:Array Bool)(done:List Nat),listed.size=ops.size->(∀i,i<ops.size->listed.getD i true=done.contains i)->DF ops listed->left ops.size listed=fuel->
 Region.linearise.go .any ops fuel n listed []∈gA dep fuel done
 |0,n,listed,done,_,_,_,_=>by simp[Region.linearise.go,gA]
 |fuel+1,n,listed,done,q1,hd,q2,hl=>by
  have hf:∀i(h:i<ops.size),∀e∈(ops[i]).after.toList,Region.binds .any e=true->e.on<i:=by
   intro i h e he hb;simp only[pI,eh]at ih;have h6:=ih (ops[i],i) (by rw[Yb];simp[h]);rw[<-tB,eh]at h6;have h7:=h6 e he;rw[hb]at h7;simpa using h7
  have ps:0<((List.range ops.size).filter fun i=>!listed.getD i true&&((ops[i]?).map (·.after.all fun e=>!Region.binds .any e||listed.getD e.on false)).getD false).length:=by
   have hex:∃i,i<ops.size/\listed.getD i true=false:=by
    unfold left at hl;obtain⟨i,hi⟩:=Fu (l:=(List.range ops.size).filter fun i=>!listed.getD i true) (by omega);simp only[dX,dS,j4]at hi;exact⟨i,hi⟩
   have hy:∀m i,i<=m->i<ops.size->listed.getD i true=false->∃i,i<ops.size/\listed.getD i true=false/\∀j,j<i->listed.getD j true=true:=by
    intro m
    induction m with
    |zero=>intro i h1 h2 h3;exact⟨i,h2,h3,fun j hj=>by omega⟩
    |succ m hz=>
     intro i h1 h2 h3
     by_cases h4:∃j,j<i/\listed.getD j true=false
     ·obtain⟨j,h5,h6⟩:=h4;exact hz j (by omega) (by omega) h6
     ·refine⟨i,h2,h3,fun j hj=>?_⟩
      cases hq:listed.getD j true with
      |true=>rfl
      |false=>exact absurd ⟨j,hj,hq⟩ h4
   obtain⟨i0,h1,h2⟩:=hex;obtain⟨i,h3,h4,h5⟩:=hy i0 i0 (aT _) h1 h2;refine Ft (a:=i) ?_;simp only[dX,dS,h4,xC,tA,kJ h3,dC,kH];refine⟨h3,?_⟩;rw[<-tB,eh];intro e he
   cases hb:Region.binds .any e with
   |false=>rfl
   |true=>
    have h7:=hf i h3 e he hb;simp only[rT,pr];rw[wo (by omega) false true];exact h5 _ h7
  simp only[Region.linearise.go,gA];generalize ys:((List.range ops.size).filter fun i=>!listed.getD i true&&((ops[i]?).map (·.after.all fun e=>!Region.binds .any e||listed.getD e.on false)).getD false)=rs at ps⊢;have e1:n%rs.length<rs.length:=Nat.mod_lt _ ps;rw[aW e1];generalize q3:rs[n%rs.length]=i
  have k2:i∈rs:=by rw[<-q3];exact bA e1
  have hc:=k2;rw[<-ys]at hc;simp only[dX,dS,aB,j4]at hc;obtain⟨h1,h2,h3⟩:=hc;rw[kJ h1,dC,kH]at h3
  have hv:∀e∈(ops[i]).after.toList,Region.binds .any e=true->listed.getD e.on false=true:=by
   intro e he hb;rw[<-tB,eh]at h3;have:=h3 e he;rw[hb]at this;simpa using this
  have hx:i∈(List.range dep.length).filter (mc dep done):=by
   simp only[dX,dS,mc,aB,j4,ht];refine⟨h1,by rw[<-hd i h1];exact h2,?_⟩;rw[eh];intro j hj;have h4:=Hd q2 i i j (aT _) ⟨ops[i],kJ h1,hv⟩ (hg i j hj)
   have fz:j<ops.size:=by
    rw[<-q1]
    refine xL fun hn=>?_
    rw[iY,pn (by omega)]at h4
    cases h4
   rw[<-hd j fz,<-wo (by omega) false true];exact h4
  have ck:listed.getD i true=false:=h2;simp only;rw[linearise_go_acc,Yc,tz];refine qA.2 ⟨i,hx,cd.2 ⟨_,Rt ih ht hg fuel _ _ _ (by simpa using q1) ?_ ?_ ?_,rfl⟩⟩
  ·intro j hj;simp only[iY,vg]
   by_cases hk:i=j
   ·subst hk;simp[q1,h1]
   ·rw[if_neg hk];have:=hd j hj;rw[iY]at this;rw[this];simp[Ne.symm hk]
  ·intro j o ho hj e he hb
   have hp:∀q,listed.getD q false=true->(listed.setIfInBounds i true).getD q false=true:=by
    intro q hq;simp only[iY,vg]at hq⊢
    by_cases e2:i=q
    ·subst e2;simp[q1,h1]
    ·rw[if_neg e2];exact hq
   refine hp _ ?_
   by_cases hk:i=j
   ·subst hk;rw[kJ h1]at ho
    cases ho
    exact hv e he hb
   ·refine q2 j o ho ?_ e he hb;simp only[iY,vg,if_neg hk]at hj⊢;exact hj
  ·have:=Ij h1 ck;omega
theorem ahz{ops:Array Oper}{gs:List AG}(hv:wi ops gs=true)(hlen:gs.length=ops.size)(i j:Nat)(hj:j∈(o9 gs).getD i []):mA ops j i=true:=by
 by_cases hi:i<gs.length
 ·have e:(o9 gs).getD i []=(List.range i).filter fun j=>match gs[i]?,gs[j]? with
   |some gi,some gj=>(match gj.dst with
    |some d=>(uk gi).contains d
    |none=>false)
   |_,_=>false:=by
   simp[o9,bz,hi]
  rw[e]at hj;simp only[dX,dS]at hj;obtain⟨hb,hj⟩:=hj;simp only[wi,eh,dS]at hv;have h1:=hv i hi;rw[aW hi]at h1 hj;simp only[aB,eh,dS]at h1;have h2:=h1.2 j hb;rw[aW (by omega:j<gs.length)]at h2 hj;simp only at h2 hj
  cases hd:(gs[j]'(by omega)).dst with
  |none=>rw[hd]at hj;cases hj
  |some d=>
   rw[hd]at hj;simp only[nU,hd,hj,rT,Bool.false_and,Bool.or_false,aB]at h2;exact h2.2
 ·rw[bz,gy (by simp[o9];omega)]at hj;simp at hj
theorem NT{P:Program}{Γ:Nat->Option AV}{N:Env}{g0:G}{f0:FuncId}{cs0:List Frame}{f:Fr}{up:List Fr}{h:List Ob}{l:List Bool}{ws:List Nat}{gs:List AG}{k:List It}(hf:f.md=.run)(hc:f.its=.code (.aR l ws gs)::k){m:Machine}(hm:dp P Γ N g0 f0 cs0 (.fr f up h) m):
 ∃h5∈gA (o9 gs) gs.length [],∃m1,Steps P m m1/\dp P Γ N g0 f0 cs0 (.fr {f with its:=.ops (h5.map fun i=>gs.getD i default)::k} up h) m1:=by
 obtain⟨g,w,tmps,todo,ds,kd,ro,md,fs,rfl,S,hx⟩:=hm.inv;rw[hf]at hx;simp only[MR]at hx;subst hx;have hI:=S.its;rw[hc]at hI
 cases todo with
 |nil=>simp only[IR]at hI
 |cons im k'=>
 cases im<;>simp only[IR]at hI
 rename_i c;obtain⟨hC,hk⟩:=hI
 cases c<;>try (simp only[CR]at hC;done)
 rename_i id ops draw
 cases draw<;>simp only[CR]at hC
 obtain⟨hy,hp,rfl,rfl⟩:=hC;simp only[Ar,aB]at hp;obtain⟨⟨hj,q1⟩,h4⟩:=hp
 have hlen:gs.length=ops.size:=by rw[(z8 hy).1];simp
 have hv:∀x,Region.schedule (P.follows .mixedOrders) ops x=Region.linearise.go .any ops ops.size x (Array.replicate ops.size false) []:=by
  intro x;unfold Region.schedule;rw[if_pos (by simpa using h4)];rfl
 have h2:∀i d,(Array.replicate ops.size false).getD i d=if i<ops.size then false else d:=by
  intro i d;rw[iY,Yd]
  split<;>rfl
 have hb:left ops.size (Array.replicate ops.size false)=ops.size:=by
  unfold left;rw[Bx.2,qw];intro i hi;rw[h2,if_pos (by simpa using hi)];rfl
 have hq:DF ops (Array.replicate ops.size false):=by
  intro i o ho hl;have:=bd (l:=ops.toList) (i:=i) (a:=o) (by simpa using ho);rw[h2,if_pos (by simpa using this)]at hl
  cases hl
 have ih:=Rt (dep:=o9 gs) q1 (by simp[o9,hlen]) (ahz hj hlen) ops.size (w.tape w.drawn (.order f.fn id)) (Array.replicate ops.size false) [] (by simp) (fun i hi=>by rw[h2,if_pos hi];rfl) hq hb;have S':St P Γ N g0 f0 g h w.drew f up tmps (.code (.region id ops true)::k') ds kd ro fs:=⟨S.H.world rfl rfl rfl rfl,S.M,S.its,S.t,S.ds,S.kind,S.is,S.b,S.z,S.s⟩;refine⟨_,by rw[hlen];exact ih,_,Steps.one Jf,?_⟩;rw[hv];exact S'.go hf (its:=.ops _::k) ⟨CS hy fun i hi=>DH _ _ _ i hi,hk⟩ S.t
inductive Out where
 |ret (r:AV)
 |die (v:AV)
def Kk(P:Program)(Γ:Nat->Option AV)(f:FuncId)(as:List AV):Out->Prop
 |.ret r=>aQ P Γ f as r
 |.die v=>mV P Γ f as v
inductive aA(P:Program)(Γ:Nat->Option AV):ar->Out->Prop
 |back {v r:AV} {hh:List Ob}:wU hh v=some r->aA P Γ (.back [] v hh) (.ret r)
 |die {v:AV} {hh:List Ob}:aK 0 v=true->eS v=true->aA P Γ (.die [] v hh) (.die v)
 |reach {c c':ar} {o:Out}:Reach P Γ c c'->aA P Γ c' o->aA P Γ c o
 |DK {f:Fr} {up:List Fr} {h:List Ob} {as:List (List Nat)} {gs:List AG} {k:List It} {o:Out}:f.md=.run->f.its=.code (.gM as gs)::k->(∀v,o=.die v->aK 0 v=true/\eS v=true)->
  (∀l∈gA as as.length [],aA P Γ (.fr {f with its:=.ops (l.map fun i=>gs.getD i default)::k} up h) o)->aA P Γ (.fr f up h) o
 |Df {f:Fr} {up:List Fr} {h:List Ob} {l:List Bool} {ws:List Nat} {gs:List AG} {k:List It} {o:Out}:f.md=.run->f.its=.code (.aR l ws gs)::k->(∀v,o=.die v->aK 0 v=true/\eS v=true)->
  (∀l∈gA (o9 gs) gs.length [],aA P Γ (.fr {f with its:=.ops (l.map fun i=>gs.getD i default)::k} up h) o)->aA P Γ (.fr f up h) o
 |kT {f:Fr} {up:List Fr} {h:List Ob} {a:AG} {os:List AG} {k:List It} {o:Out}:f.md=.run->f.its=.ops (a::os)::k->dY f.t a.guard=some true->aD P Γ f.t h a.op=.either->
  (∀b,aA P Γ (.fr {f with its:=.ops os::k,t:=bl f.t a.dst (.bool b)} up h) o)->aA P Γ (.fr f up h) o
theorem agj{N:Env}{g0:G}{f0:FuncId}{cs0:List Frame}{c:ar}{o:Out}(hf:aA P Γ c o):∀r,o=.ret r->∀m,dp P Γ N g0 f0 cs0 c m->∃m' v hh,Steps P m m'/\dp P Γ N g0 f0 cs0 (.back [] v hh) m'/\wU hh v=some r:=by
 induction hf with
 |@back v r hh h1=>intro r' hr m hm;cases hr;exact⟨m,v,hh,.refl _ _,hm,h1⟩
 |die _ _=>intro r' hr;cases hr
 |reach h1 _ ih=>
  intro r hr m hm;obtain⟨m1,s1,h2⟩:=GF h1 m hm;obtain⟨m2,v,hh,s2,h3,h4⟩:=ih r hr m1 h2;exact⟨m2,v,hh,s1.trans s2,h3,h4⟩
 |DK hb hv _ _ ih=>
  intro r hr m hm;obtain⟨l,hl,m1,s1,h2⟩:=G1 hb hv hm;obtain⟨m2,v,hh,s2,h3,h4⟩:=ih l hl r hr m1 h2;exact⟨m2,v,hh,s1.trans s2,h3,h4⟩
 |Df hb hv _ _ ih=>
  intro r hr m hm;obtain⟨l,hl,m1,s1,h2⟩:=NT hb hv hm;obtain⟨m2,v,hh,s2,h3,h4⟩:=ih l hl r hr m1 h2;exact⟨m2,v,hh,s1.trans s2,h3,h4⟩
 |kT hb hv hw ha _ ih=>
  intro r hr m hm;obtain⟨b,m1,s1,h2⟩:=GL hb hv hw ha hm;obtain⟨m2,v,hh,s2,h3,h4⟩:=ih b r hr m1 h2;exact⟨m2,v,hh,s1.trans s2,h3,h4⟩
theorem ag6{N:Env}{g0:G}{f0:FuncId}{cs0:List Frame}{c:ar}{o:Out}(hf:aA P Γ c o):∀v,o=.die v->∀m,dp P Γ N g0 f0 cs0 c m->∃m' hh,Steps P m m'/\dp P Γ N g0 f0 cs0 (.die [] v hh) m':=by
 induction hf with
 |back _=>intro r' hr;cases hr
 |@die v hh _ _=>intro v' hr m hm;cases hr;exact⟨m,hh,.refl _ _,hm⟩
 |reach h1 _ ih=>
  intro r hr m hm;obtain⟨m1,s1,h2⟩:=GF h1 m hm;obtain⟨m2,hh,s2,h3⟩:=ih r hr m1 h2;exact⟨m2,hh,s1.trans s2,h3⟩
 |DK hb hv _ _ ih=>
  intro r hr m hm;obtain⟨l,hl,m1,s1,h2⟩:=G1 hb hv hm;obtain⟨m2,hh,s2,h3⟩:=ih l hl r hr m1 h2;exact⟨m2,hh,s1.trans s2,h3⟩
 |Df hb hv _ _ ih=>
  intro r hr m hm;obtain⟨l,hl,m1,s1,h2⟩:=NT hb hv hm;obtain⟨m2,hh,s2,h3⟩:=ih l hl r hr m1 h2;exact⟨m2,hh,s1.trans s2,h3⟩
 |kT hb hv hw ha _ ih=>
  intro r hr m hm;obtain⟨b,m1,s1,h2⟩:=GL hb hv hw ha hm;obtain⟨m2,hh,s2,h3⟩:=ih b r hr m1 h2;exact⟨m2,hh,s1.trans s2,h3⟩
theorem R8{c:ar}{o:Out}(hf:aA P Γ c o):∀v,o=.die v->aK 0 v=true/\eS v=true:=by
 induction hf with
 |back _=>intro r' hr;cases hr
 |@die v hh h1 h2=>intro v' hr;cases hr;exact⟨h1,h2⟩
 |reach _ _ ih=>exact ih
 |DK _ _ h1 _ _=>exact h1
 |Df _ _ h1 _ _=>exact h1
 |kT _ _ _ _ _ ih=>exact ih true
theorem aA.go(n:Nat){c:ar}{o:Out}(h:aA P Γ (AM.go P Γ 0 n c) o):aA P Γ c o:=.reach (.goes n c) h
theorem aA.dh(n:Nat){c:ar}{o:Out}(h:aA P Γ (AM.go P Γ 1 n c) o):aA P Γ c o:=.reach (.goes n c) h
theorem Reach.exit{fn:FuncId}{k k':List It}{t t':List AV}{ds:List dO}{kind:FK}{base:Nat}{up:List Fr}{h:List Ob}{id:Nat}{m:List Bool}(h1:pR id k=some (k',m))(h2:dJ m t=t'):
 Reach P Γ (.fr ⟨.run,fn,.code (.exit id)::k,t,ds,kind,base⟩ up h) (.fr ⟨.run,fn,k',t',ds,kind,base⟩ up h):=by
 refine .one ?_;simp only[iG,jE,h1,h2];exact .refl _
theorem aA.call(n:Nat){f:FuncId}{args as:List AV}{r:AV}{up:List Fr}{h:List Ob}{o:Out}(h1:cy h args=some as)(h2:aQ P Γ f as r)(h3:aA P Γ (AM.go P Γ 0 n (.back up (er h.length r).1 (eV h args r))) o):aA P Γ (.cl f args up h) o:=
 .reach (.pure h1 h2) (.go n h3)
theorem aA.mY(n:Nat){f:FuncId}{args as:List AV}{v:AV}{up:List Fr}{h:List Ob}{o:Out}(h1:cy h args=some as)(h2:mV P Γ f as v)(h3:aA P Γ (AM.go P Γ 0 n (.die up v h)) o):aA P Γ (.cl f args up h) o:=
 .reach (.JY h1 h2) (.go n h3)
theorem Kk.of{f:FuncId}{F:aF}{as:List AV}{o:Out}(n:Nat)(hF:nb P f=some F)(hb:dv P f=true)
 (h:aA P Γ (AM.go P Γ 0 n (.fr ⟨.run,f,[.code F.body],as++List.replicate (F.nt-as.length) .undef,[],.norm,0⟩ [] [])) o):Kk P Γ f as o:=by
 have h2:aA P Γ (.cl f as [] []) o:=.reach (zV hF as (.refl _)) (.go n h)
 cases o with
 |ret r=>exact aQ.Ey hb fun _ _ _ _ m hm=>agj h2 r rfl m hm
 |die v=>exact mV.Ey hb (fun _ _ _ _ m hm=>ag6 h2 v rfl m hm) (R8 h2 v rfl).1 (R8 h2 v rfl).2
theorem aQ.run{f:FuncId}{F:aF}{as:List AV}{r:AV}(n:Nat)(hF:nb P f=some F)(hb:dv P f=true)
 (h:aA P Γ (AM.go P Γ 0 n (.fr ⟨.run,f,[.code F.body],as++List.replicate (F.nt-as.length) .undef,[],.norm,0⟩ [] [])) (.ret r)):aQ P Γ f as r:=Kk.of (o:=.ret r) n hF hb h
theorem aA.drop{f:Fr}{up:List Fr}{h h':List Ob}{o:Out}(n:Nat)(hh:h.take n=h')(h1:f.base<=n)(h2:lP n f=true)(h3:cz n h'=true)(h4:aA P Γ (.fr f up h') o):aA P Γ (.fr f up h) o:=by
 subst hh;exact .reach (.drop n h1 h2 h3) h4
theorem aA.reset{f:Fr}{up:List Fr}{h:List Ob}{o:Out}{i k:Nat}{E:TypeId}{es:List AV}{fl sh:Bool}(hi:h[i]? =some (.row k E es (some 0) fl sh))(h1:f.base<=i)(h2:iQ i es.length f=true)(h3:c8 i es.length h=true)
 (h4:aA P Γ (.fr f up (h.set i (.row k E es none fl sh))) o):aA P Γ (.fr f up h) o:=.reach (.reset h1 hi h2 h3) h4
section
variable{fn:FuncId}{k:List It}{t:List AV}{ds:List dO}{kind:FK}{base:Nat}{up:List Fr}{h:List Ob}{o:Out}
theorem aA.enter(n:Nat){g:FuncId}{F:aF}{args:List AV}(hF:nb P g=some F)(h1:aA P Γ (AM.go P Γ 0 n (.fr ⟨.run,g,[.code F.body],args++List.replicate (F.nt-args.length) .undef,[],.norm,h.length⟩ up h)) o):aA P Γ (.cl g args up h) o:=
 .reach (zV hF args (.refl _)) (.go n h1)
theorem aA.inLoop{m:List Bool}{b:aj}(h1:aA P Γ (.fr ⟨.run,fn,.code b::.inLoop m b::k,dJ m t,ds,kind,base⟩ up h) o):aA P Γ (.fr ⟨.run,fn,.code (.loop m b)::k,t,ds,kind,base⟩ up h) o:=.reach (Q_ (.refl _)) h1
theorem aA.aI{m:List Bool}{b:aj}(h1:aA P Γ (.fr ⟨.run,fn,.code b::.inLoop m b::k,dJ m t,ds,kind,base⟩ up h) o):aA P Γ (.fr ⟨.run,fn,.inLoop m b::k,t,ds,kind,base⟩ up h) o:=.reach (R2 (.refl _)) h1
end
end
section
variable{P:Program}{Γ:Nat->Option AV}
def iP(Cs:List (Nat×(List Ob->Prop)))(i:Nat)(h:List Ob):Prop:=∀C∈Cs,i<C.1->C.2 h
@[simp] theorem aDF(i:Nat)(h:List Ob):iP [] i h↔True:=by simp[iP]
@[simp] theorem aC4(C:Nat×(List Ob->Prop))(Cs:List (Nat×(List Ob->Prop)))(i:Nat)(h:List Ob):iP (C::Cs) i h↔(i<C.1->C.2 h)/\iP Cs i h:=by simp[iP]
structure np where
 k:List AV->List Ob->Prop
 X:iw->Prop
def cI(P:Program)(Γ:Nat->Option AV)(K:np):List Bool->List Nat->Nat->List AG->List AV->List Ob->List (List Ob)->List (Nat×(List Ob->Prop))->Prop
 |_,_,_,[],t,h,_,_=>K.k t h
 |l,ws,i,o::os,t,h,hs,Cs=>
  match dY t o.guard with
  |some true=>
   match aD P Γ t h o.op with
   |.val v h'=>
    if dK o.op=2 then iP Cs (i+1) h'/\cI P Γ K l.tail ws.tail (i+1) os (bl t o.dst v) h' (h'::hs) Cs
    else if l.headD true=true/\dK o.op=1 then(∀g∈hs,aD P Γ t g o.op=.val v g)/\cI P Γ K l.tail ws.tail (i+1) os (bl t o.dst v) h' hs ((ws.headD 0,fun g=>aD P Γ t g o.op=.val v g)::Cs)
    else cI P Γ K l.tail ws.tail (i+1) os (bl t o.dst v) h' hs Cs
   |.skip h'=>iP Cs (i+1) h'/\cI P Γ K l.tail ws.tail (i+1) os (bl t o.dst (.aH [])) h' (h'::hs) Cs
   |.call f args=>dv P f=true/\
    if l.headD true=true then∃(v:AV)(C:List Ob->Prop),(∀g,C g->aD P Γ t g o.op=.call f args/\∀up,Reach P Γ (.cl f args up g) (.back up v g))/\(∀g∈hs,C g)/\cI P Γ K l.tail ws.tail (i+1) os (bl t o.dst v) h hs ((ws.headD 0,C)::Cs)
    else∃(v:AV)(h':List Ob),((∀up,Reach P Γ (.cl f args up h) (.back up v h'))\/K.X ⟨.fn f,args,h,v,h'⟩)/\iP Cs (i+1) h'/\cI P Γ K l.tail ws.tail (i+1) os (bl t o.dst v) h' (h'::hs) Cs
   |.yield y args=>l.headD true=false/\∃(v:AV)(h':List Ob),(∀up,Reach P Γ ((jM.yl y).cfg args up h) (.back up v h'))/\iP Cs (i+1) h'/\cI P Γ K l.tail ws.tail (i+1) os (bl t o.dst v) h' (h'::hs) Cs
   |_=>False
  |some false=>cI P Γ K l.tail ws.tail (i+1) os (bl t o.dst (.aH [])) h hs Cs
  |none=>False
theorem agw{t:List AV}{h h':List Ob}{o:AO}{v:AV}(hv:aD P Γ t h o=.val v h')(hc:dK o≠2):h'=h:=(CN (v:=v) (h':=h') hc).1 hv
def sL(i:Nat)(h2 hs HS:List (List Ob)):Prop:=∀k g,HS[k]? =some g->(k<=i->g∈h2)/\(i<k->hs[k-i-1]? =some g)
theorem sL.next{i:Nat}{hv hs1 hs HS:List (List Ob)}{h':List Ob}(h1:sL i hv (h'::hs) HS)(h2:∀g∈hv,g∈hs1)(h3:h'∈hs1):sL (i+1) hs1 hs HS:=by
 intro k g hk;obtain⟨a,b⟩:=h1 k g hk;refine⟨fun h=>?_,fun h=>?_⟩
 ·by_cases hb:k<=i
  ·exact h2 g (a hb)
  ·have:=b (by omega)
   have e:k-i-1=0:=by omega
   rw[e]at this;simp at this;subst this;exact h3
 ·have:=b (by omega)
  have e:k-i-1=(k-(i+1)-1)+1:=by omega
  rw[e]at this;simpa using this
theorem sL.all{i w:Nat}{hv hs HS:List (List Ob)}{C:List Ob->Prop}(h1:sL i hv hs HS)(h2:∀g∈hv,C g)(h3:∀k g,hs[k]? =some g->i+1+k<w->C g):∀g∈HS.take w,C g:=by
 intro g hg;obtain⟨k,hk⟩:=xJ.1 hg;rw[rS]at hk
 split at hk
 ·rename_i hc;obtain⟨a,b⟩:=h1 k g hk
  by_cases hb:k<=i
  ·exact h2 g (a hb)
  ·exact h3 _ g (b (by omega)) (by omega)
 ·cases hk
theorem qK{K:np}:∀{gs:List AG}{l:List Bool}{ws:List Nat}{i:Nat}{t:List AV}{h:List Ob}{hs:List (List Ob)}{Cs Cs':List (Nat×(List Ob->Prop))},(∀C∈Cs',C∈Cs)->cI P Γ K l ws i gs t h hs Cs->cI P Γ K l ws i gs t h hs Cs'
 |[],_,_,_,_,_,_,_,_,_,h1=>h1
 |o::os,l,ws,i,t,h,hs,Cs,Cs',hv,h1=>by
  unfold cI at h1⊢
  have hH:∀{j h},iP Cs j h->iP Cs' j h:=fun q C hC=>q C (hv C hC)
  have hb:∀{C:Nat×(List Ob->Prop)},∀D∈C::Cs',D∈C::Cs:=by
   intro C D hD
   rcases bD.1 hD with rfl|hD
   ·simp
   ·exact dH _ (hv D hD)
  split at h1
  ·split at h1
   ·split
    ·rename_i h2;rw[if_pos h2]at h1;exact⟨hH h1.1,qK hv h1.2⟩
    ·rename_i h2;rw[if_neg h2]at h1
     split
     ·rename_i h3;rw[if_pos h3]at h1;exact⟨h1.1,qK hb h1.2⟩
     ·rename_i h3;rw[if_neg h3]at h1;exact qK hv h1
   ·exact⟨hH h1.1,qK hv h1.2⟩
   ·refine⟨h1.1,?_⟩;have h1:=h1.2
    split
    ·rename_i h2;rw[if_pos h2]at h1;obtain⟨v,C,a,b,c⟩:=h1;exact⟨v,C,a,b,qK hb c⟩
    ·rename_i h2;rw[if_neg h2]at h1;obtain⟨v,h',a,b,c⟩:=h1;exact⟨v,h',a,hH b,qK hv c⟩
   ·obtain⟨h0,v,h',a,b,c⟩:=h1;exact⟨h0,v,h',a,hH b,qK hv c⟩
   ·exact h1
  ·exact qK hv h1
  ·exact h1
theorem Cj{K:np}{gs:List AG}{l:List Bool}{ws:List Nat}{i j:Nat}{t:List AV}{h:List Ob}{hs:List (List Ob)}{Cs:List (Nat×(List Ob->Prop))}(h1:cI P Γ K l ws j gs t h hs Cs):cI P Γ K l ws j gs t h hs (Cs.filter fun C=>decide (i<C.1)):=
 qK (fun C hC=>(dX.1 hC).1) h1
theorem nG{K:np}:∀{gs:List AG}{l:List Bool}{ws:List Nat}{i:Nat}{t:List AV}{h:List Ob}{hf:List (List Ob)}{Cs0:List (Nat×(List Ob->Prop))},cI P Γ K l ws i gs t h hf Cs0->h∈hf->(∀C∈Cs0,∀g∈hf,C.2 g)->
 ∃(ih:List (AV×List Ob))(t':List AV)(h':List Ob)(obls:List iw)(hs:List (List Ob))(hv:List iw),jm P Γ ih gs t h=some (t',h',obls,hs)/\K.k t' h'/\(∀C∈Cs0,∀k g,hs[k]? =some g->i+1+k<C.1->C.2 g)/\
  (∀o∈obls,o∈hv)/\(∀o∈hv,(∀up,Reach P Γ (o.f.cfg o.args up o.h) (.back up o.v o.h'))\/K.X o)/\
  ∀(HS:List (List Ob))(hc:List iw),sL i hf hs HS->(∀o∈hv,o∈hc)->calm P Γ hc HS l ws ih gs t h
 |[],l,ws,i,t,h,hf,Cs0,hD,_,_=>⟨[],t,h,[],[],[],rfl,hD,by simp,by simp,by simp,fun _ _ _ _=>trivial⟩
 |o::os,l,ws,i,t,h,hf,Cs0,hD,hh,hC=>by
  unfold cI at hD;unfold jm calm
  have h4:∀{h':List Ob}{hs:List (List Ob)},(∀C∈Cs0,i+1<C.1->C.2 h')->(∀C∈Cs0,∀k g,hs[k]? =some g->i+1+1+k<C.1->C.2 g)->∀C∈Cs0,∀k g,(h'::hs)[k]? =some g->i+1+k<C.1->C.2 g:=by
   intro h' hs q1 q2 C hx k g hk hp
   cases k with
   |zero=>simp at hk;subst hk;exact q1 C hx (by omega)
   |succ k=>exact q2 C hx k g (by simpa using hk) (by omega)
  cases hw:dY t o.guard with
  |none=>rw[hw]at hD;exact hD.elim
  |some b=>
   rw[hw]at hD
   cases b with
   |false=>
    simp only at hD⊢;obtain⟨ih,t',hy,obls,hs,hv,e1,e2,e3,e4,e5,e6⟩:=nG hD hh hC;exact⟨ih,t',hy,obls,h::hs,hv,by rw[e1];rfl,e2,h4 (fun C hx _=>hC C hx h hh) e3,e4,e5,fun HS hc q1 q2=>e6 HS hc (q1.next (fun _ x=>x) hh) q2⟩
   |true=>
    simp only at hD⊢
    cases ha:aD P Γ t h o.op with
    |val v h'=>
     rw[ha]at hD;simp only at hD⊢
     by_cases h2:dK o.op=2
     ·rw[if_pos h2]at hD;obtain⟨hn,hD⟩:=hD
      have tj:∀C∈Cs0.filter (fun C=>decide (i+1<C.1)),∀g∈h'::hf,C.2 g:=by
       intro C hx g hg;simp only[dX,bj]at hx
       rcases bD.1 hg with rfl|hg
       ·exact hn C hx.1 hx.2
       ·exact hC C hx.1 g hg
      have h5:=Cj (i:=i+1) hD;obtain⟨ih,t',hy,obls,hs,hv,e1,e2,e3,e4,e5,e6⟩:=nG h5 (by simp) tj
      refine⟨ih,t',hy,obls,h'::hs,hv,by rw[e1];rfl,e2,h4 hn (fun C hx k g hk hp=>e3 C (by simp only[dX,bj];exact⟨hx,by omega⟩) k g hk hp),e4,e5,
       fun HS hc q1 q2=>⟨fun _ h1=>(by rw[h2]at h1;cases h1),e6 HS hc (q1.next (fun _ x=>dH _ x) (by simp)) q2⟩⟩
     ·rw[if_neg h2]at hD;have ps:=agw ha h2
      by_cases h1:l.headD true=true/\dK o.op=1
      ·rw[if_pos h1]at hD;obtain⟨hn,hD⟩:=hD;subst ps
       obtain⟨ih,t',hy,obls,hs,hv,e1,e2,e3,e4,e5,e6⟩:=nG hD hh (fun C hx g hg=>by
        rcases bD.1 hx with rfl|hx
        ·exact hn g hg
        ·exact hC C hx g hg)
       refine⟨ih,t',hy,obls,h'::hs,hv,by rw[e1];rfl,e2,h4 (fun C hx _=>hC C hx h' hh) (fun C hx=>e3 C (dH _ hx)),e4,e5,fun HS hc q1 q2=>⟨fun _ _ g hg=>?_,e6 HS hc (q1.next (fun _ x=>x) hh) q2⟩⟩;have ys:=q1.next (hs1:=hf) (fun _ x=>x) hh;exact ys.all (C:=fun g=>aD P Γ t g o.op=.val v g) hn (fun k g hk hp=>e3 _ pv k g hk hp) g hg
      ·rw[if_neg h1]at hD;subst ps;obtain⟨ih,t',hy,obls,hs,hv,e1,e2,e3,e4,e5,e6⟩:=nG hD hh hC;exact⟨ih,t',hy,obls,h'::hs,hv,by rw[e1];rfl,e2,h4 (fun C hx _=>hC C hx h' hh) e3,e4,e5,fun HS hc q1 q2=>⟨fun q3 q4=>absurd ⟨q3,q4⟩ h1,e6 HS hc (q1.next (fun _ x=>x) hh) q2⟩⟩
    |skip h'=>
     rw[ha]at hD;simp only at hD⊢;obtain⟨hn,hD⟩:=hD
     have tj:∀C∈Cs0.filter (fun C=>decide (i+1<C.1)),∀g∈h'::hf,C.2 g:=by
      intro C hx g hg;simp only[dX,bj]at hx
      rcases bD.1 hg with rfl|hg
      ·exact hn C hx.1 hx.2
      ·exact hC C hx.1 g hg
     have h5:=Cj (i:=i+1) hD;obtain⟨ih,t',hy,obls,hs,hv,e1,e2,e3,e4,e5,e6⟩:=nG h5 (by simp) tj
     exact⟨ih,t',hy,obls,h'::hs,hv,by rw[e1];rfl,e2,h4 hn (fun C hx k g hk hp=>e3 C (by simp only[dX,bj];exact⟨hx,by omega⟩) k g hk hp),e4,e5,
      fun HS hc q1 q2=>e6 HS hc (q1.next (fun _ x=>dH _ x) (by simp)) q2⟩
    |call f args=>
     rw[ha]at hD;simp only at hD⊢;obtain⟨hb,hD⟩:=hD
     have h6:¬dv P f=false:=by simp[hb]
     by_cases hl:l.headD true=true
     ·rw[if_pos hl]at hD;obtain⟨v,C,hz,hq,hD⟩:=hD
      obtain⟨ih,t',hy,obls,hs,hv,e1,e2,e3,e4,e5,e6⟩:=nG hD hh (fun C' hx g hg=>by
       rcases bD.1 hx with rfl|hx
       ·exact hq g hg
       ·exact hC C' hx g hg)
      have ht:∀{HS:List (List Ob)},sL i hf (h::hs) HS->∀g∈HS.take (ws.headD 0),C g:=fun q1=>(q1.next (hs1:=hf) (fun _ x=>x) hh).all hq (fun k g hk hp=>e3 _ pv k g hk hp)
      have fz:sL i hf (h::hs) (List.replicate (i+1) h++h::hs):=by
       intro k g hk;refine⟨fun hd=>?_,fun hd=>?_⟩
       ·rw[cF (by simp;omega),L5,if_pos (by omega)]at hk
        cases hk
        exact hh
       ·rw[dB (by simp;omega)]at hk;rw[qx]at hk;rw[show k-i-1=k-(i+1) by omega];exact hk
      have h7:∀g,g∈hf\/(∃k,hs[k]? =some g/\i+1+1+k<ws.headD 0)->C g:=by
       rintro g (hg|⟨k,hk,hp⟩)
       ·exact hq g hg
       ·exact e3 _ pv k g hk hp
      refine⟨(v,h)::ih,t',hy,⟨.fn f,args,h,v,h⟩::obls,h::hs,((hf++(hs.take (ws.headD 0-(i+2)))).map fun g=>⟨.fn f,args,g,v,g⟩)++hv,by rw[if_neg h6];simp only[e1,dC],e2,h4 (fun C' hx _=>hC C' hx h hh) (fun C' hx=>e3 C' (dH _ hx)),
       fun ob hj=>?_,fun ob hj=>?_,fun HS hc q1 q2=>⟨fun _=>⟨rfl,fun g hg=>?_⟩,e6 HS hc (q1.next (fun _ x=>x) hh) (fun ob hj=>q2 ob (xM _ hj))⟩⟩
      ·rcases bD.1 hj with rfl|hj
       ·exact nE _ (cd.2 ⟨h,nE _ hh,rfl⟩)
       ·exact xM _ (e4 ob hj)
      ·rcases a8.1 hj with hj|hj
       ·obtain⟨g,hg,rfl⟩:=cd.1 hj;refine .inl (hz g (h7 g ?_)).2
        rcases a8.1 hg with hg|hg
        ·exact Or.inl hg
        ·obtain⟨k,hk⟩:=xJ.1 hg;rw[rS]at hk
         split at hk
         ·exact Or.inr ⟨k,hk,by omega⟩
         ·cases hk
       ·exact e5 ob hj
      ·refine⟨(hz g (ht q1 g hg)).1,q2 _ (nE _ (cd.2 ⟨g,?_,rfl⟩))⟩;obtain⟨k,hk⟩:=xJ.1 hg;rw[rS]at hk
       split at hk
       ·rename_i ck;obtain⟨x1,x2⟩:=q1 k g hk
        by_cases hd:k<=i
        ·exact nE _ (x1 hd)
        ·have x3:=x2 (by omega)
         by_cases k2:k=i+1
         ·subst k2;simp at x3;subst x3;exact nE _ hh
         ·rw[show k-i-1=(k-(i+2))+1 by omega]at x3;simp only[oB]at x3;refine xM _ (jz (i:=k-(i+2)) ?_);rw[rS,if_pos (by omega)];exact x3
       ·cases hk
     ·rw[if_neg hl]at hD;obtain⟨v,h',hR,hn,hD⟩:=hD
      have tj:∀C∈Cs0.filter (fun C=>decide (i+1<C.1)),∀g∈h'::hf,C.2 g:=by
       intro C hx g hg;simp only[dX,bj]at hx
       rcases bD.1 hg with rfl|hg
       ·exact hn C hx.1 hx.2
       ·exact hC C hx.1 g hg
      have h5:=Cj (i:=i+1) hD;obtain⟨ih,t',hy,obls,hs,hv,e1,e2,e3,e4,e5,e6⟩:=nG h5 (by simp) tj
      refine⟨(v,h')::ih,t',hy,⟨.fn f,args,h,v,h'⟩::obls,h'::hs,⟨.fn f,args,h,v,h'⟩::hv,by rw[if_neg h6];simp only[e1,dC],e2,h4 hn (fun C hx k g hk hp=>e3 C (by simp only[dX,bj];exact⟨hx,by omega⟩) k g hk hp),
       fun ob hj=>?_,fun ob hj=>?_,fun HS hc q1 q2=>⟨fun q3=>absurd q3 hl,e6 HS hc (q1.next (fun _ x=>dH _ x) (by simp)) (fun ob hj=>q2 ob (dH _ hj))⟩⟩
      ·rcases bD.1 hj with rfl|hj
       ·simp
       ·exact dH _ (e4 ob hj)
      ·rcases bD.1 hj with rfl|hj
       ·exact hR
       ·exact e5 ob hj
    |yield y args=>
     rw[ha]at hD;simp only at hD⊢;obtain⟨hl,v,h',hR,hn,hD⟩:=hD
     have tj:∀C∈Cs0.filter (fun C=>decide (i+1<C.1)),∀g∈h'::hf,C.2 g:=by
      intro C hx g hg;simp only[dX,bj]at hx
      rcases bD.1 hg with rfl|hg
      ·exact hn C hx.1 hx.2
      ·exact hC C hx.1 g hg
     have h5:=Cj (i:=i+1) hD;obtain⟨ih,t',hy,obls,hs,hv,e1,e2,e3,e4,e5,e6⟩:=nG h5 (by simp) tj
     refine⟨(v,h')::ih,t',hy,⟨.yl y,args,h,v,h'⟩::obls,h'::hs,⟨.yl y,args,h,v,h'⟩::hv,by simp only[e1,dC],e2,h4 hn (fun C hx k g hk hp=>e3 C (by simp only[dX,bj];exact⟨hx,by omega⟩) k g hk hp),
      fun ob hj=>?_,fun ob hj=>?_,fun HS hc q1 q2=>⟨hl,e6 HS hc (q1.next (fun _ x=>dH _ x) (by simp)) (fun ob hj=>q2 ob (dH _ hj))⟩⟩
     ·rcases bD.1 hj with rfl|hj
      ·simp
      ·exact dH _ (e4 ob hj)
     ·rcases bD.1 hj with rfl|hj
      ·exact .inl hR
      ·exact e5 ob hj
    |_=>rw[ha]at hD;exact hD.elim
structure iV where
 fn:FuncId
 k:List It
 e:Cx
 n:Nat
 st:Nat
def iV.Tx(P:Program)(Γ:Nat->Option AV)(b:iV)(o:Out):np:=⟨fun t h=>aA P Γ (AM.go P Γ 0 b.n (.fr ⟨.run,b.fn,b.k,t,b.e.ds,b.e.kind,b.e.base⟩ b.e.up h)) o,fun _=>False⟩
def iV.reach(P:Program)(Γ:Nat->Option AV)(b:iV)(c:ar):np:=⟨fun t h=>Reach P Γ (AM.go P Γ b.st b.n (.fr ⟨.run,b.fn,b.k,t,b.e.ds,b.e.kind,b.e.base⟩ b.e.up h)) c,fun _=>False⟩
def DD(h:List Ob):Prop:=∃(i:Nat)(E:TypeId)(es:List AV)(gr:Option Nat)(fl sh:Bool),h[i]? =some (.row 0 E es gr fl sh)
abbrev D9:Ob:=.row 0 0 [] none false false
theorem DD.of{h:List Ob}(h1:D9∈h):DD h:=by
 obtain⟨i,hi⟩:=xJ.1 h1;exact⟨i,_,_,_,_,_,hi⟩
def iV.die(P:Program)(Γ:Nat->Option AV)(b:iV)(gs:List AG)(t0:List AV)(D:ar):np:=⟨fun _ h=>DD h,fun o=>∀its t,wQ gs t0 t->Reach P Γ (o.f.cfg o.args (⟨.run,b.fn,its,t,b.e.ds,b.e.kind,b.e.base⟩::b.e.up) o.h) D⟩
variable{fn:FuncId}{k:List It}{t:List AV}{ds:List dO}{kind:FK}{base:Nat}{up:List Fr}{h:List Ob}
theorem Reach.dr{l:List Bool}{ws:List Nat}{gs:List AG}{c:ar}(h1:cI P Γ ⟨fun t' h'=>Reach P Γ (.fr ⟨.run,fn,k,t',ds,kind,base⟩ up h') c,fun _=>False⟩ l ws 0 gs t h [h] []):
 Reach P Γ (.fr ⟨.run,fn,.code (.aR l ws gs)::k,t,ds,kind,base⟩ up h) c:=by
 obtain⟨hb,t',h',obls,hs,h2,e1,e2,_,e4,e5,e6⟩:=nG h1 (by simp) (by simp)
 exact .trans (.aR (f:=⟨.run,fn,.code (.aR l ws gs)::k,t,ds,kind,base⟩) rfl rfl e1 e4 (fun o ho up=>(e5 o ho).elim (fun h=>h up) False.elim) (e6 (h::hs) h2 (by
  intro k g hk;refine⟨fun hv=>?_,fun hv=>?_⟩
  ·have:k=0:=by omega
   subst this;simp at hk;simp[hk]
  ·cases k with
   |zero=>omega
   |succ k=>simpa using hk) (fun _ ho=>ho))) e2
theorem Reach.Td{l:List Bool}{ws:List Nat}{gs:List AG}{D:ar}(h1:cI P Γ (iV.die P Γ ⟨fn,k,⟨ds,kind,base,up⟩,0,0⟩ gs t D) l ws 0 gs t h [h] []):
 Reach P Γ (.fr ⟨.run,fn,.code (.aR l ws gs)::k,t,ds,kind,base⟩ up h) D:=by
 obtain⟨hb,t',h',obls,hs,h2,e1,e2,_,e4,e5,e6⟩:=nG h1 (by simp) (by simp);obtain⟨i,E,es,gr,fl,sh,hi⟩:=e2
 refine .Dm (f:=⟨.run,fn,.code (.aR l ws gs)::k,t,ds,kind,base⟩) (fun o=>¬∀up,Reach P Γ (o.f.cfg o.args up o.h) (.back up o.v o.h')) rfl rfl e1 e4 (fun o ho hd=>by simpa using hd) (fun o ho hd=>(e5 o ho).resolve_left hd) (e6 (h::hs) h2 (by
  intro k g hk;refine⟨fun hv=>?_,fun hv=>?_⟩
  ·have:k=0:=by omega
   subst this;simp at hk;simp[hk]
  ·cases k with
   |zero=>omega
   |succ k=>simpa using hk) (fun _ ho=>ho)) hi
theorem pG{K K':np}(hX:∀o,K.X o->K'.X o)(hK:∀t h,K.k t h->K'.k t h):∀{gs:List AG}{l:List Bool}{ws:List Nat}{i:Nat}{t:List AV}{h:List Ob}{hs:List (List Ob)}{Cs:List (Nat×(List Ob->Prop))},cI P Γ K l ws i gs t h hs Cs->cI P Γ K' l ws i gs t h hs Cs
 |[],_,_,_,_,_,_,_,h1=>hK _ _ h1
 |o::os,l,ws,i,t,h,hs,Cs,h1=>by
  unfold cI at h1⊢
  split at h1
  ·split at h1
   ·split
    ·rename_i h2;rw[if_pos h2]at h1;exact⟨h1.1,pG hX hK h1.2⟩
    ·rename_i h2;rw[if_neg h2]at h1
     split
     ·rename_i h3;rw[if_pos h3]at h1;exact⟨h1.1,pG hX hK h1.2⟩
     ·rename_i h3;rw[if_neg h3]at h1;exact pG hX hK h1
   ·exact⟨h1.1,pG hX hK h1.2⟩
   ·refine⟨h1.1,?_⟩;have h1:=h1.2
    split
    ·rename_i h2;rw[if_pos h2]at h1;obtain⟨v,C,a,b,c⟩:=h1;exact⟨v,C,a,b,pG hX hK c⟩
    ·rename_i h2;rw[if_neg h2]at h1;obtain⟨v,h',a,b,c⟩:=h1;exact⟨v,h',a.imp_right (hX _),b,pG hX hK c⟩
   ·obtain⟨h0,v,h',a,b,c⟩:=h1;exact⟨h0,v,h',a,b,pG hX hK c⟩
   ·exact h1
  ·exact pG hX hK h1
  ·exact h1
theorem aA.dr(n:Nat){l:List Bool}{ws:List Nat}{gs:List AG}{o:Out}(h1:cI P Γ (iV.Tx P Γ ⟨fn,k,⟨ds,kind,base,up⟩,n,0⟩ o) l ws 0 gs t h [h] []):
 aA P Γ (.fr ⟨.run,fn,.code (.aR l ws gs)::k,t,ds,kind,base⟩ up h) o:=by
 cases o with
 |ret r=>
  obtain⟨hb,t',h',obls,hs,h2,e1,e2,_,e4,e5,e6⟩:=nG h1 (by simp) (by simp)
  refine .reach (.aR (f:=⟨.run,fn,.code (.aR l ws gs)::k,t,ds,kind,base⟩) rfl rfl e1 e4 (fun o ho up=>(e5 o ho).elim (fun h=>h up) False.elim) (e6 (h::hs) h2 (by
  intro k g hk;refine⟨fun hv=>?_,fun hv=>?_⟩
  ·have:k=0:=by omega
   subst this;simp at hk;simp[hk]
  ·cases k with
   |zero=>omega
   |succ k=>simpa using hk) (fun _ ho=>ho))) (.go n e2)
 |die v=>
  obtain⟨hb,t',h',obls,hs,h2,e1,e2,_,e4,e5,e6⟩:=nG h1 (by simp) (by simp)
  refine .reach (.aR (f:=⟨.run,fn,.code (.aR l ws gs)::k,t,ds,kind,base⟩) rfl rfl e1 e4 (fun o ho up=>(e5 o ho).elim (fun h=>h up) False.elim) (e6 (h::hs) h2 (by
  intro k g hk;refine⟨fun hv=>?_,fun hv=>?_⟩
  ·have:k=0:=by omega
   subst this;simp at hk;simp[hk]
  ·cases k with
   |zero=>omega
   |succ k=>simpa using hk) (fun _ ho=>ho))) (.go n e2)
theorem Reach.LI(n:Nat){l:List Bool}{ws:List Nat}{gs:List AG}{c:ar}(h1:cI P Γ (iV.reach P Γ ⟨fn,k,⟨ds,kind,base,up⟩,n,1⟩ c) l ws 0 gs t h [h] []):
 Reach P Γ (.fr ⟨.run,fn,.code (.aR l ws gs)::k,t,ds,kind,base⟩ up h) c:=.dr (pG (K:=iV.reach P Γ ⟨fn,k,⟨ds,kind,base,up⟩,n,1⟩ c) (K':=⟨fun t' h'=>Reach P Γ (.fr ⟨.run,fn,k,t',ds,kind,base⟩ up h') c,fun _=>False⟩) (fun _ x=>x) (fun _ _ hr=>Reach.dh n hr) h1)
theorem Reach.ei(n:Nat){l:List Bool}{ws:List Nat}{gs:List AG}{c:ar}(h1:cI P Γ (iV.reach P Γ ⟨fn,k,⟨ds,kind,base,up⟩,n,2⟩ c) l ws 0 gs t h [h] []):
 Reach P Γ (.fr ⟨.run,fn,.code (.aR l ws gs)::k,t,ds,kind,base⟩ up h) c:=.dr (pG (K:=iV.reach P Γ ⟨fn,k,⟨ds,kind,base,up⟩,n,2⟩ c) (K':=⟨fun t' h'=>Reach P Γ (.fr ⟨.run,fn,k,t',ds,kind,base⟩ up h') c,fun _=>False⟩) (fun _ x=>x) (fun _ _ hr=>Reach.aY n hr) h1)
variable{K:np}{l:List Bool}{ws:List Nat}{i w:Nat}{b:Bool}{d:Option Nat}{a:AO}{os:List AG}{hs:List (List Ob)}{Cs:List (Nat×(List Ob->Prop))}{h':List Ob}{v:AV}{f:FuncId}{args:List AV}
def tg(P:Program)(Γ:Nat->Option AV)(K:np)(b:Bool)(l:List Bool)(w:Nat)(ws:List Nat)(i:Nat)(d:Option Nat)(a:AO)(os:List AG)(t:List AV)(h:List Ob)(hs:List (List Ob))(Cs:List (Nat×(List Ob->Prop))):R->Prop
 |.val v h'=>
  if dK a=2 then iP Cs (i+1) h'/\cI P Γ K l ws (i+1) os (bl t d v) h' (h'::hs) Cs
  else if b=true/\dK a=1 then(∀g∈hs,aD P Γ t g a=.val v g)/\cI P Γ K l ws (i+1) os (bl t d v) h' hs ((w,fun g=>aD P Γ t g a=.val v g)::Cs)
  else cI P Γ K l ws (i+1) os (bl t d v) h' hs Cs
 |.skip h'=>iP Cs (i+1) h'/\cI P Γ K l ws (i+1) os (bl t d (.aH [])) h' (h'::hs) Cs
 |.call f args=>dv P f=true/\
  if b=true then∃(v:AV)(C:List Ob->Prop),(∀g,C g->aD P Γ t g a=.call f args/\∀up,Reach P Γ (.cl f args up g) (.back up v g))/\(∀g∈hs,C g)/\cI P Γ K l ws (i+1) os (bl t d v) h hs ((w,C)::Cs)
  else∃(v:AV)(h':List Ob),((∀up,Reach P Γ (.cl f args up h) (.back up v h'))\/K.X ⟨.fn f,args,h,v,h'⟩)/\iP Cs (i+1) h'/\cI P Γ K l ws (i+1) os (bl t d v) h' (h'::hs) Cs
 |.yield y args=>b=false/\∃(v:AV)(h':List Ob),(∀up,Reach P Γ ((jM.yl y).cfg args up h) (.back up v h'))/\iP Cs (i+1) h'/\cI P Γ K l ws (i+1) os (bl t d v) h' (h'::hs) Cs
 |_=>False
structure LP(P:Program)(Γ:Nat->Option AV)(K:np)(b:Bool)(l:List Bool)(w:Nat)(ws:List Nat)(i:Nat)(d:Option Nat)(a:AO)(os:List AG)(t:List AV)(h:List Ob)(hs:List (List Ob))(Cs:List (Nat×(List Ob->Prop)))(y:Nat)(args:List AV):Prop where
 is:tg P Γ K b l w ws i d a os t h hs Cs (.yield y args)
structure fI(P:Program)(Γ:Nat->Option AV)(K:np)(b:Bool)(l:List Bool)(w:Nat)(ws:List Nat)(i:Nat)(d:Option Nat)(a:AO)(os:List AG)(t:List AV)(h:List Ob)(hs:List (List Ob))(Cs:List (Nat×(List Ob->Prop)))(f:FuncId)(args:List AV):Prop where
 is:tg P Γ K b l w ws i d a os t h hs Cs (.call f args)
@[simp] theorem aC5{bh:iV}{o:Out}:cI P Γ (iV.Tx P Γ bh o) l ws i [] t h hs Cs↔aA P Γ (AM.go P Γ 0 bh.n (.fr ⟨.run,bh.fn,bh.k,t,bh.e.ds,bh.e.kind,bh.e.base⟩ bh.e.up h)) o:=oE
@[simp] theorem aCR{bh:iV}{c:ar}:cI P Γ (iV.reach P Γ bh c) l ws i [] t h hs Cs↔Reach P Γ (AM.go P Γ bh.st bh.n (.fr ⟨.run,bh.fn,bh.k,t,bh.e.ds,bh.e.kind,bh.e.base⟩ bh.e.up h)) c:=oE
@[simp] theorem aDA{bh:iV}{h2:List AG}{t0:List AV}{D:ar}:cI P Γ (iV.die P Γ bh h2 t0 D) l ws i [] t h hs Cs↔DD h:=oE
@[simp] theorem aEk:cI P Γ K (b::l) (w::ws) i (⟨d,none,a⟩::os) t h hs Cs↔tg P Γ K b l w ws i d a os t h hs Cs (aD P Γ t h a):=by
 rw[cI];simp only[abZ]
 cases aD P Γ t h a<;>exact oE
@[simp] theorem aDB{j:Nat}{u:Bool}:cI P Γ K (b::l) (w::ws) i (⟨d,some (j,u),a⟩::os) t h hs Cs↔(match dY t (some (j,u))with
  |some true=>tg P Γ K b l w ws i d a os t h hs Cs (aD P Γ t h a)
  |some false=>cI P Γ K l ws (i+1) os (bl t d (.aH [])) h hs Cs
  |none=>False):=by
 rw[cI]
 cases dY t (some (j,u))with
 |none=>exact oE
 |some x=>
  cases x with
  |false=>exact oE
  |true=>cases aD P Γ t h a<;>exact oE
@[simp] theorem aEe:tg P Γ K b l w ws i d a os t h hs Cs (.val v h')↔if dK a=2 then iP Cs (i+1) h'/\cI P Γ K l ws (i+1) os (bl t d v) h' (h'::hs) Cs
  else if b=true/\dK a=1 then(∀g∈hs,aD P Γ t g a=.val v g)/\cI P Γ K l ws (i+1) os (bl t d v) h' hs ((w,fun g=>aD P Γ t g a=.val v g)::Cs)
  else cI P Γ K l ws (i+1) os (bl t d v) h' hs Cs:=oE
@[simp] theorem aDV:tg P Γ K b l w ws i d a os t h hs Cs (.skip h')↔iP Cs (i+1) h'/\cI P Γ K l ws (i+1) os (bl t d (.aH [])) h' (h'::hs) Cs:=oE
@[simp] theorem aDq:tg P Γ K b l w ws i d a os t h hs Cs (.call f args)↔fI P Γ K b l w ws i d a os t h hs Cs f args:=⟨fun h1=>⟨h1⟩,fun h1=>h1.is⟩
@[simp] theorem aC2{y:Nat}:tg P Γ K b l w ws i d a os t h hs Cs (.yield y args)↔LP P Γ K b l w ws i d a os t h hs Cs y args:=⟨fun h1=>⟨h1⟩,fun h1=>h1.is⟩
theorem LP.go{y:Nat}(v:AV)(h':List Ob)(h1:∀up,Reach P Γ ((jM.yl y).cfg args up h) (.back up v h'))
 (h3:iP Cs (i+1) h'/\cI P Γ K l ws (i+1) os (bl t d v) h' (h'::hs) Cs):LP P Γ K false l w ws i d a os t h hs Cs y args:=⟨⟨rfl,v,h',h1,h3.1,h3.2⟩⟩
theorem back_eq{f:FuncId}{args as:List AV}{r:AV}{h:List Ob}(h1:cy h args=some as)(h2:aQ P Γ f as r):∀up,Reach P Γ (.cl f args up h) (.back up (er h.length r).1 (eV h args r)):=fun _=>.pure h1 h2
theorem fI.call{as:List AV}{r:AV}(h1:cy h args=some as)(h2:aQ P Γ f as r)
 (h3:iP Cs (i+1) (eV h args r)/\cI P Γ K l ws (i+1) os (bl t d (er h.length r).1) (eV h args r) (eV h args r::hs) Cs):fI P Γ K false l w ws i d a os t h hs Cs f args:=
 ⟨h2.1,by rw[if_neg (by simp)];exact⟨_,_,.inl (back_eq h1 h2),h3.1,h3.2⟩⟩
theorem fI.quiet{as:List AV}{r:AV}(h2:aQ P Γ f as r)(hr:∀n,er n r=(r,[]))
 (h1:∀g∈hs,aD P Γ t g a=.call f args/\cy g args=some as/\eV g args r=g)
 (h3:cI P Γ K l ws (i+1) os (bl t d r) h hs ((w,fun g=>aD P Γ t g a=.call f args/\cy g args=some as/\eV g args r=g)::Cs)):fI P Γ K true l w ws i d a os t h hs Cs f args:=
 ⟨h2.1,by
  rw[if_pos rfl];refine⟨r,_,fun g hg=>⟨hg.1,fun up=>?_⟩,h1,h3⟩;have h4:=back_eq hg.2.1 h2 up;rw[hr,hg.2.2]at h4
  exact h4⟩
theorem fI.reach{v:AV}{h':List Ob}(hb:dv P f=true)(h1:∀up,Reach P Γ (.cl f args up h) (.back up v h'))
 (h3:iP Cs (i+1) h'/\cI P Γ K l ws (i+1) os (bl t d v) h' (h'::hs) Cs):fI P Γ K false l w ws i d a os t h hs Cs f args:=
 ⟨hb,by rw[if_neg (by simp)];exact⟨_,_,.inl h1,h3.1,h3.2⟩⟩
theorem fI.die(v:AV){bh:iV}{h2:List AG}{t0:List AV}{D:ar}(hb:dv P f=true)(h1:∀its t',wQ h2 t0 t'->Reach P Γ (.cl f args (⟨.run,bh.fn,its,t',bh.e.ds,bh.e.kind,bh.e.base⟩::bh.e.up) h) D)
 (h3:iP Cs (i+1) (h++[D9])/\cI P Γ (iV.die P Γ bh h2 t0 D) l ws (i+1) os (bl t d v) (h++[D9]) ((h++[D9])::hs) Cs):fI P Γ (iV.die P Γ bh h2 t0 D) false l w ws i d a os t h hs Cs f args:=
 ⟨hb,by rw[if_neg (by simp)];exact⟨v,_,.inr h1,h3.1,h3.2⟩⟩
theorem aA.aX(n:Nat){v:AV}{h':List Ob}{o:Out}(h1:∀up,Reach P Γ (.cl f args up h) (.back up v h'))(h2:aA P Γ (AM.go P Γ 0 n (.back up v h')) o):aA P Γ (.cl f args up h) o:=.reach (h1 up) (.go n h2)
theorem Reach.aX(n:Nat){v:AV}{h':List Ob}{c:ar}(h1:∀up,Reach P Γ (.cl f args up h) (.back up v h'))(h2:Reach P Γ (AM.go P Γ 2 n (AM.pop (.back up v h'))) c):Reach P Γ (.cl f args up h) c:=.trans (h1 up) (.trans (.pop _) (.aY n h2))
theorem Reach.ji(n:Nat){as:List AV}{r:AV}{c:ar}(h1:cy h args=some as)(h2:aQ P Γ f as r)(h3:Reach P Γ (AM.go P Γ 2 n (AM.pop (.back up (er h.length r).1 (eV h args r)))) c):Reach P Γ (.cl f args up h) c:=.aX n (back_eq h1 h2) h3
theorem Reach.bp(n:Nat){F:aF}{c:ar}(hF:nb P f=some F)(h1:Reach P Γ (AM.go P Γ 2 n (.fr ⟨.run,f,[.code F.body],args++List.replicate (F.nt-args.length) .undef,[],.norm,h.length⟩ up h)) c):Reach P Γ (.cl f args up h) c:=zV hF args (.aY n h1)
theorem Reach.inLoop{m:List Bool}{bc:aj}{c:ar}(h1:Reach P Γ (.fr ⟨.run,fn,.code bc::.inLoop m bc::k,dJ m t,ds,kind,base⟩ up h) c):Reach P Γ (.fr ⟨.run,fn,.code (.loop m bc)::k,t,ds,kind,base⟩ up h) c:=.trans (Q_ (.refl _)) h1
theorem Reach.aI{m:List Bool}{bc:aj}{c:ar}(h1:Reach P Γ (.fr ⟨.run,fn,.code bc::.inLoop m bc::k,dJ m t,ds,kind,base⟩ up h) c):Reach P Γ (.fr ⟨.run,fn,.inLoop m bc::k,t,ds,kind,base⟩ up h) c:=.trans (R2 (.refl _)) h1
theorem Reach.lF{f:Fr}{h':List Ob}{c:ar}(n:Nat)(hh:h.take n=h')(h1:f.base<=n)(h2:lP n f=true)(h3:cz n h'=true)(h4:Reach P Γ (.fr f up h') c):Reach P Γ (.fr f up h) c:=by
 subst hh;exact .trans (.drop n h1 h2 h3) h4
theorem Reach.nN{f:Fr}{i k:Nat}{E:TypeId}{es:List AV}{fl sh:Bool}{c:ar}(hi:h[i]? =some (.row k E es (some 0) fl sh))(h1:f.base<=i)(h2:iQ i es.length f=true)(h3:c8 i es.length h=true)
 (h4:Reach P Γ (.fr f up (h.set i (.row k E es none fl sh))) c):Reach P Γ (.fr f up h) c:=.trans (.reset h1 hi h2 h3) h4
def xh:List Nat->List AV->List Ob->List AV×List Ob
 |[],t,h=>(t,h)
 |i::is,t,h=>xh is (t.set i (my h (t.getD i .undef))) (share (rowsOf (t.getD i .undef)) h)
theorem Reach.trees:∀(is:List Nat){f:Fr}{up:List Fr}{h:List Ob}{c:ar},Reach P Γ (.fr {f with t:=(xh is f.t h).1} up (xh is f.t h).2) c->Reach P Γ (.fr f up h) c
 |[],_,_,_,_,h1=>h1
 |i::is,f,up,h,c,h1=>.trans (.tree i) (Reach.trees is (f:={f with t:=f.t.set i (my h (f.t.getD i .undef))}) h1)
theorem aA.trees(is:List Nat){f:Fr}{o:Out}(h1:aA P Γ (.fr {f with t:=(xh is f.t h).1} up (xh is f.t h).2) o):aA P Γ (.fr f up h) o:=.reach (Reach.trees is (.refl _)) h1
theorem aA.iE(j:Nat){f:Fr}{i:Nat}{cs:List AV}{o:Out}(hi:h[i]? =some (.cells cs))(h1:aA P Γ (.fr f up ((share (rowsOf (cs.getD j .undef)) h).set i (.cells (cs.set j (my h (cs.getD j .undef)))))) o):aA P Γ (.fr f up h) o:=.reach (.iE j hi) h1
attribute [simp] xh my rowsOf
end
@[simp] theorem aCD(h:List Ob)(a b:List AV):cy h (a++b)=(match cy h a,cy h b with
  |some a',some b'=>some (a'++b')
  |_,_=>none):=by
 induction a with
 |nil=>simp only[kF,cy];cases cy h b<;>rfl
 |cons x a ih=>
  simp only[eH,cy,ih]
  cases view h x<;>cases cy h a<;>cases cy h b<;>rfl
@[simp] theorem aDi{α:Type}(h:List Ob)(f:α->AV)(l:List α)(hf:∀x,view h (f x)=some (f x)):cy h (l.map f)=some (l.map f):=by
 induction l with
 |nil=>rfl
 |cons x l ih=>simp only[bX,cy,hf,ih]
@[simp] theorem aCu(a b:List AV):b_ (a++b)=b_ a++b_ b:=by
 induction a with
 |nil=>rfl
 |cons x a ih=>simp only[eH,b_,ih,cR]
@[simp] theorem aCN{α:Type}(f:α->AV)(l:List α)(hf:∀x,rowsOf (f x)=[]):b_ (l.map f)=[]:=by
 induction l with
 |nil=>rfl
 |cons x l ih=>simp only[bX,b_,hf,ih,ey]
def jJ(P:Program)(Γ:Nat->Option AV)(φ:List Ob->Prop)(f:FuncId)(caps:List AV){α:Type}(e:α->AV)(p:α->Bool)(l:List α):Prop:=
 dv P f=true/\∀x∈l,∀up h,φ h->Reach P Γ (.cl f (e x::caps) up h) (.back up (.bool (p x)) h)
def bE{α:Type}(p:α->Bool)(l:List α):Bool:=l.any p
@[simp] theorem ug{α:Type}(p:α->Bool):bE p []=false:=rfl
theorem lB{α:Type}(p:α->Bool)(x:α)(l:List α):bE p (x::l)=(p x||bE p l):=rfl
theorem kK{α:Type}{p:α->Bool}{l:List α}:bE p l=false↔∀x∈l,p x=false:=by simp[bE]
theorem CX{α:Type}{p:α->Bool}{l:List α}:bE p l=true↔∃x∈l,p x=true:=by simp[bE]
def fG{α:Type}(p:α->Bool):List α->Nat->Int
 |[],_=>-1
 |x::xs,i=>if p x=true then i else fG p xs (i+1)
theorem Dh{α:Type}(p:α->Bool):∀(l:List α)(i:Nat),(0<=fG p l i)↔bE p l=true
 |[],i=>by simp[fG]
 |x::xs,i=>by
  rw[fG]
  by_cases h:p x=true
  ·simp[h,lB]
  ·simp[h,lB,Dh p xs (i+1)]
@[simp] theorem aD4(n:Nat):((n:Int)<0)=False:=jC (by omega)
@[simp] theorem aD7(n:Nat):(0<=(n:Int))=True:=bG (by omega)
@[simp] theorem aCK(c:AV)(k:IntKind)(n:Int):fN [c] (.int k n)=c:=rfl
@[simp] theorem aCE(c:AV)(b:Bool):fN [c] (.bool b)=c:=rfl
@[simp] theorem aCH(c:AV)(s:List UInt8):fN [c] (.str s)=c:=rfl
@[simp] theorem aCC(c:AV)(f:Bool)(k:Nat)(es:List AV):fN [c] (.list f k es)=c:=rfl
@[simp] theorem aCU(c:AV)(i o n:Nat):fN [c] (.sl i o n)=c:=rfl
@[simp] theorem aCP(cs ds:List AV):fN cs (.agg ds)=.agg cs:=by cases cs<;>rfl
theorem AI{a:Nat}(h:(a:Int)<2^62):IntKind.i64.wrap (a:Int)=a:=wrap64 (by omega) (by omega)
@[simp high] theorem aEF(a:Nat):iv .shr .i64 (a:Int) 1=some ((a/2:Nat):Int):=by
 simp[iv,IntKind.bits];rw[Int.fdiv_eq_ediv_of_nonneg _ (by omega)]
@[simp high] theorem aEK(a:Nat):iv .and .i64 (a:Int) 1=some ((a%2:Nat):Int):=by
 have h1:(BitVec.ofInt 64 (a:Int)&&&BitVec.ofInt 64 1).toNat=a%2:=by
  have e1:BitVec.ofInt 64 (1:Int)=1#64:=by decide
  rw[e1,BitVec.toNat_and,L7]
  have e2:(1#64:BitVec 64).toNat=1:=by decide
  rw[e2,Nat.and_one_is_mod];omega
 show some (IntKind.i64.wrap ((BitVec.ofInt 64 (a:Int)&&&BitVec.ofInt 64 1).toNat:Int))=_
 rw[h1,AI (by omega)]
theorem ahp(a:Nat):(a^^^1)%2=1-a%2:=by
 have h1:=@Nat.xor_mod_two_eq_one a 1;have h2:(a^^^1)%2<2:=Nat.mod_lt _ (by omega);have h3:a%2<2:=Nat.mod_lt _ (by omega);have h4:(1%2=1):=rfl;simp only[h4,iff_true]at h1;omega
theorem af4(a:Nat):(a^^^1)/2=a/2:=by rw[Nat.xor_div_two];simp
theorem nJ(a:Nat):a^^^1=if a%2=0 then a+1 else a-1:=by
 have h1:=ahp a;have h2:=af4 a
 split<;>omega
@[simp high] theorem alT(a:Nat)(h:(a:Int)<2^60):iv .xor .i64 (a:Int) 1=some ((a^^^1:Nat):Int):=by
 have h1:(BitVec.ofInt 64 (a:Int)^^^BitVec.ofInt 64 1).toNat=a^^^1:=by
  have e1:BitVec.ofInt 64 (1:Int)=1#64:=by decide
  rw[e1,BitVec.toNat_xor,L7]
  have e2:(1#64:BitVec 64).toNat=1:=by decide
  rw[e2];congr 1;omega
 show some (IntKind.i64.wrap ((BitVec.ofInt 64 (a:Int)^^^BitVec.ofInt 64 1).toNat:Int))=_
 rw[h1,AI (by rw[nJ];split<;>omega)]
@[simp high] theorem TN(a:Nat)(h:(a:Int)<2^62):iv .quo .i64 (a:Int) 2=some ((a/2:Nat):Int):=by
 simp only[iv];rw[if_neg (by omega),show((a:Int)).tdiv 2=((a/2:Nat):Int)from rfl,AI (by omega)]
@[simp high] theorem aEI(a:Nat):iv .rem .i64 (a:Int) 2=some ((a%2:Nat):Int):=by
 simp only[iv];rw[if_neg (by omega)];rfl
theorem ez{h:List Ob}{i:Nat}{o:Ob}(hi:h[i]? =some o)(os:List Ob):(h++os)[i]? =some o:=by
 rw[cF (bd hi)];exact hi
@[simp] theorem ah9(h l:List Ob)(k:Nat):(h++l)[h.length+k]? =l[k]? :=by
 rw[dB (by omega)];congr 1;omega
@[simp] theorem af2(h l:List Ob):(h++l)[h.length]? =l[0]? :=by
 rw[dB (by omega)];congr 1;omega
@[simp] theorem aEm(h l:List Ob)(k:Nat)(x:Ob):(h++l).set (h.length+k) x=h++l.set k x:=by
 rw[List.set_append,if_neg (by omega)];congr 2;omega
@[simp] theorem agI(h l:List Ob)(x:Ob):(h++l).set h.length x=h++l.set 0 x:=by
 rw[List.set_append,if_neg (by omega)];congr 2;omega
@[simp] theorem aDZ(h l:List Ob)(k:Nat):(h++l).take (h.length+k)=h++l.take k:=by
 rw[List.take_append,cj (by omega)];simp
@[simp] theorem j6(i m:Nat)(a b:List Ob):c8 i m (a++b)=(c8 i m a&&c8 i m b):=by
 induction a with
 |nil=>simp[c8]
 |cons x a ih=>simp[c8,ih,pw]
@[simp] theorem qE(n:Nat)(a b:List Ob):cz n (a++b)=(cz n a&&cz n b):=by
 induction a with
 |nil=>simp[cz]
 |cons x a ih=>simp[cz,ih,pw]
section
variable{P:Program}{Γ:Nat->Option AV}
theorem aA.cN(n:Nat)(E:TypeId){fn:FuncId}{d:Option Nat}{gd:Option (Nat×Bool)}{k:Nat}{zs:List AV}{ps:List (Nat×AX)}{os:List AG}{k':List It}{t:List AV}{ds:List dO}{kind:FK}{base:Nat}{up:List Fr}{h:List Ob}{o:Out}{es:List AV}
 (hw:dY t gd=some true)(hf:oZ k zs (ps.map fun p=>(p.1,ax t p.2))=some es)
 (h1:aA P Γ (AM.go P Γ 0 n (.fr ⟨.run,fn,.ops os::k',bl t d (.sl h.length 0 es.length),ds,kind,base⟩ up (h++[.row k E es none (cG es k) false]))) o):
 aA P Γ (.fr ⟨.run,fn,.ops (⟨d,gd,.lit k zs ps⟩::os)::k',t,ds,kind,base⟩ up h) o:=
 .reach (.cN (f:=⟨.run,fn,.ops (⟨d,gd,.lit k zs ps⟩::os)::k',t,ds,kind,base⟩) E rfl rfl hw hf) (.go n h1)
theorem QG:∀(i:Nat)(t:List AV),i<t.length->dJ (List.replicate i true++[false]) t=t.set i .undef
 |_,[],h=>by simp at h
 |0,a::t,_=>by cases t<;>rfl
 |i+1,a::t,h=>by
  simp only[mE,eH,dJ,rQ];rw[QG i t (by simpa using h)]
def nn(is:List Nat)(t:List AV):List AV:=is.foldl (fun t i=>t.set i .undef) t
theorem aiK(t:List AV)(i:Nat):t.set i .undef=t\/i<t.length:=by
 by_cases h:i<t.length
 ·exact .inr h
 ·exact .inl (List.set_eq_of_length_le (by omega))
theorem Reach.na{fn:FuncId}{k:List It}{ds:List dO}{kind:FK}{base:Nat}{up:List Fr}{h:List Ob}:∀(is:List Nat)(t:List AV),Reach P Γ (.fr ⟨.run,fn,k,t,ds,kind,base⟩ up h) (.fr ⟨.run,fn,k,nn is t,ds,kind,base⟩ up h)
 |[],t=>.refl _
 |i::is,t=>by
  refine .trans ?_ (Reach.na is (t.set i .undef))
  rcases aiK t i with h1|h1
  ·rw[h1];exact .refl _
  ·have:=Reach.mask (P:=P) (Γ:=Γ) (f:=⟨.run,fn,k,t,ds,kind,base⟩) (up:=up) (h:=h) (List.replicate i true++[false]);simp only[QG i t h1]at this;exact this
@[simp] theorem aDW(t:List AV):nn [] t=t:=rfl
@[simp] theorem aDe(i:Nat)(is:List Nat)(t:List AV):nn (i::is) t=nn is (t.set i .undef):=rfl
theorem aA.na(is:List Nat){fn:FuncId}{k:List It}{t:List AV}{ds:List dO}{kind:FK}{base:Nat}{up:List Fr}{h:List Ob}{o:Out}(h1:aA P Γ (.fr ⟨.run,fn,k,nn is t,ds,kind,base⟩ up h) o):aA P Γ (.fr ⟨.run,fn,k,t,ds,kind,base⟩ up h) o:=.reach (.na is t) h1
theorem aA.mN(i j k:Nat)(E:TypeId){f:Fr}{up:List Fr}{h:List Ob}{o:Out}{k0:Nat}{cs:List AV}(hi:h[i]? =some (.cells cs))(hj:cs[j]? =some (.list true k0 []))(hk:0<k)
 (h4:aA P Γ (.fr f up ((h++[Ob.row k E [] none true false]).set i (.cells (cs.set j (.sl h.length 0 0))))) o):aA P Γ (.fr f up h) o:=.reach (.mN E hi hj hk) h4
theorem Reach.agO(n:Nat)(E:TypeId){fn:FuncId}{d:Option Nat}{gd:Option (Nat×Bool)}{k:Nat}{zs:List AV}{ps:List (Nat×AX)}{os:List AG}{k':List It}{t:List AV}{ds:List dO}{kind:FK}{base:Nat}{up:List Fr}{h:List Ob}{c:ar}{es:List AV}
 (hw:dY t gd=some true)(hf:oZ k zs (ps.map fun p=>(p.1,ax t p.2))=some es)
 (h1:Reach P Γ (AM.go P Γ 2 n (.fr ⟨.run,fn,.ops os::k',bl t d (.sl h.length 0 es.length),ds,kind,base⟩ up (h++[.row k E es none (cG es k) false]))) c):
 Reach P Γ (.fr ⟨.run,fn,.ops (⟨d,gd,.lit k zs ps⟩::os)::k',t,ds,kind,base⟩ up h) c:=
 .trans (.cN (f:=⟨.run,fn,.ops (⟨d,gd,.lit k zs ps⟩::os)::k',t,ds,kind,base⟩) E rfl rfl hw hf) (.aY n h1)
theorem Reach.SD(st n:Nat){f:FuncId}{args:List AV}{up:List Fr}{h:List Ob}{v:AV}{h':List Ob}{c:ar}(h1:∀up,Reach P Γ (.cl f args up h) (.back up v h'))(h2:Reach P Γ (AM.go P Γ st n (AM.pop (.back up v h'))) c):Reach P Γ (.cl f args up h) c:=.trans (h1 up) (.trans (.pop _) (.trans (.goes n _) h2))
theorem Reach.IH{f:Fr}{up:List Fr}{h:List Ob}{c:ar}{i k:Nat}{E:TypeId}{es:List AV}{fl sh:Bool}(hi:h[i]? =some (.row k E es (some 0) fl sh))(h1:iQ i es.length f=true)(h2:up.all (iQ i es.length)=true)(h3:c8 i es.length h=true)
 (h4:Reach P Γ (.fr f up (h.set i (.row k E es none fl sh))) c):Reach P Γ (.fr f up h) c:=.trans (.Sf hi (by simp only[tw,h1,h2,oC]) h3) h4
theorem aA.nR{f:Fr}{up:List Fr}{h:List Ob}{o:Out}{i k:Nat}{E:TypeId}{es:List AV}{gr:Option Nat}{fl sh:Bool}(hi:h[i]? =some (.row k E es gr fl sh))(hg:gr=none\/gr=some 0)(h1:f.base<=i)(h2:iQ i es.length f=true)(h3:c8 i es.length h=true)
 (h4:aA P Γ (.fr f up (h.set i (.row k E es none fl sh))) o):aA P Γ (.fr f up h) o:=by
 rcases hg with rfl|rfl
 ·have:h.set i (.row k E es none fl sh)=h:=by
   apply iX;intro j
   by_cases hj:i=j
   ·subst hj;rw[ff (bd hi),hi]
   ·rw[dW hj]
  rw[this]at h4;exact h4
 ·exact .reset hi h1 h2 h3 h4
end
theorem aA.either(n:Nat){P:Program}{Γ:Nat->Option AV}{fn:FuncId}{d:Option Nat}{x:AX}{neg:Bool}{os:List AG}{k:List It}{t:List AV}{ds:List dO}{kind:FK}{base:Nat}{up:List Fr}{h:List Ob}{o:Out}(h0:pY (ax t x)=some 0)
 (h1:∀b,aA P Γ (AM.go P Γ 0 n (.fr ⟨.run,fn,.ops os::k,bl t d (.bool b),ds,kind,base⟩ up h)) o):aA P Γ (.fr ⟨.run,fn,.ops (⟨d,none,.kT neg x⟩::os)::k,t,ds,kind,base⟩ up h) o:=
 .kT (f:=⟨.run,fn,.ops (⟨d,none,.kT neg x⟩::os)::k,t,ds,kind,base⟩) rfl rfl rfl (by simp only[aD,h0]) fun b=>.go n (h1 b)
theorem Reach.afq(i k:Nat)(E:TypeId){P:Program}{Γ:Nat->Option AV}{fn:FuncId}{its:List It}{t:List AV}{ds:List dO}{kind:FK}{base:Nat}{up:List Fr}{h:List Ob}{c:ar}{k0:Nat}(hi:t[i]? =some (.list true k0 []))(hk:0<k)
 (h4:Reach P Γ (.fr ⟨.run,fn,its,t.set i (.sl h.length 0 0),ds,kind,base⟩ up (h++[Ob.row k E [] none true false])) c):Reach P Γ (.fr ⟨.run,fn,its,t,ds,kind,base⟩ up h) c:=
 .trans (.qS (f:=⟨.run,fn,its,t,ds,kind,base⟩) E rfl hi hk) h4
theorem aA.qS(i k:Nat)(E:TypeId){P:Program}{Γ:Nat->Option AV}{fn:FuncId}{its:List It}{t:List AV}{ds:List dO}{kind:FK}{base:Nat}{up:List Fr}{h:List Ob}{o:Out}{k0:Nat}(hi:t[i]? =some (.list true k0 []))(hk:0<k)
 (h4:aA P Γ (.fr ⟨.run,fn,its,t.set i (.sl h.length 0 0),ds,kind,base⟩ up (h++[Ob.row k E [] none true false])) o):aA P Γ (.fr ⟨.run,fn,its,t,ds,kind,base⟩ up h) o:=
 .reach (.afq i k E hi hk (.refl _)) h4
def dI(P:Program)(Γ:Nat->Option AV):ar->ar
 |.fr f up h=>match f.md with
  |.run=>match f.its with
   |.ops (o::os)::k=>jE P Γ f up h (.ops (o::os)::k)
   |_=>.fr f up h
  |_=>.fr f up h
 |.back (c::up) v h=>match c.finish v with
  |some c'=>.fr c' up h
  |none=>.bad
 |c=>c
def mC(P:Program)(Γ:Nat->Option AV):Nat->ar->ar
 |0,c=>c
 |n+1,c=>mC P Γ n (dI P Γ c)
section
variable{P:Program}{Γ:Nat->Option AV}{n:Nat}{fn:FuncId}{k:List It}{t:List AV}{ds:List dO}{kind:FK}{base:Nat}{up:List Fr}{h h':List Ob}
theorem Reach.dI(c:ar):Reach P Γ c (AM.dI P Γ c):=by
 cases c with
 |fr f up h=>
  obtain⟨md,fn,its,t,ds,kind,base⟩:=f
  cases md with
  |run=>
   simp only[AM.dI]
   split
   ·exact .step _
   ·exact .refl _
  |_=>exact .refl _
 |back up v h=>cases up<;>first|exact .refl _|exact .step _
 |_=>exact .refl _
theorem Reach.wK:∀(n:Nat)(c:ar),Reach P Γ c (AM.mC P Γ n c)
 |0,c=>.refl c
 |n+1,c=>.trans (.dI c) (Reach.wK n _)
theorem Ia{c:ar}(hc:dI P Γ c=c):∀n,mC P Γ n c=c
 |0=>rfl
 |n+1=>by rw[mC,hc];exact Ia hc n
@[simp] theorem So{d:Option Nat}{o:AO}{os:List AG}:mC P Γ (n+1) (.fr ⟨.run,fn,.ops (⟨d,none,o⟩::os)::k,t,ds,kind,base⟩ up h)=
  mC P Γ n (gS P ⟨.run,fn,.ops (⟨d,none,o⟩::os)::k,t,ds,kind,base⟩ up h ⟨d,none,o⟩ os k (aD P Γ t h o)):=(rfl)
@[simp] theorem aEl:mC P Γ n (.fr ⟨.run,fn,.ops []::k,t,ds,kind,base⟩ up h)=.fr ⟨.run,fn,.ops []::k,t,ds,kind,base⟩ up h:=Ia rfl n
@[simp] theorem aEp{f:FuncId}{args:List AV}:mC P Γ n (.cl f args up h)=.cl f args up h:=Ia rfl n
@[simp] theorem aDY{c:Fr}{v:AV}:mC P Γ (n+1) (.back (c::up) v h)=mC P Γ n (match c.finish v with
  |some c'=>.fr c' up h
  |none=>.bad):=(rfl)
theorem aA.ogO(n:Nat){as:List (List Nat)}{gs:List AG}{r:AV}
 (h1:∀l∈gA as as.length [],aA P Γ (AM.mC P Γ n (.fr ⟨.run,fn,.ops (l.map fun i=>gs.getD i default)::k,t,ds,kind,base⟩ up h)) (.ret r)):
 aA P Γ (.fr ⟨.run,fn,.code (.gM as gs)::k,t,ds,kind,base⟩ up h) (.ret r):=
 .DK (f:=⟨.run,fn,.code (.gM as gs)::k,t,ds,kind,base⟩) rfl rfl (fun v hv=>by cases hv) fun l hl=>.reach (.wK n _) (h1 l hl)
theorem aA.Vo(n:Nat){l:List Bool}{ws:List Nat}{gs:List AG}{r:AV}
 (h1:∀l∈gA (o9 gs) gs.length [],aA P Γ (AM.mC P Γ n (.fr ⟨.run,fn,.ops (l.map fun i=>gs.getD i default)::k,t,ds,kind,base⟩ up h)) (.ret r)):
 aA P Γ (.fr ⟨.run,fn,.code (.aR l ws gs)::k,t,ds,kind,base⟩ up h) (.ret r):=
 .Df (f:=⟨.run,fn,.code (.aR l ws gs)::k,t,ds,kind,base⟩) rfl rfl (fun v hv=>by cases hv) fun l hl=>.reach (.wK n _) (h1 l hl)
theorem aA.AN(n:Nat){f:FuncId}{args as:List AV}{r:AV}{o:Out}(h1:cy h args=some as)(h2:aQ P Γ f as r)(h3:aA P Γ (AM.mC P Γ n (.back up (er h.length r).1 (eV h args r))) o):aA P Γ (.cl f args up h) o:=
 .reach (.pure h1 h2) (.reach (.wK n _) h3)
end
def J4(n:Nat)(τ:List Nat)(its:List It)(t:List AV)(ds:List dO)(kind:FK)(base:Nat)(h:List Ob):Prop:=
 base<=n/\n<=h.length/\(∀j∈τ,n+j<h.length)/\eG n τ t=true/\lQ n ds=true/\ir n its=true/\qa n kind=true/\gO n τ (h.take n)=true/\tc n τ (n7 h n τ)=true
theorem Reach.nq(n:Nat)(τ:List Nat){P:Program}{Γ:Nat->Option AV}{fn:FuncId}{its:List It}{t:List AV}{ds:List dO}{kind:FK}{base:Nat}{up:List Fr}{h:List Ob}{c:ar}(hc:J4 n τ its t ds kind base h)(h2:τ.Nodup)
 (h4:Reach P Γ (.fr ⟨.run,fn,its,cJ n τ t,ds,kind,base⟩ up (jX n τ h)) c):Reach P Γ (.fr ⟨.run,fn,its,t,ds,kind,base⟩ up h) c:=
 .trans (.gc (f:=⟨.run,fn,its,t,ds,kind,base⟩) n τ rfl hc.1 hc.2.1 hc.2.2.1 h2 hc.2.2.2.1 hc.2.2.2.2.1 hc.2.2.2.2.2.1 hc.2.2.2.2.2.2.1 hc.2.2.2.2.2.2.2.1 hc.2.2.2.2.2.2.2.2) h4
theorem aA.gc(n:Nat)(τ:List Nat){P:Program}{Γ:Nat->Option AV}{fn:FuncId}{its:List It}{t:List AV}{ds:List dO}{kind:FK}{base:Nat}{up:List Fr}{h:List Ob}{o:Out}(hc:J4 n τ its t ds kind base h)(h2:τ.Nodup)
 (h4:aA P Γ (.fr ⟨.run,fn,its,cJ n τ t,ds,kind,base⟩ up (jX n τ h)) o):aA P Γ (.fr ⟨.run,fn,its,t,ds,kind,base⟩ up h) o:=
 .reach (.nq n τ hc h2 (.refl _)) h4
attribute [simp] kf jM.cfg J4 gT fK ee cJ f_ eG oe rP lW mw gO tc jZ n7 jX List.idxOf_cons
theorem Reach.TA{P:Program}{Γ:Nat->Option AV}{f:FuncId}{args as:List AV}{r:AV}{h:List Ob}(h1:cy h args=some as)(h2:aQ P Γ f as r)(h3:∀n,er n r=(r,[]))(h4:eV h args r=h):∀up,Reach P Γ (.cl f args up h) (.back up r h):=by
 intro up;have:=back_eq h1 h2 up;rw[h3,h4]at this;exact this
variable{P:Program}{Γ:Nat->Option AV}
theorem Inv.below{N:Env}{g:G}{h:List Ob}{w w':World}(H:Inv P Γ N g h w)(hb:Below w.heap.size w w'):Inv P Γ N g h w':=by
 have h2:∀b x,w.heap[b]? =some x->w'.heap[b]? =some x:=fun b x hx=>by
  rw[hb.block b (by
   rcases mF b w.heap.size with h1|h1
   ·exact h1
   ·rw[pn h1]at hx;cases hx)]
  exact hx
 have hc:∀b o v,w.cell? ⟨b,o,none⟩=some v->w'.cell? ⟨b,o,none⟩=some v:=fun b o v hv=>by
  rcases mF b w.heap.size with h1|h1
  ·rw[vB (hb.block b h1)];exact hv
  ·simp[World.cell?,pn h1]at hv
 refine⟨hb.os.trans H.os,hb.tape.trans H.tape,hb.output.trans H.output,fun b o hk=>h2 b o (H.gp b o hk),fun i b x hi=>⟨(H.own i b x hi).1,lX (H.own i b x hi).2 hb.size⟩,H.inj,H.ql,
  fun b o v hv=>hc b o v (H.mem b o v hv),fun b es ck hk=>⟨h2 b _ (H.mm b es ck hk).1,(H.mm b es ck hk).2⟩,H.fo,?_,H.mo,H.mK,H.ky,H.mz⟩
 intro i o hi;exact oN (Ext.refl _ _ _) rfl (fun b y hy=>hb.block b (H.own i b y hy).2) (H.ob i o hi)
theorem aQ.JP{f:FuncId}{as:List AV}{r:AV}(hb:dv P f=true)(h2:∀n,er n r=(r,[]))(ht:uE r=true)
 (hc:∀(N:Env)(g:G)(h:List Ob)(w:World)(us:List Value),Inv P Γ N g h w->VL g h as us->Calls P f us.toArray w fun e w'=>(∃u,e=.returned u/\∀g h,V g h r u)/\Below w.heap.size w w'):aQ P Γ f as r:=by
 refine⟨hb,fun _ N g h w us H hV=>(hc N g h w us H hV).mono ?_⟩
 rintro e w' ⟨⟨u,rfl,hu⟩,hB⟩
 refine⟨u,g,rfl,ht,?_,?_,fun _ _=>rfl,fun _ _ _ x=>x,fun b hb=>hB.block b hb⟩
 ·rw[h2];simpa using H.below hB
 ·rw[h2];exact hu _ _
@[simp] theorem abp(c:UInt8):DO (gm c)=some c:=by
 simp only[DO,gm,eo,an];exact UInt8.ofNat_toNat
@[simp] theorem acB:∀w:List UInt8,qR (w.map gm)=some w
 |[]=>rfl
 |c::w=>by rw[bX,qR,abp,acB w]
theorem Iq{P:Program}{W:World}:∀{l:List (String×DataW Unit)}{ps:List MemPlace},DataW.LaidVars P W l ps->∀n d,(n,d)∈l->
 ∃g t cs fuel p,P.globalNamed n=some g/\(P.globals[g]?).map (·.type)=some t/\W.var? P n=some cs/\DataW.trod (fun _=>()) P W 0 (fun _=>true) false fuel t cs.toList=some (d,p)
 |[],ps,_,n,d,hm=>by simp at hm
 |(n0,d0)::l,ps,h,n,d,hm=>by
  obtain⟨g,t,cs,fuel,p,q,h1,h2,h3,h4,h5,_⟩:=h
  rcases bD.1 hm with hm|hm
  ·cases hm
   exact⟨g,t,cs,fuel,p,h1,h2,h3,h4⟩
  ·exact Iq h5 n d hm
theorem N5{H:Type}(z x:Lit×DataW H):∀l,z∈DataW.insert x l↔z=x\/z∈l
 |[]=>by simp[DataW.insert]
 |y::r=>by
  rw[DataW.insert]
  split
  ·simp
  ·simp only[bD,N5 z x r];constructor
   ·rintro(h|h|h)
    ·exact .inr (.inl h)
    ·exact .inl h
    ·exact .inr (.inr h)
   ·rintro(h|h|h)
    ·exact .inr (.inl h)
    ·exact .inl h
    ·exact .inr (.inr h)
theorem tV{H:Type}(z:Lit×DataW H):∀l:List (Lit×DataW H),z∈l.foldr DataW.insert []↔z∈l
 |[]=>by simp
 |x::l=>by simp only[List.foldr_cons,N5,tV z l,bD]
theorem RQ{α β:Type}{f:α->Option β}:∀{l:List α}{r:List β},l.mapM f=some r->F2 (fun a b=>f a=some b) l r
 |[],r,h=>by simp at h;subst h;exact .nil
 |x::l,r,h=>by
  simp only[tx,qz,pt,L6,an]at h;obtain⟨b,hb,r',h2,rfl⟩:=h;exact .cons hb (RQ h2)
theorem P7{H:Type}{enc:TypeId×Value->H}{P:Program}{w:World}{base:Nat}{sp:Nat->Bool}{held:Bool}{t k e:TypeId}(ht:P.underlying t=some (.map k e)){fuel:Nat}{cs:List Value}{D:List (Lit×DataW H)}{ps:List MemPlace}
 (h:DataW.trod enc P w base sp held fuel t cs=some (.map D,ps)):
 ∃n b es clock,∃entries:List ((Lit×DataW H)×List MemPlace),cs=[.map (some b)]/\w.heap[b]? =some (.map es clock)/\
  F2 (fun(x:MapEntry) y=>keyOf P k x.key=some y.1.1/\x.val.formed P e=true/\DataW.trod enc P w base sp held n e x.val.cells.toList=some (y.1.2,y.2)) es.toList entries/\D=(entries.map (·.1)).foldr DataW.insert []:=by
 cases fuel with
 |zero=>simp[DataW.trod]at h
 |succ n=>
  rw[DataW.trod_step]at h;unfold DataW.trodStep at h;rw[ht]at h
  split at h<;>simp_all
  rename_i b _
  cases hb:w.heap[b]? with
  |none=>simp[hb]at h
  |some o=>
   cases o<;>simp only[hb,reduceCtorEq]at h
   rename_i es clock
   split at h
   ·simp only[pt]at h;obtain⟨entries,h1,h2⟩:=h
    split at h2
    ·simp only[an,b9,DataW.map.injEq]at h2;refine⟨n,es,⟨clock,rfl⟩,entries,?_,h2.1.symm⟩
     refine Dj (RQ h1) fun x y hv=>?_
     simp only[pt]at hv;obtain⟨key,h3,h4⟩:=hv
     split at h4
     ·rename_i hf;rw[cm]at h4;obtain⟨z,h5,rfl⟩:=h4;exact⟨h3,hf,h5⟩
     ·cases h4
    ·cases h2
   ·cases h
def kp:Lit->AV
 |.string s=>.str s
 |.int k n=>.int k n
 |_=>.undef
def AA{H:Type}:DataW H->AV
 |.lit (.bool b)=>.bool b
 |.lit (.int k n)=>.int k n
 |.lit (.string s)=>.str s
 |_=>.undef
def pP{H:Type}:DataW H->AV
 |.agg ds=>.agg (ds.map AA)
 |d=>AA d
theorem RC{P:Program}{k:TypeId}{q:IntKind}(hk:P.underlying k=some (.int q)){g:G}{h:List Ob}{v:Value}{l:Lit}(hv:keyOf P k v=some l):V g h (kp l) v/\aK 0 (kp l)=true/\∃n,l=.int q n:=by
 rw[keyOf_int hk]at hv
 cases v<;>simp[mapKey,hk]at hv
 obtain⟨⟨rfl,_⟩,rfl⟩:=hv;exact⟨by simp[kp,V],rfl,_,rfl⟩
theorem agU{P:Program}{e e':TypeId}{q:IntKind}(he:P.underlying e=some (.array 2 e'))(hv:P.underlying e'=some (.int q))(h1:P.cellsOf e'=1)(h2:P.cellsOf e=2){H:Type}{enc:TypeId×Value->H}{w:World}{base:Nat}{sp:Nat->Bool}{held:Bool}{n:Nat}{v:Value}{x:DataW H×List MemPlace}{g:G}{h:List Ob}
 (hf:v.formed P e=true)(ht:DataW.trod enc P w base sp held n e v.cells.toList=some x):V g h (pP x.1) v/\aK 0 (pP x.1)=true:=by
 cases v<;>simp[Value.formed,he]at hf
 rename_i cs
 have hl:cs.toList.length=2:=by simpa[h2]using hf
 obtain⟨a,b,hb⟩:∃a b,cs.toList=[a,b]:=by
  match hc:cs.toList,hl with
  |[a,b],_=>exact⟨a,b,rfl⟩
 cases n with
 |zero=>simp[DataW.trod]at ht
 |succ m=>
  simp only[Value.cells,hb]at ht;rw[DataW.trod_step]at ht;unfold DataW.trodStep at ht;rw[he]at ht;simp only[h1,h2,bL,c_,cE,show List.range 2=[0,1]from rfl,tx,List.mapM_nil]at ht;simp only[qz,L6,cm,pt,an,Nat.mul_one,fM,List.drop_succ_cons,LS,xD]at ht;obtain⟨y,⟨y1,hx,ys,⟨y2,hk,zs,rfl,rfl⟩,rfl⟩,rfl⟩:=ht;obtain⟨n1,e1,rfl,_⟩:=DataW.trod_int hv hx;obtain⟨n2,e2,rfl,_⟩:=DataW.trod_int hv hk;simp only[vd,qo]at e1 e2;subst e1 e2
  have hj:cs=[Value.int q n1,Value.int q n2].toArray:=by rw[<-hb]
  subst hj;simp[pP,AA,V,VL,aK,aN]
theorem GN(E:EK)(kk:AV):∀(l:List (AV×AV)),(∀y∈l,(cC E kk y.1=some true/\kk=y.1)\/(cC E kk y.1=some false/\kk≠y.1))->
 ∃r,fg E kk l=some r/\(r=none->∀y∈l,kk≠y.1)/\(∀v,r=some v->(kk,v)∈l)
 |[],_=>⟨none,rfl,fun _ y hy=>by simp at hy,fun v hv=>by cases hv⟩
 |(a,u)::l,h=>by
  rcases h (a,u) (pv ..)with⟨h1,h2⟩|⟨h1,h2⟩
  ·refine⟨some u,by simp only[fg,h1],fun hn=>absurd hn (by simp),fun v hv=>?_⟩;obtain rfl:=Option.some.inj hv;rw[show kk=a from h2];exact pv ..
  ·obtain⟨r,h3,h4,h5⟩:=GN E kk l (fun y hy=>h y (dH _ hy));refine⟨r,by simp only[fg,h1];exact h3,fun hn y hy=>?_,fun v hv=>dH _ (h5 v hv)⟩
   rcases bD.1 hy with rfl|hy
   ·exact h2
   ·exact h4 hn y hy
theorem ru{α β:Type}{R:α->β->Prop}{g:G}{h:List Ob}{f:β->AV}{e:α->Value}:∀{l:List α}{m:List β},F2 R l m->(∀a b,R a b->V g h (f b) (e a)/\aK 0 (f b)=true)->VL g h (m.map f) (l.map e)/\aN 0 (m.map f)=true
 |_,_,.nil,_=>⟨by simp[VL],rfl⟩
 |_,_,.cons h1 h2,hR=>by
  obtain⟨a1,a2⟩:=hR _ _ h1;obtain⟨b1,b2⟩:=ru h2 hR;simp only[bX,VL,aN,a2,b2,oC,qo];exact⟨_,_,rfl,a1,b1⟩
theorem agp{P:Program}{W:World}{l:List (String×DataW Unit)}(hl:laidMetH P l W)(hp:(l.all fun x=>x.2.handleName?.isNone)=true){name:String}{D:List (Lit×DataW Unit)}{g:Nat}{t k e:TypeId}(hm:(name,DataW.map D)∈l)
 (hg:P.globalNamed name=some g)(ht:(P.globals[g]?).map (·.type)=some t)(hu:P.underlying t=some (.map k e))
 (hK:∀(v:Value)(q:Lit),keyOf P k v=some q->V (gw W) [] (kp q) v/\aK 0 (kp q)=true)
 (hV:∀(n:Nat)(v:Value)(x:DataW Unit×List MemPlace),v.formed P e=true->DataW.trod (fun _=>()) P W 0 (fun _=>true) false n e v.cells.toList=some x->V (gw W) [] (pP x.1) v/\aK 0 (pP x.1)=true):
 ∃ks us,aN 0 (AV.cells (.dG ks us))=true/\(∃vs,VL (gw W) [] (AV.cells (.dG ks us)) vs/\∀j(hj:j<vs.length),W.cell? ⟨g,j,none⟩=some vs[j])/\∃z:List (AV×AV),ks.zip us=z/\∀y,y∈z↔y∈D.map fun d=>(kp d.1,pP d.2):=by
 rw[MakeChecks.laidMetH_plain _ _ _ hp]at hl;obtain⟨ps,h1,_⟩:=hl;obtain⟨g',t',cs,fuel,p,h2,h3,h4,h5⟩:=Iq h1 _ _ hm;obtain rfl:=Option.some.inj (hg.symm.trans h2);obtain rfl:=Option.some.inj (ht.symm.trans h3);obtain⟨n,b,es,ck,entries,hc,hb,hF,rfl⟩:=P7 hu h5;refine⟨entries.map fun y=>kp y.1.1,entries.map fun y=>pP y.1.2,?_,⟨[.map (some b)],?_,?_⟩,_,rfl,?_⟩
 ·have a:=ru (g:=gw W) (h:=[]) (f:=fun y=>kp y.1.1) (e:=fun x:MapEntry=>x.key) hF (fun x y hv=>hK _ _ hv.1);have c:=ru (g:=gw W) (h:=[]) (f:=fun y=>pP y.1.2) (e:=fun x:MapEntry=>x.val) hF (fun x y hv=>hV n _ (y.1.2,y.2) hv.2.1 hv.2.2);simp only[AV.cells,aN,aK,a.2,c.2,oC]
 ·have a:=ru (g:=gw W) (h:=[]) (f:=fun y=>kp y.1.1) (e:=fun x:MapEntry=>x.key) hF (fun x y hv=>hK _ _ hv.1);have c:=ru (g:=gw W) (h:=[]) (f:=fun y=>pP y.1.2) (e:=fun x:MapEntry=>x.val) hF (fun x y hv=>hV n _ (y.1.2,y.2) hv.2.1 hv.2.2);simp only[AV.cells,VL,V];refine⟨_,[],rfl,⟨b,es,ck,rfl,by simp only[gw,hb],a.1,c.1⟩,rfl⟩
 ·intro j hj
  obtain rfl:j=0:=by simp at hj;omega
  rw[World.var?_cell hg h4 0,xG.symm,hc];rfl
 ·intro y;rw[List.zip_map',cd,cd];constructor
  ·rintro⟨x,hx,rfl⟩
   exact⟨x.1,(tV _ _).2 (rZ hx),rfl⟩
  ·rintro⟨d,hd,rfl⟩
   obtain⟨x,hx,rfl⟩:=cd.1 ((tV _ _).1 hd);exact⟨x,hx,rfl⟩
theorem ah4{n:Nat}{τ:List Nat}{o:Ob}(hb:iL n o=true):mw n τ o=true:=by
 have h2:∀es:List (AV×AV),fC n es=true->rP n τ es=true:=by
  intro es
  induction es with
  |nil=>intro _;rfl
  |cons x r ih=>
   obtain⟨a,b⟩:=x;intro h;simp only[fC,aB]at h;simp only[rP,j_ h.1.1,j_ h.1.2,ih h.2,oC]
 cases o<;>simp only[iL]at hb<;>simp only[mw]
 ·exact nO hb
 ·rw[fL]at hb⊢;exact hb.imp id nO
 ·exact h2 _ hb
 ·exact nO hb
theorem nP{n:Nat}{τ:List Nat}:∀{h:List Ob},cz n h=true->gO n τ h=true
 |[],_=>rfl
 |o::os,hb=>by
  simp only[cz,aB]at hb;have h1:=nP (τ:=τ) hb.2
  cases o with
  |loop st hv fn t ps a b=>
   have h2:=hb.1;simp only[iL]at h2;simp only[gO,h1,h2,oC]
  |_=>
   have h2:=ah4 (τ:=τ) hb.1;simp only[gO,h1,h2,oC]
@[simp] theorem ad1(n:Nat)(τ:List Nat):∀a b:List Ob,gO n τ (a++b)=(gO n τ a&&gO n τ b)
 |[],b=>rfl
 |o::a,b=>by
  have ih:=ad1 n τ a b
  cases o<;>simp[gO,ih,pw]
@[simp] theorem ac7(n:Nat)(τ:List Nat):∀a b:List Ob,jZ n τ (a++b)=jZ n τ a++jZ n τ b
 |[],b=>rfl
 |o::a,b=>by simp[jZ,ac7 n τ a b]
@[simp] theorem adM(n:Nat)(τ:List Nat):∀a b:List AV,cJ n τ (a++b)=cJ n τ a++cJ n τ b
 |[],b=>rfl
 |o::a,b=>by simp[cJ,adM n τ a b]
@[simp] theorem adN(n:Nat)(τ:List Nat):∀a b:List AV,eG n τ (a++b)=(eG n τ a&&eG n τ b)
 |[],b=>rfl
 |o::a,b=>by simp[eG,adN n τ a b,pw]
attribute [simp] GK
@[simp] theorem acw(i m:Nat):∀a b:List AV,dx i m (a++b)=(dx i m a&&dx i m b)
 |[],b=>rfl
 |o::a,b=>by simp[dx,acw i m a b,pw]
theorem abt{as:List (List Nat)}{d1 d2:List Nat}(h:∀x,d1.contains x=d2.contains x)(i:Nat):mc as d1 i=mc as d2 i:=by
 unfold mc;rw[h i];congr 1
 refine List.all_congr rfl fun x=>h x
theorem MN(as:List (List Nat)):∀(n:Nat)(d1 d2:List Nat),(∀x,d1.contains x=d2.contains x)->gA as n d1=gA as n d2
 |0,_,_,_=>rfl
 |n+1,d1,d2,h=>by
  rw[gA,gA,show mc as d1=mc as d2 from funext (abt h)];congr 1
  funext i
  rw[MN as n (i::d1) (i::d2) fun x=>by simp only[List.contains_cons,h x]]
section
variable{P:Program}{Γ:Nat->Option AV}{as:List (List Nat)}{gs:List AG}{fn:FuncId}{k:List It}{ds:List dO}{kind:FK}{base:Nat}{up:List Fr}{c:ar}
def nc(P:Program)(Γ:Nat->Option AV)(as:List (List Nat))(gs:List AG)(fn:FuncId)(k:List It)(ds:List dO)(kind:FK)(base:Nat)(up:List Fr)(c:ar)(done:List Nat)(n:Nat)(t:List AV)(h:List Ob):Prop:=
 ∀l∈gA as n done,Reach P Γ (.fr ⟨.run,fn,.ops (l.map fun i=>gs.getD i default)::k,t,ds,kind,base⟩ up h) c
theorem nc.step{done:List Nat}{n:Nat}{t:List AV}{h:List Ob}
 (h1:∀i∈(List.range as.length).filter (mc as done),∃d op v h',gs.getD i default=⟨d,none,op⟩/\(aD P Γ t h op=.val v h'\/v=.aH []/\aD P Γ t h op=.skip h')/\nc P Γ as gs fn k ds kind base up c (i::done) n (bl t d v) h'):nc P Γ as gs fn k ds kind base up c done (n+1) t h:=by
 intro l hl;simp only[gA,qA,cd]at hl;obtain⟨i,hi,l',h2,rfl⟩:=hl;obtain⟨d,op,v,h',e1,e2,h3⟩:=h1 i hi;have h4:=h3 l' h2;refine .trans (Reach.wK 1 _) ?_;simp only[bX,e1]
 rcases e2 with e2|⟨rfl,e2⟩
 ·rw[show(1:Nat)=0+1 from rfl,So,e2,aiE];exact h4
 ·rw[show(1:Nat)=0+1 from rfl,So,e2,ahD];exact h4
theorem nc.congr{d1 d2:List Nat}{n:Nat}{t:List AV}{h:List Ob}(h1:nc P Γ as gs fn k ds kind base up c d1 n t h)(h2:∀x,d1.contains x=d2.contains x):nc P Γ as gs fn k ds kind base up c d2 n t h:=by
 intro l hl;rw[<-MN as n d1 d2 h2]at hl;exact h1 l hl
theorem nc.perm{d1 d2:List Nat}{n:Nat}{t:List AV}{h:List Ob}(h1:nc P Γ as gs fn k ds kind base up c d1 n t h)(h2:d1.Perm d2):nc P Γ as gs fn k ds kind base up c d2 n t h:=
 h1.congr fun x=>by rw[gV,Fv,Fv];exact h2.mem_iff
theorem nc.all{t:List AV}{h:List Ob}(h1:nc P Γ as gs fn k ds kind base up c [] as.length t h):Reach P Γ (.fr ⟨.run,fn,.code (.gM as gs)::k,t,ds,kind,base⟩ up h) c:=
 .gM (f:=⟨.run,fn,.code (.gM as gs)::k,t,ds,kind,base⟩) rfl rfl h1
end
theorem N6{P:Program}{W:World}{l:List (String×DataW Unit)}(hl:laidMetH P l W):laidMetH P (l.filter fun x=>x.2.handleName?.isNone) W:=by
 have h:=(laidMetH_iff.1 hl).1;rw[MakeChecks.laidMetH_plain _ _ _ (by rw[eh];intro x hx;exact(dX.1 hx).2)];exact h
def Ji(h2:List UInt8->FuncId):DataW (List UInt8)->AV
 |.held t=>.fn (.func (h2 t)) [] []
 |d=>AA d
def pN(h2:List UInt8->FuncId):DataW (List UInt8)->AV
 |.agg ds=>.agg (ds.map (Ji h2))
 |d=>Ji h2 d
theorem agS{P:Program}{e tf ti:TypeId}{q:IntKind}{fs:Array Field}(he:P.underlying e=some (.struct fs))(hk:fs.toList.map (fun f=>(f.type,f.offset))=[(tf,0),(ti,1)])
 (q1:(match P.underlying tf with|some (.func ..)=>true|_=>false)=true)(h5:P.underlying ti=some (.int q))(h1:P.cellsOf tf=1)(h2:P.cellsOf ti=1)(h3:P.cellsOf e=2)
 {ih:List UInt8->FuncId}{w:World}{base:Nat}{sp:Nat->Bool}{n:Nat}{v:Value}{x:DataW (List UInt8)×List MemPlace}{g:G}{h:List Ob}{t0:List UInt8}{k:Int}(hx:x.1=.agg [.held t0,.lit (.int q k)])(hq:t0≠[])
 (hd:∀f fn,P.funcs[f]? =some fn->fn.name.toUTF8.data.toList=t0->ih t0=f)
 (hf:v.formed P e=true)(ht:DataW.trod (funcToken P) P w base sp true n e v.cells.toList=some x):V g h (pN ih x.1) v/\aK 0 (pN ih x.1)=true:=by
 cases v<;>simp[Value.formed,he]at hf
 rename_i cs
 have hl:cs.toList.length=2:=by simpa[h3]using hf
 obtain⟨a,b,hy⟩:∃a b,cs.toList=[a,b]:=by
  match hc:cs.toList,hl with
  |[a,b],_=>exact⟨a,b,rfl⟩
 obtain⟨f1,f2,hg,e1,e2,e3,e4⟩:∃f1 f2,fs.toList=[f1,f2]/\f1.type=tf/\f1.offset=0/\f2.type=ti/\f2.offset=1:=by
  rcases hc:fs.toList with _|⟨f1,_|⟨f2,_|⟨f3,r⟩⟩⟩<;>rw[hc]at hk<;>simp at hk
  exact⟨f1,f2,rfl,hk.1.1,hk.1.2,hk.2.1,hk.2.2⟩
 cases n with
 |zero=>simp[DataW.trod]at ht
 |succ m=>
  simp only[Value.cells,hy]at ht;rw[DataW.trod_step]at ht;unfold DataW.trodStep at ht;rw[he]at ht;simp only[hg,e1,e2,e3,e4,h1,h2,h3,bL,c_,cE,tx,List.mapM_nil]at ht;simp only[qz,L6,cm,pt,an,fM,List.drop_succ_cons,LS,xD]at ht;obtain⟨y,⟨y1,hb,ys,⟨y2,q2,zs,rfl,rfl⟩,rfl⟩,rfl⟩:=ht;simp only[bX,jO,DataW.agg.injEq,vd,qo]at hx;obtain⟨h4,hz⟩:=hx;obtain⟨n2,w2,rfl,_⟩:=DataW.trod_int h5 q2;simp only[vd,qo]at w2;subst w2
  cases m with
  |zero=>simp[DataW.trod]at hb
  |succ m=>
  rw[DataW.trod_step]at hb;unfold DataW.trodStep at hb
  cases hu:P.underlying tf with
  |none=>rw[hu]at q1;cases q1
  |some d=>
  rw[hu]at q1 hb
  cases d<;>simp only[reduceCtorEq]at q1 hb
  cases a<;>simp only[an,cE,reduceCtorEq]at hb
  ·rename_i fn first cap
   subst hb;simp only[DataW.held.injEq]at h4
   obtain⟨b0,r0,hp⟩:∃b0 r0,t0=b0::r0:=by
    cases t0 with
    |nil=>exact absurd rfl hq
    |cons b0 r0=>exact⟨b0,r0,rfl⟩
   obtain⟨f,fu,hv,ps,_,hj⟩:=funcToken_tells (h4.trans hp)
   cases hv
   have:=hd f fu ps (hj.trans hp.symm)
   have h6:cs=[Value.func (.func f) #[] #[],Value.int q n2].toArray:=by rw[<-hy]
   subst h6;simp[pN,Ji,AA,V,VL,aK,aN,h4,this]
  ·subst hb
   cases h4
theorem Sc{α β:Type}{R:α->β->Prop}:∀{l:List α}{m:List β},F2 R l m->F2 (fun a b=>R a b/\b∈m) l m
 |_,_,.nil=>.nil
 |_,_,.cons h1 h2=>.cons ⟨h1,by simp⟩ (Dj (Sc h2) fun a b h=>⟨h.1,by simp[h.2]⟩)
theorem afB{P:Program}{W:World}{l:List (String×DataW Unit)}(hl:laidMetH P l W){name:String}{en:List (Lit×DataW Unit)}{g:Nat}{t k e:TypeId}(hm:(name,DataW.iface "func table" (.map en))∈l)(hc:List UInt8->FuncId)
 (hg:P.globalNamed name=some g)(ht:(P.globals[g]?).map (·.type)=some t)(hu:P.underlying t=some (.map k e))
 (hK:∀(v:Value)(q:Lit),keyOf P k v=some q->V (gw W) [] (kp q) v/\aK 0 (kp q)=true)
 (hV:∀(n:Nat)(v:Value)(x:DataW (List UInt8)×List MemPlace),(∃z∈DataW.funcsOutEntries en,z.2=x.1)->v.formed P e=true->DataW.trod (funcToken P) P W 0 (fun _=>true) true n e v.cells.toList=some x->V (gw W) [] (pN hc x.1) v/\aK 0 (pN hc x.1)=true):
 ∃ks us,aN 0 (AV.cells (.dG ks us))=true/\(∃vs,VL (gw W) [] (AV.cells (.dG ks us)) vs/\∀j(hj:j<vs.length),W.cell? ⟨g,j,none⟩=some vs[j])/\∃z:List (AV×AV),ks.zip us=z/\∀y,y∈z↔y∈(DataW.funcsOutEntries en).map fun d=>(kp d.1,pN hc d.2):=by
 obtain⟨g',t',cs,fuel,p,h2,h3,h4,h5⟩:=hl.funcs hm;obtain rfl:=Option.some.inj (hg.symm.trans h2);obtain rfl:=Option.some.inj (ht.symm.trans h3);rw[DataW.funcsOut]at h5;generalize hD:DataW.funcsOutEntries en=D at*;obtain⟨n,b,es,ck,entries,q1,hb,hF,rfl⟩:=P7 hu h5;have hk:=Sc hF;refine⟨entries.map fun y=>kp y.1.1,entries.map fun y=>pN hc y.1.2,?_,⟨[.map (some b)],?_,?_⟩,_,rfl,?_⟩
 ·have a:=ru (g:=gw W) (h:=[]) (f:=fun y=>kp y.1.1) (e:=fun x:MapEntry=>x.key) hF (fun x y hv=>hK _ _ hv.1);have c:=ru (g:=gw W) (h:=[]) (f:=fun y=>pN hc y.1.2) (e:=fun x:MapEntry=>x.val) hk (fun x y hv=>hV n _ (y.1.2,y.2) ⟨y.1,(tV _ _).2 (rZ hv.2),rfl⟩ hv.1.2.1 hv.1.2.2);simp only[AV.cells,aN,aK,a.2,c.2,oC]
 ·have a:=ru (g:=gw W) (h:=[]) (f:=fun y=>kp y.1.1) (e:=fun x:MapEntry=>x.key) hF (fun x y hv=>hK _ _ hv.1);have c:=ru (g:=gw W) (h:=[]) (f:=fun y=>pN hc y.1.2) (e:=fun x:MapEntry=>x.val) hk (fun x y hv=>hV n _ (y.1.2,y.2) ⟨y.1,(tV _ _).2 (rZ hv.2),rfl⟩ hv.1.2.1 hv.1.2.2);simp only[AV.cells,VL,V];refine⟨_,[],rfl,⟨b,es,ck,rfl,by simp only[gw,hb],a.1,c.1⟩,rfl⟩
 ·intro j hj
  obtain rfl:j=0:=by simp at hj;omega
  rw[World.var?_cell hg h4 0,xG.symm,q1];rfl
 ·intro y;rw[List.zip_map',cd,cd];constructor
  ·rintro⟨x,hx,rfl⟩
   exact⟨x.1,(tV _ _).2 (rZ hx),rfl⟩
  ·rintro⟨d,hd,rfl⟩
   obtain⟨x,hx,rfl⟩:=cd.1 ((tV _ _).1 hd);exact⟨x,hx,rfl⟩
end Go.AM
