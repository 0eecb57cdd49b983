/- The abstract machine: rows of slices whose slices turn no more; literals that are rows of their own. -/
import Derived.Test.YtfpkjfmpamlakaaAMc
import Derived.ProofKit
import Derived.OpenShut
import Derived.JoinedCond
import Derived.ChangeStays
import Derived.ChangeBears
import Derived.ChangeCalls
import Derived.Below
import Derived.MakeChecks
import Derived.LaidMore
import Derived.StringKeys
import Derived.ChangeKeys
set_option linter.unusedSimpArgs false
set_option linter.unusedVariables false
namespace Go.AM
open Go.RowKit
theorem share_at {j:Nat}:∀ (is:List Nat) (h:List Ob),j∉is→(share is h)[j]? = h[j]?
 | [],_,_=>rfl
 | i::is,h,hj=>by
  simp only [List.mem_cons,not_or] at hj;simp only [share]
  have hne:¬ i=j:=fun e=>hj.1 e.symm
  rw [share_at is _ hj.2,List.getElem?_modify];simp [hne]
section
variable {P : Program} {Γ : Nat → Option AV} {N : Env} {g : G} {h : List Ob} {w : World}
theorem view_one {a a':AV} (hv:view h a=some a') (ho:a.one=true):a'.one=true:=by
 cases a with
 | agg _ | tup _ | undef | own _ _ _=>simp [AV.one] at ho
 | list f k es=>simp only [view,Option.some.injEq] at hv; subst hv; rfl
 | sl i o n=>simp only [view,Option.map_eq_some_iff] at hv; obtain ⟨p,_,rfl⟩:=hv; rfl
 | ptr _ _ | mp _ | it _ | yld _ | eptr _ _ _ _=>simp [view] at hv
 | kmp _ _=>simp only [view] at hv; split at hv <;> simp at hv; subst hv; rfl
 | fn f x y=>simp only [view] at hv; split at hv <;> simp at hv; subst hv; rfl
 | ifc t x=>simp only [view,Option.map_eq_some_iff] at hv; obtain ⟨y,_,rfl⟩:=hv; rfl
 | _=>simp only [view,Option.some.injEq] at hv; subst hv; rfl
theorem viewL_one:∀ {as as':List AV},viewL h as=some as'→as'.length=as.length∧(allOne as=true→allOne as'=true)
 | [],as',hv=>by simp only [viewL,Option.some.injEq] at hv; subst hv; exact ⟨rfl,id⟩
 | a::as,as',hv=>by
  simp only [viewL] at hv
  split at hv
  ·rename_i a1 as1 h1 h2;simp only [Option.some.injEq] at hv;subst hv;obtain ⟨h3,h4⟩:=viewL_one h2;refine ⟨by simp [h3],fun ho => ?_⟩;simp only [allOne,Bool.and_eq_true] at ho ⊢;exact ⟨view_one h1 ho.1,h4 ho.2⟩
  ·cases hv
theorem view_cells {a a':AV} (hv:view h a=some a') (ho:allOne a.cells=true):a'.cells.length=a.cells.length∧allOne a'.cells=true:=by
 by_cases ha:∃ cs,a=.agg cs
 ·obtain ⟨cs,rfl⟩:=ha;simp only [view,Option.map_eq_some_iff] at hv;obtain ⟨cs',h1,rfl⟩:=hv;obtain ⟨h2,h3⟩:=viewL_one h1;exact ⟨h2,h3 ho⟩
 ·have hc:a.cells=[a]:=by cases a <;> first | rfl | exact absurd ⟨_,rfl⟩ ha
  rw [hc] at ho;simp only [allOne,Bool.and_true] at ho;have h1:=view_one hv ho
  have hc':a'.cells=[a']:=by cases a' <;> first | rfl | simp [AV.one] at h1
  rw [hc,hc'];exact ⟨rfl,by simp [allOne,h1]⟩
theorem bel_cells {n:Nat} {a:AV} (h:bel n a=true):belL n a.cells=true:=by
 cases a <;> simp_all [AV.cells,bel,belL]
theorem VE_view (H:Inv P Γ N g h w) {g':G} {h':List Ob} (x:Ext h.length g h g' h'):∀ {as as':List AV} {us:List Value},(∀ i∈rowsOfL as,Cov g' h w g i)→VE g h as us→viewL h as=some as'→VE g' h' as' us
 | [],as',us,_,hv,ha=>by
  simp only [viewL,Option.some.injEq] at ha;subst ha;simpa only [VE] using hv
 | a::as,as',us,hc,hv,ha=>by
  simp only [viewL] at ha
  split at ha
  ·rename_i a1 as1 h1 h2;simp only [Option.some.injEq] at ha;subst ha;simp only [VE] at hv ⊢;obtain ⟨u,us',h3,rfl,h4⟩:=hv;simp only [rowsOfL,List.mem_append] at hc;exact ⟨u,us',V_view H x (fun i hi=>hc i (Or.inl hi)) h3 h1,rfl,VE_view H x (fun i hi=>hc i (Or.inr hi)) h4 h2⟩
  ·cases ha
theorem VE_ok (H:Inv P Γ N g h w) {k:Nat}:∀ {as as':List AV} {us:List Value},AllK k as→VE g h as us→viewL h as=some as'→okList as' k=true
 | [],as',us,_,_,ha=>by simp only [viewL,Option.some.injEq] at ha; subst ha; rfl
 | a::as,as',us,hK,hv,ha=>by
  simp only [viewL] at ha
  split at ha
  ·rename_i a1 as1 h1 h2;simp only [Option.some.injEq] at ha;subst ha;simp only [VE] at hv;obtain ⟨u,us',h3,rfl,h4⟩:=hv;obtain ⟨hk1,hk2⟩:=hK a (by simp);obtain ⟨h5,h6⟩:=view_cells h1 hk2;simp only [okList,Bool.and_eq_true,decide_eq_true_eq];exact ⟨⟨⟨by omega,h6⟩,bel_cells (view_bel H h3 h1)⟩,VE_ok H (fun e he=>hK e (List.mem_cons_of_mem _ he)) h4 h2⟩
  ·cases ha
theorem okSl_len {es es':List AV} (h:es'.length=es.length) (gr:Option Nat) (off n:Nat):okSl es' gr off n=okSl es gr off n:=by
 unfold okSl; rw [h]
theorem Inv.freeze (H:Inv P Γ N g h w) {i k:Nat} {E:TypeId} {es es':List AV} {gr:Option Nat} {fl sh:Bool} (hi:h[i]? = some (.row k E es gr fl sh)) (hg:gr.getD 0=0)
  (hv:viewL h es=some es') (hn:(rowsOfL es).contains i=false) :
  ∃ g',Inv P Γ N g' ((share (rowsOfL es) h).set i (.row k E es' gr true sh)) w∧Ext h.length g h g' ((share (rowsOfL es) h).set i (.row k E es' gr true sh)):=by
 obtain ⟨g1,hρ1,hMM1,hM1,H1,hE1,hC1⟩:=share_sound (rowsOfL es) H
 have hni:i∉rowsOfL es:=by simpa using hn
 have hi1:(share (rowsOfL es) h)[i]? = some (.row k E es gr fl sh):=by rw [share_at _ _ hni]; exact hi
 have hlen:=(viewL_one hv).1;have hil1:=lt_of_get hi1;have hob:=H.ob i _ hi;simp only [OV] at hob;obtain ⟨hk0,hK,hfl,hgl,hb⟩:=hob
 have hE2:Ext (share (rowsOfL es) h).length g1 (share (rowsOfL es) h) g1 ((share (rowsOfL es) h).set i (.row k E es' gr true sh)):=by
  have:=Ext.set_row (E':=E) (es':=es') (gr':=gr) (fl':=true) (sh':=sh) (ρ':=g1.ρ i) hi1 (by omega) (fun off m hom hok=>⟨by rw [← okSl_len hlen]; exact hok,hlen,fun _ x=>x⟩);rwa [upd_self] at this
 have hokall:es'=[]∨(∃ us,VE g h es us):=by
  cases hρ:g.ρ i with
  | none =>
   rw [hρ] at hb;simp only at hb;subst hb;simp only [viewL,Option.some.injEq] at hv;exact Or.inl hv.symm
  | some y =>
   obtain ⟨b,sz,st⟩:=y;rw [hρ] at hb;obtain ⟨_,c,Ty,fz,vs,_,_,_,hVE,_⟩:=hb;rw [hg] at hVE;exact Or.inr ⟨vs,by simpa using hVE⟩
 have hok':okList es' k=true:=by
  rcases hokall with rfl | ⟨us,hus⟩
  ·rfl
  ·exact VE_ok H hK hus hv
 refine ⟨g1,?_,?_⟩
 ·have:=Inv.set (r:=g1.ρ i) (w':=w) (o':=.row k E es' gr true sh) H1 hil1 (by rw [upd_self]; exact hE2) rfl rfl rfl (fun _ _ _=>rfl) (Nat.le_refl _)
   (fun b y hy=>⟨Or.inl ⟨y,hy⟩,(H1.own i b y hy).2⟩)
   (fun b y o v _ hv=>H1.mem b o v hv)
   (by
    intro b sz st o v hy hv';obtain ⟨k2,E2,es2,gr2,fl2,h2,h3⟩:=H1.mown i b sz st o v hy hv';rw [hi1] at h2;simp only [Option.some.injEq,Ob.row.injEq] at h2;obtain ⟨rfl,rfl,rfl,rfl,rfl,rfl⟩:=h2
    exact ⟨_,_,_,_,_,rfl,by rw [hlen]; exact h3⟩)
   (by
    rw [upd_self];simp only [OV];refine ⟨hk0,okList_allK hok',fun _=>hok',by rw [hlen]; exact hgl,?_⟩;rw [hρ1]
    cases hρ:g.ρ i with
    | none =>
     rw [hρ] at hb;simp only at hb ⊢;subst hb;simp only [viewL,Option.some.injEq] at hv;exact hv.symm
    | some y =>
     obtain ⟨b,sz,st⟩:=y;rw [hρ] at hb;simp only at hb ⊢;obtain ⟨q1,c,Ty,fz,vs,q2,q3,q4,hVE,q5⟩:=hb;refine ⟨q1,c,Ty,fz,vs,q2,q3,q4,?_,q5⟩;rw [hg] at hVE ⊢;simp only [List.drop_zero] at hVE ⊢;have h1:=VE_view H hE1 hC1 hVE hv
     exact VE_mono hE2 (VE_bel h1) h1)
  rwa [upd_self] at this
 ·have:=share_length (rowsOfL es) h;rw [this] at hE2;exact hE1.trans hE2
theorem Inv.nilrow (H:Inv P Γ N g h w) {i j k k0:Nat} (E:TypeId) {cs:List AV} (hi:h[i]? = some (.cells cs)) (hj:cs[j]? = some (.list true k0 [])) (hk:0<k) :
  ∃ g',Inv P Γ N g' ((h++[Ob.row k E [] none true false]).set i (.cells (cs.set j (.sl h.length 0 0)))) w∧Ext h.length g h g' ((h++[Ob.row k E [] none true false]).set i (.cells (cs.set j (.sl h.length 0 0)))):=by
 have hE1:=Ext.push (g:=g) (h:=h) [Ob.row k E [] none true false] none
 have H1:Inv P Γ N (g.upd h.length none) (h++[Ob.row k E [] none true false]) w:=by
  refine Inv.push (r:=none) H rfl rfl rfl (fun _ _=>rfl) (Nat.le_refl _) (fun b x hb=>by cases hb) ?_ (fun j o hj=>by simp at hj);simp only [OV];rw [upd_same];exact ⟨hk,by simp,fun _=>rfl,by simp,trivial⟩
 have hi1:(h++[Ob.row k E [] none true false])[i]? = some (.cells cs):=by rw [List.getElem?_append_left (lt_of_get hi)]; exact hi
 have hE2:=Ext.set_cells (g:=g.upd h.length none) (vs':=cs.set j (.sl h.length 0 0)) hi1;have hil1:=lt_of_get hi1
 have hni:h.length≠i:=by have:=lt_of_get hi; omega
 refine ⟨g.upd h.length none,?_,?_⟩
 ·have:=Inv.set (r:=(g.upd h.length none).ρ i) (w':=w) (o':=.cells (cs.set j (.sl h.length 0 0))) H1 hil1 hE2 rfl rfl rfl (fun _ _ _=>rfl) (Nat.le_refl _)
   (fun b y hy=>⟨Or.inl ⟨y,hy⟩,(H1.own i b y hy).2⟩)
   (fun b y o v _ hv=>H1.mem b o v hv)
   (by
    intro b sz st o v hy hv';obtain ⟨k2,E2,es2,gr2,fl2,h2,h3⟩:=H1.mown i b sz st o v hy hv';rw [hi1] at h2
    cases h2)
   (by
    rw [upd_self];simp only [OV];intro b sz st hb;have hob:=H1.ob i _ hi1;simp only [OV] at hob;obtain ⟨c,Ty,fz,q1,q2,q3⟩:=hob b sz st hb;refine ⟨c,Ty,fz,q1,q2,?_⟩;obtain ⟨v,hv1,hv2⟩:=VL_get? q3 hj;simp only [V] at hv2;obtain ⟨_,a,cap,rfl,hcap,_,_⟩:=hv2
    have hcap0:cap=0:=by simpa using hcap trivial
    subst hcap0
    have hx:V (g.upd h.length none) ((h++[Ob.row k E [] none true false]).set i (.cells (cs.set j (.sl h.length 0 0)))) (.sl h.length 0 0) (.slice a ([]:List AV).length 0):=by
     simp only [V];refine ⟨k,E,[],none,true,false,?_,by simp,a,0,rfl,by simp,by simp,fun _=>⟨by simp,Or.inl ⟨rfl,rfl⟩⟩⟩;rw [List.getElem?_set_ne (Ne.symm hni)];simp
    have hE2':=hE2;rw [upd_self] at hE2';have hvl:=VL_mono hE2' (VL_bel q3) q3;have h5:=VL_set j hvl hx
    have h6:c.toList.set j (.slice a ([]:List AV).length 0)=c.toList:=by
     apply List.ext_getElem?;intro m
     by_cases hm:j=m
     ·subst hm; rw [List.getElem?_set_self (lt_of_get hv1),hv1]
     ·rw [List.getElem?_set_ne hm]
    rwa [h6] at h5)
  rwa [upd_self] at this
 ·rw [upd_self] at hE2;exact hE1.trans (hE2.mono (by simp))
theorem VE_nilset {g:G} {h:List Ob} {r:Nat} (hr:∀ a,V g h (.sl r 0 0) (.slice a 0 0)):∀ {es:List AV} {vs:List Value} {j k0:Nat},VE g h es vs→es[j]? = some (.list true k0 [])→VE g h (es.set j (.sl r 0 0)) vs
 | [],_,_,_,_,hj=>by simp at hj
 | e::es,vs,0,k0,hv,hj=>by
  simp only [List.getElem?_cons_zero,Option.some.injEq] at hj;subst hj;simp only [VE] at hv;obtain ⟨v,vs',h1,rfl,h2⟩:=hv;simp only [V] at h1;obtain ⟨_,a,cap,rfl,hcap,_,_⟩:=h1
  have hcap0:cap=0:=by simpa using hcap trivial
  subst hcap0;simp only [List.set_cons_zero,VE];exact ⟨_,vs',hr a,rfl,h2⟩
 | e::es,vs,j+1,k0,hv,hj=>by
  simp only [List.getElem?_cons_succ] at hj;simp only [VE] at hv;obtain ⟨v,vs',h1,rfl,h2⟩:=hv;simp only [List.set_cons_succ,VE];exact ⟨v,vs',h1,rfl,VE_nilset hr h2 hj⟩
theorem Inv.nilelem (H:Inv P Γ N g h w) {i j k k0:Nat} (E:TypeId) {E0:TypeId} {es:List AV} {fl sh:Bool} (hi:h[i]? = some (.row 1 E0 es none fl sh)) (hj:es[j]? = some (.list true k0 [])) (hk:0<k) :
  ∃ g',Inv P Γ N g' ((h++[Ob.row k E [] none true false]).set i (.row 1 E0 (es.set j (.sl h.length 0 0)) none false sh)) w∧Ext h.length g h g' ((h++[Ob.row k E [] none true false]).set i (.row 1 E0 (es.set j (.sl h.length 0 0)) none false sh)):=by
 have hE1:=Ext.push (g:=g) (h:=h) [Ob.row k E [] none true false] none
 have H1:Inv P Γ N (g.upd h.length none) (h++[Ob.row k E [] none true false]) w:=by
  refine Inv.push (r:=none) H rfl rfl rfl (fun _ _=>rfl) (Nat.le_refl _) (fun b x hb=>by cases hb) ?_ (fun j o hj=>by simp at hj);simp only [OV];rw [upd_same];exact ⟨hk,by simp,fun _=>rfl,by simp,trivial⟩
 have hi1:(h++[Ob.row k E [] none true false])[i]? = some (.row 1 E0 es none fl sh):=by rw [List.getElem?_append_left (lt_of_get hi)]; exact hi
 have hlen:(es.set j (.sl h.length 0 0)).length=es.length:=by simp
 have hE2:Ext (h++[Ob.row k E [] none true false]).length (g.upd h.length none) (h++[Ob.row k E [] none true false]) (g.upd h.length none) ((h++[Ob.row k E [] none true false]).set i (.row 1 E0 (es.set j (.sl h.length 0 0)) none false sh)):=by
  have:=Ext.set_row (E':=E0) (es':=es.set j (.sl h.length 0 0)) (gr':=none) (fl':=false) (sh':=sh) (ρ':=(g.upd h.length none).ρ i) hi1 (by omega) (fun off m hom hok=>⟨by rw [← okSl_len hlen]; exact hok,hlen,fun _ x=>x⟩);rwa [upd_self] at this
 have hil1:=lt_of_get hi1
 have hni:h.length≠i:=by have:=lt_of_get hi; omega
 refine ⟨g.upd h.length none,?_,hE1.trans (hE2.mono (by simp))⟩
 have:=Inv.set (r:=(g.upd h.length none).ρ i) (w':=w) (o':=.row 1 E0 (es.set j (.sl h.length 0 0)) none false sh) H1 hil1 (by rw [upd_self]; exact hE2) rfl rfl rfl (fun _ _ _=>rfl) (Nat.le_refl _)
   (fun b y hy=>⟨Or.inl ⟨y,hy⟩,(H1.own i b y hy).2⟩)
   (fun b y o v _ hv=>H1.mem b o v hv)
   (by
    intro b sz st o v hy hv';obtain ⟨k2,E2,es2,gr2,fl2,h2,h3⟩:=H1.mown i b sz st o v hy hv';rw [hi1] at h2;simp only [Option.some.injEq,Ob.row.injEq] at h2;obtain ⟨rfl,rfl,rfl,rfl,rfl,rfl⟩:=h2
    exact ⟨_,_,_,_,_,rfl,by rw [hlen]; exact h3⟩)
   (by
    rw [upd_self];have hob:=H1.ob i _ hi1;simp only [OV] at hob ⊢;obtain ⟨_,hK,_,hgl,hb⟩:=hob;refine ⟨by omega,?_,by simp,by simp,?_⟩
    ·intro e he
     rcases List.mem_or_eq_of_mem_set he with he | rfl
     ·exact hK e he
     ·exact ⟨rfl,rfl⟩
    ·cases hρ:(g.upd h.length none).ρ i with
     | none =>
      rw [hρ] at hb;simp only at hb;subst hb;simp at hj
     | some y =>
      obtain ⟨b,sz,st⟩:=y;rw [hρ] at hb;simp only at hb ⊢;obtain ⟨q1,c,Ty,fz,vs,q2,q3,q4,hVE,q5⟩:=hb;refine ⟨q1,c,Ty,fz,vs,q2,q3,q4,?_,q5⟩;simp only [Option.getD_none,List.drop_zero] at hVE ⊢
      have hx:∀ a,V (g.upd h.length none) ((h++[Ob.row k E [] none true false]).set i (.row 1 E0 (es.set j (.sl h.length 0 0)) none false sh)) (.sl h.length 0 0) (.slice a ([]:List AV).length 0):=by
       intro a;simp only [V];refine ⟨k,E,[],none,true,false,?_,by simp,a,0,rfl,by simp,by simp,fun _=>⟨by simp,Or.inl ⟨rfl,rfl⟩⟩⟩;rw [List.getElem?_set_ne (Ne.symm hni)];simp
      exact VE_nilset hx (VE_mono hE2 (VE_bel hVE) hVE) hj)
 rwa [upd_self] at this
def trA (h:List Ob) (a:AV):AV:=(view h a).getD a
theorem V_trA (H:Inv P Γ N g h w) {g':G} {h':List Ob} (x:Ext h.length g h g' h') {a:AV} {u:Value} (hc:∀ i∈rowsOf a,Cov g' h w g i) (hv:V g h a u):V g' h' (trA h a) u:=by
 unfold trA
 cases hw:view h a with
 | none=>exact V_mono x (V_bel hv) hv
 | some a'=>exact V_view H x hc hv hw
theorem share_cells {i:Nat} {cs:List AV}:∀ (is:List Nat) (h:List Ob),h[i]? = some (.cells cs)→(share is h)[i]? = some (.cells cs)
 | [],h,hi=>hi
 | j :: is, h, hi => share_cells is _ (by
     rw [List.getElem?_modify,hi]
     by_cases hj:j=i <;> simp [hj,shareOne])
theorem Inv.treeC (H:Inv P Γ N g h w) {i:Nat} (j:Nat) {cs:List AV} (hi:h[i]? = some (.cells cs)) :
  ∃ g',Inv P Γ N g' ((share (rowsOf (cs.getD j .undef)) h).set i (.cells (cs.set j (trA h (cs.getD j .undef))))) w∧Ext h.length g h g' ((share (rowsOf (cs.getD j .undef)) h).set i (.cells (cs.set j (trA h (cs.getD j .undef))))):=by
 obtain ⟨g1,hρ1,hMM1,hM1,H1,hE1,hC1⟩:=share_sound (rowsOf (cs.getD j .undef)) H;have hi1:=share_cells (rowsOf (cs.getD j .undef)) h hi;have hE2:=Ext.set_cells (g:=g1) (vs':=cs.set j (trA h (cs.getD j .undef))) hi1;have hil1:=lt_of_get hi1;refine ⟨g1,?_,?_⟩
 ·have:=Inv.set (r:=g1.ρ i) (w':=w) (o':=.cells (cs.set j (trA h (cs.getD j .undef)))) H1 hil1 hE2 rfl rfl rfl (fun _ _ _=>rfl) (Nat.le_refl _)
   (fun b y hy=>⟨Or.inl ⟨y,hy⟩,(H1.own i b y hy).2⟩)
   (fun b y o v _ hv=>H1.mem b o v hv)
   (by
    intro b sz st o v hy hv';obtain ⟨k2,E2,es2,gr2,fl2,h2,h3⟩:=H1.mown i b sz st o v hy hv';rw [hi1] at h2
    cases h2)
   (by
    rw [upd_self];simp only [OV];intro b sz st hb;have hob:=H.ob i _ hi;simp only [OV] at hob;rw [hρ1] at hb;obtain ⟨c,Ty,fz,q1,q2,q3⟩:=hob b sz st hb;refine ⟨c,Ty,fz,q1,q2,?_⟩;have hE2':=hE2;rw [upd_self,share_length] at hE2';have hE3:=hE1.trans hE2';have hx:=V_trA H hE3 hC1 (VL_get j q3);have h5:=VL_set j (VL_mono hE3 (VL_bel q3) q3) hx
    have h6:c.toList.set j (c.toList.getD j undef)=c.toList:=by
     apply List.ext_getElem?;intro m
     by_cases hm:j=m
     ·subst hm;rw [List.getElem?_set]
      by_cases hl:j<c.toList.length
      ·rw [if_pos rfl,if_pos hl,List.getD_eq_getElem?_getD,List.getElem?_eq_getElem hl]; rfl
      ·rw [if_pos rfl,if_neg hl,List.getElem?_eq_none (by omega)]
     ·rw [List.getElem?_set_ne hm]
    rwa [h6] at h5)
  rwa [upd_self] at this
 ·rw [upd_self,share_length] at hE2;exact hE1.trans hE2
theorem cop_lit {o:Oper} {k:Nat} {zs:List AV} {ps:List (Nat×AX)} (hc:cop P o=some (.lit k zs ps)) :
  ∃ ty n parts e z,o.op=.buildSlice ty n parts∧P.underlying ty=some (.slice e)∧tSize P e=some k∧0<k∧tZero P e=some z∧zOk k z=true∧n*k≤2^24∧zs=List.replicate n z∧ps=parts.toList.map fun q=>(q.1,cax q.2):=by
 cases ho:o.op with
 | buildSlice ty n parts =>
  simp only [cop,ho] at hc
  cases hE:tElem P ty with
  | none=>simp [hE] at hc
  | some e =>
  cases hk:tSize P e with
  | none=>simp [hE,hk] at hc
  | some k2 =>
  cases hz:tZero P e with
  | none=>simp [hE,hk,hz] at hc
  | some z =>
  simp only [hE,hk,hz,Option.bind_eq_bind,Option.bind_some] at hc
  split at hc
  ·cases hc
  ·rename_i hcond;simp only [Option.some.injEq,AO.lit.injEq] at hc;obtain ⟨rfl,rfl,rfl⟩:=hc;simp only [not_or] at hcond;obtain ⟨c1,c2,c3⟩:=hcond;refine ⟨ty,n,parts,e,z,rfl,?_,hk,by omega,hz,by simpa using c3,by omega,rfl,rfl⟩;unfold tElem at hE
   split at hE <;> simp_all
 | call c =>
  exfalso;simp only [cop,ho,ccall] at hc
  (repeat' split at hc) <;> first | (cases hc; done) | (simp [Option.bind_eq_some_iff] at hc; done) | (simp only [Option.bind_eq_bind,Option.bind_eq_some_iff,Option.map_eq_some_iff] at hc; obtain ⟨_,_,h1⟩:=hc; revert h1; simp; done) | (simp only [Option.bind_eq_bind,Option.bind_eq_some_iff] at hc; obtain ⟨_,_,_,_,_,_,_,_,h1⟩:=hc; revert h1; split <;> (try split) <;> simp; done) | skip
 | _=>exfalso; simp only [cop,ho] at hc; (repeat' split at hc) <;> first | contradiction | (cases hc; done) | (simp [Option.bind_eq_some_iff] at hc; done) | skip
theorem op_litRow (H:Inv P Γ N g h w) {r:Operand→Value} {t:List AV} {o:Oper} {ty e:TypeId} {n:Nat} {ps:Array (Nat×Operand)} (ho:o.op=.buildSlice ty n ps) (hu:P.underlying ty=some (.slice e)) {k:Nat} (hk:tSize P e=some k) (hk0:0<k)
  {z:AV} (hz:tZero P e=some z) (hzo:zOk k z=true) (hnk:n*k≤2^24) (he:∀ x,V g h (ax t (cax x)) (r x))
  {es:List AV} (hf:fillE k (List.replicate n z) ((ps.toList.map fun q=>(q.1,cax q.2)).map fun q=>(q.1,ax t q.2))=some es) {fl:Bool} (hfl:fl=true→okList es k=true) (E:TypeId) :
  OpR P Γ N r o w g h (h++[.row k E es none fl false]) (some (.sl h.length 0 es.length)):=by
 obtain ⟨zv,hzr,rfl⟩:=run_zero' hz;simp only [zOk,Bool.and_eq_true,decide_eq_true_eq] at hzo;obtain ⟨⟨hzk,hz1⟩,hzb⟩:=hzo;have hzk':=ofVal_size hzk
 have hF:F2 (fun (p:Nat×AV) (q:Nat×Value)=>p.1=q.1∧V g h p.2 q.2) ((ps.toList.map fun q=>(q.1,cax q.2)).map fun q=>(q.1,ax t q.2)) (ps.map fun q=>(q.1,r q.2)).toList:=by
  rw [Array.toList_map,List.map_map];generalize ps.toList=l
  induction l with
  | nil=>exact .nil
  | cons q l ih=>exact .cons ⟨rfl,he q.2⟩ ih
 have hVE0:=VE_replicate (V_ofVal g h zv) n;have hzl:=zeros_list hzk' n
 let zs:Array Value:=(Array.range (n*k)).map fun i=>(if n*k=0 then #[] else zv.cells)[i % (if n*k=0 then #[] else zv.cells).size]!
 have hzs:zs.toList=(List.replicate n zv.cells.toList).flatten:=by
  simp only [zs]
  by_cases hnk0:n*k=0
  ·have:n=0:=by
    rcases Nat.mul_eq_zero.1 hnk0 with h1 | h1
    ·exact h1
    ·omega
   simp [this]
  ·simp only [hnk0,if_false,hzk'];exact hzl
 obtain ⟨us,h1,h2,h3,h4⟩:=fillE_sound (zs:=zs) hF hf (okList_allK (okList_replicate hzk hz1 hzb n)) (by rw [hzs]; exact hVE0)
 have hlen:es.length=n:=by rw [h4,List.length_replicate]
 have husl:us.toList.length=n*k:=by rw [VE_length h3 h2,hlen]
 have hrun:(Instr.buildSlice ty n (ps.map fun q=>(q.1,r q.2))).run P w=.ok (.slice (some ⟨w.heap.size,0,none⟩) n n) (w.alloc (.cells (us.toList++[]).toArray e)):=by
  have hus:(us.toList++[]).toArray=us:=by simp
  rw [hus];simp only [Instr.buildSlice,Sem.run_bind,run_underlying hu,Result.andThen_ok,run_size hk];rw [if_neg (by omega)]
  by_cases hnk0:n*k=0
  ·have hzs0:zs=(Array.range (n*k)).map fun i=>(#[]:Array Value)[i % (#[]:Array Value).size]! := by simp only [zs,hnk0,if_true]
   rw [hzs0] at h1;rw [if_pos hnk0];simp only [Sem.run_bind,Sem.run_pure,Result.andThen_ok];rw [h1];simp [newRow]
  ·have hzs0:zs=(Array.range (n*k)).map fun i=>zv.cells[i % zv.cells.size]! := by simp only [zs,hnk0,if_false]
   rw [hzs0] at h1;rw [if_neg hnk0];simp only [Sem.run_bind,hzr,Sem.run_pure,Result.andThen_ok];rw [h1];simp [newRow]
 refine OpR.make (w':=w) H rfl rfl rfl rfl (sz:=n*k) (by simp only [execOp,ho]; rw [Sem.run_bind,hrun]; rfl) ?_ (by simp) ?_
 ·exact new_row (P:=P) hk0 h3 hfl (upd_same _ _ _) (heap_new w _) (by simpa using husl.symm) (free_nil _) (VE_mono (Ext.push _ _) (VE_bel h2) h2)
 ·have:=new_row_V (h:=h) (g':=g.upd h.length (some (w.heap.size,n*k,0))) (k:=k) (E:=E) (es:=es) (os:=[]) (fl:=fl) (sh:=false) (upd_same _ _ _) (cap:=n) (by omega) (Nat.le_refl _);rw [hlen] at this ⊢;exact this
end
def rnN (n:Nat) (τ:List Nat) (i:Nat):Nat:=if i<n then i else n+τ.idxOf (i - n)
def okN (n:Nat) (τ:List Nat) (i:Nat):Bool:=decide (i<n)||τ.contains (i - n)
mutual
def rnA (n:Nat) (τ:List Nat):AV→AV
 | .sl i off m=>.sl (rnN n τ i) off m
 | .ptr i off=>.ptr (rnN n τ i) off
 | .mp i=>.mp (rnN n τ i)
 | .it i=>.it (rnN n τ i)
 | .yld i=>.yld (rnN n τ i)
 | .eptr a k ix off=>.eptr (rnA n τ a) k ix off
 | .agg cs=>.agg (rnL n τ cs)
 | .tup cs=>.tup (rnL n τ cs)
 | .fn f a b=>.fn f (rnL n τ a) (rnL n τ b)
 | .ifc t v=>.ifc t (rnA n τ v)
 | .kmp ks vs=>.kmp (rnL n τ ks) (rnL n τ vs)
 | .list f k es=>.list f k es
 | .own k E es=>.own k E es
 | .undef=>.undef
 | .bool b=>.bool b
 | .int k x=>.int k x
 | .str s=>.str s
 | .nilp=>.nilp
 | .nilm=>.nilm
 | .nilf=>.nilf
 | .nili=>.nili
 | .gptr g off=>.gptr g off
def rnL (n:Nat) (τ:List Nat):List AV→List AV
 | []=>[]
 | a::as=>rnA n τ a::rnL n τ as
end
mutual
def okA (n:Nat) (τ:List Nat):AV→Bool
 | .sl i _ _ | .ptr i _ | .mp i | .it i | .yld i=>okN n τ i
 | .eptr a _ _ _=>okA n τ a
 | .agg cs | .tup cs=>okL n τ cs
 | .fn _ a b=>okL n τ a&&okL n τ b
 | .ifc _ v=>okA n τ v
 | .kmp ks vs=>okL n τ ks&&okL n τ vs
 | _=>true
def okL (n:Nat) (τ:List Nat):List AV→Bool
 | []=>true
 | a::as=>okA n τ a&&okL n τ as
end
def rnM (n:Nat) (τ:List Nat):List (AV×AV)→List (AV×AV)
 | []=>[]
 | (a,b)::r=>(rnA n τ a,rnA n τ b)::rnM n τ r
def okM (n:Nat) (τ:List Nat):List (AV×AV)→Bool
 | []=>true
 | (a,b)::r=>okA n τ a&&okA n τ b&&okM n τ r
def rnO (n:Nat) (τ:List Nat):Ob→Ob
 | .cells cs=>.cells (rnL n τ cs)
 | .row k E es g fl sh=>.row k E (if fl=true then es else rnL n τ es) g fl sh
 | .map es fl=>.map (rnM n τ es) fl
 | .loop st j fn t ps a b=>.loop st j fn (rnL n τ t) ps a b
 | o=>o
def okO (n:Nat) (τ:List Nat):Ob→Bool
 | .cells cs=>okL n τ cs
 | .row _ _ es _ fl _=>fl||okL n τ es
 | .map es _=>okM n τ es
 | .loop _ _ _ t _ _ _=>okL n τ t
 | _=>true
def okH (n:Nat) (τ:List Nat):List Ob→Bool
 | []=>true
 | o::os=>okO n τ o&&okH n τ os
def okP (n:Nat) (τ:List Nat):List Ob→Bool
 | []=>true
 | .loop _ _ _ t _ _ _::os=>belL n t&&okP n τ os
 | o::os=>okO n τ o&&okP n τ os
def rnH (n:Nat) (τ:List Nat):List Ob→List Ob
 | []=>[]
 | o::os=>rnO n τ o::rnH n τ os
def pickH (h:List Ob) (n:Nat):List Nat→List Ob
 | []=>[]
 | j::js=>h.getD (n+j) .gone::pickH h n js
def gcH (n:Nat) (τ:List Nat) (h:List Ob):List Ob:=rnH n τ (h.take n++pickH h n τ)
mutual
theorem rnA_bel {n:Nat} {τ:List Nat}:∀ {a:AV},bel n a=true→rnA n τ a=a
 | .undef,_ | .bool _,_ | .int _ _,_ | .str _,_ | .nilp,_ | .nilm,_ | .nilf,_ | .nili,_ | .gptr _ _,_ | .list _ _ _,_ | .own _ _ _,_=>rfl
 | .kmp ks us,hb=>by simp only [bel,Bool.and_eq_true] at hb; simp only [rnA,rnL_bel hb.1,rnL_bel hb.2]
 | .sl i _ _,hb | .ptr i _,hb | .mp i,hb | .it i,hb | .yld i,hb=>by simp only [bel,decide_eq_true_eq] at hb; simp only [rnA,rnN,hb,if_true]
 | .eptr a _ _ _,hb=>by simp only [bel] at hb; simp only [rnA,rnA_bel hb]
 | .agg cs,hb | .tup cs,hb=>by simp only [bel] at hb; simp only [rnA,rnL_bel hb]
 | .fn f a b,hb=>by simp only [bel,Bool.and_eq_true] at hb; simp only [rnA,rnL_bel hb.1,rnL_bel hb.2]
 | .ifc t v,hb=>by simp only [bel] at hb; simp only [rnA,rnA_bel hb]
theorem rnL_bel {n:Nat} {τ:List Nat}:∀ {as:List AV},belL n as=true→rnL n τ as=as
 | [],_=>rfl
 | a::as,hb=>by simp only [belL,Bool.and_eq_true] at hb; simp only [rnL,rnA_bel hb.1,rnL_bel hb.2]
end
mutual
theorem okA_bel {n:Nat} {τ:List Nat}:∀ {a:AV},bel n a=true→okA n τ a=true
 | .undef,_ | .bool _,_ | .int _ _,_ | .str _,_ | .nilp,_ | .nilm,_ | .nilf,_ | .nili,_ | .gptr _ _,_ | .list _ _ _,_ | .own _ _ _,_=>rfl
 | .kmp _ _,hb=>by simp only [bel,Bool.and_eq_true] at hb; simp only [okA,okL_bel hb.1,okL_bel hb.2,Bool.and_self]
 | .sl i _ _,hb | .ptr i _,hb | .mp i,hb | .it i,hb | .yld i,hb=>by simp only [bel] at hb; simp only [okA,okN,hb,Bool.true_or]
 | .eptr a _ _ _,hb=>by simp only [bel] at hb; simp only [okA,okA_bel hb]
 | .agg cs,hb | .tup cs,hb=>by simp only [bel] at hb; simp only [okA,okL_bel hb]
 | .fn f a b,hb=>by simp only [bel,Bool.and_eq_true] at hb; simp only [okA,okL_bel hb.1,okL_bel hb.2,Bool.and_self]
 | .ifc t v,hb=>by simp only [bel] at hb; simp only [okA,okA_bel hb]
theorem okL_bel {n:Nat} {τ:List Nat}:∀ {as:List AV},belL n as=true→okL n τ as=true
 | [],_=>rfl
 | a::as,hb=>by simp only [belL,Bool.and_eq_true] at hb; simp only [okL,okA_bel hb.1,okL_bel hb.2,Bool.and_self]
end
section
variable {P : Program} {Γ : Nat → Option AV} {N : Env} {g g' : G} {h h' : List Ob} {w : World} {n : Nat} {τ : List Nat}
theorem rnL_len:∀ (as:List AV),(rnL n τ as).length=as.length
 | []=>rfl
 | a::as=>by simp [rnL,rnL_len as]
theorem rnL_get:∀ (as:List AV) (i:Nat),(rnL n τ as)[i]? = (as[i]?).map (rnA n τ)
 | [],i=>by simp [rnL]
 | a::as,0=>by simp [rnL]
 | a::as,i+1=>by simp [rnL,rnL_get as i]
theorem rnL_drop:∀ (as:List AV) (i:Nat),(rnL n τ as).drop i=rnL n τ (as.drop i)
 | [],i=>by simp [rnL]
 | a::as,0=>by simp
 | a::as,i+1=>by simp [rnL,rnL_drop as i]
theorem rnA_cells (a:AV):(rnA n τ a).cells=rnL n τ a.cells:=by
 cases a <;> simp [rnA,AV.cells,rnL]
theorem rnA_one (a:AV):(rnA n τ a).one=a.one:=by cases a <;> rfl
theorem rnL_one:∀ (as:List AV),allOne (rnL n τ as)=allOne as
 | []=>rfl
 | a::as=>by simp [rnL,allOne,rnA_one,rnL_one as]
theorem rnM_fst:∀ (es:List (AV×AV)),(rnM n τ es).map (·.1)=rnL n τ (es.map (·.1))
 | []=>rfl
 | (a,b)::es=>by simp [rnM,rnL,rnM_fst es]
theorem rnM_snd:∀ (es:List (AV×AV)),(rnM n τ es).map (·.2)=rnL n τ (es.map (·.2))
 | []=>rfl
 | (a,b)::es=>by simp [rnM,rnL,rnM_snd es]
theorem okM_spec:∀ {es:List (AV×AV)},okM n τ es=true→okL n τ (es.map (·.1))=true∧okL n τ (es.map (·.2))=true
 | [],_=>⟨rfl,rfl⟩
 | (a,b)::es,hb=>by
  simp only [okM,Bool.and_eq_true] at hb;obtain ⟨h1,h2⟩:=okM_spec hb.2;simp only [List.map_cons,okL,Bool.and_eq_true];exact ⟨⟨hb.1.1,h1⟩,⟨hb.1.2,h2⟩⟩
theorem okL_drop:∀ {as:List AV} (i:Nat),okL n τ as=true→okL n τ (as.drop i)=true
 | [],_,_=>by simp [okL]
 | a::as,0,h=>by simpa using h
 | a::as,i+1,h=>by
  simp only [okL,Bool.and_eq_true] at h;simpa using okL_drop i h.2
structure Rn (n:Nat) (τ:List Nat) (g:G) (h:List Ob) (g':G) (h':List Ob):Prop where
 M:g'.M=g.M
 MM:g'.MM=g.MM
 get:∀ i o,h[i]? = some o→okN n τ i=true→h'[rnN n τ i]? = some (rnO n τ o)
 rho:∀ i,i<h.length→okN n τ i=true→g'.ρ (rnN n τ i)=g.ρ i
theorem Rn.zero (x:Rn n τ g h g' h'):Ext 0 g h g' h':=Ext.zero (fun _ _ _ y=>by rw [x.M]; exact y) (fun _ _ y=>by rw [x.MM]; exact y)
mutual
theorem V_rn (x:Rn n τ g h g' h'):∀ {a:AV} {v:Value},okA n τ a=true→V g h a v→V g' h' (rnA n τ a) v
 | .undef,_,_,_=>by simp [rnA,V]
 | .bool _,_,_,hv | .int _ _,_,_,hv | .str _,_,_,hv | .nilp,_,_,hv | .nilm,_,_,hv | .nilf,_,_,hv | .nili,_,_,hv | .gptr _ _,_,_,hv=>by simpa only [rnA,V] using hv
 | .own _ _ _,_,_,hv=>by simp only [V] at hv
 | .list full k es,v,_,hv=>by
  have h0:bel 0 (.list full k es)=true:=by
   simp only [V] at hv;simp only [bel];exact okList_bel hv.1
  simp only [rnA];exact V_mono x.zero h0 hv
 | .kmp ks us,v,hb,hv=>by
  simp only [okA,Bool.and_eq_true] at hb;simp only [rnA,V] at hv ⊢;obtain ⟨b,es,ck,h1,h2,h3,h4⟩:=hv;exact ⟨b,es,ck,h1,by rw [x.MM]; exact h2,VL_rn x hb.1 h3,VL_rn x hb.2 h4⟩
 | .sl j off m,v,hb,hv=>by
  simp only [okA] at hb;simp only [rnA,V] at hv ⊢;obtain ⟨k',E',es',gr',fl',sh',h1,h2,a,cap,h3,h4,h5,h6⟩:=hv
  have hlen:(if fl'=true then es' else rnL n τ es').length=es'.length:=by split <;> simp [rnL_len]
  refine ⟨k',E',_,gr',fl',sh',x.get _ _ h1 hb,by rw [hlen]; exact h2,a,cap,h3,h4,h5,fun hok => ?_⟩;obtain ⟨h7,h8⟩:=h6 (by unfold okSl at hok ⊢; rwa [hlen] at hok);rw [hlen];refine ⟨h7,h8.imp id fun h9 => ?_⟩;rw [x.rho j (lt_of_get h1) hb];exact h9
 | .eptr a _ _ _,v,hb,hv=>by
  simp only [okA] at hb;simp only [rnA,V] at hv ⊢;obtain ⟨u,b,o,h1,h2,⟨m,h4,h5⟩,rfl⟩:=hv;refine ⟨u,b,o,V_rn x hb h1,h2,⟨m,?_,h5⟩,rfl⟩
  cases a <;> simp only [slen,rnA] at h4 ⊢ <;> first | exact h4 | cases h4
 | .ptr j off,v,hb,hv=>by
  simp only [okA] at hb;simp only [rnA,V] at hv ⊢;obtain ⟨⟨vs,hj⟩,h2⟩:=hv;exact ⟨⟨_,x.get _ _ hj hb⟩,by rw [x.rho j (lt_of_get hj) hb]; exact h2⟩
 | .mp j,v,hb,hv=>by
  simp only [okA] at hb;simp only [rnA,V] at hv ⊢;obtain ⟨⟨es,fl,hj⟩,h2⟩:=hv;exact ⟨⟨_,_,x.get _ _ hj hb⟩,by rw [x.rho j (lt_of_get hj) hb]; exact h2⟩
 | .it j,v,hb,hv=>by
  simp only [okA] at hb;simp only [rnA,V] at hv ⊢;obtain ⟨⟨es,fl,hj⟩,h2⟩:=hv;exact ⟨⟨_,_,x.get _ _ hj hb⟩,by rw [x.rho j (lt_of_get hj) hb]; exact h2⟩
 | .yld j,v,hb,hv=>by
  simp only [okA] at hb;simp only [rnA,V] at hv ⊢;obtain ⟨⟨x1,x2,x3,x4,x5,x6,x7,hj⟩,h2⟩:=hv;exact ⟨⟨_,_,_,_,_,_,_,x.get _ _ hj hb⟩,by rw [x.rho j (lt_of_get hj) hb]; exact h2⟩
 | .agg cs,v,hb,hv=>by
  simp only [okA] at hb;simp only [rnA,V] at hv ⊢;obtain ⟨vs,rfl,h1⟩:=hv;exact ⟨vs,rfl,VL_rn x hb h1⟩
 | .tup cs,v,hb,hv=>by
  simp only [okA] at hb;simp only [rnA,V] at hv ⊢;obtain ⟨vs,rfl,h1⟩:=hv;exact ⟨vs,rfl,VL_rn x hb h1⟩
 | .fn f a b,v,hb,hv=>by
  simp only [okA,Bool.and_eq_true] at hb;simp only [rnA,V] at hv ⊢;obtain ⟨xs,ys,rfl,h1,h2⟩:=hv;exact ⟨xs,ys,rfl,VL_rn x hb.1 h1,VL_rn x hb.2 h2⟩
 | .ifc t a,v,hb,hv=>by
  simp only [okA] at hb;simp only [rnA,V] at hv ⊢;obtain ⟨y,rfl,h1⟩:=hv;exact ⟨y,rfl,V_rn x hb h1⟩
theorem VL_rn (x:Rn n τ g h g' h'):∀ {as:List AV} {vs:List Value},okL n τ as=true→VL g h as vs→VL g' h' (rnL n τ as) vs
 | [],_,_,hv=>by simpa only [rnL,VL] using hv
 | a::as,_,hb,hv=>by
  simp only [rnL,VL] at hv ⊢;simp only [okL,Bool.and_eq_true] at hb;obtain ⟨v,vs',rfl,h1,h2⟩:=hv;exact ⟨v,vs',rfl,V_rn x hb.1 h1,VL_rn x hb.2 h2⟩
end
theorem VE_rn (x:Rn n τ g h g' h'):∀ {as:List AV} {vs:List Value},okL n τ as=true→VE g h as vs→VE g' h' (rnL n τ as) vs
 | [],_,_,hv=>by simpa only [rnL,VE] using hv
 | a::as,_,hb,hv=>by
  simp only [rnL,VE] at hv ⊢;simp only [okL,Bool.and_eq_true] at hb;obtain ⟨v,vs',h1,rfl,h2⟩:=hv;exact ⟨v,vs',V_rn x hb.1 h1,rfl,VE_rn x hb.2 h2⟩
theorem OV_rn (x:Rn n τ g h g' h') {i j:Nat} {o:Ob} (hρ:g'.ρ j=g.ρ i) (hb:okO n τ o=true) (ho:OV P g h w i o):OV P g' h' w j (rnO n τ o):=by
 cases o with
 | gone=>trivial
 | cells vs =>
  intro b sz st hb';rw [hρ] at hb';obtain ⟨c,E,fz,h1,h2,h3⟩:=ho b sz st hb';exact ⟨c,E,fz,h1,h2,VL_rn x (by simpa only [okO] using hb) h3⟩
 | row k E es gr fl sh =>
  simp only [OV,rnO] at ho ⊢;obtain ⟨h1,h2,h3,h4,h5⟩:=ho
  cases fl with
  | true =>
   simp only [if_true];refine ⟨h1,h2,fun _=>h3 rfl,h4,?_⟩;rw [hρ]
   cases hr:g.ρ i with
   | none=>rw [hr] at h5; exact h5
   | some y =>
    obtain ⟨b,sz,st⟩:=y;rw [hr] at h5;simp only at h5 ⊢;obtain ⟨h6,c,E',fz,vs,h7,h8,h9,h10,h11⟩:=h5;exact ⟨h6,c,E',fz,vs,h7,h8,h9,VE_mono x.zero (belL_drop _ (okList_bel (h3 rfl))) h10,h11⟩
  | false =>
   simp only [okO,Bool.false_or] at hb;simp only [Bool.false_eq_true,if_false];refine ⟨h1,?_,fun hf=>(by cases hf),by rw [rnL_len]; exact h4,?_⟩
   ·intro e he;obtain ⟨q,hq⟩:=List.mem_iff_getElem?.1 he;rw [rnL_get,Option.map_eq_some_iff] at hq;obtain ⟨a,ha,rfl⟩:=hq;have:=h2 a (List.mem_of_getElem? ha);rw [rnA_cells,rnL_len,rnL_one];exact this
   ·rw [hρ]
    cases hr:g.ρ i with
    | none =>
     rw [hr] at h5;simp only at h5 ⊢;subst h5;rfl
    | some y =>
     obtain ⟨b,sz,st⟩:=y;rw [hr] at h5;simp only at h5 ⊢;obtain ⟨h6,c,E',fz,vs,h7,h8,h9,h10,h11⟩:=h5;exact ⟨h6,c,E',fz,vs,h7,h8,h9,by rw [rnL_drop]; exact VE_rn x (okL_drop _ hb) h10,h11⟩
 | map es fl =>
  simp only [okO] at hb;obtain ⟨q1,q2⟩:=okM_spec hb;obtain ⟨h1,h3⟩:=ho;refine ⟨fun hf => ?_,fun b sz st hb' => ?_⟩
  ·rw [rnM_snd,rnL_bel (belL_mono (Nat.zero_le n) (h1 hf))]; exact h1 hf
  ·rw [hρ] at hb';obtain ⟨ents,ck,h4,h5,h6⟩:=h3 b sz st hb';exact ⟨ents,ck,h4,by rw [rnM_fst]; exact VL_rn x q1 h5,by rw [rnM_snd]; exact VL_rn x q2 h6⟩
 | siter s p =>
  intro b sz st hb';rw [hρ] at hb';exact ho b sz st hb'
 | loop st q fn t ps a b =>
  intro bk sz sta hb';rw [hρ] at hb';obtain ⟨L,h1,h2,h3,h4,h5,h6⟩:=ho bk sz sta hb';exact ⟨L,h1,h2,h3,h4,VL_rn x (by simpa only [okO] using hb) h5,h6⟩
 | dfr live =>
  intro b sz st hb';rw [hρ] at hb';exact ho b sz st hb'
theorem rnH_get:∀ {h:List Ob} {i:Nat},(rnH n τ h)[i]? = (h[i]?).map (rnO n τ)
 | [],i=>by simp [rnH]
 | o::os,0=>by simp [rnH]
 | o::os,i+1=>by simp [rnH,rnH_get (h:=os)]
theorem pickH_get:∀ {τ:List Nat} {i:Nat},(pickH h n τ)[i]? = (τ[i]?).map fun j=>h.getD (n+j) .gone
 | [],i=>by simp [pickH]
 | j::js,0=>by simp [pickH]
 | j::js,i+1=>by simp [pickH,pickH_get (τ:=js)]
theorem rnH_len:∀ {h:List Ob},(rnH n τ h).length=h.length
 | []=>rfl
 | o::os=>by simp [rnH,rnH_len (h:=os)]
theorem pickH_len:∀ {τ:List Nat},(pickH h n τ).length=τ.length
 | []=>rfl
 | j::js=>by simp [pickH,pickH_len (τ:=js)]
theorem okH_get:∀ {h:List Ob} {i:Nat} {o:Ob},okH n τ h=true→h[i]? = some o→okO n τ o=true
 | [],_,_,_,hi=>by simp at hi
 | a::h,0,o,hb,hi=>by
  simp only [okH,Bool.and_eq_true] at hb
  simp at hi; subst hi; exact hb.1
 | a::h,i+1,o,hb,hi=>by
  simp only [okH,Bool.and_eq_true] at hb;exact okH_get hb.2 (by simpa using hi)
theorem okP_get:∀ {h:List Ob} {i:Nat} {o:Ob},okP n τ h=true→h[i]? = some o→okO n τ o=true∧∀ st j fn t ps a b,o=.loop st j fn t ps a b→belL n t=true
 | [],_,_,_,hi=>by simp at hi
 | a::h,0,o,hb,hi=>by
  simp at hi;subst hi
  cases a <;> simp only [okP,Bool.and_eq_true] at hb <;> first
   | exact ⟨hb.1,fun _ _ _ _ _ _ _ e=>by cases e⟩
   | exact ⟨by simp only [okO]; exact okL_bel hb.1,fun _ _ _ _ _ _ _ e=>by cases e; exact hb.1⟩
 | a::h,i+1,o,hb,hi=>by
  have h2:okP n τ h=true:=by
   cases a <;> simp only [okP,Bool.and_eq_true] at hb <;> exact hb.2
  exact okP_get h2 (by simpa using hi)
theorem Inv.gc (H:Inv P Γ N g h w) (hn:n≤h.length) (hτ:∀ j∈τ,n+j<h.length) (hnd:τ.Nodup) (hp:okP n τ (h.take n)=true) (hq:okH n τ (pickH h n τ)=true) :
  ∃ g',Inv P Γ N g' (gcH n τ h) w∧Ext n g h g' (gcH n τ h)∧Rn n τ g h g' (gcH n τ h):=by
 let old:Nat→Option Nat:=fun j=>if j<n then some j else (τ[j - n]?).map (n + ·)
 let g':G:={ g with ρ:=fun j=>(old j).bind g.ρ }
 have hold:∀ {j i},old j=some i→i<h.length∧okN n τ i=true∧rnN n τ i=j:=by
  intro j i hj;simp only [old] at hj
  split at hj
  ·rename_i hjn
   cases hj
   exact ⟨by omega,by simp [okN,hjn],by simp [rnN,hjn]⟩
  ·rename_i hjn;rw [Option.map_eq_some_iff] at hj;obtain ⟨x,hx,rfl⟩:=hj;have hm:=List.mem_of_getElem? hx;refine ⟨hτ x hm,by simp [okN,hm],?_⟩;unfold rnN;rw [if_neg (by omega),Nat.add_sub_cancel_left];have hlt:=lt_of_get hx
   have hxe:τ[j - n]=x:=by rw [List.getElem?_eq_getElem hlt] at hx; simpa using hx
   have:τ.idxOf x=j - n:=by rw [← hxe]; exact hnd.idxOf_getElem _ hlt
   omega
 have hnew:∀ {i},okN n τ i=true→old (rnN n τ i)=some i:=by
  intro i hi;simp only [old,rnN]
  by_cases hin:i<n
  ·simp [hin]
  ·simp only [okN,hin,decide_false,Bool.false_or,List.contains_eq_mem,decide_eq_true_eq] at hi;simp only [hin,if_false];rw [if_neg (by omega),Nat.add_sub_cancel_left,List.getElem?_eq_getElem (List.idxOf_lt_length_of_mem hi),List.getElem_idxOf]
   simp; omega
 have hget:∀ i o,h[i]? = some o→okN n τ i=true→(gcH n τ h)[rnN n τ i]? = some (rnO n τ o):=by
  intro i o hi hok;unfold gcH;rw [rnH_get]
  by_cases hin:i<n
  ·have:rnN n τ i=i:=by simp [rnN,hin]
   rw [this,List.getElem?_append_left (by rw [List.length_take]; omega),List.getElem?_take_of_lt hin,hi]; rfl
  ·simp only [okN,hin,decide_false,Bool.false_or,List.contains_eq_mem,decide_eq_true_eq] at hok
   have:rnN n τ i=n+τ.idxOf (i - n):=by simp [rnN,hin]
   rw [this,List.getElem?_append_right (by rw [List.length_take]; omega),List.length_take,Nat.min_eq_left hn,Nat.add_sub_cancel_left,pickH_get,
    List.getElem?_eq_getElem (List.idxOf_lt_length_of_mem hok),List.getElem_idxOf]
   simp only [Option.map_some]
   rw [show n+(i - n)=i by omega,List.getD_eq_getElem?_getD,hi]; rfl
 have hx:Rn n τ g h g' (gcH n τ h):=by
  refine ⟨rfl,rfl,hget,fun i hi hok => ?_⟩;simp only [g']
  rw [hnew hok]; rfl
 have hρn:∀ i,i<n→g'.ρ i=g.ρ i:=by
  intro i hi;have:=hx.rho i (by omega) (by simp [okN,hi]);rwa [show rnN n τ i=i by simp [rnN,hi]] at this
 have hgn:∀ i o,i<n→h[i]? = some o→(gcH n τ h)[i]? = some (rnO n τ o):=by
  intro i o hi ho;have:=hget i o ho (by simp [okN,hi]);rwa [show rnN n τ i=i by simp [rnN,hi]] at this
 have hE:Ext n g h g' (gcH n τ h):=by
  refine ⟨fun _ _ _ y=>y,fun _ _ y=>y,fun i vs hi ho=>⟨⟨_,hgn i _ hi ho⟩,fun x hx=>by rw [hρn i hi]; exact hx⟩,fun i es fl hi ho=>⟨⟨_,_,hgn i _ hi ho⟩,fun x hx=>by rw [hρn i hi]; exact hx⟩,
   fun i s p hi ho=>⟨⟨_,_,hgn i _ hi ho⟩,fun x hx=>by rw [hρn i hi]; exact hx⟩,fun i st j fn t ps a b hi ho=>⟨⟨st,j,?_⟩,fun x hx=>by rw [hρn i hi]; exact hx⟩,
   fun i l hi ho=>⟨⟨_,hgn i _ hi ho⟩,fun x hx=>by rw [hρn i hi]; exact hx⟩,fun i k E es gr fl sh hi ho => ?_⟩
  ·have h1:=hgn i _ hi ho;have h2:=(okP_get hp (by rw [List.getElem?_take_of_lt hi]; exact ho)).2 _ _ _ _ _ _ _ rfl;simp only [rnO,rnL_bel h2] at h1;exact h1
  ·have hlen:(if fl=true then es else rnL n τ es).length=es.length:=by split <;> simp [rnL_len]
   refine ⟨_,_,_,_,_,hgn i _ hi ho,by rw [hlen]; exact Nat.le_refl _,fun off m hom hok=>⟨?_,hlen,fun x hx=>by rw [hρn i hi]; exact hx⟩⟩;unfold okSl at hok ⊢;rwa [hlen] at hok
 have hsub:∀ {j b x},g'.ρ j=some (b,x)→∃ i,old j=some i∧g.ρ i=some (b,x):=by
  intro j b x hj;simp only [g',Option.bind_eq_some_iff] at hj;exact hj
 have hlen:(gcH n τ h).length=n+τ.length:=by
  unfold gcH;rw [rnH_len,List.length_append,pickH_len,List.length_take,Nat.min_eq_left hn]
 refine ⟨g',⟨H.os,H.tape,H.output,H.keep,fun i b x hi => ?_,?_,?_,H.mem,?_,?_,?_,?_,H.mK,H.mmE⟩,hE,hx⟩
 ·obtain ⟨j,_,h2⟩:=hsub hi;exact H.own j b x h2
 ·intro i j b x y hi hj;obtain ⟨i',h1,h2⟩:=hsub hi;obtain ⟨j',h3,h4⟩:=hsub hj;have:=H.inj i' j' b x y h2 h4;subst this;rw [← (hold h1).2.2,← (hold h3).2.2]
 ·intro i hi;simp only [g',old]
  rw [if_neg (by omega),List.getElem?_eq_none (by omega)]; rfl
 ·intro b es ck hb;obtain ⟨h1,h2⟩:=H.mm b es ck hb
  exact ⟨h1,fun i x hi=>by
   obtain ⟨j,_,h4⟩:=hsub hi
   exact h2 j x h4⟩
 ·intro i b sz st o v hi hv;obtain ⟨j,h1,h2⟩:=hsub hi;obtain ⟨q1,q2,q3⟩:=hold h1;obtain ⟨k,E,es,gr,fl,h3,h4⟩:=H.mown j b sz st o v h2 hv;have h5:=hget j _ h3 q2;rw [q3] at h5;refine ⟨k,E,_,gr,fl,h5,?_⟩
  have:(if fl=true then es else rnL n τ es).length=es.length:=by split <;> simp [rnL_len]
  rw [this]; exact h4
 ·intro j o hj;have hjl:=lt_of_get hj;rw [hlen] at hjl;unfold gcH at hj;rw [rnH_get,Option.map_eq_some_iff] at hj;obtain ⟨o0,ho,rfl⟩:=hj
  by_cases hjn:j<n
  ·rw [List.getElem?_append_left (by rw [List.length_take]; omega)] at ho;have hok:=(okP_get hp ho).1;rw [List.getElem?_take_of_lt hjn] at ho;exact OV_rn hx (hρn j hjn) hok (H.ob j o0 ho)
  ·rw [List.getElem?_append_right (by rw [List.length_take]; omega),List.length_take,Nat.min_eq_left hn] at ho;have hok:=okH_get hq ho;rw [pickH_get,Option.map_eq_some_iff] at ho;obtain ⟨x,hxj,ho⟩:=ho;have hm:=List.mem_of_getElem? hxj;have hlt:=hτ x hm
   have ho2:h[n+x]? = some o0:=by rw [List.getD_eq_getElem?_getD,List.getElem?_eq_getElem hlt] at ho; rw [List.getElem?_eq_getElem hlt]; simpa using ho
   have hold1:old j=some (n+x):=by simp only [old]; rw [if_neg hjn,hxj]; rfl
   have hr:g'.ρ j=g.ρ (n+x):=by simp only [g']; rw [hold1]; rfl
   exact OV_rn hx hr hok (H.ob _ o0 ho2)
 ·intro m a hm;obtain ⟨h1,vs,h2,h3⟩:=H.glob m a hm;exact ⟨h1,vs,VL_mono hx.zero h1 h2,h3⟩
end
def vldMd (i m:Nat):Md→Bool
 | .pan v _=>vld i m v
 | _=>true
def vldF (i m:Nat) (f:Fr):Bool:=vldL i m f.t&&vldD i m f.ds&&vldMd i m f.md
def readyL (as:List (List Nat)) (done:List Nat) (i:Nat):Bool := !done.contains i&&(as.getD i []).all fun j=>done.contains j
def ordersL (as:List (List Nat)):Nat→List Nat→List (List Nat)
 | 0,_=>[[]]
 | n+1,done=>((List.range as.length).filter (readyL as done)).flatMap fun i=>(ordersL as n (i::done)).map (i :: ·)
theorem lin_mem {ops:Array Oper} (hed:edgesOk ops=true):∀ (fuel n:Nat) (listed:Array Bool) (done:List Nat),listed.size=ops.size→(∀ i,i<ops.size→listed.getD i true=done.contains i)→left ops.size listed=fuel →
  Region.linearise.go .any ops fuel n listed []∈ordersL (afterL ops) fuel done
 | 0,n,listed,done,_,_,_=>by simp [Region.linearise.go,ordersL]
 | fuel+1,n,listed,done,hsz,hd,hl=>by
  have hed1:∀ i (h:i<ops.size),∀ e∈(ops[i]).after.toList,Region.binds .any e=true→e.on<i:=by
   intro i h e he hb;simp only [edgesOk,List.all_eq_true] at hed;have h6:=hed (ops[i],i) (by rw [List.mem_zipIdx_iff_getElem?]; simp [h]);rw [← Array.all_toList,List.all_eq_true] at h6;have h7:=h6 e he;rw [hb] at h7;simpa using h7
  have hal:(afterL ops).length=ops.size:=by simp [afterL]
  have hf:((List.range ops.size).filter fun i => !listed.getD i true&&((ops[i]?).map (·.after.all fun e => !Region.binds .any e||listed.getD e.on false)).getD false)=(List.range ops.size).filter (readyL (afterL ops) done):=by
   refine List.filter_congr fun i hi => ?_
   have hi:=List.mem_range.1 hi
   have hai:(afterL ops).getD i []=(ops[i].after.toList.filter (Region.binds .any)).map (·.on):=by
    simp [afterL,List.getD_eq_getElem?_getD,hi]
   simp only [readyL,hai,hd i hi,Array.getElem?_eq_getElem hi,Option.map_some,Option.getD_some];congr 1;rw [← Array.all_toList,Bool.eq_iff_iff,List.all_eq_true,List.all_eq_true];constructor
   ·intro h j hj;simp only [List.mem_map,List.mem_filter] at hj;obtain ⟨e,⟨he,hb⟩,rfl⟩:=hj;have h1:=h e he;rw [hb] at h1;have hlt:=hed1 i hi e he hb;rw [getD_lt (by omega) false true,hd e.on (by omega)] at h1;simpa using h1
   ·intro h e he
    cases hb:Region.binds .any e with
    | false=>rfl
    | true =>
     have hlt:=hed1 i hi e he hb;have h1:=h e.on (List.mem_map.2 ⟨e,List.mem_filter.2 ⟨he,hb⟩,rfl⟩);rw [getD_lt (by omega) false true,hd e.on (by omega)];simpa using h1
  have hne:0<((List.range ops.size).filter fun i => !listed.getD i true&&((ops[i]?).map (·.after.all fun e => !Region.binds .any e||listed.getD e.on false)).getD false).length:=by
   have hex:∃ i,i<ops.size∧listed.getD i true=false:=by
    unfold left at hl;obtain ⟨i,hi⟩:=List.exists_mem_of_length_pos (l:=(List.range ops.size).filter fun i => !listed.getD i true) (by omega);simp only [List.mem_filter,List.mem_range,Bool.not_eq_true'] at hi;exact ⟨i,hi⟩
   have hmin:∀ m i,i≤m→i<ops.size→listed.getD i true=false→∃ i,i<ops.size∧listed.getD i true=false∧∀ j,j<i→listed.getD j true=true:=by
    intro m
    induction m with
    | zero=>intro i h1 h2 h3; exact ⟨i,h2,h3,fun j hj=>by omega⟩
    | succ m ihm =>
     intro i h1 h2 h3
     by_cases h4:∃ j,j<i∧listed.getD j true=false
     ·obtain ⟨j,h5,h6⟩:=h4;exact ihm j (by omega) (by omega) h6
     ·refine ⟨i,h2,h3,fun j hj => ?_⟩
      cases hq:listed.getD j true with
      | true=>rfl
      | false=>exact absurd ⟨j,hj,hq⟩ h4
   obtain ⟨i0,h1,h2⟩:=hex;obtain ⟨i,h3,h4,h5⟩:=hmin i0 i0 (Nat.le_refl _) h1 h2;refine List.length_pos_of_mem (a:=i) ?_;simp only [List.mem_filter,List.mem_range,h4,Bool.not_false,Bool.true_and,Array.getElem?_eq_getElem h3,Option.map_some,Option.getD_some];refine ⟨h3,?_⟩;rw [← Array.all_toList,List.all_eq_true];intro e he
   cases hb:Region.binds .any e with
   | false=>rfl
   | true =>
    have h7:=hed1 i h3 e he hb;simp only [Bool.not_true,Bool.false_or];rw [getD_lt (by omega) false true];exact h5 _ h7
  simp only [Region.linearise.go,ordersL];rw [hf] at hne ⊢;rw [hal];generalize hrs:(List.range ops.size).filter (readyL (afterL ops) done)=rs at hne ⊢;have hlt:n % rs.length<rs.length:=Nat.mod_lt _ hne;rw [List.getElem?_eq_getElem hlt];generalize hri:rs[n % rs.length]=i
  have him:i∈rs:=by rw [← hri]; exact List.getElem_mem hlt
  have him2:=him;rw [← hrs] at him2;simp only [List.mem_filter,List.mem_range,readyL,Bool.and_eq_true,Bool.not_eq_true'] at him2;obtain ⟨h1,h2,_⟩:=him2
  have h2':listed.getD i true=false:=by rw [hd i h1]; exact h2
  simp only;rw [linearise_go_acc,List.reverse_singleton,List.singleton_append];refine List.mem_flatMap.2 ⟨i,him,List.mem_map.2 ⟨_,lin_mem hed fuel _ _ _ (by simpa using hsz) ?_ ?_,rfl⟩⟩
  ·intro j hj;simp only [Array.getD_eq_getD_getElem?,Array.getElem?_setIfInBounds]
   by_cases hij:i=j
   ·subst hij; simp [hsz,h1]
   ·rw [if_neg hij];have:=hd j hj;rw [Array.getD_eq_getD_getElem?] at this;rw [this];simp [Ne.symm hij]
  ·have:=left_set h1 h2';omega
inductive Reach (P:Program) (Γ:Nat→Option AV):Cfg→Cfg→Prop
 | refl (c:Cfg):Reach P Γ c c
 | trans {a b c:Cfg}:Reach P Γ a b→Reach P Γ b c→Reach P Γ a c
 | step (c:Cfg):Reach P Γ c (stepA P Γ c)
 | pure {f:FuncId} {args as:List AV} {r:AV} {up:List Fr} {h:List Ob}:viewL h args=some as→PureCon P Γ f as r→Reach P Γ (.cl f args up h) (.back up (unownA h.length r).1 (afterPure h args r))
 | pdie {f:FuncId} {args as:List AV} {v:AV} {up:List Fr} {h:List Ob}:viewL h args=some as→DieCon P Γ f as v→Reach P Γ (.cl f args up h) (.die up v h)
 | isnil {f:Fr} {up:List Fr} {h:List Ob} {o:AG} {os:List AG} {k:List It} {c:Cfg}:f.md=.run→f.its=.ops (o::os)::k→wantedA f.t o.guard=some true→aop P Γ f.t h o.op=.either →
   (∀ b,Reach P Γ (.fr { f with its:=.ops os::k,t:=setD f.t o.dst (.bool b) } up h) c)→Reach P Γ (.fr f up h) c
 | leave {f:FuncId} {args:List AV} {up:List Fr} {h h':List Ob} {v:AV}:Reach P Γ (.cl f args up h) (.back up v h')→bel h.length v=true→belH h.length (h'.take h.length)=true→Reach P Γ (.cl f args up h) (.back up v (h'.take h.length))
 | leaveD {f:FuncId} {args:List AV} {up:List Fr} {h h':List Ob} {v:AV}:Reach P Γ (.cl f args up h) (.die up v h')→bel h.length v=true→belH h.length (h'.take h.length)=true→Reach P Γ (.cl f args up h) (.die up v (h'.take h.length))
 | drop {f:Fr} {up:List Fr} {h:List Ob} (n:Nat):f.base≤n→belF n f=true→belH n (h.take n)=true→Reach P Γ (.fr f up h) (.fr f up (h.take n))
 | reset {f:Fr} {up:List Fr} {h:List Ob} {i k:Nat} {E:TypeId} {es:List AV} {fl sh:Bool}:f.base≤i→h[i]? = some (.row k E es (some 0) fl sh)→vldF i es.length f=true→vldH i es.length h=true →
   Reach P Γ (.fr f up h) (.fr f up (h.set i (.row k E es none fl sh)))
 | resetU {f:Fr} {up:List Fr} {h:List Ob} {i k:Nat} {E:TypeId} {es:List AV} {fl sh:Bool}:h[i]? = some (.row k E es (some 0) fl sh)→(f::up).all (vldF i es.length)=true→vldH i es.length h=true →
   Reach P Γ (.fr f up h) (.fr f up (h.set i (.row k E es none fl sh)))
 | freeze {f:Fr} {up:List Fr} {h:List Ob} {i k:Nat} {E:TypeId} {es es':List AV} {gr:Option Nat} {fl sh:Bool}:h[i]? = some (.row k E es gr fl sh)→gr.getD 0=0→viewL h es=some es'→(rowsOfL es).contains i=false →
   Reach P Γ (.fr f up h) (.fr f up ((share (rowsOfL es) h).set i (.row k E es' gr true sh)))
 | shareI {f:Fr} {up:List Fr} {h:List Ob} (l:List Nat):Reach P Γ (.fr f up h) (.fr f up (share l h))
 | tree {f:Fr} {up:List Fr} {h:List Ob} (i:Nat):Reach P Γ (.fr f up h) (.fr { f with t:=f.t.set i (trA h (f.t.getD i .undef)) } up (share (rowsOf (f.t.getD i .undef)) h))
 | treeC {f:Fr} {up:List Fr} {h:List Ob} {i:Nat} (j:Nat) {cs:List AV}:h[i]? = some (.cells cs)→Reach P Γ (.fr f up h) (.fr f up ((share (rowsOf (cs.getD j .undef)) h).set i (.cells (cs.set j (trA h (cs.getD j .undef))))))
 | nilcell {f:Fr} {up:List Fr} {h:List Ob} {i j k k0:Nat} {cs:List AV} (E:TypeId):h[i]? = some (.cells cs)→cs[j]? = some (.list true k0 [])→0<k →
   Reach P Γ (.fr f up h) (.fr f up ((h++[Ob.row k E [] none true false]).set i (.cells (cs.set j (.sl h.length 0 0)))))
 | nilelem {f:Fr} {up:List Fr} {h:List Ob} {i j k k0:Nat} {es:List AV} {E0:TypeId} {fl sh:Bool} (E:TypeId):h[i]? = some (.row 1 E0 es none fl sh)→es[j]? = some (.list true k0 [])→0<k →
   Reach P Γ (.fr f up h) (.fr f up ((h++[Ob.row k E [] none true false]).set i (.row 1 E0 (es.set j (.sl h.length 0 0)) none false sh)))
 | litRow {f:Fr} {up:List Fr} {h:List Ob} {d:Option Nat} {gd:Option (Nat×Bool)} {k:Nat} {zs:List AV} {ps:List (Nat×AX)} {os:List AG} {k':List It} {es:List AV} (E:TypeId):f.md=.run→f.its=.ops (⟨d,gd,.lit k zs ps⟩::os)::k' →
   wantedA f.t gd=some true→fillE k zs (ps.map fun p=>(p.1,ax f.t p.2))=some es →
   Reach P Γ (.fr f up h) (.fr { f with its:=.ops os::k',t:=setD f.t d (.sl h.length 0 es.length) } up (h++[.row k E es none (okList es k) false]))
 | mask {f:Fr} {up:List Fr} {h:List Ob} (m:List Bool):Reach P Γ (.fr f up h) (.fr { f with t:=maskT m f.t } up h)
 | dreg {f:Fr} {up:List Fr} {h h':List Ob} {l:List Bool} {ws:List Nat} {gs:List AG} {k:List It} {orc:List (AV×List Ob)} {t':List AV} {obls obls0:List Obl} {hs:List (List Ob)}:f.md=.run→f.its=.code (.dreg l ws gs)::k →
   runD P Γ orc gs f.t h=some (t',h',obls,hs)→(∀ o∈obls,o∈obls0)→(∀ o∈obls0,∀ up,Reach P Γ (o.f.cfg o.args up o.h) (.back up o.v o.h'))→calm P Γ obls0 (h::hs) l ws orc gs f.t h →
   Reach P Γ (.fr f up h) (.fr { f with its:=k,t:=t' } up h')
 | dregDie {f:Fr} {up:List Fr} {h h':List Ob} {l:List Bool} {ws:List Nat} {gs:List AG} {k:List It} {orc:List (AV×List Ob)} {t':List AV} {obls obls0:List Obl} {hs:List (List Ob)} {D:Cfg} {i:Nat} {E:TypeId} {es:List AV} {gr:Option Nat} {fl sh:Bool} (dies:Obl→Prop):f.md=.run→f.its=.code (.dreg l ws gs)::k →
   runD P Γ orc gs f.t h=some (t',h',obls,hs)→(∀ o∈obls,o∈obls0)→(∀ o∈obls0,¬ dies o→∀ up,Reach P Γ (o.f.cfg o.args up o.h) (.back up o.v o.h'))→(∀ o∈obls0,dies o→∀ its t,Reach P Γ (o.f.cfg o.args ({ f with its:=its,t:=t }::up) o.h) D)→calm P Γ obls0 (h::hs) l ws orc gs f.t h→h'[i]? = some (.row 0 E es gr fl sh) →
   Reach P Γ (.fr f up h) D
 | nilslot {f:Fr} {up:List Fr} {h:List Ob} {i k k0:Nat} (E:TypeId):f.md=.run→f.t[i]? = some (.list true k0 [])→0<k →
   Reach P Γ (.fr f up h) (.fr { f with t:=f.t.set i (.sl h.length 0 0) } up (h++[Ob.row k E [] none true false]))
 | gc {f:Fr} {up:List Fr} {h:List Ob} (n:Nat) (τ:List Nat):f.md=.run→f.base≤n→n≤h.length→(∀ j∈τ,n+j<h.length)→τ.Nodup→okL n τ f.t=true→belD n f.ds=true→belI n f.its=true→belK n f.kind=true →
   okP n τ (h.take n)=true→okH n τ (pickH h n τ)=true→Reach P Γ (.fr f up h) (.fr { f with t:=rnL n τ f.t } up (gcH n τ h))
 | oreg {f:Fr} {up:List Fr} {h:List Ob} {as:List (List Nat)} {gs:List AG} {k:List It} {c:Cfg}:f.md=.run→f.its=.code (.oreg as gs)::k →
   (∀ l∈ordersL as as.length [],Reach P Γ (.fr { f with its:=.ops (l.map fun i=>gs.getD i default)::k } up h) c)→Reach P Γ (.fr f up h) c
section
variable {P : Program} {Γ : Nat → Option AV} {N : Env} {g0 : G} {f0 : FuncId} {cs0 : List Frame}
theorem mem_go {ops:Array Oper}:∀ (fuel t:Nat) (listed:Array Bool) (i:Nat),i∈Region.linearise.go .any ops fuel t listed []→i<ops.size
 | 0,t,listed,i,h=>by simp [Region.linearise.go] at h
 | fuel+1,t,listed,i,h=>by
  simp only [Region.linearise.go] at h
  split at h
  ·rename_i j hj;rw [linearise_go_acc] at h;simp only [List.reverse_cons,List.reverse_nil,List.nil_append,List.cons_append,List.mem_cons] at h
   rcases h with rfl | h
   ·have:=List.mem_of_getElem? hj;simp only [List.mem_filter,List.mem_range] at this;exact this.1
   ·exact mem_go fuel _ _ i h
  ·simp at h
theorem ops_some {ops:Array Oper} {gs:List AG} (h:ops.toList.mapM (cag P ops.toList)=some gs):∀ {l:List Nat},(∀ i∈l,i<ops.size)→OpsR P ops (l.map fun i=>gs.getD i default) l
 | [],_=>.nil
 | i::l,hl=>by
  obtain ⟨h1,h2⟩:=mapM_get h
  have hi:i<gs.length:=by rw [h1]; simpa using hl i (by simp)
  obtain ⟨o,ho,hc⟩:=h2 i _ (List.getElem?_eq_getElem hi);refine .cons ⟨o,by simpa using ho,?_⟩ (ops_some h fun j hj=>hl j (List.mem_cons_of_mem _ hj));simp only [List.getD_eq_getElem?_getD,List.getElem?_eq_getElem hi];exact hc
def Then (P:Program) (Γ:Nat→Option AV) (N:Env) (g0:G) (f0:FuncId) (cs0:List Frame) (c c':Cfg):Prop :=
 ∀ m,Sim P Γ N g0 f0 cs0 c m→∃ m',Steps P m m'∧Sim P Γ N g0 f0 cs0 c' m'
theorem Then.trans {a b c:Cfg} (h1:Then P Γ N g0 f0 cs0 a b) (h2:Then P Γ N g0 f0 cs0 b c):Then P Γ N g0 f0 cs0 a c:=by
 intro m hm;obtain ⟨m1,s1,h⟩:=h1 m hm;obtain ⟨m2,s2,h⟩:=h2 m1 h;exact ⟨m2,s1.trans s2,h⟩
theorem Then.step (c:Cfg):Then P Γ N g0 f0 cs0 c (stepA P Γ c):=fun _ hm=>step_sound hm
theorem FRel_reset {g:G} {h:List Ob} {i k:Nat} {E:TypeId} {es:List AV} {fl sh:Bool} {f:Fr} {fr:Frame} (hi:h[i]? = some (.row k E es (some 0) fl sh)) (hf:vldF i es.length f=true) (S:FRel P g h f fr):FRel P g (h.set i (.row k E es none fl sh)) f fr:=by
 have hmr:=S.md;simp only [vldF,Bool.and_eq_true] at hf
 have hkind:∀ {j:Nat} {o:Ob},h[j]? = some o→(∀ k E es gr fl sh,o≠Ob.row k E es gr fl sh)→(h.set i (.row k E es none fl sh))[j]? = some o:=by
  intro j o hj hne;rw [List.getElem?_set_ne]
  ·exact hj
  ·rintro rfl
   rw [hi] at hj
   cases hj
   exact hne _ _ _ _ _ _ rfl
 have hLR:∀ {l b},LR g h l b→LR g (h.set i (.row k E es none fl sh)) l b:=by
  rintro l b ⟨⟨a1,a2,a3,a4,a5,a6,a7,h1⟩,h2⟩
  exact ⟨⟨a1,a2,a3,a4,a5,a6,a7,hkind h1 (by simp)⟩,h2⟩
 have hIR:∀ {k1:List It} {k2:List Item},IR P g h k1 k2→IR P g (h.set i (.row k E es none fl sh)) k1 k2:=by
  intro k1
  induction k1 with
  | nil=>intro k2 hk; cases k2 <;> simp only [IR] at hk ⊢
  | cons a k1 ih =>
   intro k2 hk
   cases k2 with
   | nil=>cases a <;> simp only [IR] at hk
   | cons b k2 =>
    cases a <;> cases b <;> simp only [IR] at hk ⊢
    ·exact ⟨hk.1,ih hk.2⟩
    ·exact ⟨hk.1,ih hk.2⟩
    ·exact ⟨hk.1,ih hk.2⟩
    ·exact ⟨hk.1,ih hk.2⟩
    ·exact ⟨hLR hk.1,ih hk.2⟩
    ·exact ⟨hLR hk.1,ih hk.2⟩
    ·exact ih hk
 have hDR:∀ {ds1:List ADef} {ds2:List Deferred},vldD i es.length ds1=true→F2 (DR g h) ds1 ds2→F2 (DR g (h.set i (.row k E es none fl sh))) ds1 ds2:=by
  intro ds1 ds2 hv hd
  induction hd with
  | nil=>exact .nil
  | @cons a b as bs h1 _ ih =>
   cases a with
   | call c args =>
    simp only [vldD,Bool.and_eq_true] at hv;obtain ⟨cap,q1,q2⟩:=h1;exact .cons ⟨cap,q1,VL_reset hi hv.1 q2⟩ (ih hv.2)
   | mark l =>
    simp only [vldD] at hv;obtain ⟨⟨q,q1⟩,q2⟩:=h1;exact .cons ⟨⟨q,hkind q1 (by simp)⟩,q2⟩ (ih hv)
 ·refine ⟨?_,S.fn,hIR S.its,VL_reset hi hf.1.1 S.t,hDR hf.1.2 S.ds,?_,S.is⟩
  ·have hv:=hf.2
   cases hm2:f.md with
   | run=>rw [hm2] at hmr; exact hmr
   | ret=>rw [hm2] at hmr; exact hmr
   | pan v rc =>
    rw [hm2] at hmr hv;obtain ⟨u,q1,q2⟩:=hmr;exact ⟨u,q1,V_reset hi (by simpa only [vldMd] using hv) q2⟩
  ·have hk:=S.kind
   cases hk2:f.kind with
   | norm=>rw [hk2] at hk; exact hk
   | dfr=>rw [hk2] at hk; exact hk
   | round l =>
    rw [hk2] at hk;obtain ⟨q1,b,q2,q3⟩:=hk;exact ⟨q1,b,q2,hLR q3⟩
theorem SR_reset {g:G} {h:List Ob} {i k:Nat} {E:TypeId} {es:List AV} {fl sh:Bool} {f0:FuncId} (hi:h[i]? = some (.row k E es (some 0) fl sh)):∀ {n:Nat} {l:List Fr} {fs:List Frame},l.all (vldF i es.length)=true→SR P g h f0 n l fs→SR P g (h.set i (.row k E es none fl sh)) f0 n l fs
 | _,[],_,_,h1=>h1
 | n,f::up,fs,hv,h1=>by
  obtain ⟨fr,fs',h2,h3,h4,h5,h6,h7⟩:=h1;simp only [List.all_cons,Bool.and_eq_true] at hv;exact ⟨fr,fs',h2,FRel_reset hi hv.1 h3,h4,h5,h6,SR_reset hi hv.2 h7⟩
theorem dreg_rl {Rl:Cfg→Cfg→Prop} (htr:∀ a b c,Rl a b→Rl b c→Rl a c) (hst:∀ c,Rl c (stepA P Γ c)) {f:Fr} {up:List Fr} {h h':List Ob} {l:List Bool} {ws:List Nat} {gs:List AG} {k:List It} {orc:List (AV×List Ob)} {t':List AV} {obls obls0:List Obl} {hs:List (List Ob)} (hmd:f.md=.run) (hits:f.its=.code (.dreg l ws gs)::k)
  (hr:runD P Γ orc gs f.t h=some (t',h',obls,hs)) (hsub:∀ o∈obls,o∈obls0) (hob:∀ o∈obls0,∀ its t,Rl (o.f.cfg o.args ({ f with its:=its,t:=t }::up) o.h) (.back ({ f with its:=its,t:=t }::up) o.v o.h')) (hc:calm P Γ obls0 (h::hs) l ws orc gs f.t h) {m:Machine} (hm:Sim P Γ N g0 f0 cs0 (.fr f up h) m) :
  ∃ m1 c1,Steps P m m1∧Sim P Γ N g0 f0 cs0 c1 m1∧Rl c1 (.fr { f with its:=k,t:=t' } up h'):=by
 obtain ⟨g,w,tmps,todo,ds,kd,ro,md,fs,rfl,S,hmr⟩:=hm.inv;rw [hmd] at hmr;simp only [MR] at hmr;subst hmr;have hI:=S.its;rw [hits] at hI
 cases todo with
 | nil=>simp only [IR] at hI
 | cons im k' =>
 cases im <;> simp only [IR] at hI
 rename_i c;obtain ⟨hC,hk⟩:=hI
 cases c <;> try (simp only [CR] at hC; done)
 rename_i id ops draw
 cases draw <;> simp only [CR] at hC
 obtain ⟨hgs,hok,rfl,rfl⟩:=hC;simp only [drawOk,Bool.and_eq_true] at hok;obtain ⟨⟨hok1,hok2⟩,hok3⟩:=hok;obtain ⟨T,H,v,hT0,hH0,hTn,hHn,hat,hk0⟩:=runD_seq hr hsub hc
 have hlen:gs.length=ops.size:=by rw [(mapM_get hgs).1]; simp
 have R:Reg P Γ ops gs obls0 h hs T H v:=⟨hlen,hok1,hok2,hH0,hat,hk0⟩
 have hsched:∀ x,Region.schedule (P.follows .mixedOrders) ops x=Region.linearise.go .any ops ops.size x (Array.replicate ops.size false) []:=by
  intro x;unfold Region.schedule;rw [if_pos (by simpa using hok3)];rfl
 have hgetD:∀ i d,(Array.replicate ops.size false).getD i d=if i<ops.size then false else d:=by
  intro i d;rw [Array.getD_eq_getD_getElem?,Array.getElem?_replicate]
  split <;> rfl
 have F:Far ops gs T H v (Array.replicate ops.size false) f.t h:=by
  refine ⟨by simp,?_,by rw [hT0],?_,fun s _=>by rw [hT0],0,Nat.zero_le _,hH0.symm,fun _ _ h=>by omega,?_⟩
  ·intro i o ho hl;have:=lt_of_get (l:=ops.toList) (i:=i) (a:=o) (by simpa using ho);rw [hgetD,if_pos (by simpa using this)] at hl
   cases hl
  ·intro j x s hx hl;have:=lt_of_get hx;rw [hgetD,if_pos (by omega)] at hl
   cases hl
  ·intro j x _ hx _;have:=lt_of_get hx;rw [hgetD,if_pos (by omega)]
 have hleft:left ops.size (Array.replicate ops.size false)=ops.size:=by
  unfold left;rw [List.filter_eq_self.2,List.length_range];intro i hi;rw [hgetD,if_pos (by simpa using hi)];rfl
 have h1:=order_go (Rl:=Rl) R htr hst hob hmd (k:=k) ops.size (w.tape w.drawn (.order f.fn id)) _ f.t h F hleft;rw [hTn,hHn] at h1;have S':St P Γ N g0 f0 g h w.drew f up tmps (.code (.region id ops true)::k') ds kd ro fs:=⟨S.H.world rfl rfl rfl rfl,S.M,S.its,S.t,S.ds,S.kind,S.is,S.b,S.z,S.s⟩
 have h2:Sim P Γ N g0 f0 cs0 (.fr { f with its:=.ops ((Region.linearise.go .any ops ops.size (w.tape w.drawn (.order f.fn id)) (Array.replicate ops.size false) []).map fun i=>gs.getD i default)::k,t:=f.t } up h)
   (lone (mkF f.fn tmps (.inRegion ops (Region.schedule (P.follows .mixedOrders) ops (w.tape w.drawn (.order f.fn id)))::k') ds kd ro) (fs++cs0) w.drew):=by
  rw [hsched];exact S'.go hmd (its:=.ops _::k) ⟨ops_some hgs fun i hi=>mem_go _ _ _ i hi,hk⟩ S.t
 exact ⟨_,_,Steps.one st_draw,h2,h1⟩
theorem Then.dreg {f:Fr} {up:List Fr} {h h':List Ob} {l:List Bool} {ws:List Nat} {gs:List AG} {k:List It} {orc:List (AV×List Ob)} {t':List AV} {obls obls0:List Obl} {hs:List (List Ob)} (hmd:f.md=.run) (hits:f.its=.code (.dreg l ws gs)::k)
  (hr:runD P Γ orc gs f.t h=some (t',h',obls,hs)) (hsub:∀ o∈obls,o∈obls0) (hob:∀ o∈obls0,∀ up,Then P Γ N g0 f0 cs0 (o.f.cfg o.args up o.h) (.back up o.v o.h')) (hc:calm P Γ obls0 (h::hs) l ws orc gs f.t h) :
  Then P Γ N g0 f0 cs0 (.fr f up h) (.fr { f with its:=k,t:=t' } up h'):=by
 intro m hm;obtain ⟨m1,c1,s1,h1,h2⟩:=dreg_rl (Rl:=Then P Γ N g0 f0 cs0) (fun _ _ _ a b=>a.trans b) Then.step hmd hits hr hsub (fun o ho _ _=>hob o ho _) hc hm;obtain ⟨m',s',h3⟩:=h2 _ h1;exact ⟨m',s1.trans s',h3⟩
theorem Then.dregDie {f:Fr} {up:List Fr} {h h':List Ob} {l:List Bool} {ws:List Nat} {gs:List AG} {k:List It} {orc:List (AV×List Ob)} {t':List AV} {obls obls0:List Obl} {hs:List (List Ob)} {D:Cfg} {i:Nat} {E:TypeId} {es:List AV} {gr:Option Nat} {fl sh:Bool} (hmd:f.md=.run) (hits:f.its=.code (.dreg l ws gs)::k)
  (hr:runD P Γ orc gs f.t h=some (t',h',obls,hs)) (hsub:∀ o∈obls,o∈obls0) (hob:∀ o∈obls0,(∀ up,Then P Γ N g0 f0 cs0 (o.f.cfg o.args up o.h) (.back up o.v o.h'))∨∀ its t,Then P Γ N g0 f0 cs0 (o.f.cfg o.args ({ f with its:=its,t:=t }::up) o.h) D) (hc:calm P Γ obls0 (h::hs) l ws orc gs f.t h) (hi:h'[i]? = some (.row 0 E es gr fl sh)) :
  Then P Γ N g0 f0 cs0 (.fr f up h) D:=by
 intro m hm
 obtain ⟨m1,c1,s1,h1,h2⟩:=dreg_rl (Rl:=fun a b=>Then P Γ N g0 f0 cs0 a D∨Then P Γ N g0 f0 cs0 a b) (fun _ _ _ a b=>by
  rcases a with a | a
  ·exact .inl a
  ·rcases b with b | b
   ·exact .inl (a.trans b)
   ·exact .inr (a.trans b)) (fun c=>.inr (Then.step c)) hmd hits hr hsub (fun o ho its t=>by
  rcases hob o ho with h4 | h4
  ·exact .inr (h4 _)
  ·exact .inl (h4 its t)) hc hm
 rcases h2 with h2 | h2
 ·obtain ⟨m',s',h3⟩:=h2 _ h1;exact ⟨m',s1.trans s',h3⟩
 ·obtain ⟨m',s',h3⟩:=h2 _ h1;obtain ⟨g,w,fr,fs,_,H,_⟩:=h3;have:=H.ob i _ hi;simp only [OV] at this;omega
theorem oreg_order {f:Fr} {up:List Fr} {h:List Ob} {as:List (List Nat)} {gs:List AG} {k:List It} (hmd:f.md=.run) (hits:f.its=.code (.oreg as gs)::k) {m:Machine} (hm:Sim P Γ N g0 f0 cs0 (.fr f up h) m) :
  ∃ l∈ordersL as as.length [],∃ m1,Steps P m m1∧Sim P Γ N g0 f0 cs0 (.fr { f with its:=.ops (l.map fun i=>gs.getD i default)::k } up h) m1:=by
 obtain ⟨g,w,tmps,todo,ds,kd,ro,md,fs,rfl,S,hmr⟩:=hm.inv;rw [hmd] at hmr;simp only [MR] at hmr;subst hmr;have hI:=S.its;rw [hits] at hI
 cases todo with
 | nil=>simp only [IR] at hI
 | cons im k' =>
 cases im <;> simp only [IR] at hI
 rename_i c;obtain ⟨hC,hk⟩:=hI
 cases c <;> try (simp only [CR] at hC; done)
 rename_i id ops draw
 cases draw <;> simp only [CR] at hC
 obtain ⟨hgs,hok2,hok3,rfl⟩:=hC
 have hsched:∀ x,Region.schedule (P.follows .mixedOrders) ops x=Region.linearise.go .any ops ops.size x (Array.replicate ops.size false) []:=by
  intro x;unfold Region.schedule;rw [if_pos (by simpa using hok3)];rfl
 have hgetD:∀ i d,(Array.replicate ops.size false).getD i d=if i<ops.size then false else d:=by
  intro i d;rw [Array.getD_eq_getD_getElem?,Array.getElem?_replicate]
  split <;> rfl
 have hleft:left ops.size (Array.replicate ops.size false)=ops.size:=by
  unfold left;rw [List.filter_eq_self.2,List.length_range];intro i hi;rw [hgetD,if_pos (by simpa using hi)];rfl
 have hmem:=lin_mem hok2 ops.size (w.tape w.drawn (.order f.fn id)) (Array.replicate ops.size false) [] (by simp) (fun i hi=>by rw [hgetD,if_pos hi]; rfl) hleft
 have hal:(afterL ops).length=ops.size:=by simp [afterL]
 have S':St P Γ N g0 f0 g h w.drew f up tmps (.code (.region id ops true)::k') ds kd ro fs:=⟨S.H.world rfl rfl rfl rfl,S.M,S.its,S.t,S.ds,S.kind,S.is,S.b,S.z,S.s⟩;refine ⟨_,by rw [hal]; exact hmem,_,Steps.one st_draw,?_⟩;rw [hsched];exact S'.go hmd (its:=.ops _::k) ⟨ops_some hgs fun i hi=>mem_go _ _ _ i hi,hk⟩ S.t
theorem either_step {f:Fr} {up:List Fr} {h:List Ob} {o:AG} {os:List AG} {k:List It} (hmd:f.md=.run) (hits:f.its=.ops (o::os)::k) (hw:wantedA f.t o.guard=some true) (ha:aop P Γ f.t h o.op=.either) {m:Machine} (hm:Sim P Γ N g0 f0 cs0 (.fr f up h) m) :
  ∃ b m1,Steps P m m1∧Sim P Γ N g0 f0 cs0 (.fr { f with its:=.ops os::k,t:=setD f.t o.dst (.bool b) } up h) m1:=by
 obtain ⟨g,w,tmps,todo,ds,kd,ro,md,fs,rfl,S,hmr⟩:=hm.inv;rw [hmd] at hmr;simp only [MR] at hmr;subst hmr;have hI:=S.its;rw [hits] at hI
 cases todo with
 | nil=>simp only [IR] at hI
 | cons im k' =>
 cases im <;> simp only [IR] at hI
 rename_i ops todo;obtain ⟨hO,hk⟩:=hI
 cases hO with
 | cons h1 hO =>
 rename_i i rest;obtain ⟨op,hop,hcag⟩:=h1;obtain ⟨hw1,hcop,hdst⟩:=wanted_sound hcag S.t hw;have hs:Snd P Γ N g h w (⟨tmps,ds⟩:Act).eval op (aop P Γ f.t h o.op):=aop_sound (a:=⟨tmps,ds⟩) S.H S.t hcop
 have hnd:=fun x y=>not_defer (Γ:=Γ) (h:=h) (t:=f.t) hcop x y
 rw [ha] at hs hnd;obtain ⟨b,g',w',nx,h2,h3,h4,u,rfl,h6⟩:=hs;have S1:=S.mono h3 h4 (Nat.le_refl _);have hs1:=St.go (cs0:=cs0) S1 hmd (its:=.ops os::k) (todo':=.inRegion ops rest::k') (t:=setD f.t o.dst (.bool b)) (tmps':=put' tmps o.dst u) ⟨hO,by have:=S1.its; rw [hits] at this; exact this.2⟩ (put_VL S1.t h6);rw [hdst] at hs1;have hst:=st_value (cs:=fs++cs0) (fn:=f.fn) (k:=k') (rest:=rest) (kd:=kd) (ro:=ro) hop hw1 (Or.inr (hnd (by simp) (by simp))) h2;rw [← hdst] at hs1;exact ⟨b,_,Steps.one hst,by rw [hdst] at hs1 ⊢; exact hs1⟩
theorem SR_at {g1 g2:G} {h1 h2:List Ob} {n m:Nat}:∀ {up:List Fr} {fs1 fs2:List Frame},SR P g1 h1 f0 n up fs1→SR P g2 h2 f0 m up fs2→SR P g2 h2 f0 n up fs2
 | [],_,_,_,b=>b
 | f::up,_,_,a,b=>by
  obtain ⟨_,_,_,_,a4,a5,_,_⟩:=a;obtain ⟨fr,fs',b2,b3,b4,b5,b6,b7⟩:=b;exact ⟨fr,fs',b2,b3,a4,a5,b6,b7⟩
theorem reach_sound {c c':Cfg} (hr:Reach P Γ c c'):Then P Γ N g0 f0 cs0 c c':=by
 induction hr with
 | refl c=>exact fun m hm=>⟨m,.refl _ _,hm⟩
 | trans _ _ h1 h2=>exact h1.trans h2
 | step c=>exact Then.step c
 | pure hv hp=>exact fun m hm=>pure_sound hp hv hm
 | pdie hv hp=>exact fun m hm=>die_sound hp hv hm
 | @isnil f up h o os k c hmd hits hw ha _ ih =>
  intro m hm;obtain ⟨b,m1,s1,h1⟩:=either_step hmd hits hw ha hm;obtain ⟨m',s',h7⟩:=ih b _ h1;exact ⟨m',s1.trans s',h7⟩
 | @leave f args up h h' v _ hv hh ih =>
  intro m hm;obtain ⟨m',s',h7⟩:=ih m hm
  by_cases hn:h'.length≤h.length
  ·rw [List.take_of_length_le hn]; exact ⟨m',s',h7⟩
  refine ⟨m',s',?_⟩
  have hlen:(h'.take h.length).length=h.length:=by rw [List.length_take]; omega
  obtain ⟨g0,w0,vs0,fs0,_,_,_,_,_,S0,_⟩:=hm
  cases up with
  | nil =>
   obtain ⟨g,w,u,fr,e,H,M,hV,h8,h9⟩:=h7;obtain ⟨H',x⟩:=H.drop hh;exact ⟨_,w,u,fr,e,H',M,V_mono x hv hV,h8,h9⟩
  | cons c up =>
   obtain ⟨g,w,u,fr,fs,e,H,M,hV,S⟩:=h7;obtain ⟨H',x⟩:=H.drop hh;exact ⟨_,w,u,fr,fs,e,H',M,V_mono x hv hV,by rw [hlen]; exact SR_mono x (Nat.le_refl _) (SR_at S0 S)⟩
 | @leaveD f args up h h' v _ hv hh ih =>
  intro m hm;obtain ⟨m',s',h7⟩:=ih m hm
  by_cases hn:h'.length≤h.length
  ·rw [List.take_of_length_le hn]; exact ⟨m',s',h7⟩
  refine ⟨m',s',?_⟩
  have hlen:(h'.take h.length).length=h.length:=by rw [List.length_take]; omega
  obtain ⟨g0,w0,vs0,fs0,_,_,_,_,_,S0,_⟩:=hm
  cases up with
  | nil =>
   obtain ⟨g,w,u,fr,e,H,M,hV,h8,h9⟩:=h7;obtain ⟨H',x⟩:=H.drop hh;exact ⟨_,w,u,fr,e,H',M,V_mono x hv hV,h8,h9⟩
  | cons c up =>
   obtain ⟨g,w,u,fr,fs,e,H,M,hV,S⟩:=h7;obtain ⟨H',x⟩:=H.drop hh;exact ⟨_,w,u,fr,fs,e,H',M,V_mono x hv hV,by rw [hlen]; exact SR_mono x (Nat.le_refl _) (SR_at S0 S)⟩
 | @drop f up h n hb hf hh =>
  intro m hm;obtain ⟨g,w,tmps,todo,ds,kd,ro,md,fs,rfl,S,hmr⟩:=hm.inv;obtain ⟨H',x⟩:=S.H.drop hh;have hR:=FRel_mono x hf (S.rel hmr);refine ⟨_,.refl _ _,?_⟩
  by_cases hn:n≤h.length
  ·exact ⟨_,w,_,fs,rfl,H',S.M,_,fs,rfl,hR,FRel_bel hR,by rw [List.length_take,Nat.min_eq_left hn]; exact hb,S.z,SR_mono (x.mono hb) (Nat.le_refl _) S.s⟩
  ·exact ⟨_,w,_,fs,rfl,H',S.M,_,fs,rfl,hR,FRel_bel hR,by rw [List.length_take,Nat.min_eq_right (by omega)]; exact S.b,S.z,SR_mono (x.mono hb) (Nat.le_refl _) S.s⟩
 | @reset f up h i k E es fl sh hb hi hf hh =>
  intro m hm;obtain ⟨g,w,tmps,todo,ds,kd,ro,md,fs,rfl,S,hmr⟩:=hm.inv;have H':=S.H.reset hi hh;have x:Ext f.base g h g (h.set i (.row k E es none fl sh)):=Ext.reset hb _;simp only [vldF,Bool.and_eq_true] at hf
  have hkind:∀ {j:Nat} {o:Ob},h[j]? = some o→(∀ k E es gr fl sh,o≠Ob.row k E es gr fl sh)→(h.set i (.row k E es none fl sh))[j]? = some o:=by
   intro j o hj hne;rw [List.getElem?_set_ne]
   ·exact hj
   ·rintro rfl
    rw [hi] at hj
    cases hj
    exact hne _ _ _ _ _ _ rfl
  have hLR:∀ {l b},LR g h l b→LR g (h.set i (.row k E es none fl sh)) l b:=by
   rintro l b ⟨⟨a1,a2,a3,a4,a5,a6,a7,h1⟩,h2⟩
   exact ⟨⟨a1,a2,a3,a4,a5,a6,a7,hkind h1 (by simp)⟩,h2⟩
  have hIR:∀ {k1:List It} {k2:List Item},IR P g h k1 k2→IR P g (h.set i (.row k E es none fl sh)) k1 k2:=by
   intro k1
   induction k1 with
   | nil=>intro k2 hk; cases k2 <;> simp only [IR] at hk ⊢
   | cons a k1 ih =>
    intro k2 hk
    cases k2 with
    | nil=>cases a <;> simp only [IR] at hk
    | cons b k2 =>
     cases a <;> cases b <;> simp only [IR] at hk ⊢
     ·exact ⟨hk.1,ih hk.2⟩
     ·exact ⟨hk.1,ih hk.2⟩
     ·exact ⟨hk.1,ih hk.2⟩
     ·exact ⟨hk.1,ih hk.2⟩
     ·exact ⟨hLR hk.1,ih hk.2⟩
     ·exact ⟨hLR hk.1,ih hk.2⟩
     ·exact ih hk
  have hDR:∀ {ds1:List ADef} {ds2:List Deferred},vldD i es.length ds1=true→F2 (DR g h) ds1 ds2→F2 (DR g (h.set i (.row k E es none fl sh))) ds1 ds2:=by
   intro ds1 ds2 hv hd
   induction hd with
   | nil=>exact .nil
   | @cons a b as bs h1 _ ih =>
    cases a with
    | call c args =>
     simp only [vldD,Bool.and_eq_true] at hv;obtain ⟨cap,q1,q2⟩:=h1;exact .cons ⟨cap,q1,VL_reset hi hv.1 q2⟩ (ih hv.2)
    | mark l =>
     simp only [vldD] at hv;obtain ⟨⟨q,q1⟩,q2⟩:=h1;exact .cons ⟨⟨q,hkind q1 (by simp)⟩,q2⟩ (ih hv)
  have hR:FRel P g (h.set i (.row k E es none fl sh)) f (mkF f.fn tmps todo ds kd ro md):=by
   refine ⟨?_,rfl,hIR S.its,VL_reset hi hf.1.1 S.t,hDR hf.1.2 S.ds,?_,S.is⟩
   ·have hv:=hf.2
    cases hm2:f.md with
    | run=>rw [hm2] at hmr; exact hmr
    | ret=>rw [hm2] at hmr; exact hmr
    | pan v rc =>
     rw [hm2] at hmr hv;obtain ⟨u,q1,q2⟩:=hmr;exact ⟨u,q1,V_reset hi (by simpa only [vldMd] using hv) q2⟩
   ·have hk:=S.kind
    cases hk2:f.kind with
    | norm=>rw [hk2] at hk; exact hk
    | dfr=>rw [hk2] at hk; exact hk
    | round l =>
     rw [hk2] at hk;obtain ⟨q1,b,q2,q3⟩:=hk;exact ⟨q1,b,q2,hLR q3⟩
  exact ⟨_,.refl _ _,g,w,_,fs,rfl,H',S.M,_,fs,rfl,hR,FRel_bel hR,by rw [List.length_set]; exact S.b,S.z,SR_mono x (Nat.le_refl _) S.s⟩
 | @resetU f up h i k E es fl sh hi hf hh =>
  intro m hm;obtain ⟨g,w,fr,fs,rfl,H,M,S⟩:=hm;refine ⟨_,.refl _ _,g,w,fr,fs,rfl,H.reset hi hh,M,?_⟩;rw [List.length_set];exact SR_reset hi hf S
 | @freeze f up h i k E es es' gr fl sh hi hg hv hn =>
  intro m hm;obtain ⟨g,w,fr,fs,rfl,H,M,S⟩:=hm;obtain ⟨g',H',x⟩:=H.freeze hi hg hv hn;exact ⟨_,.refl _ _,g',w,fr,fs,rfl,H',fun b o v hv=>x.M _ _ _ (M b o v hv),SR_mono x (by simp [share_length]) S⟩
 | @shareI f up h l =>
  intro m hm;obtain ⟨g,w,fr,fs,rfl,H,M,S⟩:=hm;obtain ⟨g',_,_,_,H',x,_⟩:=share_sound l H;exact ⟨_,.refl _ _,g',w,fr,fs,rfl,H',fun b o v hv=>x.M _ _ _ (M b o v hv),SR_mono x (by simp [share_length]) S⟩
 | @tree f up h i =>
  intro m hm;obtain ⟨g,w,fr,fs,rfl,H,M,fr',fs',hfs,hR,hb0,hb,hz,hS⟩:=hm
  cases hfs
  obtain ⟨g',_,_,_,H',x,hC⟩:=share_sound (rowsOf (f.t.getD i .undef)) H;have hR1:=FRel_mono x hb0 hR;have ht:=VL_set i hR1.t (V_trA H x hC (VL_get i hR.t))
  have h6:fr.tmps.toList.set i (fr.tmps.toList.getD i undef)=fr.tmps.toList:=by
   apply List.ext_getElem?;intro m
   by_cases hm:i=m
   ·subst hm;rw [List.getElem?_set]
    by_cases hl:i<fr.tmps.toList.length
    ·rw [if_pos rfl,if_pos hl,List.getD_eq_getElem?_getD,List.getElem?_eq_getElem hl]; rfl
    ·rw [if_pos rfl,if_neg hl,List.getElem?_eq_none (by omega)]
   ·rw [List.getElem?_set_ne hm]
  rw [h6] at ht;have hR2:FRel P g' (share (rowsOf (f.t.getD i .undef)) h) { f with t:=f.t.set i (trA h (f.t.getD i .undef)) } fr:=⟨hR1.md,hR1.fn,hR1.its,ht,hR1.ds,hR1.kind,hR1.is⟩;exact ⟨_,.refl _ _,g',w,fr,fs,rfl,H',fun b o v hv=>x.M _ _ _ (M b o v hv),fr,fs,rfl,hR2,FRel_bel hR2,by rw [share_length]; exact hb,hz,SR_mono (x.mono hb) (Nat.le_refl _) hS⟩
 | @treeC f up h i j cs hi =>
  intro m hm;obtain ⟨g,w,fr,fs,rfl,H,M,S⟩:=hm;obtain ⟨g',H',x⟩:=H.treeC j hi;exact ⟨_,.refl _ _,g',w,fr,fs,rfl,H',fun b o v hv=>x.M _ _ _ (M b o v hv),SR_mono x (by simp [share_length]) S⟩
 | @nilcell f up h i j k k0 cs E hi hj hk =>
  intro m hm;obtain ⟨g,w,fr,fs,rfl,H,M,S⟩:=hm;obtain ⟨g',H',x⟩:=H.nilrow E hi hj hk;exact ⟨_,.refl _ _,g',w,fr,fs,rfl,H',fun b o v hv=>x.M _ _ _ (M b o v hv),SR_mono x (by simp) S⟩
 | @nilelem f up h i j k k0 es E0 fl sh E hi hj hk =>
  intro m hm;obtain ⟨g,w,fr,fs,rfl,H,M,S⟩:=hm;obtain ⟨g',H',x⟩:=H.nilelem E hi hj hk;exact ⟨_,.refl _ _,g',w,fr,fs,rfl,H',fun b o v hv=>x.M _ _ _ (M b o v hv),SR_mono x (by simp) S⟩
 | @litRow f up h d gd k zs ps os k' es E hmd hits hw hf =>
  intro m hm;obtain ⟨g,w,tmps,todo,ds,kd,ro,md,fs,rfl,S,hmr⟩:=hm.inv;rw [hmd] at hmr;simp only [MR] at hmr;subst hmr;have hI:=S.its;rw [hits] at hI
  cases todo with
  | nil=>simp only [IR] at hI
  | cons im k'_1 =>
  cases im <;> simp only [IR] at hI
  rename_i ops todo;obtain ⟨hO,hk⟩:=hI
  cases hO with
  | cons h1 hO =>
  rename_i i rest;obtain ⟨op,hop,hcag⟩:=h1;obtain ⟨hw1,hcop,hdst⟩:=wanted_sound hcag S.t hw;obtain ⟨ty,n,parts,e,z,q1,q2,q3,q4,q5,q6,q7,rfl,rfl⟩:=cop_lit hcop;have hs:=op_litRow (t:=f.t) (fl:=okList es k) S.H (r:=(⟨tmps,ds⟩:Act).eval) q1 q2 q3 q4 q5 q6 q7 (fun x=>V_ax S.t x) hf id E;obtain ⟨g',w',nx,h2,h3,h4,u,rfl,h6⟩:=hs;have S1:=S.mono h3 h4 (by simp);have hs1:=St.go (cs0:=cs0) S1 hmd (its:=.ops os::k') (todo':=.inRegion ops rest::k'_1) (t:=setD f.t d (.sl h.length 0 es.length)) (tmps':=put' tmps d u) ⟨hO,by have:=S1.its; rw [hits] at this; exact this.2⟩ (put_VL S1.t h6);have hdst':d=op.dst:=hdst;have hst:=st_value (cs:=fs++cs0) (fn:=f.fn) (k:=k'_1) (rest:=rest) (kd:=kd) (ro:=ro) hop hw1 (Or.inr (by intro c hc; rw [q1] at hc; cases hc)) h2;rw [← hdst'] at hst;exact ⟨_,Steps.one hst,hs1⟩
 | @mask f up h m =>
  intro mm hm;obtain ⟨g,w,tmps,todo,ds,kd,ro,md,fs,rfl,S,hmr⟩:=hm.inv;exact ⟨_,.refl _ _,St.sim (f:={ f with t:=maskT m f.t }) ⟨S.H,S.M,S.its,VL_mask m S.t,S.ds,S.kind,S.is,S.b,S.z,S.s⟩ hmr⟩
 | dreg hmd hits hr hsub _ hc ih=>exact Then.dreg hmd hits hr hsub ih hc
 | dregDie dies hmd hits hr hsub _ _ hc hi ih1 ih2 =>
  exact Then.dregDie hmd hits hr hsub (fun o ho=>by
   by_cases hd:dies o
   ·exact .inr (ih2 o ho hd)
   ·exact .inl (ih1 o ho hd)) hc hi
 | @nilslot f up h i k k0 E hmd hi hk =>
  intro m hm;obtain ⟨g,w,fr,fs,rfl,H,M,fr',fs',hfs,hR,hb0,hb,hz,hS⟩:=hm
  cases hfs
  have hE:=Ext.push (g:=g) (h:=h) [Ob.row k E [] none true false] none
  have H1:Inv P Γ N (g.upd h.length none) (h++[Ob.row k E [] none true false]) w:=by
   refine Inv.push (r:=none) H rfl rfl rfl (fun _ _=>rfl) (Nat.le_refl _) (fun b x hb=>by cases hb) ?_ (fun j o hj=>by simp at hj);simp only [OV];rw [upd_same];exact ⟨hk,by simp,fun _=>rfl,by simp,trivial⟩
  have hR1:=FRel_mono hE hb0 hR;obtain ⟨v,hv1,hv2⟩:=VL_get? hR1.t hi;simp only [V] at hv2;obtain ⟨_,a,cap,rfl,hcap,_,_⟩:=hv2
  have hcap0:cap=0:=by simpa using hcap trivial
  subst hcap0
  have hx:V (g.upd h.length none) (h++[Ob.row k E [] none true false]) (.sl h.length 0 0) (.slice a ([]:List AV).length 0):=by
   simp only [V];exact ⟨k,E,[],none,true,false,by simp,by simp,a,0,rfl,by simp,by simp,fun _=>⟨by simp,Or.inl ⟨rfl,rfl⟩⟩⟩
  have ht:=VL_set i hR1.t hx
  have h6:fr.tmps.toList.set i (.slice a ([]:List AV).length 0)=fr.tmps.toList:=by
   apply List.ext_getElem?;intro m
   by_cases hm:i=m
   ·subst hm; rw [List.getElem?_set_self (lt_of_get hv1),hv1]
   ·rw [List.getElem?_set_ne hm]
  rw [h6] at ht;have hR2:FRel P (g.upd h.length none) (h++[Ob.row k E [] none true false]) { f with t:=f.t.set i (.sl h.length 0 0) } fr:=⟨hR1.md,hR1.fn,hR1.its,ht,hR1.ds,hR1.kind,hR1.is⟩;exact ⟨_,.refl _ _,_,w,fr,fs,rfl,H1,fun b o v hv=>hE.M _ _ _ (M b o v hv),fr,fs,rfl,hR2,FRel_bel hR2,by simp; omega,hz,SR_mono (hE.mono hb) (Nat.le_refl _) hS⟩
 | @gc f up h n τ hmd hb hn hτ hnd ht hd hi hk hp hq =>
  intro m hm;obtain ⟨g,w,fr,fs,rfl,H,M,fr',fs',hfs,hR,_,_,hz,hS⟩:=hm;obtain ⟨g',H',hE,hx⟩:=H.gc hn hτ hnd hp hq
  cases hfs
  have hR':FRel P g' (gcH n τ h) { f with t:=rnL n τ f.t } fr:=by
   refine ⟨?_,hR.fn,IR_mono hE hi hR.its,VL_rn hx ht hR.t,DRs_mono hE hd hR.ds,KR_mono hE hk hR.kind,hR.is⟩;have:=hR.md;rw [hmd] at this;simp only [hmd];exact this
  refine ⟨_,.refl _ _,g',w,fr,fs,rfl,H',fun b o v hv=>by rw [hx.M]; exact M b o v hv,fr,fs,rfl,hR',FRel_bel hR',?_,hz,SR_mono (hE.mono hb) (Nat.le_refl _) hS⟩
  have hl:(gcH n τ h).length=n+τ.length:=by
   unfold gcH;rw [rnH_len,List.length_append,pickH_len,List.length_take,Nat.min_eq_left hn]
  rw [hl];simp only;omega
 | oreg hmd hits _ ih =>
  intro m hm;obtain ⟨l,hl,m1,s1,h1⟩:=oreg_order hmd hits hm;obtain ⟨m2,s2,h2⟩:=ih l hl _ h1;exact ⟨m2,s1.trans s2,h2⟩
end
def ownOf (h:List Ob) (all:List Nat):AV→Option Nat
 | .sl i off n =>
  match h[i]? with
  | some (.row _ _ es g true sh)=>if okSl es g off n=true∧(off=0∧n=es.length∧sh=false∧all.count i=1) then some i else none
  | _=>none
 | _=>none
def ownedL (h:List Ob) (all:List Nat) (vs:List AV):List Nat:=vs.filterMap (ownOf h all)
def shareL (h:List Ob) (all:List Nat) (vs:List AV):List Nat:=vs.flatMap fun a=>if (ownOf h all a).isSome=true then [] else rowsOf a
theorem ownOf_spec {h:List Ob} {all:List Nat} {a:AV} {i:Nat} (ho:ownOf h all a=some i) :
  ∃ k E es gr,a=.sl i 0 es.length∧h[i]? = some (.row k E es gr true false)∧okSl es gr 0 es.length=true∧all.count i=1∧resOne h all a=some (.own k E es):=by
 unfold ownOf at ho
 split at ho
 ·rename_i j off n
  split at ho
  ·rename_i k E es gr sh hj
   split at ho
   ·rename_i hc;simp only [Option.some.injEq] at ho;subst ho;obtain ⟨h1,rfl,rfl,rfl,h5⟩:=hc;refine ⟨k,E,es,gr,rfl,hj,h1,h5,?_⟩;simp [resOne,hj,h1,h5]
   ·cases ho
  ·cases ho
 ·cases ho
theorem ownOf_none {h:List Ob} {all:List Nat} {a r:AV} (ho:ownOf h all a=none) (hr:resOne h all a=some r):(r=a∧∃ f k es,a=.list f k es)∨view h a=some r:=by
 unfold resOne at hr
 split at hr
 ·rename_i j off n;right
  split at hr
  ·rename_i k E es gr sh hj
   split at hr
   ·rename_i hok
    split at hr
    ·rename_i hc;unfold ownOf at ho;simp only [hj,hok,true_and] at ho;rw [if_pos hc] at ho
     cases ho
    ·simp only [Option.some.injEq] at hr;subst hr;simp [view,telems,hj,hok]
   ·cases hr
  ·cases hr
 ·rename_i f k es;simp only [Option.some.injEq] at hr;exact Or.inl ⟨hr.symm,_,_,_,rfl⟩
 ·exact Or.inr hr
theorem count_rows (h:List Ob) (all:List Nat) (j:Nat):∀ (vs:List AV),(rowsOfL vs).count j=(ownedL h all vs).count j+(shareL h all vs).count j
 | []=>by simp [rowsOfL,ownedL,shareL]
 | a::vs=>by
  have ih:=count_rows h all j vs;simp only [rowsOfL,List.count_append,ownedL,shareL,List.flatMap_cons,List.filterMap_cons] at ih ⊢
  cases ho:ownOf h all a with
  | none=>simp; omega
  | some i =>
   obtain ⟨k,E,es,gr,rfl,_⟩:=ownOf_spec ho;simp only [rowsOf,Option.isSome_some,if_true,List.count_nil,List.count_cons];omega
theorem view_not_own {h:List Ob} {a r:AV} (hv:view h a=some r):∀ k E es,r≠.own k E es:=by
 intro k E es hr;subst hr
 cases a <;> simp [view] at hv
 all_goals (try (split at hv <;> simp at hv))
theorem unown_plain {n:Nat} {r:AV} (hr:∀ k E es,r≠.own k E es):unown n r=(r,[]):=by
 cases r <;> first | rfl | exact absurd rfl (hr _ _ _)
theorem one_plain {h:List Ob} {all:List Nat} {a r:AV} (ho:ownOf h all a=none) (hr:resOne h all a=some r):∀ k E es,r≠.own k E es:=by
 rcases ownOf_none ho hr with ⟨rfl,f,k,es,rfl⟩ | hv
 ·simp
 ·exact view_not_own hv
theorem res_new {h:List Ob} {all:List Nat}:∀ {vs rs:List AV},resL h all vs=some rs→∀ (n q:Nat) (o:Ob),(unownL n rs).2[q]? = some o →
  ∃ j k E es gr,(ownedL h all vs)[q]? = some j∧o=.row k E es none true false∧h[j]? = some (.row k E es gr true false)∧okSl es gr 0 es.length=true
 | [],rs,hr,n,q,o,ho=>by
  simp only [resL,Option.some.injEq] at hr;subst hr;simp [unownL] at ho
 | a::vs,rs,hr,n,q,o,ho=>by
  simp only [resL] at hr
  split at hr
  ·rename_i r rs' h1 h2;simp only [Option.some.injEq] at hr;subst hr;simp only [unownL] at ho
   cases hown:ownOf h all a with
   | none =>
    rw [unown_plain (one_plain hown h1)] at ho;simp only [List.nil_append,List.length_nil,Nat.add_zero] at ho;simpa only [ownedL,List.filterMap_cons,hown] using res_new h2 n q o ho
   | some i =>
    obtain ⟨k,E,es,gr,rfl,h3,h4,h5,h6⟩:=ownOf_spec hown;rw [h1] at h6;simp only [Option.some.injEq] at h6;subst h6;simp only [unown,List.length_singleton,List.singleton_append] at ho;simp only [ownedL,List.filterMap_cons,hown]
    cases q with
    | zero =>
     simp at ho;exact ⟨i,k,E,es,gr,by simp,ho.symm,h3,h4⟩
    | succ q =>
     have:=res_new h2 (n+1) q o (by simpa using ho);simpa only [ownedL,List.getElem?_cons_succ] using this
  ·cases hr
theorem ownedL_mem {h:List Ob} {all:List Nat} {vs:List AV} {j:Nat} (hj:j∈ownedL h all vs):all.count j=1∧∃ k E es gr,h[j]? = some (.row k E es gr true false):=by
 simp only [ownedL,List.mem_filterMap] at hj;obtain ⟨a,_,ha⟩:=hj;obtain ⟨k,E,es,gr,_,h2,_,h4,_⟩:=ownOf_spec ha;exact ⟨h4,k,E,es,gr,h2⟩
theorem share_get {j:Nat}:∀ (is:List Nat) (h:List Ob),j∉is→(share is h)[j]? = h[j]?
 | [],_,_=>rfl
 | i::is,h,hn=>by
  simp only [share];rw [share_get is _ (fun hm=>hn (List.mem_cons_of_mem _ hm)),List.getElem?_modify]
  have:i≠j:=fun e=>hn (by simp [e])
  simp [this]
section
variable {P : Program} {Γ : Nat → Option AV} {N N' : Env} {g g2 g2' g3 : G} {h hh hh' h3 : List Ob} {w w2 : World}
theorem res_V (H2:Inv P Γ N' g2 hh w2) (x:Ext hh.length g2 hh g2' hh') (x0:Ext 0 g2' hh' g3 h3) {all:List Nat}:∀ {vs rs:List AV} {us:List Value},(∀ i∈shareL hh all vs,Cov g2' hh w2 g2 i)→VL g2 hh vs us→resL hh all vs=some rs →
  ∀ n,(∀ q o,(unownL n rs).2[q]? = some o→h3[n+q]? = some o)→(∀ q j,(ownedL hh all vs)[q]? = some j→g3.ρ (n+q)=g2.ρ j)→VL g3 h3 (unownL n rs).1 us∧treeRL rs=true
 | [],rs,us,_,hv,hr,n,_,_=>by
  simp only [resL,Option.some.injEq] at hr;subst hr;exact ⟨by simpa only [unownL,VL] using hv,rfl⟩
 | a::vs,rs,us,hc,hv,hr,n,hos,hρ=>by
  simp only [resL] at hr
  split at hr
  ·rename_i r rs' h1 h2;simp only [Option.some.injEq] at hr;subst hr;simp only [VL] at hv;obtain ⟨u,us',rfl,hv1,hv2⟩:=hv
   cases hown:ownOf hh all a with
   | none =>
    have hpl:=unown_plain (n:=n) (one_plain hown h1)
    have hsh:∀ i∈rowsOf a,Cov g2' hh w2 g2 i:=fun i hi=>hc i (by simp only [shareL,List.flatMap_cons,hown]; simp [hi])
    have htail:=res_V H2 x x0 (vs:=vs) (rs:=rs') (us:=us') (fun i hi=>hc i (by simp only [shareL,List.flatMap_cons,List.mem_append]; exact Or.inr hi)) hv2 h2 n
     (fun q o hq=>hos q o (by simp only [unownL,hpl,List.nil_append,List.length_nil,Nat.add_zero]; exact hq))
     (fun q j hq=>hρ q j (by simpa only [ownedL,List.filterMap_cons,hown] using hq))
    have hone:V g3 h3 r u∧treeR r=true:=by
     have htr:bel 0 r=true→treeR r=true:=by
      intro hb
      cases r <;> first | exact hb | exact absurd rfl (one_plain hown h1 _ _ _)
     rcases ownOf_none hown h1 with ⟨rfl,f,k,es,rfl⟩ | hvw
     ·have hb:bel 0 (.list f k es)=true:=by
       simp only [V] at hv1;simp only [bel];exact okList_bel hv1.1
      exact ⟨V_mono x0 hb (V_mono x (V_bel hv1) hv1),htr hb⟩
     ·have hb:=view_bel H2 hv1 hvw;exact ⟨V_mono x0 hb (V_view H2 x hsh hv1 hvw),htr hb⟩
    simp only [unownL,hpl,List.length_nil,Nat.add_zero,VL,treeRL,Bool.and_eq_true];exact ⟨⟨u,us',rfl,hone.1,htail.1⟩,hone.2,htail.2⟩
   | some i =>
    obtain ⟨k,E,es,gr,rfl,h3',h4,h5,h6⟩:=ownOf_spec hown;rw [h1] at h6;simp only [Option.some.injEq] at h6;subst h6
    have htail:=res_V H2 x x0 (vs:=vs) (rs:=rs') (us:=us') (fun i hi=>hc i (by simp only [shareL,List.flatMap_cons,List.mem_append]; exact Or.inr hi)) hv2 h2 (n+1)
     (fun q o hq=>by
      have:=hos (q+1) o (by simpa only [unownL,unown,List.length_singleton,List.singleton_append,List.getElem?_cons_succ] using hq)
      rwa [show n+1+q=n+(q+1) by omega])
     (fun q j hq=>by
      have:=hρ (q+1) j (by simpa only [ownedL,List.filterMap_cons,hown,List.getElem?_cons_succ] using hq)
      rwa [show n+1+q=n+(q+1) by omega])
    have hrow:=hos 0 _ (by simp [unownL,unown]; rfl);have hr0:=hρ 0 i (by simp [ownedL,hown]);simp only [Nat.add_zero] at hrow hr0;have hob:=H2.ob i _ h3';simp only [OV] at hob;obtain ⟨_,_,hfl,_,_⟩:=hob;simp only [unownL,unown,List.length_singleton,VL,treeRL,treeR,Bool.and_eq_true];refine ⟨⟨u,us',rfl,?_,htail.1⟩,okList_bel (hfl (by trivial)),htail.2⟩;simp only [V] at hv1 ⊢;obtain ⟨k',E',es',gr',fl',sh',q1,q2,aa,cap,q3,q4,q5,q6⟩:=hv1;rw [h3'] at q1;simp only [Option.some.injEq,Ob.row.injEq] at q1;obtain ⟨rfl,rfl,rfl,rfl,rfl,rfl⟩:=q1;refine ⟨_,_,_,none,_,_,hrow,q2,aa,cap,q3,q4,q5,fun _ => ?_⟩;rw [hr0];exact q6 h4
  ·cases hr
theorem rebuild (H:Inv P Γ N g h w) (H2:Inv P Γ { K:=fun b=>w.heap[b]?,M0:=g.M,MM:=g.MM,w0:=w } g2 hh w2) (hM:∀ b o v,g.M b o=some v→g2.M b o=some v) {vs rs:List AV} {us:List Value} (hv:VL g2 hh vs us) (hr:resL hh (rowsOfL vs) vs=some rs) :
  ∃ g3,treeRL rs=true∧Inv P Γ N g3 (h++(unownL h.length rs).2) w2∧VL g3 (h++(unownL h.length rs).2) (unownL h.length rs).1 us∧(∀ i,i<h.length→g3.ρ i=g.ρ i) ∧
   (∀ b o v,g.M b o=some v→g3.M b o=some v)∧(∀ b,b<w.heap.size→w2.heap[b]? = w.heap[b]?):=by
 obtain ⟨g2',hρ2,hMM2,hM2,H2',x,hcov⟩:=share_sound (shareL hh (rowsOfL vs) vs) H2
 have hheap:∀ b,b<w.heap.size→w2.heap[b]? = w.heap[b]? := by
  intro b hb;rw [H2.keep b w.heap[b] (Array.getElem?_eq_getElem hb),Array.getElem?_eq_getElem hb]
 have hbig:w.heap.size≤w2.heap.size:=by
  rcases Nat.eq_zero_or_pos w.heap.size with h0 | h0
  ·omega
  ·have:=hheap (w.heap.size - 1) (by omega);rw [Array.getElem?_eq_getElem (xs:=w.heap) (by omega)] at this;have:=lt_of_get (l:=w2.heap.toList) (i:=w.heap.size - 1) (by simpa using this);simp at this;omega
 have hnewb:∀ i b y,g2.ρ i=some (b,y)→w.heap.size≤b∧b<w2.heap.size:=by
  intro i b y hi;obtain ⟨h1,h2⟩:=H2.own i b y hi;refine ⟨?_,h2⟩
  rcases Nat.lt_or_ge b w.heap.size with h3 | h3
  ·simp only [Array.getElem?_eq_getElem h3] at h1; cases h1
  ·exact h3
 have hnd:(ownedL hh (rowsOfL vs) vs).Nodup:=by
  rw [List.nodup_iff_count];intro j
  by_cases hj:j∈ownedL hh (rowsOfL vs) vs
  ·have h1:=(ownedL_mem hj).1;have h2:=count_rows hh (rowsOfL vs) j vs;omega
  ·rw [List.count_eq_zero_of_not_mem hj]; omega
 have hnsh:∀ j∈ownedL hh (rowsOfL vs) vs,j∉shareL hh (rowsOfL vs) vs:=by
  intro j hj hs;have h1:=(ownedL_mem hj).1;have h2:=count_rows hh (rowsOfL vs) j vs;have h3:=List.count_pos_iff.2 hj;have h4:=List.count_pos_iff.2 hs;omega
 generalize hown:ownedL hh (rowsOfL vs) vs=owned at hnd hnsh
 let g3:G:={ ρ:=fun i=>if i<h.length then g.ρ i else (owned[i - h.length]?).bind g2.ρ,M:=g2'.M,MM:=g.MM }
 have hMall:∀ b o v,g.M b o=some v→g2'.M b o=some v:=fun b o v hv=>hM2 _ _ _ (hM _ _ _ hv)
 have hρold:∀ i,i<h.length→g3.ρ i=g.ρ i:=fun i hi=>if_pos hi
 have hρnew:∀ q,g3.ρ (h.length+q)=(owned[q]?).bind g2.ρ:=fun q=>by
  show (if h.length+q<h.length then _ else _)=_
  rw [if_neg (by omega),show h.length+q - h.length=q by omega]
 have hMMeq:g2'.MM=g.MM:=by rw [hMM2,H2.mmE]
 have hE:Ext h.length g h g3 (h++(unownL h.length rs).2):=Ext.app _ hρold hMall rfl;have x0:Ext 0 g2' (share (shareL hh (rowsOfL vs) vs) hh) g3 (h++(unownL h.length rs).2):=Ext.zero (fun _ _ _ x=>x) (fun _ _ hx=>by rw [← hMMeq]; exact hx)
 obtain ⟨hV3,hT⟩:=res_V H2 x x0 hcov hv hr h.length (fun q o hq=>by rw [List.getElem?_append_right (by omega),show h.length+q - h.length=q by omega]; exact hq) (fun q j hq=>by
  rw [hown] at hq;rw [hρnew,hq]
  rfl)
 have hcase:∀ {i b y},g3.ρ i=some (b,y)→(i<h.length∧g.ρ i=some (b,y))∨∃ q j,i=h.length+q∧owned[q]? = some j∧g2.ρ j=some (b,y):=by
  intro i b y hi
  by_cases hil:i<h.length
  ·rw [hρold i hil] at hi; exact Or.inl ⟨hil,hi⟩
  ·obtain ⟨q,rfl⟩:∃ q,i=h.length+q:=⟨i - h.length,by omega⟩;rw [hρnew] at hi
   cases hq:owned[q]? with
   | none=>rw [hq] at hi; cases hi
   | some j=>rw [hq] at hi; exact Or.inr ⟨q,j,rfl,hq,hi⟩
 refine ⟨g3,hT,⟨H2.os.trans H.os,H2.tape.trans H.tape,H2.output.trans H.output,?_,?_,?_,?_,H2'.mem,?_,?_,?_,?_,?_,H.mmE⟩,hV3,hρold,hMall,hheap⟩
 ·intro b o hb;exact H2.keep b o (H.keep b o hb)
 ·intro i b y hi
  rcases hcase hi with ⟨_,h2⟩ | ⟨q,j,_,_,h2⟩
  ·exact ⟨(H.own i b y h2).1,Nat.lt_of_lt_of_le (H.own i b y h2).2 hbig⟩
  ·obtain ⟨h3,h4⟩:=hnewb j b y h2;refine ⟨?_,h4⟩
   cases hk:N.K b with
   | none=>rfl
   | some o =>
    have:=H.keep b o hk;have:=lt_of_get (l:=w.heap.toList) (i:=b) (by simpa using this);simp at this;omega
 ·intro i j b y z hi hj
  rcases hcase hi with ⟨h1,h2⟩ | ⟨q,p,rfl,h2,h4⟩
  ·rcases hcase hj with ⟨h5,h6⟩ | ⟨q',p',rfl,h5,h6⟩
   ·exact H.inj i j b y z h2 h6
   ·have:=(hnewb p' b z h6).1;have:=(H.own i b y h2).2;omega
  ·rcases hcase hj with ⟨h5,h6⟩ | ⟨q',p',rfl,h5,h6⟩
   ·have:=(hnewb p b y h4).1;have:=(H.own j b z h6).2;omega
   ·have hp:=H2.inj p p' b y z h4 h6;subst hp
    have hq:q=q':=by
     exact (List.getElem?_inj (lt_of_get h2) hnd).1 (h2.trans h5.symm)
    rw [hq]
 ·intro i hi;rw [List.length_append] at hi;obtain ⟨q,rfl⟩:∃ q,i=h.length+q:=⟨i - h.length,by omega⟩;rw [hρnew]
  cases hq:owned[q]? with
  | none=>rfl
  | some j =>
   exfalso
   have hlen:∀ {us ws:List AV},resL hh (rowsOfL vs) us=some ws→∀ n,(unownL n ws).2.length=(ownedL hh (rowsOfL vs) us).length:=by
    intro us
    induction us with
    | nil=>intro ws hw n; simp only [resL,Option.some.injEq] at hw; subst hw; simp [unownL,ownedL]
    | cons a us ih =>
     intro ws hw n;simp only [resL] at hw
     split at hw
     ·rename_i r rs' h1 h2;simp only [Option.some.injEq] at hw;subst hw
      cases ho:ownOf hh (rowsOfL vs) a with
      | none =>
       simp only [unownL,unown_plain (one_plain ho h1),List.nil_append,List.length_nil,Nat.add_zero,ownedL,List.filterMap_cons,ho];exact ih h2 n
      | some i =>
       obtain ⟨k,E,es,gr,rfl,_,_,_,h6⟩:=ownOf_spec ho;rw [h1] at h6;simp only [Option.some.injEq] at h6;subst h6;simp only [ownedL] at ih;simp only [unownL,unown,List.singleton_append,ownedL,List.filterMap_cons,ho,List.length_cons];rw [ih h2]
     ·cases hw
   have:=hlen hr h.length;rw [hown] at this;have:=lt_of_get hq;omega
 ·intro b es ck hb
  have h1:g2.MM b=some (es,ck):=by rw [H2.mmE]; exact hb
  refine ⟨(H2.mm b es ck h1).1,?_⟩;intro i y hi
  rcases hcase hi with ⟨_,h3⟩ | ⟨q,p,_,_,h4⟩
  ·exact (H.mm b es ck hb).2 i y h3
  ·exact (H2.mm b es ck h1).2 p y h4
 ·intro i b sz st o v hi hv
  rcases hcase hi with ⟨h2,h3⟩ | ⟨q,p,rfl,h2,h4⟩
  ·have hb:=(H.own i b _ h3).2;have h5:=H2'.mK b o v _ hv (Array.getElem?_eq_getElem hb);obtain ⟨k,E,es,gr,fl,h6,h7⟩:=H.mown i b sz st o v h3 h5;exact ⟨k,E,es,gr,fl,by rw [List.getElem?_append_left (lt_of_get h6)]; exact h6,h7⟩
  ·exfalso;obtain ⟨k,E,es,gr,fl,h6,h7⟩:=H2'.mown p b sz st o v (by rw [hρ2]; exact h4) hv;have hpm:p∈owned:=List.mem_of_getElem? h2;rw [share_get _ _ (hnsh p hpm)] at h6;rw [← hown] at hpm;obtain ⟨_,k',E',es',gr',h8⟩:=ownedL_mem hpm;rw [h8] at h6
   cases h6
 ·intro i o hi
  by_cases hil:i<h.length
  ·rw [List.getElem?_append_left hil] at hi;exact OV_mono hE (hρold i hil) (fun b y hb=>hheap b (H.own i b y hb).2) (H.ob i o hi)
  ·obtain ⟨q,rfl⟩:∃ q,i=h.length+q:=⟨i - h.length,by omega⟩;rw [List.getElem?_append_right (by omega),show h.length+q - h.length=q by omega] at hi;obtain ⟨j,k,E,es,gr,h2,rfl,h4,h5⟩:=res_new hr h.length q o hi;have hob:=H2.ob j _ h4;simp only [OV] at hob ⊢;obtain ⟨q1,q2,q3,q4,q5⟩:=hob;refine ⟨q1,q2,q3,by simp,?_⟩;rw [hown] at h2;rw [hρnew,h2];simp only [Option.bind_some]
   have hgr:gr.getD 0=0:=by
    cases gr with
    | none=>rfl
    | some lo=>simp only [okSl,Bool.and_eq_true,decide_eq_true_eq] at h5; simpa using h5.1
   cases hρj:g2.ρ j with
   | none=>rw [hρj] at q5; exact q5
   | some y =>
    obtain ⟨b,sz,st⟩:=y;rw [hρj,hgr] at q5;simp only [Option.getD_none] at q5 ⊢;obtain ⟨h6,c,E',fz,ws,h7,h8,h9,h10,h11⟩:=q5;refine ⟨h6,c,E',fz,ws,h7,h8,h9,?_,h11⟩;rw [List.drop_zero] at h10 ⊢;exact VE_mono x0 (okList_bel (q3 (by trivial))) (VE_mono (x.mono (Nat.zero_le _)) (okList_bel (q3 (by trivial))) h10)
 ·intro n a hn;obtain ⟨h1,ws,h2,h3⟩:=H.glob n a hn;exact ⟨h1,ws,VL_mono hE (VL_bel h2) h2,fun j hj=>hMall _ _ _ (h3 j hj)⟩
 ·intro b o v B hv hB;exact H.mK b o v B (H2'.mK b o v B hv (H.keep b B hB)) hB
end
section
variable {P : Program} {Γ : Nat → Option AV}
theorem rebuildA {N:Env} {g g2:G} {h hh:List Ob} {w w2:World} (H:Inv P Γ N g h w) (H2:Inv P Γ { K:=fun b=>w.heap[b]?,M0:=g.M,MM:=g.MM,w0:=w } g2 hh w2) (hM:∀ b o v,g.M b o=some v→g2.M b o=some v) {v r:AV} {u:Value} (hv:V g2 hh v u) (hr:resA hh v=some r) :
  ∃ g3,treeA r=true∧Inv P Γ N g3 (h++(unownA h.length r).2) w2∧V g3 (h++(unownA h.length r).2) (unownA h.length r).1 u∧(∀ i,i<h.length→g3.ρ i=g.ρ i) ∧
   (∀ b o v,g.M b o=some v→g3.M b o=some v)∧(∀ b,b<w.heap.size→w2.heap[b]? = w.heap[b]?):=by
 by_cases ht:∃ vs,v=.tup vs
 ·obtain ⟨vs,rfl⟩:=ht;simp only [resA,Option.map_eq_some_iff] at hr;obtain ⟨rs,hr,rfl⟩:=hr;simp only [V] at hv;obtain ⟨us,rfl,hv⟩:=hv;obtain ⟨g3,h1,h2,h3,h4⟩:=rebuild H H2 hM hv hr;exact ⟨g3,h1,h2,by simp only [unownA,V]; exact ⟨us,rfl,h3⟩,h4⟩
 ·have hr2:resOne hh (rowsOf v) v=some r:=by
   cases v <;> first | exact hr | exact absurd ⟨_,rfl⟩ ht
  have hrt:∀ vs,r≠.tup vs:=by
   rintro vs rfl
   cases hown:ownOf hh (rowsOf v) v with
   | some i =>
    obtain ⟨k,E,es,gr,rfl,_,_,_,h6⟩:=ownOf_spec hown;rw [hr2] at h6
    cases h6
   | none =>
    rcases ownOf_none hown hr2 with ⟨h1,f,k,es,rfl⟩ | hvw
    ·cases h1
    ·cases v <;> simp [view] at hvw
     all_goals first
      | exact ht ⟨_,rfl⟩
      | (split at hvw <;> cases hvw)
  have hl:resL hh (rowsOfL [v]) [v]=some [r]:=by
   simp [resL,rowsOfL,hr2]
  have hvl:VL g2 hh [v] [u]:=by simp only [VL]; exact ⟨u,[],rfl,hv,rfl⟩
  obtain ⟨g3,h1,h2,h3,h4⟩:=rebuild H H2 hM hvl hl
  have hun:unownA h.length r=unown h.length r:=by cases r <;> first | rfl | exact absurd rfl (hrt _)
  have htr:treeA r=treeR r:=by cases r <;> first | rfl | exact absurd rfl (hrt _)
  have hol:(unownL h.length [r]).2=(unown h.length r).2:=by simp [unownL]
  have hov:(unownL h.length [r]).1=[(unown h.length r).1]:=by simp [unownL]
  rw [hol] at h2 h3;rw [hov] at h3;rw [hun,htr];simp only [VL] at h3;obtain ⟨u',us',h5,h6,rfl⟩:=h3
  cases h5
  refine ⟨g3,?_,h2,h6,h4⟩;simpa [treeRL] using h1
theorem PureCon.ofS {f:FuncId} {as:List AV} {r:AV} (hb:hasBody P f=true) (hr:∀ (N:Env) (g0:G) (f0:FuncId) (cs0:List Frame) (m:Machine),Sim P Γ N g0 f0 cs0 (.cl f as [] []) m→∃ m' v hh,Steps P m m'∧Sim P Γ N g0 f0 cs0 (.back [] v hh) m'∧resA hh v=some r):PureCon P Γ f as r:=by
 refine ⟨hb,fun hbel N g h w us H hV cs => ?_⟩;have hz:Ext 0 g h { ρ:=fun _=>none,M:=g.M,MM:=g.MM } []:=Ext.zero (fun _ _ _ x=>x) (fun _ _ x=>x)
 have H0:Inv P Γ { K:=fun b=>w.heap[b]?,M0:=g.M,MM:=g.MM,w0:=w } { ρ:=fun _=>none,M:=g.M,MM:=g.MM } [] w:=by
  refine ⟨rfl,rfl,rfl,fun b o hb=>hb,fun i b x hi=>(by cases hi),fun i j b x y hi=>(by cases hi),fun _ _=>rfl,H.mem,fun b es ck hb=>⟨(H.mm b es ck hb).1,fun i x hi=>(by cases hi)⟩,
   fun i b sz st o v hi=>(by cases hi),fun i o hi=>(by simp at hi),?_,fun b o v B hv _=>hv,rfl⟩
  intro n a hn;obtain ⟨h1,vs,h2,h3⟩:=H.glob n a hn;exact ⟨h1,vs,VL_mono hz h1 h2,h3⟩
 have hs:Sim P Γ { K:=fun b=>w.heap[b]?,M0:=g.M,MM:=g.MM,w0:=w } { ρ:=fun _=>none,M:=g.M,MM:=g.MM } f cs (.cl f as [] []) (lone (Frame.enter P f us.toArray .normal) ([]++cs) w) :=
  ⟨_,w,us.toArray,[],rfl,H0,fun _ _ _ x=>x,by simpa using VL_mono hz hbel hV,hb,rfl,fun _=>rfl⟩
 obtain ⟨m',v,hh,steps,⟨g2,w2,u,fr,rfl,H2,hM,hv,hfn,hleave⟩,hres⟩:=hr _ _ _ _ _ hs
 ·obtain ⟨g3,h1,h2,h3,h4,h5,h6⟩:=rebuildA H H2 hM hv hres;exact ⟨.returned u,w2,fr,⟨u,g3,rfl,h1,h2,h3,h4,h5,h6⟩,steps,hfn,hleave⟩
theorem DieCon.ofS {f:FuncId} {as:List AV} {v:AV} (hb:hasBody P f=true) (hr:∀ (N:Env) (g0:G) (f0:FuncId) (cs0:List Frame) (m:Machine),Sim P Γ N g0 f0 cs0 (.cl f as [] []) m→∃ m' hh,Steps P m m'∧Sim P Γ N g0 f0 cs0 (.die [] v hh) m') (hbv:bel 0 v=true) (hnv:noM v=true):DieCon P Γ f as v:=by
 refine ⟨hb,hbv,hnv,fun hbel N g h w us H hV cs => ?_⟩;have hz:Ext 0 g h { ρ:=fun _=>none,M:=g.M,MM:=g.MM } []:=Ext.zero (fun _ _ _ x=>x) (fun _ _ x=>x)
 have H0:Inv P Γ { K:=fun b=>w.heap[b]?,M0:=g.M,MM:=g.MM,w0:=w } { ρ:=fun _=>none,M:=g.M,MM:=g.MM } [] w:=by
  refine ⟨rfl,rfl,rfl,fun b o hb=>hb,fun i b x hi=>(by cases hi),fun i j b x y hi=>(by cases hi),fun _ _=>rfl,H.mem,fun b es ck hb=>⟨(H.mm b es ck hb).1,fun i x hi=>(by cases hi)⟩,
   fun i b sz st o v hi=>(by cases hi),fun i o hi=>(by simp at hi),?_,fun b o v B hv _=>hv,rfl⟩
  intro n a hn;obtain ⟨h1,vs,h2,h3⟩:=H.glob n a hn;exact ⟨h1,vs,VL_mono hz h1 h2,h3⟩
 have hs:Sim P Γ { K:=fun b=>w.heap[b]?,M0:=g.M,MM:=g.MM,w0:=w } { ρ:=fun _=>none,M:=g.M,MM:=g.MM } f cs (.cl f as [] []) (lone (Frame.enter P f us.toArray .normal) ([]++cs) w) :=
  ⟨_,w,us.toArray,[],rfl,H0,fun _ _ _ x=>x,by simpa using VL_mono hz hbel hV,hb,rfl,fun _=>rfl⟩
 obtain ⟨m',hh,steps,⟨g2,w2,u,fr,rfl,H2,hM,hv,hfn,hleave⟩⟩:=hr _ _ _ _ _ hs;obtain ⟨g3,_,h2,_,h4,h5,h6⟩:=rebuild (vs:=[]) (rs:=[]) (us:=[]) H H2 hM (by simp [VL]) (by simp [resL]);simp only [unownL,List.append_nil] at h2;exact ⟨_,w2,fr,⟨u,g3,rfl,h2,V_noM hbv hnv hv,h4,h5,h6⟩,steps,hfn,hleave⟩
theorem PureCon.of {f:FuncId} {as:List AV} {v r:AV} {hh:List Ob} (hb:hasBody P f=true) (hr:Reach P Γ (.cl f as [] []) (.back [] v hh)) (hres:resA hh v=some r):PureCon P Γ f as r :=
 .ofS hb fun _ _ _ _ m hm=>by
  obtain ⟨m',h1,h2⟩:=reach_sound hr m hm;exact ⟨m',v,hh,h1,h2,hres⟩
theorem DieCon.of {f:FuncId} {as:List AV} {v:AV} {hh:List Ob} (hb:hasBody P f=true) (hr:Reach P Γ (.cl f as [] []) (.die [] v hh)) (hbv:bel 0 v=true) (hnv:noM v=true):DieCon P Γ f as v :=
 .ofS hb (fun _ _ _ _ m hm=>by
  obtain ⟨m',h1,h2⟩:=reach_sound hr m hm
  exact ⟨m',hh,h1,h2⟩) hbv hnv
end
end Go.AM
namespace Go.AM
def stepN (P:Program) (Γ:Nat→Option AV):Nat→Cfg→Cfg
 | 0,c=>c
 | n+1,c=>stepN P Γ n (stepA P Γ c)
theorem Reach.steps {P:Program} {Γ:Nat→Option AV}:∀ (n:Nat) (c:Cfg),Reach P Γ c (stepN P Γ n c)
 | 0,c=>.refl c
 | n+1,c=>.trans (.step c) (Reach.steps n _)
def stepS (P:Program) (Γ:Nat→Option AV):Cfg→Cfg
 | .fr f up h=>match f.md with
  | .run=>match f.its with
   | .code (.loop m b)::k=>.fr { f with its:=.code (.loop m b)::k } up h
   | .inLoop m b::k=>.fr { f with its:=.inLoop m b::k } up h
   | .code (.dreg l ws gs)::k=>.fr { f with its:=.code (.dreg l ws gs)::k } up h
   | its=>stepRun P Γ f up h its
  | _=>stepOut P Γ f up h
 | .cl g args up h=>.cl g args up h
 | .back (c::up) v h=>match c.finish v with
  | some c'=>.fr c' up h
  | none=>.bad
 | .back [] v h=>.back [] v h
 | .die (c::up) v h=>match c.md with
  | .run=>.fr { c with md:=.pan v false } up h
  | _=>.bad
 | .die [] v h=>.die [] v h
 | .bad=>.bad
theorem stepS_or (P:Program) (Γ:Nat→Option AV) (c:Cfg):stepS P Γ c=c∨stepS P Γ c=stepA P Γ c:=by
 cases c with
 | fr f up h =>
  obtain ⟨md,fn,its,t,ds,kind,base⟩:=f
  cases md with
  | run =>
   simp only [stepS,stepA]
   split <;> first | exact Or.inl rfl | exact Or.inr rfl
  | ret=>exact Or.inr rfl
  | pan v rc=>exact Or.inr rfl
 | cl g args up h=>exact Or.inl rfl
 | back up v h=>cases up <;> exact Or.inr rfl
 | die up v h=>cases up <;> exact Or.inr rfl
 | bad=>exact Or.inl rfl
def runS (P:Program) (Γ:Nat→Option AV):Nat→Cfg→Cfg
 | 0,c=>c
 | n+1,c=>runS P Γ n (stepS P Γ c)
theorem Reach.runS {P:Program} {Γ:Nat→Option AV}:∀ (n:Nat) (c:Cfg),Reach P Γ c (runS P Γ n c)
 | 0,c=>.refl c
 | n+1,c=>by
  refine .trans ?_ (Reach.runS n _)
  rcases stepS_or P Γ c with h | h
  ·rw [h]; exact .refl c
  ·rw [h]; exact .step c
theorem Reach.on {P:Program} {Γ:Nat→Option AV} (n:Nat) {c c':Cfg} (h:Reach P Γ (AM.runS P Γ n c) c'):Reach P Γ c c':=.trans (Reach.runS n c) h
theorem Reach.one {P:Program} {Γ:Nat→Option AV} {c c':Cfg} (h:Reach P Γ (stepA P Γ c) c'):Reach P Γ c c':=.trans (.step c) h
section
variable {P : Program} {Γ : Nat → Option AV} {md : Md} {fn : FuncId} {its k : List It} {t : List AV} {ds : List ADef} {kind : FK} {base : Nat} {up : List Fr} {h : List Ob}
theorem runS_zero {c:Cfg}:runS P Γ 0 c=c:=rfl
theorem runS_succ {n:Nat} {c:Cfg}:runS P Γ (n+1) c=runS P Γ n (stepS P Γ c):=rfl
end
section
variable {P : Program} {Γ : Nat → Option AV} {fn : FuncId} {k : List It} {t : List AV} {ds : List ADef} {kind : FK} {base : Nat} {up : List Fr} {h : List Ob}
theorem s_skip:stepS P Γ (.fr ⟨.run,fn,.code .skip::k,t,ds,kind,base⟩ up h)=.fr ⟨.run,fn,k,t,ds,kind,base⟩ up h:=rfl
theorem s_reg {os:List AG}:stepS P Γ (.fr ⟨.run,fn,.code (.reg os)::k,t,ds,kind,base⟩ up h)=.fr ⟨.run,fn,.ops os::k,t,ds,kind,base⟩ up h:=rfl
theorem s_seq {a b:ACode}:stepS P Γ (.fr ⟨.run,fn,.code (.seq a b)::k,t,ds,kind,base⟩ up h)=.fr ⟨.run,fn,.code a::.code b::k,t,ds,kind,base⟩ up h:=rfl
theorem s_cond {x:AX} {a b:ACode}:stepS P Γ (.fr ⟨.run,fn,.code (.cond x a b)::k,t,ds,kind,base⟩ up h)=(match ax t x with
  | .bool v=>.fr ⟨.run,fn,.code (if v then a else b)::k,t,ds,kind,base⟩ up h
  | _=>.bad):=rfl
theorem s_block {id:Nat} {m:List Bool} {b:ACode}:stepS P Γ (.fr ⟨.run,fn,.code (.block id m b)::k,t,ds,kind,base⟩ up h)=.fr ⟨.run,fn,.code b::.inBlock id m::k,t,ds,kind,base⟩ up h:=rfl
theorem s_inBlock {id:Nat} {m:List Bool}:stepS P Γ (.fr ⟨.run,fn,.inBlock id m::k,t,ds,kind,base⟩ up h)=.fr ⟨.run,fn,k,maskT m t,ds,kind,base⟩ up h:=rfl
theorem s_exit {id:Nat}:stepS P Γ (.fr ⟨.run,fn,.code (.exit id)::k,t,ds,kind,base⟩ up h)=(match exitA id k with
  | some (k',m)=>.fr ⟨.run,fn,k',maskT m t,ds,kind,base⟩ up h
  | none=>leave ⟨.run,fn,.code (.exit id)::k,t,ds,kind,base⟩ up h (.exit id)):=rfl
theorem s_ret:stepS P Γ (.fr ⟨.run,fn,.code .ret::k,t,ds,kind,base⟩ up h)=leave ⟨.run,fn,.code .ret::k,t,ds,kind,base⟩ up h .ret:=rfl
theorem s_end:stepS P Γ (.fr ⟨.run,fn,[],t,ds,kind,base⟩ up h)=leave ⟨.run,fn,[],t,ds,kind,base⟩ up h .none:=rfl
theorem s_ops0:stepS P Γ (.fr ⟨.run,fn,.ops []::k,t,ds,kind,base⟩ up h)=.fr ⟨.run,fn,k,t,ds,kind,base⟩ up h:=rfl
theorem s_op {d:Option Nat} {o:AO} {os:List AG}:stepS P Γ (.fr ⟨.run,fn,.ops (⟨d,none,o⟩::os)::k,t,ds,kind,base⟩ up h) =
  goR P ⟨.run,fn,.ops (⟨d,none,o⟩::os)::k,t,ds,kind,base⟩ up h ⟨d,none,o⟩ os k (aop P Γ t h o):=rfl
theorem s_opg {d:Option Nat} {j:Nat} {b:Bool} {o:AO} {os:List AG}:stepS P Γ (.fr ⟨.run,fn,.ops (⟨d,some (j,b),o⟩::os)::k,t,ds,kind,base⟩ up h)=(match wantedA t (some (j,b)) with
  | some true=>goR P ⟨.run,fn,.ops (⟨d,some (j,b),o⟩::os)::k,t,ds,kind,base⟩ up h ⟨d,some (j,b),o⟩ os k (aop P Γ t h o)
  | some false=>.fr ⟨.run,fn,.ops os::k,setD t d (.tup []),ds,kind,base⟩ up h
  | none=>.bad):=rfl
theorem s_loop {m:List Bool} {b:ACode}:stepS P Γ (.fr ⟨.run,fn,.code (.loop m b)::k,t,ds,kind,base⟩ up h)=.fr ⟨.run,fn,.code (.loop m b)::k,t,ds,kind,base⟩ up h:=rfl
theorem s_inLoop {m:List Bool} {b:ACode}:stepS P Γ (.fr ⟨.run,fn,.inLoop m b::k,t,ds,kind,base⟩ up h)=.fr ⟨.run,fn,.inLoop m b::k,t,ds,kind,base⟩ up h:=rfl
theorem s_dreg {l:List Bool} {ws:List Nat} {gs:List AG}:stepS P Γ (.fr ⟨.run,fn,.code (.dreg l ws gs)::k,t,ds,kind,base⟩ up h)=.fr ⟨.run,fn,.code (.dreg l ws gs)::k,t,ds,kind,base⟩ up h:=rfl
theorem s_out:stepS P Γ (.fr ⟨.ret,fn,k,t,ds,kind,base⟩ up h)=stepOut P Γ ⟨.ret,fn,k,t,ds,kind,base⟩ up h:=rfl
theorem s_cl {g:FuncId} {args:List AV}:stepS P Γ (.cl g args up h)=.cl g args up h:=rfl
theorem s_back {c:Fr} {v:AV}:stepS P Γ (.back (c::up) v h)=(match c.finish v with
  | some c'=>.fr c' up h
  | none=>.bad):=rfl
theorem s_back0 {v:AV}:stepS P Γ (.back [] v h)=.back [] v h:=rfl
theorem in_loop {m:List Bool} {b:ACode} {c:Cfg} (h1:Reach P Γ (.fr ⟨.run,fn,.code b::.inLoop m b::k,maskT m t,ds,kind,base⟩ up h) c):Reach P Γ (.fr ⟨.run,fn,.code (.loop m b)::k,t,ds,kind,base⟩ up h) c:=.one h1
theorem re_loop {m:List Bool} {b:ACode} {c:Cfg} (h1:Reach P Γ (.fr ⟨.run,fn,.code b::.inLoop m b::k,maskT m t,ds,kind,base⟩ up h) c):Reach P Γ (.fr ⟨.run,fn,.inLoop m b::k,t,ds,kind,base⟩ up h) c:=.one h1
theorem Reach.con {f:FuncId} {args as:List AV} {r:AV} {c:Cfg} (h1:viewL h args=some as) (h2:PureCon P Γ f as r) (h3:Reach P Γ (.back up (unownA h.length r).1 (afterPure h args r)) c):Reach P Γ (.cl f args up h) c:=.trans (.pure h1 h2) h3
theorem enter_eq {f:FuncId} {F:AFun} (hF:cfun P f=some F) (as:List AV) {c:Cfg} (h1:Reach P Γ (.fr ⟨.run,f,[.code F.body],as++List.replicate (F.nt - as.length) .undef,[],.norm,h.length⟩ up h) c):Reach P Γ (.cl f as up h) c:=by
 refine .one ?_;simp only [stepA,hF,enter];exact h1
end
def slot (t:List AV) (i:Nat):AV:=t.getD i .undef
@[simp] theorem slot_zero (a:AV) (l:List AV):slot (a::l) 0=a:=rfl
@[simp] theorem slot_succ (a:AV) (l:List AV) (n:Nat):slot (a::l) (n+1)=slot l n:=rfl
@[simp] theorem ax_t (t:List AV) (i:Nat):ax t (.t i)=slot t i:=rfl
@[simp] theorem ax_c (t:List AV) (v:AV):ax t (.c v)=v:=rfl
@[simp] theorem ax_g (t:List AV) (n:Nat):ax t (.g n)=.gptr n 0:=rfl
@[simp] theorem ax_f (t:List AV) (n:Nat):ax t (.f n)=.fn (.func n) [] []:=rfl
@[simp] theorem wanted_none (t:List AV):wantedA t none=some true:=rfl
@[simp] theorem wanted_some (t:List AV) (j:Nat) (b:Bool):wantedA t (some (j,b))=(match slot t j with
  | .bool x=>some (x==b)
  | .tup []=>some false
  | _=>none):=rfl
@[simp] theorem result_tmp (Γ:Nat→Option AV) (t:List AV) (h:List Ob) (i:Nat):resultA Γ t h (.tmp i)=some (slot t i):=rfl
@[simp] theorem result_cell (Γ:Nat→Option AV) (t:List AV) (h:List Ob) (a sz:Nat) (g:Bool):resultA Γ t h (.cell a g sz)=loadA Γ h g sz (slot t a):=rfl
@[simp] theorem eqData_sc (s:SK) (x y:AV):eqData (.sc s) x y=eqOne s x y:=rfl
@[simp] theorem eqData_iface1 (t:TypeId) (v:AV):eqData .iface .nili (.ifc t v)=some false:=rfl
@[simp] theorem eqData_iface2 (t:TypeId) (v:AV):eqData .iface (.ifc t v) .nili=some false:=rfl
@[simp] theorem eqData_nil1:eqData .nil .nilf .nilf=some true:=rfl
@[simp] theorem eqData_nil2 (f:Fn) (a b:List AV):eqData .nil .nilf (.fn f a b)=some false:=rfl
@[simp] theorem eqData_nil3 (f:Fn) (a b:List AV):eqData .nil (.fn f a b) .nilf=some false:=rfl
attribute [simp] callM enter recov runD calm aoClass runS_zero runS_succ s_skip s_reg s_seq s_cond s_block s_inBlock s_exit s_ret s_end s_ops0 s_op s_opg s_loop s_inLoop s_dreg s_out s_cl s_back s_back0 aop setD leave stepOut resultsA resultsL loadA storeA unownL unown unownA fillA AV.cells AV.ok over partA allOne AV.one exitA maskT Fr.finish telems telems' elems slen okSl appendA bound viewL view resA resOne resL afterPure noM noML share shareOne rowsOf rowsOfL partsIn fillE okList bel belL byteA
@[simp] theorem binI_add (k:IntKind) (x y:Int):binI .add k x y=some (k.wrap (x+y)):=rfl
@[simp] theorem binI_sub (k:IntKind) (x y:Int):binI .sub k x y=some (k.wrap (x - y)):=rfl
@[simp] theorem binI_mul (k:IntKind) (x y:Int):binI .mul k x y=some (k.wrap (x*y)):=rfl
@[simp low] theorem binI_quo (k:IntKind) (x y:Int):binI .quo k x y=if y=0 then none else some (k.wrap (x.tdiv y)):=rfl
@[simp low] theorem binI_rem (k:IntKind) (x y:Int):binI .rem k x y=if y=0 then none else some (x.tmod y):=rfl
@[simp low] theorem binI_shr (k:IntKind) (x y:Int):binI .shr k x y=if y<0 then none else some (x.fdiv (2^(min y.toNat k.bits))):=rfl
@[simp low] theorem binI_shl (k:IntKind) (x y:Int):binI .shl k x y=if y<0 then none else some (k.wrap (x*2^(min y.toNat k.bits))):=rfl
@[simp] theorem cmpI_eql (a b:Int):cmpI .eql a b=decide (a=b):=by rw [Bool.eq_iff_iff]; simp [cmpI]
@[simp] theorem cmpI_neq (a b:Int):cmpI .neq a b = !decide (a=b):=by rw [Bool.eq_iff_iff]; simp [cmpI]
@[simp] theorem cmpI_lss (a b:Int):cmpI .lss a b=decide (a<b):=rfl
@[simp] theorem cmpI_leq (a b:Int):cmpI .leq a b=decide (a≤b):=rfl
@[simp] theorem cmpI_gtr (a b:Int):cmpI .gtr a b=decide (b<a):=rfl
@[simp] theorem cmpI_geq (a b:Int):cmpI .geq a b=decide (b≤a):=rfl
@[simp] theorem eqOne_int (k:IntKind) (a b:Int):eqOne .int (.int k a) (.int k b)=some (decide (a=b)):=by simp only [eqOne,if_true,Option.some.injEq]; rw [Bool.eq_iff_iff]; simp
@[simp] theorem eqOne_str (a b:List UInt8):eqOne .str (.str a) (.str b)=some (decide (a=b)):=by simp only [eqOne,Option.some.injEq]; rw [Bool.eq_iff_iff]; simp
@[simp] theorem eqOne_bool (a b:Bool):eqOne .bool (.bool a) (.bool b)=some (decide (a=b)):=by simp only [eqOne,Option.some.injEq]; rw [Bool.eq_iff_iff]; simp
theorem u8_lit {c d:UInt8} {m:Int} (h:(d.toNat:Int)=m):((c.toNat:Int)=m)↔c=d:=by
 subst h;rw [Int.ofNat_inj];exact ⟨fun e=>UInt8.toNat_inj.1 e,fun e=>by rw [e]⟩
@[simp] theorem u8_u8 {c d:UInt8}:((c.toNat:Int)=(d.toNat:Int))↔c=d:=u8_lit rfl
theorem u8_ofInt {m:Int} (h0:0≤m) (h1:m<256):((UInt8.ofNat m.toNat).toNat:Int)=m:=by
 rw [UInt8.toNat_ofNat_of_lt' (by simp [UInt8.size]; omega)];omega
@[simp] theorem u8_eq_lit (c:UInt8) (m:Int) (h0:0≤m) (h1:m<256):((c.toNat:Int)=m)↔c=UInt8.ofNat m.toNat:=by rw [← u8_u8,u8_ofInt h0 h1]
@[simp] theorem u8_lt {c d:UInt8}:((c.toNat:Int)<(d.toNat:Int))↔c<d:=by rw [Int.ofNat_lt]; exact Iff.rfl
@[simp] theorem u8_le {c d:UInt8}:((c.toNat:Int)≤(d.toNat:Int))↔c≤d:=by rw [Int.ofNat_le]; exact Iff.rfl
@[simp] theorem u8_lt_lit (c:UInt8) (m:Int) (h0:0≤m) (h1:m<256):((c.toNat:Int)<m)↔c<UInt8.ofNat m.toNat:=by rw [← u8_lt,u8_ofInt h0 h1]
@[simp] theorem u8_le_lit (c:UInt8) (m:Int) (h0:0≤m) (h1:m<256):((c.toNat:Int)≤m)↔c≤UInt8.ofNat m.toNat:=by rw [← u8_le,u8_ofInt h0 h1]
@[simp] theorem u8_lit_lt (c:UInt8) (m:Int) (h0:0≤m) (h1:m<256):(m<(c.toNat:Int))↔UInt8.ofNat m.toNat<c:=by rw [← u8_lt,u8_ofInt h0 h1]
@[simp] theorem u8_lit_le (c:UInt8) (m:Int) (h0:0≤m) (h1:m<256):(m≤(c.toNat:Int))↔UInt8.ofNat m.toNat≤c:=by rw [← u8_le,u8_ofInt h0 h1]
@[simp] theorem u8_nat {c d:UInt8}:(c.toNat=d.toNat)↔c=d:=UInt8.toNat_inj
theorem wrap64 {n:Int} (h1 : -2^62≤n) (h2:n≤2^62):IntKind.i64.wrap n=n:=by
 rw [IntKind.wrap_i64]; omega
abbrev o (d:Nat) (x:AO):AG:=⟨some d,none,x⟩
abbrev q (x:AO):AG:=⟨none,none,x⟩
abbrev oy (d j:Nat) (x:AO):AG:=⟨some d,some (j,true),x⟩
abbrev on (d j:Nat) (x:AO):AG:=⟨some d,some (j,false),x⟩
abbrev I:Bool:=true
abbrev O:Bool:=false
abbrev U:AV:=.undef
structure Cx where
 ds:List ADef
 kind:FK
 base:Nat
 up:List Fr
abbrev cx:Cx:=⟨[],.norm,0,[]⟩
abbrev atC (fn:FuncId) (its:List It) (t:List AV) (h:List Ob) (e:Cx):Cfg:=.fr ⟨.run,fn,its,t,e.ds,e.kind,e.base⟩ e.up h
@[simp] def tight:List Bool→List AG→Bool
 | _,[]=>true
 | false::l,_::os=>tight l os
 | _,_=>false
def runN (P:Program) (Γ:Nat→Option AV):List AG→List AV→List Ob→Option (List AV×List Ob)
 | [],t,h=>some (t,h)
 | o::os,t,h =>
  match wantedA t o.guard with
  | some true=>match aop P Γ t h o.op with
   | .val v h'=>runN P Γ os (setD t o.dst v) h'
   | .skip h'=>runN P Γ os (setD t o.dst (.tup [])) h'
   | _=>none
  | some false=>runN P Γ os (setD t o.dst (.tup [])) h
  | none=>none
theorem runD_of {P:Program} {Γ:Nat→Option AV}:∀ {gs:List AG} {t:List AV} {h:List Ob} {p:List AV×List Ob},runN P Γ gs t h=some p→∃ hs,runD P Γ [] gs t h=some (p.1,p.2,[],hs)
 | [],t,h,p,hr=>by simp only [runN,Option.some.injEq] at hr; subst hr; exact ⟨[],rfl⟩
 | o::os,t,h,p,hr=>by
  unfold runN at hr;unfold runD
  cases hw:wantedA t o.guard with
  | none=>rw [hw] at hr; cases hr
  | some b =>
   rw [hw] at hr
   cases b with
   | false =>
    simp only at hr ⊢;obtain ⟨hs,h1⟩:=runD_of hr;exact ⟨_,by rw [h1]; rfl⟩
   | true =>
    simp only at hr ⊢
    cases ha:aop P Γ t h o.op with
    | val v h' =>
     rw [ha] at hr;simp only at hr ⊢;obtain ⟨hs,h1⟩:=runD_of hr;exact ⟨_,by rw [h1]; rfl⟩
    | skip h' =>
     rw [ha] at hr;simp only at hr ⊢;obtain ⟨hs,h1⟩:=runD_of hr;exact ⟨_,by rw [h1]; rfl⟩
    | _=>rw [ha] at hr; simp at hr
def runR (P:Program) (Γ:Nat→Option AV) (os:List AG) (d:Option Nat) (t:List AV):R→Option (List AV×List Ob)
 | .val v h'=>runN P Γ os (setD t d v) h'
 | .skip h'=>runN P Γ os (setD t d (.tup [])) h'
 | _=>none
def stayD (P:Program) (Γ:Nat→Option AV) (l:List Bool) (gs:List AG) (t:List AV) (h:List Ob):Option (List AV×List Ob) :=
 if tight l gs=true then runN P Γ gs t h else none
def stepG (P:Program) (Γ:Nat→Option AV) (st:Nat):Cfg→Cfg
 | .fr f up h=>match f.md with
  | .run=>match f.its with
   | .code (.loop m b)::k=>.fr { f with its:=.code (.loop m b)::k } up h
   | .inLoop m b::k=>.fr { f with its:=.inLoop m b::k } up h
   | .code (.dreg l ws gs)::k=>match stayD P Γ l gs f.t h with
    | some p=>.fr { f with its:=k,t:=p.1 } up p.2
    | none=>.fr { f with its:=.code (.dreg l ws gs)::k } up h
   | .code (.oreg as gs)::k=>.fr { f with its:=.code (.oreg as gs)::k } up h
   | .code (.exit id)::k=>match exitA id k with
    | some (k',m)=>if st==1 && !m.isEmpty then .fr { f with its:=.code (.exit id)::k } up h else .fr { f with its:=k',t:=maskT m f.t } up h
    | none=>leave f up h (.exit id)
   | its=>stepRun P Γ f up h its
  | _=>stepOut P Γ f up h
 | .cl g args up h=>.cl g args up h
 | .back (c::up) v h=>if st==2 then .back (c::up) v h else match c.finish v with
  | some c'=>.fr c' up h
  | none=>.bad
 | .back [] v h=>.back [] v h
 | .die (c::up) v h=>if st==2 then .die (c::up) v h else match c.md with
  | .run=>.fr { c with md:=.pan v false } up h
  | _=>.bad
 | .die [] v h=>.die [] v h
 | .bad=>.bad
theorem calm_of {P:Program} {Γ:Nat→Option AV} {obls:List Obl} {hs:List (List Ob)}:∀ {gs:List AG} {l:List Bool} {ws:List Nat} {orc:List (AV×List Ob)} {t:List AV} {h:List Ob} {x},tight l gs=true→runD P Γ orc gs t h=some x→calm P Γ obls hs l ws orc gs t h
 | [],_,_,_,_,_,_,_,_=>trivial
 | o::os,[],ws,orc,t,h,x,hl,hr=>by simp [tight] at hl
 | o::os,true::l,ws,orc,t,h,x,hl,hr=>by simp [tight] at hl
 | o::os,false::l,ws,orc,t,h,x,hl,hr=>by
  simp only [tight] at hl;unfold calm;unfold runD at hr
  split at hr
  ·split at hr
   ·rename_i v h' ha;rw [Option.map_eq_some_iff] at hr;obtain ⟨y,hy,_⟩:=hr;exact ⟨fun hb=>(by cases hb),calm_of hl hy⟩
   ·rename_i h' ha;rw [Option.map_eq_some_iff] at hr;obtain ⟨y,hy,_⟩:=hr;exact calm_of hl hy
   ·rename_i f args ha
    split at hr
    ·cases hr
    ·split at hr
     ·rw [Option.map_eq_some_iff] at hr;obtain ⟨y,hy,_⟩:=hr;exact ⟨fun hb=>(by cases hb),calm_of hl hy⟩
     ·cases hr
   ·split at hr
    ·rw [Option.map_eq_some_iff] at hr;obtain ⟨y,hy,_⟩:=hr;exact ⟨rfl,calm_of hl hy⟩
    ·cases hr
   ·cases hr
  ·rw [Option.map_eq_some_iff] at hr;obtain ⟨y,hy,_⟩:=hr;exact calm_of hl hy
  ·cases hr
theorem Reach.stepG {P:Program} {Γ:Nat→Option AV} {st:Nat} (c:Cfg):Reach P Γ c (AM.stepG P Γ st c):=by
 cases c with
 | fr f up h =>
  obtain ⟨md,fn,its,t,ds,kind,base⟩:=f
  cases md with
  | run =>
   simp only [AM.stepG]
   split
   ·exact .refl _
   ·exact .refl _
   ·rename_i l ws gs k
    split
    ·rename_i p hp;unfold stayD at hp
     split at hp
     ·rename_i ht;obtain ⟨hs,hr⟩:=runD_of hp;exact .dreg (f:=⟨.run,fn,.code (.dreg l ws gs)::k,t,ds,kind,base⟩) rfl rfl hr (fun _ ho=>ho) (by simp) (calm_of ht hr)
     ·cases hp
    ·exact .refl _
   ·exact .refl _
   ·rename_i id k
    split
    ·rename_i k' m he
     split
     ·exact .refl _
     ·refine .one ?_;simp only [stepA,stepRun,he];exact .refl _
    ·rename_i he;refine .one ?_;simp only [stepA,stepRun,he];exact .refl _
   ·exact .step _
  | ret=>exact .step _
  | pan v rc=>exact .step _
 | cl g args up h=>exact .refl _
 | back up v h =>
  cases up with
  | nil=>exact .refl _
  | cons c up=>simp only [AM.stepG]; split <;> first | exact .refl _ | exact .step _
 | die up v h =>
  cases up with
  | nil=>exact .refl _
  | cons c up=>simp only [AM.stepG]; split <;> first | exact .refl _ | exact .step _
 | bad=>exact .refl _
def go (P:Program) (Γ:Nat→Option AV) (st:Nat):Nat→Cfg→Cfg
 | 0,c=>c
 | n+1,c=>go P Γ st n (stepG P Γ st c)
theorem Reach.goes {P:Program} {Γ:Nat→Option AV} {st:Nat}:∀ (n:Nat) (c:Cfg),Reach P Γ c (AM.go P Γ st n c)
 | 0,c=>.refl c
 | n+1,c=>.trans (.stepG c) (Reach.goes n _)
theorem Reach.go {P:Program} {Γ:Nat→Option AV} (n:Nat) {c c':Cfg} (h:Reach P Γ (AM.go P Γ 0 n c) c'):Reach P Γ c c':=.trans (Reach.goes n c) h
theorem Reach.goB {P:Program} {Γ:Nat→Option AV} (n:Nat) {c c':Cfg} (h:Reach P Γ (AM.go P Γ 2 n c) c'):Reach P Γ c c':=.trans (Reach.goes n c) h
def pop:Cfg→Cfg
 | .back (c::up) v h=>match c.finish v with
  | some c'=>.fr c' up h
  | none=>.bad
 | .die (c::up) v h=>match c.md with
  | .run=>.fr { c with md:=.pan v false } up h
  | _=>.bad
 | c=>c
@[simp] theorem pop_back {c:Fr} {up:List Fr} {v:AV} {h:List Ob}:pop (.back (c::up) v h)=(match c.finish v with
  | some c'=>.fr c' up h
  | none=>.bad):=(rfl)
@[simp] theorem pop_die {c:Fr} {up:List Fr} {v:AV} {h:List Ob}:pop (.die (c::up) v h)=(match c.md with
  | .run=>.fr { c with md:=.pan v false } up h
  | _=>.bad):=(rfl)
theorem Reach.pop {P:Program} {Γ:Nat→Option AV} (c:Cfg):Reach P Γ c (AM.pop c):=by
 cases c with
 | back up v h=>cases up <;> first | exact .refl _ | exact .step _
 | die up v h=>cases up <;> first | exact .refl _ | exact .step _
 | _=>exact .refl _
theorem Reach.goS {P:Program} {Γ:Nat→Option AV} (n:Nat) {c c':Cfg} (h:Reach P Γ (AM.go P Γ 1 n c) c'):Reach P Γ c c':=.trans (Reach.goes n c) h
section
variable {P : Program} {Γ : Nat → Option AV} {st : Nat} {n : Nat} {fn : FuncId} {k : List It} {t : List AV} {ds : List ADef} {kind : FK} {base : Nat} {up : List Fr} {h h' : List Ob}
theorem go_stay {c:Cfg} (hc:stepG P Γ st c=c):∀ n,go P Γ st n c=c
 | 0=>rfl
 | n+1=>by rw [go,hc]; exact go_stay hc n
@[simp] theorem go_skip:go P Γ st (n+1) (.fr ⟨.run,fn,.code .skip::k,t,ds,kind,base⟩ up h)=go P Γ st n (.fr ⟨.run,fn,k,t,ds,kind,base⟩ up h):=(rfl)
@[simp] theorem go_reg {os:List AG}:go P Γ st (n+1) (.fr ⟨.run,fn,.code (.reg os)::k,t,ds,kind,base⟩ up h)=go P Γ st n (.fr ⟨.run,fn,.ops os::k,t,ds,kind,base⟩ up h):=(rfl)
@[simp] theorem go_seq {a b:ACode}:go P Γ st (n+1) (.fr ⟨.run,fn,.code (.seq a b)::k,t,ds,kind,base⟩ up h)=go P Γ st n (.fr ⟨.run,fn,.code a::.code b::k,t,ds,kind,base⟩ up h):=(rfl)
@[simp] theorem go_cond {x:AX} {a b:ACode}:go P Γ st (n+1) (.fr ⟨.run,fn,.code (.cond x a b)::k,t,ds,kind,base⟩ up h)=go P Γ st n (match ax t x with
  | .bool v=>.fr ⟨.run,fn,.code (if v then a else b)::k,t,ds,kind,base⟩ up h
  | _=>.bad):=(rfl)
@[simp] theorem go_block {id:Nat} {m:List Bool} {b:ACode}:go P Γ st (n+1) (.fr ⟨.run,fn,.code (.block id m b)::k,t,ds,kind,base⟩ up h)=go P Γ st n (.fr ⟨.run,fn,.code b::.inBlock id m::k,t,ds,kind,base⟩ up h):=(rfl)
@[simp] theorem go_inBlock {id:Nat} {m:List Bool}:go P Γ st (n+1) (.fr ⟨.run,fn,.inBlock id m::k,t,ds,kind,base⟩ up h)=go P Γ st n (.fr ⟨.run,fn,k,maskT m t,ds,kind,base⟩ up h):=(rfl)
@[simp] theorem go_exit {id:Nat}:go P Γ st (n+1) (.fr ⟨.run,fn,.code (.exit id)::k,t,ds,kind,base⟩ up h)=go P Γ st n (match exitA id k with
  | some (k',m)=>if st==1 && !m.isEmpty then .fr ⟨.run,fn,.code (.exit id)::k,t,ds,kind,base⟩ up h else .fr ⟨.run,fn,k',maskT m t,ds,kind,base⟩ up h
  | none=>leave ⟨.run,fn,.code (.exit id)::k,t,ds,kind,base⟩ up h (.exit id)):=(rfl)
@[simp] theorem go_ret:go P Γ st (n+1) (.fr ⟨.run,fn,.code .ret::k,t,ds,kind,base⟩ up h)=go P Γ st n (leave ⟨.run,fn,.code .ret::k,t,ds,kind,base⟩ up h .ret):=(rfl)
@[simp] theorem go_end:go P Γ st (n+1) (.fr ⟨.run,fn,[],t,ds,kind,base⟩ up h)=go P Γ st n (leave ⟨.run,fn,[],t,ds,kind,base⟩ up h .none):=(rfl)
@[simp] theorem go_ops0:go P Γ st (n+1) (.fr ⟨.run,fn,.ops []::k,t,ds,kind,base⟩ up h)=go P Γ st n (.fr ⟨.run,fn,k,t,ds,kind,base⟩ up h):=(rfl)
@[simp] theorem go_op {d:Option Nat} {o:AO} {os:List AG}:go P Γ st (n+1) (.fr ⟨.run,fn,.ops (⟨d,none,o⟩::os)::k,t,ds,kind,base⟩ up h) =
  go P Γ st n (goR P ⟨.run,fn,.ops (⟨d,none,o⟩::os)::k,t,ds,kind,base⟩ up h ⟨d,none,o⟩ os k (aop P Γ t h o)):=(rfl)
@[simp] theorem go_opg {d:Option Nat} {j:Nat} {b:Bool} {o:AO} {os:List AG}:go P Γ st (n+1) (.fr ⟨.run,fn,.ops (⟨d,some (j,b),o⟩::os)::k,t,ds,kind,base⟩ up h)=go P Γ st n (match wantedA t (some (j,b)) with
  | some true=>goR P ⟨.run,fn,.ops (⟨d,some (j,b),o⟩::os)::k,t,ds,kind,base⟩ up h ⟨d,some (j,b),o⟩ os k (aop P Γ t h o)
  | some false=>.fr ⟨.run,fn,.ops os::k,setD t d (.tup []),ds,kind,base⟩ up h
  | none=>.bad):=(rfl)
@[simp] theorem go_loop {m:List Bool} {b:ACode}:go P Γ st n (.fr ⟨.run,fn,.code (.loop m b)::k,t,ds,kind,base⟩ up h)=.fr ⟨.run,fn,.code (.loop m b)::k,t,ds,kind,base⟩ up h:=go_stay rfl n
@[simp] theorem go_inLoop {m:List Bool} {b:ACode}:go P Γ st n (.fr ⟨.run,fn,.inLoop m b::k,t,ds,kind,base⟩ up h)=.fr ⟨.run,fn,.inLoop m b::k,t,ds,kind,base⟩ up h:=go_stay rfl n
@[simp] theorem go_oreg {as:List (List Nat)} {gs:List AG}:go P Γ st n (.fr ⟨.run,fn,.code (.oreg as gs)::k,t,ds,kind,base⟩ up h)=.fr ⟨.run,fn,.code (.oreg as gs)::k,t,ds,kind,base⟩ up h:=go_stay rfl n
@[simp] theorem go_dregs {l:List Bool} {ws:List Nat} {gs:List AG}:go P Γ st (n+1) (.fr ⟨.run,fn,.code (.dreg l ws gs)::k,t,ds,kind,base⟩ up h)=(if tight l gs=true then (match runN P Γ gs t h with
  | some p=>go P Γ st n (.fr ⟨.run,fn,k,p.1,ds,kind,base⟩ up p.2)
  | none=>.fr ⟨.run,fn,.code (.dreg l ws gs)::k,t,ds,kind,base⟩ up h) else .fr ⟨.run,fn,.code (.dreg l ws gs)::k,t,ds,kind,base⟩ up h):=by
 split
 ·rename_i ht
  split
  ·rename_i p hr
   have hp:stayD P Γ l gs t h=some p:=by simp only [stayD,ht,if_true,hr]
   simp only [go,stepG,hp]
  ·rename_i hr;refine go_stay ?_ _
   have hp:stayD P Γ l gs t h=none:=by simp only [stayD,ht,if_true,hr]
   simp only [stepG,hp]
 ·rename_i ht;refine go_stay ?_ _
  have hp:stayD P Γ l gs t h=none:=by simp [stayD,ht]
  simp only [stepG,hp]
@[simp] theorem runN_nil:runN P Γ [] t h=some (t,h):=(rfl)
@[simp] theorem runN_op {d:Option Nat} {o:AO} {os:List AG}:runN P Γ (⟨d,none,o⟩::os) t h=runR P Γ os d t (aop P Γ t h o):=(rfl)
@[simp] theorem runN_opg {d:Option Nat} {j:Nat} {b:Bool} {o:AO} {os:List AG}:runN P Γ (⟨d,some (j,b),o⟩::os) t h=(match wantedA t (some (j,b)) with
  | some true=>runR P Γ os d t (aop P Γ t h o)
  | some false=>runN P Γ os (setD t d (.tup [])) h
  | none=>none):=(rfl)
@[simp] theorem runR_val {os:List AG} {d:Option Nat} {v:AV}:runR P Γ os d t (.val v h)=runN P Γ os (setD t d v) h:=(rfl)
@[simp] theorem runR_skip {os:List AG} {d:Option Nat}:runR P Γ os d t (.skip h)=runN P Γ os (setD t d (.tup [])) h:=(rfl)
@[simp] theorem runR_call {os:List AG} {d:Option Nat} {f:FuncId} {args:List AV}:runR P Γ os d t (.call f args)=none:=(rfl)
@[simp] theorem goR_either {f:Fr} {o:AG} {os:List AG}:goR P f up h o os k .either=.fr f up h:=(rfl)
@[simp] theorem goR_val {f:Fr} {o:AG} {os:List AG} {v:AV}:goR P f up h o os k (.val v h')=.fr ⟨f.md,f.fn,.ops os::k,setD f.t o.dst v,f.ds,f.kind,f.base⟩ up h':=(rfl)
@[simp] theorem goR_skip {f:Fr} {o:AG} {os:List AG}:goR P f up h o os k (.skip h')=.fr ⟨f.md,f.fn,.ops os::k,setD f.t o.dst (.tup []),f.ds,f.kind,f.base⟩ up h':=(rfl)
@[simp] theorem goR_pan {f:Fr} {o:AG} {os:List AG} {v:AV}:goR P f up h o os k (.pan v)=.fr ⟨.pan v false,f.fn,f.its,f.t,f.ds,f.kind,f.base⟩ up h:=(rfl)
@[simp] theorem goR_call {f:Fr} {o:AG} {os:List AG} {g:FuncId} {args:List AV}:goR P f up h o os k (.call g args)=if hasBody P g=true then .cl g args (f::up) h else .bad:=(rfl)
@[simp] theorem goR_rcv {f:Fr} {o:AG} {os:List AG}:goR P f up h o os k .rcv=(match recov f up with
 | some (v,up')=>.fr { f with its:=.ops os::k,t:=setD f.t o.dst v } up' h
 | none=>.bad):=(rfl)
@[simp] theorem goR_dfr {f:Fr} {o:AG} {os:List AG} {g:FuncId} {args:List AV}:goR P f up h o os k (.dfr g args)=(match f.kind with
  | .round _=>.bad
  | _=>.fr { f with its:=.ops os::k,t:=setD f.t o.dst (.tup []),ds:=.call g args::f.ds } up h):=(rfl)
@[simp] theorem goR_yield {f:Fr} {o:AG} {os:List AG} {l:Nat} {args:List AV}:goR P f up h o os k (.yield l args)=(match h[l]? with
  | some (.loop _ _ fn t ps a b) =>
   if args.length=ps.length then
    .fr { md:=.run,fn:=fn,its:=[.code a,.beginRound,.code b],t:=setAll t ps args,ds:=[],kind:=.round l,base:=h.length } (f::up) h
   else .bad
  | _=>.bad):=(rfl)
@[simp] theorem goR_bad {f:Fr} {o:AG} {os:List AG}:goR P f up h o os k .bad=.bad:=(rfl)
@[simp] theorem go_rangeFunc {x:AX} {ps:List Nat} {m:List Bool} {a b:ACode}:go P Γ st (n+1) (.fr ⟨.run,fn,.code (.rangeFunc x ps m a b)::k,t,ds,kind,base⟩ up h)=go P Γ st n (match ax t x with
  | .fn (.func g) fs cs=>if hasBody P g=false then .bad else match kind with
   | .round _=>.cl g (fs++.yld h.length::cs) (⟨.run,fn,.inRange h.length::k,t,ds,kind,base⟩::up) (h++[.loop .ready .none fn (maskT m t) ps a b])
   | _=>.cl g (fs++.yld (h.length+1)::cs) (⟨.run,fn,.inRange (h.length+1)::k,t,.mark h.length::ds,kind,base⟩::up) (h++[.dfr true,.loop .ready .none fn (maskT m t) ps a b])
  | _=>.bad):=(rfl)
@[simp] theorem go_beginRound:go P Γ st (n+1) (.fr ⟨.run,fn,.beginRound::k,t,ds,kind,base⟩ up h)=go P Γ st n (match kind with
  | .round l=>match h[l]? with
   | some (.loop .ready j fn' t' ps a b)=>.fr ⟨.run,fn,k,t,ds,kind,base⟩ up (h.set l (.loop .busy j fn' t' ps a b))
   | _=>.bad
  | _=>.bad):=(rfl)
@[simp] theorem go_endRange {l:Nat}:go P Γ st (n+1) (.fr ⟨.run,fn,.endRange l::k,t,ds,kind,base⟩ up h)=go P Γ st n (match h[l]? with
  | some (.loop sta j fn' t' ps a b) =>
   if sta=.busy then .bad
   else .fr ⟨.run,fn,(match j with | .none=>k | .ret=>.code .ret::k | .exit id=>.code (.exit id)::k),t,ds,kind,base⟩ up (h.set l (.loop .exhausted j fn' t' ps a b))
  | _=>.bad):=(rfl)
@[simp] theorem go_out:go P Γ st (n+1) (.fr ⟨.ret,fn,k,t,ds,kind,base⟩ up h)=go P Γ st n (stepOut P Γ ⟨.ret,fn,k,t,ds,kind,base⟩ up h):=(rfl)
@[simp] theorem go_pan {v:AV} {rc:Bool}:go P Γ st (n+1) (.fr ⟨.pan v rc,fn,k,t,ds,kind,base⟩ up h)=go P Γ st n (stepOut P Γ ⟨.pan v rc,fn,k,t,ds,kind,base⟩ up h):=(rfl)
@[simp] theorem go_cl {g:FuncId} {args:List AV}:go P Γ st n (.cl g args up h)=.cl g args up h:=go_stay rfl n
@[simp] theorem go_back {c:Fr} {v:AV}:go P Γ 0 (n+1) (.back (c::up) v h)=go P Γ 0 n (match c.finish v with
  | some c'=>.fr c' up h
  | none=>.bad):=(rfl)
@[simp] theorem go_backS {c:Fr} {v:AV}:go P Γ 1 (n+1) (.back (c::up) v h)=go P Γ 1 n (match c.finish v with
  | some c'=>.fr c' up h
  | none=>.bad):=(rfl)
@[simp] theorem go_backB {v:AV}:go P Γ 2 n (.back up v h)=.back up v h:=go_stay (by cases up <;> rfl) n
@[simp] theorem go_back0 {v:AV}:go P Γ st n (.back [] v h)=.back [] v h:=go_stay rfl n
@[simp] theorem go_die {c:Fr} {v:AV}:go P Γ 0 (n+1) (.die (c::up) v h)=go P Γ 0 n (match c.md with
  | .run=>.fr { c with md:=.pan v false } up h
  | _=>.bad):=(rfl)
@[simp] theorem go_dieS {c:Fr} {v:AV}:go P Γ 1 (n+1) (.die (c::up) v h)=go P Γ 1 n (match c.md with
  | .run=>.fr { c with md:=.pan v false } up h
  | _=>.bad):=(rfl)
@[simp] theorem go_dieB {v:AV}:go P Γ 2 n (.die up v h)=.die up v h:=go_stay (by cases up <;> rfl) n
@[simp] theorem go_die0 {v:AV}:go P Γ st n (.die [] v h)=.die [] v h:=go_stay rfl n
@[simp] theorem go_bad:go P Γ st n .bad=.bad:=go_stay rfl n
@[simp] theorem go_zero {c:Cfg}:go P Γ st 0 c=c:=(rfl)
end
end Go.AM
namespace Go.AM
open Go.ChangeShapes Go.WideShapes Go.ChangeAt Go.RowKit
inductive Sh where
 | bool | str
 | int (k:IntKind)
 | list (k:Nat) (ag:Bool) (e:Sh)
 | parts (l:List Sh)
def mkA:Bool→List AV→AV
 | true,cs=>.agg cs
 | false,[c]=>c
 | false,_=>.undef
mutual
def IsSh (B:Nat):Sh→List AV→Prop
 | .bool,cs=>∃ b,cs=[.bool b]
 | .str,cs=>∃ s:List UInt8,cs=[.str s]∧s.length≤B
 | .int k,cs=>∃ n,cs=[.int k n]∧k.min≤n∧n≤k.max
 | .list k ag e,cs=>∃ xs:List (List AV),cs=[.list false k (xs.map (mkA ag))]∧xs.length≤B∧∀ x∈xs,IsSh B e x∧x.length=k
 | .parts l,cs=>IsShL B l cs
def IsShL (B:Nat):List Sh→List AV→Prop
 | [],cs=>cs=[]
 | s::ss,cs=>∃ a b,cs=a++b∧IsSh B s a∧IsShL B ss b
end
def shT (P:Program):Nat→TypeId→Option Sh
 | 0,_=>none
 | n+1,t=>match P.underlying t with
  | some .bool=>some .bool
  | some .string=>some .str
  | some (.int k)=>some (.int k)
  | some (.slice e)=>match shT P n e,tAgg P e with
   | some s,some ag=>if P.cellsOf e=0∨(ag=false∧P.cellsOf e≠1) then none else some (.list (P.cellsOf e) ag s)
   | _,_=>none
  | some (.struct fs)=>(fs.toList.mapM fun f=>shT P n f.type).map .parts
  | some (.array m e)=>(shT P n e).map fun s=>.parts (List.replicate m s)
  | _=>none
def gw (w:World):G:={ ρ:=fun _=>none,M:=fun b o=>w.cell? ⟨b,o,none⟩,MM:=fun b=>match w.heap[b]? with | some (.map es ck)=>some (es,ck) | _=>none }
structure Down {H:Type} (B:Nat) (Q:DataW H→Prop):Prop where
 sl:∀ e r,Q (.slice e r)→e.length≤9223372036854775807→e.length≤B∧∀ d∈e,Q d
 ag:∀ ps,Q (.agg ps)→∀ d∈ps,Q d
 st:∀ b,Q (.lit (.string b))→b.length≤9223372036854775807→b.length≤B
theorem Down.any {H:Type}:Down (H:=H) 9223372036854775807 (fun _=>True):=⟨fun _ _ _ h=>⟨h,fun _ _=>trivial⟩,fun _ _ _ _=>trivial,fun _ _ h=>h⟩
section
variable {P : Program} {w : World} {H : Type} {enc : TypeId × Value → H} {sp : Nat → Bool} {T : TypeId → Prop}
def Rd (B:Nat) (w:World) (s:Sh) (cs:List Value):Prop:=∃ as,IsSh B s as∧VL (gw w) [] as cs∧allOne as=true∧belL 0 as=true
theorem allOne_append {as bs:List AV} (h1:allOne as=true) (h2:allOne bs=true):allOne (as++bs)=true:=by
 induction as with
 | nil=>simpa using h2
 | cons a as ih=>simp only [allOne,List.cons_append,Bool.and_eq_true] at h1 ⊢; exact ⟨h1.1,ih h1.2⟩
theorem belL_append' {n:Nat} {as bs:List AV} (h1:belL n as=true) (h2:belL n bs=true):belL n (as++bs)=true:=by
 induction as with
 | nil=>simpa using h2
 | cons a as ih=>simp only [belL,List.cons_append,Bool.and_eq_true] at h1 ⊢; exact ⟨h1.1,ih h1.2⟩
theorem mkA_cells {ag:Bool} {as:List AV} {k:Nat} (hk:as.length=k) (h1:ag=true∨k=1) (ho:allOne as=true):(mkA ag as).cells=as:=by
 cases ag with
 | true=>rfl
 | false =>
  have:k=1:=by simpa using h1
  subst this
  match as,hk with
  | [c],_=>simp [mkA]; simp [allOne] at ho; cases c <;> simp_all [AV.cells,AV.one]
theorem okList_append' {k:Nat}:∀ {es fs:List AV},okList es k=true→okList fs k=true→okList (es++fs) k=true
 | [],_,_,h2=>by simpa using h2
 | e::es,fs,h1,h2=>by
  simp only [okList,List.cons_append,Bool.and_eq_true] at h1 ⊢;exact ⟨h1.1,okList_append' h1.2 h2⟩
theorem parts_read {B:Nat} {n:Nat} {r:List Value→Sh→Prop}:∀ (ss:List Sh) (css:List (List Value)),css.length=ss.length→(∀ (i:Nat) s c,ss[i]? = some s→css[i]? = some c→Rd B w s c) →
  ∃ as,IsShL B ss as∧VL (gw w) [] as css.flatten∧allOne as=true∧belL 0 as=true
 | [],css,hl,_=>by
  have:css=[]:=by simpa using hl
  subst this;exact ⟨[],by simp [IsShL],by simp [VL],rfl,rfl⟩
 | s::ss,css,hl,hr=>by
  match css,hl with
  | c::css,hl =>
   obtain ⟨a,h1,h2,h3,h4⟩:=hr 0 s c rfl rfl;obtain ⟨b,h5,h6,h7,h8⟩:=parts_read (n:=n) (r:=r) ss css (by simpa using hl) (fun i s c hs hc=>hr (i+1) s c (by simpa using hs) (by simpa using hc));exact ⟨a++b,by simp only [IsShL]; exact ⟨a,b,rfl,h1,h5⟩,by simpa using VL_append h2 h6,allOne_append h3 h7,belL_append' h4 h8⟩
theorem cut_flat {α:Type}:∀ (ns:List Nat) (cs:List α),cs.length=ns.sum→∃ css:List (List α),css.length=ns.length∧css.flatten=cs∧∀ (i n:Nat),ns[i]? = some n→css[i]? = some ((cs.drop (ns.take i).sum).take n)
 | [],cs,h=>⟨[],rfl,by simp at h; simp [h],by simp⟩
 | n::ns,cs,h=>by
  obtain ⟨css,h1,h2,h3⟩:=cut_flat ns (cs.drop n) (by simp at h ⊢; omega);refine ⟨cs.take n::css,by simp [h1],by simp [h2],?_⟩;intro i m hi
  cases i with
  | zero=>simp at hi; subst hi; simp
  | succ i =>
   simp only [List.getElem?_cons_succ,List.take_succ_cons,List.sum_cons] at hi ⊢;rw [h3 i m hi,List.drop_drop]
theorem rd_of {B:Nat} {Q:DataW H→Prop} (K:Kids P T) (D:Down B Q):∀ (n:Nat) (t:TypeId) (s:Sh),T t→shT P n t=some s→∀ (fuel:Nat) (cs:List Value) (x:DataW H×List MemPlace),DataW.trod enc P w 0 sp true fuel t cs=some x→Q x.1→Rd B w s cs:=by
 intro n
 induction n with
 | zero=>intro t s _ hs; simp [shT] at hs
 | succ n ih =>
  intro t s hT hs fuel cs x hx hQ;unfold shT at hs
  split at hs
  ·rename_i hu
   cases hs
   obtain ⟨b,rfl,_⟩:=DataW.trod_bool hu hx;exact ⟨[.bool b],by simp [IsSh],by simp [VL,V],rfl,rfl⟩
  ·rename_i hu
   cases hs
   obtain ⟨b,rfl,hxe,h⟩:=DataW.trod_string hu hx;refine ⟨[.str b.data.toList],?_,by simp [VL,V],rfl,rfl⟩;simp only [IsSh];rw [hxe] at hQ;exact ⟨_,rfl,D.st _ hQ (by simpa [maxLen] using h)⟩
  ·rename_i k hu
   cases hs
   obtain ⟨i,rfl,_,h⟩:=DataW.trod_int hu hx;refine ⟨[.int k i],?_,by simp [VL,V],rfl,rfl⟩;simp only [Lit.wf,Bool.and_eq_true,decide_eq_true_eq] at h;simp only [IsSh];exact ⟨i,rfl,h.1,h.2⟩
  ·rename_i e hu
   split at hs
   ·rename_i se ag hse hag
    split at hs
    ·cases hs
    ·rename_i hk
     cases hs
     have hTe:=K.slice hT hu
     have hk0:0<P.cellsOf e:=by omega
     have hk1:ag=true∨P.cellsOf e=1:=by cases ag <;> simp_all
     rcases DataW.trod_slice hu hx with ⟨rfl,_⟩ | ⟨a,len,cap,elems,rest,m,_,rfl,hxe,_,hlc,hcap,hel,hget,_⟩
     ·refine ⟨[.list false (P.cellsOf e) []],?_,?_,rfl,rfl⟩
      ·simp only [IsSh];exact ⟨[],rfl,by simp,by simp⟩
      ·simp [VL,V,okList]
     ·have hQ2:=D.sl (elems.map (·.1)) (rest.map (·.1)) (by rw [hxe] at hQ; exact hQ) (by rw [List.length_map]; simp [maxLen] at hcap; omega);rw [List.length_map] at hQ2
      have key:∀ q,q≤len→∃ xs:List (List AV),xs.length=q∧(∀ x∈xs,IsSh B se x∧x.length=P.cellsOf e)∧okList (xs.map (mkA ag)) (P.cellsOf e)=true ∧
        ∃ vs,VE (gw w) [] (xs.map (mkA ag)) vs∧vs.length=q*P.cellsOf e∧∀ j (hj:j<vs.length),w.cell? (a.add j)=some vs[j]:=by
       intro q
       induction q with
       | zero=>intro _; exact ⟨[],rfl,by simp,rfl,[],by simp [VE],by simp,by simp⟩
       | succ q ihq =>
        intro hq;obtain ⟨xs,h1,h2,h3,vs,h4,h5,h6⟩:=ihq (by omega);have hg:=hget q (by omega);obtain ⟨y,hy⟩:∃ y,elems[q]? = some y:=⟨elems[q]'(by omega),List.getElem?_eq_getElem (by omega)⟩;rw [hy,Option.bind_eq_some_iff] at hg;obtain ⟨c,hc,ht⟩:=hg;obtain ⟨as,g1,g2,g3,g4⟩:=ih e se hTe hse _ _ _ ht (hQ2.2 _ (List.mem_map_of_mem (List.mem_of_getElem? hy)));unfold World.cells? at hc
        split at hc
        ·have hcl:c.length=P.cellsOf e:=by simpa using mapM_some_length hc
         have hal:as.length=P.cellsOf e:=by rw [← VL_length g2]; exact hcl
         have hcells:=mkA_cells hal hk1 g3;refine ⟨xs++[as],by simp [h1],?_,?_,vs++c,?_,?_,?_⟩
         ·intro x hx
          rcases List.mem_append.1 hx with hx | hx
          ·exact h2 x hx
          ·simp at hx; subst hx; exact ⟨g1,hal⟩
         ·rw [List.map_append];refine okList_append' h3 ?_;simp only [List.map_cons,List.map_nil,okList,hcells,hal,g3,g4,decide_true,Bool.and_true]
         ·rw [List.map_append];refine VE_append h4 ?_;simp only [List.map_cons,List.map_nil,VE]
          cases ag with
          | true=>exact ⟨.agg c.toArray,[],by simp only [mkA,V]; exact ⟨c,rfl,g2⟩,by simp [Value.cells],rfl⟩
          | false =>
           have hk2:P.cellsOf e=1:=by simpa using hk1
           match as,hal.trans hk2,c,hcl.trans hk2 with
           | [a1],_,[c1],_ =>
            simp only [VL] at g2;obtain ⟨v,_,h7,h8,h9⟩:=g2;subst h9
            cases h7
            refine ⟨c1,[],h8,?_,rfl⟩
            have ho:a1.one=true:=by simpa [allOne] using g3
            have:c1.cells = #[c1]:=by
             cases a1 <;> simp [AV.one] at ho <;> simp only [V] at h8 <;> first
              | (subst h8; rfl)
              | (obtain ⟨_,_,_,rfl,_⟩:=h8; rfl)
              | (obtain ⟨_,_,_,_,_,rfl⟩:=h8; rfl)
              | (obtain ⟨_,_,_,_,_,_,rfl⟩:=h8; rfl)
              | (obtain ⟨_,_,rfl,_⟩:=h8; rfl)
              | (obtain ⟨_,rfl,_⟩:=h8; rfl)
              | (obtain ⟨_,_,_,_,rfl⟩:=h8; rfl)
              | (simp [bel,belL] at g4)
              | (exfalso; simp_all [SlV,isCells,isMap,isIter,isLoop])
            simp [this]
         ·simp [h5,hcl]; rw [Nat.add_mul]; simp
         ·intro j hj;rw [List.getElem_append]
          split
          ·rename_i hjv; exact h6 j hjv
          ·rename_i hjv;have h7:=mapM_some_get hc (j - vs.length) (j - vs.length) (by rw [List.length_append] at hj; rw [List.getElem?_range (by omega)]);rw [List.getElem?_eq_getElem (by simp at hj; omega)] at h7;rw [← h7];congr 1
           have hadd:(a.add (q*P.cellsOf e)).add (j - vs.length)=a.add j:=by
            unfold Addr.add
            split <;> split <;> split <;> simp_all <;> omega
           rw [hadd]
        ·cases hc
      obtain ⟨xs,h1,h2,h3,vs,h4,h5,h6⟩:=key len (Nat.le_refl _);refine ⟨[.list false (P.cellsOf e) (xs.map (mkA ag))],?_,?_,rfl,?_⟩
      ·simp only [IsSh];exact ⟨xs,rfl,by omega,h2⟩
      ·simp only [VL,V];refine ⟨_,[],rfl,⟨h3,some a,cap,by simp [h1],by simp,by simpa [h1] using hlc,?_⟩,rfl⟩
       by_cases hl:len=0
       ·subst hl; left; simpa using h1
       ·right
        have h0:0<vs.length:=by rw [h5]; exact Nat.mul_pos (by omega) hk0
        have hs:=h6 0 h0
        have hsp:a.spot=none:=by
         unfold World.cell? Addr.add at hs;rw [if_pos rfl] at hs
         split at hs
         ·split at hs
          ·cases hs
          ·rename_i h8; simpa using h8
         ·cases hs
        obtain ⟨b,o,sp'⟩:=a;simp only at hsp;subst hsp;refine ⟨b,o,vs,rfl,h4,fun j hj => ?_⟩;have h9:=h6 j hj
        have:(⟨b,o,none⟩:Addr).add j=⟨b,o+j,none⟩:=by
         unfold Addr.add
         split <;> simp_all
        rw [this] at h9;exact h9
      ·simp only [belL,bel,Bool.and_true];exact okList_bel h3
   ·cases hs
  ·rename_i fs hu;rw [Option.map_eq_some_iff] at hs;obtain ⟨ss,hss,rfl⟩:=hs;obtain ⟨hf,hsz,hoff⟩:=K.struct hT hu;obtain ⟨xs,m,_,hxe,hcl,hxl,hget⟩:=DataW.trod_struct hu hx;have hQ2:=D.ag (xs.map (·.1)) (by rw [hxe] at hQ; exact hQ);obtain ⟨css,h1,h2,h3⟩:=cut_flat (fs.toList.map fun f=>P.cellsOf f.type) cs (by rw [hcl,hsz]);have hssl:ss.length=fs.toList.length:=mapM_some_length hss
   obtain ⟨as,g1,g2,g3,g4⟩:=parts_read (w:=w) (n:=0) (r:=fun _ _=>True) ss css (by rw [h1,hssl]; simp) (by
    intro i s c hs hc
    have hi:i<fs.size:=by have:=lt_of_get hs; rw [hssl] at this; simpa using this
    obtain ⟨f,hfi⟩:∃ f,fs[i]? = some f:=⟨fs[i],by simp [hi]⟩
    have hfl:fs.toList[i]? = some f:=by simpa using hfi
    have h4:=h3 i (P.cellsOf f.type) (by simp [hfi]);rw [hc] at h4;have h4:=Option.some.inj h4;have h5:=hget i f hfi;rw [hoff i f hfl] at h5;have h6:=mapM_some_get hss i f hfl;rw [hs] at h6;have hxi:∃ y,xs[i]? = some y:=⟨xs[i]'(by omega),List.getElem?_eq_getElem (by omega)⟩;obtain ⟨y,hy⟩:=hxi;rw [hy] at h5;subst h4;rw [← List.map_take]
    exact ih f.type s (hf f (List.mem_of_getElem? hfl)) h6 _ _ y h5 (hQ2 _ (List.mem_map_of_mem (List.mem_of_getElem? hy))))
   exact ⟨as,by simpa only [IsSh] using g1,by rw [h2] at g2; exact g2,g3,g4⟩
  ·rename_i m e hu;rw [Option.map_eq_some_iff] at hs;obtain ⟨s,hs,rfl⟩:=hs;obtain ⟨hTe,hsz⟩:=K.array hT hu;obtain ⟨xs,q,_,hxe,hcl,hxl,hget⟩:=DataW.trod_array hu hx;have hQ2:=D.ag (xs.map (·.1)) (by rw [hxe] at hQ; exact hQ);obtain ⟨css,h1,h2,h3⟩:=cut_flat (List.replicate m (P.cellsOf e)) cs (by rw [hcl,hsz]; simp)
   obtain ⟨as,g1,g2,g3,g4⟩:=parts_read (w:=w) (n:=0) (r:=fun _ _=>True) (List.replicate m s) css (by rw [h1]; simp) (by
    intro i s' c hs' hc
    have hi:i<m:=by have:=lt_of_get hs'; simpa using this
    rw [List.getElem?_replicate] at hs';simp only [hi,if_true,Option.some.injEq] at hs';subst hs';have h4:=h3 i (P.cellsOf e) (by simp [List.getElem?_replicate,hi]);rw [hc] at h4;have h4:=Option.some.inj h4;have h5:=hget i hi;obtain ⟨y,hy⟩:∃ y,xs[i]? = some y:=⟨xs[i]'(by omega),List.getElem?_eq_getElem (by omega)⟩;rw [hy] at h5;subst h4
    have he:(List.take i (List.replicate m (P.cellsOf e))).sum=i*P.cellsOf e:=by simp [List.take_replicate,Nat.min_eq_left (Nat.le_of_lt hi)]
    rw [he]
    exact ih e s hTe hs _ _ y h5 (hQ2 _ (List.mem_map_of_mem (List.mem_of_getElem? hy))))
   exact ⟨as,by simpa only [IsSh] using g1,by rw [h2] at g2; exact g2,g3,g4⟩
  ·cases hs
end
def TS (P:Program) (t:TypeId):Prop:=t<P.types.size∧∃ n,(shT P n t).isSome=true
theorem kids_TS {P:Program} (hl:laidOutB P=true) (hm:mapsRowed P=true):Kids P (TS P):=by
 have K:=kids_rows hl hm;refine ⟨fun {t e} ht hu => ?_,fun {t e} ht hu => ?_,fun {t e n} ht hu => ?_,fun {t fs} ht hu => ?_,fun {t k e} ht hu => ?_⟩
 ·obtain ⟨_,n,hn⟩:=ht
  cases n <;> simp [shT,hu] at hn
 ·obtain ⟨h1,n,hn⟩:=ht;refine ⟨K.slice h1 hu,?_⟩
  cases n with
  | zero=>simp [shT] at hn
  | succ n =>
   simp only [shT,hu] at hn
   split at hn
   ·rename_i h2 _; exact ⟨n,by simp [h2]⟩
   ·cases hn
 ·obtain ⟨h1,m,hn⟩:=ht;refine ⟨⟨(K.array h1 hu).1,?_⟩,(K.array h1 hu).2⟩
  cases m with
  | zero=>simp [shT] at hn
  | succ m=>simp only [shT,hu,Option.isSome_map] at hn; exact ⟨m,hn⟩
 ·obtain ⟨h1,n,hn⟩:=ht;refine ⟨fun f hf=>⟨(K.struct h1 hu).1 f hf,?_⟩,(K.struct h1 hu).2⟩
  cases n with
  | zero=>simp [shT] at hn
  | succ n =>
   simp only [shT,hu,Option.isSome_map] at hn;obtain ⟨ss,hss⟩:=Option.isSome_iff_exists.1 hn;obtain ⟨i,hi⟩:=List.mem_iff_getElem?.1 hf;have:=mapM_some_get hss i f hi;have hlen:=mapM_some_length hss
   have hlt:i<ss.length:=by rw [hlen]; exact lt_of_get hi
   exact ⟨n,by rw [this,List.getElem?_eq_getElem hlt]; rfl⟩
 ·obtain ⟨_,n,hn⟩:=ht
  cases n <;> simp [shT,hu] at hn
def IsArgs (B:Nat):List (Bool×Sh)→List AV→Prop
 | [],as=>as=[]
 | (ag,s)::r,as=>∃ cs as',as=mkA ag cs::as'∧IsSh B s cs∧(ag=false→cs.length=1)∧IsArgs B r as'
def shP (P:Program) (t:TypeId):Option (Bool×Sh):=match tAgg P t,shT P 12 t with
 | some ag,some s=>some (ag,s)
 | _,_=>none
section
variable {P : Program} {W : World} {H : Type} {enc : TypeId × Value → H} {sp : Nat → Bool}
theorem args_of {B:Nat} {Q:DataW H→Prop} (K:Kids P (TS P)) (D:Down B Q):∀ {ts:List TypeId} {shs:List (Bool×Sh)} {vs:List Value} {ds:List (DataW H)} {ps:List MemPlace},(∀ t∈ts,t<P.types.size)→ts.mapM (shP P)=some shs →
  (∀ (j:Nat) t v,ts[j]? = some t→vs[j]? = some v→∃ r base,Value.okWide P W r base t v)→DataW.TrodAll enc P W 0 sp true ts vs ds ps→(∀ d∈ds,Q d)→∃ as,IsArgs B shs as∧VL (gw W) [] as vs
 | [],shs,vs,ds,ps,_,hs,_,hT,_=>by
  obtain ⟨rfl,_,_⟩:=trodAll_nil hT;simp at hs;subst hs;exact ⟨[],by simp [IsArgs],by simp [VL]⟩
 | t::ts,shs,vs,ds,ps,hlt,hs,hok,hT,hQ=>by
  obtain ⟨v,vs1,d,ds1,a,b,rfl,rfl,rfl,h1,h2⟩:=trodAll_cons hT;simp only [List.mapM_cons,Option.bind_eq_bind,Option.bind_eq_some_iff,Option.pure_def,Option.some.injEq] at hs;obtain ⟨x,hx,ys,hys,rfl⟩:=hs;obtain ⟨as,g1,g2⟩:=args_of K D (fun t ht=>hlt t (List.mem_cons_of_mem _ ht)) hys (fun j t v h3 h4=>hok (j+1) t v (by simpa using h3) (by simpa using h4)) h2 (fun d hd=>hQ d (List.mem_cons_of_mem _ hd));unfold shP at hx
  split at hx
  ·rename_i ag s hag hsh
   cases hx
   obtain ⟨fuel,hf⟩:=h1;obtain ⟨cs,h3,h4,h5,h6⟩:=rd_of K D 12 t s ⟨hlt t (by simp),12,by simp [hsh]⟩ hsh _ _ _ hf (hQ _ (List.mem_cons_self ..));obtain ⟨r,base,hokv⟩:=hok 0 t v rfl rfl
   cases ag with
   | true =>
    have hv:∃ c,v=.agg c:=by
     unfold tAgg at hag;unfold Value.okWide at hokv
     cases hu:P.underlying t with
     | none=>simp [hu] at hag
     | some d =>
      rw [hu] at hag hokv
      cases d <;> simp at hag <;> (obtain ⟨c,rfl,_⟩:=hokv; exact ⟨c,rfl⟩)
    obtain ⟨c,rfl⟩:=hv;refine ⟨.agg cs::as,by simp only [IsArgs]; exact ⟨cs,as,rfl,h3,by simp,g1⟩,?_⟩;simp only [VL,V];exact ⟨_,_,rfl,⟨c.toList,by simp,by simpa [Value.cells] using h4⟩,g2⟩
   | false =>
    have hv:v.cells = #[v]:=by
     unfold tAgg at hag
     cases v with
     | agg c =>
      exfalso
      cases fuel with
      | zero=>simp [DataW.trod] at hf
      | succ n =>
      cases hu:P.underlying t with
      | none=>simp [hu] at hag
      | some d =>
       rw [hu] at hag;unfold Value.okWide at hokv;rw [hu] at hokv
       cases d <;> simp at hag <;> simp [Cell.okWide,Cell.ok,hu] at hokv
       all_goals (unfold shT at hsh; rw [hu] at hsh; simp at hsh)
     | _=>rfl
    rw [hv] at h4
    have hlen:cs.length=1:=by rw [← VL_length h4]; rfl
    match cs,hlen with
    | [c],_ =>
     simp only [VL] at h4;obtain ⟨u,us,h7,h8,h9⟩:=h4
     cases h7
     refine ⟨c::as,by simp only [IsArgs]; exact ⟨[c],as,rfl,h3,fun _=>rfl,g1⟩,?_⟩;simp only [VL];exact ⟨_,_,rfl,h8,g2⟩
  ·cases hx
theorem isArgs_bel:∀ {shs:List (Bool×Sh)} {as:List AV} {vs:List Value},VL (gw W) [] as vs→belL 0 as=true
 | _,_,_,h=>by simpa using VL_bel h
theorem law_callsQ {B:Nat} {Q:DataW H→Prop} (D:Down B Q) {f:FuncId} {fn:Func} {s:ChangeSpec} {Γ:Nat→Option AV} {tb:TypeId} {shs:List (Bool×Sh)} (hl:laidOutB P=true) (hm:mapsRowed P=true) (hres:fn.resultTypes = #[tb]) (htb:P.underlying tb=some .bool)
  (hlt:∀ t∈fn.params.toList,t<P.types.size) (hsh:fn.params.toList.mapM (shP P)=some shs) (hvars:s.vars=[])
  (hspec:∀ ds:List (DataW H),ds.length=fn.params.size→(s.fn H ds).results=[.lit (.bool true)]∧(s.fn H ds).args=ds∧(s.fn H ds).vars=[])
  (hΓ:∀ n a,Γ n=some a→belL 0 a.cells=true∧∃ vs,VL (gw W) [] a.cells vs∧∀ j (hj:j<vs.length),W.cell? ⟨n,j,none⟩=some vs[j])
  (con:∀ as,IsArgs B shs as→PureCon P Γ f as (.bool true))
  {base:Nat} {args:Array Value} {ds gs:List (DataW H)} {before:List MemPlace}
  (hval:∀ (j:Nat) t v,fn.params[j]? = some t→args[j]? = some v→Value.okWide P W .any base t v)
  (hW:DataW.Whole enc P fn.params.toList s.vars false W args.toList ds gs before) (hQ:∀ d∈ds,Q d) :
  Calls P f args W fun e W'=>∃ v,e=.returned v∧s.post enc P fn false true false false W args v W':=by
 have K:=kids_TS hl hm;have hW':=hW;obtain ⟨p,q,hA,hV,rfl,hfz,hnd⟩:=hW;rw [hvars] at hV;obtain ⟨rfl,rfl⟩:=trodVars_none hV;obtain ⟨as,h1,h2⟩:=args_of K D hlt hsh (fun j t v hj hv=>⟨_,_,hval j t v (by simpa using hj) (by simpa using hv)⟩) hA hQ
 have hI:Inv P Γ { K:=fun b=>W.heap[b]?,M0:=(gw W).M,MM:=(gw W).MM,w0:=W } (gw W) [] W:=by
  refine ⟨rfl,rfl,rfl,fun b o hb=>hb,fun i b x hi=>(by cases hi),fun i j b x y hi=>(by cases hi),fun _ _=>rfl,fun b o v hv=>hv,?_,fun i b sz st o v hi=>(by cases hi),fun i o hi=>(by simp at hi),hΓ,
   fun b o v B hv _=>hv,rfl⟩
  intro b es ck hb;simp only [gw] at hb
  split at hb
  ·rename_i es' ck' hh
   cases hb
   exact ⟨hh,fun i x hi=>(by cases hi)⟩
  ·cases hb
 have hC:=(con as h1).2 (isArgs_bel (shs:=shs) h2) _ _ [] W args.toList hI h2;rw [Array.toArray_toList] at hC;refine hC.mono ?_
 rintro e W' ⟨u,g',rfl,_,hI',hu,_,_,hheap⟩
 simp only [unownA,unown,V] at hu;subst hu;refine ⟨_,rfl,ds,[],p++[],[],p,[],hW',?_,?_,?_,?_,fun h=>by cases h⟩
 ·have hlen:ds.length=fn.params.size:=by
   have:=(trodAll_length hA).2;simpa using this
  rw [List.append_nil,(hspec ds hlen).1,hres];exact trodAll_cons_mk (shut_bool htb _) trodAll_mk0
 ·have hlen:ds.length=fn.params.size:=by
   have:=(trodAll_length hA).2;simpa using this
  rw [List.append_nil,(hspec ds hlen).2.1];have hp:∀ x∈p,x.block<W.heap.size:=hA.lt
  have key:∀ {ts:List TypeId} {vs:List Value} {ds:List (DataW H)} {ps:List MemPlace},(∀ t∈ts,TS P t)→(∀ x∈ps,x.block<W.heap.size)→DataW.TrodAll enc P W 0 (fun _=>true) true ts vs ds ps →
    DataW.TrodAll enc P W' 0 (fun b=>decide (b<W.heap.size)) true ts vs ds ps:=by
   intro ts
   induction ts with
   | nil =>
    intro vs ds ps _ _ hT;obtain ⟨rfl,rfl,rfl⟩:=trodAll_nil hT;exact trodAll_mk0
   | cons t ts ih =>
    intro vs ds ps ht hb hT;obtain ⟨v,vs1,d,ds1,a,b,rfl,rfl,rfl,h3,h4⟩:=trodAll_cons hT;obtain ⟨fuel,hf⟩:=h3;refine trodAll_cons_mk ⟨fuel,DataW.trod_stays K ?_ (by simp) (ht t (by simp)) hf ?_ ?_⟩ (ih (fun t' ht'=>ht t' (List.mem_cons_of_mem _ ht')) (fun x hx=>hb x (by simp [hx])) h4)
    ·intro t e ht' hu;obtain ⟨_,n,hn⟩:=ht'
     cases n with
     | zero=>simp [shT] at hn
     | succ n =>
      simp only [shT,hu] at hn
      split at hn
      ·split at hn
       ·cases hn
       ·rename_i h5; omega
      ·cases hn
    ·intro x hx;have hxb:=hb x (by simp [hx])
     cases x with
     | cell b o=>simp only [World.sameAt,World.cell?]; rw [hheap b hxb]
     | map b=>simp only [World.sameAt]; exact hheap b hxb
    ·intro x hx;have hxb:=hb x (by simp [hx]);simpa using hxb
  refine key (fun t ht=>⟨hlt t ht,?_⟩) hp hA;obtain ⟨i,hi⟩:=List.mem_iff_getElem?.1 ht;have h3:=mapM_some_get hsh i t hi
  have hl3:i<shs.length:=by rw [mapM_some_length hsh]; exact lt_of_get hi
  rw [List.getElem?_eq_getElem hl3] at h3;unfold shP at h3
  split at h3
  ·rename_i h4; exact ⟨12,by simp [h4]⟩
  ·cases h3
 ·have hlen:ds.length=fn.params.size:=by
   have:=(trodAll_length hA).2;simpa using this
  rw [List.append_nil,(hspec ds hlen).2.2,hvars];rfl
 ·refine ⟨hI'.os,hI'.output,fun i hi => ?_⟩;rw [hheap i hi];have:=(World.keptBut_refl W (fun p_1=>p_1∈p++[]∧(p_1∈[]∨p_1∈p∨p_1∈[]))).2.2 i hi;exact this
end
theorem map_dec {α β γ:Type} {f:α→γ} {e:β→γ}:∀ {xs:List α},(∀ x∈xs,∃ t,f x=e t)→∃ ts:List β,xs.map f=ts.map e∧ts.length=xs.length
 | [],_=>⟨[],rfl,rfl⟩
 | x::xs,h=>by
  obtain ⟨t,ht⟩:=h x (by simp);obtain ⟨ts,h1,h2⟩:=map_dec (xs:=xs) (e:=e) (fun y hy=>h y (List.mem_cons_of_mem _ hy));exact ⟨t::ts,by simp [ht,h1],by simp [h2]⟩
end Go.AM
namespace Go.AM
open Go.RowKit
theorem drop_eq {α:Type} {a b:List α} {i:Nat} (h1:i<a.length) (h2:i<b.length):(a.drop i=b.drop i)↔(a[i]=b[i]∧a.drop (i+1)=b.drop (i+1)):=by
 rw [List.drop_eq_getElem_cons h1,List.drop_eq_getElem_cons h2,List.cons.injEq]
@[simp] theorem belL_map {α:Type} (n:Nat) (f:α→AV) (l:List α):belL n (l.map f)=l.all fun x=>bel n (f x):=by
 induction l with
 | nil=>rfl
 | cons a l ih=>simp [belL,ih]
@[simp] theorem noML_map {α:Type} (f:α→AV) (l:List α):noML (l.map f)=l.all fun x=>noM (f x):=by
 induction l with
 | nil=>rfl
 | cons a l ih=>simp [noML,ih]
@[simp] theorem noML_append (a b:List AV):noML (a++b)=(noML a&&noML b):=by
 induction a with
 | nil=>simp [noML]
 | cons x a ih=>simp [noML,ih,Bool.and_assoc]
@[simp] theorem take_map {α β:Type} (f:α→β) (l:List α):(l.map f).take l.length=l.map f:=by rw [List.take_of_length_le]; simp
@[simp] theorem belL_append (n:Nat) (a b:List AV):belL n (a++b)=(belL n a&&belL n b):=by
 induction a with
 | nil=>simp [belL]
 | cons x a ih=>simp [belL,ih,Bool.and_assoc]
@[simp] theorem ck_bad {c:Prop} [Decidable c] {r:R} (h:c):(if c then r else R.bad)=r:=if_pos h
@[simp] theorem ck_some {c:Prop} [Decidable c] {α:Type} {x:α} (h:c):(if c then some x else none)=some x:=if_pos h
@[simp] theorem natCast_eq (a b:Nat):((a:Int)=(b:Int))↔a=b:=by omega
@[simp] theorem toNat_add {x y:Int} (h1:0≤x) (h2:0≤y):(x+y).toNat=x.toNat+y.toNat:=by omega
@[simp] theorem toNat_sub {x y:Int} (h2:0≤y):(x - y).toNat=x.toNat - y.toNat:=by omega
attribute [simp] belF belD belI belK belMd belH belO belM vldF vldL vld vldD vldMd vldH vldO vldM wrap64 List.getElem?_cons_zero List.getElem?_cons_succ
@[simp] theorem reach_refl {P:Program} {Γ:Nat→Option AV} (c:Cfg):Reach P Γ c c:=.refl c
section
variable {P : Program} {Γ : Nat → Option AV}
theorem Reach.call (n:Nat) {f:FuncId} {args as:List AV} {r:AV} {up:List Fr} {h:List Ob} {c:Cfg} (h1:viewL h args=some as) (h2:PureCon P Γ f as r) (h3:Reach P Γ (AM.go P Γ 0 n (.back up (unownA h.length r).1 (afterPure h args r))) c):Reach P Γ (.cl f args up h) c:=.con h1 h2 (.go n h3)
def depL (gs:List AG):List (List Nat):=(List.range gs.length).map fun i=>(List.range i).filter fun j=>match gs[i]?,gs[j]? with
 | some gi,some gj=>(match gj.dst with
  | some d=>(agSlots gi).contains d
  | none=>false)
 | _,_=>false
theorem lin_dep {ops:Array Oper} {dep:List (List Nat)} (hed:edgesOk ops=true) (hdl:dep.length=ops.size) (hda:∀ i j,j∈dep.getD i []→anc ops j i=true):∀ (fuel n:Nat) (listed:Array Bool) (done:List Nat),listed.size=ops.size→(∀ i,i<ops.size→listed.getD i true=done.contains i)→Closed ops listed→left ops.size listed=fuel →
  Region.linearise.go .any ops fuel n listed []∈ordersL dep fuel done
 | 0,n,listed,done,_,_,_,_=>by simp [Region.linearise.go,ordersL]
 | fuel+1,n,listed,done,hsz,hd,hcl,hl=>by
  have hed1:∀ i (h:i<ops.size),∀ e∈(ops[i]).after.toList,Region.binds .any e=true→e.on<i:=by
   intro i h e he hb;simp only [edgesOk,List.all_eq_true] at hed;have h6:=hed (ops[i],i) (by rw [List.mem_zipIdx_iff_getElem?]; simp [h]);rw [← Array.all_toList,List.all_eq_true] at h6;have h7:=h6 e he;rw [hb] at h7;simpa using h7
  have hne:0<((List.range ops.size).filter fun i => !listed.getD i true&&((ops[i]?).map (·.after.all fun e => !Region.binds .any e||listed.getD e.on false)).getD false).length:=by
   have hex:∃ i,i<ops.size∧listed.getD i true=false:=by
    unfold left at hl;obtain ⟨i,hi⟩:=List.exists_mem_of_length_pos (l:=(List.range ops.size).filter fun i => !listed.getD i true) (by omega);simp only [List.mem_filter,List.mem_range,Bool.not_eq_true'] at hi;exact ⟨i,hi⟩
   have hmin:∀ m i,i≤m→i<ops.size→listed.getD i true=false→∃ i,i<ops.size∧listed.getD i true=false∧∀ j,j<i→listed.getD j true=true:=by
    intro m
    induction m with
    | zero=>intro i h1 h2 h3; exact ⟨i,h2,h3,fun j hj=>by omega⟩
    | succ m ihm =>
     intro i h1 h2 h3
     by_cases h4:∃ j,j<i∧listed.getD j true=false
     ·obtain ⟨j,h5,h6⟩:=h4;exact ihm j (by omega) (by omega) h6
     ·refine ⟨i,h2,h3,fun j hj => ?_⟩
      cases hq:listed.getD j true with
      | true=>rfl
      | false=>exact absurd ⟨j,hj,hq⟩ h4
   obtain ⟨i0,h1,h2⟩:=hex;obtain ⟨i,h3,h4,h5⟩:=hmin i0 i0 (Nat.le_refl _) h1 h2;refine List.length_pos_of_mem (a:=i) ?_;simp only [List.mem_filter,List.mem_range,h4,Bool.not_false,Bool.true_and,Array.getElem?_eq_getElem h3,Option.map_some,Option.getD_some];refine ⟨h3,?_⟩;rw [← Array.all_toList,List.all_eq_true];intro e he
   cases hb:Region.binds .any e with
   | false=>rfl
   | true =>
    have h7:=hed1 i h3 e he hb;simp only [Bool.not_true,Bool.false_or];rw [getD_lt (by omega) false true];exact h5 _ h7
  simp only [Region.linearise.go,ordersL];generalize hrs:((List.range ops.size).filter fun i => !listed.getD i true&&((ops[i]?).map (·.after.all fun e => !Region.binds .any e||listed.getD e.on false)).getD false)=rs at hne ⊢;have hlt:n % rs.length<rs.length:=Nat.mod_lt _ hne;rw [List.getElem?_eq_getElem hlt];generalize hri:rs[n % rs.length]=i
  have him:i∈rs:=by rw [← hri]; exact List.getElem_mem hlt
  have him2:=him;rw [← hrs] at him2;simp only [List.mem_filter,List.mem_range,Bool.and_eq_true,Bool.not_eq_true'] at him2;obtain ⟨h1,h2,h3⟩:=him2;rw [Array.getElem?_eq_getElem h1,Option.map_some,Option.getD_some] at h3
  have hedge:∀ e∈(ops[i]).after.toList,Region.binds .any e=true→listed.getD e.on false=true:=by
   intro e he hb;rw [← Array.all_toList,List.all_eq_true] at h3;have:=h3 e he;rw [hb] at this;simpa using this
  have hready:i∈(List.range dep.length).filter (readyL dep done):=by
   simp only [List.mem_filter,List.mem_range,readyL,Bool.and_eq_true,Bool.not_eq_true',hdl];refine ⟨h1,by rw [← hd i h1]; exact h2,?_⟩;rw [List.all_eq_true];intro j hj;have h4:=listed_anc hcl i i j (Nat.le_refl _) ⟨ops[i],Array.getElem?_eq_getElem h1,hedge⟩ (hda i j hj)
   have hjs:j<ops.size:=by
    rw [← hsz]
    refine Decidable.byContradiction fun hn => ?_
    rw [Array.getD_eq_getD_getElem?,Array.getElem?_eq_none (by omega)] at h4
    cases h4
   rw [← hd j hjs,← getD_lt (by omega) false true];exact h4
  have h2':listed.getD i true=false:=h2;simp only;rw [linearise_go_acc,List.reverse_singleton,List.singleton_append];refine List.mem_flatMap.2 ⟨i,hready,List.mem_map.2 ⟨_,lin_dep hed hdl hda fuel _ _ _ (by simpa using hsz) ?_ ?_ ?_,rfl⟩⟩
  ·intro j hj;simp only [Array.getD_eq_getD_getElem?,Array.getElem?_setIfInBounds]
   by_cases hij:i=j
   ·subst hij; simp [hsz,h1]
   ·rw [if_neg hij];have:=hd j hj;rw [Array.getD_eq_getD_getElem?] at this;rw [this];simp [Ne.symm hij]
  ·intro j o ho hj e he hb
   have hset:∀ q,listed.getD q false=true→(listed.setIfInBounds i true).getD q false=true:=by
    intro q hq;simp only [Array.getD_eq_getD_getElem?,Array.getElem?_setIfInBounds] at hq ⊢
    by_cases hiq:i=q
    ·subst hiq; simp [hsz,h1]
    ·rw [if_neg hiq]; exact hq
   refine hset _ ?_
   by_cases hij:i=j
   ·subst hij;rw [Array.getElem?_eq_getElem h1] at ho
    cases ho
    exact hedge e he hb
   ·refine hcl j o ho ?_ e he hb;simp only [Array.getD_eq_getD_getElem?,Array.getElem?_setIfInBounds,if_neg hij] at hj ⊢;exact hj
  ·have:=left_set h1 h2';omega
theorem depL_anc {ops:Array Oper} {gs:List AG} (hok:orderOk ops gs=true) (hlen:gs.length=ops.size) (i j:Nat) (hj:j∈(depL gs).getD i []):anc ops j i=true:=by
 by_cases hi:i<gs.length
 ·have e:(depL gs).getD i []=(List.range i).filter fun j=>match gs[i]?,gs[j]? with
    | some gi,some gj=>(match gj.dst with
     | some d=>(agSlots gi).contains d
     | none=>false)
    | _,_=>false:=by
   simp [depL,List.getD_eq_getElem?_getD,hi]
  rw [e] at hj;simp only [List.mem_filter,List.mem_range] at hj;obtain ⟨hji,hj⟩:=hj;simp only [orderOk,List.all_eq_true,List.mem_range] at hok;have h1:=hok i hi;rw [List.getElem?_eq_getElem hi] at h1 hj;simp only [Bool.and_eq_true,List.all_eq_true,List.mem_range] at h1;have h2:=h1.2 j hji;rw [List.getElem?_eq_getElem (by omega:j<gs.length)] at h2 hj;simp only at h2 hj
  cases hd:(gs[j]'(by omega)).dst with
  | none=>rw [hd] at hj; cases hj
  | some d =>
   rw [hd] at hj;simp only [pairOk,hd,hj,Bool.not_true,Bool.false_and,Bool.or_false,Bool.and_eq_true] at h2;exact h2.2
 ·rw [List.getD_eq_getElem?_getD,List.getElem?_eq_none (by simp [depL]; omega)] at hj;simp at hj
theorem dreg_order {P:Program} {Γ:Nat→Option AV} {N:Env} {g0:G} {f0:FuncId} {cs0:List Frame} {f:Fr} {up:List Fr} {h:List Ob} {l:List Bool} {ws:List Nat} {gs:List AG} {k:List It} (hmd:f.md=.run) (hits:f.its=.code (.dreg l ws gs)::k) {m:Machine} (hm:Sim P Γ N g0 f0 cs0 (.fr f up h) m) :
  ∃ lst∈ordersL (depL gs) gs.length [],∃ m1,Steps P m m1∧Sim P Γ N g0 f0 cs0 (.fr { f with its:=.ops (lst.map fun i=>gs.getD i default)::k } up h) m1:=by
 obtain ⟨g,w,tmps,todo,ds,kd,ro,md,fs,rfl,S,hmr⟩:=hm.inv;rw [hmd] at hmr;simp only [MR] at hmr;subst hmr;have hI:=S.its;rw [hits] at hI
 cases todo with
 | nil=>simp only [IR] at hI
 | cons im k' =>
 cases im <;> simp only [IR] at hI
 rename_i c;obtain ⟨hC,hk⟩:=hI
 cases c <;> try (simp only [CR] at hC; done)
 rename_i id ops draw
 cases draw <;> simp only [CR] at hC
 obtain ⟨hgs,hok,rfl,rfl⟩:=hC;simp only [drawOk,Bool.and_eq_true] at hok;obtain ⟨⟨hok1,hok2⟩,hok3⟩:=hok
 have hlen:gs.length=ops.size:=by rw [(mapM_get hgs).1]; simp
 have hsched:∀ x,Region.schedule (P.follows .mixedOrders) ops x=Region.linearise.go .any ops ops.size x (Array.replicate ops.size false) []:=by
  intro x;unfold Region.schedule;rw [if_pos (by simpa using hok3)];rfl
 have hgetD:∀ i d,(Array.replicate ops.size false).getD i d=if i<ops.size then false else d:=by
  intro i d;rw [Array.getD_eq_getD_getElem?,Array.getElem?_replicate]
  split <;> rfl
 have hleft:left ops.size (Array.replicate ops.size false)=ops.size:=by
  unfold left;rw [List.filter_eq_self.2,List.length_range];intro i hi;rw [hgetD,if_pos (by simpa using hi)];rfl
 have hcl:Closed ops (Array.replicate ops.size false):=by
  intro i o ho hl;have:=lt_of_get (l:=ops.toList) (i:=i) (a:=o) (by simpa using ho);rw [hgetD,if_pos (by simpa using this)] at hl
  cases hl
 have hmem:=lin_dep (dep:=depL gs) hok2 (by simp [depL,hlen]) (depL_anc hok1 hlen) ops.size (w.tape w.drawn (.order f.fn id)) (Array.replicate ops.size false) [] (by simp) (fun i hi=>by rw [hgetD,if_pos hi]; rfl) hcl hleft;have S':St P Γ N g0 f0 g h w.drew f up tmps (.code (.region id ops true)::k') ds kd ro fs:=⟨S.H.world rfl rfl rfl rfl,S.M,S.its,S.t,S.ds,S.kind,S.is,S.b,S.z,S.s⟩;refine ⟨_,by rw [hlen]; exact hmem,_,Steps.one st_draw,?_⟩;rw [hsched];exact S'.go hmd (its:=.ops _::k) ⟨ops_some hgs fun i hi=>mem_go _ _ _ i hi,hk⟩ S.t
inductive Out where
 | ret (r:AV)
 | die (v:AV)
def Con (P:Program) (Γ:Nat→Option AV) (f:FuncId) (as:List AV):Out→Prop
 | .ret r=>PureCon P Γ f as r
 | .die v=>DieCon P Γ f as v
inductive Fins (P:Program) (Γ:Nat→Option AV):Cfg→Out→Prop
 | back {v r:AV} {hh:List Ob}:resA hh v=some r→Fins P Γ (.back [] v hh) (.ret r)
 | die {v:AV} {hh:List Ob}:bel 0 v=true→noM v=true→Fins P Γ (.die [] v hh) (.die v)
 | reach {c c':Cfg} {o:Out}:Reach P Γ c c'→Fins P Γ c' o→Fins P Γ c o
 | orders {f:Fr} {up:List Fr} {h:List Ob} {as:List (List Nat)} {gs:List AG} {k:List It} {o:Out}:f.md=.run→f.its=.code (.oreg as gs)::k→(∀ v,o=.die v→bel 0 v=true∧noM v=true) →
   (∀ l∈ordersL as as.length [],Fins P Γ (.fr { f with its:=.ops (l.map fun i=>gs.getD i default)::k } up h) o)→Fins P Γ (.fr f up h) o
 | ordersD {f:Fr} {up:List Fr} {h:List Ob} {l:List Bool} {ws:List Nat} {gs:List AG} {k:List It} {o:Out}:f.md=.run→f.its=.code (.dreg l ws gs)::k→(∀ v,o=.die v→bel 0 v=true∧noM v=true) →
   (∀ l∈ordersL (depL gs) gs.length [],Fins P Γ (.fr { f with its:=.ops (l.map fun i=>gs.getD i default)::k } up h) o)→Fins P Γ (.fr f up h) o
 | isnil {f:Fr} {up:List Fr} {h:List Ob} {a:AG} {os:List AG} {k:List It} {o:Out}:f.md=.run→f.its=.ops (a::os)::k→wantedA f.t a.guard=some true→aop P Γ f.t h a.op=.either →
   (∀ b,Fins P Γ (.fr { f with its:=.ops os::k,t:=setD f.t a.dst (.bool b) } up h) o)→Fins P Γ (.fr f up h) o
theorem fins_ret {N:Env} {g0:G} {f0:FuncId} {cs0:List Frame} {c:Cfg} {o:Out} (hf:Fins P Γ c o):∀ r,o=.ret r→∀ m,Sim P Γ N g0 f0 cs0 c m→∃ m' v hh,Steps P m m'∧Sim P Γ N g0 f0 cs0 (.back [] v hh) m'∧resA hh v=some r:=by
 induction hf with
 | @back v r hh h1=>intro r' hr m hm; cases hr; exact ⟨m,v,hh,.refl _ _,hm,h1⟩
 | die _ _=>intro r' hr; cases hr
 | reach h1 _ ih =>
  intro r hr m hm;obtain ⟨m1,s1,h2⟩:=reach_sound h1 m hm;obtain ⟨m2,v,hh,s2,h3,h4⟩:=ih r hr m1 h2;exact ⟨m2,v,hh,s1.trans s2,h3,h4⟩
 | orders hmd hits _ _ ih =>
  intro r hr m hm;obtain ⟨l,hl,m1,s1,h2⟩:=oreg_order hmd hits hm;obtain ⟨m2,v,hh,s2,h3,h4⟩:=ih l hl r hr m1 h2;exact ⟨m2,v,hh,s1.trans s2,h3,h4⟩
 | ordersD hmd hits _ _ ih =>
  intro r hr m hm;obtain ⟨l,hl,m1,s1,h2⟩:=dreg_order hmd hits hm;obtain ⟨m2,v,hh,s2,h3,h4⟩:=ih l hl r hr m1 h2;exact ⟨m2,v,hh,s1.trans s2,h3,h4⟩
 | isnil hmd hits hw ha _ ih =>
  intro r hr m hm;obtain ⟨b,m1,s1,h2⟩:=either_step hmd hits hw ha hm;obtain ⟨m2,v,hh,s2,h3,h4⟩:=ih b r hr m1 h2;exact ⟨m2,v,hh,s1.trans s2,h3,h4⟩
theorem fins_die {N:Env} {g0:G} {f0:FuncId} {cs0:List Frame} {c:Cfg} {o:Out} (hf:Fins P Γ c o):∀ v,o=.die v→∀ m,Sim P Γ N g0 f0 cs0 c m→∃ m' hh,Steps P m m'∧Sim P Γ N g0 f0 cs0 (.die [] v hh) m':=by
 induction hf with
 | back _=>intro r' hr; cases hr
 | @die v hh _ _=>intro v' hr m hm; cases hr; exact ⟨m,hh,.refl _ _,hm⟩
 | reach h1 _ ih =>
  intro r hr m hm;obtain ⟨m1,s1,h2⟩:=reach_sound h1 m hm;obtain ⟨m2,hh,s2,h3⟩:=ih r hr m1 h2;exact ⟨m2,hh,s1.trans s2,h3⟩
 | orders hmd hits _ _ ih =>
  intro r hr m hm;obtain ⟨l,hl,m1,s1,h2⟩:=oreg_order hmd hits hm;obtain ⟨m2,hh,s2,h3⟩:=ih l hl r hr m1 h2;exact ⟨m2,hh,s1.trans s2,h3⟩
 | ordersD hmd hits _ _ ih =>
  intro r hr m hm;obtain ⟨l,hl,m1,s1,h2⟩:=dreg_order hmd hits hm;obtain ⟨m2,hh,s2,h3⟩:=ih l hl r hr m1 h2;exact ⟨m2,hh,s1.trans s2,h3⟩
 | isnil hmd hits hw ha _ ih =>
  intro r hr m hm;obtain ⟨b,m1,s1,h2⟩:=either_step hmd hits hw ha hm;obtain ⟨m2,hh,s2,h3⟩:=ih b r hr m1 h2;exact ⟨m2,hh,s1.trans s2,h3⟩
theorem fins_no {c:Cfg} {o:Out} (hf:Fins P Γ c o):∀ v,o=.die v→bel 0 v=true∧noM v=true:=by
 induction hf with
 | back _=>intro r' hr; cases hr
 | @die v hh h1 h2=>intro v' hr; cases hr; exact ⟨h1,h2⟩
 | reach _ _ ih=>exact ih
 | orders _ _ h1 _ _=>exact h1
 | ordersD _ _ h1 _ _=>exact h1
 | isnil _ _ _ _ _ ih=>exact ih true
theorem Fins.go (n:Nat) {c:Cfg} {o:Out} (h:Fins P Γ (AM.go P Γ 0 n c) o):Fins P Γ c o:=.reach (.goes n c) h
theorem Fins.goS (n:Nat) {c:Cfg} {o:Out} (h:Fins P Γ (AM.go P Γ 1 n c) o):Fins P Γ c o:=.reach (.goes n c) h
theorem Reach.exit {fn:FuncId} {k k':List It} {t t':List AV} {ds:List ADef} {kind:FK} {base:Nat} {up:List Fr} {h:List Ob} {id:Nat} {m:List Bool} (h1:exitA id k=some (k',m)) (h2:maskT m t=t') :
  Reach P Γ (.fr ⟨.run,fn,.code (.exit id)::k,t,ds,kind,base⟩ up h) (.fr ⟨.run,fn,k',t',ds,kind,base⟩ up h):=by
 refine .one ?_;simp only [stepA,stepRun,h1,h2];exact .refl _
theorem Fins.call (n:Nat) {f:FuncId} {args as:List AV} {r:AV} {up:List Fr} {h:List Ob} {o:Out} (h1:viewL h args=some as) (h2:PureCon P Γ f as r) (h3:Fins P Γ (AM.go P Γ 0 n (.back up (unownA h.length r).1 (afterPure h args r))) o):Fins P Γ (.cl f args up h) o :=
 .reach (.pure h1 h2) (.go n h3)
theorem Con.body {f:FuncId} {as:List AV} {o:Out} (h:Con P Γ f as o):hasBody P f=true:=by
 cases o with
 | ret r=>exact h.1
 | die v=>exact h.1
theorem Con.of {f:FuncId} {F:AFun} {as:List AV} {o:Out} (n:Nat) (hF:cfun P f=some F) (hb:hasBody P f=true)
  (h:Fins P Γ (AM.go P Γ 0 n (.fr ⟨.run,f,[.code F.body],as++List.replicate (F.nt - as.length) .undef,[],.norm,0⟩ [] [])) o):Con P Γ f as o:=by
 have h2:Fins P Γ (.cl f as [] []) o:=.reach (enter_eq hF as (.refl _)) (.go n h)
 cases o with
 | ret r=>exact PureCon.ofS hb fun _ _ _ _ m hm=>fins_ret h2 r rfl m hm
 | die v=>exact DieCon.ofS hb (fun _ _ _ _ m hm=>fins_die h2 v rfl m hm) (fins_no h2 v rfl).1 (fins_no h2 v rfl).2
theorem PureCon.run {f:FuncId} {F:AFun} {as:List AV} {r:AV} (n:Nat) (hF:cfun P f=some F) (hb:hasBody P f=true)
  (h:Fins P Γ (AM.go P Γ 0 n (.fr ⟨.run,f,[.code F.body],as++List.replicate (F.nt - as.length) .undef,[],.norm,0⟩ [] [])) (.ret r)):PureCon P Γ f as r:=Con.of (o:=.ret r) n hF hb h
theorem Fins.drop {f:Fr} {up:List Fr} {h h':List Ob} {o:Out} (n:Nat) (hh:h.take n=h') (h1:f.base≤n) (h2:belF n f=true) (h3:belH n h'=true) (h4:Fins P Γ (.fr f up h') o):Fins P Γ (.fr f up h) o:=by
 subst hh; exact .reach (.drop n h1 h2 h3) h4
theorem Fins.reset {f:Fr} {up:List Fr} {h:List Ob} {o:Out} {i k:Nat} {E:TypeId} {es:List AV} {fl sh:Bool} (hi:h[i]? = some (.row k E es (some 0) fl sh)) (h1:f.base≤i) (h2:vldF i es.length f=true) (h3:vldH i es.length h=true)
  (h4:Fins P Γ (.fr f up (h.set i (.row k E es none fl sh))) o):Fins P Γ (.fr f up h) o:=.reach (.reset h1 hi h2 h3) h4
section
variable {fn : FuncId} {k : List It} {t : List AV} {ds : List ADef} {kind : FK} {base : Nat} {up : List Fr} {h : List Ob} {o : Out}
theorem Fins.enter (n:Nat) {g:FuncId} {F:AFun} {args:List AV} (hF:cfun P g=some F) (h1:Fins P Γ (AM.go P Γ 0 n (.fr ⟨.run,g,[.code F.body],args++List.replicate (F.nt - args.length) .undef,[],.norm,h.length⟩ up h)) o):Fins P Γ (.cl g args up h) o :=
 .reach (enter_eq hF args (.refl _)) (.go n h1)
theorem Fins.inLoop {m:List Bool} {b:ACode} (h1:Fins P Γ (.fr ⟨.run,fn,.code b::.inLoop m b::k,maskT m t,ds,kind,base⟩ up h) o):Fins P Γ (.fr ⟨.run,fn,.code (.loop m b)::k,t,ds,kind,base⟩ up h) o:=.reach (in_loop (.refl _)) h1
theorem Fins.reLoop {m:List Bool} {b:ACode} (h1:Fins P Γ (.fr ⟨.run,fn,.code b::.inLoop m b::k,maskT m t,ds,kind,base⟩ up h) o):Fins P Γ (.fr ⟨.run,fn,.inLoop m b::k,t,ds,kind,base⟩ up h) o:=.reach (re_loop (.refl _)) h1
end
end
end Go.AM
namespace Go.AM
section
variable {P : Program} {Γ : Nat → Option AV}
def Hold (Cs:List (Nat×(List Ob→Prop))) (i:Nat) (h:List Ob):Prop:=∀ C∈Cs,i<C.1→C.2 h
@[simp] theorem Hold_nil (i:Nat) (h:List Ob):Hold [] i h↔True:=by simp [Hold]
@[simp] theorem Hold_cons (C:Nat×(List Ob→Prop)) (Cs:List (Nat×(List Ob→Prop))) (i:Nat) (h:List Ob):Hold (C::Cs) i h↔(i<C.1→C.2 h)∧Hold Cs i h:=by simp [Hold]
structure Kont where
 k:List AV→List Ob→Prop
 X:Obl→Prop
def DRun (P:Program) (Γ:Nat→Option AV) (K:Kont):List Bool→List Nat→Nat→List AG→List AV→List Ob→List (List Ob)→List (Nat×(List Ob→Prop))→Prop
 | _,_,_,[],t,h,_,_=>K.k t h
 | l,ws,i,o::os,t,h,hs,Cs =>
  match wantedA t o.guard with
  | some true =>
   match aop P Γ t h o.op with
   | .val v h' =>
    if aoClass o.op=2 then Hold Cs (i+1) h'∧DRun P Γ K l.tail ws.tail (i+1) os (setD t o.dst v) h' (h'::hs) Cs
    else if l.headD true=true∧aoClass o.op=1 then (∀ g∈hs,aop P Γ t g o.op=.val v g)∧DRun P Γ K l.tail ws.tail (i+1) os (setD t o.dst v) h' hs ((ws.headD 0,fun g=>aop P Γ t g o.op=.val v g)::Cs)
    else DRun P Γ K l.tail ws.tail (i+1) os (setD t o.dst v) h' hs Cs
   | .skip h'=>Hold Cs (i+1) h'∧DRun P Γ K l.tail ws.tail (i+1) os (setD t o.dst (.tup [])) h' (h'::hs) Cs
   | .call f args=>hasBody P f=true ∧
    if l.headD true=true then ∃ (v:AV) (C:List Ob→Prop),(∀ g,C g→aop P Γ t g o.op=.call f args∧∀ up,Reach P Γ (.cl f args up g) (.back up v g))∧(∀ g∈hs,C g)∧DRun P Γ K l.tail ws.tail (i+1) os (setD t o.dst v) h hs ((ws.headD 0,C)::Cs)
    else ∃ (v:AV) (h':List Ob),((∀ up,Reach P Γ (.cl f args up h) (.back up v h'))∨K.X ⟨.fn f,args,h,v,h'⟩)∧Hold Cs (i+1) h'∧DRun P Γ K l.tail ws.tail (i+1) os (setD t o.dst v) h' (h'::hs) Cs
   | .yield y args=>l.headD true=false∧∃ (v:AV) (h':List Ob),(∀ up,Reach P Γ ((Cal.yl y).cfg args up h) (.back up v h'))∧Hold Cs (i+1) h'∧DRun P Γ K l.tail ws.tail (i+1) os (setD t o.dst v) h' (h'::hs) Cs
   | _=>False
  | some false=>DRun P Γ K l.tail ws.tail (i+1) os (setD t o.dst (.tup [])) h hs Cs
  | none=>False
theorem val_same {t:List AV} {h h':List Ob} {o:AO} {v:AV} (hv:aop P Γ t h o=.val v h') (hc:aoClass o≠2):h'=h:=(aop_still (v:=v) (h':=h') hc).1 hv
def Stand (i:Nat) (hs0 hs HS:List (List Ob)):Prop:=∀ k g,HS[k]? = some g→(k≤i→g∈hs0)∧(i<k→hs[k - i - 1]? = some g)
theorem Stand.next {i:Nat} {hs0 hs1 hs HS:List (List Ob)} {h':List Ob} (h1:Stand i hs0 (h'::hs) HS) (h2:∀ g∈hs0,g∈hs1) (h3:h'∈hs1):Stand (i+1) hs1 hs HS:=by
 intro k g hk;obtain ⟨a,b⟩:=h1 k g hk;refine ⟨fun h => ?_,fun h => ?_⟩
 ·by_cases hki:k≤i
  ·exact h2 g (a hki)
  ·have:=b (by omega)
   have e:k - i - 1=0:=by omega
   rw [e] at this;simp at this;subst this;exact h3
 ·have:=b (by omega)
  have e:k - i - 1=(k - (i+1) - 1)+1:=by omega
  rw [e] at this;simpa using this
theorem Stand.all {i w:Nat} {hs0 hs HS:List (List Ob)} {C:List Ob→Prop} (h1:Stand i hs0 hs HS) (h2:∀ g∈hs0,C g) (h3:∀ k g,hs[k]? = some g→i+1+k<w→C g):∀ g∈HS.take w,C g:=by
 intro g hg;obtain ⟨k,hk⟩:=List.mem_iff_getElem?.1 hg;rw [List.getElem?_take] at hk
 split at hk
 ·rename_i hkw;obtain ⟨a,b⟩:=h1 k g hk
  by_cases hki:k≤i
  ·exact h2 g (a hki)
  ·exact h3 _ g (b (by omega)) (by omega)
 ·cases hk
theorem DRun_weak {K:Kont}:∀ {gs:List AG} {l:List Bool} {ws:List Nat} {i:Nat} {t:List AV} {h:List Ob} {hs:List (List Ob)} {Cs Cs':List (Nat×(List Ob→Prop))},(∀ C∈Cs',C∈Cs)→DRun P Γ K l ws i gs t h hs Cs→DRun P Γ K l ws i gs t h hs Cs'
 | [],_,_,_,_,_,_,_,_,_,h1=>h1
 | o::os,l,ws,i,t,h,hs,Cs,Cs',hs',h1=>by
  unfold DRun at h1 ⊢
  have hH:∀ {j h},Hold Cs j h→Hold Cs' j h:=fun q C hC=>q C (hs' C hC)
  have hcons:∀ {C:Nat×(List Ob→Prop)},∀ D∈C::Cs',D∈C::Cs:=by
   intro C D hD
   rcases List.mem_cons.1 hD with rfl | hD
   ·simp
   ·exact List.mem_cons_of_mem _ (hs' D hD)
  split at h1
  ·split at h1
   ·split
    ·rename_i h2; rw [if_pos h2] at h1; exact ⟨hH h1.1,DRun_weak hs' h1.2⟩
    ·rename_i h2;rw [if_neg h2] at h1
     split
     ·rename_i h3; rw [if_pos h3] at h1; exact ⟨h1.1,DRun_weak hcons h1.2⟩
     ·rename_i h3; rw [if_neg h3] at h1; exact DRun_weak hs' h1
   ·exact ⟨hH h1.1,DRun_weak hs' h1.2⟩
   ·refine ⟨h1.1,?_⟩;have h1:=h1.2
    split
    ·rename_i h2;rw [if_pos h2] at h1;obtain ⟨v,C,a,b,c⟩:=h1;exact ⟨v,C,a,b,DRun_weak hcons c⟩
    ·rename_i h2;rw [if_neg h2] at h1;obtain ⟨v,h',a,b,c⟩:=h1;exact ⟨v,h',a,hH b,DRun_weak hs' c⟩
   ·obtain ⟨h0,v,h',a,b,c⟩:=h1;exact ⟨h0,v,h',a,hH b,DRun_weak hs' c⟩
   ·exact h1
  ·exact DRun_weak hs' h1
  ·exact h1
theorem DRun_filter {K:Kont} {gs:List AG} {l:List Bool} {ws:List Nat} {i j:Nat} {t:List AV} {h:List Ob} {hs:List (List Ob)} {Cs:List (Nat×(List Ob→Prop))} (h1:DRun P Γ K l ws j gs t h hs Cs):DRun P Γ K l ws j gs t h hs (Cs.filter fun C=>decide (i<C.1)) :=
 DRun_weak (fun C hC=>(List.mem_filter.1 hC).1) h1
theorem DRun_sound {K:Kont}:∀ {gs:List AG} {l:List Bool} {ws:List Nat} {i:Nat} {t:List AV} {h:List Ob} {hs0:List (List Ob)} {Cs0:List (Nat×(List Ob→Prop))},DRun P Γ K l ws i gs t h hs0 Cs0→h∈hs0→(∀ C∈Cs0,∀ g∈hs0,C.2 g) →
  ∃ (orc:List (AV×List Ob)) (t':List AV) (h':List Ob) (obls:List Obl) (hs:List (List Ob)) (obls1:List Obl),runD P Γ orc gs t h=some (t',h',obls,hs)∧K.k t' h'∧(∀ C∈Cs0,∀ k g,hs[k]? = some g→i+1+k<C.1→C.2 g) ∧
   (∀ o∈obls,o∈obls1)∧(∀ o∈obls1,(∀ up,Reach P Γ (o.f.cfg o.args up o.h) (.back up o.v o.h'))∨K.X o) ∧
   ∀ (HS:List (List Ob)) (obls0:List Obl),Stand i hs0 hs HS→(∀ o∈obls1,o∈obls0)→calm P Γ obls0 HS l ws orc gs t h
 | [],l,ws,i,t,h,hs0,Cs0,hD,_,_=>⟨[],t,h,[],[],[],rfl,hD,by simp,by simp,by simp,fun _ _ _ _=>trivial⟩
 | o::os,l,ws,i,t,h,hs0,Cs0,hD,hh,hC=>by
  unfold DRun at hD;unfold runD calm
  have hnext:∀ {h':List Ob} {hs:List (List Ob)},(∀ C∈Cs0,i+1<C.1→C.2 h')→(∀ C∈Cs0,∀ k g,hs[k]? = some g→i+1+1+k<C.1→C.2 g)→∀ C∈Cs0,∀ k g,(h'::hs)[k]? = some g→i+1+k<C.1→C.2 g:=by
   intro h' hs q1 q2 C hCm k g hk hlt
   cases k with
   | zero=>simp at hk; subst hk; exact q1 C hCm (by omega)
   | succ k=>exact q2 C hCm k g (by simpa using hk) (by omega)
  cases hw:wantedA t o.guard with
  | none=>rw [hw] at hD; exact hD.elim
  | some b =>
   rw [hw] at hD
   cases b with
   | false =>
    simp only at hD ⊢;obtain ⟨orc,t',h2',obls,hs,obls1,e1,e2,e3,e4,e5,e6⟩:=DRun_sound hD hh hC;exact ⟨orc,t',h2',obls,h::hs,obls1,by rw [e1]; rfl,e2,hnext (fun C hCm _=>hC C hCm h hh) e3,e4,e5,fun HS obls0 q1 q2=>e6 HS obls0 (q1.next (fun _ x=>x) hh) q2⟩
   | true =>
    simp only at hD ⊢
    cases ha:aop P Γ t h o.op with
    | val v h' =>
     rw [ha] at hD;simp only at hD ⊢
     by_cases h2:aoClass o.op=2
     ·rw [if_pos h2] at hD;obtain ⟨hn,hD⟩:=hD
      have hCn:∀ C∈Cs0.filter (fun C=>decide (i+1<C.1)),∀ g∈h'::hs0,C.2 g:=by
       intro C hCm g hg;simp only [List.mem_filter,decide_eq_true_eq] at hCm
       rcases List.mem_cons.1 hg with rfl | hg
       ·exact hn C hCm.1 hCm.2
       ·exact hC C hCm.1 g hg
      have hD':=DRun_filter (i:=i+1) hD;obtain ⟨orc,t',h2',obls,hs,obls1,e1,e2,e3,e4,e5,e6⟩:=DRun_sound hD' (by simp) hCn
      refine ⟨orc,t',h2',obls,h'::hs,obls1,by rw [e1]; rfl,e2,hnext hn (fun C hCm k g hk hlt=>e3 C (by simp only [List.mem_filter,decide_eq_true_eq]; exact ⟨hCm,by omega⟩) k g hk hlt),e4,e5,
       fun HS obls0 q1 q2=>⟨fun _ h1=>(by rw [h2] at h1; cases h1),e6 HS obls0 (q1.next (fun _ x=>List.mem_cons_of_mem _ x) (by simp)) q2⟩⟩
     ·rw [if_neg h2] at hD;have hhe:=val_same ha h2
      by_cases h1:l.headD true=true∧aoClass o.op=1
      ·rw [if_pos h1] at hD;obtain ⟨hn,hD⟩:=hD;subst hhe
       obtain ⟨orc,t',h2',obls,hs,obls1,e1,e2,e3,e4,e5,e6⟩:=DRun_sound hD hh (fun C hCm g hg=>by
        rcases List.mem_cons.1 hCm with rfl | hCm
        ·exact hn g hg
        ·exact hC C hCm g hg)
       refine ⟨orc,t',h2',obls,h'::hs,obls1,by rw [e1]; rfl,e2,hnext (fun C hCm _=>hC C hCm h' hh) (fun C hCm=>e3 C (List.mem_cons_of_mem _ hCm)),e4,e5,fun HS obls0 q1 q2=>⟨fun _ _ g hg => ?_,e6 HS obls0 (q1.next (fun _ x=>x) hh) q2⟩⟩;have q1':=q1.next (hs1:=hs0) (fun _ x=>x) hh;exact q1'.all (C:=fun g=>aop P Γ t g o.op=.val v g) hn (fun k g hk hlt=>e3 _ List.mem_cons_self k g hk hlt) g hg
      ·rw [if_neg h1] at hD;subst hhe;obtain ⟨orc,t',h2',obls,hs,obls1,e1,e2,e3,e4,e5,e6⟩:=DRun_sound hD hh hC;exact ⟨orc,t',h2',obls,h'::hs,obls1,by rw [e1]; rfl,e2,hnext (fun C hCm _=>hC C hCm h' hh) e3,e4,e5,fun HS obls0 q1 q2=>⟨fun q3 q4=>absurd ⟨q3,q4⟩ h1,e6 HS obls0 (q1.next (fun _ x=>x) hh) q2⟩⟩
    | skip h' =>
     rw [ha] at hD;simp only at hD ⊢;obtain ⟨hn,hD⟩:=hD
     have hCn:∀ C∈Cs0.filter (fun C=>decide (i+1<C.1)),∀ g∈h'::hs0,C.2 g:=by
      intro C hCm g hg;simp only [List.mem_filter,decide_eq_true_eq] at hCm
      rcases List.mem_cons.1 hg with rfl | hg
      ·exact hn C hCm.1 hCm.2
      ·exact hC C hCm.1 g hg
     have hD':=DRun_filter (i:=i+1) hD;obtain ⟨orc,t',h2',obls,hs,obls1,e1,e2,e3,e4,e5,e6⟩:=DRun_sound hD' (by simp) hCn
     exact ⟨orc,t',h2',obls,h'::hs,obls1,by rw [e1]; rfl,e2,hnext hn (fun C hCm k g hk hlt=>e3 C (by simp only [List.mem_filter,decide_eq_true_eq]; exact ⟨hCm,by omega⟩) k g hk hlt),e4,e5,
      fun HS obls0 q1 q2=>e6 HS obls0 (q1.next (fun _ x=>List.mem_cons_of_mem _ x) (by simp)) q2⟩
    | call f args =>
     rw [ha] at hD;simp only at hD ⊢;obtain ⟨hb,hD⟩:=hD
     have hb':¬ hasBody P f=false:=by simp [hb]
     by_cases hl:l.headD true=true
     ·rw [if_pos hl] at hD;obtain ⟨v,C,hC1,hC2,hD⟩:=hD
      obtain ⟨orc,t',h2',obls,hs,obls1,e1,e2,e3,e4,e5,e6⟩:=DRun_sound hD hh (fun C' hCm g hg=>by
       rcases List.mem_cons.1 hCm with rfl | hCm
       ·exact hC2 g hg
       ·exact hC C' hCm g hg)
      have hall:∀ {HS:List (List Ob)},Stand i hs0 (h::hs) HS→∀ g∈HS.take (ws.headD 0),C g:=fun q1=>(q1.next (hs1:=hs0) (fun _ x=>x) hh).all hC2 (fun k g hk hlt=>e3 _ List.mem_cons_self k g hk hlt)
      have hHS:Stand i hs0 (h::hs) (List.replicate (i+1) h++h::hs):=by
       intro k g hk;refine ⟨fun hki => ?_,fun hki => ?_⟩
       ·rw [List.getElem?_append_left (by simp; omega),List.getElem?_replicate,if_pos (by omega)] at hk
        cases hk
        exact hh
       ·rw [List.getElem?_append_right (by simp; omega)] at hk;rw [List.length_replicate] at hk;rw [show k - i - 1=k - (i+1) by omega];exact hk
      have hgs:∀ g,g∈hs0∨(∃ k,hs[k]? = some g∧i+1+1+k<ws.headD 0)→C g:=by
       rintro g (hg | ⟨k,hk,hlt⟩)
       ·exact hC2 g hg
       ·exact e3 _ List.mem_cons_self k g hk hlt
      refine ⟨(v,h)::orc,t',h2',⟨.fn f,args,h,v,h⟩::obls,h::hs,((hs0++(hs.take (ws.headD 0 - (i+2)))).map fun g=>⟨.fn f,args,g,v,g⟩)++obls1,by rw [if_neg hb']; simp only [e1,Option.map_some],e2,hnext (fun C' hCm _=>hC C' hCm h hh) (fun C' hCm=>e3 C' (List.mem_cons_of_mem _ hCm)),
       fun ob hob => ?_,fun ob hob => ?_,fun HS obls0 q1 q2=>⟨fun _=>⟨rfl,fun g hg => ?_⟩,e6 HS obls0 (q1.next (fun _ x=>x) hh) (fun ob hob=>q2 ob (List.mem_append_right _ hob))⟩⟩
      ·rcases List.mem_cons.1 hob with rfl | hob
       ·exact List.mem_append_left _ (List.mem_map.2 ⟨h,List.mem_append_left _ hh,rfl⟩)
       ·exact List.mem_append_right _ (e4 ob hob)
      ·rcases List.mem_append.1 hob with hob | hob
       ·obtain ⟨g,hg,rfl⟩:=List.mem_map.1 hob;refine .inl (hC1 g (hgs g ?_)).2
        rcases List.mem_append.1 hg with hg | hg
        ·exact Or.inl hg
        ·obtain ⟨k,hk⟩:=List.mem_iff_getElem?.1 hg;rw [List.getElem?_take] at hk
         split at hk
         ·exact Or.inr ⟨k,hk,by omega⟩
         ·cases hk
       ·exact e5 ob hob
      ·refine ⟨(hC1 g (hall q1 g hg)).1,q2 _ (List.mem_append_left _ (List.mem_map.2 ⟨g,?_,rfl⟩))⟩;obtain ⟨k,hk⟩:=List.mem_iff_getElem?.1 hg;rw [List.getElem?_take] at hk
       split at hk
       ·rename_i hkw;obtain ⟨x1,x2⟩:=q1 k g hk
        by_cases hki:k≤i
        ·exact List.mem_append_left _ (x1 hki)
        ·have x3:=x2 (by omega)
         by_cases hk1:k=i+1
         ·subst hk1;simp at x3;subst x3;exact List.mem_append_left _ hh
         ·rw [show k - i - 1=(k - (i+2))+1 by omega] at x3;simp only [List.getElem?_cons_succ] at x3;refine List.mem_append_right _ (List.mem_of_getElem? (i:=k - (i+2)) ?_);rw [List.getElem?_take,if_pos (by omega)];exact x3
       ·cases hk
     ·rw [if_neg hl] at hD;obtain ⟨v,h',hR,hn,hD⟩:=hD
      have hCn:∀ C∈Cs0.filter (fun C=>decide (i+1<C.1)),∀ g∈h'::hs0,C.2 g:=by
       intro C hCm g hg;simp only [List.mem_filter,decide_eq_true_eq] at hCm
       rcases List.mem_cons.1 hg with rfl | hg
       ·exact hn C hCm.1 hCm.2
       ·exact hC C hCm.1 g hg
      have hD':=DRun_filter (i:=i+1) hD;obtain ⟨orc,t',h2',obls,hs,obls1,e1,e2,e3,e4,e5,e6⟩:=DRun_sound hD' (by simp) hCn
      refine ⟨(v,h')::orc,t',h2',⟨.fn f,args,h,v,h'⟩::obls,h'::hs,⟨.fn f,args,h,v,h'⟩::obls1,by rw [if_neg hb']; simp only [e1,Option.map_some],e2,hnext hn (fun C hCm k g hk hlt=>e3 C (by simp only [List.mem_filter,decide_eq_true_eq]; exact ⟨hCm,by omega⟩) k g hk hlt),
       fun ob hob => ?_,fun ob hob => ?_,fun HS obls0 q1 q2=>⟨fun q3=>absurd q3 hl,e6 HS obls0 (q1.next (fun _ x=>List.mem_cons_of_mem _ x) (by simp)) (fun ob hob=>q2 ob (List.mem_cons_of_mem _ hob))⟩⟩
      ·rcases List.mem_cons.1 hob with rfl | hob
       ·simp
       ·exact List.mem_cons_of_mem _ (e4 ob hob)
      ·rcases List.mem_cons.1 hob with rfl | hob
       ·exact hR
       ·exact e5 ob hob
    | yield y args =>
     rw [ha] at hD;simp only at hD ⊢;obtain ⟨hl,v,h',hR,hn,hD⟩:=hD
     have hCn:∀ C∈Cs0.filter (fun C=>decide (i+1<C.1)),∀ g∈h'::hs0,C.2 g:=by
      intro C hCm g hg;simp only [List.mem_filter,decide_eq_true_eq] at hCm
      rcases List.mem_cons.1 hg with rfl | hg
      ·exact hn C hCm.1 hCm.2
      ·exact hC C hCm.1 g hg
     have hD':=DRun_filter (i:=i+1) hD;obtain ⟨orc,t',h2',obls,hs,obls1,e1,e2,e3,e4,e5,e6⟩:=DRun_sound hD' (by simp) hCn
     refine ⟨(v,h')::orc,t',h2',⟨.yl y,args,h,v,h'⟩::obls,h'::hs,⟨.yl y,args,h,v,h'⟩::obls1,by simp only [e1,Option.map_some],e2,hnext hn (fun C hCm k g hk hlt=>e3 C (by simp only [List.mem_filter,decide_eq_true_eq]; exact ⟨hCm,by omega⟩) k g hk hlt),
      fun ob hob => ?_,fun ob hob => ?_,fun HS obls0 q1 q2=>⟨hl,e6 HS obls0 (q1.next (fun _ x=>List.mem_cons_of_mem _ x) (by simp)) (fun ob hob=>q2 ob (List.mem_cons_of_mem _ hob))⟩⟩
     ·rcases List.mem_cons.1 hob with rfl | hob
      ·simp
      ·exact List.mem_cons_of_mem _ (e4 ob hob)
     ·rcases List.mem_cons.1 hob with rfl | hob
      ·exact .inl hR
      ·exact e5 ob hob
    | _=>rw [ha] at hD; exact hD.elim
structure Beh where
 fn:FuncId
 k:List It
 e:Cx
 n:Nat
 st:Nat
def Beh.fins (P:Program) (Γ:Nat→Option AV) (b:Beh) (o:Out):Kont:=⟨fun t h=>Fins P Γ (AM.go P Γ 0 b.n (.fr ⟨.run,b.fn,b.k,t,b.e.ds,b.e.kind,b.e.base⟩ b.e.up h)) o,fun _=>False⟩
def Beh.reach (P:Program) (Γ:Nat→Option AV) (b:Beh) (c:Cfg):Kont:=⟨fun t h=>Reach P Γ (AM.go P Γ b.st b.n (.fr ⟨.run,b.fn,b.k,t,b.e.ds,b.e.kind,b.e.base⟩ b.e.up h)) c,fun _=>False⟩
def HasBad (h:List Ob):Prop:=∃ (i:Nat) (E:TypeId) (es:List AV) (gr:Option Nat) (fl sh:Bool),h[i]? = some (.row 0 E es gr fl sh)
abbrev badO:Ob:=.row 0 0 [] none false false
theorem HasBad.of {h:List Ob} (h1:badO∈h):HasBad h:=by
 obtain ⟨i,hi⟩:=List.mem_iff_getElem?.1 h1;exact ⟨i,_,_,_,_,_,hi⟩
def Beh.die (P:Program) (Γ:Nat→Option AV) (b:Beh) (D:Cfg):Kont:=⟨fun _ h=>HasBad h,fun o=>∀ its t,Reach P Γ (o.f.cfg o.args (⟨.run,b.fn,its,t,b.e.ds,b.e.kind,b.e.base⟩::b.e.up) o.h) D⟩
variable {fn : FuncId} {k : List It} {t : List AV} {ds : List ADef} {kind : FK} {base : Nat} {up : List Fr} {h : List Ob}
theorem Reach.dr {l:List Bool} {ws:List Nat} {gs:List AG} {c:Cfg} (h1:DRun P Γ ⟨fun t' h'=>Reach P Γ (.fr ⟨.run,fn,k,t',ds,kind,base⟩ up h') c,fun _=>False⟩ l ws 0 gs t h [h] []) :
  Reach P Γ (.fr ⟨.run,fn,.code (.dreg l ws gs)::k,t,ds,kind,base⟩ up h) c:=by
 obtain ⟨orc,t',h',obls,hs,obls1,e1,e2,_,e4,e5,e6⟩:=DRun_sound h1 (by simp) (by simp)
 exact .trans (.dreg (f:=⟨.run,fn,.code (.dreg l ws gs)::k,t,ds,kind,base⟩) rfl rfl e1 e4 (fun o ho up=>(e5 o ho).elim (fun h=>h up) False.elim) (e6 (h::hs) obls1 (by
  intro k g hk;refine ⟨fun hk0 => ?_,fun hk0 => ?_⟩
  ·have:k=0:=by omega
   subst this; simp at hk; simp [hk]
  ·cases k with
   | zero=>omega
   | succ k=>simpa using hk) (fun _ ho=>ho))) e2
theorem DRun_mono {K K':Kont} (hX:∀ o,K.X o→K'.X o) (hK:∀ t h,K.k t h→K'.k t h):∀ {gs:List AG} {l:List Bool} {ws:List Nat} {i:Nat} {t:List AV} {h:List Ob} {hs:List (List Ob)} {Cs:List (Nat×(List Ob→Prop))},DRun P Γ K l ws i gs t h hs Cs→DRun P Γ K' l ws i gs t h hs Cs
 | [],_,_,_,_,_,_,_,h1=>hK _ _ h1
 | o::os,l,ws,i,t,h,hs,Cs,h1=>by
  unfold DRun at h1 ⊢
  split at h1
  ·split at h1
   ·split
    ·rename_i h2; rw [if_pos h2] at h1; exact ⟨h1.1,DRun_mono hX hK h1.2⟩
    ·rename_i h2;rw [if_neg h2] at h1
     split
     ·rename_i h3; rw [if_pos h3] at h1; exact ⟨h1.1,DRun_mono hX hK h1.2⟩
     ·rename_i h3; rw [if_neg h3] at h1; exact DRun_mono hX hK h1
   ·exact ⟨h1.1,DRun_mono hX hK h1.2⟩
   ·refine ⟨h1.1,?_⟩;have h1:=h1.2
    split
    ·rename_i h2;rw [if_pos h2] at h1;obtain ⟨v,C,a,b,c⟩:=h1;exact ⟨v,C,a,b,DRun_mono hX hK c⟩
    ·rename_i h2;rw [if_neg h2] at h1;obtain ⟨v,h',a,b,c⟩:=h1;exact ⟨v,h',a.imp_right (hX _),b,DRun_mono hX hK c⟩
   ·obtain ⟨h0,v,h',a,b,c⟩:=h1;exact ⟨h0,v,h',a,b,DRun_mono hX hK c⟩
   ·exact h1
  ·exact DRun_mono hX hK h1
  ·exact h1
theorem Fins.dr (n:Nat) {l:List Bool} {ws:List Nat} {gs:List AG} {o:Out} (h1:DRun P Γ (Beh.fins P Γ ⟨fn,k,⟨ds,kind,base,up⟩,n,0⟩ o) l ws 0 gs t h [h] []) :
  Fins P Γ (.fr ⟨.run,fn,.code (.dreg l ws gs)::k,t,ds,kind,base⟩ up h) o:=by
 cases o with
 | ret r =>
  obtain ⟨orc,t',h',obls,hs,obls1,e1,e2,_,e4,e5,e6⟩:=DRun_sound h1 (by simp) (by simp)
  refine .reach (.dreg (f:=⟨.run,fn,.code (.dreg l ws gs)::k,t,ds,kind,base⟩) rfl rfl e1 e4 (fun o ho up=>(e5 o ho).elim (fun h=>h up) False.elim) (e6 (h::hs) obls1 (by
  intro k g hk;refine ⟨fun hk0 => ?_,fun hk0 => ?_⟩
  ·have:k=0:=by omega
   subst this; simp at hk; simp [hk]
  ·cases k with
   | zero=>omega
   | succ k=>simpa using hk) (fun _ ho=>ho))) (.go n e2)
 | die v =>
  obtain ⟨orc,t',h',obls,hs,obls1,e1,e2,_,e4,e5,e6⟩:=DRun_sound h1 (by simp) (by simp)
  refine .reach (.dreg (f:=⟨.run,fn,.code (.dreg l ws gs)::k,t,ds,kind,base⟩) rfl rfl e1 e4 (fun o ho up=>(e5 o ho).elim (fun h=>h up) False.elim) (e6 (h::hs) obls1 (by
  intro k g hk;refine ⟨fun hk0 => ?_,fun hk0 => ?_⟩
  ·have:k=0:=by omega
   subst this; simp at hk; simp [hk]
  ·cases k with
   | zero=>omega
   | succ k=>simpa using hk) (fun _ ho=>ho))) (.go n e2)
theorem Reach.drS (n:Nat) {l:List Bool} {ws:List Nat} {gs:List AG} {c:Cfg} (h1:DRun P Γ (Beh.reach P Γ ⟨fn,k,⟨ds,kind,base,up⟩,n,1⟩ c) l ws 0 gs t h [h] []) :
  Reach P Γ (.fr ⟨.run,fn,.code (.dreg l ws gs)::k,t,ds,kind,base⟩ up h) c:=.dr (DRun_mono (K:=Beh.reach P Γ ⟨fn,k,⟨ds,kind,base,up⟩,n,1⟩ c) (K':=⟨fun t' h'=>Reach P Γ (.fr ⟨.run,fn,k,t',ds,kind,base⟩ up h') c,fun _=>False⟩) (fun _ x=>x) (fun _ _ hr=>Reach.goS n hr) h1)
theorem Reach.drB (n:Nat) {l:List Bool} {ws:List Nat} {gs:List AG} {c:Cfg} (h1:DRun P Γ (Beh.reach P Γ ⟨fn,k,⟨ds,kind,base,up⟩,n,2⟩ c) l ws 0 gs t h [h] []) :
  Reach P Γ (.fr ⟨.run,fn,.code (.dreg l ws gs)::k,t,ds,kind,base⟩ up h) c:=.dr (DRun_mono (K:=Beh.reach P Γ ⟨fn,k,⟨ds,kind,base,up⟩,n,2⟩ c) (K':=⟨fun t' h'=>Reach P Γ (.fr ⟨.run,fn,k,t',ds,kind,base⟩ up h') c,fun _=>False⟩) (fun _ x=>x) (fun _ _ hr=>Reach.goB n hr) h1)
variable {K : Kont} {l : List Bool} {ws : List Nat} {i w : Nat} {b : Bool} {d : Option Nat} {a : AO} {os : List AG} {hs : List (List Ob)} {Cs : List (Nat × (List Ob → Prop))} {h' : List Ob} {v : AV} {f : FuncId} {args : List AV}
def drR (P:Program) (Γ:Nat→Option AV) (K:Kont) (b:Bool) (l:List Bool) (w:Nat) (ws:List Nat) (i:Nat) (d:Option Nat) (a:AO) (os:List AG) (t:List AV) (h:List Ob) (hs:List (List Ob)) (Cs:List (Nat×(List Ob→Prop))):R→Prop
 | .val v h' =>
  if aoClass a=2 then Hold Cs (i+1) h'∧DRun P Γ K l ws (i+1) os (setD t d v) h' (h'::hs) Cs
  else if b=true∧aoClass a=1 then (∀ g∈hs,aop P Γ t g a=.val v g)∧DRun P Γ K l ws (i+1) os (setD t d v) h' hs ((w,fun g=>aop P Γ t g a=.val v g)::Cs)
  else DRun P Γ K l ws (i+1) os (setD t d v) h' hs Cs
 | .skip h'=>Hold Cs (i+1) h'∧DRun P Γ K l ws (i+1) os (setD t d (.tup [])) h' (h'::hs) Cs
 | .call f args=>hasBody P f=true ∧
  if b=true then ∃ (v:AV) (C:List Ob→Prop),(∀ g,C g→aop P Γ t g a=.call f args∧∀ up,Reach P Γ (.cl f args up g) (.back up v g))∧(∀ g∈hs,C g)∧DRun P Γ K l ws (i+1) os (setD t d v) h hs ((w,C)::Cs)
  else ∃ (v:AV) (h':List Ob),((∀ up,Reach P Γ (.cl f args up h) (.back up v h'))∨K.X ⟨.fn f,args,h,v,h'⟩)∧Hold Cs (i+1) h'∧DRun P Γ K l ws (i+1) os (setD t d v) h' (h'::hs) Cs
 | .yield y args=>b=false∧∃ (v:AV) (h':List Ob),(∀ up,Reach P Γ ((Cal.yl y).cfg args up h) (.back up v h'))∧Hold Cs (i+1) h'∧DRun P Γ K l ws (i+1) os (setD t d v) h' (h'::hs) Cs
 | _=>False
structure DRY (P:Program) (Γ:Nat→Option AV) (K:Kont) (b:Bool) (l:List Bool) (w:Nat) (ws:List Nat) (i:Nat) (d:Option Nat) (a:AO) (os:List AG) (t:List AV) (h:List Ob) (hs:List (List Ob)) (Cs:List (Nat×(List Ob→Prop))) (y:Nat) (args:List AV):Prop where
 is:drR P Γ K b l w ws i d a os t h hs Cs (.yield y args)
structure DRC (P:Program) (Γ:Nat→Option AV) (K:Kont) (b:Bool) (l:List Bool) (w:Nat) (ws:List Nat) (i:Nat) (d:Option Nat) (a:AO) (os:List AG) (t:List AV) (h:List Ob) (hs:List (List Ob)) (Cs:List (Nat×(List Ob→Prop))) (f:FuncId) (args:List AV):Prop where
 is:drR P Γ K b l w ws i d a os t h hs Cs (.call f args)
@[simp] theorem DRun_fins {bh:Beh} {o:Out}:DRun P Γ (Beh.fins P Γ bh o) l ws i [] t h hs Cs↔Fins P Γ (AM.go P Γ 0 bh.n (.fr ⟨.run,bh.fn,bh.k,t,bh.e.ds,bh.e.kind,bh.e.base⟩ bh.e.up h)) o:=Iff.rfl
@[simp] theorem DRun_reach {bh:Beh} {c:Cfg}:DRun P Γ (Beh.reach P Γ bh c) l ws i [] t h hs Cs↔Reach P Γ (AM.go P Γ bh.st bh.n (.fr ⟨.run,bh.fn,bh.k,t,bh.e.ds,bh.e.kind,bh.e.base⟩ bh.e.up h)) c:=Iff.rfl
@[simp] theorem DRun_die {bh:Beh} {D:Cfg}:DRun P Γ (Beh.die P Γ bh D) l ws i [] t h hs Cs↔HasBad h:=Iff.rfl
@[simp] theorem DRun_op:DRun P Γ K (b::l) (w::ws) i (⟨d,none,a⟩::os) t h hs Cs↔drR P Γ K b l w ws i d a os t h hs Cs (aop P Γ t h a):=by
 rw [DRun];simp only [wanted_none]
 cases aop P Γ t h a <;> exact Iff.rfl
@[simp] theorem DRun_opg {j:Nat} {u:Bool}:DRun P Γ K (b::l) (w::ws) i (⟨d,some (j,u),a⟩::os) t h hs Cs↔(match wantedA t (some (j,u)) with
  | some true=>drR P Γ K b l w ws i d a os t h hs Cs (aop P Γ t h a)
  | some false=>DRun P Γ K l ws (i+1) os (setD t d (.tup [])) h hs Cs
  | none=>False):=by
 rw [DRun]
 cases wantedA t (some (j,u)) with
 | none=>exact Iff.rfl
 | some x =>
  cases x with
  | false=>exact Iff.rfl
  | true=>cases aop P Γ t h a <;> exact Iff.rfl
@[simp] theorem drR_val:drR P Γ K b l w ws i d a os t h hs Cs (.val v h')↔if aoClass a=2 then Hold Cs (i+1) h'∧DRun P Γ K l ws (i+1) os (setD t d v) h' (h'::hs) Cs
  else if b=true∧aoClass a=1 then (∀ g∈hs,aop P Γ t g a=.val v g)∧DRun P Γ K l ws (i+1) os (setD t d v) h' hs ((w,fun g=>aop P Γ t g a=.val v g)::Cs)
  else DRun P Γ K l ws (i+1) os (setD t d v) h' hs Cs:=Iff.rfl
@[simp] theorem drR_skip:drR P Γ K b l w ws i d a os t h hs Cs (.skip h')↔Hold Cs (i+1) h'∧DRun P Γ K l ws (i+1) os (setD t d (.tup [])) h' (h'::hs) Cs:=Iff.rfl
@[simp] theorem drR_call:drR P Γ K b l w ws i d a os t h hs Cs (.call f args)↔DRC P Γ K b l w ws i d a os t h hs Cs f args:=⟨fun h1=>⟨h1⟩,fun h1=>h1.is⟩
@[simp] theorem drR_yield {y:Nat}:drR P Γ K b l w ws i d a os t h hs Cs (.yield y args)↔DRY P Γ K b l w ws i d a os t h hs Cs y args:=⟨fun h1=>⟨h1⟩,fun h1=>h1.is⟩
theorem DRY.go {y:Nat} (v:AV) (h':List Ob) (h1:∀ up,Reach P Γ ((Cal.yl y).cfg args up h) (.back up v h'))
  (h3:Hold Cs (i+1) h'∧DRun P Γ K l ws (i+1) os (setD t d v) h' (h'::hs) Cs):DRY P Γ K false l w ws i d a os t h hs Cs y args:=⟨⟨rfl,v,h',h1,h3.1,h3.2⟩⟩
theorem back_eq {f:FuncId} {args as:List AV} {r:AV} {h:List Ob} (h1:viewL h args=some as) (h2:PureCon P Γ f as r):∀ up,Reach P Γ (.cl f args up h) (.back up (unownA h.length r).1 (afterPure h args r)):=fun _=>.pure h1 h2
theorem DRC.call {as:List AV} {r:AV} (h1:viewL h args=some as) (h2:PureCon P Γ f as r)
  (h3:Hold Cs (i+1) (afterPure h args r)∧DRun P Γ K l ws (i+1) os (setD t d (unownA h.length r).1) (afterPure h args r) (afterPure h args r::hs) Cs):DRC P Γ K false l w ws i d a os t h hs Cs f args :=
 ⟨h2.1,by rw [if_neg (by simp)]; exact ⟨_,_,.inl (back_eq h1 h2),h3.1,h3.2⟩⟩
theorem DRC.quiet {as:List AV} {r:AV} (h2:PureCon P Γ f as r) (hr:∀ n,unownA n r=(r,[]))
  (h1:∀ g∈hs,aop P Γ t g a=.call f args∧viewL g args=some as∧afterPure g args r=g)
  (h3:DRun P Γ K l ws (i+1) os (setD t d r) h hs ((w,fun g=>aop P Γ t g a=.call f args∧viewL g args=some as∧afterPure g args r=g)::Cs)):DRC P Γ K true l w ws i d a os t h hs Cs f args :=
 ⟨h2.1,by
  rw [if_pos rfl];refine ⟨r,_,fun g hg=>⟨hg.1,fun up => ?_⟩,h1,h3⟩;have h4:=back_eq hg.2.1 h2 up;rw [hr,hg.2.2] at h4
  exact h4⟩
theorem DRC.reach {v:AV} {h':List Ob} (hb:hasBody P f=true) (h1:∀ up,Reach P Γ (.cl f args up h) (.back up v h'))
  (h3:Hold Cs (i+1) h'∧DRun P Γ K l ws (i+1) os (setD t d v) h' (h'::hs) Cs):DRC P Γ K false l w ws i d a os t h hs Cs f args :=
 ⟨hb,by rw [if_neg (by simp)]; exact ⟨_,_,.inl h1,h3.1,h3.2⟩⟩
theorem DRC.die (v:AV) {bh:Beh} {D:Cfg} (hb:hasBody P f=true) (h1:∀ its t',Reach P Γ (.cl f args (⟨.run,bh.fn,its,t',bh.e.ds,bh.e.kind,bh.e.base⟩::bh.e.up) h) D)
  (h3:Hold Cs (i+1) (h++[badO])∧DRun P Γ (Beh.die P Γ bh D) l ws (i+1) os (setD t d v) (h++[badO]) ((h++[badO])::hs) Cs):DRC P Γ (Beh.die P Γ bh D) false l w ws i d a os t h hs Cs f args :=
 ⟨hb,by rw [if_neg (by simp)]; exact ⟨v,_,.inr h1,h3.1,h3.2⟩⟩
theorem Fins.rcall (n:Nat) {v:AV} {h':List Ob} {o:Out} (h1:∀ up,Reach P Γ (.cl f args up h) (.back up v h')) (h2:Fins P Γ (AM.go P Γ 0 n (.back up v h')) o):Fins P Γ (.cl f args up h) o:=.reach (h1 up) (.go n h2)
theorem Reach.rcall (n:Nat) {v:AV} {h':List Ob} {c:Cfg} (h1:∀ up,Reach P Γ (.cl f args up h) (.back up v h')) (h2:Reach P Γ (AM.go P Γ 2 n (AM.pop (.back up v h'))) c):Reach P Γ (.cl f args up h) c:=.trans (h1 up) (.trans (.pop _) (.goB n h2))
theorem Reach.callB (n:Nat) {as:List AV} {r:AV} {c:Cfg} (h1:viewL h args=some as) (h2:PureCon P Γ f as r) (h3:Reach P Γ (AM.go P Γ 2 n (AM.pop (.back up (unownA h.length r).1 (afterPure h args r)))) c):Reach P Γ (.cl f args up h) c:=.rcall n (back_eq h1 h2) h3
theorem Reach.enterB (n:Nat) {F:AFun} {c:Cfg} (hF:cfun P f=some F) (h1:Reach P Γ (AM.go P Γ 2 n (.fr ⟨.run,f,[.code F.body],args++List.replicate (F.nt - args.length) .undef,[],.norm,h.length⟩ up h)) c):Reach P Γ (.cl f args up h) c:=enter_eq hF args (.goB n h1)
theorem Reach.inLoop {m:List Bool} {bc:ACode} {c:Cfg} (h1:Reach P Γ (.fr ⟨.run,fn,.code bc::.inLoop m bc::k,maskT m t,ds,kind,base⟩ up h) c):Reach P Γ (.fr ⟨.run,fn,.code (.loop m bc)::k,t,ds,kind,base⟩ up h) c:=.trans (in_loop (.refl _)) h1
theorem Reach.reLoop {m:List Bool} {bc:ACode} {c:Cfg} (h1:Reach P Γ (.fr ⟨.run,fn,.code bc::.inLoop m bc::k,maskT m t,ds,kind,base⟩ up h) c):Reach P Γ (.fr ⟨.run,fn,.inLoop m bc::k,t,ds,kind,base⟩ up h) c:=.trans (re_loop (.refl _)) h1
theorem Reach.dropTo {f:Fr} {h':List Ob} {c:Cfg} (n:Nat) (hh:h.take n=h') (h1:f.base≤n) (h2:belF n f=true) (h3:belH n h'=true) (h4:Reach P Γ (.fr f up h') c):Reach P Γ (.fr f up h) c:=by
 subst hh; exact .trans (.drop n h1 h2 h3) h4
theorem Reach.resetTo {f:Fr} {i k:Nat} {E:TypeId} {es:List AV} {fl sh:Bool} {c:Cfg} (hi:h[i]? = some (.row k E es (some 0) fl sh)) (h1:f.base≤i) (h2:vldF i es.length f=true) (h3:vldH i es.length h=true)
  (h4:Reach P Γ (.fr f up (h.set i (.row k E es none fl sh))) c):Reach P Γ (.fr f up h) c:=.trans (.reset h1 hi h2 h3) h4
theorem Fins.freeze {f:Fr} {i k:Nat} {E:TypeId} {es es':List AV} {gr:Option Nat} {fl sh:Bool} {o:Out} (hi:h[i]? = some (.row k E es gr fl sh)) (hg:gr.getD 0=0) (hv:viewL h es=some es') (hn:(rowsOfL es).contains i=false)
  (h4:Fins P Γ (.fr f up ((share (rowsOfL es) h).set i (.row k E es' gr true sh))) o):Fins P Γ (.fr f up h) o:=.reach (.freeze hi hg hv hn) h4
theorem Reach.freezeTo {f:Fr} {i k:Nat} {E:TypeId} {es es':List AV} {gr:Option Nat} {fl sh:Bool} {c:Cfg} (hi:h[i]? = some (.row k E es gr fl sh)) (hg:gr.getD 0=0) (hv:viewL h es=some es') (hn:(rowsOfL es).contains i=false)
  (h4:Reach P Γ (.fr f up ((share (rowsOfL es) h).set i (.row k E es' gr true sh))) c):Reach P Γ (.fr f up h) c:=.trans (.freeze hi hg hv hn) h4
def trT:List Nat→List AV→List Ob→List AV×List Ob
 | [],t,h=>(t,h)
 | i::is,t,h=>trT is (t.set i (trA h (t.getD i .undef))) (share (rowsOf (t.getD i .undef)) h)
theorem Reach.trees:∀ (is:List Nat) {f:Fr} {up:List Fr} {h:List Ob} {c:Cfg},Reach P Γ (.fr { f with t:=(trT is f.t h).1 } up (trT is f.t h).2) c→Reach P Γ (.fr f up h) c
 | [],_,_,_,_,h1=>h1
 | i::is,f,up,h,c,h1=>.trans (.tree i) (Reach.trees is (f:={ f with t:=f.t.set i (trA h (f.t.getD i .undef)) }) h1)
theorem Fins.trees (is:List Nat) {f:Fr} {o:Out} (h1:Fins P Γ (.fr { f with t:=(trT is f.t h).1 } up (trT is f.t h).2) o):Fins P Γ (.fr f up h) o:=.reach (Reach.trees is (.refl _)) h1
attribute [simp] trT trA rowsOf
end
@[simp] theorem viewL_append (h:List Ob) (a b:List AV):viewL h (a++b)=(match viewL h a,viewL h b with
  | some a',some b'=>some (a'++b')
  | _,_=>none):=by
 induction a with
 | nil=>simp only [List.nil_append,viewL]; cases viewL h b <;> rfl
 | cons x a ih =>
  simp only [List.cons_append,viewL,ih]
  cases view h x <;> cases viewL h a <;> cases viewL h b <;> rfl
@[simp] theorem viewL_map {α:Type} (h:List Ob) (f:α→AV) (l:List α) (hf:∀ x,view h (f x)=some (f x)):viewL h (l.map f)=some (l.map f):=by
 induction l with
 | nil=>rfl
 | cons x l ih=>simp only [List.map_cons,viewL,hf,ih]
@[simp] theorem rowsOfL_append (a b:List AV):rowsOfL (a++b)=rowsOfL a++rowsOfL b:=by
 induction a with
 | nil=>rfl
 | cons x a ih=>simp only [List.cons_append,rowsOfL,ih,List.append_assoc]
@[simp] theorem rowsOfL_map {α:Type} (f:α→AV) (l:List α) (hf:∀ x,rowsOf (f x)=[]):rowsOfL (l.map f)=[]:=by
 induction l with
 | nil=>rfl
 | cons x l ih=>simp only [List.map_cons,rowsOfL,hf,ih,List.append_nil]
def Asks (P:Program) (Γ:Nat→Option AV) (φ : List Ob→Prop) (f:FuncId) (caps:List AV) {α:Type} (e:α→AV) (p:α→Bool) (l:List α):Prop :=
 hasBody P f=true∧∀ x∈l,∀ up h,φ h→Reach P Γ (.cl f (e x::caps) up h) (.back up (.bool (p x)) h)
def anyB {α:Type} (p:α→Bool) (l:List α):Bool:=l.any p
@[simp] theorem anyB_nil {α:Type} (p:α→Bool):anyB p []=false:=rfl
theorem anyB_cons {α:Type} (p:α→Bool) (x:α) (l:List α):anyB p (x::l)=(p x||anyB p l):=rfl
theorem anyB_drop {α:Type} {l:List α} {i:Nat} (h:i<l.length) (p:α→Bool):anyB p (l.drop i)=(p l[i]||anyB p (l.drop (i+1))):=by
 rw [List.drop_eq_getElem_cons h]; rfl
theorem anyB_end {α:Type} {l:List α} {i:Nat} (h:l.length≤i) (p:α→Bool):anyB p (l.drop i)=false:=by
 rw [List.drop_eq_nil_of_le h]; rfl
theorem anyB_no {α:Type} {p:α→Bool} {l:List α}:anyB p l=false↔∀ x∈l,p x=false:=by simp [anyB]
def idxF {α:Type} (p:α→Bool):List α→Nat→Int
 | [],_ => -1
 | x::xs,i=>if p x=true then i else idxF p xs (i+1)
theorem idxF_ge {α:Type} (p:α→Bool):∀ (l:List α) (i:Nat),(0≤idxF p l i)↔anyB p l=true
 | [],i=>by simp [idxF]
 | x::xs,i=>by
  rw [idxF]
  by_cases h:p x=true
  ·simp [h,anyB_cons]
  ·simp [h,anyB_cons,idxF_ge p xs (i+1)]
@[simp] theorem nat_neg (n:Nat):((n:Int)<0)=False:=eq_false (by omega)
@[simp] theorem nat_pos (n:Nat):(0≤(n:Int))=True:=eq_true (by omega)
@[simp] theorem ofCells_int (c:AV) (k:IntKind) (n:Int):ofCells [c] (.int k n)=c:=rfl
@[simp] theorem ofCells_bool (c:AV) (b:Bool):ofCells [c] (.bool b)=c:=rfl
@[simp] theorem ofCells_str (c:AV) (s:List UInt8):ofCells [c] (.str s)=c:=rfl
@[simp] theorem ofCells_list (c:AV) (f:Bool) (k:Nat) (es:List AV):ofCells [c] (.list f k es)=c:=rfl
@[simp] theorem ofCells_sl (c:AV) (i o n:Nat):ofCells [c] (.sl i o n)=c:=rfl
@[simp] theorem ofCells_agg (cs ds:List AV):ofCells cs (.agg ds)=.agg cs:=by cases cs <;> rfl
theorem wrapN {a:Nat} (h:(a:Int)<2^62):IntKind.i64.wrap (a:Int)=a:=wrap64 (by omega) (by omega)
@[simp high] theorem shr1 (a:Nat):binI .shr .i64 (a:Int) 1=some ((a / 2:Nat):Int):=by
 simp [binI,IntKind.bits];rw [Int.fdiv_eq_ediv_of_nonneg _ (by omega)]
@[simp high] theorem and1 (a:Nat):binI .and .i64 (a:Int) 1=some ((a % 2:Nat):Int):=by
 have h1:(BitVec.ofInt 64 (a:Int) &&& BitVec.ofInt 64 1).toNat=a % 2:=by
  have e1:BitVec.ofInt 64 (1:Int)=1#64:=by decide
  rw [e1,BitVec.toNat_and,BitVec.toNat_ofInt]
  have e2:(1#64:BitVec 64).toNat=1:=by decide
  rw [e2,Nat.and_one_is_mod];omega
 show some (IntKind.i64.wrap ((BitVec.ofInt 64 (a:Int) &&& BitVec.ofInt 64 1).toNat:Int))=_
 rw [h1,wrapN (by omega)]
theorem xor1_mod (a:Nat):(a ^^^ 1) % 2=1 - a % 2:=by
 have h1:=@Nat.xor_mod_two_eq_one a 1;have h2:(a ^^^ 1) % 2<2:=Nat.mod_lt _ (by omega);have h3:a % 2<2:=Nat.mod_lt _ (by omega);have h4:(1 % 2=1):=rfl;simp only [h4,iff_true] at h1;omega
theorem xor1_div (a:Nat):(a ^^^ 1) / 2=a / 2:=by rw [Nat.xor_div_two]; simp
theorem xor1_nat (a:Nat):a ^^^ 1=if a % 2=0 then a+1 else a - 1:=by
 have h1:=xor1_mod a;have h2:=xor1_div a
 split <;> omega
@[simp high] theorem xor1 (a:Nat) (h:(a:Int)<2^60):binI .xor .i64 (a:Int) 1=some ((a ^^^ 1:Nat):Int):=by
 have h1:(BitVec.ofInt 64 (a:Int) ^^^ BitVec.ofInt 64 1).toNat=a ^^^ 1:=by
  have e1:BitVec.ofInt 64 (1:Int)=1#64:=by decide
  rw [e1,BitVec.toNat_xor,BitVec.toNat_ofInt]
  have e2:(1#64:BitVec 64).toNat=1:=by decide
  rw [e2];congr 1;omega
 show some (IntKind.i64.wrap ((BitVec.ofInt 64 (a:Int) ^^^ BitVec.ofInt 64 1).toNat:Int))=_
 rw [h1,wrapN (by rw [xor1_nat]; split <;> omega)]
@[simp high] theorem quo2 (a:Nat) (h:(a:Int)<2^62):binI .quo .i64 (a:Int) 2=some ((a / 2:Nat):Int):=by
 simp only [binI];rw [if_neg (by omega),show ((a:Int)).tdiv 2=((a / 2:Nat):Int) from rfl,wrapN (by omega)]
@[simp high] theorem rem2 (a:Nat):binI .rem .i64 (a:Int) 2=some ((a % 2:Nat):Int):=by
 simp only [binI];rw [if_neg (by omega)];rfl
theorem get_app {h:List Ob} {i:Nat} {o:Ob} (hi:h[i]? = some o) (os:List Ob):(h++os)[i]? = some o:=by
 rw [List.getElem?_append_left (lt_of_get hi)]; exact hi
@[simp] theorem get_len (h l:List Ob) (k:Nat):(h++l)[h.length+k]? = l[k]? := by
 rw [List.getElem?_append_right (by omega)]; congr 1; omega
@[simp] theorem get_len0 (h l:List Ob):(h++l)[h.length]? = l[0]? := by
 rw [List.getElem?_append_right (by omega)]; congr 1; omega
@[simp] theorem set_len (h l:List Ob) (k:Nat) (x:Ob):(h++l).set (h.length+k) x=h++l.set k x:=by
 rw [List.set_append,if_neg (by omega)]; congr 2; omega
@[simp] theorem set_len0 (h l:List Ob) (x:Ob):(h++l).set h.length x=h++l.set 0 x:=by
 rw [List.set_append,if_neg (by omega)]; congr 2; omega
@[simp] theorem take_len (h l:List Ob) (k:Nat):(h++l).take (h.length+k)=h++l.take k:=by
 rw [List.take_append,List.take_of_length_le (by omega)]; simp
@[simp] theorem vldH_append (i m:Nat) (a b:List Ob):vldH i m (a++b)=(vldH i m a&&vldH i m b):=by
 induction a with
 | nil=>simp [vldH]
 | cons x a ih=>simp [vldH,ih,Bool.and_assoc]
@[simp] theorem belH_append (n:Nat) (a b:List Ob):belH n (a++b)=(belH n a&&belH n b):=by
 induction a with
 | nil=>simp [belH]
 | cons x a ih=>simp [belH,ih,Bool.and_assoc]
section
variable {P : Program} {Γ : Nat → Option AV}
theorem Fins.litRow (n:Nat) (E:TypeId) {fn:FuncId} {d:Option Nat} {gd:Option (Nat×Bool)} {k:Nat} {zs:List AV} {ps:List (Nat×AX)} {os:List AG} {k':List It} {t:List AV} {ds:List ADef} {kind:FK} {base:Nat} {up:List Fr} {h:List Ob} {o:Out} {es:List AV}
  (hw:wantedA t gd=some true) (hf:fillE k zs (ps.map fun p=>(p.1,ax t p.2))=some es)
  (h1:Fins P Γ (AM.go P Γ 0 n (.fr ⟨.run,fn,.ops os::k',setD t d (.sl h.length 0 es.length),ds,kind,base⟩ up (h++[.row k E es none (okList es k) false]))) o) :
  Fins P Γ (.fr ⟨.run,fn,.ops (⟨d,gd,.lit k zs ps⟩::os)::k',t,ds,kind,base⟩ up h) o :=
 .reach (.litRow (f:=⟨.run,fn,.ops (⟨d,gd,.lit k zs ps⟩::os)::k',t,ds,kind,base⟩) E rfl rfl hw hf) (.go n h1)
theorem mask_set:∀ (i:Nat) (t:List AV),i<t.length→maskT (List.replicate i true++[false]) t=t.set i .undef
 | _,[],h=>by simp at h
 | 0,a::t,_=>by cases t <;> rfl
 | i+1,a::t,h=>by
  simp only [List.replicate_succ,List.cons_append,maskT,List.set_cons_succ];rw [mask_set i t (by simpa using h)]
def clrT (is:List Nat) (t:List AV):List AV:=is.foldl (fun t i=>t.set i .undef) t
theorem clr_set (t:List AV) (i:Nat):t.set i .undef=t∨i<t.length:=by
 by_cases h:i<t.length
 ·exact .inr h
 ·exact .inl (List.set_eq_of_length_le (by omega))
theorem Reach.clrs {fn:FuncId} {k:List It} {ds:List ADef} {kind:FK} {base:Nat} {up:List Fr} {h:List Ob}:∀ (is:List Nat) (t:List AV),Reach P Γ (.fr ⟨.run,fn,k,t,ds,kind,base⟩ up h) (.fr ⟨.run,fn,k,clrT is t,ds,kind,base⟩ up h)
 | [],t=>.refl _
 | i::is,t=>by
  refine .trans ?_ (Reach.clrs is (t.set i .undef))
  rcases clr_set t i with h1 | h1
  ·rw [h1]; exact .refl _
  ·have:=Reach.mask (P:=P) (Γ:=Γ) (f:=⟨.run,fn,k,t,ds,kind,base⟩) (up:=up) (h:=h) (List.replicate i true++[false]);simp only [mask_set i t h1] at this;exact this
@[simp] theorem clrT_nil (t:List AV):clrT [] t=t:=rfl
@[simp] theorem clrT_cons (i:Nat) (is:List Nat) (t:List AV):clrT (i::is) t=clrT is (t.set i .undef):=rfl
theorem Fins.clrs (is:List Nat) {fn:FuncId} {k:List It} {t:List AV} {ds:List ADef} {kind:FK} {base:Nat} {up:List Fr} {h:List Ob} {o:Out} (h1:Fins P Γ (.fr ⟨.run,fn,k,clrT is t,ds,kind,base⟩ up h) o):Fins P Γ (.fr ⟨.run,fn,k,t,ds,kind,base⟩ up h) o:=.reach (.clrs is t) h1
theorem Fins.nilcell (i j k:Nat) (E:TypeId) {f:Fr} {up:List Fr} {h:List Ob} {o:Out} {k0:Nat} {cs:List AV} (hi:h[i]? = some (.cells cs)) (hj:cs[j]? = some (.list true k0 [])) (hk:0<k)
  (h4:Fins P Γ (.fr f up ((h++[Ob.row k E [] none true false]).set i (.cells (cs.set j (.sl h.length 0 0))))) o):Fins P Γ (.fr f up h) o:=.reach (.nilcell E hi hj hk) h4
theorem Reach.litRowTo (n:Nat) (E:TypeId) {fn:FuncId} {d:Option Nat} {gd:Option (Nat×Bool)} {k:Nat} {zs:List AV} {ps:List (Nat×AX)} {os:List AG} {k':List It} {t:List AV} {ds:List ADef} {kind:FK} {base:Nat} {up:List Fr} {h:List Ob} {c:Cfg} {es:List AV}
  (hw:wantedA t gd=some true) (hf:fillE k zs (ps.map fun p=>(p.1,ax t p.2))=some es)
  (h1:Reach P Γ (AM.go P Γ 2 n (.fr ⟨.run,fn,.ops os::k',setD t d (.sl h.length 0 es.length),ds,kind,base⟩ up (h++[.row k E es none (okList es k) false]))) c) :
  Reach P Γ (.fr ⟨.run,fn,.ops (⟨d,gd,.lit k zs ps⟩::os)::k',t,ds,kind,base⟩ up h) c :=
 .trans (.litRow (f:=⟨.run,fn,.ops (⟨d,gd,.lit k zs ps⟩::os)::k',t,ds,kind,base⟩) E rfl rfl hw hf) (.goB n h1)
theorem Reach.rcallM (st n:Nat) {f:FuncId} {args:List AV} {up:List Fr} {h:List Ob} {v:AV} {h':List Ob} {c:Cfg} (h1:∀ up,Reach P Γ (.cl f args up h) (.back up v h')) (h2:Reach P Γ (AM.go P Γ st n (AM.pop (.back up v h'))) c):Reach P Γ (.cl f args up h) c:=.trans (h1 up) (.trans (.pop _) (.trans (.goes n _) h2))
theorem Reach.resetUT {f:Fr} {up:List Fr} {h:List Ob} {c:Cfg} {i k:Nat} {E:TypeId} {es:List AV} {fl sh:Bool} (hi:h[i]? = some (.row k E es (some 0) fl sh)) (h1:vldF i es.length f=true) (h2:up.all (vldF i es.length)=true) (h3:vldH i es.length h=true)
  (h4:Reach P Γ (.fr f up (h.set i (.row k E es none fl sh))) c):Reach P Γ (.fr f up h) c:=.trans (.resetU hi (by simp only [List.all_cons,h1,h2,Bool.and_self]) h3) h4
theorem Reach.resetIT {f:Fr} {up:List Fr} {h:List Ob} {c:Cfg} {i k:Nat} {E:TypeId} {es:List AV} {gr:Option Nat} {fl sh:Bool} (hi:h[i]? = some (.row k E es gr fl sh)) (hg:gr=none∨gr=some 0) (h1:f.base≤i) (h2:vldF i es.length f=true) (h3:vldH i es.length h=true)
  (h4:Reach P Γ (.fr f up (h.set i (.row k E es none fl sh))) c):Reach P Γ (.fr f up h) c:=by
 rcases hg with rfl | rfl
 ·have:h.set i (.row k E es none fl sh)=h:=by
   apply List.ext_getElem?;intro j
   by_cases hj:i=j
   ·subst hj; rw [List.getElem?_set_self (lt_of_get hi),hi]
   ·rw [List.getElem?_set_ne hj]
  rw [this] at h4;exact h4
 ·exact .resetTo hi h1 h2 h3 h4
theorem Fins.resetI {f:Fr} {up:List Fr} {h:List Ob} {o:Out} {i k:Nat} {E:TypeId} {es:List AV} {gr:Option Nat} {fl sh:Bool} (hi:h[i]? = some (.row k E es gr fl sh)) (hg:gr=none∨gr=some 0) (h1:f.base≤i) (h2:vldF i es.length f=true) (h3:vldH i es.length h=true)
  (h4:Fins P Γ (.fr f up (h.set i (.row k E es none fl sh))) o):Fins P Γ (.fr f up h) o:=by
 rcases hg with rfl | rfl
 ·have:h.set i (.row k E es none fl sh)=h:=by
   apply List.ext_getElem?;intro j
   by_cases hj:i=j
   ·subst hj; rw [List.getElem?_set_self (lt_of_get hi),hi]
   ·rw [List.getElem?_set_ne hj]
  rw [this] at h4;exact h4
 ·exact .reset hi h1 h2 h3 h4
end
theorem Fins.either (n:Nat) {P:Program} {Γ:Nat→Option AV} {fn:FuncId} {d:Option Nat} {x:AX} {neg:Bool} {os:List AG} {k:List It} {t:List AV} {ds:List ADef} {kind:FK} {base:Nat} {up:List Fr} {h:List Ob} {o:Out} (h0:slen (ax t x)=some 0)
  (h1:∀ b,Fins P Γ (AM.go P Γ 0 n (.fr ⟨.run,fn,.ops os::k,setD t d (.bool b),ds,kind,base⟩ up h)) o):Fins P Γ (.fr ⟨.run,fn,.ops (⟨d,none,.isnil neg x⟩::os)::k,t,ds,kind,base⟩ up h) o :=
 .isnil (f:=⟨.run,fn,.ops (⟨d,none,.isnil neg x⟩::os)::k,t,ds,kind,base⟩) rfl rfl rfl (by simp only [aop,h0]) fun b=>.go n (h1 b)
def stepO (P:Program) (Γ:Nat→Option AV):Cfg→Cfg
 | .fr f up h=>match f.md with
  | .run=>match f.its with
   | .ops (o::os)::k=>stepRun P Γ f up h (.ops (o::os)::k)
   | _=>.fr f up h
  | _=>.fr f up h
 | .back (c::up) v h=>match c.finish v with
  | some c'=>.fr c' up h
  | none=>.bad
 | c=>c
def goO (P:Program) (Γ:Nat→Option AV):Nat→Cfg→Cfg
 | 0,c=>c
 | n+1,c=>goO P Γ n (stepO P Γ c)
section
variable {P : Program} {Γ : Nat → Option AV} {n : Nat} {fn : FuncId} {k : List It} {t : List AV} {ds : List ADef} {kind : FK} {base : Nat} {up : List Fr} {h h' : List Ob}
theorem Reach.stepO (c:Cfg):Reach P Γ c (AM.stepO P Γ c):=by
 cases c with
 | fr f up h =>
  obtain ⟨md,fn,its,t,ds,kind,base⟩:=f
  cases md with
  | run =>
   simp only [AM.stepO]
   split
   ·exact .step _
   ·exact .refl _
  | _=>exact .refl _
 | back up v h=>cases up <;> first | exact .refl _ | exact .step _
 | _=>exact .refl _
theorem Reach.goesO:∀ (n:Nat) (c:Cfg),Reach P Γ c (AM.goO P Γ n c)
 | 0,c=>.refl c
 | n+1,c=>.trans (.stepO c) (Reach.goesO n _)
theorem goO_stay {c:Cfg} (hc:stepO P Γ c=c):∀ n,goO P Γ n c=c
 | 0=>rfl
 | n+1=>by rw [goO,hc]; exact goO_stay hc n
@[simp] theorem goO_op {d:Option Nat} {o:AO} {os:List AG}:goO P Γ (n+1) (.fr ⟨.run,fn,.ops (⟨d,none,o⟩::os)::k,t,ds,kind,base⟩ up h) =
  goO P Γ n (goR P ⟨.run,fn,.ops (⟨d,none,o⟩::os)::k,t,ds,kind,base⟩ up h ⟨d,none,o⟩ os k (aop P Γ t h o)):=(rfl)
@[simp] theorem goO_end:goO P Γ n (.fr ⟨.run,fn,.ops []::k,t,ds,kind,base⟩ up h)=.fr ⟨.run,fn,.ops []::k,t,ds,kind,base⟩ up h:=goO_stay rfl n
@[simp] theorem goO_cl {f:FuncId} {args:List AV}:goO P Γ n (.cl f args up h)=.cl f args up h:=goO_stay rfl n
@[simp] theorem goO_back {c:Fr} {v:AV}:goO P Γ (n+1) (.back (c::up) v h)=goO P Γ n (match c.finish v with
  | some c'=>.fr c' up h
  | none=>.bad):=(rfl)
end
def gcOk (n:Nat) (τ:List Nat) (its:List It) (t:List AV) (ds:List ADef) (kind:FK) (base:Nat) (h:List Ob):Prop :=
 base≤n∧n≤h.length∧(∀ j∈τ,n+j<h.length)∧okL n τ t=true∧belD n ds=true∧belI n its=true∧belK n kind=true∧okP n τ (h.take n)=true∧okH n τ (pickH h n τ)=true
theorem Reach.gcTo (n:Nat) (τ:List Nat) {P:Program} {Γ:Nat→Option AV} {fn:FuncId} {its:List It} {t:List AV} {ds:List ADef} {kind:FK} {base:Nat} {up:List Fr} {h:List Ob} {c:Cfg} (hc:gcOk n τ its t ds kind base h) (hnd:τ.Nodup)
  (h4:Reach P Γ (.fr ⟨.run,fn,its,rnL n τ t,ds,kind,base⟩ up (gcH n τ h)) c):Reach P Γ (.fr ⟨.run,fn,its,t,ds,kind,base⟩ up h) c :=
 .trans (.gc (f:=⟨.run,fn,its,t,ds,kind,base⟩) n τ rfl hc.1 hc.2.1 hc.2.2.1 hnd hc.2.2.2.1 hc.2.2.2.2.1 hc.2.2.2.2.2.1 hc.2.2.2.2.2.2.1 hc.2.2.2.2.2.2.2.1 hc.2.2.2.2.2.2.2.2) h4
theorem Fins.gc (n:Nat) (τ:List Nat) {P:Program} {Γ:Nat→Option AV} {fn:FuncId} {its:List It} {t:List AV} {ds:List ADef} {kind:FK} {base:Nat} {up:List Fr} {h:List Ob} {o:Out} (hc:gcOk n τ its t ds kind base h) (hnd:τ.Nodup)
  (h4:Fins P Γ (.fr ⟨.run,fn,its,rnL n τ t,ds,kind,base⟩ up (gcH n τ h)) o):Fins P Γ (.fr ⟨.run,fn,its,t,ds,kind,base⟩ up h) o :=
 .reach (.gcTo n τ hc hnd (.refl _)) h4
attribute [simp] setAll Cal.cfg gcOk rnN okN rnA rnL okA okL rnM okM rnO okO okP okH rnH pickH gcH List.idxOf_cons
theorem Reach.con0 {P:Program} {Γ:Nat→Option AV} {f:FuncId} {args as:List AV} {r:AV} {h:List Ob} (h1:viewL h args=some as) (h2:PureCon P Γ f as r) (h3:∀ n,unownA n r=(r,[])) (h4:afterPure h args r=h):∀ up,Reach P Γ (.cl f args up h) (.back up r h):=by
 intro up;have:=back_eq h1 h2 up;rw [h3,h4] at this;exact this
end Go.AM
namespace Go.AM
open Go.RowKit
variable {P : Program} {Γ : Nat → Option AV}
@[simp] theorem unByte_byteA (c:UInt8):unByte (byteA c)=some c:=by
 simp only [unByte,byteA,Int.toNat_natCast,Option.some.injEq];exact UInt8.ofNat_toNat
@[simp] theorem unBytes_map:∀ w:List UInt8,unBytes (w.map byteA)=some w
 | []=>rfl
 | c::w=>by rw [List.map_cons,unBytes,unByte_byteA,unBytes_map w]
end Go.AM
namespace Go.AM
open Go.ChangeShapes Go.WideShapes Go.ChangeAt Go.RowKit
end Go.AM
namespace Go.AM
@[simp] theorem okP_append (n:Nat) (τ:List Nat):∀ a b:List Ob,okP n τ (a++b)=(okP n τ a&&okP n τ b)
 | [],b=>rfl
 | o::a,b=>by
  have ih:=okP_append n τ a b
  cases o <;> simp [okP,ih,Bool.and_assoc]
@[simp] theorem rnH_append (n:Nat) (τ:List Nat):∀ a b:List Ob,rnH n τ (a++b)=rnH n τ a++rnH n τ b
 | [],b=>rfl
 | o::a,b=>by simp [rnH,rnH_append n τ a b]
@[simp] theorem rnL_append (n:Nat) (τ:List Nat):∀ a b:List AV,rnL n τ (a++b)=rnL n τ a++rnL n τ b
 | [],b=>rfl
 | o::a,b=>by simp [rnL,rnL_append n τ a b]
@[simp] theorem okL_append (n:Nat) (τ:List Nat):∀ a b:List AV,okL n τ (a++b)=(okL n τ a&&okL n τ b)
 | [],b=>rfl
 | o::a,b=>by simp [okL,okL_append n τ a b,Bool.and_assoc]
attribute [simp] belL_append
@[simp] theorem vldL_append (i m:Nat):∀ a b:List AV,vldL i m (a++b)=(vldL i m a&&vldL i m b)
 | [],b=>rfl
 | o::a,b=>by simp [vldL,vldL_append i m a b,Bool.and_assoc]
theorem readyL_congr {as:List (List Nat)} {d1 d2:List Nat} (h:∀ x,d1.contains x=d2.contains x) (i:Nat):readyL as d1 i=readyL as d2 i:=by
 unfold readyL;rw [h i];congr 1
 refine List.all_congr rfl fun x=>h x
theorem ordersL_congr (as:List (List Nat)):∀ (n:Nat) (d1 d2:List Nat),(∀ x,d1.contains x=d2.contains x)→ordersL as n d1=ordersL as n d2
 | 0,_,_,_=>rfl
 | n+1,d1,d2,h=>by
  rw [ordersL,ordersL,show readyL as d1=readyL as d2 from funext (readyL_congr h)];congr 1
  funext i
  rw [ordersL_congr as n (i::d1) (i::d2) fun x=>by simp only [List.contains_cons,h x]]
section
variable {P : Program} {Γ : Nat → Option AV} {as : List (List Nat)} {gs : List AG} {fn : FuncId} {k : List It} {ds : List ADef} {kind : FK} {base : Nat} {up : List Fr} {c : Cfg}
def AnyO (P:Program) (Γ:Nat→Option AV) (as:List (List Nat)) (gs:List AG) (fn:FuncId) (k:List It) (ds:List ADef) (kind:FK) (base:Nat) (up:List Fr) (c:Cfg) (done:List Nat) (n:Nat) (t:List AV) (h:List Ob):Prop :=
 ∀ l∈ordersL as n done,Reach P Γ (.fr ⟨.run,fn,.ops (l.map fun i=>gs.getD i default)::k,t,ds,kind,base⟩ up h) c
theorem AnyO.step {done:List Nat} {n:Nat} {t:List AV} {h:List Ob}
  (h1:∀ i∈(List.range as.length).filter (readyL as done),∃ d op v h',gs.getD i default=⟨d,none,op⟩∧(aop P Γ t h op=.val v h'∨v=.tup []∧aop P Γ t h op=.skip h')∧AnyO P Γ as gs fn k ds kind base up c (i::done) n (setD t d v) h'):AnyO P Γ as gs fn k ds kind base up c done (n+1) t h:=by
 intro l hl;simp only [ordersL,List.mem_flatMap,List.mem_map] at hl;obtain ⟨i,hi,l',hl',rfl⟩:=hl;obtain ⟨d,op,v,h',e1,e2,h3⟩:=h1 i hi;have h4:=h3 l' hl';refine .trans (Reach.goesO 1 _) ?_;simp only [List.map_cons,e1]
 rcases e2 with e2 | ⟨rfl,e2⟩
 ·rw [show (1:Nat)=0+1 from rfl,goO_op,e2,goR_val];exact h4
 ·rw [show (1:Nat)=0+1 from rfl,goO_op,e2,goR_skip];exact h4
theorem AnyO.congr {d1 d2:List Nat} {n:Nat} {t:List AV} {h:List Ob} (h1:AnyO P Γ as gs fn k ds kind base up c d1 n t h) (h2:∀ x,d1.contains x=d2.contains x):AnyO P Γ as gs fn k ds kind base up c d2 n t h:=by
 intro l hl;rw [← ordersL_congr as n d1 d2 h2] at hl;exact h1 l hl
end
end Go.AM
