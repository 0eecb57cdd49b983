/- OrderRises: gates that stand in an order in which they may come come just so. -/
import Derived.Test.YtihmomicdpkabaaGreatDoorI
import Derived.Test.YtihmomicdpkabaaGreatDoorH
import Derived.Test.YtihmomicdpkabaaGreatDoorG
import Derived.Test.YtihmomicdpkabaaGreatDoorF
import Derived.Test.YtihmomicdpkabaaGreatDoorCode
import Derived.Test.YtihmomicdpkabaaGreatDoorAMd
set_option linter.unusedSimpArgs false
set_option linter.unusedVariables false
namespace Go.Proofs.YtihmomicdpkabaaGreatDoor
open Go.AM Go.Proofs
variable{Γ:Nat->Option AV}
theorem L_(N:List Bs):∀l:List Bs,(∀s∈l,s∈N)->ia N l=(0,[])
 |[],_=>rfl
 |a::l,h=>by rw[ia,if_pos (h a (by simp)),L_ N l fun s hs=>h s (by simp[hs])]
theorem Mw(r:Int×Bs):∀l:List Gt,(∀g∈l,jE g=true)->jD r l=r
 |[],_=>rfl
 |a::l,h=>by rw[jD,if_pos (h a (by simp)),Mw r l fun s hs=>h s (by simp[hs])]
theorem Mb(r:Int×Bs):∀l:List Lt,(∀g∈l,mb g=true)->kN r l=r
 |[],_=>rfl
 |a::l,h=>by rw[kN,if_pos (h a (by simp)),Mb r l fun s hs=>h s (by simp[hs])]
theorem Ml(r:Int×Bs):∀l:List Bs,(∀g∈l,ja g=true)->nT r l=r
 |[],_=>rfl
 |a::l,h=>by rw[nT,if_pos (h a (by simp)),Ml r l fun s hs=>h s (by simp[hs])]
theorem abE{c:Ct}(h:eU c):iz c=(0,[]):=by
 unfold iz;rw[h.lR,if_neg (by simp),Ml _ _ h.names,h.P0,h.outs,Mb _ _ h.init,Mw _ _ h.af,L_ _ _ h.used];rfl
theorem MI{c:Ct}(h:eU c):kJ c=true:=by rw[kJ,abE h];rfl
theorem E9{c:Ct}{s:Bs}:s∈aD c↔s∈c.aE\/(∃q∈c.ak,q.name=s)\/∃g∈c.af,g.name=s:=by
 simp[aD]
def wU(c:Ct):Bool:=uB c&&(decide (c.af.length<=24)&&(decide (c.aE.length<=24)&&decide (c.ak.length<=24)))
theorem abr(c:Ct):aL Tryz.prog Γ zM [bL c] (.bool (wU c)):=by
 have hF:=afD (Γ:=Γ) c;refine .run 60 Ww (by simp) ?_;unfold wU;simp;refine .call 60 (by simp) hF ?_
 cases uB c with
 |false=>
  simp;exact .back (by simp)
 |true=>
  have e0:((c.af.length:Int)<=24)=(c.af.length<=24):=propext (by omega);have e1:((c.aE.length:Int)<=24)=(c.aE.length<=24):=propext (by omega);have e2:((c.ak.length:Int)<=24)=(c.ak.length<=24):=propext (by omega)
  by_cases h1:c.af.length<=24
  ·by_cases h2:c.aE.length<=24
   ·simp[e0,e1,e2,h1,h2];exact .back (by simp)
   ·simp[e0,e1,e2,h1,h2];exact .back (by simp)
  ·simp[e0,e1,e2,h1];exact .back (by simp)
theorem Oc{α:Type}{P:List α->Prop}(h0:P [])(h1:∀l a,P l->P (l++[a]))(l:List α):P l:=by
 rw[<-List.reverse_reverse l]
 induction l.reverse with
 |nil=>exact h0
 |cons a r ih=>rw[List.reverse_cons];exact h1 _ _ ih
def dP(m:List (Bs×Bool))(s:Bs):Bool:=match getM s m with
 |some v=>v
 |none=>false
theorem adb{m r:List (Bs×Bool)}{s:Bs}(h:s∈m.map (·.1)):dP (m++r) s=dP m s:=by
 induction m with
 |nil=>cases h
 |cons a m ih=>
  obtain⟨k,v⟩:=a;rw[eO];unfold dP;rw[getM,getM]
  by_cases hk:s=k
  ·rw[if_pos hk,if_pos hk]
  ·rw[if_neg hk,if_neg hk];rw[b_,bu]at h;exact ih (h.resolve_left hk)
theorem adq{m:List (Bs×Bool)}{s:Bs}(v:Bool)(h:s∉m.map (·.1)):dP (m++[(s,v)]) s=v:=by
 induction m with
 |nil=>simp[dP,getM]
 |cons a m ih=>
  obtain⟨k,u⟩:=a;rw[b_,bu,not_or]at h;rw[eO];unfold dP;rw[getM,if_neg h.1];exact ih h.2
theorem abP{m:List (Bs×Bool)}{s:Bs}(h:s∉m.map (·.1)):getM s m=none:=getM_none.2 fun x hx he=>h (by rw[<-he];exact pP (f:=(·.1)) hx)
def fe(m:List (Bs×Bool))(l:List Bs):List Bool:=l.map (dP m)
def eI(c:Ct):List Bs:=c.aE++c.ak.map (·.name)
def xF(c:Ct)(ins state:List Bool):List (Bs×Bool):=(eI c).zip (ins++state)
def PS(c:Ct)(m:List (Bs×Bool))(a:Nat):List (Bs×Bool):=match c.af[a]? with
 |some g=>m++[(g.name,qm g (fe m g.ins))]
 |none=>m
def ig(c:Ct)(ins state:List Bool)(p:List Nat):List (Bs×Bool):=p.foldl (PS c) (xF c ins state)
def gO(c:Ct)(ins state:List Bool):List (Bs×Bool):=ig c ins state (aP c)
theorem Ar(c:Ct)(ins state:List Bool)(p:List Nat){a:Nat}(ha:a<c.af.length):ig c ins state (p++[a])=ig c ins state p++[(c.af[a].name,qm c.af[a] (fe (ig c ins state p) c.af[a].ins))]:=by
 rw[ig,List.foldl_append,u7,List.foldl_nil,PS,bl ha];rfl
theorem wq(c:Ct):(eI c).length=c.aE.length+c.ak.length:=by simp[eI]
theorem Zl{c:Ct}{ins state:List Bool}(hi:ins.length=c.aE.length)(hs:state.length=c.ak.length):(xF c ins state).map (·.1)=eI c:=by
 rw[xF,List.map_fst_zip (by rw[wq];simp;omega)]
theorem tH{c:Ct}{ins state:List Bool}(hi:ins.length=c.aE.length)(hs:state.length=c.ak.length):∀p:List Nat,(∀a∈p,a<c.af.length)->(ig c ins state p).map (·.1)=eI c++p.map (G7 c):=by
 intro p
 induction p using Oc with
 |h0=>intro _;simpa[ig]using Zl hi hs
 |h1 p a ih=>
  intro h;have ha:=h a (by simp);rw[Ar c ins state p ha,iQ,ih fun b hb=>h b (by simp[hb])];simp[Bz ha]
theorem Ac{c:Ct}(ok:eU c):(eI c++c.af.map (·.name)).Nodup:=by
 have:=ok.nodup;simpa[aD,eI]using this
theorem Mq{c:Ct}(ok:eU c){ins state:List Bool}(hi:ins.length=c.aE.length)(hs:state.length=c.ak.length){p:List Nat}(hp:∀a∈p,a<c.af.length){a:Nat}(ha:a<c.af.length)(hn:a∉p):c.af[a].name∉(ig c ins state p).map (·.1):=by
 have hd:=tn (MI ok);rw[tH hi hs p hp,bm,not_or];have h:=Ac ok;rw[sN]at h;refine⟨fun hb=>h.2.2 _ hb _ (pP (f:=(·.name)) (bz ha)) rfl,fun hb=>?_⟩;obtain⟨x,hx,he⟩:=cI.1 hb;have hxl:=hp x hx;rw[Bz hxl]at he;exact hn (AT hd hxl ha he▸hx)
structure BB(c:Ct)(ins state:List Bool)(f:Bs->Bool):Prop where
 P8:∀i,∀h:i<c.aE.length,f c.aE[i]=ins.getD i false
 RU:∀i,∀h:i<c.ak.length,f c.ak[i].name=state.getD i false
 RY:∀i,∀h:i<c.af.length,f c.af[i].name=qm c.af[i] (c.af[i].ins.map f)
theorem Ox:∀(l:List Bs)(b:List Bool),l.Nodup->∀i,∀h:i<l.length,i<b.length->dP (l.zip b) l[i]=b.getD i false
 |[],_,_,i,h,_=>by simp at h
 |s::l,[],_,i,h,h2=>by simp at h2
 |s::l,v::b,hn,i,h,h2=>by
  rw[lW]at hn;rw[I9];unfold dP
  cases i with
  |zero=>simp[getM]
  |succ i=>
   have hne:¬(s::l)[i+1]=s:=fun he=>hn.1 (by rw[<-he];simp)
   rw[getM,if_neg hne];simpa[dP]using Ox l b hn.2 i (by simpa using h) (by simpa using h2)
theorem E5{c:Ct}{ins state:List Bool}(hi:ins.length=c.aE.length)(hs:state.length=c.ak.length)(p:List Nat)(hp:∀a∈p,a<c.af.length):∀r:List Nat,(∀a∈r,a<c.af.length)->∀s∈(ig c ins state p).map (·.1),dP (ig c ins state (p++r)) s=dP (ig c ins state p) s:=by
 intro r
 induction r using Oc with
 |h0=>intro _ s _;simp
 |h1 r a ih=>
  intro hr s hs';have ha:=hr a (by simp)
  have hr':=fun b hb=>hr b (bm.2 (.inl hb))
  have h1:=ih hr' s hs';rw[<-fY,Ar c ins state (p++r) ha,adb ?_,h1];rw[tH hi hs _ fun b hb=>(bm.1 hb).elim (hp b) (hr' b)];rw[tH hi hs p hp]at hs';simp only[bm,iQ]at hs'⊢
  exact hs'.elim .inl fun h=>.inr (.inl h)
theorem Zm{c:Ct}(ok:eU c)(hall:∀i<c.af.length,i∈aP c){ins state:List Bool}(hi:ins.length=c.aE.length)(hs:state.length=c.ak.length):BB c ins state (dP (gO c ins state)):=by
 have hd:=tn (MI ok);have hlt:=oP c;have hnd:=Ac ok
 have hbn:(eI c).Nodup:=by rw[sN]at hnd;exact hnd.1
 have hbase:∀i,∀h:i<(eI c).length,dP (gO c ins state) (eI c)[i]=(ins++state).getD i false:=fun i h=>by
  have h1:=E5 hi hs [] (by simp) (aP c) hlt (eI c)[i] (by rw[tH hi hs [] (by simp)];simp);rw[lf]at h1;rw[gO,h1];have:=Ox (eI c) (ins++state) hbn i h (by rw[wq]at h;simp;omega);simpa[ig,xF]using this
 refine⟨fun i h=>?_,fun i h=>?_,fun i h=>?_⟩
 ·have:=hbase i (by rw[wq];omega);simp only[eI,I6 h]at this;rw[this,bp,bp,cV (by omega)]
 ·have:=hbase (c.aE.length+i) (by rw[wq];omega);simp only[eI]at this;rw[C9 (by omega)]at this;simp only[vg,List.getElem_map]at this;rw[this,bp,bp,dD (by omega),hi,vg]
 ·obtain⟨p,q,he⟩:=List.append_of_mem (hall i h)
  have hpl:∀a∈p,a<c.af.length:=fun a ha=>hlt a (by rw[he];simp[ha])
  have hql:∀a∈q,a<c.af.length:=fun a ha=>hlt a (by rw[he];simp[ha])
  have hpos:=(jr.1 (EJ c he).1);have hnew:=Mq ok hi hs hpl h hpos.1
  have e1:aP c=(p++[i])++q:=by rw[he];simp
  have hpi:∀a∈p++[i],a<c.af.length:=fun a ha=>by
   rcases bm.1 ha with ha|ha
   ·exact hpl a ha
   ·rw[dE]at ha;subst ha;exact h
  have h2:dP (gO c ins state) c.af[i].name=qm c.af[i] (fe (ig c ins state p) c.af[i].ins):=by
   rw[gO,e1,E5 hi hs (p++[i]) hpi q hql _ (by rw[tH hi hs _ hpi];simp[Bz h])];rw[Ar c ins state p h,adq _ hnew]
  rw[h2];congr 1;apply oq;intro s hsi
  have hs0:s∈(ig c ins state p).map (·.1):=by
   rw[tH hi hs p hpl,bm];have hu:s∈aD c:=ok.used s (by simp only[eS,mh,bm,qS];exact .inr ⟨_,bz h,hsi⟩)
   rcases E9.1 hu with hu|⟨x,hx,rfl⟩|⟨x,hx,rfl⟩
   ·exact .inl (by simp[eI,hu])
   ·exact .inl (by simp only[eI,bm,cI];exact .inr ⟨x,hx,rfl⟩)
   ·obtain⟨j,hj,rfl⟩:=ku hx;have:=hpos.2 j ((xa h hj).2 hsi);exact .inr (cI.2 ⟨j,this,Bz hj⟩)
  rw[gO,e1,fY];exact(E5 hi hs p hpl ([i]++q) (fun a ha=>hlt a (by rw[he];simp at ha⊢;exact .inr ha)) s hs0).symm
theorem ab2{c:Ct}(ok:eU c)(hall:∀i<c.af.length,i∈aP c){ins state:List Bool}{f g:Bs->Bool}(hf:BB c ins state f)(hg:BB c ins state g):∀s∈aD c,f s=g s:=by
 have hlow:∀s∈eI c,f s=g s:=fun s hs=>by
  simp only[eI,bm,cI]at hs
  rcases hs with hs|⟨q,hq,rfl⟩
  ·obtain⟨i,hi,rfl⟩:=ku hs;rw[hf.P8 i hi,hg.P8 i hi]
  ·obtain⟨i,hi,rfl⟩:=ku hq;rw[hf.RU i hi,hg.RU i hi]
 have key:∀(q p:List Nat),aP c=p++q->(∀a∈p,∀h:a<c.af.length,f c.af[a].name=g c.af[a].name)->∀a∈p++q,∀h:a<c.af.length,f c.af[a].name=g c.af[a].name:=by
  intro q
  induction q with
  |nil=>intro p _ h;simpa using h
  |cons x q ih=>
   intro p he h
   have:=ih (p++[x]) (by simpa using he) fun a ha hal=>by
    rcases bm.1 ha with ha|ha
    ·exact h a ha hal
    ·rw[dE]at ha;subst ha;rw[hf.RY a hal,hg.RY a hal];congr 1;apply oq;intro s hs;have hu:s∈aD c:=ok.used s (by simp only[eS,mh,bm,qS];exact .inr ⟨_,bz hal,hs⟩)
     rcases E9.1 hu with hu|⟨y,hy,rfl⟩|⟨y,hy,rfl⟩
     ·exact hlow s (by simp[eI,hu])
     ·exact hlow _ (by simp only[eI,bm,cI];exact .inr ⟨y,hy,rfl⟩)
     ·obtain⟨j,hj,rfl⟩:=ku hy;exact h j ((jr.1 (EJ c he).1).2 j ((xa hal hj).2 hs)) hj
   simpa using this
 intro s hs
 rcases E9.1 hs with hu|⟨y,hy,rfl⟩|⟨y,hy,rfl⟩
 ·exact hlow s (by simp[eI,hu])
 ·exact hlow _ (by simp only[eI,bm,cI];exact .inr ⟨y,hy,rfl⟩)
 ·obtain⟨j,hj,rfl⟩:=ku hy;exact key (aP c) [] rfl (by simp) j (by simpa using hall j hj) hj
def xq(c:Ct)(ins state:List Bool):List Bool:=fe (gO c ins state) c.bg
def xh(c:Ct)(ins state:List Bool):List Bool:=c.ak.map fun q=>dP (gO c ins state) q.next
theorem Y6(c:Ct)(ins state:List Bool):(xh c ins state).length=c.ak.length:=by simp[xh]
theorem adT{c:Ct}(ok:eU c){s:Bs}(h:s∈c.bg):s∈aD c:=ok.used s (by simp[eS,h])
theorem aa2{c:Ct}(ok:eU c){q:Lt}(h:q∈c.ak):q.next∈aD c:=ok.used _ (by simp only[eS,bm,cI];exact .inl (.inr ⟨q,h,rfl⟩))
def k6(c:Ct):Bool:=decide ((me c).1=0)
theorem wX{c:Ct}(h:k6 c=true):kJ c=true/\o6 c=[]/\me c=(0,[]):=Zw (Df h)
theorem JS(hΓ:eT Γ)(c:Ct)(hb:iJ c):aL Tryz.prog Γ zO [bL c] (.bool (k6 c)):=by
 have hC:=Mg hΓ c hb;unfold k6;generalize me c=r at*;obtain⟨e,s⟩:=r;refine .run 60 WI (by simp) ?_;simp;refine .call 60 (by simp) hC ?_;simp;exact .back (by simp)
abbrev uZ(x:Bs×Bool):AV×AV:=(.str x.1,.bool x.2)
@[simp] theorem A7(n:Nat):∀l:List (Bs×Bool),fR n (l.map uZ)=true
 |[]=>rfl
 |x::r=>by simp[A7 n r]
@[simp] theorem Oe(n m:Nat):∀l:List (Bs×Bool),nj n m (l.map uZ)=true
 |[]=>rfl
 |x::r=>by simp[Oe n m r]
@[simp] theorem az3(n:Nat)(τ:List Nat)(l:List (Bs×Bool)):mO n τ (l.map uZ)=l.map uZ:=FC (A7 n l)
def gz(m:List (Bs×Bool)):Ob:=.map (m.map uZ) true
def ph(l:List Bool):Ob:=.row 1 aZ (l.map .bool) none true false
theorem Nz(s:Bs)(m:List (Bs×Bool)):ew (.sc .str) (.str s) (m.map uZ)=some ((getM s m).map AV.bool):=v_ m7 AV.bool s m
theorem BF{h os:List Ob}{a b:Ob}:(h++a::b::os)[h.length+1]? =some b:=by simp
set_option maxRecDepth 8000 in
theorem OB(m:List (Bs×Bool))(l:List Bs){fl:Bool}{k:Nat}(hk:Kd 1 k l)(hl:l.length<2^40){j:Nat}{h:List Ob}(hj:h[j]? =some (gz m))(hw:cu h)(hv:dW h):
 ∀up,AM.Reach Tryz.prog Γ (.cl tp [.mp j,.list fl k (l.map .str)] up h) (.back up (.sl h.length 0 l.length) (h++[ph (fe m l)])):=by
 intro up;have hb:=hw h.length (aR _);have hjl:j<h.length:=(cW.1 hj).1
 have hget:=fun os=>dJ hj os
 have hvv:=fun m=>hv (h.length+1) m (by omega)
 have key:∀n i:Nat,i+n=l.length->AM.Reach Tryz.prog Γ (yrQ (.mp j) (.sl (h.length+1) 0 i) (.list fl k (l.map .str)) (.int .i64 l.length) (.int .i64 i) (h++[.row 1 aZ [] none true false,.row 1 aZ ((fe m (l.take i)).map .bool) none true false]) ⟨[],.norm,h.length,up⟩)
  (.back up (.sl h.length 0 l.length) (h++[ph (fe m l)])):=by
  intro n
  induction n with
  |zero=>
   intro i hi
   have q1:¬i<l.length:=by omega
   have he:i=l.length:=by omega
   subst he;rw[cd (by omega)];generalize fe m l=P at*;refine .mA h.length [1] (by simp[l8 hb,hjl]) (by decide) ?_;have hlt:(h.length+1<h.length)=False:=iu (by omega);simp[l6 hb,hjl,hlt];refine .aU 60 ?_;simp[q1,ph]
  |succ n ih=>
   intro i hi
   have q1:i<l.length:=by omega
   have q2:=bY (hk.of q1);have hh:=ih (i+1) (by omega)
   have e1:fe m (l.take (i+1))=fe m (l.take i)++[dP m l[i]]:=by
    rw[gC q1,fe,iQ];rfl
   have hlen:(fe m (l.take i)).length=i:=by simp[fe];omega
   rw[e1]at hh;have hf:=Nz l[i] m;have hlk:dP m l[i]=(match getM l[i] m with|some v=>v|none=>false):=rfl
   have hle:((i:Int)+1)<=140737488355328:=by omega
   generalize fe m (l.take i)=P at*;refine .aU 60 ?_
   cases hg:getM l[i] m with
   |none=>
    rw[hg]at hf hlk;simp at hf hlk;rw[hlk]at hh;simp(disch:=omega) [q1,q2,hget,gz,hf,isKey,bR,cz,hle,hlen];refine .aH ?_;simp;refine .lq (i:=h.length+1) BF (by simp) (by simp[hlen]) (by simp[hvv]) ?_;simp at hh⊢;exact hh
   |some v=>
    rw[hg]at hf hlk;simp at hf hlk;rw[hlk]at hh;simp(disch:=omega) [q1,q2,hget,gz,hf,isKey,bR,cz,hle,hlen];refine .aH ?_;simp;refine .lq (i:=h.length+1) BF (by simp) (by simp[hlen]) (by simp[hvv]) ?_;simp at hh⊢;exact hh
 refine .br 60 W0 ?_;simp;refine .inLoop ?_;have hh:=key l.length 0 (by omega);simp[fe]at hh⊢;exact hh
theorem Ph{h os:List Ob}{a b:Ob}{f:Ob->Ob}:(h++a::b::os).modify (h.length+1) f=h++a::f b::os:=by
 induction h with
 |nil=>rfl
 |cons x h ih=>simpa using ih
theorem afe{h os:List Ob}{a b c d e:Ob}:(h++a::b::c::d::e::os)[h.length+4]? =some e:=by simp
theorem afA{h os:List Ob}{a b c d:Ob}{f:Ob->Ob}:(h++a::b::c::d::os).modify (h.length+3) f=h++a::b::c::f d::os:=by
 induction h with
 |nil=>rfl
 |cons x h ih=>simpa using ih
def ie(c:Ct)(N:List Bs)(l:List Nat):Ob:=.cells [.list false c.kI (c.aE.map .str),.list false c.kO (c.bg.map .str),.list false c.kL (c.ak.map od),.list false c.kG (c.af.map cR),.list false 1 (N.map .str),.list false 1 (l.map iN)]
set_option maxRecDepth 8000 in
theorem ac6(hΓ:eT Γ)(c:Ct)(hb:iJ c)(ho:k6 c=true){h:List Ob}(hw:cu h)(hv:dW h):
 ∀up,AM.Reach Tryz.prog Γ (.cl th [bL c] up h) (.back up (.aB [.ptr h.length 0,.int .i64 0]) (h++[ie c (aD c) (aP c)])):=by
 intro up;obtain⟨hr,hn,_⟩:=wX ho;have hbb:=hw h.length (aR _);have hR:=JS hΓ c hb;rw[ho]at hR;have hS:=FG hΓ c hb;rw[hn]at hS
 have hSo:uw c=aP c:=by simp[uw,hr]
 rw[hSo]at hS;have hN:=F7 (Γ:=Γ) c (rz hb hr);generalize aP c=l at*;refine .br 60 JW ?_;simp;refine .jB 60 (by simp) hR ?_;simp;refine .jB 60 (by simp) hS ?_;simp;refine .trees [4] ?_;simp[Ph,gE];refine .nr 0 ?_;simp;refine eV.call (by simp) hN ?_;simp;generalize aD c=N at*;refine .trans (.lB 4 afe) ?_;have htk:(N.map AV.str).take N.length=N.map AV.str:=cd (by simp);simp[kY,share,afA,gE,htk];refine .trans (.lK [1,5,9,11,12,13,16,18] _) ?_;simp[lI];refine .mA h.length [4] (by simp[l8 hbb]) (by decide) ?_;have hlt:(h.length+4<h.length)=False:=iu (by omega);simp[l6 hbb,hlt];refine .aU 60 ?_;simp[ie]
theorem aa5(hΓ:eT Γ)(c:Ct)(hb:iJ c)(ho:k6 c=false){h:List Ob}:
 ∀up,AM.Reach Tryz.prog Γ (.cl th [bL c] up h) (.back up (.aB [.iG,.int .i64 1]) (h++[.cells (AV.cells (bL c))])):=by
 intro up;have hR:=JS hΓ c hb;rw[ho]at hR;refine .br 60 JW ?_;simp;refine .jB 60 (by simp) hR ?_;simp
set_option maxRecDepth 8000 in
theorem acR(c:Ct)(hc:bW c)(N:List Bs)(l:List Nat)(ins state:List Bool){fi fs:Bool}{ki ks:Nat}(hi2:ins.length<2^40)(hs2:state.length<2^40)(hn:¬(ins.length=c.aE.length/\state.length=c.ak.length)){j:Nat}{h:List Ob}(hj:h[j]? =some (ie c N l)):
 ∀up,AM.Reach Tryz.prog Γ (.cl ov [.ptr j 0,.list fs ks (state.map .bool),.list fi ki (ins.map .bool)] up h) (.back up (.aB [.c8,.int .i64 11]) h):=by
 intro up;have b0:=hc.1;have b2:=hc.2.2.1;have e1:((state.length:Int)=c.ak.length)=(state.length=c.ak.length):=propext (by omega);have e2:((ins.length:Int)=c.aE.length)=(ins.length=c.aE.length):=propext (by omega);have hj':=hj;unfold ie at hj';refine .br 60 Jw ?_
 by_cases h1:state.length=c.ak.length
 ·have h2:¬ins.length=c.aE.length:=fun h=>hn ⟨h,h1⟩
  simp[hj',e1,e2,h1,h2]
 ·simp[hj',e1,e2,h1]
theorem Za(a b:List Bool){ka kb:Nat}(ha:Kd 1 ka a)(hb:Kd 1 kb b)(hl:a.length+b.length<2^40):aL Tryz.prog Γ ou [.list false 1 [.list false ka (a.map .bool),.list false kb (b.map .bool)]] (.own 1 aZ ((a++b).map .bool)):=by
 by_cases h:a++b=[]
 ·rw[Jd]at h;have:=TJ (Γ:=Γ) [(ka,a),(kb,b)] (by simp[h]) (by simp);simpa[h,nS]using this
 ·have h2:0<(a++b).length:=pM.2 h;have:=Jr (Γ:=Γ) [(ka,a),(kb,b)] (by simp[ha,hb]) (by simp) (by simp[cE];omega) (by simpa[cE]using h2);simpa[cE,nS]using this
theorem WC{N:List Bs}(hn:N.Nodup)(v:List Bool){i:Nat}(hi:i<N.length):getM N[i] ((N.take i).zip (v.take i))=none:=by
 rw[getM_none];intro x hx he;have:=(List.of_mem_zip (a:=x.1) (b:=x.2) hx).1;obtain⟨j,hj,hje⟩:=ku this;rw[pI]at hje;have h1:=(ze (xs:=N) (i:=j) (j:=i) (h₀:=by simp at hj;omega) (h₁:=hi) hn).1 (hje.trans he)
 simp at hj;omega
theorem V4(N:List Bs)(v:List Bool){i:Nat}(hi:i<N.length)(h2:i<v.length):(N.take (i+1)).zip (v.take (i+1))=(N.take i).zip (v.take i)++[(N[i],v[i])]:=by
 rw[gC hi,gC h2,Ji (by simp;omega)];rfl
abbrev qA(h:List Ob)(m:List (Bs×Bool))(v:List Bool):List Ob:=h++[gz m,.row 1 aZ (v.map .bool) none true true]
set_option maxRecDepth 8000 in
theorem afs(c:Ct)(N:List Bs)(hN:N.Nodup)(hNl:N.length<2^30)(l:List Nat)(v:List Bool)(hvN:v.length<=N.length){j:Nat}{h:List Ob}(hj:h[j]? =some (ie c N l))(hw:cu h)(hv:dW h)(up:List Fr):∀n i:Nat,i+n=v.length->
 AM.Reach Tryz.prog Γ (yrB (.ptr j 0) (.mp h.length) (.list false 1 (v.map .bool)) (.int .i64 v.length) (.int .i64 i) (qA h ((N.take i).zip (v.take i)) v) ⟨[],.norm,h.length,up⟩)
  (yrC (.ptr j 0) (.mp h.length) (qA h (N.zip v) v) ⟨[],.norm,h.length,up⟩):=by
 have hjl:j<h.length:=(cW.1 hj).1
 have hget:=fun os=>dJ hj os
 unfold ie at hget;intro n
 induction n with
 |zero=>
  intro i hi
  have q1:¬i<v.length:=by omega
  have e1:(N.take i).zip (v.take i)=N.zip v:=by
   rw[cd (l:=v) (by omega)]
   conv=>rhs;rw[<-lU i N]
   have:v=v++[]:=by simp
   conv=>rhs;rw[this]
   rw[Ji (by simp;omega)];simp
  rw[e1];refine .dh 60 ?_;simp[q1];exact .exit rfl rfl
 |succ n ih=>
  intro i hi
  have q1:i<v.length:=by omega
  have q3:i<N.length:=by omega
  have hh:=ih (i+1) (by omega);rw[V4 N v q3 q1]at hh;have hput:=wm (E:=.sc .str) (e:=AV.str) m7 AV.bool v[i] (WC hN v q3);generalize(N.take i).zip (v.take i)=m at*;refine .dh 60 ?_;simp(disch:=omega) [q1,q3,hget,gz,hput,isKey,bR,cz];refine .aH ?_;simp[gz,qA]at hh⊢;exact hh
set_option maxRecDepth 8000 in
theorem afC(hΓ:eT Γ)(c:Ct)(hc:bW c)(ok:eU c)(ins state:List Bool)(hi2:ins.length=c.aE.length)(hs2:state.length=c.ak.length)(v:List Bool){j:Nat}{h:List Ob}(hj:h[j]? =some (ie c (aD c) (aP c)))(hw:cu h)(hv:dW h)(up:List Fr):∀n i:Nat,i+n=(aP c).length->
 AM.Reach Tryz.prog Γ (yry (.ptr j 0) (.mp h.length) (.list false 1 ((aP c).map iN)) (.int .i64 (aP c).length) (.int .i64 i) (qA h (ig c ins state ((aP c).take i)) v) ⟨[],.norm,h.length,up⟩)
  (yrz (.mp h.length) (qA h (gO c ins state) v) ⟨[],.norm,h.length,up⟩):=by
 have hjl:j<h.length:=(cW.1 hj).1
 have hget:=fun os=>dJ hj os
 unfold ie at hget;have hlt:=oP c;have hnd:=J8 c;have hll:=D' hc;have hbb:=hw (h.length+2) (by omega);intro n
 induction n with
 |zero=>
  intro i hi
  have q1:¬i<(aP c).length:=by omega
  rw[cd (by omega),<-gO];refine .dh 60 ?_;simp[q1];exact .exit rfl rfl
 |succ n ih=>
  intro i hi
  have q1:i<(aP c).length:=by omega
  have ha:=hlt _ (bz q1);have q2:=bY (c.hG.of ha);have hh:=ih (i+1) (by omega)
  have hnew:=Mq ok hi2 hs2 (p:=(aP c).take i) (fun a h=>hlt a (jO h)) ha (fun hm=>by
   obtain⟨x,hx,he⟩:=ku hm;rw[pI]at he;have:=(ze (xs:=aP c) (h₀:=by simp at hx;omega) (h₁:=q1) hnd).1 he
   simp at hx;omega)
  rw[gC q1,Ar c ins state _ ha]at hh
  have hput:=fun u=>wm (E:=.sc .str) (e:=AV.str) m7 AV.bool u (abP hnew)
  have hgf:=hc.2.2.2.2.1 _ (bz ha)
  have gl:((aP c).map iN)[i]? =some (.int .i64 (aP c)[i]):=by simp[q1]
  obtain⟨gl1,gl2⟩:=cW.1 gl
  have hEl:((aP c).map iN).length=(aP c).length:=by simp
  generalize ig c ins state ((aP c).take i)=m at*;generalize(aP c)[i]=a at*;have hG:=W_ hΓ c.af[a] hgf (fe m c.af[a].ins) (k:=1) .self (by simp[fe];have:=hgf.2.1;omega)
  have hP:=OB (Γ:=Γ) m c.af[a].ins (fl:=false) c.af[a].hi (by have:=hgf.2.1;omega) (j:=h.length) (h:=qA h m v++[.cells (AV.cells (cR c.af[a])),.row 1 aF [] none true false,.row 1 aF [] none true false]) (by simp) (by
   intro n hn;simp at hn
   simp[hw n (by omega),gz]) (by
   intro n k hn;simp at hn
   simp[hv n k (by omega),gz])
  refine .dh 60 ?_;simp(disch:=omega) [q1,q2,gl,gl2,hEl,ha,hget,eE];refine .Rv 60 ?_;simp(disch:=omega) [q1,q2,hget]
  have hpl:(fe m c.af[a].ins).length=c.af[a].ins.length:=by simp[fe]
  simp at hP;generalize fe m c.af[a].ins=P at*;refine eV.reach (by simp) hP ?_;simp[ph];have htk:(P.map AV.bool).take c.af[a].ins.length=P.map AV.bool:=cd (by simp[hpl]);refine eV.call (by simp[hpl,htk]) hG ?_;simp(disch:=omega) [gz,hput,isKey,bR,cz];refine .aH ?_;simp
  have hj2:j<h.length+2:=by omega
  have hbm:=A7 (h.length+2) (m++[(c.af[a].name,qm c.af[a] P)]);rw[iQ,b_,ld]at hbm;refine .j0 (h.length+2) (by simp;rfl) (by simp) (by simp[hj2]) (by simp[hbb];exact hbm) ?_;simp[gz,qA]at hh⊢;exact hh
set_option maxRecDepth 8000 in
theorem aet(hΓ:eT Γ)(c:Ct)(hc:bW c)(ok:eU c)(ins state:List Bool)(hi2:ins.length=c.aE.length)(hs2:state.length=c.ak.length){fi fs:Bool}{ki ks:Nat}(hki:Kd 1 ki ins)(hks:Kd 1 ks state){j:Nat}{h:List Ob}(hj:h[j]? =some (ie c (aD c) (aP c)))(hw:cu h)(hv:dW h):
 ∀up,AM.Reach Tryz.prog Γ (.cl ov [.ptr j 0,.list fs ks (state.map .bool),.list fi ki (ins.map .bool)] up h) (.back up (.aB [.mp h.length,.int .i64 0]) (h++[gz (gO c ins state)])):=by
 intro up;have b0:=hc.1;have b2:=hc.2.2.1;have hnl:=NL hc;have e1:((state.length:Int)=c.ak.length)=True:=bY (by omega);have e2:((ins.length:Int)=c.aE.length)=True:=bY (by omega);have hjl:j<h.length:=(cW.1 hj).1
 have hget:=fun os=>dJ hj os
 have hj':=hj;unfold ie at hj' hget;have hbb:=hw (h.length+1) (by omega);have hC:=Za (Γ:=Γ) ins state hki hks (by omega)
 have hvN:(ins++state).length<=(aD c).length:=by simp[aD];omega
 have h9:=afs (Γ:=Γ) c (aD c) ok.nodup (by omega) (aP c) (ins++state) hvN hj hw hv up (ins++state).length 0 (by omega);have h1:=afC hΓ c hc ok ins state hi2 hs2 (ins++state) hj hw hv up (aP c).length 0 (by omega)
 have hz:(aD c).zip (ins++state)=ig c ins state []:=by
  have e:ins++state=(ins++state)++[]:=by simp
  rw[ig,List.foldl_nil,xF,aD,e,<-eI,Ji (by rw[wq];simp;omega)];simp
 rw[C8]at h9 h1;rw[hz]at h9;simp only[C8,List.zip_nil_right]at h9
 have hvl:(ins++state).length=ins.length+state.length:=by simp
 generalize ig c ins state []=m0 at*;generalize gO c ins state=m1 at*;generalize aP c=l at*;generalize aD c=N at*;refine .br 60 Jw ?_;simp[hj',e1,e2];generalize ins++state=v at*;refine .jB 60 (by simp) hC ?_;simp;refine .trees [38] ?_;simp[Ph,gE];refine .inLoop ?_;simp[gz,qA]at h9 h1⊢;refine .trans h9 ?_;refine .aU 60 ?_;simp[hget];refine .inLoop ?_;simp;refine .trans h1 ?_;refine .j0 (h.length+1) (by simp;rfl) (by simp) (by simp) (by simp[hbb]) ?_;refine .aU 60 ?_;simp
structure Md where
 g:Gr
 aE:List Bs
 ak:List Bs
 bg:List Bs
 kI:Nat
 kL:Nat
 kO:Nat
 hI:Kd 1 kI aE
 hL:Kd 1 kL ak
 hO:Kd 1 kO bg
abbrev qK(m:Md):AV:=.agg [.int .i64 m.g.ins,.list false m.g.kn (m.g.next.map i64),.list false m.g.ki (m.g.init.map i64),.list false m.g.ka (m.g.ands.map df),.list false m.g.ko (m.g.outs.map i64),
 .list false m.kI (m.aE.map .str),.list false m.kL (m.ak.map .str),.list false m.kO (m.bg.map .str)]
def kZ:Md:=⟨fv,[],[],[],0,0,0,.nil,.nil,.nil⟩
def sB(m:List (Bs×Nat))(s:Bs):Nat:=match getM s m with
 |some v=>v
 |none=>0
def dd(m:List (Bs×Nat))(l:List Bs):List Nat:=l.map (sB m)
def gI(n:Nat):List Nat:=(List.range n).map fun i=>2*(i+1)
def dL(c:Ct):Gr:=⟨c.aE.length,List.replicate c.ak.length 0,c.ak.map (·.init),[],[],1,1,0,0,.self,.self,.nil,.nil⟩
def n5(c:Ct):List Nat->Gr->List Nat->Gr×Option (List Nat)
 |[],x,v=>(x,some v)
 |a::r,x,v=>match c.af[a]? with
  |none=>(x,none)
  |some g=>hY (na x g (dd ((aD c).zip v) g.ins)) fun y d=>n5 c r y (v.set (c.aE.length+c.ak.length+a) d)
def n4(c:Ct):Gr×Option (List Nat):=n5 c (aP c) (dL c) (gI (aD c).length)
def d_(c:Ct)(y:Gr)(v:List Nat):Gr:={y with
 next:=(dd ((aD c).zip v) (c.ak.map (·.next))).map fun n:Nat=>(n:Int),kn:=1,hn:=.self
 outs:=(dd ((aD c).zip v) c.bg).map fun n:Nat=>(n:Int),ko:=1,ho:=.self}
def qc(c:Ct)(y:Gr)(v:List Nat):Md:=⟨(d_ c y v).normal,c.aE,c.ak.map (·.name),c.bg,1,1,1,.self,.self,.self⟩
def jX(c:Ct):Md×Int×Bs:=
 if(me c).1=0 then(match(n4 c).2 with
  |none=>(kZ,8,[])
  |some v=>(qc c (n4 c).1 v,0,[]))else(kZ,me c)
abbrev uG(r:Md×Int×Bs):AV:=.aB [qK r.1,.int .i64 r.2.1,.str r.2.2]
theorem _root_.Go.AM.Reach.acm{P:Program}{f:FuncId}{args:List AV}{up:List Fr}{h:List Ob}{v:AV}(J:List Ob)(hw:cu h)(hv:aI h.length v=true)(h1:AM.Reach P Γ (.cl f args up h) (.back up v (h++J))):AM.Reach P Γ (.cl f args up h) (.back up v h):=by
 have:=AM.Reach.leave h1 hv (by rw[vp rfl];exact hw _ (aR _));rwa[vp rfl]at this
def P1(m:List (Bs×Nat)):Ob:=.map (m.map gU) true
theorem ado(s:Bs)(m:List (Bs×Nat)):ew (.sc .str) (.str s) (m.map gU)=some ((getM s m).map iN):=v_ m7 iN s m
theorem aeV{h os:List Ob}{a b:Ob}{f:Ob->Ob}:(h++a::b::os).modify (h.length+1) f=h++a::f b::os:=by
 induction h with
 |nil=>rfl
 |cons x h ih=>simpa using ih
set_option maxRecDepth 8000 in
theorem F9(m:List (Bs×Nat))(l:List Bs){fl:Bool}{k:Nat}(hk:Kd 1 k l)(hl:l.length<2^40){j q:Nat}{h:List Ob}(hj:h[j]? =some (.cells [.mp q]))(hq:h[q]? =some (P1 m))(hw:cu h)(hv:dW h):
 ∀up,AM.Reach Tryz.prog Γ (.cl ox [.list fl k (l.map .str),.ptr j 0] up h) (.back up (.list false 1 ((dd m l).map iN)) h):=by
 intro up;have hb:=hw h.length (aR _)
 have hget:=fun os=>dJ hj os
 have hget2:=fun os=>dJ hq os
 unfold P1 at hget2
 have hvv:=fun m=>hv (h.length+1) m (by omega)
 have key:∀n i:Nat,i+n=l.length->AM.Reach Tryz.prog Γ (yfV (.ptr j 0) (.sl (h.length+1) 0 i) (.list fl k (l.map .str)) (.int .i64 l.length) (.int .i64 i) (h++[.row 1 aq [] none true false,.row 1 aq ((dd m (l.take i)).map iN) none true false]) ⟨[],.norm,h.length,up⟩)
  (.back up (.list false 1 ((dd m l).map iN)) (h++[.row 1 aq [] none true false,.row 1 aq ((dd m l).map iN) none true true])):=by
  intro n
  induction n with
  |zero=>
   intro i hi
   have q1:¬i<l.length:=by omega
   have he:i=l.length:=by omega
   subst he;rw[cd (by omega)]
   have hlen:(dd m l).length=l.length:=by simp[dd]
   have htk:((dd m l).map iN).take l.length=(dd m l).map iN:=cd (by simp[hlen]);generalize dd m l=P at*;refine .dh 60 ?_;simp[q1];refine .trans (.exit rfl rfl) ?_;refine .trees [4] ?_;simp[aeV,gE];refine .aU 60 ?_;simp[htk,hlen]
  |succ n ih=>
   intro i hi
   have q1:i<l.length:=by omega
   have q2:=bY (hk.of q1);have hh:=ih (i+1) (by omega)
   have e1:dd m (l.take (i+1))=dd m (l.take i)++[sB m l[i]]:=by
    rw[gC q1,dd,iQ];rfl
   have hlen:(dd m (l.take i)).length=i:=by simp[dd];omega
   rw[e1]at hh;have hf:=ado l[i] m;have hlk:sB m l[i]=(match getM l[i] m with|some v=>v|none=>0):=rfl
   have hle:((i:Int)+1)<=140737488355328:=by omega
   generalize dd m (l.take i)=P at*;refine .aU 60 ?_
   cases hg:getM l[i] m with
   |none=>
    rw[hg]at hf hlk;simp at hf hlk;rw[hlk]at hh;simp(disch:=omega) [q1,q2,hget,hget2,hf,isKey,bR,cz,hle,hlen];refine .aH ?_;simp;refine .lq (i:=h.length+1) BF (by simp) (by simp[hlen]) (by simp[hvv]) ?_;simp at hh⊢;exact hh
   |some v=>
    rw[hg]at hf hlk;simp at hf hlk;rw[hlk]at hh;simp(disch:=omega) [q1,q2,hget,hget2,hf,isKey,bR,cz,hle,hlen];refine .aH ?_;simp;refine .lq (i:=h.length+1) BF (by simp) (by simp[hlen]) (by simp[hvv]) ?_;simp at hh⊢;exact hh
 refine .acm [.row 1 aq [] none true false,.row 1 aq ((dd m l).map iN) none true true] hw (by simp) ?_;refine .br 60 Vc ?_;simp;refine .inLoop ?_;have hh:=key l.length 0 (by omega);simp[dd]at hh⊢;exact hh
abbrev mdC(c:Ct)(L:AV):Ob:=.cells [.int .i64 0,.list true 0 [],.list true 0 [],.list true 0 [],.list true 0 [],.list false 1 (c.aE.map .str),L,.list false 1 (c.bg.map .str)]
abbrev hA(c:Ct)(L:AV)(B:Ob)(m:List (Bs×Nat)):List Ob:=[.cells (AV.cells (bL c)),mdC c L,.row 1 aq [] none true false,.row 1 aq [] none true false,.row 2 cP [] none true false,.row 1 aq [] none true false,.row 1 aF [] none true false,.row 1 aF [] none true false,.row 1 aF [] none true false,
 .cells [.int .i64 0],.cells [.str []],B,.map (m.map gU) true,.cells [.mp 12]]
abbrev sA:Cx:=⟨[.call zA [.ptr 1 0,.ptr 9 0,.ptr 10 0]],.norm,0,[]⟩
@[simp] theorem ayo(n k:Nat)(z:Int):aK n (List.replicate k (.int .i64 z))=true:=by
 induction k with
 |zero=>rfl
 |succ k ih=>simp[k8,ih]
@[simp] theorem ayF(i m k:Nat)(z:Int):c9 i m (List.replicate k (.int .i64 z))=true:=by
 induction k with
 |zero=>rfl
 |succ k ih=>simp[k8,ih]
theorem wj(n:Nat):(gI n).length=n:=by simp[gI]
theorem Vr(N:List Bs)(v:List Nat){i:Nat}(hi:i<N.length)(h2:i<v.length):(N.take (i+1)).zip (v.take (i+1))=(N.take i).zip (v.take i)++[(N[i],v[i])]:=by
 rw[gC hi,gC h2,Ji (by simp;omega)];rfl
theorem V1{N:List Bs}(hn:N.Nodup)(v:List Nat){i:Nat}(hi:i<N.length):getM N[i] ((N.take i).zip (v.take i))=none:=by
 rw[getM_none];intro x hx he;have:=(List.of_mem_zip (a:=x.1) (b:=x.2) hx).1;obtain⟨j,hj,hje⟩:=ku this;rw[pI]at hje;have h1:=(ze (xs:=N) (i:=j) (j:=i) (h₀:=by simp at hj;omega) (h₁:=hi) hn).1 (hje.trans he)
 simp at hj;omega
set_option maxRecDepth 8000 in
theorem afj(c:Ct)(N:List Bs)(hN:N.Nodup)(hNl:N.length<2^20)(L:AV)(B:Ob)(hB:gu 14 B=true)(hL:aI 14 L=true){o:Out}
 (hc:aw Tryz.prog Γ (ybR (.ptr 0 0) (.ptr 1 0) (.ptr 9 0) (.ptr 10 0) (.ptr 11 0) (.ptr 13 0) (hA c L B (N.zip (gI N.length))) sA) o):∀n i:Nat,i+n=N.length->
 aw Tryz.prog Γ (ybQ (.ptr 0 0) (.ptr 1 0) (.ptr 9 0) (.ptr 10 0) (.ptr 11 0) (.ptr 13 0) (.list false 1 (N.map .str)) (.int .i64 N.length) (.int .i64 i) (hA c L B ((N.take i).zip ((gI N.length).take i))) sA) o:=by
 intro n
 induction n with
 |zero=>
  intro i hi
  have q1:¬i<N.length:=by omega
  rw[cd (by omega),cd (by rw[wj];omega)];refine .dh 60 ?_;simp[q1];exact .reach (.exit rfl rfl) hc
 |succ n ih=>
  intro i hi
  have q1:i<N.length:=by omega
  have hh:=ih (i+1) (by omega)
  have hv:(gI N.length)[i]'(by rw[wj];exact q1)=2*(i+1):=by simp[gI]
  rw[Vr N _ q1 (by rw[wj];exact q1),hv]at hh
  have hput:h_ (.sc .str) (.str N[i]) (.int .i64 (2*((i:Int)+1))) (((N.take i).zip ((gI N.length).take i)).map gU)=some (((N.take i).zip ((gI N.length).take i)).map gU++[(.str N[i],.int .i64 (2*((i:Int)+1)))]):=by
   have:=wm (E:=.sc .str) (e:=AV.str) m7 iN (2*(i+1)) (V1 hN (gI N.length) q1);rw[iQ]at this;rw[show AV.int .i64 (2*((i:Int)+1))=iN (2*(i+1)) by simp[iN]];exact this
  generalize(N.take i).zip ((gI N.length).take i)=m at*;refine .dh 60 ?_;simp(disch:=omega) [q1,hput,isKey,bR,cz];refine .aH ?_;simp[hA]at hh⊢;exact hh
abbrev hB(c:Ct)(m:List (Bs×Nat))(i:Nat):List Ob:=hA c (.sl 15 0 i) (.cells [.int .i64 c.aE.length,.list false 1 (List.replicate c.ak.length (.int .i64 0)),.sl 16 0 i,.list false 0 [],.list false 0 []]) m++
 [.row 1 aF ((c.ak.take i).map fun q=>.str q.next) none true false,.row 1 aF ((c.ak.take i).map fun q=>.str q.name) none true false,.row 1 aq ((c.ak.take i).map fun q=>.int .i64 q.init) none true false]
set_option maxRecDepth 8000 in
theorem afo(c:Ct)(hcf:bW c)(m:List (Bs×Nat)){o:Out}
 (hc:aw Tryz.prog Γ (ybO (.ptr 0 0) (.ptr 1 0) (.ptr 9 0) (.ptr 10 0) (.ptr 11 0) (.ptr 13 0) (.fn (.func ox) [] [.ptr 13 0]) (.sl 14 0 c.ak.length) (hB c m c.ak.length) sA) o):∀n i:Nat,i+n=c.ak.length->
 aw Tryz.prog Γ (ybN (.ptr 0 0) (.ptr 1 0) (.ptr 9 0) (.ptr 10 0) (.ptr 11 0) (.ptr 13 0) (.fn (.func ox) [] [.ptr 13 0]) (.sl 14 0 i) (.list false c.kL (c.ak.map od)) (.int .i64 c.ak.length) (.int .i64 i) (hB c m i) sA) o:=by
 have b2:=hcf.2.2.1;intro n
 induction n with
 |zero=>
  intro i hi
  have q1:¬i<c.ak.length:=by omega
  have he:i=c.ak.length:=by omega
  subst he;refine .dh 60 ?_;simp[q1]at hc⊢;exact .reach (.exit rfl rfl) hc
 |succ n ih=>
  intro i hi
  have q1:i<c.ak.length:=by omega
  have q2:=bY (c.hL.of q1);have hh:=ih (i+1) (by omega)
  have hle:((i:Int)+1)<=140737488355328:=by omega
  have e:c.ak.take (i+1)=c.ak.take i++[c.ak[i]]:=gC q1;simp only[hB,e,iQ]at hh⊢
  have hlen:(c.ak.take i).length=i:=by simp;omega
  generalize c.ak.take i=P at*;refine .dh 60 ?_;simp(disch:=omega) [q1,q2,hlen,hle];refine .dr 60 ?_;simp(disch:=omega) [q1,q2,hlen,hle];refine .aH ?_;simp;have hbm:=nO 17 m
  have hvm:=fun i k=>o7 i k m
  refine .drop 17 rfl (by simp) (by simp) (by simp[hbm]) ?_;refine .reset (i:=14) rfl (by simp) (by simp[hlen]) (by simp[hvm]) ?_;refine .reset (i:=15) rfl (by simp) (by simp[hlen]) (by simp[hlen,hvm]) ?_;refine .reset (i:=16) rfl (by simp) (by simp[hlen]) (by simp[hlen,hvm]) ?_;simp[hA]at hh⊢;exact hh
theorem Mm(d:Nat):∀(N:List Bs)(v:List Nat)(j:Nat)(hn:N.Nodup)(hj:j<N.length),v.length=N.length->h_ (.sc .str) (.str N[j]) (iN d) ((N.zip v).map gU)=some ((N.zip (v.set j d)).map gU)
 |[],v,j,hn,hj,hv=>by simp at hj
 |s::N,[],j,hn,hj,hv=>by simp at hv
 |s::N,a::v,0,hn,hj,hv=>by simp[h_,m7]
 |s::N,a::v,j+1,hn,hj,hv=>by
  rw[lW]at hn
  have hj':j<N.length:=by simpa using hj
  have ih:=Mm d N v j hn.2 hj' (by simpa using hv)
  have hne:¬N[j]=s:=fun e=>hn.1 (by rw[<-e];exact bz hj')
  simp only[sM,I9,b_,h_,m7,hne,mR,ih,du,pF]
def qx(c:Ct)(p:List Nat)(k:Nat):Prop:=k<c.aE.length+c.ak.length\/∃j∈p,k=c.aE.length+c.ak.length+j
def sk(c:Ct)(x:Gr)(v:List Nat)(p:List Nat):Prop:=∀k(hk:k<v.length),qx c p k->v[k]<x.lits
theorem sb:∀(N:List Bs)(v:List Nat)(k:Nat)(hn:N.Nodup)(hk:k<N.length)(hv:v.length=N.length),sB (N.zip v) N[k]=v[k]'(by omega)
 |[],v,k,hn,hk,hv=>by simp at hk
 |s::N,[],k,hn,hk,hv=>by simp at hv
 |s::N,a::v,0,hn,hk,hv=>by simp[sB,getM]
 |s::N,a::v,k+1,hn,hk,hv=>by
  rw[lW]at hn
  have hk':k<N.length:=by simpa using hk
  have ih:=sb N v k hn.2 hk' (by simpa using hv)
  have hne:¬N[k]=s:=fun e=>hn.1 (by rw[<-e];exact bz hk')
  simp only[sB,I9,sM,getM,hne,db]at ih⊢;exact ih
theorem F5(c:Ct){a:Nat}(ha:a<c.af.length):∃h:c.aE.length+c.ak.length+a<(aD c).length,(aD c)[c.aE.length+c.ak.length+a]=c.af[a].name:=by
 have h:c.aE.length+c.ak.length+a<(aD c).length:=by simp[aD];try omega
 refine⟨h,?_⟩
 have:(aD c)[c.aE.length+c.ak.length+a]? =some c.af[a].name:=by
  rw[aD,dD (by simp),vc]
  rw[show c.aE.length+c.ak.length+a-(c.aE++c.ak.map (·.name)).length=a by simp,bl ha];rfl
 exact(cW.1 this).2
theorem wE(c:Ct):(aD c).length=c.aE.length+c.ak.length+c.af.length:=by simp[aD,nv]
theorem MP{c:Ct}(ok:eU c){i:Nat}(hi:i<(aP c).length){s:Bs}(hs:s∈(c.af[(aP c)[i]]'(oP c _ (bz hi))).ins):∃k,∃hk:k<(aD c).length,(aD c)[k]=s/\qx c ((aP c).take i) k:=by
 have ha:=oP c _ (bz hi)
 have hu:s∈eS c:=by
  simp only[eS,mh,bm,qS];exact .inr ⟨_,bz ha,hs⟩
 obtain⟨k,hk,he⟩:=ku (ok.used s hu);refine⟨k,hk,he,?_⟩
 by_cases h1:k<c.aE.length+c.ak.length
 ·exact .inl h1
 ·have hl:=wE c
  have hj:k-(c.aE.length+c.ak.length)<c.af.length:=by omega
  obtain⟨h2,h3⟩:=F5 c hj;refine .inr ⟨k-(c.aE.length+c.ak.length),aaB c hi ((xa ha hj).2 ?_),by omega⟩;rw[<-h3]
  have e:c.aE.length+c.ak.length+(k-(c.aE.length+c.ak.length))=k:=by omega
  simp only[e,he];exact hs
theorem wP{c:Ct}{x:Gr}{v p:List Nat}(hn:(aD c).Nodup)(hv:v.length=(aD c).length)(h:sk c x v p){l:List Bs}(hl:∀s∈l,∃k,∃hk:k<(aD c).length,(aD c)[k]=s/\qx c p k):∀a∈dd ((aD c).zip v) l,a<x.lits:=by
 intro a ha;obtain⟨s,hs,rfl⟩:=cI.1 ha;obtain⟨k,hk,rfl,hc⟩:=hl s hs;rw[sb _ _ k hn hk hv];exact h k (by omega) hc
theorem sk.step{c:Ct}{x y:Gr}{v p:List Nat}(h:sk c x v p)(hxy:x.lits<=y.lits){a d:Nat}(hd:d<y.lits):sk c y (v.set (c.aE.length+c.ak.length+a) d) (p++[a]):=by
 intro k hk hc;rw[List.getElem_set]
 split
 ·exact hd
 ·rename_i hne;refine kj (h k (by simpa using hk) ?_) hxy
  rcases hc with hc|⟨j,hj,rfl⟩
  ·exact .inl hc
  ·rcases bm.1 hj with hj|hj
   ·exact .inr ⟨j,hj,rfl⟩
   ·simp only[dE]at hj;subst hj;exact absurd rfl hne
theorem oG(m:List (Bs×Nat))(l:List Bs):(dd m l).length=l.length:=by simp[dd]
abbrev OY(c:Ct):AV:=.list false 1 ((c.ak.map (·.name)).map .str)
abbrev hM(c:Ct)(x:Gr)(v:List Nat):List Ob:=hA c (OY c) (cD x) ((aD c).zip v)
theorem Pk(c:Ct)(x:Gr)(v:List Nat)(os:List Ob)(hos:∀m,14+os.length<=m->cG m os=true):cu (hM c x v++os):=fun m hm=>by
 have h1:=nO m ((aD c).zip v);simp at hm;have h2:=hos m (by omega);simp[h1,h2];omega
theorem Pd(c:Ct)(x:Gr)(v:List Nat)(os:List Ob)(hos:∀i m,14+os.length<=i->cH i m os=true):dW (hM c x v++os):=fun i m hi=>by
 have h1:=o7 i m ((aD c).zip v);simp at hi;have h2:=hos i m (by omega);simp[h1,h2]
 try omega
def B2(c:Ct)(r:Gr×Option (List Nat)):Md×Int×Bs:=match r.2 with
 |none=>(kZ,8,[])
 |some v=>(qc c r.1 v,0,[])
theorem abw{c:Ct}(hc:bW c){y:Gr}(ok:y.Ok)(v:List Nat):(d_ c y v).iK:=by
 have f:=ok.iK;have b1:=hc.2.1;have b2:=hc.2.2.1;refine⟨?_,f.2.1,f.2.2.1,?_⟩
 ·simp[d_,oG];omega
 ·simp[d_,oG];omega
set_option maxRecDepth 8000 in
theorem afV(c:Ct)(hc:bW c)(y:Gr)(ok:y.Ok)(v:List Nat):
 aw Tryz.prog Γ (ybL (.ptr 0 0) (.ptr 1 0) (.ptr 9 0) (.ptr 10 0) (.ptr 11 0) (.fn (.func ox) [] [.ptr 13 0]) (.list false 1 ((c.ak.map (·.next)).map .str)) (hM c y v) sA) (.ret (uG (qc c y v,0,[]))):=by
 have b1:=hc.2.1;have b2:=hc.2.2.1;have hw:=Pk c y v [] (by simp);have hv:=Pd c y v [] (by simp);rw[fX]at hw hv;have h1:=F9 (Γ:=Γ) ((aD c).zip v) (c.ak.map (·.next)) (fl:=false) (k:=1) .self (by simp;omega) (j:=13) (q:=12) (h:=hM c y v) rfl rfl hw hv;have h2:=F9 (Γ:=Γ) ((aD c).zip v) c.bg (fl:=false) c.hO (by omega) (j:=13) (q:=12) (h:=hM c y v) rfl rfl hw hv;have hN:=Ws (Γ:=Γ) (d_ c y v) (abw hc ok v)
 have hG:eN (d_ c y v)=.agg [.int .i64 y.ins,.list false 1 ((dd ((aD c).zip v) (c.ak.map (·.next))).map iN),.list false y.ki (y.init.map i64),.list false y.ka (y.ands.map df),.list false 1 ((dd ((aD c).zip v) c.bg).map iN)]:=by
  simp[d_,eN,zf]
 rw[hG]at hN;unfold qc;generalize(d_ c y v).normal=NG at*;generalize(d_ c y v).check=CH at*;clear hG;generalize dd ((aD c).zip v) (c.ak.map (·.next))=A1 at*;generalize dd ((aD c).zip v) c.bg=A2 at*;simp only[iO]at h1;refine .go 9 ?_;simp;refine .dr 60 ?_;simp;refine eV.reach (by simp) h1 ?_;simp;refine eV.reach (by simp) h2 ?_;simp;refine .call 60 (by simp) hN ?_;simp;exact .back (by simp)
theorem Le(c:Ct){a:Nat}(ha:a<c.af.length)(r:List Nat)(x:Gr)(v:List Nat):n5 c (a::r) x v=hY (na x c.af[a] (dd ((aD c).zip v) c.af[a].ins)) fun y d=>n5 c r y (v.set (c.aE.length+c.ak.length+a) d):=by
 rw[n5,bl ha]
abbrev Hr(c:Ct)(x:Gr)(v:List Nat)(g:Gt):List Ob:=hM c x v++[.cells (AV.cells (cR g)),.row 1 aF [] none true false,.row 1 aF [] none true false]
set_option maxRecDepth 8000 in
theorem af3(hΩ:uJ Γ)(c:Ct)(hc:bW c)(okc:eU c)(hN:(aD c).Nodup):∀n i:Nat,i+n=(aP c).length->∀(x:Gr)(v:List Nat),x.Ok->v.length=(aD c).length->sk c x v ((aP c).take i)->
 aw Tryz.prog Γ (ybK (.ptr 0 0) (.ptr 1 0) (.ptr 9 0) (.ptr 10 0) (.ptr 11 0) (.ptr 13 0) (.fn (.func ox) [] [.ptr 13 0]) (.list false 1 ((c.ak.map (·.next)).map .str)) (.list false 1 ((aP c).map iN)) (.int .i64 (aP c).length) (.int .i64 i) (hM c x v) sA) (.ret (uG (B2 c (n5 c ((aP c).drop i) x v)))):=by
 have hll:=D' hc;intro n
 induction n with
 |zero=>
  intro i hi x v ok hv hvl
  have q1:¬i<(aP c).length:=by omega
  have hE:=afV (Γ:=Γ) c hc x ok v;rw[bw (by omega),n5,B2];simp only[iO]at hE⊢;refine .dh 60 ?_;simp[q1];exact .reach (.exit rfl rfl) hE
 |succ n ih=>
  intro i hi x v ok hv hvl
  have q1:i<(aP c).length:=by omega
  have ha:=oP c _ (bz q1);have q2:=bY (c.hG.of ha);have hgf:=hc.2.2.2.2.1 _ (bz ha);have hgb:=okc.af _ (bz ha);have ih:=ih (i+1) (by omega);have hlt:=wP hN hv hvl (l:=c.af[(aP c)[i]].ins) (fun s hs=>MP okc q1 hs);have hst:(aP c).take (i+1)=(aP c).take i++[(aP c)[i]]:=gC q1;rw[bQ q1,Le c ha];obtain⟨hna,hnm⟩:=F5 c ha
  have hput:=fun d=>Mm d (aD c) v _ hN hna hv
  rw[hnm]at hput
  have gl:((aP c).map iN)[i]? =some (.int .i64 (aP c)[i]):=by simp[q1]
  obtain⟨gl1,gl2⟩:=cW.1 gl
  have hEl:((aP c).map iN).length=(aP c).length:=by simp
  generalize(aP c)[i]=a at*;have hw:=Pk c x v [.cells (AV.cells (cR c.af[a])),.row 1 aF [] none true false,.row 1 aF [] none true false] (by intro m hm;simp);have hwv:=Pd c x v [.cells (AV.cells (cR c.af[a])),.row 1 aF [] none true false,.row 1 aF [] none true false] (by intro m k hm;simp);have h1:=F9 (Γ:=Γ) ((aD c).zip v) c.af[a].ins (fl:=false) c.af[a].hi (by have:=hgf.2.1;omega) (j:=13) (q:=12) (h:=Hr c x v c.af[a]) rfl rfl hw hwv;have hll2:=oG ((aD c).zip v) c.af[a].ins;have hg:=acx (Γ:=Γ) hΩ c.af[a] hgb hgf (dd ((aD c).zip v) c.af[a].ins) hll2 (ki:=1) .self x (i:=11) (h:=Hr c x v c.af[a]) rfl hw hwv ok hlt;have hfi:=KQ ok c.af[a] hlt;generalize dd ((aD c).zip v) c.af[a].ins=K at*;simp only[iO]at ih h1 hg⊢;refine .dh 60 ?_
  simp(disch:=omega) [q1,q2,gl,gl2,hEl,ha]
  cases h9:na x c.af[a] K with
  |mk y r=>
   rw[h9]at hg hfi
   cases r with
   |none=>
    simp only[cL,hY,B2]at hg⊢
    obtain⟨D,hD1,hD2⟩:∃D,(∀its t,slot t 2=.ptr 1 0->slot t 3=.ptr 9 0->slot t 4=.ptr 10 0->AM.Reach Tryz.prog Γ (.cl vA [.ptr 11 0,cR c.af[a],.list false 1 (K.map iN)] (⟨.run,lh,its,t,sA.ds,.norm,0⟩::[]) (Hr c x v c.af[a])) D)/\aw Tryz.prog Γ D (.ret (uG (kZ,8,[]))):=by
     refine⟨?_,fun its t t2 t3 t4=>.j6 90 hg ?_,?_⟩
     rotate_left
     ·simp[t2,t3,t4];exact .refl _
     ·exact .back (by simp[kZ,fv])
    refine .reach (.Pz (D:=D) ?_) hD2;simp;refine eV.reach (by simp) h1 ?_;simp;refine eV.die (.int .i64 0) (by simp) (fun its t hk=>hD1 its t (hk 2 (by simp)) (hk 3 (by simp)) (hk 4 (by simp))) ?_;have hput0:h_ (.sc .str) (.str c.af[a].name) (.int .i64 0) _=_:=hput 0;simp[hput0,isKey,bR,cz];exact .of (by simp)
   |some d=>
    have hd:=hfi.2 d rfl;have hh:=ih y (v.set (c.aE.length+c.ak.length+a) d) hfi.1.ok (by simpa using hv) (by rw[hst];exact hvl.step hfi.1.lits hd);simp only[cL,hY]at hg⊢;refine .dr 60 ?_;simp;refine eV.reach (by simp) h1 ?_;simp;refine eV.reach (by simp) hg ?_;simp(disch:=omega) [hput,isKey,bR,cz];refine .aH ?_;simp;have hbm:=nO 14 ((aD c).zip (v.set (c.aE.length+c.ak.length+a) d));refine .drop 14 rfl (by simp) (by simp) (by simp[hbm]) ?_;simp at hh⊢;exact hh
theorem Of{c:Ct}(hc:bW c)(ok:eU c):(dL c).Ok:=by
 have h0:=ok.lR;simp only[jd,jQ,jn]at h0;refine⟨⟨by simp[dL],by simp[dL];omega⟩,by simp[dL];omega,by simp[dL],by simp[dL],fun a ha=>?_,fun a ha=>?_,fun a ha=>by simp[dL]at ha,fun i hi=>by simp[dL]at hi⟩
 ·simp only[dL,cI]at ha;obtain⟨q,hq,rfl⟩:=ha;have:=ok.init q hq;simpa[mb]using this
 ·simp only[dL,Tp]at ha;obtain⟨_,rfl⟩:=ha;have:=wN (dL c);omega
theorem Nl{c:Ct}(hc:bW c):sk c (dL c) (gI (aD c).length) []:=by
 intro k hk h
 rcases h with h|⟨j,hj,_⟩
 ·have e:(gI (aD c).length)[k]=2*(k+1):=by simp[gI]
  rw[e];simp only[Gr.lits,Gr.all,Gr.first,dL,fV,pN,dt];omega
 ·cases hj
set_option maxRecDepth 8000 in
theorem FA(hΓ:eT Γ)(hΩ:uJ Γ)(c:Ct)(hb:iJ c):aL Tryz.prog Γ lh [bL c] (uG (jX c)):=by
 have hC:=Mg hΓ c hb;refine .run 60 VH (by simp) ?_;unfold jX
 by_cases h0:(me c).1=0
 ·rw[if_pos h0];simp;refine .call 60 (by simp) hC ?_;simp[h0]
  have hok:k6 c=true:=by unfold k6;simp[h0]
  obtain⟨hr,hn,_⟩:=wX hok;obtain⟨ok,_⟩:=wH hr;have hc:=rz hb hr;have b0:=hc.1;have b1:=hc.2.1;have b2:=hc.2.2.1;have hCI:=sQ (Γ:=Γ) c.aE c.hI (by omega);have hCO:=sQ (Γ:=Γ) c.bg c.hO (by omega);have hN:=F7 (Γ:=Γ) c hc;have hS:=FG hΓ c hb
  have hSo:uw c=aP c:=by simp[uw,hr]
  rw[hSo]at hS;have hnl:=NL hc
  have hnd:(aD c).Nodup:=by
   have:=Ac ok;simpa[aD,eI]using this
  have h3:=af3 (Γ:=Γ) hΩ c hc ok hnd (aP c).length 0 (by omega) (dL c) (gI (aD c).length) (Of hc ok) (wj _) (Nl hc);refine .dr 60 ?_;simp(disch:=omega);refine .dr 60 ?_;simp(disch:=omega);refine eV.call (by simp) hCI ?_;simp(disch:=omega);refine eV.call (by simp) hCO ?_;simp(disch:=omega);refine .call 60 (by simp) hN ?_;simp;refine .trees [50] ?_;simp[gE];refine .inLoop ?_;simp;refine .lB 5 (i:=1) rfl ?_;simp;refine .lB 7 (i:=1) rfl ?_;simp;refine .lB 1 (i:=12) rfl ?_;simp;refine .gc 11 [1,4,5] (by simp) (by decide) ?_;simp;refine afj c (aD c) hnd (by omega) (.list true 0 []) (.cells [.int .i64 c.aE.length,.list false 1 (List.replicate c.ak.length (.int .i64 0)),.list true 0 [],.list true 0 [],.list true 0 []]) (by simp) (by simp) ?_ (aD c).length 0 (by omega);refine .go 12 ?_;simp
  refine .p8 1 6 1 aF rfl rfl (by omega) ?_;simp;refine .p8 11 2 1 aq rfl rfl (by omega) ?_;simp;refine .lB 3 (i:=11) rfl ?_;simp;refine .lB 4 (i:=11) rfl ?_;simp;refine .go 60 ?_;simp;refine .inLoop ?_;simp;refine afo c hc ((aD c).zip (gI (aD c).length)) ?_ c.ak.length 0 (by omega);refine .go 60 ?_;simp;refine .call 60 (by simp) hS ?_;simp;refine .trees [12,102] ?_;simp[gE];refine .lB 6 (i:=1) rfl ?_;simp[gE];refine .lB 2 (i:=11) rfl ?_;simp[gE];refine .inLoop ?_;simp;have hbm:=nO 14 ((aD c).zip (gI (aD c).length));refine .drop 14 rfl (by simp) (by simp) (by simp[hbm]) ?_;unfold n4;rw[ir]at h3;generalize n5 c (aP c) (dL c) (gI (aD c).length)=R at h3⊢;simp[dL,zf,B2,OY,hM,hA,cD]at h3⊢;exact h3
 ·rw[if_neg h0];simp;refine .call 60 (by simp) hC ?_;simp[h0];exact .back (by simp[kZ,fv])
theorem Kz(a b:List Bs){ka kb:Nat}(ha:Kd 1 ka a)(hb:Kd 1 kb b)(hl:a.length+b.length<2^40):aL Tryz.prog Γ mT [.list false 1 [.list false ka (a.map .str),.list false kb (b.map .str)]] (.own 1 aF ((a++b).map .str)):=by
 by_cases h:a++b=[]
 ·rw[Jd]at h;have:=Jj (Γ:=Γ) [(ka,a),(kb,b)] (by simp[h]) (by simp);simpa[h,nb]using this
 ·have h2:0<(a++b).length:=pM.2 h;have:=Jm (Γ:=Γ) [(ka,a),(kb,b)] (by simp[ha,hb]) (by simp) (by simp[cp];omega) (by simpa[cp]using h2);simpa[cp,nb]using this
theorem ad1(l:List Bs):ij Tryz.prog Γ (fun _=>True) zH [] AV.str (fun s=>!ja s) l:=by
 refine⟨by simp,fun s hs up h _=>?_⟩;refine .br 60 VM ?_;simp;refine .jB 60 (by simp) (O9 s) ?_;simp
theorem FY(l:List Bs){k:Nat}(hk:Kd 1 k l)(hl:l.length<2^40):aL Tryz.prog Γ tq [.list false k (l.map .str)] (.bool (bt (fun s=>!ja s) l)):=by
 refine .run 60 XI (by simp) ?_;simp;refine .aX 60 (vE (Γ:=Γ) (fl:=false) (ad1 l) hk (by omega) (h:=[]) trivial) ?_;simp;exact .back (by simp)
def uT(l:List Bs):Bool:=(iX l).isSome
theorem afa(l:List Bs){k:Nat}(hk:Kd 1 k l)(hl:l.length<2^40):∀n i:Nat,i+n=l.length->∀seen:List Bs,
 aw Tryz.prog Γ (yjj (.mp 0) (.list false k (l.map .str)) (.int .i64 l.length) (.int .i64 i) [.map (seen.map jw) true]) (.ret (.bool (m6 seen (l.drop i)).isSome)):=by
 intro n
 induction n with
 |zero=>
  intro i hi seen
  have q1:¬i<l.length:=by omega
  rw[bw (by omega),m6];refine .go 60 ?_;simp[q1];exact .back (by simp)
 |succ n ih=>
  intro i hi seen
  have q1:i<l.length:=by omega
  have q2:=bY (hk.of q1);have hf:=vY l[i] seen;rw[bQ q1,m6];refine .go 60 ?_
  by_cases hm:l[i]∈seen
  ·simp[hm]at hf;simp[q1,q2,hf,hm,isKey,bR,cz];exact .back (by simp)
  ·have hh:=ih (i+1) (by omega) (seen++[l[i]]);have hput:=Ae (v:=.bool true) hm;simp[hm]at hf;simp(disch:=omega) [q1,q2,hf,hm,hput,isKey,bR,cz];refine .aH ?_;simp at hh⊢;exact hh
theorem MX(l:List Bs){k:Nat}(hk:Kd 1 k l)(hl:l.length<2^40):aL Tryz.prog Γ ta [.list false k (l.map .str)] (.bool (uT l)):=by
 refine .run 60 VN (by simp) ?_;simp;refine .inLoop ?_;have hh:=afa (Γ:=Γ) l hk hl l.length 0 (by omega) [];simp[uT,iX]at hh⊢;exact hh
def nP(m:Md)(s:Bs):Int:=if jf s (m.aE++m.ak) 0<0 then-1 else jf s (m.aE++m.ak) 0+1
theorem FE(s:Bs):∀(l:List Bs)(i:Nat),jf s l i<(i+l.length:Nat)
 |[],i=>by simp[jf];omega
 |a::l,i=>by
  rw[jf];have:=FE s l (i+1)
  split
  ·simp;omega
  ·simp at this⊢;omega
theorem FV(s:Bs):∀(l:List Bs)(i:Nat),-1<=jf s l i
 |[],i=>by simp[jf]
 |a::l,i=>by
  rw[jf];have:=FV s l (i+1)
  split<;>omega
theorem Fj(m:Md)(s:Bs)(hI:m.aE.length<2^30)(hL:m.ak.length<2^30):aL Tryz.prog Γ tc [qK m,.str s] (.int .i64 (nP m s)):=by
 have h1:=Kz (Γ:=Γ) m.aE m.ak m.hI m.hL (by omega);have h2:=No (Γ:=Γ) (m.aE++m.ak) s (k:=1) .self (by simp;omega);have h3:=FE s (m.aE++m.ak) 0;have h4:=FV s (m.aE++m.ak) 0;simp only[bN]at h3;unfold nP;generalize jf s (m.aE++m.ak) 0=n at*;refine .run 60 VG (by simp) ?_;simp;refine .call 60 (by simp) h1 ?_;simp;have htk:(m.aE.map AV.str++m.ak.map AV.str).take (m.aE.length+m.ak.length)=m.aE.map AV.str++m.ak.map AV.str:=cd (by simp);refine .call 60 (by simp[htk]) h2 ?_
 by_cases h:n<0
 ·simp[h];exact .back (by simp)
 ·simp(disch:=omega) [h];exact .back (by simp)
def BN(a b:Md):Bool:=w_ a.g b.g&&(decide (a.aE=b.aE)&&(decide (a.ak=b.ak)&&decide (a.bg=b.bg)))
def xL(m:Md):Prop:=m.g.iK/\m.aE.length<2^30/\m.ak.length<2^30/\m.bg.length<2^30
theorem NT(a b:Md)(ha:xL a):aL Tryz.prog Γ vM [qK a,qK b] (.bool (BN a b)):=by
 obtain⟨f,f1,f2,f3⟩:=ha;have h0:=KT (Γ:=Γ) a.g b.g f;have h1:=Di (Γ:=Γ) a.aE b.aE a.hI b.hI (by omega);have h2:=Di (Γ:=Γ) a.ak b.ak a.hL b.hL (by omega);have h3:=Di (Γ:=Γ) a.bg b.bg a.hO b.hO (by omega);unfold BN;generalize w_ a.g b.g=s0 at*;refine .run 60 Wv (by simp) ?_;simp;refine .call 60 (by simp) h0 ?_
 cases s0
 ·simp;exact .back (by simp)
 ·simp;refine .call 60 (by simp) h1 ?_
  by_cases c1:a.aE=b.aE
  ·simp[c1];refine .call 60 (by simp) h2 ?_
   by_cases c2:a.ak=b.ak
   ·simp[c2];refine .call 60 (by simp) h3 ?_;simp;exact .back (by simp)
   ·simp[c2];exact .back (by simp)
  ·simp[c1];exact .back (by simp)
def xC(m:Md):List Bs->List Int->Bool
 |s::l,a::r=>(decide (0<=nP m s)&&!decide (a=2*nP m s))||xC m l r
 |_,_=>false
def pw(m:Md):Bool:=!decide ((m.aE.length:Int)=m.g.ins)||(!decide (m.ak.length=m.g.next.length)||!decide (m.bg.length=m.g.outs.length))
def PI(m:Md):Bool:=bt (fun s=>!ja s) m.aE||(bt (fun s=>!ja s) m.ak||bt (fun s=>!ja s) m.bg)
def BA(m:Md):Int:=if m.g.check≠0 then m.g.check else if pw m=true then 1 else if PI m=true then 4 else if(uT (m.aE++m.ak)||uT m.bg)=true then 5 else if xC m m.bg m.g.outs=true then 5 else 0
theorem W9(m:Md)(s:Bs):-1<=nP m s/\nP m s<=m.aE.length+m.ak.length:=by
 have h3:=FE s (m.aE++m.ak) 0;have h4:=FV s (m.aE++m.ak) 0;simp only[bN]at h3;unfold nP
 split<;>omega
set_option maxRecDepth 8000 in
theorem afH(m:Md)(hI:m.aE.length<2^30)(hL:m.ak.length<2^30)(hO:m.bg.length=m.g.outs.length)(hl:m.g.outs.length<2^30):∀n i:Nat,i+n=m.bg.length->
 aw Tryz.prog Γ (ydg (.ptr 0 0) (.list false m.kO (m.bg.map .str)) (.int .i64 m.bg.length) (.int .i64 i) [.cells (AV.cells (qK m))]) (.ret (.int .i64 (if xC m (m.bg.drop i) (m.g.outs.drop i)=true then 5 else 0))):=by
 intro n
 induction n with
 |zero=>
  intro i hi
  have q1:¬i<m.bg.length:=by omega
  rw[bw (by omega),xC]
  ·refine .go 60 ?_;simp[q1];exact .back (by simp)
  ·intro s l a r h;cases h
 |succ n ih=>
  intro i hi
  have q1:i<m.bg.length:=by omega
  have q3:i<m.g.outs.length:=by omega
  have q2:=bY (m.hO.of q1);have q4:=bY (m.g.ho.of q3);have hh:=ih (i+1) (by omega);have hP:=Fj (Γ:=Γ) m m.bg[i] hI hL;obtain⟨hp1,hp2⟩:=W9 m m.bg[i];rw[bQ q1,bQ q3,xC];generalize nP m m.bg[i]=p at*;refine .go 60 ?_;simp[q1,q2];refine .call 60 (by simp) hP ?_
  by_cases c1:0<=p
  ·by_cases c2:m.g.outs[i]=2*p
   ·simp(disch:=omega) [c1,c2,q3,q4];refine .aH ?_;simp[c1,c2]at hh⊢;refine .drop 1 rfl (by simp) (by simp) (by simp) ?_;exact hh
   ·simp(disch:=omega) [c1,c2,q3,q4];exact .back (by simp)
  ·simp(disch:=omega) [c1];refine .aH ?_;simp[c1]at hh⊢;refine .drop 1 rfl (by simp) (by simp) (by simp) ?_;exact hh
set_option maxRecDepth 8000 in
theorem MO(m:Md)(hb:xL m):aL Tryz.prog Γ s_ [qK m] (.int .i64 (BA m)):=by
 obtain⟨f,f1,f2,f3⟩:=hb;obtain⟨g1,g2,g3,g4⟩:=f;have h0:=rk (Γ:=Γ) m.g ⟨g1,g2,g3,g4⟩;have o1:=FY (Γ:=Γ) m.aE m.hI (by omega);have o2:=FY (Γ:=Γ) m.ak m.hL (by omega);have o3:=FY (Γ:=Γ) m.bg m.hO (by omega);have cc:=Kz (Γ:=Γ) m.aE m.ak m.hI m.hL (by omega);have t1:=MX (Γ:=Γ) (m.aE++m.ak) (k:=1) .self (by simp;omega);have t2:=MX (Γ:=Γ) m.bg m.hO (by omega);unfold BA;refine .run 60 V7 (by simp) ?_;simp;refine .call 60 (by simp) h0 ?_
 by_cases c0:m.g.check=0
 ·by_cases l1:(m.aE.length:Int)=m.g.ins
  ·by_cases l2:m.ak.length=m.g.next.length
   ·by_cases l3:m.bg.length=m.g.outs.length
    ·have hf:=afH (Γ:=Γ) m f1 f2 l3 (by omega) m.bg.length 0 (by omega)
     have hlm:pw m=false:=by simp[pw,l1,l2,l3]
     simp[c0,l1,l2,l3,hlm];refine .call 60 (by simp) o1 ?_;unfold PI
     cases bt (fun s=>!ja s) m.aE
     ·simp;refine .call 60 (by simp) o2 ?_
      cases bt (fun s=>!ja s) m.ak
      ·simp;refine .call 60 (by simp) o3 ?_
       cases bt (fun s=>!ja s) m.bg
       ·simp;refine .call 60 (by simp) cc ?_;have htk:(m.aE.map AV.str++m.ak.map AV.str).take (m.aE.length+m.ak.length)=m.aE.map AV.str++m.ak.map AV.str:=cd (by simp);simp;refine .call 60 (by simp[htk]) t1 ?_
        cases uT (m.aE++m.ak)
        ·simp;refine .call 60 (by simp) t2 ?_
         cases uT m.bg
         ·simp;refine .inLoop ?_;simp at hf⊢;refine .drop 1 rfl (by simp) (by simp) (by simp) ?_;exact hf
         ·simp;exact .back (by simp)
        ·simp;exact .back (by simp)
       ·simp;exact .back (by simp)
      ·simp;exact .back (by simp)
     ·simp;exact .back (by simp)
    ·have hlm:pw m=true:=by simp[pw,l3]
     simp[c0,l1,l2,l3,hlm];exact .back (by simp)
   ·have hlm:pw m=true:=by simp[pw,l2]
    simp[c0,l1,l2,hlm];exact .back (by simp)
  ·have hlm:pw m=true:=by simp[pw,l1]
   simp[c0,l1,hlm];exact .back (by simp)
 ·simp[c0];exact .back (by simp)
end Go.Proofs.YtihmomicdpkabaaGreatDoor
namespace Go.Proofs.YtihmomicdpkabaaGreatDoor
open Go.AM Go.Proofs
theorem aaG{first:Nat}{l:List (Int×Int)}{p q:Nat}(h1:2<=q)(h2:q<p)(h3:p/2≠q/2)(h4:(((p:Nat):Int),((q:Nat):Int))∉l):
 bM first l p q=(l++[((p:Int),(q:Int))],2*(first+l.length)):=by
 unfold bM;rw[Nat.max_eq_left (by omega),Nat.min_eq_right (by omega)]
 have hk:kT p q=none:=by
  unfold kT;have hx:=oN p;rw[if_neg,if_neg]
  ·omega
  ·rw[not_or];refine⟨by omega,?_⟩
   rw[hx];split<;>omega
 rw[hk,EA.2 h4]
theorem KM{α:Type}{l:List α}(h:l.Nodup){i:Nat}(hi:i<l.length):l[i]∉l.take i:=by
 intro hm
 have h2:(l.take i++l.drop i).Nodup:=by rw[lU];exact h
 exact(sN.1 h2).2.2 _ hm _ (by rw[bQ hi];exact pQ) rfl
theorem nJ(v:List Bool)(k n:Nat):(v.set k true).getD n false=true↔v.getD n false=true\/(n=k/\k<v.length):=by
 rw[bp,bp,ny]
 by_cases h:k=n
 ·subst h
  by_cases h2:k<v.length
  ·simp[h2]
  ·simp[h2]
 ·have h3:¬n=k:=fun e=>h e.symm
  simp[h,h3]
theorem EL:∀(l:List Int)(v:List Bool)(n:Nat),(g_ l v).getD n false=true↔v.getD n false=true\/(n<v.length/\∃a∈l,a.toNat/2=n)
 |[],v,n=>by simp[g_]
 |a::l,v,n=>by
  rw[g_,EL l,nJ,jk];constructor
  ·rintro((h|⟨rfl,h⟩)|⟨h,b,hb,e⟩)
   ·exact .inl h
   ·exact .inr ⟨h,a,by simp,rfl⟩
   ·exact .inr ⟨h,b,by simp[hb],e⟩
  ·rintro(h|⟨h,b,hb,e⟩)
   ·exact .inl (.inl h)
   ·rcases bu.1 hb with rfl|hb
    ·exact .inl (.inr ⟨e.symm,by omega⟩)
    ·exact .inr ⟨h,b,hb,e⟩
theorem NP{ands:List (Int×Int)}{first:Nat}(P:Nat->Prop):∀(i:Nat)(v:List Bool),(∀n,v.getD n false=true->P n)->
 (∀j,j<i->P (first+j)->P ((ands.getD j (0,0)).1.toNat/2)/\P ((ands.getD j (0,0)).2.toNat/2))->∀n,(iD ands first i v).getD n false=true->P n
 |0,v,hv,_=>hv
 |i+1,v,hv,hs=>by
  rw[iD];refine NP P i _ (fun n hn=>?_) (fun j hj=>hs j (by omega))
  split at hn
  ·rename_i h;have:=hs i (by omega) (hv _ h);rw[nJ,nJ]at hn
   rcases hn with(hn|⟨rfl,_⟩)|⟨rfl,_⟩
   ·exact hv n hn
   ·exact this.1
   ·exact this.2
  ·exact hv n hn
theorem Aa{ands:List (Int×Int)}{first:Nat}:∀(i:Nat)(v:List Bool)(n:Nat),v.getD n false=true->(iD ands first i v).getD n false=true
 |0,v,n,h=>h
 |i+1,v,n,h=>by
  rw[iD];refine Aa i _ n ?_
  split
  ·rw[nJ,nJ];exact .inl (.inl h)
  ·exact h
theorem KB{ands:List (Int×Int)}{first:Nat}:∀(i:Nat)(v:List Bool)(n:Nat),first+i<=n+1->(∀j,j<i->(ands.getD j (0,0)).1.toNat/2<first+j/\(ands.getD j (0,0)).2.toNat/2<first+j)->
 ((iD ands first i v).getD n false=true↔v.getD n false=true)
 |0,v,n,_,_=>mS
 |i+1,v,n,h,hw=>by
  have h0:=hw i (by omega);rw[iD,KB i _ n (by omega) (fun j hj=>hw j (by omega))]
  split
  ·rw[nJ,nJ];constructor
   ·rintro((h2|⟨e,_⟩)|⟨e,_⟩)
    ·exact h2
    ·omega
    ·omega
   ·exact fun h2=>.inl (.inl h2)
  ·exact mS
theorem JY{ands:List (Int×Int)}{first:Nat}:∀(i:Nat)(v:List Bool),(∀j,j<i->(ands.getD j (0,0)).1.toNat/2<first+j/\(ands.getD j (0,0)).2.toNat/2<first+j)->first+i<=v.length->
 ∀j,j<i->(iD ands first i v).getD (first+j) false=true->(iD ands first i v).getD ((ands.getD j (0,0)).1.toNat/2) false=true/\(iD ands first i v).getD ((ands.getD j (0,0)).2.toNat/2) false=true
 |0,v,_,_=>fun j hj=>by omega
 |i+1,v,hw,hl=>by
  intro j hj;have h0:=hw i (by omega);rw[iD]
  by_cases hji:j<i
  ·exact JY i _ (fun j hj=>hw j (by omega)) (by split<;>(try simp only[jk])<;>omega) j hji
  ·have e:j=i:=by omega
   subst e;rw[KB j _ (first+j) (by omega) (fun j hj=>hw j (by omega))];intro h
   split at h
   ·rename_i h2;rw[if_pos h2];refine⟨Aa _ _ _ ?_,Aa _ _ _ ?_⟩
    ·rw[nJ,nJ];exact .inl (.inr ⟨rfl,by omega⟩)
    ·rw[nJ];exact .inr ⟨rfl,by rw[jk];omega⟩
   ·rename_i h2;exact absurd h h2
theorem Bg{l:List (Int×Int)}{i:Nat}(h:i<l.length):l.getD i (0,0)=l[i]:=by
 rw[bp,bl h];rfl
theorem Gr.Ok.half{g:Gr}(ok:g.Ok):∀j,j<g.ands.length->(g.ands.getD j (0,0)).1.toNat/2<g.first+j/\(g.ands.getD j (0,0)).2.toNat/2<g.first+j:=by
 intro j hj;have:=ok.ands j hj;rw[Bg hj];omega
theorem Fe{g:Gr}(ok:g.Ok){a:Int}(h:a∈g.next++g.outs):g.bj.getD (a.toNat/2) false=true:=by
 unfold Gr.bj;refine Aa _ _ _ ((EL _ _ _).2 (.inr ⟨?_,a,h,rfl⟩));have hl:g.lits=2*g.all:=rfl;rw[pN]
 rcases bm.1 h with h|h
 ·have:=ok.next a h;omega
 ·have:=ok.outs a h;omega
theorem Ad{g:Gr}(ok:g.Ok){i:Nat}(hi:i<g.ands.length)(h:g.bj.getD (g.first+i) false=true):g.bj.getD (g.ands[i].1.toNat/2) false=true/\g.bj.getD (g.ands[i].2.toNat/2) false=true:=by
 have:=JY (ands:=g.ands) (first:=g.first) g.ands.length (g_ (g.next++g.outs) (List.replicate g.all false)) ok.half (by rw[wv,pN];exact aR _) i hi h;rw[Bg hi]at this;exact this
theorem aci{g:Gr}(P:Nat->Prop)(h1:∀a∈g.next++g.outs,P (a.toNat/2))(h2:∀i(hi:i<g.ands.length),P (g.first+i)->P (g.ands[i].1.toNat/2)/\P (g.ands[i].2.toNat/2)):
 ∀n,g.bj.getD n false=true->P n:=by
 refine NP P _ _ (fun n hn=>?_) (fun j hj=>?_)
 ·rcases(EL _ _ _).1 hn with h|⟨_,a,ha,rfl⟩
  ·rw[bp,Ja]at h
   split at h<;>simp at h
  ·exact h1 a ha
 ·rw[Bg hj];exact h2 j hj
theorem Bo{to:List Nat}{a:Nat}(h:to.getD (a/2) 0%2=0):bC to a=to.getD (a/2) 0+a%2:=by
 unfold bC
 rcases(show a%2=0\/a%2=1 by omega)with h2|h2
 ·rw[h2,Dc];rfl
 ·rw[h2,oN,if_pos h]
theorem Mf(to:List Nat)(a:Nat):bC to a/2=to.getD (a/2) 0/2:=by
 unfold bC
 rcases(show a%2=0\/a%2=1 by omega)with h2|h2
 ·rw[h2,Dc]
 ·rw[h2,oN];split<;>omega
theorem lZ{to:List Nat}{c n:Nat}(h:n<to.length):(to++[c]).getD n 0=to.getD n 0:=by
 rw[bp,bp,cV h]
theorem AD{to:List Nat}{c n:Nat}(h:n=to.length):(to++[c]).getD n 0=c:=by
 subst h
 rw[bp];simp
theorem tU{to:List Nat}{c a:Nat}(h:a/2<to.length):bC (to++[c]) a=bC to a:=by
 unfold bC;rw[lZ h]
section
variable(first:Nat)(bj:List Bool)(ands:List (Int×Int))
def Live(n:Nat):Prop:=n<first\/bj.getD n false=true
abbrev kV(to:List Nat)(p:Int×Int):Int×Int:=((bC to p.1.toNat:Nat),(bC to p.2.toNat:Nat))
structure iH(i:Nat)(l:List (Int×Int))(to:List Nat):Prop where
 len:to.length=first+i
 low:∀n,n<first->to.getD n 0=2*n
 at_:∀k(hk:k<ands.length),k<i->bj.getD (first+k) false=true->∃j,j<l.length/\to.getD (first+k) 0=2*(first+j)/\l[j]? =some (kV to ands[k])
 BO:∀j,j<l.length->∃k,k<i/\bj.getD (first+k) false=true/\to.getD (first+k) 0=2*(first+j)
 mono:∀m n,m<n->n<first+i->Live first bj m->Live first bj n->to.getD m 0<to.getD n 0
variable{first bj ands}
theorem iH.ev{i:Nat}{l:List (Int×Int)}{to:List Nat}(h:iH first bj ands i l to)(hi:i<=ands.length){n:Nat}(hn:n<first+i)(hl:Live first bj n):to.getD n 0%2=0/\to.getD n 0<2*(first+l.length):=by
 by_cases h1:n<first
 ·rw[h.low n h1];omega
 ·rcases hl with h2|h2
  ·omega
  ·obtain⟨j,hj,e,_⟩:=h.at_ (n-first) (by omega) (by omega) (by rw[show first+(n-first)=n by omega];exact h2);rw[show first+(n-first)=n by omega]at e;omega
theorem iH.inj{i:Nat}{l:List (Int×Int)}{to:List Nat}(h:iH first bj ands i l to)(hi:i<=ands.length){a b:Nat}(ha:a/2<first+i)(hb:b/2<first+i)(la:Live first bj (a/2))(lb:Live first bj (b/2))(e:bC to a=bC to b):a=b:=by
 have e1:=h.ev hi ha la;have e2:=h.ev hi hb lb;rw[Bo e1.1,Bo e2.1]at e
 rcases I2 (a/2) (b/2)with h1|h1|h1
 ·have:=h.mono _ _ h1 hb la lb;omega
 ·omega
 ·have:=h.mono _ _ h1 ha lb la;omega
structure xt(first:Nat)(bj:List Bool)(ands:List (Int×Int)):Prop where
 h1:1<=first
 s:iB first ands
 c:∀i(hi:i<ands.length),bj.getD (first+i) false=true->bj.getD (ands[i].1.toNat/2) false=true/\bj.getD (ands[i].2.toNat/2) false=true
theorem iH.new{i:Nat}{l:List (Int×Int)}{to:List Nat}(L:xt first bj ands)(h:iH first bj ands i l to)(hi:i<ands.length)(hl:bj.getD (first+i) false=true):
 bM first l (bC to ands[i].1.toNat) (bC to ands[i].2.toNat)=(l++[kV to ands[i]],2*(first+l.length))/\ands[i].1.toNat/2<first+i/\ands[i].2.toNat/2<first+i:=by
 obtain⟨p,q,e,s1,s2,s3,s4⟩:=L.s.at_ i hi;obtain⟨c1,c2⟩:=L.c i hi hl
 have hp:ands[i].1.toNat=p:=by rw[e];rfl
 have hq:ands[i].2.toNat=q:=by rw[e];rfl
 unfold kV
 rw[hp]at c1;rw[hq]at c2;rw[hp,hq]
 have e1:=h.ev (by omega) (n:=p/2) (by omega) (.inr c1);have e2:=h.ev (by omega) (n:=q/2) (by omega) (.inr c2);have m1:=h.mono (q/2) (p/2) (by omega) (by omega) (.inr c2) (.inr c1);have m0:=h.mono 0 (q/2) (by omega) (by omega) (.inl (by have:=L.h1;omega)) (.inr c2);have b1:=Bo e1.1;have b2:=Bo e2.1;refine⟨aaG (by omega) (by omega) (by omega) ?_,by omega,by omega⟩;intro hm;obtain⟨j,hj,ej⟩:=List.mem_iff_getElem.1 hm;obtain⟨k,hk,lk,tk⟩:=h.BO j hj;obtain⟨j2,hj2,tj2,ej2⟩:=h.at_ k (by omega) hk lk
 have hjj:j2=j:=by omega
 subst hjj;rw[bl hj2,ej]at ej2;simp only[kV,aj,bP]at ej2;obtain⟨p2,q2,e',t1,t2,t3,t4⟩:=L.s.at_ k (by omega);obtain⟨d1,d2⟩:=L.c k (by omega) lk;rw[e']at ej2 d1 d2;simp only[fV]at ej2 d1 d2;have x1:=h.inj (by omega) (a:=p) (b:=p2) (by omega) (by omega) (.inr c1) (.inr d1) (by omega);have x2:=h.inj (by omega) (a:=q) (b:=q2) (by omega) (by omega) (.inr c2) (.inr d2) (by omega);subst x1 x2;exact KM L.s.nd hi (List.mem_iff_getElem.2 ⟨k,by rw[fW];omega,by rw[pI,e',e]⟩)
theorem iH.push{i:Nat}{l:List (Int×Int)}{to:List Nat}(L:xt first bj ands)(h:iH first bj ands i l to)(hi:i<ands.length)(hl:bj.getD (first+i) false=true):
 iH first bj ands (i+1) (l++[kV to ands[i]]) (to++[2*(first+l.length)]):=by
 obtain⟨_,n1,n2⟩:=h.new L hi hl;have hlen:=h.len;refine⟨by simp;omega,fun n hn=>by rw[lZ (by omega)];exact h.low n hn,fun k hk hki lk=>?_,fun j hj=>?_,fun m n hmn hn lm ln=>?_⟩
 ·by_cases hk2:k<i
  ·obtain⟨j,hj,e1,e2⟩:=h.at_ k hk hk2 lk;obtain⟨p2,q2,e',t1,t2,t3,t4⟩:=L.s.at_ k hk;refine⟨j,by simp;omega,by rw[lZ (by omega)];exact e1,?_⟩;rw[cV hj,e2];unfold kV;rw[e'];simp only[fV];rw[tU (by omega),tU (by omega)]
  ·have e:k=i:=by omega
   subst e;refine⟨l.length,by simp,AD (by omega),?_⟩;unfold kV;rw[tU (by omega),tU (by omega)];simp
 ·by_cases hj2:j<l.length
  ·obtain⟨k,hk,lk,e⟩:=h.BO j hj2;exact⟨k,by omega,lk,by rw[lZ (by omega)];exact e⟩
  ·have e:j=l.length:=by simp at hj;omega
   subst e;exact⟨i,by omega,hl,AD (by omega)⟩
 ·rw[lZ (n:=m) (by omega)]
  by_cases hn2:n<first+i
  ·rw[lZ (by omega)];exact h.mono m n hmn hn2 lm ln
  ·rw[AD (by omega)];exact(h.ev (by omega) (by omega) lm).2
theorem iH.skip{i:Nat}{l:List (Int×Int)}{to:List Nat}(L:xt first bj ands)(h:iH first bj ands i l to)(hi:i<ands.length)(hl:¬bj.getD (first+i) false=true)(c:Nat):iH first bj ands (i+1) l (to++[c]):=by
 have hlen:=h.len;refine⟨by simp;omega,fun n hn=>by rw[lZ (by omega)];exact h.low n hn,fun k hk hki lk=>?_,fun j hj=>?_,fun m n hmn hn lm ln=>?_⟩
 ·have hk2:k<i:=by
   rcases k9 k i with h3|h3
   ·exact h3
   ·have e:k=i:=by omega
    subst e;exact absurd lk hl
  obtain⟨j,hj,e1,e2⟩:=h.at_ k hk hk2 lk;obtain⟨p2,q2,e',t1,t2,t3,t4⟩:=L.s.at_ k hk;refine⟨j,hj,by rw[lZ (by omega)];exact e1,?_⟩;rw[e2];unfold kV;rw[e'];simp only[fV];rw[tU (by omega),tU (by omega)]
 ·obtain⟨k,hk,lk,e⟩:=h.BO j hj;exact⟨k,by omega,lk,by rw[lZ (by omega)];exact e⟩
 ·have hn2:n<first+i:=by
   rcases k9 n (first+i)with h3|h3
   ·exact h3
   ·have e:n=first+i:=by omega
    subst e
    rcases ln with h4|h4
    ·omega
    ·exact absurd h4 hl
  rw[lZ (n:=m) (by omega),lZ (by omega)];exact h.mono m n hmn hn2 lm ln
theorem iH.zero:iH first bj ands 0 [] (ids first):=by
 have hg:∀n,n<first->(ids first).getD n 0=2*n:=fun n hn=>by
  rw[bp,bl (by simpa using hn)];simp[ids]
 refine⟨by simp,hg,fun k hk h=>by omega,fun j hj=>by simp at hj,fun m n hmn hn _ _=>?_⟩
 rw[hg m (by omega),hg n (by omega)];omega
theorem EC(L:xt first bj ands):∀n i l to,i+n=ands.length->iH first bj ands i l to->iH first bj ands ands.length (ee first bj (ands.drop i) i l to).1 (ee first bj (ands.drop i) i l to).2
 |0,i,l,to,hi,h=>by
  have:i=ands.length:=by omega
  subst this
  rw[List.drop_length,ee];exact h
 |n+1,i,l,to,hi,h=>by
  have h1:i<ands.length:=by omega
  rw[bQ h1,ee]
  split
  ·rename_i hl;rw[(h.new L h1 hl).1];exact EC L n (i+1) _ _ (by omega) (h.push L h1 hl)
  ·rename_i hl;exact EC L n (i+1) _ _ (by omega) (h.skip L h1 hl 0)
end
theorem Gr.afm{x:Gr}(ok:x.Ok)(s:iB x.first x.ands):xt x.first x.bj x.ands:=⟨by unfold Gr.first;omega,s,fun i hi h=>Ad ok hi h⟩
theorem Gr.PB{x:Gr}(ok:x.Ok)(s:iB x.first x.ands):iH x.first x.bj x.ands x.ands.length (ee x.first x.bj x.ands 0 [] (ids x.first)).1 (ee x.first x.bj x.ands 0 [] (ids x.first)).2:=by
 have:=EC (Gr.afm ok s) x.ands.length 0 [] (ids x.first) (by omega) iH.zero;rw[ir]at this;exact this
theorem wz(g:Gr)(r:List (Int×Int)×List Nat):(g.dC r).first=g.first:=by simp[Gr.first,Gr.dC]
theorem adf{g:Gr}{r:List (Int×Int)×List Nat}{a:Int}(h:a∈g.next++g.outs):((bC r.2 a.toNat:Nat):Int)∈(g.dC r).next++(g.dC r).outs:=by
 simp only[Gr.dC,bm,cI,eA]at h⊢
 rcases h with h|h
 ·exact .inl ⟨_,⟨a,h,rfl⟩,rfl⟩
 ·exact .inr ⟨_,⟨a,h,rfl⟩,rfl⟩
theorem aav{x:Gr}(ok:x.Ok)(s:iB x.first x.ands):∀j,j<x.dN.ands.length->x.dN.bj.getD (x.first+j) false=true:=by
 have I:=Gr.PB ok s;have qH:=(A0 ok).1
 have key:∀n,x.bj.getD n false=true->x.bj.getD n false=true/\x.dN.bj.getD ((ee x.first x.bj x.ands 0 [] (ids x.first)).2.getD n 0/2) false=true:=by
  refine aci _ (fun a ha=>⟨Fe ok ha,?_⟩) (fun i hi h=>?_)
  ·have:=Fe qH (adf (r:=ee x.first x.bj x.ands 0 [] (ids x.first)) ha);rw[fV,Mf]at this;exact this
  ·obtain⟨h1,h2⟩:=h;obtain⟨j,hj,e1,e2⟩:=I.at_ i hi hi h1;have hc:=Ad ok hi h1;have hj2:j<x.dN.ands.length:=hj
   have e3:x.dN.ands[j]=kV (ee x.first x.bj x.ands 0 [] (ids x.first)).2 x.ands[i]:=by
    have:x.dN.ands[j]? =some (kV (ee x.first x.bj x.ands 0 [] (ids x.first)).2 x.ands[i]):=e2;rw[bl hj2]at this;exact Option.some.inj this
   rw[e1,show 2*(x.first+j)/2=x.first+j by omega]at h2;have h4:=Ad qH hj2 (by rw[show x.dN.first=x.first from wz _ _];exact h2);rw[e3]at h4;simp only[kV,fV,Mf]at h4;exact⟨⟨hc.1,h4.1⟩,hc.2,h4.2⟩
 intro j hj;obtain⟨k,hk,lk,e⟩:=I.BO j hj;have:=(key _ lk).2;rw[e,show 2*(x.first+j)/2=x.first+j by omega]at this;exact this
theorem Zr{g:Gr}(ok:g.Ok)(s:iB g.first g.ands)(h:∀i,i<g.ands.length->g.bj.getD (g.first+i) false=true):g.strict=true:=by
 simp only[Gr.strict,av,bf,jq];refine⟨Gr.tS ok,m5.2 fun i hi=>?_⟩;have hi:=er.1 hi;obtain⟨p,q,e,s1,s2,s3,s4⟩:=s.at_ i hi;have hn:=KM s.nd hi;have hh:=h i hi;unfold Gr.PE;rw[Bg hi,hh];rw[e]at hn⊢;simp[hn];omega
theorem VP{g:Gr}(h:g.check=0):g.normal.strict=true/\g.normal.check=0/\g.normal.ands.length<=g.ands.length:=by
 have ok:=Gr.qn h;obtain⟨o1,s1,l1⟩:=A5 ok
 have hf:g.gy.first=g.first:=wz _ _
 obtain⟨o2,s2,l2⟩:=A0 o1
 have e:g.normal=g.gy.dN:=by unfold Gr.normal;rw[if_pos h]
 rw[e]
 have hf2:g.gy.dN.first=g.gy.first:=wz _ _
 refine⟨Zr o2 (by rw[hf2];exact s2) ?_,Gr.tS o2,by omega⟩;rw[hf2];exact aav o1 (by rw[hf];exact s1)
theorem uk(w:List Bool)(to:List Nat)(a:Nat):bF w (bC to a)=(bF w (to.getD (a/2) 0) !=decide (a%2=1)):=by
 unfold bC
 rcases(show a%2=0\/a%2=1 by omega)with h2|h2
 ·rw[h2,Dc];simp
 ·rw[h2,AH];simp
theorem Ap(v:List Bool)(n:Nat):bF v (2*n)=v.getD n false:=by
 unfold bF
 rw[show 2*n/2=n by omega,show 2*n%2=0 by omega];simp
theorem YI{v:List Bool}{c:Bool}{n:Nat}(h:n<v.length):(v++[c]).getD n false=v.getD n false:=by
 rw[bp,bp,cV h]
theorem Z5{v:List Bool}{c:Bool}{n:Nat}(h:n=v.length):(v++[c]).getD n false=c:=by
 subst h
 rw[bp];simp
theorem Lp{first:Nat}{v0:List Bool}(hv:v0.length=first)(hz:bF v0 0=false)(h1:1<=first):∀(ps l:List (Int×Int))(to:List Nat)(V:List Bool),n_ first l->mC first l to->V.length=to.length->
 (∀n,n<to.length->bF (bK l v0) (to.getD n 0)=V.getD n false)->(∀i(h:i<ps.length),ps[i].1.toNat/2<to.length+i/\ps[i].2.toNat/2<to.length+i)->
 ∀n,n<to.length+ps.length->bF (bK (iE first ps l to).1 v0) ((iE first ps l to).2.getD n 0)=(bK ps V).getD n false
 |[],l,to,V,_,_,hl,hh,_=>hh
 |p::ps,l,to,V,hw,ht,hl,hh,hp=>by
  have h0:=hp 0 (by simp);simp only[Dd,gX]at h0;have ha:=m9 ht.lt h0.1;have hb:=m9 ht.lt h0.2;obtain⟨hlt,hge⟩:=ui ha hb h1;have hval:=Mo hv hz h1 hw ha hb
  have b1:bF (bK l v0) (bC to p.1.toNat)=bF V p.1.toNat:=by rw[uk,hh _ h0.1];rfl
  have b2:bF (bK l v0) (bC to p.2.toNat)=bF V p.2.toNat:=by rw[uk,hh _ h0.2];rfl
  rw[b1,b2]at hval;intro n hn;rw[iE,bK]
  refine Lp hv hz h1 ps _ _ _ (hw.and ha hb) ⟨fun z hz=>by
   rcases bm.1 hz with hz|hz
   ·have:=ht.lt z hz;omega
   ·simp at hz;omega⟩ (by simp[hl]) (fun n hn=>?_) (fun i hi=>by
   have:=hp (i+1) (by simpa using hi);simp only[sM]at this
   simp;omega) n (by rw[bX]at hn;simp;omega)
  by_cases hn2:n<to.length
  ·rw[lZ hn2,YI (by omega),<-hh n hn2];refine aaP hv ?_;refine ht.lt _ ?_;rw[bp,bl hn2];exact bz hn2
  ·have e:n=to.length:=by simp at hn;omega
   rw[AD e,Z5 (by omega),hval]
theorem ach{x:Gr}(ok:x.Ok)(s:iB x.first x.ands){v0:List Bool}(hv:v0.length=x.first):∀N n,n<N->n<x.first+x.ands.length->Live x.first x.bj n->
 bF (bK x.dN.ands v0) ((ee x.first x.bj x.ands 0 [] (ids x.first)).2.getD n 0)=(bK x.ands v0).getD n false:=by
 have I:=Gr.PB ok s;have qH:=(A0 ok).1;have w2:=qH.ands;rw[show x.dN.first=x.first from wz _ _]at w2;intro N
 induction N with
 |zero=>intro n hn;omega
 |succ N ih=>
  intro n hn hn2 hl
  by_cases h1:n<x.first
  ·rw[I.low n h1,tN _ (by omega),Ap];obtain⟨e,he⟩:=EM x.ands v0;rw[he,bp,bp,cV (by omega)]
  ·rcases hl with h2|h2
   ·omega
   ·have hk:n-x.first<x.ands.length:=by omega
    have en:x.first+(n-x.first)=n:=by omega
    obtain⟨j,hj,e1,e2⟩:=I.at_ (n-x.first) hk hk (by rw[en];exact h2);rw[en]at e1;have hj2:j<x.dN.ands.length:=hj
    have e3:x.dN.ands[j]=kV (ee x.first x.bj x.ands 0 [] (ids x.first)).2 x.ands[n-x.first]:=by
     have:x.dN.ands[j]? =some (kV (ee x.first x.bj x.ands 0 [] (ids x.first)).2 x.ands[n-x.first]):=e2;rw[bl hj2]at this;exact Option.some.inj this
    have hw:=w2 j hj2;have hx:=ok.ands (n-x.first) hk;obtain⟨c1,c2⟩:=Ad ok hk (by rw[en];exact h2);have va:=EH (v:=v0) hj2 (by omega) (by omega);have vb:=EH (v:=v0) hk (by omega) (by omega);rw[hv]at va vb;rw[e1,va,e3];simp only[kV,fV];rw[uk,uk,ih _ (by omega) (by omega) (.inr c1),ih _ (by omega) (by omega) (.inr c2)];rw[en,Ap]at vb;rw[vb];rfl
theorem MK{g:Gr}{r:List (Int×Int)×List Nat}(ok:g.Ok)(qH:(g.dC r).Ok){state ins:List Bool}
 (h:g.eu state ins=0->∀a∈g.next++g.outs,bF (bK r.1 (false::(ins++state))) (bC r.2 a.toNat)=bF (g.j_ state ins) a.toNat):
 (g.dC r).eu state ins=g.eu state ins/\(g.dC r).dB state ins=g.dB state ins/\(g.dC r).iZ state ins=g.iZ state ins:=by
 have hE:(g.dC r).eu state ins=g.eu state ins:=by
  unfold Gr.eu;rw[Gr.tS ok,Gr.tS qH]
  have h1:(g.dC r).next.length=g.next.length:=by simp[Gr.dC]
  have:(g.dC r).fits state ins=g.fits state ins:=by unfold Gr.fits;rw[h1];rfl
  rw[this]
 refine⟨hE,?_,?_⟩
 ·unfold Gr.dB;rw[hE]
  split
  ·rename_i h0;have hh:=h h0;unfold j4 Gr.dC eA Gr.j_;simp only[iO]
   refine oq fun a ha=>?_
   exact hh a (Jc _ ha)
  ·rfl
 ·unfold Gr.iZ;rw[hE]
  split
  ·rename_i h0;have hh:=h h0;unfold j4 Gr.dC eA Gr.j_;simp only[iO]
   refine oq fun a ha=>?_
   exact hh a (sL _ ha)
  ·rfl
theorem OW{g:Gr}{state ins:List Bool}(h:g.eu state ins=0):(false::(ins++state)).length=g.first:=by
 obtain⟨ok,d1,d2⟩:=Gr.PY h;have:=ok.ins
 simp[Gr.first];omega
theorem Pa{g:Gr}(ok:g.Ok){a:Int}(h:a∈g.next++g.outs):a.toNat/2<g.first+g.ands.length:=by
 have hl:g.lits=2*(g.first+g.ands.length):=rfl
 rcases bm.1 h with h|h
 ·have:=ok.next a h;omega
 ·have:=ok.outs a h;omega
theorem aai{g:Gr}(ok:g.Ok)(state ins:List Bool):g.gy.eu state ins=g.eu state ins/\g.gy.dB state ins=g.dB state ins/\g.gy.iZ state ins=g.iZ state ins:=by
 refine MK ok (A5 ok).1 (fun hE a ha=>?_);have hv:=OW hE
 have hi:∀n,n<g.first->(ids g.first).getD n 0=2*n:=fun n hn=>by
  rw[bp,bl (by simpa using hn)];simp[ids]
 have:=Lp hv (by simp[bF]) (by unfold Gr.first;omega) g.ands [] (ids g.first) (false::(ins++state)) (fun i hi=>by simp at hi) (Bi _) (by rw[hv];simp)
  (fun n hn=>by rw[NW]at hn;rw[hi n hn,bK,Ap]) (Fv ok) (a.toNat/2) (by rw[NW];exact Pa ok ha)
 rw[uk,this];rfl
theorem Zx{g:Gr}(ok:g.Ok)(s:iB g.first g.ands)(state ins:List Bool):g.dN.eu state ins=g.eu state ins/\g.dN.dB state ins=g.dB state ins/\g.dN.iZ state ins=g.iZ state ins:=by
 refine MK ok (A0 ok).1 (fun hE a ha=>?_);have:=ach ok s (OW hE) (a.toNat/2+1) (a.toNat/2) (by omega) (Pa ok ha) (.inr (Fe ok ha));rw[uk];have e:g.dN.ands=(ee g.first g.bj g.ands 0 [] (ids g.first)).1:=rfl;rw[e]at this;rw[this];rfl
theorem WT{g:Gr}(h:g.check=0)(state ins:List Bool):g.normal.eu state ins=g.eu state ins/\g.normal.dB state ins=g.dB state ins/\g.normal.iZ state ins=g.iZ state ins:=by
 have ok:=Gr.qn h;obtain⟨o1,s1,l1⟩:=A5 ok
 have e:g.normal=g.gy.dN:=by unfold Gr.normal;rw[if_pos h]
 rw[e]
 have hf:g.gy.first=g.first:=wz _ _
 obtain⟨a1,a2,a3⟩:=Zx o1 (by rw[hf];exact s1) state ins;obtain⟨b1,b2,b3⟩:=aai ok state ins;exact⟨a1.trans b1,a2.trans b2,a3.trans b3⟩
end Go.Proofs.YtihmomicdpkabaaGreatDoor
namespace Go.Proofs.YtihmomicdpkabaaGreatDoor
open Go.AM Go.Proofs
variable{Γ:Nat->Option AV}
theorem LL(ins:List Bool):∀(s:Bs)(i:Nat),s.all lN=true->s.length=(ins.drop i).length->(bn s i).all (fun x=>pr ins (dT x).lit)=mo s (ins.drop i)
 |[],i,_,_=>by simp[bn,mo]
 |c::s,i,hg,hl=>by
  have hi:i<ins.length:=by
   refine vk fun hn=>?_
   rw[bw (by omega)]at hl;simp at hl
  rw[bQ hi]at hl⊢;rw[qP,av]at hg;have ih:=LL ins s (i+1) hg.2 (by simp at hl⊢;omega);rw[mo,<-ih,bn]
  by_cases a:c=45
  ·rw[if_pos a];simp[a]
  ·rw[if_neg a,qP];congr 1;have hc:=hg.1;simp only[lN,eX,bf]at hc
   rcases hc with b|b|b
   ·subst b
    have e1:((2*(i:Int)+1)/2).toNat=i:=by omega
    have e2:(2*(i:Int)+1)%2=1:=by omega
    simp[dT,pr,e1,e2,bp,bl hi]
   ·subst b
    have e1:((2*(i:Int))/2).toNat=i:=by omega
    have e2:¬(2*(i:Int))%2=1:=by omega
    simp[dT,pr,e1,e2,bp,bl hi]
   ·exact absurd b a
theorem Pe{h os:List Ob}{a b c d:Ob}:(h++a::b::c::d::os)[h.length+3]? =some d:=by simp
abbrev uU(h:List Ob)(m:List (Bs×Bool))(nx:List Bool):List Ob:=h++[.row 1 aZ [] none true false,.row 1 aZ [] none true false,gz m,.row 1 aZ (nx.map .bool) none true false]
set_option maxRecDepth 8000 in
theorem afR(c:Ct)(hc:bW c)(m:List (Bs×Bool)){j:Nat}{h:List Ob}(hjl:j<h.length)(hw:cu h)(hv:dW h)(up:List Fr):∀n i:Nat,i+n=c.ak.length->
 AM.Reach Tryz.prog Γ (ykt (.ptr j 0) (.mp (h.length+2)) (.sl (h.length+3) 0 i) (.list false c.kL (c.ak.map od)) (.int .i64 c.ak.length) (.int .i64 i) (uU h m ((c.ak.take i).map fun q=>dP m q.next)) ⟨[],.norm,h.length,up⟩)
  (yku (.ptr j 0) (.mp (h.length+2)) (.sl (h.length+3) 0 c.ak.length) (uU h m (c.ak.map fun q=>dP m q.next)) ⟨[],.norm,h.length,up⟩):=by
 have b2:=hc.2.2.1
 have hvv:=fun m=>hv (h.length+3) m (by omega)
 have hbb:=hw (h.length+4) (by omega)
 have hj4:j<h.length+4:=by omega
 have hbm:=A7 (h.length+4) m
 have hvm:=fun k=>Oe (h.length+3) k m
 intro n
 induction n with
 |zero=>
  intro i hi
  have q1:¬i<c.ak.length:=by omega
  have he:i=c.ak.length:=by omega
  subst he;rw[cd (by omega)];refine .dh 60 ?_;simp[q1];exact .exit rfl rfl
 |succ n ih=>
  intro i hi
  have q1:i<c.ak.length:=by omega
  have q2:=bY (c.hL.of q1);have hh:=ih (i+1) (by omega)
  have e1:((c.ak.take (i+1)).map fun q=>dP m q.next)=((c.ak.take i).map fun q=>dP m q.next)++[dP m c.ak[i].next]:=by
   rw[gC q1,iQ];rfl
  have hlen:((c.ak.take i).map fun q=>dP m q.next).length=i:=by simp;omega
  rw[e1]at hh;have hf:=Nz c.ak[i].next m;have hlk:dP m c.ak[i].next=(match getM c.ak[i].next m with|some v=>v|none=>false):=rfl
  have hle:((i:Int)+1)<=140737488355328:=by omega
  generalize((c.ak.take i).map fun q=>dP m q.next)=P at*;generalize(c.ak.map fun q=>dP m q.next)=P2 at*;refine .dh 60 ?_
  cases hg:getM c.ak[i].next m with
  |none=>
   rw[hg]at hf hlk;simp at hf hlk;rw[hlk]at hh;simp(disch:=omega) [q1,q2,gz,hf,isKey,bR,cz,hle,hlen];refine .aH ?_;simp;refine .j0 (h.length+4) (by simp;rfl) (by simp) (by simp[hj4]) (by simp[hbb,hbm]) ?_;refine .lq (i:=h.length+3) Pe (by simp) (by simp[hlen]) (by simp[hvv,hvm]) ?_;simp[uU,gz]at hh⊢;exact hh
  |some v=>
   rw[hg]at hf hlk;simp at hf hlk;rw[hlk]at hh;simp(disch:=omega) [q1,q2,gz,hf,isKey,bR,cz,hle,hlen];refine .aH ?_;simp;refine .j0 (h.length+4) (by simp;rfl) (by simp) (by simp[hj4]) (by simp[hbb,hbm]) ?_;refine .lq (i:=h.length+3) Pe (by simp) (by simp[hlen]) (by simp[hvv,hvm]) ?_;simp[uU,gz]at hh⊢;exact hh
def rZ(c:Ct)(ins state:List Bool):Bool:=decide (ins.length=c.aE.length)&&decide (state.length=c.ak.length)
def dB(c:Ct)(ins state:List Bool):List Bool×List Bool×Int:=if rZ c ins state=true then(xq c ins state,xh c ins state,0)else([],[],11)
set_option maxRecDepth 8000 in
theorem adh(hΓ:eT Γ)(c:Ct)(hc:bW c)(ok:eU c)(ins state:List Bool)(hi2:ins.length<2^40)(hs2:state.length<2^40){fi fs:Bool}{ki ks:Nat}(hki:Kd 1 ki ins)(hks:Kd 1 ks state){j:Nat}{h:List Ob}(hj:h[j]? =some (ie c (aD c) (aP c)))(hw:cu h)(hv:dW h):
 ∀up,AM.Reach Tryz.prog Γ (.cl q_ [.ptr j 0,.list fs ks (state.map .bool),.list fi ki (ins.map .bool)] up h) (.back up (.aB [.sl h.length 0 (dB c ins state).1.length,.sl (h.length+1) 0 (dB c ins state).2.1.length,.int .i64 (dB c ins state).2.2]) (h++[ph (dB c ins state).1,ph (dB c ins state).2.1])):=by
 intro up;have hjl:j<h.length:=(cW.1 hj).1
 have hget:=fun os=>dJ hj os
 have hbb:=hw h.length (aR _);unfold dB rZ
 by_cases hl:ins.length=c.aE.length/\state.length=c.ak.length
 ·have hV:=aet hΓ c hc ok ins state hl.1 hl.2 (fi:=fi) (fs:=fs) hki hks (j:=j) (h:=h++[.row 1 aZ [] none true false,.row 1 aZ [] none true false]) (hget _) (by
   intro n hn;simp at hn
   simp[hw n (by omega)]) (by
   intro n k hn;simp at hn
   simp[hv n k (by omega)])
  simp at hV;have h1:=afR (Γ:=Γ) c hc (gO c ins state) hjl hw hv up c.ak.length 0 (by omega)
  have hP:=OB (Γ:=Γ) (gO c ins state) c.bg (fl:=false) c.hO (by have:=hc.2.1;omega) (j:=h.length+2) (h:=uU h (gO c ins state) (c.ak.map fun q=>dP (gO c ins state) q.next)) (by simp) (by
   intro n hn;simp at hn
   simp[hw n (by omega),gz]) (by
   intro n k hn;simp at hn
   simp[hv n k (by omega),gz])
  unfold ie at hget
  have hol:(xq c ins state).length=c.bg.length:=by simp[xq,fe]
  have hnl:=Y6 c ins state;rw[if_pos (by simp[hl.1,hl.2])];unfold xq xh at*;simp only at hol hnl⊢;generalize fe (gO c ins state) c.bg=PO at*;generalize(c.ak.map fun q=>dP (gO c ins state) q.next)=PN at*;generalize gO c ins state=m at*;simp at h1 hP;refine .br 60 Jz ?_;simp;refine .aX 60 hV ?_;simp[hget,gz];refine .inLoop ?_;simp[uU,gz,ph]at h1 hP⊢;refine .trans h1 ?_;refine .aU 60 ?_;simp[hget];refine .aX 4 hP ?_;simp;refine .trans (.lK [9,11,42,48,49] _) ?_;simp[lI];have hlt3:(h.length+3<h.length)=False:=iu (by omega);have hlt4:(h.length+4<h.length)=False:=iu (by omega);refine .mA h.length [4,3] (by simp[l8 hbb,hjl]) (by decide) ?_;simp[l6 hbb,hjl,hlt3,hlt4];refine .aU 60 ?_;simp[hol,hnl]
 ·have hV:=acR (Γ:=Γ) c hc (aD c) (aP c) ins state (fi:=fi) (fs:=fs) (ki:=ki) (ks:=ks) hi2 hs2 hl (j:=j) (h:=h++[.row 1 aZ [] none true false,.row 1 aZ [] none true false]) (hget _);rw[if_neg (by simpa using hl)];refine .br 60 Jz ?_;simp;refine .aX 12 hV ?_;simp;refine .aU 6 ?_;simp;have hlt3:(h.length+3<h.length)=False:=iu (by omega);have hlt2:(h.length+2<h.length)=False:=iu (by omega);refine .mA h.length [2,3] (by simp[l8 hbb,hjl]) (by decide) ?_;simp[l6 hbb,hjl,hlt3,hlt2];refine .aU 60 ?_;simp[ph]
def ic(c:Ct)(ins state:List Bool):List Bool×List Bool×Int:=if k6 c=true then dB c ins state else([],[],1)
set_option maxRecDepth 8000 in
theorem Xk(hΓ:eT Γ)(c:Ct)(hb:iJ c)(ins state:List Bool)(hi2:ins.length<2^40)(hs2:state.length<2^40){ki ks:Nat}(hki:Kd 1 ki ins)(hks:Kd 1 ks state):
 aL Tryz.prog Γ zU [bL c,.list false ks (state.map .bool),.list false ki (ins.map .bool)] (.aB [.own 1 aZ ((ic c ins state).1.map .bool),.own 1 aZ ((ic c ins state).2.1.map .bool),.int .i64 (ic c ins state).2.2]):=by
 unfold ic
 cases ho:k6 c with
 |false=>
  have hB:=aa5 hΓ c hb ho (h:=[.cells (AV.cells (bL c)),.row 1 aZ [] none true false,.row 1 aZ [] none true false]);simp at hB;refine .run 60 J3 (by simp) ?_;simp;refine .aX 60 hB ?_;simp;exact .back (by simp)
 |true=>
  obtain⟨hr,_,_⟩:=wX ho;obtain⟨ok,_⟩:=wH hr;have hc:=rz hb hr;have hB:=ac6 hΓ c hb ho (h:=[.cells (AV.cells (bL c)),.row 1 aZ [] none true false,.row 1 aZ [] none true false]) (by intro n hn;simp) (by intro n k hn;simp);have hM:=adh hΓ c hc ok ins state hi2 hs2 (fi:=false) (fs:=false) hki hks (j:=3) (h:=[.cells (AV.cells (bL c)),.row 1 aZ [] none true false,.row 1 aZ [] none true false,ie c (aD c) (aP c)]) rfl (by intro n hn;simp[ie]) (by intro n k hn;simp at hn;simp[ie]);generalize dB c ins state=R at*;obtain⟨o,nx,e⟩:=R;simp at hB hM;refine .run 60 J3 (by simp) ?_;simp;refine .aX 60 hB ?_;simp;refine .aX 60 hM ?_;simp[ph];exact .back (by simp)
end Go.Proofs.YtihmomicdpkabaaGreatDoor
