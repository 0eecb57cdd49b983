/- Steps: the values of nets (plain law). -/
import Derived.Test.YtchjijfjidlpjaaGreatDoorH
import Derived.Test.YtchjijfjidlpjaaGreatDoorI
import Derived.Test.YtchjijfjidlpjaaGreatDoorG
import Derived.Test.YtchjijfjidlpjaaGreatDoorF
import Derived.Test.YtchjijfjidlpjaaGreatDoorShelf
import Derived.Test.YtchjijfjidlpjaaGreatDoorAMd
import Derived.Below
import Derived.Sort.Grow
set_option linter.unusedSimpArgs false
set_option linter.unusedVariables false
namespace Go.Proofs.YtchjijfjidlpjaaGreatDoor
open Go.AM Go.Proofs
variable{Γ:Nat->Option AV}
theorem OP{α:Type}{P:List α->Prop}(h0:P [])(h1:∀l a,P l->P (l++[a]))(l:List α):P l:=by
 rw[<-List.reverse_reverse l]
 induction l.reverse with
 |nil=>exact h0
 |cons a r ih=>rw[List.reverse_cons];exact h1 _ _ ih
def d_(m:List (Bs×Bool))(s:Bs):Bool:=match getM s m with
 |some v=>v
 |none=>false
theorem acL{m r:List (Bs×Bool)}{s:Bs}(h:s∈m.map (·.1)):d_ (m++r) s=d_ m s:=by
 induction m with
 |nil=>cases h
 |cons a m ih=>
  obtain⟨k,v⟩:=a;rw[ep];unfold d_;rw[getM,getM]
  by_cases hk:s=k
  ·rw[if_pos hk,if_pos hk]
  ·rw[if_neg hk,if_neg hk];rw[bL,bo]at h;exact ih (h.resolve_left hk)
theorem acv{m:List (Bs×Bool)}{s:Bs}(v:Bool)(h:s∉m.map (·.1)):d_ (m++[(s,v)]) s=v:=by
 induction m with
 |nil=>simp[d_,getM]
 |cons a m ih=>
  obtain⟨k,u⟩:=a;rw[bL,bo,not_or]at h;rw[ep];unfold d_;rw[getM,if_neg h.1];exact ih h.2
theorem abd{m:List (Bs×Bool)}{s:Bs}(h:s∉m.map (·.1)):getM s m=none:=getM_none.2 fun x hx he=>h (by rw[<-he];exact wk (f:=(·.1)) hx)
def f_(m:List (Bs×Bool))(l:List Bs):List Bool:=l.map (d_ m)
def fj(c:Ct):List Bs:=c.an++c.ah.map (·.name)
def zm(c:Ct)(ins state:List Bool):List (Bs×Bool):=(fj c).zip (ins++state)
def QM(c:Ct)(m:List (Bs×Bool))(a:Nat):List (Bs×Bool):=match c.af[a]? with
 |some g=>m++[(g.name,re g (f_ m g.ins))]
 |none=>m
def iO(c:Ct)(ins state:List Bool)(p:List Nat):List (Bs×Bool):=p.foldl (QM c) (zm c ins state)
def gZ(c:Ct)(ins state:List Bool):List (Bs×Bool):=iO c ins state (aV c)
theorem Bi(c:Ct)(ins state:List Bool)(p:List Nat){a:Nat}(ha:a<c.af.length):iO c ins state (p++[a])=iO c ins state p++[(c.af[a].name,re c.af[a] (f_ (iO c ins state p) c.af[a].ins))]:=by
 rw[iO,List.foldl_append,pn,List.foldl_nil,QM,aM ha];rfl
theorem xu(c:Ct):(fj c).length=c.an.length+c.ah.length:=by simp[fj]
theorem aag{c:Ct}{ins state:List Bool}(hi:ins.length=c.an.length)(hs:state.length=c.ah.length):(zm c ins state).map (·.1)=fj c:=by
 rw[zm,JD (by rw[xu];simp;omega)]
theorem uw{c:Ct}{ins state:List Bool}(hi:ins.length=c.an.length)(hs:state.length=c.ah.length):∀p:List Nat,(∀a∈p,a<c.af.length)->(iO c ins state p).map (·.1)=fj c++p.map (HX c):=by
 intro p
 induction p using OP with
 |h0=>intro _;simpa[iO]using aag hi hs
 |h1 p a ih=>
  intro h;have ha:=h a (by simp);rw[Bi c ins state p ha,jK,ih fun b hb=>h b (by simp[hb])];simp[B7 ha]
theorem EO{c:Ct}(ok:ew c):(fj c++c.af.map (·.name)).Nodup:=by
 have:=ok.nodup;simpa[aD,fj]using this
theorem NI{c:Ct}(ok:ew c){ins state:List Bool}(hi:ins.length=c.an.length)(hs:state.length=c.ah.length){p:List Nat}(hp:∀a∈p,a<c.af.length){a:Nat}(ha:a<c.af.length)(hn:a∉p):c.af[a].name∉(iO c ins state p).map (·.1):=by
 have hd:=ue (xE ok);rw[uw hi hs p hp,aN,not_or];have h:=EO ok;rw[jM]at h;refine⟨fun hb=>h.2.2 _ hb _ (wk (f:=(·.name)) (bF ha)) rfl,fun hb=>?_⟩;obtain⟨x,hx,he⟩:=b_.1 hb;have hxl:=hp x hx;rw[B7 hxl]at he;exact hn (BK hd hxl ha he▸hx)
structure Co(c:Ct)(ins state:List Bool)(f:Bs->Bool):Prop where
 Th:∀i,∀h:i<c.an.length,f c.an[i]=ins.getD i false
 zr:∀i,∀h:i<c.ah.length,f c.ah[i].name=state.getD i false
 S7:∀i,∀h:i<c.af.length,f c.af[i].name=re c.af[i] (c.af[i].ins.map f)
theorem OR:∀(l:List Bs)(b:List Bool),l.Nodup->∀i,∀h:i<l.length,i<b.length->d_ (l.zip b) l[i]=b.getD i false
 |[],_,_,i,h,_=>by simp at h
 |s::l,[],_,i,h,h2=>by simp at h2
 |s::l,v::b,hn,i,h,h2=>by
  rw[kM]at hn;rw[z1];unfold d_
  cases i with
  |zero=>simp[getM]
  |succ i=>
   have hne:¬(s::l)[i+1]=s:=fun he=>hn.1 (by rw[<-he];simp)
   rw[getM,if_neg hne];simpa[d_]using OR l b hn.2 i (by simpa using h) (by simpa using h2)
theorem FV{c:Ct}{ins state:List Bool}(hi:ins.length=c.an.length)(hs:state.length=c.ah.length)(p:List Nat)(hp:∀a∈p,a<c.af.length):∀r:List Nat,(∀a∈r,a<c.af.length)->∀s∈(iO c ins state p).map (·.1),d_ (iO c ins state (p++r)) s=d_ (iO c ins state p) s:=by
 intro r
 induction r using OP with
 |h0=>intro _ s _;simp
 |h1 r a ih=>
  intro hr s hs';have ha:=hr a (by simp)
  have hr':=fun b hb=>hr b (aN.2 (.inl hb))
  have h1:=ih hr' s hs';rw[<-cM,Bi c ins state (p++r) ha,acL ?_,h1];rw[uw hi hs _ fun b hb=>(aN.1 hb).elim (hp b) (hr' b)];rw[uw hi hs p hp]at hs';simp only[aN,jK]at hs'⊢
  exact hs'.elim .inl fun h=>.inr (.inl h)
theorem aaj{c:Ct}(ok:ew c)(hall:∀i<c.af.length,i∈aV c){ins state:List Bool}(hi:ins.length=c.an.length)(hs:state.length=c.ah.length):Co c ins state (d_ (gZ c ins state)):=by
 have hd:=ue (xE ok);have hlt:=pJ c;have hnd:=EO ok
 have hbn:(fj c).Nodup:=by rw[jM]at hnd;exact hnd.1
 have hbase:∀i,∀h:i<(fj c).length,d_ (gZ c ins state) (fj c)[i]=(ins++state).getD i false:=fun i h=>by
  have h1:=FV hi hs [] (by simp) (aV c) hlt (fj c)[i] (by rw[uw hi hs [] (by simp)];simp);rw[kK]at h1;rw[gZ,h1];have:=OR (fj c) (ins++state) hbn i h (by rw[xu]at h;simp;omega);simpa[iO,zm]using this
 refine⟨fun i h=>?_,fun i h=>?_,fun i h=>?_⟩
 ·have:=hbase i (by rw[xu];omega);simp only[fj,wg h]at this;rw[this,bj,bj,cz (by omega)]
 ·have:=hbase (c.an.length+i) (by rw[xu];omega);simp only[fj]at this;rw[JE (by omega)]at this;simp only[qO,List.getElem_map]at this;rw[this,bj,bj,df (by omega),hi,qO]
 ·obtain⟨p,q,he⟩:=List.append_of_mem (hall i h)
  have hpl:∀a∈p,a<c.af.length:=fun a ha=>hlt a (by rw[he];simp[ha])
  have hql:∀a∈q,a<c.af.length:=fun a ha=>hlt a (by rw[he];simp[ha])
  have hpos:=(iX.1 (EX c he).1);have hnew:=NI ok hi hs hpl h hpos.1
  have e1:aV c=(p++[i])++q:=by rw[he];simp
  have hpi:∀a∈p++[i],a<c.af.length:=fun a ha=>by
   rcases aN.1 ha with ha|ha
   ·exact hpl a ha
   ·rw[cq]at ha;subst ha;exact h
  have h2:d_ (gZ c ins state) c.af[i].name=re c.af[i] (f_ (iO c ins state p) c.af[i].ins):=by
   rw[gZ,e1,FV hi hs (p++[i]) hpi q hql _ (by rw[uw hi hs _ hpi];simp[B7 h])];rw[Bi c ins state p h,acv _ hnew]
  rw[h2];congr 1;apply mq;intro s hsi
  have hs0:s∈(iO c ins state p).map (·.1):=by
   rw[uw hi hs p hpl,aN];have hu:s∈aD c:=ok.used s (by simp only[eU,lZ,aN,nD];exact .inr ⟨_,bF h,hsi⟩)
   rcases FF.1 hu with hu|⟨x,hx,rfl⟩|⟨x,hx,rfl⟩
   ·exact .inl (by simp[fj,hu])
   ·exact .inl (by simp only[fj,aN,b_];exact .inr ⟨x,hx,rfl⟩)
   ·obtain⟨j,hj,rfl⟩:=eM hx;have:=hpos.2 j ((y0 h hj).2 hsi);exact .inr (b_.2 ⟨j,this,B7 hj⟩)
  rw[gZ,e1,cM];exact(FV hi hs p hpl ([i]++q) (fun a ha=>hlt a (by rw[he];simp at ha⊢;exact .inr ha)) s hs0).symm
theorem abE{c:Ct}(ok:ew c)(hall:∀i<c.af.length,i∈aV c){ins state:List Bool}{f g:Bs->Bool}(hf:Co c ins state f)(hg:Co c ins state g):∀s∈aD c,f s=g s:=by
 have hlow:∀s∈fj c,f s=g s:=fun s hs=>by
  simp only[fj,aN,b_]at hs
  rcases hs with hs|⟨q,hq,rfl⟩
  ·obtain⟨i,hi,rfl⟩:=eM hs;rw[hf.Th i hi,hg.Th i hi]
  ·obtain⟨i,hi,rfl⟩:=eM hq;rw[hf.zr i hi,hg.zr i hi]
 have key:∀(q p:List Nat),aV c=p++q->(∀a∈p,∀h:a<c.af.length,f c.af[a].name=g c.af[a].name)->∀a∈p++q,∀h:a<c.af.length,f c.af[a].name=g c.af[a].name:=by
  intro q
  induction q with
  |nil=>intro p _ h;simpa using h
  |cons x q ih=>
   intro p he h
   have:=ih (p++[x]) (by simpa using he) fun a ha hal=>by
    rcases aN.1 ha with ha|ha
    ·exact h a ha hal
    ·rw[cq]at ha;subst ha;rw[hf.S7 a hal,hg.S7 a hal];congr 1;apply mq;intro s hs;have hu:s∈aD c:=ok.used s (by simp only[eU,lZ,aN,nD];exact .inr ⟨_,bF hal,hs⟩)
     rcases FF.1 hu with hu|⟨y,hy,rfl⟩|⟨y,hy,rfl⟩
     ·exact hlow s (by simp[fj,hu])
     ·exact hlow _ (by simp only[fj,aN,b_];exact .inr ⟨y,hy,rfl⟩)
     ·obtain⟨j,hj,rfl⟩:=eM hy;exact h j ((iX.1 (EX c he).1).2 j ((y0 hal hj).2 hs)) hj
   simpa using this
 intro s hs
 rcases FF.1 hs with hu|⟨y,hy,rfl⟩|⟨y,hy,rfl⟩
 ·exact hlow s (by simp[fj,hu])
 ·exact hlow _ (by simp only[fj,aN,b_];exact .inr ⟨y,hy,rfl⟩)
 ·obtain⟨j,hj,rfl⟩:=eM hy;exact key (aV c) [] rfl (by simp) j (by simpa using hall j hj) hj
def Cw(c:Ct)(ins state:List Bool):List Bool:=f_ (gZ c ins state) c.aq
def Cu(c:Ct)(ins state:List Bool):List Bool:=c.ah.map fun q=>d_ (gZ c ins state) q.next
theorem Y8(c:Ct)(ins state:List Bool):(Cu c ins state).length=c.ah.length:=by simp[Cu]
theorem GB{c:Ct}(ok:ew c){s:Bs}(h:s∈c.aq):s∈aD c:=ok.used s (by simp[eU,h])
theorem xN{c:Ct}(ok:ew c){q:Lt}(h:q∈c.ah):q.next∈aD c:=ok.used _ (by simp only[eU,aN,b_];exact .inl (.inr ⟨q,h,rfl⟩))
def nw(c:Ct):Bool:=decide ((mJ c).1=0)
theorem BM{c:Ct}(h:nw c=true):kW c=true/\mH c=[]/\mJ c=(0,[]):=aan (qP h)
theorem Kw(hΓ:eG Γ)(c:Ct)(hb:jF c):aP Tryz.prog Γ AD [bW c] (.bool (nw c)):=by
 have hC:=N0 hΓ c hb;unfold nw;generalize mJ c=r at*;obtain⟨e,s⟩:=r;refine .run 60 Wv (by simp) ?_;simp;refine .call 60 (by simp) hC ?_;simp;exact .back (by simp)
abbrev vG(x:Bs×Bool):AV×AV:=(.str x.1,.bool x.2)
@[simp] theorem BW(n:Nat):∀l:List (Bs×Bool),gE n (l.map vG)=true
 |[]=>rfl
 |x::r=>by simp[BW n r]
@[simp] theorem OY(n m:Nat):∀l:List (Bs×Bool),n8 n m (l.map vG)=true
 |[]=>rfl
 |x::r=>by simp[OY n m r]
@[simp] theorem aw2(n:Nat)(τ:List Nat)(l:List (Bs×Bool)):nA n τ (l.map vG)=l.map vG:=Gq (BW n l)
def gH(m:List (Bs×Bool)):Ob:=.map (m.map vG) true
def qe(l:List Bool):Ob:=.row 1 aY (l.map .bool) none true false
theorem O2(s:Bs)(m:List (Bs×Bool)):eT (.sc .str) (.str s) (m.map vG)=some ((getM s m).map AV.bool):=xd sK AV.bool s m
theorem Qh{h os:List Ob}{a b:Ob}:(h++a::b::os)[h.length+1]? =some b:=by simp
set_option maxRecDepth 8000 in
theorem Qa(m:List (Bs×Bool))(l:List Bs){fl:Bool}{k:Nat}(hk:Kd 1 k l)(hl:l.length<2^40){j:Nat}{h:List Ob}(hj:h[j]? =some (gH m))(hw:cL h)(hv:gp h):
 ∀up,AM.Reach Tryz.prog Γ (.cl uh [.mp j,.list fl k (l.map .str)] up h) (.back up (.sl h.length 0 l.length) (h++[qe (f_ m l)])):=by
 intro up;have hb:=hw h.length (aO _);have hjl:j<h.length:=(dd.1 hj).1
 have hget:=fun os=>gR hj os
 have hvv:=fun m=>hv (h.length+1) m (by omega)
 have key:∀n i:Nat,i+n=l.length->AM.Reach Tryz.prog Γ (ysG (.mp j) (.sl (h.length+1) 0 i) (.list fl k (l.map .str)) (.int .i64 l.length) (.int .i64 i) (h++[.row 1 aY [] none true false,.row 1 aY ((f_ m (l.take i)).map .bool) none true false]) ⟨[],.norm,h.length,up⟩)
  (.back up (.sl h.length 0 l.length) (h++[qe (f_ m l)])):=by
  intro n
  induction n with
  |zero=>
   intro i hi
   have q1:¬i<l.length:=by omega
   have he:i=l.length:=by omega
   subst he;rw[cJ (by omega)];generalize f_ m l=P at*;refine .l0 h.length [1] (by simp[mD hb,hjl]) (by decide) ?_;have hlt:(h.length+1<h.length)=False:=kc (by omega);simp[mE hb,hjl,hlt];refine .bw 60 ?_;simp[q1,qe]
  |succ n ih=>
   intro i hi
   have q1:i<l.length:=by omega
   have q2:=bU (hk.of q1);have hh:=ih (i+1) (by omega)
   have e1:f_ m (l.take (i+1))=f_ m (l.take i)++[d_ m l[i]]:=by
    rw[ke q1,f_,jK];rfl
   have hlen:(f_ m (l.take i)).length=i:=by simp[f_];omega
   rw[e1]at hh;have hf:=O2 l[i] m;have hlk:d_ m l[i]=(match getM l[i] m with|some v=>v|none=>false):=rfl
   have hle:((i:Int)+1)<=140737488355328:=by omega
   generalize f_ m (l.take i)=P at*;refine .bw 60 ?_
   cases hg:getM l[i] m with
   |none=>
    rw[hg]at hf hlk;simp at hf hlk;rw[hlk]at hh;simp(disch:=omega) [q1,q2,hget,gH,hf,isKey,bM,cj,hle,hlen];refine .aR ?_;simp;refine .oK (i:=h.length+1) Qh (by simp) (by simp[hlen]) (by simp[hvv]) ?_;simp at hh⊢;exact hh
   |some v=>
    rw[hg]at hf hlk;simp at hf hlk;rw[hlk]at hh;simp(disch:=omega) [q1,q2,hget,gH,hf,isKey,bM,cj,hle,hlen];refine .aR ?_;simp;refine .oK (i:=h.length+1) Qh (by simp) (by simp[hlen]) (by simp[hvv]) ?_;simp at hh⊢;exact hh
 refine .bJ 60 WY ?_;simp;refine .inLoop ?_;have hh:=key l.length 0 (by omega);simp[f_]at hh⊢;exact hh
theorem Qt{h os:List Ob}{a b:Ob}{f:Ob->Ob}:(h++a::b::os).modify (h.length+1) f=h++a::f b::os:=by
 induction h with
 |nil=>rfl
 |cons x h ih=>simpa using ih
theorem aff{h os:List Ob}{a b c d e:Ob}:(h++a::b::c::d::e::os)[h.length+4]? =some e:=by simp
theorem afu{h os:List Ob}{a b c d:Ob}{f:Ob->Ob}:(h++a::b::c::d::os).modify (h.length+3) f=h++a::b::c::f d::os:=by
 induction h with
 |nil=>rfl
 |cons x h ih=>simpa using ih
def iP(c:Ct)(N:List Bs)(l:List Nat):Ob:=.cells [.list false c.kI (c.an.map .str),.list false c.kO (c.aq.map .str),.list false c.kL (c.ah.map qF),.list false c.kG (c.af.map eo),.list false 1 (N.map .str),.list false 1 (l.map iN)]
set_option maxRecDepth 8000 in
theorem ach(hΓ:eG Γ)(c:Ct)(hb:jF c)(ho:nw c=true){h:List Ob}(hw:cL h)(hv:gp h):
 ∀up,AM.Reach Tryz.prog Γ (.cl wV [bW c] up h) (.back up (.aE [.ptr h.length 0,.int .i64 0]) (h++[iP c (aD c) (aV c)])):=by
 intro up;obtain⟨hr,hn,_⟩:=BM ho;have hbb:=hw h.length (aO _);have hR:=Kw hΓ c hb;rw[ho]at hR;have hS:=Gi hΓ c hb;rw[hn]at hS
 have hSo:vt c=aV c:=by simp[vt,hr]
 rw[hSo]at hS;have hN:=PI (Γ:=Γ) c (uB hb hr);generalize aV c=l at*;refine .bJ 60 Ko ?_;simp;refine .jR 60 (by simp) hR ?_;simp;refine .jR 60 (by simp) hS ?_;simp;refine .trees [4] ?_;simp[Qt,fR];refine .eQ 0 ?_;simp;refine j5.call (by simp) hN ?_;simp;generalize aD c=N at*;refine .trans (.mM 4 aff) ?_;have htk:(N.map AV.str).take N.length=N.map AV.str:=cJ (by simp);simp[mf,share,afu,fR,htk];refine .trans (.n9 [1,5,9,11,12,13,16,18] _) ?_;simp[oa];refine .l0 h.length [4] (by simp[mD hbb]) (by decide) ?_;have hlt:(h.length+4<h.length)=False:=kc (by omega);simp[mE hbb,hlt];refine .bw 60 ?_;simp[iP]
theorem aaB(hΓ:eG Γ)(c:Ct)(hb:jF c)(ho:nw c=false){h:List Ob}:
 ∀up,AM.Reach Tryz.prog Γ (.cl wV [bW c] up h) (.back up (.aE [.ik,.int .i64 1]) (h++[.cells (AV.cells (bW c))])):=by
 intro up;have hR:=Kw hΓ c hb;rw[ho]at hR;refine .bJ 60 Ko ?_;simp;refine .jR 60 (by simp) hR ?_;simp
set_option maxRecDepth 8000 in
theorem adD(c:Ct)(hc:cB c)(N:List Bs)(l:List Nat)(ins state:List Bool){fi fs:Bool}{ki ks:Nat}(hi2:ins.length<2^40)(hs2:state.length<2^40)(hn:¬(ins.length=c.an.length/\state.length=c.ah.length)){j:Nat}{h:List Ob}(hj:h[j]? =some (iP c N l)):
 ∀up,AM.Reach Tryz.prog Γ (.cl pz [.ptr j 0,.list fs ks (state.map .bool),.list fi ki (ins.map .bool)] up h) (.back up (.aE [.cO,.int .i64 11]) h):=by
 intro up;have b0:=hc.1;have b2:=hc.2.2.1;have e1:((state.length:Int)=c.ah.length)=(state.length=c.ah.length):=propext (by omega);have e2:((ins.length:Int)=c.an.length)=(ins.length=c.an.length):=propext (by omega);have hj':=hj;unfold iP at hj';refine .bJ 60 J6 ?_
 by_cases h1:state.length=c.ah.length
 ·have h2:¬ins.length=c.an.length:=fun h=>hn ⟨h,h1⟩
  simp[hj',e1,e2,h1,h2]
 ·simp[hj',e1,e2,h1]
theorem YN(a b:List Bool){ka kb:Nat}(ha:Kd 1 ka a)(hb:Kd 1 kb b)(hl:a.length+b.length<2^40):aP Tryz.prog Γ py [.list false 1 [.list false ka (a.map .bool),.list false kb (b.map .bool)]] (.own 1 aY ((a++b).map .bool)):=by
 by_cases h:a++b=[]
 ·rw[JN]at h;have:=T6 (Γ:=Γ) [(ka,a),(kb,b)] (by simp[h]) (by simp);simpa[h,oQ]using this
 ·have h2:0<(a++b).length:=rQ.2 h;have:=J2 (Γ:=Γ) [(ka,a),(kb,b)] (by simp[ha,hb]) (by simp) (by simp[cC];omega) (by simpa[cC]using h2);simpa[cC,oQ]using this
theorem WJ{N:List Bs}(hn:N.Nodup)(v:List Bool){i:Nat}(hi:i<N.length):getM N[i] ((N.take i).zip (v.take i))=none:=by
 rw[getM_none];intro x hx he;have:=(List.of_mem_zip (a:=x.1) (b:=x.2) hx).1;obtain⟨j,hj,hje⟩:=eM this;rw[tx]at hje;have h1:=(z8 (xs:=N) (i:=j) (j:=i) (h₀:=by simp at hj;omega) (h₁:=hi) hn).1 (hje.trans he)
 simp at hj;omega
theorem Wd(N:List Bs)(v:List Bool){i:Nat}(hi:i<N.length)(h2:i<v.length):(N.take (i+1)).zip (v.take (i+1))=(N.take i).zip (v.take i)++[(N[i],v[i])]:=by
 rw[ke hi,ke h2,JU (by simp;omega)];rfl
abbrev rz(h:List Ob)(m:List (Bs×Bool))(v:List Bool):List Ob:=h++[gH m,.row 1 aY (v.map .bool) none true true]
set_option maxRecDepth 8000 in
theorem afB(c:Ct)(N:List Bs)(hN:N.Nodup)(hNl:N.length<2^30)(l:List Nat)(v:List Bool)(hvN:v.length<=N.length){j:Nat}{h:List Ob}(hj:h[j]? =some (iP c N l))(hw:cL h)(hv:gp h)(up:List Fr):∀n i:Nat,i+n=v.length->
 AM.Reach Tryz.prog Γ (ysr (.ptr j 0) (.mp h.length) (.list false 1 (v.map .bool)) (.int .i64 v.length) (.int .i64 i) (rz h ((N.take i).zip (v.take i)) v) ⟨[],.norm,h.length,up⟩)
  (yss (.ptr j 0) (.mp h.length) (rz h (N.zip v) v) ⟨[],.norm,h.length,up⟩):=by
 have hjl:j<h.length:=(dd.1 hj).1
 have hget:=fun os=>gR hj os
 unfold iP at hget;intro n
 induction n with
 |zero=>
  intro i hi
  have q1:¬i<v.length:=by omega
  have e1:(N.take i).zip (v.take i)=N.zip v:=by
   rw[cJ (l:=v) (by omega)]
   conv=>rhs;rw[<-mn i N]
   have:v=v++[]:=by simp
   conv=>rhs;rw[this]
   rw[JU (by simp;omega)];simp
  rw[e1];refine .ey 60 ?_;simp[q1];exact .exit rfl rfl
 |succ n ih=>
  intro i hi
  have q1:i<v.length:=by omega
  have q3:i<N.length:=by omega
  have hh:=ih (i+1) (by omega);rw[Wd N v q3 q1]at hh;have hput:=xA (E:=.sc .str) (e:=AV.str) sK AV.bool v[i] (WJ hN v q3);generalize(N.take i).zip (v.take i)=m at*;refine .ey 60 ?_;simp(disch:=omega) [q1,q3,hget,gH,hput,isKey,bM,cj];refine .aR ?_;simp[gH,rz]at hh⊢;exact hh
set_option maxRecDepth 8000 in
theorem afC(hΓ:eG Γ)(c:Ct)(hc:cB c)(ok:ew c)(ins state:List Bool)(hi2:ins.length=c.an.length)(hs2:state.length=c.ah.length)(v:List Bool){j:Nat}{h:List Ob}(hj:h[j]? =some (iP c (aD c) (aV c)))(hw:cL h)(hv:gp h)(up:List Fr):∀n i:Nat,i+n=(aV c).length->
 AM.Reach Tryz.prog Γ (yso (.ptr j 0) (.mp h.length) (.list false 1 ((aV c).map iN)) (.int .i64 (aV c).length) (.int .i64 i) (rz h (iO c ins state ((aV c).take i)) v) ⟨[],.norm,h.length,up⟩)
  (ysp (.mp h.length) (rz h (gZ c ins state) v) ⟨[],.norm,h.length,up⟩):=by
 have hjl:j<h.length:=(dd.1 hj).1
 have hget:=fun os=>gR hj os
 unfold iP at hget;have hlt:=pJ c;have hnd:=Ei c;have hll:=K4 hc;have hbb:=hw (h.length+2) (by omega);intro n
 induction n with
 |zero=>
  intro i hi
  have q1:¬i<(aV c).length:=by omega
  rw[cJ (by omega),<-gZ];refine .ey 60 ?_;simp[q1];exact .exit rfl rfl
 |succ n ih=>
  intro i hi
  have q1:i<(aV c).length:=by omega
  have ha:=hlt _ (bF q1);have q2:=bU (c.hG.of ha);have hh:=ih (i+1) (by omega)
  have hnew:=NI ok hi2 hs2 (p:=(aV c).take i) (fun a h=>hlt a (j8 h)) ha (fun hm=>by
   obtain⟨x,hx,he⟩:=eM hm;rw[tx]at he;have:=(z8 (xs:=aV c) (h₀:=by simp at hx;omega) (h₁:=q1) hnd).1 he
   simp at hx;omega)
  rw[ke q1,Bi c ins state _ ha]at hh
  have hput:=fun u=>xA (E:=.sc .str) (e:=AV.str) sK AV.bool u (abd hnew)
  have hgf:=hc.2.2.2.2.1 _ (bF ha)
  have gl:((aV c).map iN)[i]? =some (.int .i64 (aV c)[i]):=by simp[q1]
  obtain⟨gl1,gl2⟩:=dd.1 gl
  have hEl:((aV c).map iN).length=(aV c).length:=by simp
  generalize iO c ins state ((aV c).take i)=m at*;generalize(aV c)[i]=a at*;have hG:=Xd hΓ c.af[a] hgf (f_ m c.af[a].ins) (k:=1) .self (by simp[f_];have:=hgf.2.1;omega)
  have hP:=Qa (Γ:=Γ) m c.af[a].ins (fl:=false) c.af[a].hi (by have:=hgf.2.1;omega) (j:=h.length) (h:=rz h m v++[.cells (AV.cells (eo c.af[a])),.row 1 aw [] none true false,.row 1 aw [] none true false]) (by simp) (by
   intro n hn;simp at hn
   simp[hw n (by omega),gH]) (by
   intro n k hn;simp at hn
   simp[hv n k (by omega),gH])
  refine .ey 60 ?_;simp(disch:=omega) [q1,q2,gl,gl2,hEl,ha,hget,eS];refine .Jo 60 ?_;simp(disch:=omega) [q1,q2,hget]
  have hpl:(f_ m c.af[a].ins).length=c.af[a].ins.length:=by simp[f_]
  simp at hP;generalize f_ m c.af[a].ins=P at*;refine j5.reach (by simp) hP ?_;simp[qe];have htk:(P.map AV.bool).take c.af[a].ins.length=P.map AV.bool:=cJ (by simp[hpl]);refine j5.call (by simp[hpl,htk]) hG ?_;simp(disch:=omega) [gH,hput,isKey,bM,cj];refine .aR ?_;simp
  have hj2:j<h.length+2:=by omega
  have hbm:=BW (h.length+2) (m++[(c.af[a].name,re c.af[a] P)]);rw[jK,bL,iT]at hbm;refine .vf (h.length+2) (by simp;rfl) (by simp) (by simp[hj2]) (by simp[hbb];exact hbm) ?_;simp[gH,rz]at hh⊢;exact hh
set_option maxRecDepth 8000 in
theorem aen(hΓ:eG Γ)(c:Ct)(hc:cB c)(ok:ew c)(ins state:List Bool)(hi2:ins.length=c.an.length)(hs2:state.length=c.ah.length){fi fs:Bool}{ki ks:Nat}(hki:Kd 1 ki ins)(hks:Kd 1 ks state){j:Nat}{h:List Ob}(hj:h[j]? =some (iP c (aD c) (aV c)))(hw:cL h)(hv:gp h):
 ∀up,AM.Reach Tryz.prog Γ (.cl pz [.ptr j 0,.list fs ks (state.map .bool),.list fi ki (ins.map .bool)] up h) (.back up (.aE [.mp h.length,.int .i64 0]) (h++[gH (gZ c ins state)])):=by
 intro up;have b0:=hc.1;have b2:=hc.2.2.1;have hnl:=acs hc;have e1:((state.length:Int)=c.ah.length)=True:=bU (by omega);have e2:((ins.length:Int)=c.an.length)=True:=bU (by omega);have hjl:j<h.length:=(dd.1 hj).1
 have hget:=fun os=>gR hj os
 have hj':=hj;unfold iP at hj' hget;have hbb:=hw (h.length+1) (by omega);have hC:=YN (Γ:=Γ) ins state hki hks (by omega)
 have hvN:(ins++state).length<=(aD c).length:=by simp[aD];omega
 have h9:=afB (Γ:=Γ) c (aD c) ok.nodup (by omega) (aV c) (ins++state) hvN hj hw hv up (ins++state).length 0 (by omega);have h1:=afC hΓ c hc ok ins state hi2 hs2 (ins++state) hj hw hv up (aV c).length 0 (by omega)
 have hz:(aD c).zip (ins++state)=iO c ins state []:=by
  have e:ins++state=(ins++state)++[]:=by simp
  rw[iO,List.foldl_nil,zm,aD,e,<-fj,JU (by rw[xu];simp;omega)];simp
 rw[zV]at h9 h1;rw[hz]at h9;simp only[zV,List.zip_nil_right]at h9
 have hvl:(ins++state).length=ins.length+state.length:=by simp
 generalize iO c ins state []=m0 at*;generalize gZ c ins state=m1 at*;generalize aV c=l at*;generalize aD c=N at*;refine .bJ 60 J6 ?_;simp[hj',e1,e2];generalize ins++state=v at*;refine .jR 60 (by simp) hC ?_;simp;refine .trees [38] ?_;simp[Qt,fR];refine .inLoop ?_;simp[gH,rz]at h9 h1⊢;refine .trans h9 ?_;refine .bw 60 ?_;simp[hget];refine .inLoop ?_;simp;refine .trans h1 ?_;refine .vf (h.length+1) (by simp;rfl) (by simp) (by simp) (by simp[hbb]) ?_;refine .bw 60 ?_;simp
structure Md where
 g:Gr
 an:List Bs
 ah:List Bs
 aq:List Bs
 kI:Nat
 kL:Nat
 kO:Nat
 hI:Kd 1 kI an
 hL:Kd 1 kL ah
 hO:Kd 1 kO aq
abbrev dz(m:Md):AV:=.agg [.int .i64 m.g.ins,.list false m.g.kn (m.g.next.map i64),.list false m.g.ki (m.g.init.map i64),.list false m.g.ka (m.g.ands.map dI),.list false m.g.ko (m.g.outs.map i64),
 .list false m.kI (m.an.map .str),.list false m.kL (m.ah.map .str),.list false m.kO (m.aq.map .str)]
def vN:Md:=⟨tp,[],[],[],0,0,0,.nil,.nil,.nil⟩
def tv(m:List (Bs×Nat))(s:Bs):Nat:=match getM s m with
 |some v=>v
 |none=>0
def fy(m:List (Bs×Nat))(l:List Bs):List Nat:=l.map (tv m)
def oR(n:Nat):List Nat:=(List.range n).map fun i=>2*(i+1)
def dS(c:Ct):Gr:=⟨c.an.length,List.replicate c.ah.length 0,c.ah.map (·.init),[],[],1,1,0,0,.self,.self,.nil,.nil⟩
def l6(c:Ct):List Nat->Gr->List Nat->Gr×Option (List Nat)
 |[],x,v=>(x,some v)
 |a::r,x,v=>match c.af[a]? with
  |none=>(x,none)
  |some g=>ky (lW x g (fy ((aD c).zip v) g.ins)) fun y d=>l6 c r y (v.set (c.an.length+c.ah.length+a) d)
def tf(c:Ct):Gr×Option (List Nat):=l6 c (aV c) (dS c) (oR (aD c).length)
def dF(c:Ct)(y:Gr)(v:List Nat):Gr:={y with
 next:=(fy ((aD c).zip v) (c.ah.map (·.next))).map fun n:Nat=>(n:Int),kn:=1,hn:=.self
 outs:=(fy ((aD c).zip v) c.aq).map fun n:Nat=>(n:Int),ko:=1,ho:=.self}
def Cf(c:Ct)(y:Gr)(v:List Nat):Md:=⟨(dF c y v).normal,c.an,c.ah.map (·.name),c.aq,1,1,1,.self,.self,.self⟩
def PT(c:Ct):Md×Int×Bs:=
 if(mJ c).1=0 then(match(tf c).2 with
  |none=>(vN,8,[])
  |some v=>(Cf c (tf c).1 v,0,[]))else(vN,mJ c)
theorem _root_.Go.AM.Reach.B4{P:Program}{f:FuncId}{args:List AV}{up:List Fr}{h:List Ob}{v:AV}(J:List Ob)(hw:cL h)(hv:aK h.length v=true)(h1:AM.Reach P Γ (.cl f args up h) (.back up v (h++J))):AM.Reach P Γ (.cl f args up h) (.back up v h):=by
 have:=AM.Reach.leave h1 hv (by rw[JV rfl];exact hw _ (aO _));rwa[JV rfl]at this
abbrev mdC(c:Ct)(L:AV):Ob:=.cells [.int .i64 0,.list true 0 [],.list true 0 [],.list true 0 [],.list true 0 [],.list false 1 (c.an.map .str),L,.list false 1 (c.aq.map .str)]
abbrev hA(c:Ct)(L:AV)(B:Ob)(m:List (Bs×Nat)):List Ob:=[.cells (AV.cells (bW c)),mdC c L,.row 1 av [] none true false,.row 1 av [] none true false,.row 2 dv [] none true false,.row 1 av [] none true false,.row 1 aw [] none true false,.row 1 aw [] none true false,.row 1 aw [] none true false,
 .cells [.int .i64 0],.cells [.str []],B,.map (m.map lu) true,.cells [.mp 12]]
@[simp] theorem avl(n k:Nat)(z:Int):aL n (List.replicate k (.int .i64 z))=true:=by
 induction k with
 |zero=>rfl
 |succ k ih=>simp[lA,ih]
@[simp] theorem avk(i m k:Nat)(z:Int):cW i m (List.replicate k (.int .i64 z))=true:=by
 induction k with
 |zero=>rfl
 |succ k ih=>simp[lA,ih]
theorem Mk(n:Nat):(oR n).length=n:=by simp[oR]
abbrev hB(c:Ct)(m:List (Bs×Nat))(i:Nat):List Ob:=hA c (.sl 15 0 i) (.cells [.int .i64 c.an.length,.list false 1 (List.replicate c.ah.length (.int .i64 0)),.sl 16 0 i,.list false 0 [],.list false 0 []]) m++
 [.row 1 aw ((c.ah.take i).map fun q=>.str q.next) none true false,.row 1 aw ((c.ah.take i).map fun q=>.str q.name) none true false,.row 1 av ((c.ah.take i).map fun q=>.int .i64 q.init) none true false]
def rq(c:Ct)(p:List Nat)(k:Nat):Prop:=k<c.an.length+c.ah.length\/∃j∈p,k=c.an.length+c.ah.length+j
def vD(c:Ct)(x:Gr)(v:List Nat)(p:List Nat):Prop:=∀k(hk:k<v.length),rq c p k->v[k]<x.lits
theorem ri:∀(N:List Bs)(v:List Nat)(k:Nat)(hn:N.Nodup)(hk:k<N.length)(hv:v.length=N.length),tv (N.zip v) N[k]=v[k]'(by omega)
 |[],v,k,hn,hk,hv=>by simp at hk
 |s::N,[],k,hn,hk,hv=>by simp at hv
 |s::N,a::v,0,hn,hk,hv=>by simp[tv,getM]
 |s::N,a::v,k+1,hn,hk,hv=>by
  rw[kM]at hn
  have hk':k<N.length:=by simpa using hk
  have ih:=ri N v k hn.2 hk' (by simpa using hv)
  have hne:¬N[k]=s:=fun e=>hn.1 (by rw[<-e];exact bF hk')
  simp only[tv,z1,tG,getM,hne,cT]at ih⊢;exact ih
theorem GZ(c:Ct){a:Nat}(ha:a<c.af.length):∃h:c.an.length+c.ah.length+a<(aD c).length,(aD c)[c.an.length+c.ah.length+a]=c.af[a].name:=by
 have h:c.an.length+c.ah.length+a<(aD c).length:=by simp[aD];try omega
 refine⟨h,?_⟩
 have:(aD c)[c.an.length+c.ah.length+a]? =some c.af[a].name:=by
  rw[aD,df (by simp),gK]
  rw[show c.an.length+c.ah.length+a-(c.an++c.ah.map (·.name)).length=a by simp,aM ha];rfl
 exact(dd.1 this).2
theorem uI(c:Ct):(aD c).length=c.an.length+c.ah.length+c.af.length:=by simp[aD,kJ]
theorem aas{c:Ct}(ok:ew c){i:Nat}(hi:i<(aV c).length){s:Bs}(hs:s∈(c.af[(aV c)[i]]'(pJ c _ (bF hi))).ins):∃k,∃hk:k<(aD c).length,(aD c)[k]=s/\rq c ((aV c).take i) k:=by
 have ha:=pJ c _ (bF hi)
 have hu:s∈eU c:=by
  simp only[eU,lZ,aN,nD];exact .inr ⟨_,bF ha,hs⟩
 obtain⟨k,hk,he⟩:=eM (ok.used s hu);refine⟨k,hk,he,?_⟩
 by_cases h1:k<c.an.length+c.ah.length
 ·exact .inl h1
 ·have hl:=uI c
  have hj:k-(c.an.length+c.ah.length)<c.af.length:=by omega
  obtain⟨h2,h3⟩:=GZ c hj;refine .inr ⟨k-(c.an.length+c.ah.length),aa6 c hi ((y0 ha hj).2 ?_),by omega⟩;rw[<-h3]
  have e:c.an.length+c.ah.length+(k-(c.an.length+c.ah.length))=k:=by omega
  simp only[e,he];exact hs
theorem BX{c:Ct}{x:Gr}{v p:List Nat}(hn:(aD c).Nodup)(hv:v.length=(aD c).length)(h:vD c x v p){l:List Bs}(hl:∀s∈l,∃k,∃hk:k<(aD c).length,(aD c)[k]=s/\rq c p k):∀a∈fy ((aD c).zip v) l,a<x.lits:=by
 intro a ha;obtain⟨s,hs,rfl⟩:=b_.1 ha;obtain⟨k,hk,rfl,hc⟩:=hl s hs;rw[ri _ _ k hn hk hv];exact h k (by omega) hc
theorem vD.step{c:Ct}{x y:Gr}{v p:List Nat}(h:vD c x v p)(hxy:x.lits<=y.lits){a d:Nat}(hd:d<y.lits):vD c y (v.set (c.an.length+c.ah.length+a) d) (p++[a]):=by
 intro k hk hc;rw[List.getElem_set]
 split
 ·exact hd
 ·rename_i hne;refine oi (h k (by simpa using hk) ?_) hxy
  rcases hc with hc|⟨j,hj,rfl⟩
  ·exact .inl hc
  ·rcases aN.1 hj with hj|hj
   ·exact .inr ⟨j,hj,rfl⟩
   ·simp only[cq]at hj;subst hj;exact absurd rfl hne
theorem uu(m:List (Bs×Nat))(l:List Bs):(fy m l).length=l.length:=by simp[fy]
abbrev aeO(c:Ct):AV:=.list false 1 ((c.ah.map (·.name)).map .str)
abbrev hM(c:Ct)(x:Gr)(v:List Nat):List Ob:=hA c (aeO c) (oV x) ((aD c).zip v)
theorem MZ(c:Ct){a:Nat}(ha:a<c.af.length)(r:List Nat)(x:Gr)(v:List Nat):l6 c (a::r) x v=ky (lW x c.af[a] (fy ((aD c).zip v) c.af[a].ins)) fun y d=>l6 c r y (v.set (c.an.length+c.ah.length+a) d):=by
 rw[l6,aM ha]
theorem O0{c:Ct}(hc:cB c)(ok:ew c):(dS c).Ok:=by
 have h0:=ok.ni;simp only[fI,j_,iz]at h0;refine⟨⟨by simp[dS],by simp[dS];omega⟩,by simp[dS];omega,by simp[dS],by simp[dS],fun a ha=>?_,fun a ha=>?_,fun a ha=>by simp[dS]at ha,fun i hi=>by simp[dS]at hi⟩
 ·simp only[dS,b_]at ha;obtain⟨q,hq,rfl⟩:=ha;have:=ok.init q hq;simpa[lU]using this
 ·simp only[dS,TM]at ha;obtain⟨_,rfl⟩:=ha;have:=xG (dS c);omega
theorem abn{c:Ct}(hc:cB c):vD c (dS c) (oR (aD c).length) []:=by
 intro k hk h
 rcases h with h|⟨j,hj,_⟩
 ·have e:(oR (aD c).length)[k]=2*(k+1):=by simp[oR]
  rw[e];simp only[Gr.lits,Gr.all,Gr.first,dS,dt,pv,c9];omega
 ·cases hj
theorem K3(a b:List Bs){ka kb:Nat}(ha:Kd 1 ka a)(hb:Kd 1 kb b)(hl:a.length+b.length<2^40):aP Tryz.prog Γ nG [.list false 1 [.list false ka (a.map .str),.list false kb (b.map .str)]] (.own 1 aw ((a++b).map .str)):=by
 by_cases h:a++b=[]
 ·rw[JN]at h;have:=JW (Γ:=Γ) [(ka,a),(kb,b)] (by simp[h]) (by simp);simpa[h,n6]using this
 ·have h2:0<(a++b).length:=rQ.2 h;have:=JY (Γ:=Γ) [(ka,a),(kb,b)] (by simp[ha,hb]) (by simp) (by simp[cg];omega) (by simpa[cg]using h2);simpa[cg,n6]using this
theorem aeU(l:List Bs):nh Tryz.prog Γ (fun _=>True) Av [] AV.str (fun s=>!fC s) l:=by
 refine⟨by simp,fun s hs up h _=>?_⟩;refine .bJ 60 Wf ?_;simp;refine .jR 60 (by simp) (P' s) ?_;simp
theorem GQ(l:List Bs){k:Nat}(hk:Kd 1 k l)(hl:l.length<2^40):aP Tryz.prog Γ uc [.list false k (l.map .str)] (.bool (bC (fun s=>!fC s) l)):=by
 refine .run 60 Xw (by simp) ?_;simp;refine .bA 60 (DT (Γ:=Γ) (fl:=false) (aeU l) hk (by omega) (h:=[]) trivial) ?_;simp;exact .back (by simp)
def rA(l:List Bs):Bool:=(iF l).isSome
theorem afs(l:List Bs){k:Nat}(hk:Kd 1 k l)(hl:l.length<2^40):∀n i:Nat,i+n=l.length->∀seen:List Bs,
 aB Tryz.prog Γ (ype (.mp 0) (.list false k (l.map .str)) (.int .i64 l.length) (.int .i64 i) [.map (seen.map jX) true]) (.ret (.bool (lK seen (l.drop i)).isSome)):=by
 intro n
 induction n with
 |zero=>
  intro i hi seen
  have q1:¬i<l.length:=by omega
  rw[bT (by omega),lK];refine .go 60 ?_;simp[q1];exact .back (by simp)
 |succ n ih=>
  intro i hi seen
  have q1:i<l.length:=by omega
  have q2:=bU (hk.of q1);have hf:=w7 l[i] seen;rw[bZ q1,lK];refine .go 60 ?_
  by_cases hm:l[i]∈seen
  ·simp[hm]at hf;simp[q1,q2,hf,hm,isKey,bM,cj];exact .back (by simp)
  ·have hh:=ih (i+1) (by omega) (seen++[l[i]]);have hput:=AY (v:=.bool true) hm;simp[hm]at hf;simp(disch:=omega) [q1,q2,hf,hm,hput,isKey,bM,cj];refine .aR ?_;simp at hh⊢;exact hh
theorem Om(l:List Bs){k:Nat}(hk:Kd 1 k l)(hl:l.length<2^40):aP Tryz.prog Γ tX [.list false k (l.map .str)] (.bool (rA l)):=by
 refine .run 60 VY (by simp) ?_;simp;refine .inLoop ?_;have hh:=afs (Γ:=Γ) l hk hl l.length 0 (by omega) [];simp[rA,iF]at hh⊢;exact hh
def dA(m:Md)(s:Bs):Int:=if gG s (m.an++m.ah) 0<0 then-1 else gG s (m.an++m.ah) 0+1
theorem Gl(s:Bs):∀(l:List Bs)(i:Nat),gG s l i<(i+l.length:Nat)
 |[],i=>by simp[gG];omega
 |a::l,i=>by
  rw[gG];have:=Gl s l (i+1)
  split
  ·simp;omega
  ·simp at this⊢;omega
theorem B2(s:Bs):∀(l:List Bs)(i:Nat),-1<=gG s l i
 |[],i=>by simp[gG]
 |a::l,i=>by
  rw[gG];have:=B2 s l (i+1)
  split<;>omega
theorem F6(m:Md)(s:Bs)(hI:m.an.length<2^30)(hL:m.ah.length<2^30):aP Tryz.prog Γ tU [dz m,.str s] (.int .i64 (dA m s)):=by
 have h1:=K3 (Γ:=Γ) m.an m.ah m.hI m.hL (by omega);have h2:=NA (Γ:=Γ) (m.an++m.ah) s (k:=1) .self (by simp;omega);have h3:=Gl s (m.an++m.ah) 0;have h4:=B2 s (m.an++m.ah) 0;simp only[bq]at h3;unfold dA;generalize gG s (m.an++m.ah) 0=n at*;refine .run 60 VQ (by simp) ?_;simp;refine .call 60 (by simp) h1 ?_;simp;have htk:(m.an.map AV.str++m.ah.map AV.str).take (m.an.length+m.ah.length)=m.an.map AV.str++m.ah.map AV.str:=cJ (by simp);refine .call 60 (by simp[htk]) h2 ?_
 by_cases h:n<0
 ·simp[h];exact .back (by simp)
 ·simp(disch:=omega) [h];exact .back (by simp)
def Qs(a b:Md):Bool:=gT a.g b.g&&(decide (a.an=b.an)&&(decide (a.ah=b.ah)&&decide (a.aq=b.aq)))
def nq(m:Md):Prop:=m.g.me/\m.an.length<2^30/\m.ah.length<2^30/\m.aq.length<2^30
def th(m:Md):List Bs->List Int->Bool
 |s::l,a::r=>(decide (0<=dA m s)&&!decide (a=2*dA m s))||th m l r
 |_,_=>false
def o9(m:Md):Bool:=!decide ((m.an.length:Int)=m.g.ins)||(!decide (m.ah.length=m.g.next.length)||!decide (m.aq.length=m.g.outs.length))
def Ho(m:Md):Bool:=bC (fun s=>!fC s) m.an||(bC (fun s=>!fC s) m.ah||bC (fun s=>!fC s) m.aq)
def iY(m:Md):Int:=if m.g.check≠0 then m.g.check else if o9 m=true then 1 else if Ho m=true then 4 else if(rA (m.an++m.ah)||rA m.aq)=true then 5 else if th m m.aq m.g.outs=true then 5 else 0
theorem KS(m:Md)(s:Bs):-1<=dA m s/\dA m s<=m.an.length+m.ah.length:=by
 have h3:=Gl s (m.an++m.ah) 0;have h4:=B2 s (m.an++m.ah) 0;simp only[bq]at h3;unfold dA
 split<;>omega
set_option maxRecDepth 8000 in
theorem afH(m:Md)(hI:m.an.length<2^30)(hL:m.ah.length<2^30)(hO:m.aq.length=m.g.outs.length)(hl:m.g.outs.length<2^30):∀n i:Nat,i+n=m.aq.length->
 aB Tryz.prog Γ (yiE (.ptr 0 0) (.list false m.kO (m.aq.map .str)) (.int .i64 m.aq.length) (.int .i64 i) [.cells (AV.cells (dz m))]) (.ret (.int .i64 (if th m (m.aq.drop i) (m.g.outs.drop i)=true then 5 else 0))):=by
 intro n
 induction n with
 |zero=>
  intro i hi
  have q1:¬i<m.aq.length:=by omega
  rw[bT (by omega),th]
  ·refine .go 60 ?_;simp[q1];exact .back (by simp)
  ·intro s l a r h;cases h
 |succ n ih=>
  intro i hi
  have q1:i<m.aq.length:=by omega
  have q3:i<m.g.outs.length:=by omega
  have q2:=bU (m.hO.of q1);have q4:=bU (m.g.ho.of q3);have hh:=ih (i+1) (by omega);have hP:=F6 (Γ:=Γ) m m.aq[i] hI hL;obtain⟨hp1,hp2⟩:=KS m m.aq[i];rw[bZ q1,bZ q3,th];generalize dA m m.aq[i]=p at*;refine .go 60 ?_;simp[q1,q2];refine .call 60 (by simp) hP ?_
  by_cases c1:0<=p
  ·by_cases c2:m.g.outs[i]=2*p
   ·simp(disch:=omega) [c1,c2,q3,q4];refine .aR ?_;simp[c1,c2]at hh⊢;refine .drop 1 rfl (by simp) (by simp) (by simp) ?_;exact hh
   ·simp(disch:=omega) [c1,c2,q3,q4];exact .back (by simp)
  ·simp(disch:=omega) [c1];refine .aR ?_;simp[c1]at hh⊢;refine .drop 1 rfl (by simp) (by simp) (by simp) ?_;exact hh
set_option maxRecDepth 8000 in
theorem abU(m:Md)(hb:nq m):aP Tryz.prog Γ wP [dz m] (.int .i64 (iY m)):=by
 obtain⟨f,f1,f2,f3⟩:=hb;obtain⟨g1,g2,g3,g4⟩:=f;have h0:=Ej (Γ:=Γ) m.g ⟨g1,g2,g3,g4⟩;have o1:=GQ (Γ:=Γ) m.an m.hI (by omega);have o2:=GQ (Γ:=Γ) m.ah m.hL (by omega);have o3:=GQ (Γ:=Γ) m.aq m.hO (by omega);have cc:=K3 (Γ:=Γ) m.an m.ah m.hI m.hL (by omega);have t1:=Om (Γ:=Γ) (m.an++m.ah) (k:=1) .self (by simp;omega);have t2:=Om (Γ:=Γ) m.aq m.hO (by omega);unfold iY;refine .run 60 V2 (by simp) ?_;simp;refine .call 60 (by simp) h0 ?_
 by_cases c0:m.g.check=0
 ·by_cases l1:(m.an.length:Int)=m.g.ins
  ·by_cases l2:m.ah.length=m.g.next.length
   ·by_cases l3:m.aq.length=m.g.outs.length
    ·have hf:=afH (Γ:=Γ) m f1 f2 l3 (by omega) m.aq.length 0 (by omega)
     have hlm:o9 m=false:=by simp[o9,l1,l2,l3]
     simp[c0,l1,l2,l3,hlm];refine .call 60 (by simp) o1 ?_;unfold Ho
     cases bC (fun s=>!fC s) m.an
     ·simp;refine .call 60 (by simp) o2 ?_
      cases bC (fun s=>!fC s) m.ah
      ·simp;refine .call 60 (by simp) o3 ?_
       cases bC (fun s=>!fC s) m.aq
       ·simp;refine .call 60 (by simp) cc ?_;have htk:(m.an.map AV.str++m.ah.map AV.str).take (m.an.length+m.ah.length)=m.an.map AV.str++m.ah.map AV.str:=cJ (by simp);simp;refine .call 60 (by simp[htk]) t1 ?_
        cases rA (m.an++m.ah)
        ·simp;refine .call 60 (by simp) t2 ?_
         cases rA m.aq
         ·simp;refine .inLoop ?_;simp at hf⊢;refine .drop 1 rfl (by simp) (by simp) (by simp) ?_;exact hf
         ·simp;exact .back (by simp)
        ·simp;exact .back (by simp)
       ·simp;exact .back (by simp)
      ·simp;exact .back (by simp)
     ·simp;exact .back (by simp)
    ·have hlm:o9 m=true:=by simp[o9,l3]
     simp[c0,l1,l2,l3,hlm];exact .back (by simp)
   ·have hlm:o9 m=true:=by simp[o9,l2]
    simp[c0,l1,l2,hlm];exact .back (by simp)
  ·have hlm:o9 m=true:=by simp[o9,l1]
   simp[c0,l1,hlm];exact .back (by simp)
 ·simp[c0];exact .back (by simp)
end Go.Proofs.YtchjijfjidlpjaaGreatDoor
namespace Go.Proofs.YtchjijfjidlpjaaGreatDoor
open Go.AM Go.Proofs
theorem acp{n:Nat}(h:¬n<10):Lib.decDigits n=Lib.decDigits (n/10)++[UInt8.ofNat (48+n%10)]:=by rw[Lib.decDigits,dif_neg h]
theorem Fc{n:Nat}(h:n<10):Lib.decDigits n=[UInt8.ofNat (48+n)]:=by rw[Lib.decDigits,dif_pos h]
def rn(m:Nat):UInt8:=UInt8.ofNat (48+m)
theorem pK{n:Nat}(h:¬n<10):Lib.decDigits n=Lib.decDigits (n/10)++[rn (n%10)]:=acp h
theorem lE{n:Nat}(h:n<10):Lib.decDigits n=[rn n]:=Fc h
theorem acx:∀(m a b:Nat),a<=m->Lib.decDigits a=Lib.decDigits b->a=b:=by
 have hd:∀x y:Nat,x<10->y<10->rn x=rn y->x=y:=by
  intro x y hx hy h
  have:∀x y:Fin 10,rn x.val=rn y.val->x.val=y.val:=by decide+kernel
  exact this ⟨x,hx⟩ ⟨y,hy⟩ h
 intro m
 induction m with
 |zero=>
  intro a b ha h
  obtain rfl:a=0:=by omega
  by_cases hb:b<10
  ·rw[lE (by omega),lE hb]at h;exact hd _ _ (by omega) hb (by simpa using h)
  ·rw[lE (by omega),pK hb]at h;have:=congrArg List.length h
   have h2:1<=(Lib.decDigits (b/10)).length:=by
    by_cases h3:b/10<10
    ·rw[lE h3];simp
    ·rw[pK h3];simp
   simp only[bq,bz,c9]at this;omega
 |succ m ih=>
  have hne:∀n,1<=(Lib.decDigits n).length:=by
   intro n
   by_cases h3:n<10
   ·rw[lE h3];simp
   ·rw[pK h3];simp
  intro a b ha h
  by_cases h1:a<10
  ·by_cases hb:b<10
   ·rw[lE h1,lE hb]at h;exact hd _ _ h1 hb (by simpa using h)
   ·rw[lE h1,pK hb]at h;have:=congrArg List.length h;have:=hne (b/10)
    simp only[bq,bz,c9]at*;omega
  ·by_cases hb:b<10
   ·rw[lE hb,pK h1]at h;have:=congrArg List.length h;have:=hne (a/10)
    simp only[bq,bz,c9]at*;omega
   ·rw[pK h1,pK hb]at h;have h2:=List.append_inj' h rfl;have h3:=ih (a/10) (b/10) (by omega) h2.1;have h4:=hd _ _ (by omega) (by omega) (List.cons.inj h2.2).1;omega
theorem xt{α:Type}[DecidableEq α]:∀(l m:List α),l.Nodup->(∀x∈l,x∈m)->l.length<=m.length
 |[],m,_,_=>zS _
 |x::l,m,hn,hs=>by
  have hx:=hs x (ov ..);rw[kM]at hn;have:=xt l (m.erase x) hn.2 (fun y hy=>(List.mem_erase_of_ne (by rintro rfl;exact hn.1 hy)).2 (hs y (dP _ hy)));rw[TG hx]at this;have hp:=DD hx
  rw[bz];omega
def oh(used:List (List UInt8))(stem:List UInt8):Nat->Nat->List UInt8
 |0,k=>stem++Lib.decDigits k
 |n+1,k=>if used.contains (stem++Lib.decDigits k)=true then oh used stem n (k+1)else stem++Lib.decDigits k
def ff(used:List (List UInt8))(stem:List UInt8):List UInt8:=oh used stem used.length 1
theorem Po{used:List (List UInt8)}{stem:List UInt8}:∀(n k:Nat),oh used stem n k∈used->∀j,k<=j->j<=k+n->stem++Lib.decDigits j∈used
 |0,k,h,j,h1,h2=>by obtain rfl:j=k:=by omega
                    exact h
 |n+1,k,h,j,h1,h2=>by
  rw[oh]at h
  split at h
  ·rename_i hc
   by_cases hj:j=k
   ·subst hj;simpa using hc
   ·exact Po n (k+1) h j (by omega) (by omega)
  ·rename_i hc;exact absurd (by simpa using h) hc
theorem L_(used:List (List UInt8))(stem:List UInt8):ff used stem∉used:=by
 intro h;have h1:=Po used.length 1 h
 have h2:=xt ((List.range (used.length+1)).map fun j=>stem++Lib.decDigits (j+1)) used (by
  rw[DK,List.pairwise_map];refine List.Pairwise.imp ?_ (DK.1 JH);intro a b hab he
  exact hab (by have:=acx _ (a+1) (b+1) (aO _) (List.append_cancel_left he);omega)) (by
  intro x hx;obtain⟨j,hj,rfl⟩:=b_.1 hx;have:=dL.1 hj
  exact h1 (j+1) (by omega) (by omega))
 simp only[eb,pt]at h2;omega
theorem NO{used:List (List UInt8)}{stem:List UInt8}:∀(n k:Nat),∃j,k<=j/\j<=k+n/\oh used stem n k=stem++Lib.decDigits j
 |0,k=>⟨k,by omega,by omega,rfl⟩
 |n+1,k=>by
  rw[oh]
  split
  ·obtain⟨j,h1,h2,h3⟩:=NO (used:=used) (stem:=stem) n (k+1);exact⟨j,by omega,by omega,h3⟩
  ·exact⟨k,by omega,by omega,rfl⟩
theorem L9:∀(m n:Nat),n<10^(m+1)->(Lib.decDigits n).length<=m+1
 |0,n,h=>by rw[lE (by simpa using h)];simp
 |m+1,n,h=>by
  by_cases h3:n<10
  ·rw[lE h3];simp
  ·rw[pK h3]
   have:n/10<10^(m+1):=by
    rw[Nat.pow_succ]at h;omega
   have:=L9 m (n/10) this
   simp;omega
theorem NU{n:Nat}(h:n<10^7):(Lib.decDigits n).length<=7:=L9 6 n h
def sW(s:Bs)(op:Int):Gt:=⟨s,op,[],[],false,0,0,.nil,.nil⟩
def eB(s:Bs)(op:Int)(l:List Bs):Gt:=⟨s,op,l,[],false,1,0,.self,.nil⟩
def db(m:List (Nat×Bs))(a:Nat):Bs:=match getM a m with
 |some s=>s
 |none=>[]
inductive By where
 |one (b:Bool)
 |q8 (a:Nat)
 |both (p q:Nat)
def By.gate(m:List (Nat×Bs))(s:Bs):By->Gt
 |.one b=>sW s (if b then 1 else 0)
 |.q8 a=>eB s 3 [db m (a^^^1)]
 |.both p q=>eB s 4 [db m p,db m q]
def eZ(a:Nat):By:=if a<2 then .one (decide (a=1))else .q8 a
structure Ra where
 af:List Gt
 used:List Bs
 a8:List (Nat×Bs)
abbrev eW:Bs:=[110]
def Ra.make(x:Ra)(a:Nat)(b:By):Ra:=⟨x.af++[b.gate x.a8 (ff x.used eW)],x.used++[ff x.used eW],x.a8++[(a,ff x.used eW)]⟩
def Ra.cQ(x:Ra)(a:Nat):Ra:=match getM a x.a8 with
 |some _=>x
 |none=>x.make a (eZ a)
def mN(first:Nat):List (Int×Int)->Nat->Ra->Ra
 |[],_,x=>x
 |p::ps,i,x=>mN first ps (i+1) (((x.cQ p.1.toNat).cQ p.2.toNat).make (2*(first+i)) (.both p.1.toNat p.2.toNat))
def gV:List Bs->List Int->List Int->Ra->Ra×List Lt
 |s::l,a::n,v::i,x=>((gV l n i (x.cQ a.toNat)).1,⟨s,db (x.cQ a.toNat).a8 a.toNat,v⟩::(gV l n i (x.cQ a.toNat)).2)
 |_,_,_,x=>(x,[])
def mb(m:List (Nat×Bs))(s:Bs)(a:Nat):Gt:=if 2<=a/\a%2=0 then eB s 2 [db m a]else(eZ a).gate m s
def jY(d:Md)(m:List (Nat×Bs)):List Bs->List Int->List Gt
 |s::l,a::r=>if dA d s<0 then mb m s a.toNat::jY d m l r else jY d m l r
 |_,_=>[]
def gX:Nat->List Bs->List (Nat×Bs)
 |_,[]=>[]
 |k,s::l=>(2*(k+1),s)::gX (k+1) l
def jC(m:Md):Ra:=⟨[],m.an++m.ah++m.aq,gX 0 (m.an++m.ah)⟩
def bp(m:Md):Md:={m with g:=m.g.normal}
def n4(m:Md):Md×Int:=if iY m=0 then(bp m,0)else(vN,iY m)
def mi:Ct:=⟨[],[],[],[],0,0,0,0,.nil,.nil,.nil,.nil⟩
def rK(n:Md):Ra:=mN n.g.first n.g.ands 0 (jC n)
def dn(n:Md):Ra×List Lt:=gV n.ah n.g.next n.g.init (rK n)
def aI(n:Md):Ct:=⟨n.an,n.aq,(dn n).2,(dn n).1.af++jY n (dn n).1.a8 n.aq n.g.outs,1,1,3,5,.self,.self,.self,.self⟩
def dR(m:Md):Ct×Int:=if iY m=0 then(if(eg (aI (bp m))).1=0 then(aI (bp m),0)else(mi,8))else(mi,iY m)
end Go.Proofs.YtchjijfjidlpjaaGreatDoor
namespace Go.Proofs.YtchjijfjidlpjaaGreatDoor
open Go.AM Go.Proofs Go.RowKit Go.Sort
variable{Γ:Nat->Option AV}
def l9(Γ:Nat->Option AV):Prop:=Γ Hw=some (.agg (Lib.pow10Tab.map fun z=>.int .u64 z))
theorem Yi(w:World)(k:Nat)(os:Array Obj):Below w.heap.size w (grow (w.drewN k) os):=by
 refine⟨rfl,rfl,rfl,by simp[grow,World.drewN],fun b hb=>?_⟩
 show(w.heap++os)[b]? =w.heap[b]?
 rw[Array.getElem?_append_left hb]
theorem aec{w:World}{t q}(h:w.heap[Hw]? =some (.cells (Lib.pow10Tab.map fun z=>Value.int .u64 z).toArray t q)):Lib.TabIs Tryz.prog w "internal/strconv.uint64pow10" .u64 Lib.pow10Tab:=by
 unfold Lib.TabIs World.var?;rw[Gz];simp[h]
theorem PR(hΓ:l9 Γ)(k:Nat)(hk:k<2^21):aP Tryz.prog Γ D1 [.int .i64 k] (.str (Lib.decDigits k)):=by
 refine aP.QJ (by simp) (fun _=>rfl) rfl fun N g h w us H hV=>?_
 obtain⟨us,rfl,h2⟩:=ad4 hV;obtain rfl:=OG h2;obtain⟨t,q,hp⟩:=H.lx _ _ (by decide) hΓ;refine(Tryz.strconv_Itoa k (by omega) (by omega) w (aec (H.fm _ _ hp))).mono ?_
 rintro e w' ⟨rfl,n,os,rfl⟩
 have e:Lib.itoa (k:Int)=Lib.decDigits k:=by unfold Lib.itoa;rw[if_neg (by omega)];simp
 refine⟨⟨_,rfl,fun _ _=>?_⟩,Yi w n os⟩;rw[e];simp[V]
theorem NY{n:Nat}(h:n<2^21):(Lib.decDigits n).length<=7:=NU (by omega)
abbrev QG(used:List (List UInt8))(kd:Nat)(stem:List UInt8):List Fr:=[⟨.run,tY,[It.jO 4,It.inBlock 0 [],It.code ((al.ae Ta).seq al.ret)],
 [.list false kd (used.map .str),.str stem,.ptr 0 0,U,.str [],.ptr 1 0,U,.str stem,.str stem,.fn (.func wM) [] [.ptr 2 0],U,U,U,U,U,U,U],[.mark 3],.norm,0⟩]
abbrev vT(used:List (List UInt8))(kd:Nat)(fresh stem:List UInt8)(st:LoopState)(j:Jump):List Ob:=[.cells [.list false kd (used.map .str)],.cells [.str fresh],.cells [.str stem],.bH true,
 .loop st j tY [U,U,.ptr 0 0,U,.str [],.ptr 1 0,U,U,U,U,U,U,U,U,U,U,U] [10] (.ae Te) Q1]
theorem acG(used:List (List UInt8)){kd:Nat}(hk:Kd 1 kd used)(hl:used.length<2^20)(stem s:List UInt8)(h:s∈used):∀up,AM.Reach Tryz.prog Γ ((iR.yl 4).cfg [.str s] up (vT used kd stem stem .ready .none)) (.back up (.bool true) (vT used kd stem stem .ready .none)):=by
 intro up;have hc:=KQ (Γ:=Γ) used s hk (by omega);simp[lN];refine .bw 60 ?_;simp;refine .jR 60 (by simp) hc ?_;simp[h]
theorem aeT(used:List (List UInt8)){kd:Nat}(hk:Kd 1 kd used)(hl:used.length<2^20)(stem s:List UInt8)(h:¬s∈used):∀up,AM.Reach Tryz.prog Γ ((iR.yl 4).cfg [.str s] up (vT used kd stem stem .ready .none)) (.back up (.bool false) (vT used kd s stem .done (.exit 0))):=by
 intro up;have hc:=KQ (Γ:=Γ) used s hk (by omega);simp[lN];refine .bw 60 ?_;simp;refine .jR 60 (by simp) hc ?_;simp[h];exact .refl _
set_option maxRecDepth 8000 in
theorem acY(hΓ:l9 Γ)(used:List (List UInt8))(stem:List UInt8){kd:Nat}(hk:Kd 1 kd used)(hl:used.length<2^20)(hs:stem.length<2^40):aP Tryz.prog Γ tY [.list false kd (used.map .str),.str stem] (.str (ff used stem)):=by
 have stop:∀k:Nat,k<2^21->¬(stem++Lib.decDigits k∈used)->aB Tryz.prog Γ (Tv (.c8 4) (.ptr 2 0) (.int .i64 k) (vT used kd stem stem .ready .none) ⟨[],.norm,5,QG used kd stem⟩) (.ret (.str (stem++Lib.decDigits k))):=by
  intro k hk1 h;have hp:=PR hΓ k hk1;have hd:=NY hk1;refine .go 60 ?_;simp;refine .dr 60 ?_;simp;refine .call (by simp) hp ?_;simp(disch:=omega);refine .go (.bool false) _ (aeT used hk hl stem _ h) ?_;simp;exact .back (by simp)
 have key:∀n k:Nat,k+n<2^21->¬(oh used stem n k∈used)->aB Tryz.prog Γ (Tv (.c8 4) (.ptr 2 0) (.int .i64 k) (vT used kd stem stem .ready .none) ⟨[],.norm,5,QG used kd stem⟩) (.ret (.str (oh used stem n k))):=by
  intro n
  induction n with
  |zero=>
   intro k hn h;exact stop k (by omega) h
  |succ n ih=>
   intro k hn h;rw[oh]at h⊢
   by_cases h1:stem++Lib.decDigits k∈used
   ·have h2:used.contains (stem++Lib.decDigits k)=true:=by simpa using h1
    rw[if_pos h2]at h⊢;have hh:=ih (k+1) (by omega) h;have hp:=PR hΓ k (by omega);have hd:=NY (n:=k) (by omega);refine .go 60 ?_;simp;refine .dr 60 ?_;simp;refine .call (by simp) hp ?_;simp(disch:=omega);refine .go (.bool true) _ (acG used hk hl stem _ h1) ?_;simp(disch:=omega);refine .aR ?_;simp at hh⊢;exact hh
   ·have h2:¬used.contains (stem++Lib.decDigits k)=true:=by simpa using h1
    rw[if_neg h2];exact stop k (by omega) h1
 refine .run 60 V8 (by simp) ?_;simp;refine .enter 60 VU ?_;simp;refine .enter 60 Vg ?_;simp;refine .inLoop ?_;have hh:=key used.length 1 (by omega) (L_ used stem);unfold ff;simp at hh⊢;exact hh
end Go.Proofs.YtchjijfjidlpjaaGreatDoor
namespace Go.Proofs.YtchjijfjidlpjaaGreatDoor
open Go.AM Go.Proofs
variable{Γ:Nat->Option AV}
theorem _root_.Go.AM.Reach.GF{P:Program}{f:FuncId}{args:List AV}{up:List Fr}{h h':List Ob}{v:AV}(J:List Ob)(hl:h'.length=h.length)(hw:cL h')(hv:aK h.length v=true)(h1:AM.Reach P Γ (.cl f args up h) (.back up v (h'++J))):AM.Reach P Γ (.cl f args up h) (.back up v h'):=by
 have e:(h'++J).take h.length=h':=by rw[<-hl,JV rfl]
 have:=AM.Reach.leave h1 hv (by rw[e];exact hw _ (by omega));rwa[e]at this
abbrev kF(x:Nat×Bs):AV×AV:=(iN x.1,.str x.2)
theorem u9(a:Nat)(m:List (Nat×Bs)):eT (.sc .int) (.int .i64 (a:Int)) (m.map kF)=some ((getM a m).map .str):=xd sE .str a m
theorem PQ{a:Nat}{m:List (Nat×Bs)}(s:Bs)(h:getM a m=none):i_ (.sc .int) (.int .i64 (a:Int)) (.str s) (m.map kF)=some ((m++[(a,s)]).map kF):=xA sE .str s h
abbrev nb(s:Bs)(op:Int)(l:AV):AV:=.agg [.str s,.int .i64 op,l,.list true 0 [],.bool false]
def By.raw(m:List (Nat×Bs))(s:Bs):By->AV
 |.one b=>nb s (if b then 1 else 0) (.list true 0 [])
 |.q8 a=>nb s 3 (.list true 1 [.str (db m (a^^^1))])
 |.both p q=>nb s 4 (.list true 1 [.str (db m p),.str (db m q)])
abbrev Df:By->AV
 |.one b=>.bK DX (.agg [.bool b])
 |.q8 a=>.bK D4 (.agg [iN a])
 |.both p q=>.bK D_ (.agg [iN p,iN q])
theorem PS(b:Bool)(v:AV){h:List Ob}(hw:cL h):∀up,AM.Reach Tryz.prog Γ (.cl Af [.agg [.bool b],v] up h) (.back up (nb [] (if b then 1 else 0) (.list true 0 [])) h):=by
 intro up;refine .B4 [.cells [.bool b],.cells [.str [],.int .i64 (if b then 1 else 0),.list true 0 [],.list true 0 [],.bool false],.row 1 aw [] none true false,.row 1 aw [] none true false] hw (by simp) ?_;refine .bJ 60 Up ?_
 cases b
 ·simp
 ·simp
theorem MW(a:Nat)(ha:(a:Int)<2^60)(m:List (Nat×Bs)){q:Nat}{h:List Ob}(hq:h[q]? =some (.map (m.map kF) true))(hw:cL h):∀up,AM.Reach Tryz.prog Γ (.cl Aj [.agg [iN a],.mp q] up h) (.back up (nb [] 3 (.list true 1 [.str (db m (a^^^1))])) h):=by
 intro up
 have hget:=fun os=>gR hq os
 have hf:=u9 (a^^^1) m;refine .B4 [.cells [iN a],.cells [.str [],.int .i64 3,.list true 1 [.str (db m (a^^^1))],.list true 0 [],.bool false],.row 1 aw [] none true false,.row 1 aw [] none true false] hw (by simp) ?_;refine .bJ 60 Uy ?_;unfold db
 cases hg:getM (a^^^1) m with
 |none=>
  rw[hg]at hf;simp at hf;simp(disch:=omega) [hget,hf,isKey,bM,cj]
 |some s=>
  rw[hg]at hf;simp at hf;simp(disch:=omega) [hget,hf,isKey,bM,cj]
theorem adr(p p2:Nat)(m:List (Nat×Bs)){q:Nat}{h:List Ob}(hq:h[q]? =some (.map (m.map kF) true))(hw:cL h):∀up,AM.Reach Tryz.prog Γ (.cl An [.agg [iN p,iN p2],.mp q] up h) (.back up (nb [] 4 (.list true 1 [.str (db m p),.str (db m p2)])) h):=by
 intro up
 have hget:=fun os=>gR hq os
 have hf:=u9 p m;have hf2:=u9 p2 m;refine .B4 [.cells [iN p,iN p2],.cells [.str [],.int .i64 4,.list true 1 [.str (db m p),.str (db m p2)],.list true 0 [],.bool false],.row 1 aw [] none true false,.row 1 aw [] none true false] hw (by simp) ?_;refine .bJ 60 UU ?_;unfold db
 cases hg:getM p m<;>cases hg2:getM p2 m<;>rw[hg]at hf<;>rw[hg2]at hf2<;>simp at hf hf2<;>simp[hget,hf,hf2,isKey,bM,cj]<;>exact .refl _
theorem QI(a:Nat):aP Tryz.prog Γ wN [iN a] (Df (eZ a)):=by
 refine .run 60 Vu (by simp) ?_;unfold eZ
 by_cases h:a<2
 ·have h2:((a:Int)<2)=True:=bU (by omega)
  by_cases h1:a=1
  ·subst h1;simp;exact .back (by simp)
  ·obtain rfl:a=0:=by omega
   simp;exact .back (by simp)
 ·have h2:((a:Int)<2)=False:=kc (by omega);simp[h,h2];exact .back (by simp)
abbrev CM(I O:AV)(nl ng nu:Nat):Ob:=.cells [I,O,.sl 11 0 nl,.sl 10 0 ng,.sl 9 0 nu,.mp 8,.fn (.func rX) [] [.ptr 7 0],.fn (.func wN) [] []]
abbrev dN(a0 a1 a2 a3 a4 a5:Ob)(I O:AV)(nl:Nat)(x:Ra)(gu gg:Option Nat)(rL:Ob)(tl:List Ob):List Ob:=
 a0::a1::a2::a3::a4::a5::CM I O nl x.af.length x.used.length::.cells [.ptr 6 0]::.map (x.a8.map kF) true::.row 1 aw (x.used.map .str) gu true true::.row 5 lD (x.af.map eo) gg true false::rL::tl
structure il(a0 a1 a2 a3 a4 a5:Ob)(I O:AV)(rL:Ob)(tl:List Ob):Prop where
 a:∀n,12<=n->cI n [a0,a1,a2,a3,a4,a5,rL]=true
 i:∀n,12<=n->aK n I=true/\aK n O=true
 t:∀n,12<=n->cI n tl=true
theorem Py(n:Nat)(m:List (Nat×Bs)):gE n (m.map kF)=true:=by
 induction m with
 |nil=>rfl
 |cons x m ih=>simpa[gE]using ih
theorem LY(n:Nat)(l:List Bs):aL n (l.map AV.str)=true:=by
 induction l with
 |nil=>rfl
 |cons x m _=>simp[aL]
theorem aaM(n:Nat)(l:List Gt):aL n (l.map eo)=true:=by
 induction l with
 |nil=>rfl
 |cons x m ih=>simp[ih,LY]
section
variable{a0 a1 a2 a3 a4 a5 rL:Ob}{I O:AV}{tl:List Ob}
theorem il.wf(H:il a0 a1 a2 a3 a4 a5 I O rL tl)(nl:Nat)(x:Ra)(gu gg:Option Nat):cL (dN a0 a1 a2 a3 a4 a5 I O nl x gu gg rL tl):=by
 intro n hn;simp only[bz]at hn;have h1:=H.a n (by omega);have h2:=H.i n (by omega);have h3:=H.t n (by omega)
 have q:∀k,k<12->k<n:=fun k hk=>by omega
 have b1:=Py n x.a8;have b2:=LY n x.used;have b3:=aaM n x.af;simp at h1;simp[h1,h2,h3,q,b1,b2,b3]
theorem P5(H:il a0 a1 a2 a3 a4 a5 I O rL tl)(nl:Nat)(x:Ra)(gu gg:Option Nat)(hg:gg=none\/gg=some 0)(hl:x.af.length<2^30)(M:List (Nat×Bs))(b:By)(s:Bs):∀up,AM.Reach Tryz.prog Γ (.cl rX [b.raw M s,.ptr 7 0] up (dN a0 a1 a2 a3 a4 a5 I O nl x gu gg rL tl))
 (.back up (.aE []) (dN a0 a1 a2 a3 a4 a5 I O nl ⟨x.af++[b.gate M s],x.used,x.a8⟩ gu (some 0) rL tl)):=by
 intro up;have hw:=H.wf nl ⟨x.af++[b.gate M s],x.used,x.a8⟩ gu (some 0)
 have hle:((x.af.length:Int)+1)<=2^40:=by omega
 refine .GF [.cells (AV.cells (b.raw M s))] (by simp) hw rfl ?_
 rcases hg with rfl|rfl<;>cases b<;>(
  refine .bJ 60 Kg ?_;simp[By.raw];refine .eQ 60 ?_;simp(disch:=omega) [By.gate,sW,eB,hle]
  exact .refl _)
end
theorem aaV{a:Nat}{m:List (Nat×Bs)}{s:Bs}(h:getM a m=none):getM a (m++[(a,s)])=some s:=by
 induction m with
 |nil=>simp[getM]
 |cons x m ih=>
  rw[ep];rw[getM]at h⊢
  split at h
  ·cases h
  ·rename_i hx;rw[if_neg hx];exact ih h
theorem _root_.Go.AM.j5.sL{P:Program}{K:l7}{l:List Bool}{w:Nat}{ws:List Nat}{i:Nat}{d:Option Nat}{a:AO}{os:List AG}{t:List AV}{h:List Ob}{hs:List (List Ob)}{Cs:List (Nat×(List Ob->Prop))}{f:FuncId}{args:List AV}{v:AV}(Q:List Ob->Prop)(hb:aA P f=true)
 (hq:∀g,Q g->∀up,AM.Reach P Γ (.cl f args up g) (.back up v g))(h1:∀g∈hs,az P Γ t g a=.call f args/\Q g)
 (h3:cu P Γ K l ws (i+1) os (aU t d v) h hs ((w,fun g=>az P Γ t g a=.call f args/\Q g)::Cs)):j5 P Γ K true l w ws i d a os t h hs Cs f args:=
 ⟨hb,by
  rw[if_pos rfl]
  exact⟨v,_,fun g hg=>⟨hg.1,hq g hg.2⟩,h1,h3⟩⟩
def By.me:By->Prop
 |.one _=>True
 |.q8 a=>(a:Int)<2^60
 |.both _ _=>True
section
variable{a0 a1 a2 a3 a4 a5 rL:Ob}{I O:AV}{tl:List Ob}
theorem il.more(H:il a0 a1 a2 a3 a4 a5 I O rL tl){J:List Ob}(hJ:∀n,12<=n->cI n J=true):il a0 a1 a2 a3 a4 a5 I O rL (tl++J):=
 ⟨H.a,H.i,fun n hn=>by simp[H.t n hn,hJ n hn]⟩
theorem cL.app{h J:List Ob}(hw:cL h)(hJ:∀n,h.length+J.length<=n->cI n J=true):cL (h++J):=fun n hn=>by
 rw[bq]at hn;simp[hw n (by omega),hJ n hn]
theorem il.od(H:il a0 a1 a2 a3 a4 a5 I O rL tl)(nl:Nat)(x:Ra)(gu gg:Option Nat)(J:List Ob)(hJ:∀n,tl.length+12+J.length<=n->cI n J=true):cL (dN a0 a1 a2 a3 a4 a5 I O nl x gu gg rL (tl++J)):=
 (H.wf nl x gu gg).app (J:=J) fun n hn=>hJ n (by simp only[bz]at hn;omega)
set_option maxRecDepth 8000 in
theorem Pw(hΓ:l9 Γ)(H:il a0 a1 a2 a3 a4 a5 I O rL tl)(nl:Nat)(x:Ra)(gu gg:Option Nat)(hu:gu=none\/gu=some 0)(hg:gg=none\/gg=some 0)(hl:x.af.length<2^30)(hl2:x.used.length<2^20)(a:Nat)(hn:getM a x.a8=none)(b:By)(hb:b.me):
 ∀up,AM.Reach Tryz.prog Γ (.cl wF [.ptr 6 0,iN a,Df b] up (dN a0 a1 a2 a3 a4 a5 I O nl x gu gg rL tl)) (.back up (.aE []) (dN a0 a1 a2 a3 a4 a5 I O nl (x.make a b) (some 0) (some 0) rL tl)):=by
 intro up;have hw:=H.wf nl x gu gg;have hw2:=H.wf nl (x.make a b) (some 0) (some 0);have hF:=acY hΓ x.used eW (kd:=1) .self hl2 (by simp);have hput:=PQ (ff x.used eW) hn;refine .GF [.cells (AV.cells (By.raw x.a8 (ff x.used eW) b)),.row 1 aw [] none true false,.row 1 aw [] none true false] (by simp) hw2 rfl ?_
 have hA:=fun(J:List Ob) hJ up=>P5 (Γ:=Γ) (H.more (J:=J) hJ) nl ⟨x.af,x.used++[ff x.used eW],x.a8++[(a,ff x.used eW)]⟩ (some 0) gg hg hl x.a8 b (ff x.used eW) up
 generalize hs:ff x.used eW=s at*
 have hle2:(x.used.length+1)*16<=140737488355328:=by omega
 rcases hu with rfl|rfl
 all_goals
  cases b with
  |one b=>
  have hG:=fun g hg=>PS (Γ:=Γ) b (.mp 8) (h:=g) hg
  refine .bJ 60 DP ?_;simp;refine .eQ 60 ?_;simp;refine .sL cL (by simp) hG (by simp[hw]) ?_;simp;refine⟨H.od nl x _ gg _ (by intro n hn;simp at hn;simp;omega),?_⟩;refine .jR 60 (by simp) hF ?_;simp;refine .eQ 60 ?_;simp[hle2,hput,isKey,bM,cj];refine .eQ 60 ?_;simp;have hA1:=hA [.cells (AV.cells (By.raw x.a8 s (.one b))),.row 1 aw [] none true false,.row 1 aw [] none true false] (by intro n hn;simp[By.raw]);simp[By.raw,dN,CM]at hA1;refine .reach (by simp) hA1 ?_;simp[Ra.make,hs,By.raw]
  |q8 c=>
  have hG:=fun g (hg:cL g/\g[8]? =some (.map (x.a8.map kF) true))=>MW (Γ:=Γ) c hb x.a8 (q:=8) (h:=g) hg.2 hg.1
  refine .bJ 60 DP ?_;simp;refine .eQ 60 ?_;simp;refine .sL (fun g=>cL g/\g[8]? =some (.map (x.a8.map kF) true)) (by simp) hG (by simp[hw]) ?_;simp;refine⟨H.od nl x _ gg _ (by intro n hn;simp at hn;simp;omega),?_⟩;refine .jR 60 (by simp) hF ?_;simp;refine .eQ 60 ?_;simp[hle2,hput,isKey,bM,cj];refine .eQ 60 ?_;simp;have hA1:=hA [.cells (AV.cells (By.raw x.a8 s (.q8 c))),.row 1 aw [] none true false,.row 1 aw [] none true false] (by intro n hn;simp[By.raw]);simp[By.raw,dN,CM]at hA1;refine .reach (by simp) hA1 ?_;simp[Ra.make,hs,By.raw]
  |both p q=>
  have hG:=fun g (hg:cL g/\g[8]? =some (.map (x.a8.map kF) true))=>adr (Γ:=Γ) p q x.a8 (q:=8) (h:=g) hg.2 hg.1
  refine .bJ 60 DP ?_;simp;refine .eQ 60 ?_;simp;refine .sL (fun g=>cL g/\g[8]? =some (.map (x.a8.map kF) true)) (by simp) hG (by simp[hw]) ?_;simp;refine⟨H.od nl x _ gg _ (by intro n hn;simp at hn;simp;omega),?_⟩;refine .jR 60 (by simp) hF ?_;simp;refine .eQ 60 ?_;simp[hle2,hput,isKey,bM,cj];refine .eQ 60 ?_;simp;have hA1:=hA [.cells (AV.cells (By.raw x.a8 s (.both p q))),.row 1 aw [] none true false,.row 1 aw [] none true false] (by intro n hn;simp[By.raw]);simp[By.raw,dN,CM]at hA1;refine .reach (by simp) hA1 ?_;simp[Ra.make,hs,By.raw]
def vV(x:Ra)(a:Nat)(g:Option Nat):Option Nat:=match getM a x.a8 with
 |some _=>g
 |none=>some 0
theorem abz{a:Nat}(ha:(a:Int)<2^60):(eZ a).me:=by
 unfold eZ
 split
 ·trivial
 ·exact ha
theorem vw(b:By)(n:Nat):dB n (Df b)=(Df b,[]):=by cases b<;>rfl
set_option maxRecDepth 8000 in
theorem G'(hΓ:l9 Γ)(H:il a0 a1 a2 a3 a4 a5 I O rL tl)(nl:Nat)(x:Ra)(gu gg:Option Nat)(hu:gu=none\/gu=some 0)(hg:gg=none\/gg=some 0)(hl:x.af.length<2^30)(hl2:x.used.length<2^20)(a:Nat)(ha:(a:Int)<2^60):
 ∀up,AM.Reach Tryz.prog Γ (.cl tL [.ptr 6 0,iN a] up (dN a0 a1 a2 a3 a4 a5 I O nl x gu gg rL tl)) (.back up (.str (db (x.cQ a).a8 a)) (dN a0 a1 a2 a3 a4 a5 I O nl (x.cQ a) (vV x a gu) (vV x a gg) rL tl)):=by
 intro up;have hf:=u9 a x.a8;refine .bJ 60 UH ?_;unfold Ra.cQ vV db
 cases hg1:getM a x.a8 with
 |some s=>
  rw[hg1]at hf;simp at hf;simp[hf,hg1,isKey,bM,cj]
 |none=>
  rw[hg1]at hf;simp at hf;have hM:=Pw hΓ H nl x gu gg hu hg hl hl2 a hg1 (eZ a) (abz ha);have hf2:=u9 a (x.make a (eZ a)).a8;have hg2:getM a (x.make a (eZ a)).a8=some (ff x.used eW):=aaV hg1;rw[hg2]at hf2;simp at hf2;simp[hf,isKey,bM,cj];refine .bA 60 (AM.Reach.QK (by simp) (QI a) (vw _) (by simp[dV,vw,-dB])) ?_;simp;refine .bA 60 hM ?_;simp[hf2,hg2,isKey,bM,cj]
end
end Go.Proofs.YtchjijfjidlpjaaGreatDoor
namespace Go.Proofs.YtchjijfjidlpjaaGreatDoor
open Go.AM Go.Proofs
def dq(used:List Bs):Nat->List Bs
 |0=>[]
 |n+1=>dq used n++[ff (used++dq used n) eW]
@[simp] theorem OB(used:List Bs):∀n,(dq used n).length=n
 |0=>rfl
 |n+1=>by simp[dq,OB used n]
theorem Oz(used:List Bs):∀n,(dq used n).Nodup/\∀s∈dq used n,s∉used
 |0=>⟨by simp[dq],fun s h=>by simp[dq]at h⟩
 |n+1=>by
  obtain⟨h1,h2⟩:=Oz used n;have h3:=L_ (used++dq used n) eW;simp only[aN,not_or]at h3;refine⟨?_,fun s hs=>?_⟩
  ·rw[dq,jM];refine⟨h1,by simp,fun a ha b hb=>?_⟩;simp only[cq]at hb;subst hb
   rintro rfl
   exact h3.2 ha
  ·rw[dq]at hs
   rcases aN.1 hs with hs|hs
   ·exact h2 s hs
   ·simp only[cq]at hs;subst hs;exact h3.1
theorem Oe(used:List Bs):∀n,∀s∈dq used n,∃j,j<=used.length+n+1/\s=eW++Lib.decDigits j
 |0,s,h=>by simp[dq]at h
 |n+1,s,h=>by
  rw[dq]at h
  rcases aN.1 h with h|h
  ·obtain⟨j,h1,h2⟩:=Oe used n s h;exact⟨j,by omega,h2⟩
  ·simp only[cq]at h;subst h;obtain⟨j,h1,h2,h3⟩:=NO (used:=used++dq used n) (stem:=eW) (used++dq used n).length 1;simp only[bq,OB]at h2;exact⟨j,by omega,h3⟩
theorem acF:∀(n m:Nat),n<=m->∀c∈Lib.decDigits n,∃d,d<10/\c=rn d:=by
 intro n m
 induction m generalizing n with
 |zero=>
  intro h c hc
  obtain rfl:n=0:=by omega
  rw[lE (by omega)]at hc;simp only[cq]at hc;exact⟨0,by omega,hc⟩
 |succ m ih=>
  intro h c hc
  by_cases h3:n<10
  ·rw[lE h3]at hc;simp only[cq]at hc;exact⟨n,h3,hc⟩
  ·rw[pK h3]at hc
   rcases aN.1 hc with hc|hc
   ·exact ih (n/10) (by omega) c hc
   ·simp only[cq]at hc;exact⟨n%10,by omega,hc⟩
theorem Lc{j:Nat}(h:j<10^7):fC (eW++Lib.decDigits j)=true:=by
 have h1:=NU h;unfold fC;simp only[ay,iA,aW];refine⟨km.2 fun c hc=>?_,?_⟩
 ·rcases aN.1 hc with hc|hc
  ·simp only[cq]at hc
   subst hc;decide
  ·obtain⟨d,hd,rfl⟩:=acF j j (aO _) c hc
   have:∀d:Fin 10,oZ (rn d.val)=false:=by decide+kernel
   exact this ⟨d,hd⟩
 ·simp;omega
theorem Bq{α:Type}{p:List α->Prop}(h0:p [])(h1:∀l a,p l->p (l++[a])):∀l,p l:=fun l=>by
 have:∀l:List α,p l.reverse:=by
  intro l
  induction l with
  |nil=>simpa using h0
  |cons a l ih=>simpa using h1 _ a ih
 simpa using this l.reverse
def cD(m:Md)(L:List (Nat×By)):Ra:=L.foldl (fun x e=>x.make e.1 e.2) (jC m)
theorem sq(m:Md)(L:List (Nat×By))(e:Nat×By):cD m (L++[e])=(cD m L).make e.1 e.2:=by simp[cD]
abbrev iI(m:Md):List Bs:=m.an++m.ah++m.aq
def jz(n:Nat):List Nat:=(List.range n).map fun k=>2*(k+1)
def bE(m:Md)(L:List (Nat×By)):List Nat:=jz (m.an++m.ah).length++L.map (·.1)
def fJ(m:Md)(n:Nat):List Bs:=(m.an++m.ah)++dq (iI m) n
theorem LK:∀(l:List Bs)(k:Nat),gX k l=((List.range' k l.length).map fun k=>2*(k+1)).zip l
 |[],k=>rfl
 |s::l,k=>by
  rw[gX,bz,List.range'_succ,bL,z1,LK l (k+1)]
theorem uE(m:Md)(L:List (Nat×By)):(cD m L).used=iI m++dq (iI m) L.length/\(cD m L).a8=(bE m L).zip (fJ m L.length):=by
 induction L using Bq with
 |h0=>
  refine⟨by simp[cD,jC,dq],?_⟩;simp only[cD,List.foldl_nil,jC,LK,bE,jz,fJ,dq,c9,iT,eR,List.range_eq_range']
 |h1 L e ih=>
  obtain⟨h1,h2⟩:=ih;rw[sq];refine⟨?_,?_⟩
  ·simp only[Ra.make,h1,bq,bz,c9,dq,cM]
  ·simp only[Ra.make,h1,h2,bE,fJ,jK,bL,iT,bq,bz,c9,dq];rw[<-cM,<-cM,JU (l₁:=jz _++_)]
   ·rfl
   ·simp[jz];omega
theorem Ez(m:Md)(L:List (Nat×By)):(cD m L).af.length=L.length:=by
 induction L using Bq with
 |h0=>rfl
 |h1 L e ih=>rw[sq];simp[Ra.make,ih]
theorem BN:∀(K:List Nat)(N:List Bs)(k:Nat),K.Nodup->(hk:k<K.length)->(hn:K.length=N.length)->getM K[k] (K.zip N)=some (N[k]'(by omega))
 |[],N,k,_,hk,_=>by simp at hk
 |a::K,[],k,_,hk,hn=>by simp at hn
 |a::K,s::N,0,_,hk,hn=>by simp[getM]
 |a::K,s::N,k+1,h,hk,hn=>by
  rw[kM]at h
  have hk':k<K.length:=by simpa using hk
  have ih:=BN K N k h.2 hk' (by simpa using hn)
  have hne:¬K[k]=a:=fun e=>h.1 (by rw[<-e];exact bF hk')
  simp only[tG,z1,getM,hne,cT];exact ih
theorem Nv{K:List Nat}{N:List Bs}(hn:K.length=N.length){a:Nat}:getM a (K.zip N)=none↔a∉K:=by
 rw[getM_none];constructor
 ·intro h hm;obtain⟨k,hk,rfl⟩:=eM hm
  have hkz:k<(K.zip N).length:=by simp;omega
  have:=h (K.zip N)[k] (bF hkz);simp at this
 ·rintro h ⟨x,s⟩ hx rfl
  exact h (List.of_mem_zip hx).1
theorem mA(m:Md)(L:List (Nat×By)):(bE m L).length=(fJ m L.length).length:=by simp[bE,fJ,jz];omega
def ju:Nat×By->Bool
 |(_,.both _ _)=>true
 |_=>false
theorem Bp(a:Nat):ju (a,eZ a)=false:=by unfold eZ;split<;>rfl
inductive Tr(m:Md)(first:Nat)(ands:List (Int×Int)):List (Nat×By)->Nat->Prop
 |nil:Tr m first ands [] 0
 |cQ {L:List (Nat×By)} {t:Nat} (a:Nat):Tr m first ands L t->(a<2\/(a%2=1/\a-1∈bE m L))->a∉bE m L->Tr m first ands (L++[(a,eZ a)]) t
 |both {L:List (Nat×By)} {t:Nat} (p q:Nat):Tr m first ands L t->ands[t]? =some ((p:Int),(q:Int))->p∈bE m L->q∈bE m L->Tr m first ands (L++[(2*(first+t),.both p q)]) (t+1)
theorem pF(m:Md)(L:List (Nat×By))(e:Nat×By):bE m (L++[e])=bE m L++[e.1]:=by simp[bE]
theorem uO(m:Md)(L L2:List (Nat×By)):bE m (L++L2)=bE m L++L2.map (·.1):=by simp[bE]
structure TrF(m:Md)(first:Nat)(L:List (Nat×By))(t:Nat):Prop where
 nodup:(bE m L).Nodup
 lt:∀a∈bE m L,a<2*(first+t)
 even:∀n,1<=n->n<first+t->2*n∈bE m L
theorem Tr.facts{m:Md}{first:Nat}{ands:List (Int×Int)}(hf:first=1+(m.an++m.ah).length){L:List (Nat×By)}{t:Nat}(h:Tr m first ands L t):TrF m first L t:=by
 induction h with
 |nil=>
  refine⟨?_,fun a ha=>?_,fun n h1 h2=>?_⟩
  ·simp only[bE,jz,iT,eR];rw[DK,List.pairwise_map];exact List.Pairwise.imp (fun hab he=>hab (by omega)) (DK.1 JH)
  ·simp only[bE,jz,iT,eR,b_,dL]at ha;obtain⟨k,hk,rfl⟩:=ha;omega
  ·simp only[bE,jz,iT,eR,b_,dL];exact⟨n-1,by omega,by omega⟩
 |cQ a _ ha hn ih=>
  refine⟨?_,fun x hx=>?_,fun n h1 h2=>?_⟩
  ·rw[pF,jM];refine⟨ih.nodup,by simp,fun x hx y hy=>?_⟩;simp only[cq]at hy;subst hy
   rintro rfl
   exact hn hx
  ·rw[pF]at hx
   rcases aN.1 hx with hx|hx
   ·exact ih.lt x hx
   ·simp only[cq]at hx;subst hx
    rcases ha with ha|⟨ha,hb⟩
    ·omega
    ·have:=ih.lt _ hb;omega
  ·rw[pF];exact iU _ (ih.even n h1 h2)
 |both p q _ hp h1 h2 ih=>
  refine⟨?_,fun x hx=>?_,fun n h3 h4=>?_⟩
  ·rw[pF,jM];refine⟨ih.nodup,by simp,fun x hx y hy=>?_⟩;simp only[cq]at hy;subst hy
   rintro rfl
   have:=ih.lt _ hx;omega
  ·rw[pF]at hx
   rcases aN.1 hx with hx|hx
   ·have:=ih.lt x hx;omega
   ·simp only[cq]at hx;subst hx;omega
  ·rw[pF];rename_i L t _
   by_cases h:n<first+t
   ·exact iU _ (ih.even n h3 h)
   ·refine wm _ ?_;simp only[cq];omega
theorem GK{m:Md}{first:Nat}{ands:List (Int×Int)}(hf:first=1+(m.an++m.ah).length){L:List (Nat×By)}{t:Nat}(h:Tr m first ands L t){a:Nat}(ha:a<2*(first+t)):
 ∃L2,Tr m first ands (L++L2) t/\(cD m L).cQ a=cD m (L++L2)/\a∈bE m (L++L2)/\∀e∈L2,e=(a,eZ a):=by
 have F:=h.facts hf;obtain⟨u1,u2⟩:=uE m L;unfold Ra.cQ
 cases hg:getM a (cD m L).a8 with
 |some s=>
  refine⟨[],by simpa using h,by simp,?_,by simp⟩;rw[eR]
  refine DJ fun hn=>?_
  rw[u2,(Nv (mA m L)).2 hn]at hg
  cases hg
 |none=>
  rw[u2,Nv (mA m L)]at hg;refine⟨[(a,eZ a)],.cQ a h ?_ hg,by rw[sq],by rw[pF];simp,by simp⟩
  by_cases h2:a<2
  ·exact .inl h2
  ·refine .inr ?_
   have h3:a%2=1:=by
    refine DJ fun hn=>hg ?_
    have:=F.even (a/2) (by omega) (by omega);rwa[show 2*(a/2)=a by omega]at this
   have:=F.even (a/2) (by omega) (by omega);exact⟨h3,by rwa[show 2*(a/2)=a-1 by omega]at this⟩
theorem aaR{m:Md}{first:Nat}{ands:List (Int×Int)}(hf:first=1+(m.an++m.ah).length)(hw:∀i(hi:i<ands.length),(0<=ands[i].1/\ands[i].1<2*(first+i))/\0<=ands[i].2/\ands[i].2<2*(first+i)):∀n i,i+n=ands.length->∀L,Tr m first ands L i->
 ∃L2,Tr m first ands (L++L2) ands.length/\mN first (ands.drop i) i (cD m L)=cD m (L++L2)/\∀e∈L2,ju e=false->∃p∈ands,e.1=p.1.toNat\/e.1=p.2.toNat:=by
 intro n
 induction n with
 |zero=>
  intro i hi L h
  obtain rfl:i=ands.length:=by omega
  exact⟨[],by simpa using h,by rw[v_];simp[mN],by simp⟩
 |succ n ih=>
  intro i hi L h
  have q1:i<ands.length:=by omega
  obtain⟨⟨a1,a2⟩,a3,a4⟩:=hw i q1;obtain⟨p,hp⟩:=fP a1;obtain⟨q,hq⟩:=fP a3
  have e:ands[i]? =some ((p:Int),(q:Int)):=by
   rw[aM q1];congr 1;exact Prod.ext hp hq
  rw[bZ q1,mN,hp,hq];simp only[dt];obtain⟨L1,t1,e1,k1,s1⟩:=GK hf h (a:=p) (by omega);rw[e1];obtain⟨L2,t2,e2,k2,s2⟩:=GK hf t1 (a:=q) (by omega);rw[e2]
  have k1':p∈bE m (L++L1++L2):=by rw[uO m (L++L1)];exact iU _ k1
  obtain⟨L3,t3,e3,s3⟩:=ih (i+1) (by omega) _ (.both p q t2 e k1' k2);rw[sq]at e3
  have hm:((p:Int),(q:Int))∈ands:=by
   have:=bF q1;rwa[show ands[i]=((p:Int),(q:Int))from Prod.ext hp hq]at this
  refine⟨L1++L2++[(2*(first+i),By.both p q)]++L3,by simpa[cM]using t3,by rw[e3];simp[cM],fun x hx hb=>?_⟩;simp only[aN,cq]at hx
  rcases hx with((hx|hx)|rfl)|hx
  ·rw[s1 x hx];exact⟨_,hm,.inl (by simp)⟩
  ·rw[s2 x hx];exact⟨_,hm,.inr (by simp)⟩
  ·cases hb
  ·exact s3 x hx hb
theorem adN{m:Md}{L L2:List (Nat×By)}{a:Nat}(ha:a∈bE m L)(hd:(bE m (L++L2)).Nodup):db (cD m (L++L2)).a8 a=db (cD m L).a8 a:=by
 obtain⟨k,hk,rfl⟩:=eM ha
 have hd1:(bE m L).Nodup:=by
  rw[uO,jM]at hd;exact hd.1
 have hk2:k<(bE m (L++L2)).length:=by rw[uO];simp;omega
 have e1:(bE m (L++L2))[k]=(bE m L)[k]:=by
  simp only[uO];rw[wg hk]
 have e2:(fJ m (L++L2).length)[k]'(by rw[<-mA];exact hk2)=(fJ m L.length)[k]'(by rw[<-mA];exact hk):=by
  have hpre:∀n k:Nat,∃e,dq (iI m) (n+k)=dq (iI m) n++e:=by
   intro n k
   induction k with
   |zero=>exact⟨[],by simp⟩
   |succ k ih=>
    obtain⟨e,he⟩:=ih;exact⟨e++[ff (iI m++dq (iI m) (n+k)) eW],by rw[<-kJ,dq,he,cM]⟩
  obtain⟨e,he⟩:=hpre L.length L2.length
  have hn:fJ m (L++L2).length=fJ m L.length++e:=by rw[bq,fJ,he,fJ,<-cM]
  simp only[hn];rw[wg]
 unfold db;rw[(uE m L).2,(uE m (L++L2)).2];rw[BN _ _ k hd1 hk (mA m L)]
 conv=>lhs;rw[<-e1]
 rw[BN _ _ k hd hk2 (mA m _)];simp only[e2]
theorem afm{m:Md}{L:List (Nat×By)}(hd:(bE m L).Nodup){k:Nat}(hk:k<(bE m L).length):db (cD m L).a8 (bE m L)[k]=(fJ m L.length)[k]'(by rw[<-mA];exact hk):=by
 unfold db;rw[(uE m L).2,BN _ _ k hd hk (mA m L)]
theorem Ow{m:Md}{first:Nat}{ands:List (Int×Int)}(hf:first=1+(m.an++m.ah).length):∀(l:List Bs)(n v:List Int),l.length=n.length->v.length=n.length->(∀a∈n,0<=a/\a<2*(first+ands.length))->∀L,Tr m first ands L ands.length->
 ∃L2,Tr m first ands (L++L2) ands.length/\(gV l n v (cD m L)).1=cD m (L++L2)/\(∀a∈n,a.toNat∈bE m (L++L2))/\(gV l n v (cD m L)).2.map (·.name)=l/\(gV l n v (cD m L)).2.map (·.init)=v/\(gV l n v (cD m L)).2.map (·.next)=n.map (fun a=>db (cD m (L++L2)).a8 a.toNat)/\∀e∈L2,ju e=false/\∃a∈n,e.1=a.toNat
 |[],[],[],_,_,_,L,h=>⟨[],by simpa using h,by simp[gV],by simp,by simp[gV],by simp[gV],by simp[gV],by simp⟩
 |s::l,a::n,v::i,h1,h2,h3,L,h=>by
  obtain⟨b1,b2⟩:=h3 a (by simp);obtain⟨L1,t1,e1,k1,s1⟩:=GK hf h (a:=a.toNat) (by omega);obtain⟨L2,t2,e2,k2,e3,e4,e5,s2⟩:=Ow hf l n i (by simpa using h1) (by simpa using h2) (fun b hb=>h3 b (by simp[hb])) (L++L1) t1;have F:=t2.facts hf
  have k1':a.toNat∈bE m (L++L1++L2):=by rw[uO m (L++L1)];exact iU _ k1
  refine⟨L1++L2,by simpa[cM]using t2,?_,?_,?_,?_,?_,fun x hx=>?_⟩
  ·rw[gV,e1,e2,cM]
  ·intro b hb;rw[<-cM]
   rcases bo.1 hb with rfl|hb
   ·exact k1'
   ·exact k2 b hb
  ·rw[gV,e1];simp[e3]
  ·rw[gV,e1];simp[e4]
  ·rw[gV,e1,<-cM];simp only[bL,e5];rw[adN k1 F.nodup]
  ·rcases aN.1 hx with hx|hx
   ·rw[s1 x hx];exact⟨Bp _,a,by simp,rfl⟩
   ·obtain⟨q1,b,q2,q3⟩:=s2 x hx;exact⟨q1,b,by simp[q2],q3⟩
theorem Zd(m:Md)(L:List (Nat×By)):∀L2,∃G,(cD m (L++L2)).af=(cD m L).af++G/\G.length=L2.length:=by
 intro L2
 induction L2 using Bq with
 |h0=>exact⟨[],by simp,rfl⟩
 |h1 L2 e ih=>
  obtain⟨G,h1,h2⟩:=ih;refine⟨G++[e.2.gate (cD m (L++L2)).a8 (ff (cD m (L++L2)).used eW)],?_,by simp[h2]⟩;rw[<-cM,sq];simp only[Ra.make,h1,cM]
theorem adk(m:Md)(L:List (Nat×By))(e:Nat×By)(L2:List (Nat×By)):(cD m (L++e::L2)).af[L.length]? =some (e.2.gate (cD m L).a8 (ff (iI m++dq (iI m) L.length) eW)):=by
 obtain⟨G,h1,h2⟩:=Zd m (L++[e]) L2;rw[show L++e::L2=L++[e]++L2 by simp,h1,sq];have hl:=Ez m L;simp only[Ra.make,(uE m L).1];rw[cM,df (by omega),hl];simp
@[simp] theorem adj(b:By)(m:List (Nat×Bs))(s:Bs):(b.gate m s).name=s:=by cases b<;>rfl
theorem Yw(m:Md)(L:List (Nat×By)):(cD m L).af.map (·.name)=dq (iI m) L.length:=by
 induction L using Bq with
 |h0=>rfl
 |h1 L e ih=>
  rw[sq];simp only[Ra.make,jK,ih,bL,iT,adj,(uE m L).1,bq,bz,c9,dq]
def qv(L:List (Nat×By)):Nat:=(L.filter ju).length
theorem FL(L:List (Nat×By))(e:Nat×By):qv (L++[e])=qv L+if ju e=true then 1 else 0:=by
 unfold qv;rw[List.filter_append,bq]
 cases h:ju e<;>simp[h]
def Cv(m:Md)(first:Nat)(ands:List (Int×Int))(P:List (Nat×By))(e:Nat×By):Prop:=
 (∃a,e=(a,eZ a)/\(a<2\/(a%2=1/\a-1∈bE m P)))\/(∃p q:Nat,e=(2*(first+qv P),.both p q)/\ands[qv P]? =some ((p:Int),(q:Int))/\p∈bE m P/\q∈bE m P)
theorem Tr.at{m:Md}{first:Nat}{ands:List (Int×Int)}{L:List (Nat×By)}{t:Nat}(h:Tr m first ands L t):t=qv L/\∀i(hi:i<L.length),Cv m first ands (L.take i) L[i]:=by
 have step:∀(L:List (Nat×By))(e:Nat×By),(∀i(hi:i<L.length),Cv m first ands (L.take i) L[i])->Cv m first ands L e->∀i(hi:i<(L++[e]).length),Cv m first ands ((L++[e]).take i) (L++[e])[i]:=by
  intro L e h1 h2 i hi
  by_cases h:i<L.length
  ·rw[List.take_append_of_le_length (by omega),wg h];exact h1 i h
  ·obtain rfl:i=L.length:=by simp at hi;omega
   rw[JV rfl];simpa using h2
 induction h with
 |nil=>exact⟨rfl,fun i hi=>by simp at hi⟩
 |cQ a _ ha hn ih=>
  obtain⟨rfl,h2⟩:=ih;refine⟨by rw[FL,Bp];simp,step _ _ h2 (.inl ⟨a,rfl,ha⟩)⟩
 |both p q _ hp h1 h2 ih=>
  obtain⟨rfl,h3⟩:=ih;refine⟨by rw[FL];simp[ju],step _ _ h3 (.inr ⟨p,q,rfl,hp,h1,h2⟩)⟩
theorem Fx{first:Nat}{l:List (Int×Int)}{p q:Nat}(h1:2<=q)(h2:q<p)(h3:p/2≠q/2)(h4:(((p:Nat):Int),((q:Nat):Int))∉l):
 bN first l p q=(l++[((p:Int),(q:Int))],2*(first+l.length)):=by
 unfold bN;rw[Nat.max_eq_left (by omega),Nat.min_eq_right (by omega)]
 have hk:mc p q=none:=by
  unfold mc;have hx:=mC p;rw[if_neg,if_neg]
  ·omega
  ·rw[not_or];refine⟨by omega,?_⟩
   rw[hx];split<;>omega
 rw[hk,Ff.2 h4]
theorem GM{n a:Nat}(h:a/2<n):bg (ids n) a=a:=by
 have e1:(ids n).getD (a/2) 0=2*(a/2):=by
  rw[bj,aM (by simpa using h)];simp[ids]
 unfold bg;rw[e1]
 rcases(show a%2=0\/a%2=1 by omega)with h2|h2
 ·rw[h2,wu];omega
 ·rw[h2,mC,if_pos (by omega)];omega
theorem AS{α:Type}{l:List α}(h:l.Nodup){i:Nat}(hi:i<l.length):l[i]∉l.take i:=by
 intro hm
 have h2:(l.take i++l.drop i).Nodup:=by rw[mn];exact h
 exact(jM.1 h2).2.2 _ hm _ (by rw[bZ hi];exact ov) rfl
theorem MS{first:Nat}{l:List (Int×Int)}(h:ga first l){i:Nat}(hi:i<l.length):bN first (l.take i) (bg (ids (first+i)) l[i].1.toNat) (bg (ids (first+i)) l[i].2.toNat)=(l.take (i+1),2*(first+i)):=by
 obtain⟨p,q,e,h1,h2,h3,h4⟩:=h.at_ i hi;have hn:=AS h.nd hi;rw[ke hi];rw[e]at hn⊢;simp only[dt];rw[GM (by omega),GM (by omega),Fx h1 h2 h3 hn,eA,qH (by omega)]
theorem K8{first:Nat}{l:List (Int×Int)}(h:ga first l):∀n i:Nat,i+n=l.length->eY first (l.drop i) (l.take i) (ids (first+i))=(l,ids (first+l.length))
 |0,i,hi=>by
  have:i=l.length:=by omega
  subst this;rw[v_,wa,eY]
 |n+1,i,hi=>by
  have h1:i<l.length:=by omega
  rw[bZ h1,eY,MS h h1];simp only;rw[<-FU,kJ];exact K8 h n (i+1) (by omega)
theorem Lz{first:Nat}{l:List (Int×Int)}(h:ga first l){aS:List Bool}(hl:∀i,i<l.length->aS.getD (first+i) false=true):∀n i:Nat,i+n=l.length->dx first aS (l.drop i) i (l.take i) (ids (first+i))=(l,ids (first+l.length))
 |0,i,hi=>by
  have:i=l.length:=by omega
  subst this;rw[v_,wa,dx]
 |n+1,i,hi=>by
  have h1:i<l.length:=by omega
  rw[bZ h1,dx,if_pos (hl i h1),MS h h1];simp only;rw[<-FU,kJ];exact Lz h hl n (i+1) (by omega)
theorem Oa{n:Nat}{l:List Int}(h:∀a∈l,0<=a/\a<2*n):(dX (ids n) l).map (fun n:Nat=>(n:Int))=l:=by
 unfold dX;rw[jH]
 conv=>rhs;rw[<-List.map_id l]
 refine mq fun a ha=>?_
 have:=h a ha;simp only[Function.comp_apply,id];rw[GM (by omega)];omega
theorem NM{g:Gr}(ok:g.Ok):gT (g.cY (g.ands,ids (g.first+g.ands.length))) g=true:=by
 have h1:g.lits=2*(g.first+g.ands.length):=rfl;have e1:=Oa (n:=g.first+g.ands.length) (l:=g.next) (fun a ha=>by have:=ok.next a ha;omega);have e2:=Oa (n:=g.first+g.ands.length) (l:=g.outs) (fun a ha=>by have:=ok.outs a ha;omega);simp[gT,Gr.cY,e1,e2]
theorem Fk{a b:Gr}(h:gT a b=true):a.ins=b.ins/\a.next=b.next/\a.init=b.init/\a.ands=b.ands/\a.outs=b.outs:=by
 simpa[gT,and_assoc]using h
theorem AU{a b:Gr}(h:gT a b=true):a.aS=b.aS/\a.check=b.check/\a.first=b.first/\a.all=b.all/\a.strict=b.strict/\gT a.cP b.cP=true:=by
 obtain⟨i1,n1,j1,s1,o1,k1,k2,k3,k4,p1,p2,p3,p4⟩:=a;obtain⟨i2,n2,j2,s2,o2,k5,k6,k7,k8,p5,p6,p7,p8⟩:=b;obtain⟨rfl,rfl,rfl,rfl,rfl⟩:=Fk h;exact⟨rfl,rfl,rfl,rfl,rfl,XI _⟩
theorem D8{a b c:Gr}(h:gT a b=true)(h2:gT b c=true):gT a c=true:=by
 obtain⟨h1,h3,h4,h5,h6⟩:=Fk h;simp only[gT,h1,h3,h4,h5,h6];exact h2
theorem oD{g:Gr}(h:g.strict=true):g.Ok/\ga g.first g.ands/\∀i,i<g.ands.length->g.aS.getD (g.first+i) false=true:=by
 simp only[Gr.strict,ay,aW,iA]at h;obtain⟨hc,hb⟩:=h;have ok:=Gr.qk hc
 have key:∀i,i<g.ands.length->g.CL i=false:=fun i hi=>km.1 hb i (dL.2 hi)
 have key2:∀i(hi:i<g.ands.length),g.ands[i].2<g.ands[i].1/\1<g.ands[i].2/\g.ands[i].1.toNat/2≠g.ands[i].2.toNat/2/\g.aS.getD (g.first+i) false=true/\g.ands[i]∉g.ands.take i:=by
  intro i hi;have:=key i hi;unfold Gr.CL at this;rw[bj,aM hi,jJ]at this;simp only[j_,iz,JM]at this;obtain⟨⟨⟨⟨t1,t2⟩,t3⟩,t4⟩,t5⟩:=this;exact⟨by omega,by omega,t3,t4,t5⟩
 refine⟨ok,⟨fun i hi=>?_,?_⟩,fun i hi=>(key2 i hi).2.2.2.1⟩
 ·obtain⟨k1,k2,k3,k4,k5⟩:=key2 i hi;have:=ok.ands i hi;refine⟨g.ands[i].1.toNat,g.ands[i].2.toNat,?_,by omega,by omega,k3,by omega⟩
  refine Prod.ext ?_ ?_<;>simp only<;>omega
 ·rw[DK,List.pairwise_iff_getElem];intro i j hi hj hij he;apply(key2 j hj).2.2.2.2;rw[<-he];exact TO.2 ⟨i,by rw[eA];omega,by rw[tx]⟩
theorem K0{g:Gr}(h:g.strict=true):gT g.normal g=true:=by
 obtain⟨ok,hs,hl⟩:=oD h
 have e1:g.da=g.cY (g.ands,ids (g.first+g.ands.length)):=by
  unfold Gr.da;have:=K8 hs g.ands.length 0 (by omega);simp only[fe,zV,gM]at this;rw[this]
 have e2:gT g.cP g=true:=by
  have:g.cP=g.cY (g.ands,ids (g.first+g.ands.length)):=by
   unfold Gr.cP;have:=Lz hs hl g.ands.length 0 (by omega);simp only[fe,zV,gM]at this;rw[this]
  rw[this];exact NM ok
 have e3:g.normal=g.da.cP:=by unfold Gr.normal;rw[if_pos (Gr.qV ok)]
 rw[e3]
 have e4:gT g.da g=true:=by rw[e1];exact NM ok
 exact D8 (AU e4).2.2.2.2.2 e2
theorem oG(v:List Bool)(k n:Nat):(v.set k true).getD n false=true↔v.getD n false=true\/(n=k/\k<v.length):=by
 rw[bj,bj,om]
 by_cases h:k=n
 ·subst h
  by_cases h2:k<v.length
  ·simp[h2]
  ·simp[h2]
 ·have h3:¬n=k:=fun e=>h e.symm
  simp[h,h3]
theorem Fo:∀(l:List Int)(v:List Bool)(n:Nat),(iG l v).getD n false=true↔v.getD n false=true\/(n<v.length/\∃a∈l,a.toNat/2=n)
 |[],v,n=>by simp[iG]
 |a::l,v,n=>by
  rw[iG,Fo l,oG,jG];constructor
  ·rintro((h|⟨rfl,h⟩)|⟨h,b,hb,e⟩)
   ·exact .inl h
   ·exact .inr ⟨h,a,by simp,rfl⟩
   ·exact .inr ⟨h,b,by simp[hb],e⟩
  ·rintro(h|⟨h,b,hb,e⟩)
   ·exact .inl (.inl h)
   ·rcases bo.1 hb with rfl|hb
    ·exact .inl (.inr ⟨e.symm,by omega⟩)
    ·exact .inr ⟨h,b,hb,e⟩
theorem OK{ands:List (Int×Int)}{first:Nat}(P:Nat->Prop):∀(i:Nat)(v:List Bool),(∀n,v.getD n false=true->P n)->
 (∀j,j<i->P (first+j)->P ((ands.getD j (0,0)).1.toNat/2)/\P ((ands.getD j (0,0)).2.toNat/2))->∀n,(ja ands first i v).getD n false=true->P n
 |0,v,hv,_=>hv
 |i+1,v,hv,hs=>by
  rw[ja];refine OK P i _ (fun n hn=>?_) (fun j hj=>hs j (by omega))
  split at hn
  ·rename_i h;have:=hs i (by omega) (hv _ h);rw[oG,oG]at hn
   rcases hn with(hn|⟨rfl,_⟩)|⟨rfl,_⟩
   ·exact hv n hn
   ·exact this.1
   ·exact this.2
  ·exact hv n hn
theorem A2{ands:List (Int×Int)}{first:Nat}:∀(i:Nat)(v:List Bool)(n:Nat),v.getD n false=true->(ja ands first i v).getD n false=true
 |0,v,n,h=>h
 |i+1,v,n,h=>by
  rw[ja];refine A2 i _ n ?_
  split
  ·rw[oG,oG];exact .inl (.inl h)
  ·exact h
theorem K9{ands:List (Int×Int)}{first:Nat}:∀(i:Nat)(v:List Bool)(n:Nat),first+i<=n+1->(∀j,j<i->(ands.getD j (0,0)).1.toNat/2<first+j/\(ands.getD j (0,0)).2.toNat/2<first+j)->
 ((ja ands first i v).getD n false=true↔v.getD n false=true)
 |0,v,n,_,_=>nE
 |i+1,v,n,h,hw=>by
  have h0:=hw i (by omega);rw[ja,K9 i _ n (by omega) (fun j hj=>hw j (by omega))]
  split
  ·rw[oG,oG];constructor
   ·rintro((h2|⟨e,_⟩)|⟨e,_⟩)
    ·exact h2
    ·omega
    ·omega
   ·exact fun h2=>.inl (.inl h2)
  ·exact nE
theorem Ku{ands:List (Int×Int)}{first:Nat}:∀(i:Nat)(v:List Bool),(∀j,j<i->(ands.getD j (0,0)).1.toNat/2<first+j/\(ands.getD j (0,0)).2.toNat/2<first+j)->first+i<=v.length->
 ∀j,j<i->(ja ands first i v).getD (first+j) false=true->(ja ands first i v).getD ((ands.getD j (0,0)).1.toNat/2) false=true/\(ja ands first i v).getD ((ands.getD j (0,0)).2.toNat/2) false=true
 |0,v,_,_=>fun j hj=>by omega
 |i+1,v,hw,hl=>by
  intro j hj;have h0:=hw i (by omega);rw[ja]
  by_cases hji:j<i
  ·exact Ku i _ (fun j hj=>hw j (by omega)) (by split<;>(try simp only[jG])<;>omega) j hji
  ·have e:j=i:=by omega
   subst e;rw[K9 j _ (first+j) (by omega) (fun j hj=>hw j (by omega))];intro h
   split at h
   ·rename_i h2;rw[if_pos h2];refine⟨A2 _ _ _ ?_,A2 _ _ _ ?_⟩
    ·rw[oG,oG];exact .inl (.inr ⟨rfl,by omega⟩)
    ·rw[oG];exact .inr ⟨rfl,by rw[jG];omega⟩
   ·rename_i h2;exact absurd h h2
theorem getD_at{l:List (Int×Int)}{i:Nat}(h:i<l.length):l.getD i (0,0)=l[i]:=by
 rw[bj,aM h];rfl
theorem Gr.Ok.half{g:Gr}(ok:g.Ok):∀j,j<g.ands.length->(g.ands.getD j (0,0)).1.toNat/2<g.first+j/\(g.ands.getD j (0,0)).2.toNat/2<g.first+j:=by
 intro j hj;have:=ok.ands j hj;rw[getD_at hj];omega
theorem FJ{g:Gr}(ok:g.Ok){a:Int}(h:a∈g.next++g.outs):g.aS.getD (a.toNat/2) false=true:=by
 unfold Gr.aS;refine A2 _ _ _ ((Fo _ _ _).2 (.inr ⟨?_,a,h,rfl⟩));have hl:g.lits=2*g.all:=rfl;rw[pv]
 rcases aN.1 h with h|h
 ·have:=ok.next a h;omega
 ·have:=ok.outs a h;omega
theorem A3{g:Gr}(ok:g.Ok){i:Nat}(hi:i<g.ands.length)(h:g.aS.getD (g.first+i) false=true):g.aS.getD (g.ands[i].1.toNat/2) false=true/\g.aS.getD (g.ands[i].2.toNat/2) false=true:=by
 have:=Ku (ands:=g.ands) (first:=g.first) g.ands.length (iG (g.next++g.outs) (List.replicate g.all false)) ok.half (by rw[xq,pv];exact aO _) i hi h;rw[getD_at hi]at this;exact this
theorem adZ{g:Gr}(P:Nat->Prop)(h1:∀a∈g.next++g.outs,P (a.toNat/2))(h2:∀i(hi:i<g.ands.length),P (g.first+i)->P (g.ands[i].1.toNat/2)/\P (g.ands[i].2.toNat/2)):
 ∀n,g.aS.getD n false=true->P n:=by
 refine OK P _ _ (fun n hn=>?_) (fun j hj=>?_)
 ·rcases(Fo _ _ _).1 hn with h|⟨_,a,ha,rfl⟩
  ·rw[bj,JK]at h
   split at h<;>simp at h
  ·exact h1 a ha
 ·rw[getD_at hj];exact h2 j hj
theorem Ca{to:List Nat}{a:Nat}(h:to.getD (a/2) 0%2=0):bg to a=to.getD (a/2) 0+a%2:=by
 unfold bg
 rcases(show a%2=0\/a%2=1 by omega)with h2|h2
 ·rw[h2,wu];rfl
 ·rw[h2,mC,if_pos h]
theorem Oo(to:List Nat)(a:Nat):bg to a/2=to.getD (a/2) 0/2:=by
 unfold bg
 rcases(show a%2=0\/a%2=1 by omega)with h2|h2
 ·rw[h2,wu]
 ·rw[h2,mC];split<;>omega
theorem my{to:List Nat}{c n:Nat}(h:n<to.length):(to++[c]).getD n 0=to.getD n 0:=by
 rw[bj,bj,cz h]
theorem Bu{to:List Nat}{c n:Nat}(h:n=to.length):(to++[c]).getD n 0=c:=by
 subst h
 rw[bj];simp
theorem uJ{to:List Nat}{c a:Nat}(h:a/2<to.length):bg (to++[c]) a=bg to a:=by
 unfold bg;rw[my h]
section
variable(first:Nat)(aS:List Bool)(ands:List (Int×Int))
def Live(n:Nat):Prop:=n<first\/aS.getD n false=true
abbrev lp(to:List Nat)(p:Int×Int):Int×Int:=((bg to p.1.toNat:Nat),(bg to p.2.toNat:Nat))
structure jg(i:Nat)(l:List (Int×Int))(to:List Nat):Prop where
 len:to.length=first+i
 low:∀n,n<first->to.getD n 0=2*n
 at_:∀k(hk:k<ands.length),k<i->aS.getD (first+k) false=true->∃j,j<l.length/\to.getD (first+k) 0=2*(first+j)/\l[j]? =some (lp to ands[k])
 CI:∀j,j<l.length->∃k,k<i/\aS.getD (first+k) false=true/\to.getD (first+k) 0=2*(first+j)
 mono:∀m n,m<n->n<first+i->Live first aS m->Live first aS n->to.getD m 0<to.getD n 0
variable{first aS ands}
theorem jg.ev{i:Nat}{l:List (Int×Int)}{to:List Nat}(h:jg first aS ands i l to)(hi:i<=ands.length){n:Nat}(hn:n<first+i)(hl:Live first aS n):to.getD n 0%2=0/\to.getD n 0<2*(first+l.length):=by
 by_cases h1:n<first
 ·rw[h.low n h1];omega
 ·rcases hl with h2|h2
  ·omega
  ·obtain⟨j,hj,e,_⟩:=h.at_ (n-first) (by omega) (by omega) (by rw[show first+(n-first)=n by omega];exact h2);rw[show first+(n-first)=n by omega]at e;omega
theorem jg.inj{i:Nat}{l:List (Int×Int)}{to:List Nat}(h:jg first aS ands i l to)(hi:i<=ands.length){a b:Nat}(ha:a/2<first+i)(hb:b/2<first+i)(la:Live first aS (a/2))(lb:Live first aS (b/2))(e:bg to a=bg to b):a=b:=by
 have e1:=h.ev hi ha la;have e2:=h.ev hi hb lb;rw[Ca e1.1,Ca e2.1]at e
 rcases Jz (a/2) (b/2)with h1|h1|h1
 ·have:=h.mono _ _ h1 hb la lb;omega
 ·omega
 ·have:=h.mono _ _ h1 ha lb la;omega
structure y9(first:Nat)(aS:List Bool)(ands:List (Int×Int)):Prop where
 h1:1<=first
 s:ga first ands
 c:∀i(hi:i<ands.length),aS.getD (first+i) false=true->aS.getD (ands[i].1.toNat/2) false=true/\aS.getD (ands[i].2.toNat/2) false=true
theorem jg.new{i:Nat}{l:List (Int×Int)}{to:List Nat}(L:y9 first aS ands)(h:jg first aS ands i l to)(hi:i<ands.length)(hl:aS.getD (first+i) false=true):
 bN first l (bg to ands[i].1.toNat) (bg to ands[i].2.toNat)=(l++[lp to ands[i]],2*(first+l.length))/\ands[i].1.toNat/2<first+i/\ands[i].2.toNat/2<first+i:=by
 obtain⟨p,q,e,s1,s2,s3,s4⟩:=L.s.at_ i hi;obtain⟨c1,c2⟩:=L.c i hi hl
 have hp:ands[i].1.toNat=p:=by rw[e];rfl
 have hq:ands[i].2.toNat=q:=by rw[e];rfl
 unfold lp
 rw[hp]at c1;rw[hq]at c2;rw[hp,hq]
 have e1:=h.ev (by omega) (n:=p/2) (by omega) (.inr c1);have e2:=h.ev (by omega) (n:=q/2) (by omega) (.inr c2);have m1:=h.mono (q/2) (p/2) (by omega) (by omega) (.inr c2) (.inr c1);have m0:=h.mono 0 (q/2) (by omega) (by omega) (.inl (by have:=L.h1;omega)) (.inr c2);have b1:=Ca e1.1;have b2:=Ca e2.1;refine⟨Fx (by omega) (by omega) (by omega) ?_,by omega,by omega⟩;intro hm;obtain⟨j,hj,ej⟩:=TO.1 hm;obtain⟨k,hk,lk,tk⟩:=h.CI j hj;obtain⟨j2,hj2,tj2,ej2⟩:=h.at_ k (by omega) hk lk
 have hjj:j2=j:=by omega
 subst hjj;rw[aM hj2,ej]at ej2;simp only[lp,aj,bX]at ej2;obtain⟨p2,q2,e',t1,t2,t3,t4⟩:=L.s.at_ k (by omega);obtain⟨d1,d2⟩:=L.c k (by omega) lk;rw[e']at ej2 d1 d2;simp only[dt]at ej2 d1 d2;have x1:=h.inj (by omega) (a:=p) (b:=p2) (by omega) (by omega) (.inr c1) (.inr d1) (by omega);have x2:=h.inj (by omega) (a:=q) (b:=q2) (by omega) (by omega) (.inr c2) (.inr d2) (by omega);subst x1 x2;exact AS L.s.nd hi (TO.2 ⟨k,by rw[eA];omega,by rw[tx,e',e]⟩)
theorem jg.push{i:Nat}{l:List (Int×Int)}{to:List Nat}(L:y9 first aS ands)(h:jg first aS ands i l to)(hi:i<ands.length)(hl:aS.getD (first+i) false=true):
 jg first aS ands (i+1) (l++[lp to ands[i]]) (to++[2*(first+l.length)]):=by
 obtain⟨_,n1,n2⟩:=h.new L hi hl;have hlen:=h.len;refine⟨by simp;omega,fun n hn=>by rw[my (by omega)];exact h.low n hn,fun k hk hki lk=>?_,fun j hj=>?_,fun m n hmn hn lm ln=>?_⟩
 ·by_cases hk2:k<i
  ·obtain⟨j,hj,e1,e2⟩:=h.at_ k hk hk2 lk;obtain⟨p2,q2,e',t1,t2,t3,t4⟩:=L.s.at_ k hk;refine⟨j,by simp;omega,by rw[my (by omega)];exact e1,?_⟩;rw[cz hj,e2];unfold lp;rw[e'];simp only[dt];rw[uJ (by omega),uJ (by omega)]
  ·have e:k=i:=by omega
   subst e;refine⟨l.length,by simp,Bu (by omega),?_⟩;unfold lp;rw[uJ (by omega),uJ (by omega)];simp
 ·by_cases hj2:j<l.length
  ·obtain⟨k,hk,lk,e⟩:=h.CI j hj2;exact⟨k,by omega,lk,by rw[my (by omega)];exact e⟩
  ·have e:j=l.length:=by simp at hj;omega
   subst e;exact⟨i,by omega,hl,Bu (by omega)⟩
 ·rw[my (n:=m) (by omega)]
  by_cases hn2:n<first+i
  ·rw[my (by omega)];exact h.mono m n hmn hn2 lm ln
  ·rw[Bu (by omega)];exact(h.ev (by omega) (by omega) lm).2
theorem jg.skip{i:Nat}{l:List (Int×Int)}{to:List Nat}(L:y9 first aS ands)(h:jg first aS ands i l to)(hi:i<ands.length)(hl:¬aS.getD (first+i) false=true)(c:Nat):jg first aS ands (i+1) l (to++[c]):=by
 have hlen:=h.len;refine⟨by simp;omega,fun n hn=>by rw[my (by omega)];exact h.low n hn,fun k hk hki lk=>?_,fun j hj=>?_,fun m n hmn hn lm ln=>?_⟩
 ·have hk2:k<i:=by
   rcases lB k i with h3|h3
   ·exact h3
   ·have e:k=i:=by omega
    subst e;exact absurd lk hl
  obtain⟨j,hj,e1,e2⟩:=h.at_ k hk hk2 lk;obtain⟨p2,q2,e',t1,t2,t3,t4⟩:=L.s.at_ k hk;refine⟨j,hj,by rw[my (by omega)];exact e1,?_⟩;rw[e2];unfold lp;rw[e'];simp only[dt];rw[uJ (by omega),uJ (by omega)]
 ·obtain⟨k,hk,lk,e⟩:=h.CI j hj;exact⟨k,by omega,lk,by rw[my (by omega)];exact e⟩
 ·have hn2:n<first+i:=by
   rcases lB n (first+i)with h3|h3
   ·exact h3
   ·have e:n=first+i:=by omega
    subst e
    rcases ln with h4|h4
    ·omega
    ·exact absurd h4 hl
  rw[my (n:=m) (by omega),my (by omega)];exact h.mono m n hmn hn2 lm ln
theorem jg.zero:jg first aS ands 0 [] (ids first):=by
 have hg:∀n,n<first->(ids first).getD n 0=2*n:=fun n hn=>by
  rw[bj,aM (by simpa using hn)];simp[ids]
 refine⟨by simp,hg,fun k hk h=>by omega,fun j hj=>by simp at hj,fun m n hmn hn _ _=>?_⟩
 rw[hg m (by omega),hg n (by omega)];omega
theorem E4(L:y9 first aS ands):∀n i l to,i+n=ands.length->jg first aS ands i l to->jg first aS ands ands.length (dx first aS (ands.drop i) i l to).1 (dx first aS (ands.drop i) i l to).2
 |0,i,l,to,hi,h=>by
  have:i=ands.length:=by omega
  subst this
  rw[v_,dx];exact h
 |n+1,i,l,to,hi,h=>by
  have h1:i<ands.length:=by omega
  rw[bZ h1,dx]
  split
  ·rename_i hl;rw[(h.new L h1 hl).1];exact E4 L n (i+1) _ _ (by omega) (h.push L h1 hl)
  ·rename_i hl;exact E4 L n (i+1) _ _ (by omega) (h.skip L h1 hl 0)
end
theorem Gr.ae6{x:Gr}(ok:x.Ok)(s:ga x.first x.ands):y9 x.first x.aS x.ands:=⟨by unfold Gr.first;omega,s,fun i hi h=>A3 ok hi h⟩
theorem Gr.QP{x:Gr}(ok:x.Ok)(s:ga x.first x.ands):jg x.first x.aS x.ands x.ands.length (dx x.first x.aS x.ands 0 [] (ids x.first)).1 (dx x.first x.aS x.ands 0 [] (ids x.first)).2:=by
 have:=E4 (Gr.ae6 ok s) x.ands.length 0 [] (ids x.first) (by omega) jg.zero;rw[fe]at this;exact this
theorem uC(g:Gr)(r:List (Int×Int)×List Nat):(g.cY r).first=g.first:=by simp[Gr.first,Gr.cY]
theorem acE{g:Gr}{r:List (Int×Int)×List Nat}{a:Int}(h:a∈g.next++g.outs):((bg r.2 a.toNat:Nat):Int)∈(g.cY r).next++(g.cY r).outs:=by
 simp only[Gr.cY,aN,b_,dX]at h⊢
 rcases h with h|h
 ·exact .inl ⟨_,⟨a,h,rfl⟩,rfl⟩
 ·exact .inr ⟨_,⟨a,h,rfl⟩,rfl⟩
theorem ab6{x:Gr}(ok:x.Ok)(s:ga x.first x.ands):∀j,j<x.cP.ands.length->x.cP.aS.getD (x.first+j) false=true:=by
 have I:=Gr.QP ok s;have rE:=(BV ok).1
 have key:∀n,x.aS.getD n false=true->x.aS.getD n false=true/\x.cP.aS.getD ((dx x.first x.aS x.ands 0 [] (ids x.first)).2.getD n 0/2) false=true:=by
  refine adZ _ (fun a ha=>⟨FJ ok ha,?_⟩) (fun i hi h=>?_)
  ·have:=FJ rE (acE (r:=dx x.first x.aS x.ands 0 [] (ids x.first)) ha);rw[dt,Oo]at this;exact this
  ·obtain⟨h1,h2⟩:=h;obtain⟨j,hj,e1,e2⟩:=I.at_ i hi hi h1;have hc:=A3 ok hi h1;have hj2:j<x.cP.ands.length:=hj
   have e3:x.cP.ands[j]=lp (dx x.first x.aS x.ands 0 [] (ids x.first)).2 x.ands[i]:=by
    have:x.cP.ands[j]? =some (lp (dx x.first x.aS x.ands 0 [] (ids x.first)).2 x.ands[i]):=e2;rw[aM hj2]at this;exact Option.some.inj this
   rw[e1,show 2*(x.first+j)/2=x.first+j by omega]at h2;have h4:=A3 rE hj2 (by rw[show x.cP.first=x.first from uC _ _];exact h2);rw[e3]at h4;simp only[lp,dt,Oo]at h4;exact⟨⟨hc.1,h4.1⟩,hc.2,h4.2⟩
 intro j hj;obtain⟨k,hk,lk,e⟩:=I.CI j hj;have:=(key _ lk).2;rw[e,show 2*(x.first+j)/2=x.first+j by omega]at this;exact this
theorem Z5{g:Gr}(ok:g.Ok)(s:ga g.first g.ands)(h:∀i,i<g.ands.length->g.aS.getD (g.first+i) false=true):g.strict=true:=by
 simp only[Gr.strict,ay,aW,iA];refine⟨Gr.qV ok,km.2 fun i hi=>?_⟩;have hi:=dL.1 hi;obtain⟨p,q,e,s1,s2,s3,s4⟩:=s.at_ i hi;have hn:=AS s.nd hi;have hh:=h i hi;unfold Gr.CL;rw[getD_at hi,hh];rw[e]at hn⊢;simp[hn];omega
theorem Ay{g:Gr}(h:g.check=0):g.normal.strict=true/\g.normal.check=0/\g.normal.ands.length<=g.ands.length:=by
 have ok:=Gr.qk h;obtain⟨o1,s1,l1⟩:=BO ok
 have hf:g.da.first=g.first:=uC _ _
 obtain⟨o2,s2,l2⟩:=BV o1
 have e:g.normal=g.da.cP:=by unfold Gr.normal;rw[if_pos h]
 rw[e]
 have hf2:g.da.cP.first=g.da.first:=uC _ _
 refine⟨Z5 o2 (by rw[hf2];exact s2) ?_,Gr.qV o2,by omega⟩;rw[hf2];exact ab6 o1 (by rw[hf];exact s1)
end Go.Proofs.YtchjijfjidlpjaaGreatDoor
