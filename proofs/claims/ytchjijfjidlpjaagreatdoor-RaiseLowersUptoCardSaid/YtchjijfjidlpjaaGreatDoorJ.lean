/- Steps: the values of net -/
import Derived.Test.YtchjijfjidlpjaaGreatDoorH
import Derived.Test.YtchjijfjidlpjaaGreatDoorI
import Derived.Test.YtchjijfjidlpjaaGreatDoorG
import Derived.Test.YtchjijfjidlpjaaGreatDoorF
import Derived.Test.YtchjijfjidlpjaaGreatDoorShelf
import Derived.Test.YtchjijfjidlpjaaGreatDoorAMd
import Derived.Below
import Derived.Sort.Grow
set_option linter.unusedSimpArgs false
set_option linter.unusedVariables false
namespace Go.Proofs.YtchjijfjidlpjaaGreatDoor
set_option maxRecDepth 8000
open Go.AM Go.Proofs
variable{Γ:Nat->Option AV}
theorem Ru{α:Type}{P:List α->Prop}(h0:P [])(h1:∀l a,P l->P (l++[a]))(l:List α):P l:=by
 rw[<-List.reverse_reverse l]
 induction l.reverse with
 |nil=>exact h0
 |cons a r ih=>rw[List.reverse_cons];exact h1 _ _ ih
def eF(m:List (Bs×Bool))(s:Bs):Bool:=match getM s m with
 |some v=>v
 |none=>false
theorem aic{m r:List (Bs×Bool)}{s:Bs}(h:s∈m.map (·.1)):eF (m++r) s=eF m s:=by
 induction m with
 |nil=>cases h
 |cons a m ih=>
  obtain⟨k,v⟩:=a;rw[eH];unfold eF;rw[getM,getM]
  by_cases hk:s=k
  ·rw[if_pos hk,if_pos hk]
  ·rw[if_neg hk,if_neg hk];rw[bX,bD]at h;exact ih (h.resolve_left hk)
theorem ahP{m:List (Bs×Bool)}{s:Bs}(v:Bool)(h:s∉m.map (·.1)):eF (m++[(s,v)]) s=v:=by
 induction m with
 |nil=>simp[eF,getM]
 |cons a m ih=>
  obtain⟨k,u⟩:=a;rw[bX,bD,not_or]at h;rw[eH];unfold eF;rw[getM,if_neg h.1];exact ih h.2
theorem agL{m:List (Bs×Bool)}{s:Bs}(h:s∉m.map (·.1)):getM s m=none:=getM_none.2 fun x hx he=>h (by rw[<-he];exact rZ (f:=(·.1)) hx)
def gB(m:List (Bs×Bool))(l:List Bs):List Bool:=l.map (eF m)
def fW(c:Ct):List Bs:=c.aq++c.ah.map (·.name)
def AS(c:Ct)(ins state:List Bool):List (Bs×Bool):=(fW c).zip (ins++state)
def TF(c:Ct)(m:List (Bs×Bool))(a:Nat):List (Bs×Bool):=match c.af[a]? with
 |some g=>m++[(g.name,sP g (gB m g.ins))]
 |none=>m
def jK(c:Ct)(ins state:List Bool)(p:List Nat):List (Bs×Bool):=p.foldl (TF c) (AS c ins state)
def jk(c:Ct)(ins state:List Bool):List (Bs×Bool):=jK c ins state (aS c)
theorem CJ(c:Ct)(ins state:List Bool)(p:List Nat){a:Nat}(ha:a<c.af.length):jK c ins state (p++[a])=jK c ins state p++[(c.af[a].name,sP c.af[a] (gB (jK c ins state p) c.af[a].ins))]:=by
 rw[jK,List.foldl_append,tv,List.foldl_nil,TF,aW ha];rfl
theorem zO(c:Ct):(fW c).length=c.aq.length+c.ah.length:=by simp[fW]
theorem ae9{c:Ct}{ins state:List Bool}(hi:ins.length=c.aq.length)(hs:state.length=c.ah.length):(AS c ins state).map (·.1)=fW c:=by
 rw[AS,List.map_fst_zip (by rw[zO];simp;omega)]
theorem vQ{c:Ct}{ins state:List Bool}(hi:ins.length=c.aq.length)(hs:state.length=c.ah.length):∀p:List Nat,(∀a∈p,a<c.af.length)->(jK c ins state p).map (·.1)=fW c++p.map (Kp c):=by
 intro p
 induction p using Ru with
 |h0=>intro _;simpa[jK]using ae9 hi hs
 |h1 p a ih=>
  intro h;have ha:=h a (by simp);rw[CJ c ins state p ha,jA,ih fun b hb=>h b (by simp[hb])];simp[DA ha]
theorem Ck{c:Ct}(ok:eR c):(fW c++c.af.map (·.name)).Nodup:=by
 have:=ok.nodup;simpa[aE,fW]using this
theorem PJ{c:Ct}(ok:eR c){ins state:List Bool}(hi:ins.length=c.aq.length)(hs:state.length=c.ah.length){p:List Nat}(hp:∀a∈p,a<c.af.length){a:Nat}(ha:a<c.af.length)(hn:a∉p):c.af[a].name∉(jK c ins state p).map (·.1):=by
 have hd:=vA (CT ok);rw[vQ hi hs p hp,a8,not_or];have h:=Ck ok;rw[mH]at h;refine⟨fun hb=>h.2.2 _ hb _ (rZ (f:=(·.name)) (bA ha)) rfl,fun hb=>?_⟩;obtain⟨x,hx,he⟩:=cd.1 hb;have h2:=hp x hx;rw[DA h2]at he;exact hn (Db hd h2 ha he▸hx)
structure D2(c:Ct)(ins state:List Bool)(f:Bs->Bool):Prop where
 W0:∀i,∀h:i<c.aq.length,f c.aq[i]=ins.getD i false
 A':∀i,∀h:i<c.ah.length,f c.ah[i].name=state.getD i false
 XK:∀i,∀h:i<c.af.length,f c.af[i].name=sP c.af[i] (c.af[i].ins.map f)
theorem RZ:∀(l:List Bs)(b:List Bool),l.Nodup->∀i,∀h:i<l.length,i<b.length->eF (l.zip b) l[i]=b.getD i false
 |[],_,_,i,h,_=>by simp at h
 |s::l,[],_,i,h,h2=>by simp at h2
 |s::l,v::b,hn,i,h,h2=>by
  rw[l0]at hn;rw[xH];unfold eF
  cases i with
  |zero=>simp[getM]
  |succ i=>
   have hv:¬(s::l)[i+1]=s:=fun he=>hn.1 (by rw[<-he];simp)
   rw[getM,if_neg hv];simpa[eF]using RZ l b hn.2 i (by simpa using h) (by simpa using h2)
theorem IA{c:Ct}{ins state:List Bool}(hi:ins.length=c.aq.length)(hs:state.length=c.ah.length)(p:List Nat)(hp:∀a∈p,a<c.af.length):∀r:List Nat,(∀a∈r,a<c.af.length)->∀s∈(jK c ins state p).map (·.1),eF (jK c ins state (p++r)) s=eF (jK c ins state p) s:=by
 intro r
 induction r using Ru with
 |h0=>intro _ s _;simp
 |h1 r a ih=>
  intro hr s h2;have ha:=hr a (by simp)
  have hv:=fun b hb=>hr b (a8.2 (.inl hb))
  have h1:=ih hv s h2;rw[<-cR,CJ c ins state (p++r) ha,aic ?_,h1];rw[vQ hi hs _ fun b hb=>(a8.1 hb).elim (hp b) (hv b)];rw[vQ hi hs p hp]at h2;simp only[a8,jA]at h2⊢
  exact h2.elim .inl fun h=>.inr (.inl h)
theorem afT{c:Ct}(ok:eR c)(hl:∀i<c.af.length,i∈aS c){ins state:List Bool}(hi:ins.length=c.aq.length)(hs:state.length=c.ah.length):D2 c ins state (eF (jk c ins state)):=by
 have hd:=vA (CT ok);have hc:=pH c;have h4:=Ck ok
 have hy:(fW c).Nodup:=by rw[mH]at h4;exact h4.1
 have hv:∀i,∀h:i<(fW c).length,eF (jk c ins state) (fW c)[i]=(ins++state).getD i false:=fun i h=>by
  have h1:=IA hi hs [] (by simp) (aS c) hc (fW c)[i] (by rw[vQ hi hs [] (by simp)];simp);rw[kF]at h1;rw[jk,h1];have:=RZ (fW c) (ins++state) hy i h (by rw[zO]at h;simp;omega);simpa[jK,AS]using this
 refine⟨fun i h=>?_,fun i h=>?_,fun i h=>?_⟩
 ·have:=hv i (by rw[zO];omega);simp only[fW,xF h]at this;rw[this,bz,bz,cF (by omega)]
 ·have:=hv (c.aq.length+i) (by rw[zO];omega);simp only[fW]at this;rw[Fq (by omega)]at this;simp only[rY,List.getElem_map]at this;rw[this,bz,bz,dB (by omega),hi,rY]
 ·obtain⟨p,q,he⟩:=List.append_of_mem (hl i h)
  have hk:∀a∈p,a<c.af.length:=fun a ha=>hc a (by rw[he];simp[ha])
  have hp:∀a∈q,a<c.af.length:=fun a ha=>hc a (by rw[he];simp[ha])
  have hb:=(kc.1 (Hx c he).1);have q1:=PJ ok hi hs hk h hb.1
  have e1:aS c=(p++[i])++q:=by rw[he];simp
  have ih:∀a∈p++[i],a<c.af.length:=fun a ha=>by
   rcases a8.1 ha with ha|ha
   ·exact hk a ha
   ·rw[cL]at ha;subst ha;exact h
  have h2:eF (jk c ins state) c.af[i].name=sP c.af[i] (gB (jK c ins state p) c.af[i].ins):=by
   rw[jk,e1,IA hi hs (p++[i]) ih q hp _ (by rw[vQ hi hs _ ih];simp[DA h])];rw[CJ c ins state p h,ahP _ q1]
  rw[h2];congr 1;apply nB;intro s hf
  have h5:s∈(jK c ins state p).map (·.1):=by
   rw[vQ hi hs p hk,a8];have hu:s∈aE c:=ok.used s (by simp only[fT,mX,a8,qA];exact .inr ⟨_,bA h,hf⟩)
   rcases Iy.1 hu with hu|⟨x,hx,rfl⟩|⟨x,hx,rfl⟩
   ·exact .inl (by simp[fW,hu])
   ·exact .inl (by simp only[fW,a8,cd];exact .inr ⟨x,hx,rfl⟩)
   ·obtain⟨j,hj,rfl⟩:=gb hx;have:=hb.2 j ((Az h hj).2 hf);exact .inr (cd.2 ⟨j,this,DA hj⟩)
  rw[jk,e1,cR];exact(IA hi hs p hk ([i]++q) (fun a ha=>hc a (by rw[he];simp at ha⊢;exact .inr ha)) s h5).symm
theorem ahH{c:Ct}(ok:eR c)(hb:∀i<c.af.length,i∈aS c){ins state:List Bool}{f g:Bs->Bool}(hf:D2 c ins state f)(hg:D2 c ins state g):∀s∈aE c,f s=g s:=by
 have h2:∀s∈fW c,f s=g s:=fun s hs=>by
  simp only[fW,a8,cd]at hs
  rcases hs with hs|⟨q,hq,rfl⟩
  ·obtain⟨i,hi,rfl⟩:=gb hs;rw[hf.W0 i hi,hg.W0 i hi]
  ·obtain⟨i,hi,rfl⟩:=gb hq;rw[hf.A' i hi,hg.A' i hi]
 have key:∀(q p:List Nat),aS c=p++q->(∀a∈p,∀h:a<c.af.length,f c.af[a].name=g c.af[a].name)->∀a∈p++q,∀h:a<c.af.length,f c.af[a].name=g c.af[a].name:=by
  intro q
  induction q with
  |nil=>intro p _ h;simpa using h
  |cons x q ih=>
   intro p he h
   have:=ih (p++[x]) (by simpa using he) fun a ha hv=>by
    rcases a8.1 ha with ha|ha
    ·exact h a ha hv
    ·rw[cL]at ha;subst ha;rw[hf.XK a hv,hg.XK a hv];congr 1;apply nB;intro s hs;have hu:s∈aE c:=ok.used s (by simp only[fT,mX,a8,qA];exact .inr ⟨_,bA hv,hs⟩)
     rcases Iy.1 hu with hu|⟨y,hy,rfl⟩|⟨y,hy,rfl⟩
     ·exact h2 s (by simp[fW,hu])
     ·exact h2 _ (by simp only[fW,a8,cd];exact .inr ⟨y,hy,rfl⟩)
     ·obtain⟨j,hj,rfl⟩:=gb hy;exact h j ((kc.1 (Hx c he).1).2 j ((Az hv hj).2 hs)) hj
   simpa using this
 intro s hs
 rcases Iy.1 hs with hu|⟨y,hy,rfl⟩|⟨y,hy,rfl⟩
 ·exact h2 s (by simp[fW,hu])
 ·exact h2 _ (by simp only[fW,a8,cd];exact .inr ⟨y,hy,rfl⟩)
 ·obtain⟨j,hj,rfl⟩:=gb hy;exact key (aS c) [] rfl (by simp) j (by simpa using hb j hj) hj
def AK(c:Ct)(ins state:List Bool):List Bool:=gB (jk c ins state) c.az
def AF(c:Ct)(ins state:List Bool):List Bool:=c.ah.map fun q=>eF (jk c ins state) q.next
theorem afl(c:Ct)(ins state:List Bool):(AF c ins state).length=c.ah.length:=by simp[AF]
theorem IU{c:Ct}(ok:eR c){s:Bs}(h:s∈c.az):s∈aE c:=ok.used s (by simp[fT,h])
theorem zU{c:Ct}(ok:eR c){q:Lt}(h:q∈c.ah):q.next∈aE c:=ok.used _ (by simp only[fT,a8,cd];exact .inl (.inr ⟨q,h,rfl⟩))
def j3(c:Ct):Bool:=decide ((mW c).1=0)
theorem Ap{c:Ct}(h:j3 c=true):me c=true/\oS c=[]/\mW c=(0,[]):=afH (BD h)
theorem MV(hΓ:fE Γ)(c:Ct)(hb:gR c):aQ ak Γ Gz [bU c] (.bool (j3 c)):=by
 have hC:=Qm hΓ c hb;unfold j3;generalize mW c=r at*;obtain⟨e,s⟩:=r;refine .run 60 abF.1 (by simp) ?_;simp;refine .call 60 (by simp) hC ?_;simp;exact .back (by simp)
abbrev w8(x:Bs×Bool):AV×AV:=(.str x.1,.bool x.2)
@[simp] theorem Dn(n:Nat):∀l:List (Bs×Bool),fC n (l.map w8)=true
 |[]=>rfl
 |x::r=>by simp[Dn n r]
@[simp] theorem RE(n m:Nat):∀l:List (Bs×Bool),o_ n m (l.map w8)=true
 |[]=>rfl
 |x::r=>by simp[RE n m r]
@[simp] theorem aEt(n:Nat)(τ:List Nat)(l:List (Bs×Bool)):oe n τ (l.map w8)=l.map w8:=IN (Dn n l)
def iM(m:List (Bs×Bool)):Ob:=.map (m.map w8) true
def rm(l:List Bool):Ob:=.row 1 bT (l.map .bool) none true false
theorem R6(s:Bs)(m:List (Bs×Bool)):fg (.sc .str) (.str s) (m.map w8)=some ((getM s m).map AV.bool):=vI oR AV.bool s m
theorem D1{h os:List Ob}{a b:Ob}:(h++a::b::os)[h.length+1]? =some b:=by simp
theorem Sn(m:List (Bs×Bool))(l:List Bs){fl:Bool}{k:Nat}(hk:Kd 1 k l)(hl:l.length<2^40){j:Nat}{h:List Ob}(hj:h[j]? =some (iM m))(hw:bN h)(hv:eT h):
 ∀up,AM.Reach ak Γ (.cl zk [.mp j,.list fl k (l.map .str)] up h) (.back up (.sl h.length 0 l.length) (h++[rm (gB m l)])):=by
 intro up;have hb:=hw h.length (aT _);have hx:j<h.length:=(cV.1 hj).1
 have hc:=fun os=>ez hj os
 have h4:=fun m=>hv (h.length+1) m (by omega)
 have key:∀n i:Nat,i+n=l.length->AM.Reach ak Γ (yuf (.mp j) (.sl (h.length+1) 0 i) (.list fl k (l.map .str)) (.int .i64 l.length) (.int .i64 i) (h++[.row 1 bT [] none true false,.row 1 bT ((gB m (l.take i)).map .bool) none true false]) ⟨[],.norm,h.length,up⟩)
  (.back up (.sl h.length 0 l.length) (h++[rm (gB m l)])):=by
  intro n
  induction n with
  |zero=>
   intro i hi
   have q1:¬i<l.length:=by omega
   have he:i=l.length:=by omega
   subst he;rw[cj (by omega)];generalize gB m l=P at*;refine .nq h.length [1] (by simp[nP hb,hx]) (by decide) ?_;have hy:(h.length+1<h.length)=False:=jC (by omega);simp[nQ hb,hx,hy];refine .aY 60 ?_;simp[q1,rm]
  |succ n ih=>
   intro i hi
   have q1:i<l.length:=by omega
   have q2:=bG (hk.of q1);have hh:=ih (i+1) (by omega)
   have e1:gB m (l.take (i+1))=gB m (l.take i)++[eF m l[i]]:=by
    rw[iA q1,gB,jA];rfl
   have hlen:(gB m (l.take i)).length=i:=by simp[gB];omega
   rw[e1]at hh;have hf:=R6 l[i] m;have h2:eF m l[i]=(match getM l[i] m with|some v=>v|none=>false):=rfl
   have hle:((i:Int)+1)<=140737488355328:=by omega
   generalize gB m (l.take i)=P at*;refine .aY 60 ?_
   cases hg:getM l[i] m with
   |none=>
    rw[hg]at hf h2;simp at hf h2;rw[h2]at hh;simp(disch:=omega) [q1,q2,hc,iM,hf,isKey,bM,bV,hle,hlen];refine .aI ?_;simp;refine .nN (i:=h.length+1) D1 (by simp) (by simp[hlen]) (by simp[h4]) ?_;simp at hh⊢;exact hh
   |some v=>
    rw[hg]at hf h2;simp at hf h2;rw[h2]at hh;simp(disch:=omega) [q1,q2,hc,iM,hf,isKey,bM,bV,hle,hlen];refine .aI ?_;simp;refine .nN (i:=h.length+1) D1 (by simp) (by simp[hlen]) (by simp[h4]) ?_;simp at hh⊢;exact hh
 refine .bp 60 acx.1 ?_;simp;refine .inLoop ?_;have hh:=key l.length 0 (by omega);simp[gB]at hh⊢;exact hh
theorem Tq{h os:List Ob}{a b:Ob}{f:Ob->Ob}:(h++a::b::os).modify (h.length+1) f=h++a::f b::os:=by
 induction h with
 |nil=>rfl
 |cons x h ih=>simpa using ih
theorem ala{h os:List Ob}{a b c d e:Ob}:(h++a::b::c::d::e::os)[h.length+4]? =some e:=by simp
theorem alz{h os:List Ob}{a b c d:Ob}{f:Ob->Ob}:(h++a::b::c::d::os).modify (h.length+3) f=h++a::b::c::f d::os:=by
 induction h with
 |nil=>rfl
 |cons x h ih=>simpa using ih
def jL(c:Ct)(N:List Bs)(l:List Nat):Ob:=.cells [.list false c.kI (c.aq.map .str),.list false c.kO (c.az.map .str),.list false c.kL (c.ah.map ov),.list false c.kG (c.af.map df),.list false 1 (N.map .str),.list false 1 (l.map iN)]
theorem ajg(hΓ:fE Γ)(c:Ct)(hb:gR c)(ho:j3 c=true){h:List Ob}(hw:bN h)(hv:eT h):
 ∀up,AM.Reach ak Γ (.cl B8 [bU c] up h) (.back up (.aH [.ptr h.length 0,.int .i64 0]) (h++[jL c (aE c) (aS c)])):=by
 intro up;obtain⟨hr,hn,_⟩:=Ap ho;have h2:=hw h.length (aT _);have hR:=MV hΓ c hb;rw[ho]at hR;have hS:=IT hΓ c hb;rw[hn]at hS
 have hc:wO c=aS c:=by simp[wO,hr]
 rw[hc]at hS;have hN:=Jn (Γ:=Γ) c (sq hb hr);generalize aS c=l at*;refine .bp 60 MU.1 ?_;simp;refine .ji 60 (by simp) hR ?_;simp;refine .ji 60 (by simp) hS ?_;simp;refine .trees [4] ?_;simp[Tq,eI];refine .ei 0 ?_;simp;refine fI.call (by simp) hN ?_;simp;generalize aE c=N at*;refine .trans (.iE 4 ala) ?_;have hx:(N.map AV.str).take N.length=N.map AV.str:=cj (by simp);simp[my,share,alz,eI,hx];refine .trans (.na [1,5,9,11,12,13,16,18] _) ?_;simp[nn];refine .nq h.length [4] (by simp[nP h2]) (by decide) ?_;have hk:(h.length+4<h.length)=False:=jC (by omega);simp[nQ h2,hk];refine .aY 60 ?_;simp[jL]
theorem ag7(hΓ:fE Γ)(c:Ct)(hb:gR c)(ho:j3 c=false){h:List Ob}:
 ∀up,AM.Reach ak Γ (.cl B8 [bU c] up h) (.back up (.aH [.jn,.int .i64 1]) (h++[.cells (AV.cells (bU c))])):=by
 intro up;have hR:=MV hΓ c hb;rw[ho]at hR;refine .bp 60 MU.1 ?_;simp;refine .ji 60 (by simp) hR ?_;simp
theorem ajy(c:Ct)(hc:cH c)(N:List Bs)(l:List Nat)(ins state:List Bool){fi fs:Bool}{ki ks:Nat}(hb:ins.length<2^40)(hx:state.length<2^40)(hn:¬(ins.length=c.aq.length/\state.length=c.ah.length)){j:Nat}{h:List Ob}(hj:h[j]? =some (jL c N l)):
 ∀up,AM.Reach ak Γ (.cl r_ [.ptr j 0,.list fs ks (state.map .bool),.list fi ki (ins.map .bool)] up h) (.back up (.aH [.dk,.int .i64 11]) h):=by
 intro up;have b0:=hc.1;have b2:=hc.2.2.1;have e1:((state.length:Int)=c.ah.length)=(state.length=c.ah.length):=propext (by omega);have e2:((ins.length:Int)=c.aq.length)=(ins.length=c.aq.length):=propext (by omega);have hv:=hj;unfold jL at hv;refine .bp 60 Mt.1 ?_
 by_cases h1:state.length=c.ah.length
 ·have h2:¬ins.length=c.aq.length:=fun h=>hn ⟨h,h1⟩
  simp[hv,e1,e2,h1,h2]
 ·simp[hv,e1,e2,h1]
theorem ae3(a b:List Bool){ka kb:Nat}(ha:Kd 1 ka a)(hb:Kd 1 kb b)(hl:a.length+b.length<2^40):aQ ak Γ tK [.list false 1 [.list false ka (a.map .bool),.list false kb (b.map .bool)]] (.own 1 bT ((a++b).map .bool)):=by
 by_cases h:a++b=[]
 ·rw[L8]at h;have:=YD (Γ:=Γ) [(ka,a),(kb,b)] (by simp[h]) (by simp);simpa[h,pS]using this
 ·have h2:0<(a++b).length:=rW.2 h;have:=YX (Γ:=Γ) [(ka,a),(kb,b)] (by simp[ha,hb]) (by simp) (by simp[db];omega) (by simpa[db]using h2);simpa[db,pS]using this
theorem abx{N:List Bs}(hn:N.Nodup)(v:List Bool){i:Nat}(hi:i<N.length):getM N[i] ((N.take i).zip (v.take i))=none:=by
 rw[getM_none];intro x hx he;have:=(Mb (a:=x.1) (b:=x.2) hx).1;obtain⟨j,hj,h2⟩:=gb this;rw[qp]at h2;have h1:=(xQ (xs:=N) (i:=j) (j:=i) (h₀:=by simp at hj;omega) (h₁:=hi) hn).1 (h2.trans he)
 simp at hj;omega
theorem abh(N:List Bs)(v:List Bool){i:Nat}(hi:i<N.length)(h2:i<v.length):(N.take (i+1)).zip (v.take (i+1))=(N.take i).zip (v.take i)++[(N[i],v[i])]:=by
 rw[iA hi,iA h2,FB (by simp;omega)];rfl
abbrev sY(h:List Ob)(m:List (Bs×Bool))(v:List Bool):List Ob:=h++[iM m,.row 1 bT (v.map .bool) none true true]
theorem akX(c:Ct)(N:List Bs)(hN:N.Nodup)(hc:N.length<2^30)(l:List Nat)(v:List Bool)(hx:v.length<=N.length){j:Nat}{h:List Ob}(hj:h[j]? =some (jL c N l))(hw:bN h)(hv:eT h)(up:List Fr):∀n i:Nat,i+n=v.length->
 AM.Reach ak Γ (ytQ (.ptr j 0) (.mp h.length) (.list false 1 (v.map .bool)) (.int .i64 v.length) (.int .i64 i) (sY h ((N.take i).zip (v.take i)) v) ⟨[],.norm,h.length,up⟩)
  (ytR (.ptr j 0) (.mp h.length) (sY h (N.zip v) v) ⟨[],.norm,h.length,up⟩):=by
 have hk:j<h.length:=(cV.1 hj).1
 have h2:=fun os=>ez hj os
 unfold jL at h2;intro n
 induction n with
 |zero=>
  intro i hi
  have q1:¬i<v.length:=by omega
  have e1:(N.take i).zip (v.take i)=N.zip v:=by
   rw[cj (l:=v) (by omega)]
   conv=>rhs;rw[<-lY i N]
   have:v=v++[]:=by simp
   conv=>rhs;rw[this]
   rw[FB (by simp;omega)];simp
  rw[e1];refine .dh 60 ?_;simp[q1];exact .exit rfl rfl
 |succ n ih=>
  intro i hi
  have q1:i<v.length:=by omega
  have q3:i<N.length:=by omega
  have hh:=ih (i+1) (by omega);rw[abh N v q3 q1]at hh;have hb:=vO (E:=.sc .str) (e:=AV.str) oR AV.bool v[i] (abx hN v q3);generalize(N.take i).zip (v.take i)=m at*;refine .dh 60 ?_;simp(disch:=omega) [q1,q3,h2,iM,hb,isKey,bM,bV];refine .aI ?_;simp[iM,sY]at hh⊢;exact hh
theorem akU(hΓ:fE Γ)(c:Ct)(hc:cH c)(ok:eR c)(ins state:List Bool)(hp:ins.length=c.aq.length)(h5:state.length=c.ah.length)(v:List Bool){j:Nat}{h:List Ob}(hj:h[j]? =some (jL c (aE c) (aS c)))(hw:bN h)(hv:eT h)(up:List Fr):∀n i:Nat,i+n=(aS c).length->
 AM.Reach ak Γ (ytN (.ptr j 0) (.mp h.length) (.list false 1 ((aS c).map iN)) (.int .i64 (aS c).length) (.int .i64 i) (sY h (jK c ins state ((aS c).take i)) v) ⟨[],.norm,h.length,up⟩)
  (ytO (.mp h.length) (sY h (jk c ins state) v) ⟨[],.norm,h.length,up⟩):=by
 have e2:j<h.length:=(cV.1 hj).1
 have h2:=fun os=>ez hj os
 unfold jL at h2;have h4:=pH c;have hq:=GB c;have h6:=Hh hc;have ht:=hw (h.length+2) (by omega);intro n
 induction n with
 |zero=>
  intro i hi
  have q1:¬i<(aS c).length:=by omega
  rw[cj (by omega),<-jk];refine .dh 60 ?_;simp[q1];exact .exit rfl rfl
 |succ n ih=>
  intro i hi
  have q1:i<(aS c).length:=by omega
  have ha:=h4 _ (bA q1);have q2:=bG (c.hG.of ha);have hh:=ih (i+1) (by omega)
  have hb:=PJ ok hp h5 (p:=(aS c).take i) (fun a h=>h4 a (lr h)) ha (fun hm=>by
   obtain⟨x,hx,he⟩:=gb hm;rw[qp]at he;have:=(xQ (xs:=aS c) (h₀:=by simp at hx;omega) (h₁:=q1) hq).1 he
   simp at hx;omega)
  rw[iA q1,CJ c ins state _ ha]at hh
  have hk:=fun u=>vO (E:=.sc .str) (e:=AV.str) oR AV.bool u (agL hb)
  have hl:=hc.2.2.2.2.1 _ (bA ha)
  have gl:((aS c).map iN)[i]? =some (.int .i64 (aS c)[i]):=by simp[q1]
  obtain⟨hz,hd⟩:=cV.1 gl
  have hg:((aS c).map iN).length=(aS c).length:=by simp
  generalize jK c ins state ((aS c).take i)=m at*;generalize(aS c)[i]=a at*;have hG:=aca hΓ c.af[a] hl (gB m c.af[a].ins) (k:=1) .self (by simp[gB];have:=hl.2.1;omega)
  have hP:=Sn (Γ:=Γ) m c.af[a].ins (fl:=false) c.af[a].hi (by have:=hl.2.1;omega) (j:=h.length) (h:=sY h m v++[.cells (AV.cells (df c.af[a])),.row 1 aw [] none true false,.row 1 aw [] none true false]) (by simp) (by
   intro n hn;simp at hn
   simp[hw n (by omega),iM]) (by
   intro n k hn;simp at hn
   simp[hv n k (by omega),iM])
  refine .dh 60 ?_;simp(disch:=omega) [q1,q2,gl,hd,hg,ha,h2,fN];refine .LI 60 ?_;simp(disch:=omega) [q1,q2,h2]
  have hf:(gB m c.af[a].ins).length=c.af[a].ins.length:=by simp[gB]
  simp at hP;generalize gB m c.af[a].ins=P at*;refine fI.reach (by simp) hP ?_;simp[rm];have ps:(P.map AV.bool).take c.af[a].ins.length=P.map AV.bool:=cj (by simp[hf]);refine fI.call (by simp[hf,ps]) hG ?_;simp(disch:=omega) [iM,hk,isKey,bM,bV];refine .aI ?_;simp
  have e1:j<h.length+2:=by omega
  have hy:=Dn (h.length+2) (m++[(c.af[a].name,sP c.af[a] P)]);rw[jA,bX,jO]at hy;refine .lF (h.length+2) (by simp;rfl) (by simp) (by simp[e1]) (by simp[ht];exact hy) ?_;simp[iM,sY]at hh⊢;exact hh
theorem ajY(hΓ:fE Γ)(c:Ct)(hc:cH c)(ok:eR c)(ins state:List Bool)(hx:ins.length=c.aq.length)(hk:state.length=c.ah.length){fi fs:Bool}{ki ks:Nat}(hl:Kd 1 ki ins)(q1:Kd 1 ks state){j:Nat}{h:List Ob}(hj:h[j]? =some (jL c (aE c) (aS c)))(hw:bN h)(hv:eT h):
 ∀up,AM.Reach ak Γ (.cl r_ [.ptr j 0,.list fs ks (state.map .bool),.list fi ki (ins.map .bool)] up h) (.back up (.aH [.mp h.length,.int .i64 0]) (h++[iM (jk c ins state)])):=by
 intro up;have b0:=hc.1;have b2:=hc.2.2.1;have hf:=Rz hc;have e1:((state.length:Int)=c.ah.length)=True:=bG (by omega);have e2:((ins.length:Int)=c.aq.length)=True:=bG (by omega);have hy:j<h.length:=(cV.1 hj).1
 have h2:=fun os=>ez hj os
 have hb:=hj;unfold jL at hb h2;have h4:=hw (h.length+1) (by omega);have hC:=ae3 (Γ:=Γ) ins state hl q1 (by omega)
 have ih:(ins++state).length<=(aE c).length:=by simp[aE];omega
 have h9:=akX (Γ:=Γ) c (aE c) ok.nodup (by omega) (aS c) (ins++state) ih hj hw hv up (ins++state).length 0 (by omega);have h1:=akU hΓ c hc ok ins state hx hk (ins++state) hj hw hv up (aS c).length 0 (by omega)
 have hz:(aE c).zip (ins++state)=jK c ins state []:=by
  have e:ins++state=(ins++state)++[]:=by simp
  rw[jK,List.foldl_nil,AS,aE,e,<-fW,FB (by rw[zO];simp;omega)];simp
 rw[xD]at h9 h1;rw[hz]at h9;simp only[xD,List.zip_nil_right]at h9
 have hp:(ins++state).length=ins.length+state.length:=by simp
 generalize jK c ins state []=m0 at*;generalize jk c ins state=m1 at*;generalize aS c=l at*;generalize aE c=N at*;refine .bp 60 Mt.1 ?_;simp[hb,e1,e2];generalize ins++state=v at*;refine .ji 60 (by simp) hC ?_;simp;refine .trees [38] ?_;simp[Tq,eI];refine .inLoop ?_;simp[iM,sY]at h9 h1⊢;refine .trans h9 ?_;refine .aY 60 ?_;simp[h2];refine .inLoop ?_;simp;refine .trans h1 ?_;refine .lF (h.length+1) (by simp;rfl) (by simp) (by simp) (by simp[h4]) ?_;refine .aY 60 ?_;simp
structure Md where
 g:Gr
 aq:List Bs
 ah:List Bs
 az:List Bs
 kI:Nat
 kL:Nat
 kO:Nat
 hI:Kd 1 kI aq
 hL:Kd 1 kL ah
 hO:Kd 1 kO az
abbrev fa(m:Md):AV:=.agg [.int .i64 m.g.ins,.list false m.g.kn (m.g.next.map i64),.list false m.g.ki (m.g.init.map i64),.list false m.g.ka (m.g.ands.map dA),.list false m.g.ko (m.g.outs.map i64),
 .list false m.kI (m.aq.map .str),.list false m.kL (m.ah.map .str),.list false m.kO (m.az.map .str)]
def lj:Md:=⟨ga,[],[],[],0,0,0,.nil,.nil,.nil⟩
def rJ(m:List (Bs×Nat))(s:Bs):Nat:=match getM s m with
 |some v=>v
 |none=>0
def cO(m:List (Bs×Nat))(l:List Bs):List Nat:=l.map (rJ m)
def ij(n:Nat):List Nat:=(List.range n).map fun i=>2*(i+1)
def dT(c:Ct):Gr:=⟨c.aq.length,List.replicate c.ah.length 0,c.ah.map (·.init),[],[],1,1,0,0,.self,.self,.nil,.nil⟩
def k9(c:Ct):List Nat->Gr->List Nat->Gr×Option (List Nat)
 |[],x,v=>(x,some v)
 |a::r,x,v=>match c.af[a]? with
  |none=>(x,none)
  |some g=>gn (ku x g (cO ((aE c).zip v) g.ins)) fun y d=>k9 c r y (v.set (c.aq.length+c.ah.length+a) d)
def kZ(c:Ct):Gr×Option (List Nat):=k9 c (aS c) (dT c) (ij (aE c).length)
def cX(c:Ct)(y:Gr)(v:List Nat):Gr:={y with
 next:=(cO ((aE c).zip v) (c.ah.map (·.next))).map fun n:Nat=>(n:Int),kn:=1,hn:=.self
 outs:=(cO ((aE c).zip v) c.az).map fun n:Nat=>(n:Int),ko:=1,ho:=.self}
def oT(c:Ct)(y:Gr)(v:List Nat):Md:=⟨(cX c y v).normal,c.aq,c.ah.map (·.name),c.az,1,1,1,.self,.self,.self⟩
def cv(c:Ct):Md×Int×Bs:=
 if(mW c).1=0 then(match(kZ c).2 with
  |none=>(lj,8,[])
  |some v=>(oT c (kZ c).1 v,0,[]))else(lj,mW c)
abbrev Ed(r:Md×Int×Bs):AV:=.aH [fa r.1,.int .i64 r.2.1,.str r.2.2]
theorem _root_.Go.AM.Reach.Ah{P:Program}{f:FuncId}{args:List AV}{up:List Fr}{h:List Ob}{v:AV}(J:List Ob)(hw:bN h)(hv:aK h.length v=true)(h1:AM.Reach P Γ (.cl f args up h) (.back up v (h++J))):AM.Reach P Γ (.cl f args up h) (.back up v h):=by
 have:=AM.Reach.leave h1 hv (by rw[tF rfl];exact hw _ (aT _));rwa[tF rfl]at this
def TH(m:List (Bs×Nat)):Ob:=.map (m.map ju) true
theorem ajC(s:Bs)(m:List (Bs×Nat)):fg (.sc .str) (.str s) (m.map ju)=some ((getM s m).map iN):=vI oR iN s m
theorem akd{h os:List Ob}{a b:Ob}{f:Ob->Ob}:(h++a::b::os).modify (h.length+1) f=h++a::f b::os:=by
 induction h with
 |nil=>rfl
 |cons x h ih=>simpa using ih
theorem Jl(m:List (Bs×Nat))(l:List Bs){fl:Bool}{k:Nat}(hk:Kd 1 k l)(hl:l.length<2^40){j q:Nat}{h:List Ob}(hj:h[j]? =some (.cells [.mp q]))(hq:h[q]? =some (TH m))(hw:bN h)(hv:eT h):
 ∀up,AM.Reach ak Γ (.cl sa [.list fl k (l.map .str),.ptr j 0] up h) (.back up (.list false 1 ((cO m l).map iN)) h):=by
 intro up;have hb:=hw h.length (aT _)
 have hx:=fun os=>ez hj os
 have h2:=fun os=>ez hq os
 unfold TH at h2
 have h4:=fun m=>hv (h.length+1) m (by omega)
 have key:∀n i:Nat,i+n=l.length->AM.Reach ak Γ (ylc (.ptr j 0) (.sl (h.length+1) 0 i) (.list fl k (l.map .str)) (.int .i64 l.length) (.int .i64 i) (h++[.row 1 au [] none true false,.row 1 au ((cO m (l.take i)).map iN) none true false]) ⟨[],.norm,h.length,up⟩)
  (.back up (.list false 1 ((cO m l).map iN)) (h++[.row 1 au [] none true false,.row 1 au ((cO m l).map iN) none true true])):=by
  intro n
  induction n with
  |zero=>
   intro i hi
   have q1:¬i<l.length:=by omega
   have he:i=l.length:=by omega
   subst he;rw[cj (by omega)]
   have hlen:(cO m l).length=l.length:=by simp[cO]
   have hy:((cO m l).map iN).take l.length=(cO m l).map iN:=cj (by simp[hlen]);generalize cO m l=P at*;refine .dh 60 ?_;simp[q1];refine .trans (.exit rfl rfl) ?_;refine .trees [4] ?_;simp[akd,eI];refine .aY 60 ?_;simp[hy,hlen]
  |succ n ih=>
   intro i hi
   have q1:i<l.length:=by omega
   have q2:=bG (hk.of q1);have hh:=ih (i+1) (by omega)
   have e1:cO m (l.take (i+1))=cO m (l.take i)++[rJ m l[i]]:=by
    rw[iA q1,cO,jA];rfl
   have hlen:(cO m (l.take i)).length=i:=by simp[cO];omega
   rw[e1]at hh;have hf:=ajC l[i] m;have hc:rJ m l[i]=(match getM l[i] m with|some v=>v|none=>0):=rfl
   have hle:((i:Int)+1)<=140737488355328:=by omega
   generalize cO m (l.take i)=P at*;refine .aY 60 ?_
   cases hg:getM l[i] m with
   |none=>
    rw[hg]at hf hc;simp at hf hc;rw[hc]at hh;simp(disch:=omega) [q1,q2,hx,h2,hf,isKey,bM,bV,hle,hlen];refine .aI ?_;simp;refine .nN (i:=h.length+1) D1 (by simp) (by simp[hlen]) (by simp[h4]) ?_;simp at hh⊢;exact hh
   |some v=>
    rw[hg]at hf hc;simp at hf hc;rw[hc]at hh;simp(disch:=omega) [q1,q2,hx,h2,hf,isKey,bM,bV,hle,hlen];refine .aI ?_;simp;refine .nN (i:=h.length+1) D1 (by simp) (by simp[hlen]) (by simp[h4]) ?_;simp at hh⊢;exact hh
 refine .Ah [.row 1 au [] none true false,.row 1 au ((cO m l).map iN) none true true] hw (by simp) ?_;refine .bp 60 aae.1 ?_;simp;refine .inLoop ?_;have hh:=key l.length 0 (by omega);simp[cO]at hh⊢;exact hh
abbrev mdC(c:Ct)(L:AV):Ob:=.cells [.int .i64 0,.list true 0 [],.list true 0 [],.list true 0 [],.list true 0 [],.list false 1 (c.aq.map .str),L,.list false 1 (c.az.map .str)]
abbrev hA(c:Ct)(L:AV)(B:Ob)(m:List (Bs×Nat)):List Ob:=[.cells (AV.cells (bU c)),mdC c L,.row 1 au [] none true false,.row 1 au [] none true false,.row 2 da [] none true false,.row 1 au [] none true false,.row 1 aw [] none true false,.row 1 aw [] none true false,.row 1 aw [] none true false,
 .cells [.int .i64 0],.cells [.str []],B,.map (m.map ju) true,.cells [.mp 12]]
abbrev uT:Cx:=⟨[.call Ga [.ptr 1 0,.ptr 9 0,.ptr 10 0]],.norm,0,[]⟩
@[simp] theorem aDd(n k:Nat)(z:Int):aN n (List.replicate k (.int .i64 z))=true:=by
 induction k with
 |zero=>rfl
 |succ k ih=>simp[mE,ih]
@[simp] theorem aCX(i m k:Nat)(z:Int):dx i m (List.replicate k (.int .i64 z))=true:=by
 induction k with
 |zero=>rfl
 |succ k ih=>simp[mE,ih]
theorem vY(n:Nat):(ij n).length=n:=by simp[ij]
theorem aaC(N:List Bs)(v:List Nat){i:Nat}(hi:i<N.length)(h2:i<v.length):(N.take (i+1)).zip (v.take (i+1))=(N.take i).zip (v.take i)++[(N[i],v[i])]:=by
 rw[iA hi,iA h2,FB (by simp;omega)];rfl
theorem abl{N:List Bs}(hn:N.Nodup)(v:List Nat){i:Nat}(hi:i<N.length):getM N[i] ((N.take i).zip (v.take i))=none:=by
 rw[getM_none];intro x hx he;have:=(Mb (a:=x.1) (b:=x.2) hx).1;obtain⟨j,hj,h2⟩:=gb this;rw[qp]at h2;have h1:=(xQ (xs:=N) (i:=j) (j:=i) (h₀:=by simp at hj;omega) (h₁:=hi) hn).1 (h2.trans he)
 simp at hj;omega
theorem ak6(c:Ct)(N:List Bs)(hN:N.Nodup)(hb:N.length<2^20)(L:AV)(B:Ob)(hB:iL 14 B=true)(hL:aK 14 L=true){o:Out}
 (hc:aA ak Γ (yeD (.ptr 0 0) (.ptr 1 0) (.ptr 9 0) (.ptr 10 0) (.ptr 11 0) (.ptr 13 0) (hA c L B (N.zip (ij N.length))) uT) o):∀n i:Nat,i+n=N.length->
 aA ak Γ (yeC (.ptr 0 0) (.ptr 1 0) (.ptr 9 0) (.ptr 10 0) (.ptr 11 0) (.ptr 13 0) (.list false 1 (N.map .str)) (.int .i64 N.length) (.int .i64 i) (hA c L B ((N.take i).zip ((ij N.length).take i))) uT) o:=by
 intro n
 induction n with
 |zero=>
  intro i hi
  have q1:¬i<N.length:=by omega
  rw[cj (by omega),cj (by rw[vY];omega)];refine .dh 60 ?_;simp[q1];exact .reach (.exit rfl rfl) hc
 |succ n ih=>
  intro i hi
  have q1:i<N.length:=by omega
  have hh:=ih (i+1) (by omega)
  have hv:(ij N.length)[i]'(by rw[vY];exact q1)=2*(i+1):=by simp[ij]
  rw[aaC N _ q1 (by rw[vY];exact q1),hv]at hh
  have h2:gG (.sc .str) (.str N[i]) (.int .i64 (2*((i:Int)+1))) (((N.take i).zip ((ij N.length).take i)).map ju)=some (((N.take i).zip ((ij N.length).take i)).map ju++[(.str N[i],.int .i64 (2*((i:Int)+1)))]):=by
   have:=vO (E:=.sc .str) (e:=AV.str) oR iN (2*(i+1)) (abl hN (ij N.length) q1);rw[jA]at this;rw[show AV.int .i64 (2*((i:Int)+1))=iN (2*(i+1)) by simp[iN]];exact this
  generalize(N.take i).zip ((ij N.length).take i)=m at*;refine .dh 60 ?_;simp(disch:=omega) [q1,h2,isKey,bM,bV];refine .aI ?_;simp[hA]at hh⊢;exact hh
abbrev hB(c:Ct)(m:List (Bs×Nat))(i:Nat):List Ob:=hA c (.sl 15 0 i) (.cells [.int .i64 c.aq.length,.list false 1 (List.replicate c.ah.length (.int .i64 0)),.sl 16 0 i,.list false 0 [],.list false 0 []]) m++
 [.row 1 aw ((c.ah.take i).map fun q=>.str q.next) none true false,.row 1 aw ((c.ah.take i).map fun q=>.str q.name) none true false,.row 1 au ((c.ah.take i).map fun q=>.int .i64 q.init) none true false]
theorem alG(c:Ct)(hv:cH c)(m:List (Bs×Nat)){o:Out}
 (hc:aA ak Γ (yeA (.ptr 0 0) (.ptr 1 0) (.ptr 9 0) (.ptr 10 0) (.ptr 11 0) (.ptr 13 0) (.fn (.func sa) [] [.ptr 13 0]) (.sl 14 0 c.ah.length) (hB c m c.ah.length) uT) o):∀n i:Nat,i+n=c.ah.length->
 aA ak Γ (yez (.ptr 0 0) (.ptr 1 0) (.ptr 9 0) (.ptr 10 0) (.ptr 11 0) (.ptr 13 0) (.fn (.func sa) [] [.ptr 13 0]) (.sl 14 0 i) (.list false c.kL (c.ah.map ov)) (.int .i64 c.ah.length) (.int .i64 i) (hB c m i) uT) o:=by
 have b2:=hv.2.2.1;intro n
 induction n with
 |zero=>
  intro i hi
  have q1:¬i<c.ah.length:=by omega
  have he:i=c.ah.length:=by omega
  subst he;refine .dh 60 ?_;simp[q1]at hc⊢;exact .reach (.exit rfl rfl) hc
 |succ n ih=>
  intro i hi
  have q1:i<c.ah.length:=by omega
  have q2:=bG (c.hL.of q1);have hh:=ih (i+1) (by omega)
  have hle:((i:Int)+1)<=140737488355328:=by omega
  have e:c.ah.take (i+1)=c.ah.take i++[c.ah[i]]:=iA q1;simp only[hB,e,jA]at hh⊢
  have hlen:(c.ah.take i).length=i:=by simp;omega
  generalize c.ah.take i=P at*;refine .dh 60 ?_;simp(disch:=omega) [q1,q2,hlen,hle];refine .dr 60 ?_;simp(disch:=omega) [q1,q2,hlen,hle];refine .aI ?_;simp;have hb:=pL 17 m
  have h2:=fun i k=>qY i k m
  refine .drop 17 rfl (by simp) (by simp) (by simp[hb]) ?_;refine .reset (i:=14) rfl (by simp) (by simp[hlen]) (by simp[h2]) ?_;refine .reset (i:=15) rfl (by simp) (by simp[hlen]) (by simp[hlen,h2]) ?_;refine .reset (i:=16) rfl (by simp) (by simp[hlen]) (by simp[hlen,h2]) ?_;simp[hA]at hh⊢;exact hh
theorem Qx(d:Nat):∀(N:List Bs)(v:List Nat)(j:Nat)(hn:N.Nodup)(hj:j<N.length),v.length=N.length->gG (.sc .str) (.str N[j]) (iN d) ((N.zip v).map ju)=some ((N.zip (v.set j d)).map ju)
 |[],v,j,hn,hj,hv=>by simp at hj
 |s::N,[],j,hn,hj,hv=>by simp at hv
 |s::N,a::v,0,hn,hj,hv=>by simp[gG,oR]
 |s::N,a::v,j+1,hn,hj,hv=>by
  rw[l0]at hn
  have h2:j<N.length:=by simpa using hj
  have ih:=Qx d N v j hn.2 h2 (by simpa using hv)
  have hb:¬N[j]=s:=fun e=>hn.1 (by rw[<-e];exact bA h2)
  simp only[tE,xH,bX,gG,oR,hb,nD,ih,dC,rQ]
def sS(c:Ct)(p:List Nat)(k:Nat):Prop:=k<c.aq.length+c.ah.length\/∃j∈p,k=c.aq.length+c.ah.length+j
def uM(c:Ct)(x:Gr)(v:List Nat)(p:List Nat):Prop:=∀k(hk:k<v.length),sS c p k->v[k]<x.lits
theorem sN:∀(N:List Bs)(v:List Nat)(k:Nat)(hn:N.Nodup)(hk:k<N.length)(hv:v.length=N.length),rJ (N.zip v) N[k]=v[k]'(by omega)
 |[],v,k,hn,hk,hv=>by simp at hk
 |s::N,[],k,hn,hk,hv=>by simp at hv
 |s::N,a::v,0,hn,hk,hv=>by simp[rJ,getM]
 |s::N,a::v,k+1,hn,hk,hv=>by
  rw[l0]at hn
  have h2:k<N.length:=by simpa using hk
  have ih:=sN N v k hn.2 h2 (by simpa using hv)
  have hb:¬N[k]=s:=fun e=>hn.1 (by rw[<-e];exact bA h2)
  simp only[rJ,xH,tE,getM,hb,dq]at ih⊢;exact ih
theorem DM(c:Ct){a:Nat}(ha:a<c.af.length):∃h:c.aq.length+c.ah.length+a<(aE c).length,(aE c)[c.aq.length+c.ah.length+a]=c.af[a].name:=by
 have h:c.aq.length+c.ah.length+a<(aE c).length:=by simp[aE];try omega
 refine⟨h,?_⟩
 have:(aE c)[c.aq.length+c.ah.length+a]? =some c.af[a].name:=by
  rw[aE,dB (by simp),jP]
  rw[show c.aq.length+c.ah.length+a-(c.aq++c.ah.map (·.name)).length=a by simp,aW ha];rfl
 exact(cV.1 this).2
theorem wa(c:Ct):(aE c).length=c.aq.length+c.ah.length+c.af.length:=by simp[aE,lu]
theorem Qb{c:Ct}(ok:eR c){i:Nat}(hi:i<(aS c).length){s:Bs}(hs:s∈(c.af[(aS c)[i]]'(pH c _ (bA hi))).ins):∃k,∃hk:k<(aE c).length,(aE c)[k]=s/\sS c ((aS c).take i) k:=by
 have ha:=pH c _ (bA hi)
 have hu:s∈fT c:=by
  simp only[fT,mX,a8,qA];exact .inr ⟨_,bA ha,hs⟩
 obtain⟨k,hk,he⟩:=gb (ok.used s hu);refine⟨k,hk,he,?_⟩
 by_cases h1:k<c.aq.length+c.ah.length
 ·exact .inl h1
 ·have hl:=wa c
  have hj:k-(c.aq.length+c.ah.length)<c.af.length:=by omega
  obtain⟨h2,h3⟩:=DM c hj;refine .inr ⟨k-(c.aq.length+c.ah.length),ag3 c hi ((Az ha hj).2 ?_),by omega⟩;rw[<-h3]
  have e:c.aq.length+c.ah.length+(k-(c.aq.length+c.ah.length))=k:=by omega
  simp only[e,he];exact hs
theorem Aj{c:Ct}{x:Gr}{v p:List Nat}(hn:(aE c).Nodup)(hv:v.length=(aE c).length)(h:uM c x v p){l:List Bs}(hl:∀s∈l,∃k,∃hk:k<(aE c).length,(aE c)[k]=s/\sS c p k):∀a∈cO ((aE c).zip v) l,a<x.lits:=by
 intro a ha;obtain⟨s,hs,rfl⟩:=cd.1 ha;obtain⟨k,hk,rfl,hc⟩:=hl s hs;rw[sN _ _ k hn hk hv];exact h k (by omega) hc
theorem uM.step{c:Ct}{x y:Gr}{v p:List Nat}(h:uM c x v p)(h2:x.lits<=y.lits){a d:Nat}(hd:d<y.lits):uM c y (v.set (c.aq.length+c.ah.length+a) d) (p++[a]):=by
 intro k hk hc;rw[List.getElem_set]
 split
 ·exact hd
 ·rename_i hv;refine lX (h k (by simpa using hk) ?_) h2
  rcases hc with hc|⟨j,hj,rfl⟩
  ·exact .inl hc
  ·rcases a8.1 hj with hj|hj
   ·exact .inr ⟨j,hj,rfl⟩
   ·simp only[cL]at hj;subst hj;exact absurd rfl hv
theorem qG(m:List (Bs×Nat))(l:List Bs):(cO m l).length=l.length:=by simp[cO]
abbrev Sw(c:Ct):AV:=.list false 1 ((c.ah.map (·.name)).map .str)
abbrev hM(c:Ct)(x:Gr)(v:List Nat):List Ob:=hA c (Sw c) (cT x) ((aE c).zip v)
theorem Tc(c:Ct)(x:Gr)(v:List Nat)(os:List Ob)(hv:∀m,14+os.length<=m->cz m os=true):bN (hM c x v++os):=fun m hm=>by
 have h1:=pL m ((aE c).zip v);simp at hm;have h2:=hv m (by omega);simp[h1,h2];omega
theorem S9(c:Ct)(x:Gr)(v:List Nat)(os:List Ob)(hv:∀i m,14+os.length<=i->c8 i m os=true):eT (hM c x v++os):=fun i m hi=>by
 have h1:=qY i m ((aE c).zip v);simp at hi;have h2:=hv i m (by omega);simp[h1,h2]
 try omega
def D'(c:Ct)(r:Gr×Option (List Nat)):Md×Int×Bs:=match r.2 with
 |none=>(lj,8,[])
 |some v=>(oT c r.1 v,0,[])
theorem agT{c:Ct}(hc:cH c){y:Gr}(ok:y.Ok)(v:List Nat):(cX c y v).iU:=by
 have f:=ok.iU;have b1:=hc.2.1;have b2:=hc.2.2.1;refine⟨?_,f.2.1,f.2.2.1,?_⟩
 ·simp[cX,qG];omega
 ·simp[cX,qG];omega
theorem al6(c:Ct)(hc:cH c)(y:Gr)(ok:y.Ok)(v:List Nat):
 aA ak Γ (yex (.ptr 0 0) (.ptr 1 0) (.ptr 9 0) (.ptr 10 0) (.ptr 11 0) (.fn (.func sa) [] [.ptr 13 0]) (.list false 1 ((c.ah.map (·.next)).map .str)) (hM c y v) uT) (.ret (Ed (oT c y v,0,[]))):=by
 have b1:=hc.2.1;have b2:=hc.2.2.1;have hw:=Tc c y v [] (by simp);have hv:=S9 c y v [] (by simp);rw[ey]at hw hv;have h1:=Jl (Γ:=Γ) ((aE c).zip v) (c.ah.map (·.next)) (fl:=false) (k:=1) .self (by simp;omega) (j:=13) (q:=12) (h:=hM c y v) rfl rfl hw hv;have h2:=Jl (Γ:=Γ) ((aE c).zip v) c.az (fl:=false) c.hO (by omega) (j:=13) (q:=12) (h:=hM c y v) rfl rfl hw hv;have hN:=Gu (Γ:=Γ) (cX c y v) (agT hc ok v)
 have hG:fJ (cX c y v)=.agg [.int .i64 y.ins,.list false 1 ((cO ((aE c).zip v) (c.ah.map (·.next))).map iN),.list false y.ki (y.init.map i64),.list false y.ka (y.ands.map dA),.list false 1 ((cO ((aE c).zip v) c.az).map iN)]:=by
  simp[cX,fJ,BC]
 rw[hG]at hN;unfold oT;generalize(cX c y v).normal=NG at*;generalize(cX c y v).check=CH at*;clear hG;generalize cO ((aE c).zip v) (c.ah.map (·.next))=A1 at*;generalize cO ((aE c).zip v) c.az=A2 at*;simp only[iW]at h1;refine .go 9 ?_;simp;refine .dr 60 ?_;simp;refine fI.reach (by simp) h1 ?_;simp;refine fI.reach (by simp) h2 ?_;simp;refine .call 60 (by simp) hN ?_;simp;exact .back (by simp)
theorem HO(c:Ct){a:Nat}(ha:a<c.af.length)(r:List Nat)(x:Gr)(v:List Nat):k9 c (a::r) x v=gn (ku x c.af[a] (cO ((aE c).zip v) c.af[a].ins)) fun y d=>k9 c r y (v.set (c.aq.length+c.ah.length+a) d):=by
 rw[k9,aW ha]
abbrev Lj(c:Ct)(x:Gr)(v:List Nat)(g:Gt):List Ob:=hM c x v++[.cells (AV.cells (df g)),.row 1 aw [] none true false,.row 1 aw [] none true false]
theorem alM(hΩ:AT Γ)(c:Ct)(hc:cH c)(hf:eR c)(hN:(aE c).Nodup):∀n i:Nat,i+n=(aS c).length->∀(x:Gr)(v:List Nat),x.Ok->v.length=(aE c).length->uM c x v ((aS c).take i)->
 aA ak Γ (yew (.ptr 0 0) (.ptr 1 0) (.ptr 9 0) (.ptr 10 0) (.ptr 11 0) (.ptr 13 0) (.fn (.func sa) [] [.ptr 13 0]) (.list false 1 ((c.ah.map (·.next)).map .str)) (.list false 1 ((aS c).map iN)) (.int .i64 (aS c).length) (.int .i64 i) (hM c x v) uT) (.ret (Ed (D' c (k9 c ((aS c).drop i) x v)))):=by
 have q3:=Hh hc;intro n
 induction n with
 |zero=>
  intro i hi x v ok hv hl
  have q1:¬i<(aS c).length:=by omega
  have hE:=al6 (Γ:=Γ) c hc x ok v;rw[bx (by omega),k9,D'];simp only[iW]at hE⊢;refine .dh 60 ?_;simp[q1];exact .reach (.exit rfl rfl) hE
 |succ n ih=>
  intro i hi x v ok hv hl
  have q1:i<(aS c).length:=by omega
  have ha:=pH c _ (bA q1);have q2:=bG (c.hG.of ha);have hy:=hc.2.2.2.2.1 _ (bA ha);have hq:=hf.af _ (bA ha);have ih:=ih (i+1) (by omega);have hp:=Aj hN hv hl (l:=c.af[(aS c)[i]].ins) (fun s hs=>Qb hf q1 hs);have ht:(aS c).take (i+1)=(aS c).take i++[(aS c)[i]]:=iA q1;rw[bJ q1,HO c ha];obtain⟨ps,e1⟩:=DM c ha
  have hb:=fun d=>Qx d (aE c) v _ hN ps hv
  rw[e1]at hb
  have gl:((aS c).map iN)[i]? =some (.int .i64 (aS c)[i]):=by simp[q1]
  obtain⟨k2,e2⟩:=cV.1 gl
  have h6:((aS c).map iN).length=(aS c).length:=by simp
  generalize(aS c)[i]=a at*;have hw:=Tc c x v [.cells (AV.cells (df c.af[a])),.row 1 aw [] none true false,.row 1 aw [] none true false] (by intro m hm;simp);have h5:=S9 c x v [.cells (AV.cells (df c.af[a])),.row 1 aw [] none true false,.row 1 aw [] none true false] (by intro m k hm;simp);have h1:=Jl (Γ:=Γ) ((aE c).zip v) c.af[a].ins (fl:=false) c.af[a].hi (by have:=hy.2.1;omega) (j:=13) (q:=12) (h:=Lj c x v c.af[a]) rfl rfl hw h5;have h4:=qG ((aE c).zip v) c.af[a].ins;have hg:=ajB (Γ:=Γ) hΩ c.af[a] hq hy (cO ((aE c).zip v) c.af[a].ins) h4 (ki:=1) .self x (i:=11) (h:=Lj c x v c.af[a]) rfl hw h5 ok hp;have hj:=NV ok c.af[a] hp;generalize cO ((aE c).zip v) c.af[a].ins=K at*;simp only[iW]at ih h1 hg⊢;refine .dh 60 ?_
  simp(disch:=omega) [q1,q2,gl,e2,h6,ha]
  cases h9:ku x c.af[a] K with
  |mk y r=>
   rw[h9]at hg hj
   cases r with
   |none=>
    simp only[dd,gn,D']at hg⊢
    obtain⟨D,hz,ys⟩:∃D,(∀its t,slot t 2=.ptr 1 0->slot t 3=.ptr 9 0->slot t 4=.ptr 10 0->AM.Reach ak Γ (.cl BM [.ptr 11 0,df c.af[a],.list false 1 (K.map iN)] (⟨.run,oH,its,t,uT.ds,.norm,0⟩::[]) (Lj c x v c.af[a])) D)/\aA ak Γ D (.ret (Ed (lj,8,[]))):=by
     refine⟨?_,fun its t t2 t3 t4=>.lS 90 hg ?_,?_⟩
     rotate_left
     ·simp[t2,t3,t4];exact .refl _
     ·exact .back (by simp[lj,ga])
    refine .reach (.Td (D:=D) ?_) ys;simp;refine fI.reach (by simp) h1 ?_;simp;refine fI.die (.int .i64 0) (by simp) (fun its t hk=>hz its t (hk 2 (by simp)) (hk 3 (by simp)) (hk 4 (by simp))) ?_;have hx:gG (.sc .str) (.str c.af[a].name) (.int .i64 0) _=_:=hb 0;simp[hx,isKey,bM,bV];exact .of (by simp)
   |some d=>
    have hd:=hj.2 d rfl;have hh:=ih y (v.set (c.aq.length+c.ah.length+a) d) hj.1.ok (by simpa using hv) (by rw[ht];exact hl.step hj.1.lits hd);simp only[dd,gn]at hg⊢;refine .dr 60 ?_;simp;refine fI.reach (by simp) h1 ?_;simp;refine fI.reach (by simp) hg ?_;simp(disch:=omega) [hb,isKey,bM,bV];refine .aI ?_;simp;have h7:=pL 14 ((aE c).zip (v.set (c.aq.length+c.ah.length+a) d));refine .drop 14 rfl (by simp) (by simp) (by simp[h7]) ?_;simp at hh⊢;exact hh
theorem IZ{c:Ct}(hc:cH c)(ok:eR c):(dT c).Ok:=by
 have h0:=ok.nz;simp only[gN,lx,jB]at h0;refine⟨⟨by simp[dT],by simp[dT];omega⟩,by simp[dT];omega,by simp[dT],by simp[dT],fun a ha=>?_,fun a ha=>?_,fun a ha=>by simp[dT]at ha,fun i hi=>by simp[dT]at hi⟩
 ·simp only[dT,cd]at ha;obtain⟨q,hq,rfl⟩:=ha;have:=ok.init q hq;simpa[mR]using this
 ·simp only[dT,Yh]at ha;obtain⟨_,rfl⟩:=ha;have:=zY (dT c);omega
theorem P9{c:Ct}(hc:cH c):uM c (dT c) (ij (aE c).length) []:=by
 intro k hk h
 rcases h with h|⟨j,hj,_⟩
 ·have e:(ij (aE c).length)[k]=2*(k+1):=by simp[ij]
  rw[e];simp only[Gr.lits,Gr.all,Gr.first,dT,eo,qx,c_];omega
 ·cases hj
theorem RH(hΓ:fE Γ)(hΩ:AT Γ)(c:Ct)(hb:gR c):aQ ak Γ oH [bU c] (Ed (cv c)):=by
 have hC:=Qm hΓ c hb;refine .run 60 aaX.1 (by simp) ?_;unfold cv
 by_cases h0:(mW c).1=0
 ·rw[if_pos h0];simp;refine .call 60 (by simp) hC ?_;simp[h0]
  have hv:j3 c=true:=by unfold j3;simp[h0]
  obtain⟨hr,hn,_⟩:=Ap hv;obtain⟨ok,_⟩:=Ac hr;have hc:=sq hb hr;have b0:=hc.1;have b1:=hc.2.1;have b2:=hc.2.2.1;have hx:=vl (Γ:=Γ) c.aq c.hI (by omega);have hk:=vl (Γ:=Γ) c.az c.hO (by omega);have hN:=Jn (Γ:=Γ) c hc;have hS:=IT hΓ c hb
  have hj:wO c=aS c:=by simp[wO,hr]
  rw[hj]at hS;have q1:=Rz hc
  have h2:(aE c).Nodup:=by
   have:=Ck ok;simpa[aE,fW]using this
  have h3:=alM (Γ:=Γ) hΩ c hc ok h2 (aS c).length 0 (by omega) (dT c) (ij (aE c).length) (IZ hc ok) (vY _) (P9 hc);refine .dr 60 ?_;simp(disch:=omega);refine .dr 60 ?_;simp(disch:=omega);refine fI.call (by simp) hx ?_;simp(disch:=omega);refine fI.call (by simp) hk ?_;simp(disch:=omega);refine .call 60 (by simp) hN ?_;simp;refine .trees [50] ?_;simp[eI];refine .inLoop ?_;simp;refine .iE 5 (i:=1) rfl ?_;simp;refine .iE 7 (i:=1) rfl ?_;simp;refine .iE 1 (i:=12) rfl ?_;simp;refine .gc 11 [1,4,5] (by simp) (by decide) ?_;simp;refine ak6 c (aE c) h2 (by omega) (.list true 0 []) (.cells [.int .i64 c.aq.length,.list false 1 (List.replicate c.ah.length (.int .i64 0)),.list true 0 [],.list true 0 [],.list true 0 []]) (by simp) (by simp) ?_ (aE c).length 0 (by omega);refine .go 12 ?_;simp
  refine .mN 1 6 1 aw rfl rfl (by omega) ?_;simp;refine .mN 11 2 1 au rfl rfl (by omega) ?_;simp;refine .iE 3 (i:=11) rfl ?_;simp;refine .iE 4 (i:=11) rfl ?_;simp;refine .go 60 ?_;simp;refine .inLoop ?_;simp;refine alG c hc ((aE c).zip (ij (aE c).length)) ?_ c.ah.length 0 (by omega);refine .go 60 ?_;simp;refine .call 60 (by simp) hS ?_;simp;refine .trees [12,102] ?_;simp[eI];refine .iE 6 (i:=1) rfl ?_;simp[eI];refine .iE 2 (i:=11) rfl ?_;simp[eI];refine .inLoop ?_;simp;have hl:=pL 14 ((aE c).zip (ij (aE c).length));refine .drop 14 rfl (by simp) (by simp) (by simp[hl]) ?_;unfold kZ;rw[fM]at h3;generalize k9 c (aS c) (dT c) (ij (aE c).length)=R at h3⊢;simp[dT,BC,D',Sw,hM,hA,cT]at h3⊢;exact h3
 ·rw[if_neg h0];simp;refine .call 60 (by simp) hC ?_;simp[h0];exact .back (by simp[lj,ga])
theorem NY(a b:List Bs){ka kb:Nat}(ha:Kd 1 ka a)(hb:Kd 1 kb b)(hl:a.length+b.length<2^40):aQ ak Γ py [.list false 1 [.list false ka (a.map .str),.list false kb (b.map .str)]] (.own 1 aw ((a++b).map .str)):=by
 by_cases h:a++b=[]
 ·rw[L8]at h;have:=Mf (Γ:=Γ) [(ka,a),(kb,b)] (by simp[h]) (by simp);simpa[h,o5]using this
 ·have h2:0<(a++b).length:=rW.2 h;have:=Mh (Γ:=Γ) [(ka,a),(kb,b)] (by simp[ha,hb]) (by simp) (by simp[cD];omega) (by simpa[cD]using h2);simpa[cD,o5]using this
theorem ajL(l:List Bs):jJ Tryz.prog Γ (fun _=>True) Gk [] AV.str (fun s=>!gC s) l:=by
 refine⟨by simp,fun s hs up h _=>?_⟩;refine .bp 60 aaY.1 ?_;simp;refine .ji 60 (by simp) (Sj s) ?_;simp
theorem Ju(l:List Bs){k:Nat}(hk:Kd 1 k l)(hl:l.length<2^40):aQ ak Γ zo [.list false k (l.map .str)] (.bool (bE (fun s=>!gC s) l)):=by
 refine .run 60 acI.1 (by simp) ?_;simp;refine .aX 60 (y0 (Γ:=Γ) (fl:=false) (ajL l) hk (by omega) (h:=[]) trivial) ?_;simp;exact .back (by simp)
def tn(l:List Bs):Bool:=(jF l).isSome
theorem alc(l:List Bs){k:Nat}(hk:Kd 1 k l)(hl:l.length<2^40):∀n i:Nat,i+n=l.length->∀seen:List Bs,
 aA ak Γ (yoX (.mp 0) (.list false k (l.map .str)) (.int .i64 l.length) (.int .i64 i) [.map (seen.map kP) true]) (.ret (.bool (mT seen (l.drop i)).isSome)):=by
 intro n
 induction n with
 |zero=>
  intro i hi seen
  have q1:¬i<l.length:=by omega
  rw[bx (by omega),mT];refine .go 60 ?_;simp[q1];exact .back (by simp)
 |succ n ih=>
  intro i hi seen
  have q1:i<l.length:=by omega
  have q2:=bG (hk.of q1);have hf:=zr l[i] seen;rw[bJ q1,mT];refine .go 60 ?_
  by_cases hm:l[i]∈seen
  ·simp[hm]at hf;simp[q1,q2,hf,hm,isKey,bM,bV];exact .back (by simp)
  ·have hh:=ih (i+1) (by omega) (seen++[l[i]]);have h2:=Co (v:=.bool true) hm;simp[hm]at hf;simp(disch:=omega) [q1,q2,hf,hm,h2,isKey,bM,bV];refine .aI ?_;simp at hh⊢;exact hh
theorem Qv(l:List Bs){k:Nat}(hk:Kd 1 k l)(hl:l.length<2^40):aQ ak Γ y_ [.list false k (l.map .str)] (.bool (tn l)):=by
 refine .run 60 aa6.1 (by simp) ?_;simp;refine .inLoop ?_;have hh:=alc (Γ:=Γ) l hk hl l.length 0 (by omega) [];simp[tn,jF]at hh⊢;exact hh
def eM(m:Md)(s:Bs):Int:=if iO s (m.aq++m.ah) 0<0 then-1 else iO s (m.aq++m.ah) 0+1
theorem IX(s:Bs):∀(l:List Bs)(i:Nat),iO s l i<(i+l.length:Nat)
 |[],i=>by simp[iO];omega
 |a::l,i=>by
  rw[iO];have:=IX s l (i+1)
  split
  ·simp;omega
  ·simp at this⊢;omega
theorem Ds(s:Bs):∀(l:List Bs)(i:Nat),-1<=iO s l i
 |[],i=>by simp[iO]
 |a::l,i=>by
  rw[iO];have:=Ds s l (i+1)
  split<;>omega
theorem QN(m:Md)(s:Bs)(hI:m.aq.length<2^30)(hL:m.ah.length<2^30):aQ ak Γ B2 [fa m,.str s] (.int .i64 (eM m s)):=by
 have h1:=NY (Γ:=Γ) m.aq m.ah m.hI m.hL (by omega);have h2:=Ql (Γ:=Γ) (m.aq++m.ah) s (k:=1) .self (by simp;omega);have h3:=IX s (m.aq++m.ah) 0;have h4:=Ds s (m.aq++m.ah) 0;simp only[bC]at h3;unfold eM;generalize iO s (m.aq++m.ah) 0=n at*;refine .run 60 aa7.1 (by simp) ?_;simp;refine .call 60 (by simp) h1 ?_;simp;have hv:(m.aq.map AV.str++m.ah.map AV.str).take (m.aq.length+m.ah.length)=m.aq.map AV.str++m.ah.map AV.str:=cj (by simp);refine .call 60 (by simp[hv]) h2 ?_
 by_cases h:n<0
 ·simp[h];exact .back (by simp)
 ·simp(disch:=omega) [h];exact .back (by simp)
def sK(a b:Md):Bool:=fP a.g b.g&&(decide (a.aq=b.aq)&&(decide (a.ah=b.ah)&&decide (a.az=b.az)))
def uY(m:Md):Prop:=m.g.iU/\m.aq.length<2^30/\m.ah.length<2^30/\m.az.length<2^30
theorem ahW(a b:Md)(ha:uY a):aQ ak Γ Gy [fa a,fa b] (.bool (sK a b)):=by
 obtain⟨f,f1,f2,f3⟩:=ha;have h0:=adS (Γ:=Γ) a.g b.g f;have h1:=FG (Γ:=Γ) a.aq b.aq a.hI b.hI (by omega);have h2:=FG (Γ:=Γ) a.ah b.ah a.hL b.hL (by omega);have h3:=FG (Γ:=Γ) a.az b.az a.hO b.hO (by omega);unfold sK;generalize fP a.g b.g=s0 at*;refine .run 60 abD.1 (by simp) ?_;simp;refine .call 60 (by simp) h0 ?_
 cases s0
 ·simp;exact .back (by simp)
 ·simp;refine .call 60 (by simp) h1 ?_
  by_cases c1:a.aq=b.aq
  ·simp[c1];refine .call 60 (by simp) h2 ?_
   by_cases c2:a.ah=b.ah
   ·simp[c2];refine .call 60 (by simp) h3 ?_;simp;exact .back (by simp)
   ·simp[c2];exact .back (by simp)
  ·simp[c1];exact .back (by simp)
def uP(m:Md):List Bs->List Int->Bool
 |s::l,a::r=>(decide (0<=eM m s)&&!decide (a=2*eM m s))||uP m l r
 |_,_=>false
def pX(m:Md):Bool:=!decide ((m.aq.length:Int)=m.g.ins)||(!decide (m.ah.length=m.g.next.length)||!decide (m.az.length=m.g.outs.length))
def JO(m:Md):Bool:=bE (fun s=>!gC s) m.aq||(bE (fun s=>!gC s) m.ah||bE (fun s=>!gC s) m.az)
def kh(m:Md):Int:=if m.g.check≠0 then m.g.check else if pX m=true then 1 else if JO m=true then 4 else if(tn (m.aq++m.ah)||tn m.az)=true then 5 else if uP m m.az m.g.outs=true then 5 else 0
theorem Ni(m:Md)(s:Bs):-1<=eM m s/\eM m s<=m.aq.length+m.ah.length:=by
 have h3:=IX s (m.aq++m.ah) 0;have h4:=Ds s (m.aq++m.ah) 0;simp only[bC]at h3;unfold eM
 split<;>omega
theorem alC(m:Md)(hI:m.aq.length<2^30)(hL:m.ah.length<2^30)(hO:m.az.length=m.g.outs.length)(hl:m.g.outs.length<2^30):∀n i:Nat,i+n=m.az.length->
 aA ak Γ (yik (.ptr 0 0) (.list false m.kO (m.az.map .str)) (.int .i64 m.az.length) (.int .i64 i) [.cells (AV.cells (fa m))]) (.ret (.int .i64 (if uP m (m.az.drop i) (m.g.outs.drop i)=true then 5 else 0))):=by
 intro n
 induction n with
 |zero=>
  intro i hi
  have q1:¬i<m.az.length:=by omega
  rw[bx (by omega),uP]
  ·refine .go 60 ?_;simp[q1];exact .back (by simp)
  ·intro s l a r h;cases h
 |succ n ih=>
  intro i hi
  have q1:i<m.az.length:=by omega
  have q3:i<m.g.outs.length:=by omega
  have q2:=bG (m.hO.of q1);have q4:=bG (m.g.ho.of q3);have hh:=ih (i+1) (by omega);have hP:=QN (Γ:=Γ) m m.az[i] hI hL;obtain⟨h2,hv⟩:=Ni m m.az[i];rw[bJ q1,bJ q3,uP];generalize eM m m.az[i]=p at*;refine .go 60 ?_;simp[q1,q2];refine .call 60 (by simp) hP ?_
  by_cases c1:0<=p
  ·by_cases c2:m.g.outs[i]=2*p
   ·simp(disch:=omega) [c1,c2,q3,q4];refine .aI ?_;simp[c1,c2]at hh⊢;refine .drop 1 rfl (by simp) (by simp) (by simp) ?_;exact hh
   ·simp(disch:=omega) [c1,c2,q3,q4];exact .back (by simp)
  ·simp(disch:=omega) [c1];refine .aI ?_;simp[c1]at hh⊢;refine .drop 1 rfl (by simp) (by simp) (by simp) ?_;exact hh
theorem ahN(m:Md)(hb:uY m):aQ ak Γ BZ [fa m] (.int .i64 (kh m)):=by
 obtain⟨f,f1,f2,f3⟩:=hb;obtain⟨g1,g2,g3,g4⟩:=f;have h0:=vE (Γ:=Γ) m.g ⟨g1,g2,g3,g4⟩;have o1:=Ju (Γ:=Γ) m.aq m.hI (by omega);have o2:=Ju (Γ:=Γ) m.ah m.hL (by omega);have o3:=Ju (Γ:=Γ) m.az m.hO (by omega);have cc:=NY (Γ:=Γ) m.aq m.ah m.hI m.hL (by omega);have t1:=Qv (Γ:=Γ) (m.aq++m.ah) (k:=1) .self (by simp;omega);have t2:=Qv (Γ:=Γ) m.az m.hO (by omega);unfold kh;refine .run 60 aaZ.1 (by simp) ?_;simp;refine .call 60 (by simp) h0 ?_
 by_cases c0:m.g.check=0
 ·by_cases l1:(m.aq.length:Int)=m.g.ins
  ·by_cases l2:m.ah.length=m.g.next.length
   ·by_cases l3:m.az.length=m.g.outs.length
    ·have hf:=alC (Γ:=Γ) m f1 f2 l3 (by omega) m.az.length 0 (by omega)
     have h2:pX m=false:=by simp[pX,l1,l2,l3]
     simp[c0,l1,l2,l3,h2];refine .call 60 (by simp) o1 ?_;unfold JO
     cases bE (fun s=>!gC s) m.aq
     ·simp;refine .call 60 (by simp) o2 ?_
      cases bE (fun s=>!gC s) m.ah
      ·simp;refine .call 60 (by simp) o3 ?_
       cases bE (fun s=>!gC s) m.az
       ·simp;refine .call 60 (by simp) cc ?_;have hv:(m.aq.map AV.str++m.ah.map AV.str).take (m.aq.length+m.ah.length)=m.aq.map AV.str++m.ah.map AV.str:=cj (by simp);simp;refine .call 60 (by simp[hv]) t1 ?_
        cases tn (m.aq++m.ah)
        ·simp;refine .call 60 (by simp) t2 ?_
         cases tn m.az
         ·simp;refine .inLoop ?_;simp at hf⊢;refine .drop 1 rfl (by simp) (by simp) (by simp) ?_;exact hf
         ·simp;exact .back (by simp)
        ·simp;exact .back (by simp)
       ·simp;exact .back (by simp)
      ·simp;exact .back (by simp)
     ·simp;exact .back (by simp)
    ·have h2:pX m=true:=by simp[pX,l3]
     simp[c0,l1,l2,l3,h2];exact .back (by simp)
   ·have h2:pX m=true:=by simp[pX,l2]
    simp[c0,l1,l2,h2];exact .back (by simp)
  ·have h2:pX m=true:=by simp[pX,l1]
   simp[c0,l1,h2];exact .back (by simp)
 ·simp[c0];exact .back (by simp)
theorem aiP{n:Nat}(h:¬n<10):Lib.decDigits n=Lib.decDigits (n/10)++[UInt8.ofNat (48+n%10)]:=by rw[Lib.decDigits,dif_neg h]
theorem Hp{n:Nat}(h:n<10):Lib.decDigits n=[UInt8.ofNat (48+n)]:=by rw[Lib.decDigits,dif_pos h]
def sX(m:Nat):UInt8:=UInt8.ofNat (48+m)
theorem qN{n:Nat}(h:¬n<10):Lib.decDigits n=Lib.decDigits (n/10)++[sX (n%10)]:=aiP h
theorem mJ{n:Nat}(h:n<10):Lib.decDigits n=[sX n]:=Hp h
theorem ajF:∀(m a b:Nat),a<=m->Lib.decDigits a=Lib.decDigits b->a=b:=by
 have hd:∀x y:Nat,x<10->y<10->sX x=sX y->x=y:=by
  intro x y hx hy h
  have:∀x y:Fin 10,sX x.val=sX y.val->x.val=y.val:=by decide+kernel
  exact this ⟨x,hx⟩ ⟨y,hy⟩ h
 intro m
 induction m with
 |zero=>
  intro a b ha h
  obtain rfl:a=0:=by omega
  by_cases hb:b<10
  ·rw[mJ (by omega),mJ hb]at h;exact hd _ _ (by omega) hb (by simpa using h)
  ·rw[mJ (by omega),qN hb]at h;have:=congrArg List.length h
   have h2:1<=(Lib.decDigits (b/10)).length:=by
    by_cases h3:b/10<10
    ·rw[mJ h3];simp
    ·rw[qN h3];simp
   simp only[bC,bL,c_]at this;omega
 |succ m ih=>
  have hv:∀n,1<=(Lib.decDigits n).length:=by
   intro n
   by_cases h3:n<10
   ·rw[mJ h3];simp
   ·rw[qN h3];simp
  intro a b ha h
  by_cases h1:a<10
  ·by_cases hb:b<10
   ·rw[mJ h1,mJ hb]at h;exact hd _ _ h1 hb (by simpa using h)
   ·rw[mJ h1,qN hb]at h;have:=congrArg List.length h;have:=hv (b/10)
    simp only[bC,bL,c_]at*;omega
  ·by_cases hb:b<10
   ·rw[mJ hb,qN h1]at h;have:=congrArg List.length h;have:=hv (a/10)
    simp only[bC,bL,c_]at*;omega
   ·rw[qN h1,qN hb]at h;have h2:=List.append_inj' h rfl;have h3:=ih (a/10) (b/10) (by omega) h2.1;have h4:=hd _ _ (by omega) (by omega) (List.cons.inj h2.2).1;omega
theorem Hv{α:Type}[DecidableEq α]:∀(l m:List α),l.Nodup->(∀x∈l,x∈m)->l.length<=m.length
 |[],m,_,_=>xu _
 |x::l,m,hn,hs=>by
  have hx:=hs x (pv ..);rw[l0]at hn;have:=Hv l (m.erase x) hn.2 (fun y hy=>(List.mem_erase_of_ne (by rintro rfl;exact hn.1 hy)).2 (hs y (dH _ hy)));rw[Ya hx]at this;have hp:=Ft hx
  rw[bL];omega
def pe(used:List (List UInt8))(stem:List UInt8):Nat->Nat->List UInt8
 |0,k=>stem++Lib.decDigits k
 |n+1,k=>if used.contains (stem++Lib.decDigits k)=true then pe used stem n (k+1)else stem++Lib.decDigits k
def gk(used:List (List UInt8))(stem:List UInt8):List UInt8:=pe used stem used.length 1
theorem Q7{used:List (List UInt8)}{stem:List UInt8}:∀(n k:Nat),pe used stem n k∈used->∀j,k<=j->j<=k+n->stem++Lib.decDigits j∈used
 |0,k,h,j,h1,h2=>by obtain rfl:j=k:=by omega
                    exact h
 |n+1,k,h,j,h1,h2=>by
  rw[pe]at h
  split at h
  ·rename_i hc
   by_cases hj:j=k
   ·subst hj;simpa using hc
   ·exact Q7 n (k+1) h j (by omega) (by omega)
  ·rename_i hc;exact absurd (by simpa using h) hc
theorem Po(used:List (List UInt8))(stem:List UInt8):gk used stem∉used:=by
 intro h;have h1:=Q7 used.length 1 h
 have h2:=Hv ((List.range (used.length+1)).map fun j=>stem++Lib.decDigits (j+1)) used (by
  rw[FC,List.pairwise_map];refine List.Pairwise.imp ?_ (FC.1 LZ);intro a b hv he
  exact hv (by have:=ajF _ (a+1) (b+1) (aT _) (List.append_cancel_left he);omega)) (by
  intro x hx;obtain⟨j,hj,rfl⟩:=cd.1 hx;have:=dS.1 hj
  exact h1 (j+1) (by omega) (by omega))
 simp only[fy,qw]at h2;omega
theorem Pz{used:List (List UInt8)}{stem:List UInt8}:∀(n k:Nat),∃j,k<=j/\j<=k+n/\pe used stem n k=stem++Lib.decDigits j
 |0,k=>⟨k,by omega,by omega,rfl⟩
 |n+1,k=>by
  rw[pe]
  split
  ·obtain⟨j,h1,h2,h3⟩:=Pz (used:=used) (stem:=stem) n (k+1);exact⟨j,by omega,by omega,h3⟩
  ·exact⟨k,by omega,by omega,rfl⟩
theorem Pn:∀(m n:Nat),n<10^(m+1)->(Lib.decDigits n).length<=m+1
 |0,n,h=>by rw[mJ (by simpa using h)];simp
 |m+1,n,h=>by
  by_cases h3:n<10
  ·rw[mJ h3];simp
  ·rw[qN h3]
   have:n/10<10^(m+1):=by
    rw[Nat.pow_succ]at h;omega
   have:=Pn m (n/10) this
   simp;omega
theorem Qo{n:Nat}(h:n<10^7):(Lib.decDigits n).length<=7:=Pn 6 n h
def uC(s:Bs)(op:Int):Gt:=⟨s,op,[],[],false,0,0,.nil,.nil⟩
def fj(s:Bs)(op:Int)(l:List Bs):Gt:=⟨s,op,l,[],false,1,0,.self,.nil⟩
def dE(m:List (Nat×Bs))(a:Nat):Bs:=match getM a m with
 |some s=>s
 |none=>[]
inductive By where
 |one (b:Bool)
 |sE (a:Nat)
 |both (p q:Nat)
def By.gate(m:List (Nat×Bs))(s:Bs):By->Gt
 |.one b=>uC s (if b then 1 else 0)
 |.sE a=>fj s 3 [dE m (a^^^1)]
 |.both p q=>fj s 4 [dE m p,dE m q]
def fZ(a:Nat):By:=if a<2 then .one (decide (a=1))else .sE a
structure Ra where
 af:List Gt
 used:List Bs
 bq:List (Nat×Bs)
abbrev fU:Bs:=[110]
def Ra.make(x:Ra)(a:Nat)(b:By):Ra:=⟨x.af++[b.gate x.bq (gk x.used fU)],x.used++[gk x.used fU],x.bq++[(a,gk x.used fU)]⟩
def Ra.dy(x:Ra)(a:Nat):Ra:=match getM a x.bq with
 |some _=>x
 |none=>x.make a (fZ a)
def n6(first:Nat):List (Int×Int)->Nat->Ra->Ra
 |[],_,x=>x
 |p::ps,i,x=>n6 first ps (i+1) (((x.dy p.1.toNat).dy p.2.toNat).make (2*(first+i)) (.both p.1.toNat p.2.toNat))
def jg:List Bs->List Int->List Int->Ra->Ra×List Lt
 |s::l,a::n,v::i,x=>((jg l n i (x.dy a.toNat)).1,⟨s,dE (x.dy a.toNat).bq a.toNat,v⟩::(jg l n i (x.dy a.toNat)).2)
 |_,_,_,x=>(x,[])
def nk(m:List (Nat×Bs))(s:Bs)(a:Nat):Gt:=if 2<=a/\a%2=0 then fj s 2 [dE m a]else(fZ a).gate m s
def lJ(d:Md)(m:List (Nat×Bs)):List Bs->List Int->List Gt
 |s::l,a::r=>if eM d s<0 then nk m s a.toNat::lJ d m l r else lJ d m l r
 |_,_=>[]
def jh:Nat->List Bs->List (Nat×Bs)
 |_,[]=>[]
 |k,s::l=>(2*(k+1),s)::jh (k+1) l
def kC(m:Md):Ra:=⟨[],m.aq++m.ah++m.az,jh 0 (m.aq++m.ah)⟩
def bI(m:Md):Md:={m with g:=m.g.normal}
def rj(m:Md):Md×Int:=if kh m=0 then(bI m,0)else(lj,kh m)
def pg:Ct:=⟨[],[],[],[],0,0,0,0,.nil,.nil,.nil,.nil⟩
def ta(n:Md):Ra:=n6 n.g.first n.g.ands 0 (kC n)
def eg(n:Md):Ra×List Lt:=jg n.ah n.g.next n.g.init (ta n)
def aP(n:Md):Ct:=⟨n.aq,n.az,(eg n).2,(eg n).1.af++lJ n (eg n).1.bq n.az n.g.outs,1,1,3,5,.self,.self,.self,.self⟩
def fA(m:Md):Ct×Int:=if kh m=0 then(if(eJ (aP (bI m))).1=0 then(aP (bI m),0)else(pg,8))else(pg,kh m)
open Go.AM Go.Proofs Go.RowKit Go.Sort
def pa(Γ:Nat->Option AV):Prop:=Γ JW=some (.agg (Lib.pow10Tab.map fun z=>.int .u64 z))
theorem adl(w:World)(k:Nat)(os:Array Obj):Below w.heap.size w (grow (w.drewN k) os):=by
 refine⟨rfl,rfl,rfl,by simp[grow,World.drewN],fun b hb=>?_⟩
 show(w.heap++os)[b]? =w.heap[b]?
 rw[Array.getElem?_append_left hb]
theorem akF{w:World}{t q}(h:w.heap[JW]? =some (.cells (Lib.pow10Tab.map fun z=>Value.int .u64 z).toArray t q)):Lib.TabIs Tryz.prog w "internal/strconv.uint64pow10" .u64 Lib.pow10Tab:=by
 unfold Lib.TabIs World.var?;rw[IQ];simp[h]
theorem Se(hΓ:pa Γ)(k:Nat)(hk:k<2^21):aQ ak Γ Ge [.int .i64 k] (.str (Lib.decDigits k)):=by
 refine aQ.JP (by simp) (fun _=>rfl) rfl fun N g h w us H hV=>?_
 obtain⟨us,rfl,h2⟩:=ajO hV;obtain rfl:=I9 h2;obtain⟨t,q,hp⟩:=H.mz _ _ (by decide) hΓ;refine(Tryz.strconv_Itoa k (by omega) (by omega) w (akF (H.gp _ _ hp))).mono ?_
 rintro e w' ⟨rfl,n,os,rfl⟩
 have e:Lib.itoa (k:Int)=Lib.decDigits k:=by unfold Lib.itoa;rw[if_neg (by omega)];simp
 refine⟨⟨_,rfl,fun _ _=>?_⟩,adl w n os⟩;rw[e];simp[V]
theorem Qz{n:Nat}(h:n<2^21):(Lib.decDigits n).length<=7:=Qo (by omega)
abbrev TL(used:List (List UInt8))(kd:Nat)(stem:List UInt8):List Fr:=[⟨.run,zd,[It.j8 4,It.inBlock 0 [],It.code ((aj.av WR).seq aj.ret)],
 [.list false kd (used.map .str),.str stem,.ptr 0 0,U,.str [],.ptr 1 0,U,.str stem,.str stem,.fn (.func BU) [] [.ptr 2 0],U,U,U,U,U,U,U],[.mark 3],.norm,0⟩]
abbrev xk(used:List (List UInt8))(kd:Nat)(fresh stem:List UInt8)(st:LoopState)(j:Jump):List Ob:=[.cells [.list false kd (used.map .str)],.cells [.str fresh],.cells [.str stem],.bK true,
 .loop st j zd [U,U,.ptr 0 0,U,.str [],.ptr 1 0,U,U,U,U,U,U,U,U,U,U,U] [10] (.av Wr) Wq]
theorem aiO(used:List (List UInt8)){kd:Nat}(hk:Kd 1 kd used)(hl:used.length<2^20)(stem s:List UInt8)(h:s∈used):∀up,AM.Reach ak Γ ((jM.yl 4).cfg [.str s] up (xk used kd stem stem .ready .none)) (.back up (.bool true) (xk used kd stem stem .ready .none)):=by
 intro up;have hc:=GY (Γ:=Γ) used s hk (by omega);simp[kf];refine .aY 60 ?_;simp;refine .ji 60 (by simp) hc ?_;simp[h]
theorem akI(used:List (List UInt8)){kd:Nat}(hk:Kd 1 kd used)(hl:used.length<2^20)(stem s:List UInt8)(h:¬s∈used):∀up,AM.Reach ak Γ ((jM.yl 4).cfg [.str s] up (xk used kd stem stem .ready .none)) (.back up (.bool false) (xk used kd s stem .done (.exit 0))):=by
 intro up;have hc:=GY (Γ:=Γ) used s hk (by omega);simp[kf];refine .aY 60 ?_;simp;refine .ji 60 (by simp) hc ?_;simp[h];exact .refl _
theorem ajp(hΓ:pa Γ)(used:List (List UInt8))(stem:List UInt8){kd:Nat}(hk:Kd 1 kd used)(hl:used.length<2^20)(hs:stem.length<2^40):aQ ak Γ zd [.list false kd (used.map .str),.str stem] (.str (gk used stem)):=by
 have stop:∀k:Nat,k<2^21->¬(stem++Lib.decDigits k∈used)->aA ak Γ (Un (.de 4) (.ptr 2 0) (.int .i64 k) (xk used kd stem stem .ready .none) ⟨[],.norm,5,TL used kd stem⟩) (.ret (.str (stem++Lib.decDigits k))):=by
  intro k hv h;have hp:=Se hΓ k hv;have hd:=Qz hv;refine .go 60 ?_;simp;refine .dr 60 ?_;simp;refine .call (by simp) hp ?_;simp(disch:=omega);refine .go (.bool false) _ (akI used hk hl stem _ h) ?_;simp;exact .back (by simp)
 have key:∀n k:Nat,k+n<2^21->¬(pe used stem n k∈used)->aA ak Γ (Un (.de 4) (.ptr 2 0) (.int .i64 k) (xk used kd stem stem .ready .none) ⟨[],.norm,5,TL used kd stem⟩) (.ret (.str (pe used stem n k))):=by
  intro n
  induction n with
  |zero=>
   intro k hn h;exact stop k (by omega) h
  |succ n ih=>
   intro k hn h;rw[pe]at h⊢
   by_cases h1:stem++Lib.decDigits k∈used
   ·have h2:used.contains (stem++Lib.decDigits k)=true:=by simpa using h1
    rw[if_pos h2]at h⊢;have hh:=ih (k+1) (by omega) h;have hp:=Se hΓ k (by omega);have hd:=Qz (n:=k) (by omega);refine .go 60 ?_;simp;refine .dr 60 ?_;simp;refine .call (by simp) hp ?_;simp(disch:=omega);refine .go (.bool true) _ (aiO used hk hl stem _ h1) ?_;simp(disch:=omega);refine .aI ?_;simp at hh⊢;exact hh
   ·have h2:¬used.contains (stem++Lib.decDigits k)=true:=by simpa using h1
    rw[if_neg h2];exact stop k (by omega) h1
 refine .run 60 abk.1 (by simp) ?_;simp;refine .enter 60 aa8.1 ?_;simp;refine .enter 60 aar.1 ?_;simp;refine .inLoop ?_;have hh:=key used.length 1 (by omega) (Po used stem);unfold gk;simp at hh⊢;exact hh
theorem _root_.Go.AM.Reach.IJ{P:Program}{f:FuncId}{args:List AV}{up:List Fr}{h h':List Ob}{v:AV}(J:List Ob)(hl:h'.length=h.length)(hw:bN h')(hv:aK h.length v=true)(h1:AM.Reach P Γ (.cl f args up h) (.back up v (h'++J))):AM.Reach P Γ (.cl f args up h) (.back up v h'):=by
 have e:(h'++J).take h.length=h':=by rw[<-hl,tF rfl]
 have:=AM.Reach.leave h1 hv (by rw[e];exact hw _ (by omega));rwa[e]at this
abbrev lV(x:Nat×Bs):AV×AV:=(iN x.1,.str x.2)
theorem wq(a:Nat)(m:List (Nat×Bs)):fg (.sc .int) (.int .i64 (a:Int)) (m.map lV)=some ((getM a m).map .str):=vI uw .str a m
theorem Sr{a:Nat}{m:List (Nat×Bs)}(s:Bs)(h:getM a m=none):gG (.sc .int) (.int .i64 (a:Int)) (.str s) (m.map lV)=some ((m++[(a,s)]).map lV):=vO uw .str s h
abbrev oc(s:Bs)(op:Int)(l:AV):AV:=.agg [.str s,.int .i64 op,l,.list true 0 [],.bool false]
def By.raw(m:List (Nat×Bs))(s:Bs):By->AV
 |.one b=>oc s (if b then 1 else 0) (.list true 0 [])
 |.sE a=>oc s 3 (.list true 1 [.str (dE m (a^^^1))])
 |.both p q=>oc s 4 (.list true 1 [.str (dE m p),.str (dE m q)])
abbrev Ez:By->AV
 |.one b=>.bW F6 (.agg [.bool b])
 |.sE a=>.bW Gd (.agg [iN a])
 |.both p q=>.bW Gx (.agg [iN p,iN q])
theorem Ss(b:Bool)(v:AV){h:List Ob}(hw:bN h):∀up,AM.Reach ak Γ (.cl FL [.agg [.bool b],v] up h) (.back up (oc [] (if b then 1 else 0) (.list true 0 [])) h):=by
 intro up;refine .Ah [.cells [.bool b],.cells [.str [],.int .i64 (if b then 1 else 0),.list true 0 [],.list true 0 [],.bool false],.row 1 aw [] none true false,.row 1 aw [] none true false] hw (by simp) ?_;refine .bp 60 Y7.1 ?_
 cases b
 ·simp
 ·simp
theorem O2(a:Nat)(ha:(a:Int)<2^60)(m:List (Nat×Bs)){q:Nat}{h:List Ob}(hq:h[q]? =some (.map (m.map lV) true))(hw:bN h):∀up,AM.Reach ak Γ (.cl FU [.agg [iN a],.mp q] up h) (.back up (oc [] 3 (.list true 1 [.str (dE m (a^^^1))])) h):=by
 intro up
 have h2:=fun os=>ez hq os
 have hf:=wq (a^^^1) m;refine .Ah [.cells [iN a],.cells [.str [],.int .i64 3,.list true 1 [.str (dE m (a^^^1))],.list true 0 [],.bool false],.row 1 aw [] none true false,.row 1 aw [] none true false] hw (by simp) ?_;refine .bp 60 Zk.1 ?_;unfold dE
 cases hg:getM (a^^^1) m with
 |none=>
  rw[hg]at hf;simp at hf;simp(disch:=omega) [h2,hf,isKey,bM,bV]
 |some s=>
  rw[hg]at hf;simp at hf;simp(disch:=omega) [h2,hf,isKey,bM,bV]
theorem ajH(p p2:Nat)(m:List (Nat×Bs)){q:Nat}{h:List Ob}(hq:h[q]? =some (.map (m.map lV) true))(hw:bN h):∀up,AM.Reach ak Γ (.cl F5 [.agg [iN p,iN p2],.mp q] up h) (.back up (oc [] 4 (.list true 1 [.str (dE m p),.str (dE m p2)])) h):=by
 intro up
 have h2:=fun os=>ez hq os
 have hf:=wq p m;have hv:=wq p2 m;refine .Ah [.cells [iN p,iN p2],.cells [.str [],.int .i64 4,.list true 1 [.str (dE m p),.str (dE m p2)],.list true 0 [],.bool false],.row 1 aw [] none true false,.row 1 aw [] none true false] hw (by simp) ?_;refine .bp 60 ZV.1 ?_;unfold dE
 cases hg:getM p m<;>cases hb:getM p2 m<;>rw[hg]at hf<;>rw[hb]at hv<;>simp at hf hv<;>simp[h2,hf,hv,isKey,bM,bV]<;>exact .refl _
theorem TI(a:Nat):aQ ak Γ BV [iN a] (Ez (fZ a)):=by
 refine .run 60 aam.1 (by simp) ?_;unfold fZ
 by_cases h:a<2
 ·have h2:((a:Int)<2)=True:=bG (by omega)
  by_cases h1:a=1
  ·subst h1;simp;exact .back (by simp)
  ·obtain rfl:a=0:=by omega
   simp;exact .back (by simp)
 ·have h2:((a:Int)<2)=False:=jC (by omega);simp[h,h2];exact .back (by simp)
abbrev D5(I O:AV)(nl ng nu:Nat):Ob:=.cells [I,O,.sl 11 0 nl,.sl 10 0 ng,.sl 9 0 nu,.mp 8,.fn (.func vt) [] [.ptr 7 0],.fn (.func BV) [] []]
abbrev ek(a0 a1 a2 a3 a4 a5:Ob)(I O:AV)(nl:Nat)(x:Ra)(gu gg:Option Nat)(rL:Ob)(tl:List Ob):List Ob:=
 a0::a1::a2::a3::a4::a5::D5 I O nl x.af.length x.used.length::.cells [.ptr 6 0]::.map (x.bq.map lV) true::.row 1 aw (x.used.map .str) gu true true::.row 5 sg (x.af.map df) gg true false::rL::tl
structure jo(a0 a1 a2 a3 a4 a5:Ob)(I O:AV)(rL:Ob)(tl:List Ob):Prop where
 a:∀n,12<=n->cz n [a0,a1,a2,a3,a4,a5,rL]=true
 i:∀n,12<=n->aK n I=true/\aK n O=true
 t:∀n,12<=n->cz n tl=true
theorem Sd(n:Nat)(m:List (Nat×Bs)):fC n (m.map lV)=true:=by
 induction m with
 |nil=>rfl
 |cons x m ih=>simpa[fC]using ih
theorem OP(n:Nat)(l:List Bs):aN n (l.map AV.str)=true:=by
 induction l with
 |nil=>rfl
 |cons x m _=>simp[aN]
theorem agr(n:Nat)(l:List Gt):aN n (l.map df)=true:=by
 induction l with
 |nil=>rfl
 |cons x m ih=>simp[ih,OP]
section
variable{a0 a1 a2 a3 a4 a5 rL:Ob}{I O:AV}{tl:List Ob}
theorem jo.wf(H:jo a0 a1 a2 a3 a4 a5 I O rL tl)(nl:Nat)(x:Ra)(gu gg:Option Nat):bN (ek a0 a1 a2 a3 a4 a5 I O nl x gu gg rL tl):=by
 intro n hn;simp only[bL]at hn;have h1:=H.a n (by omega);have h2:=H.i n (by omega);have h3:=H.t n (by omega)
 have q:∀k,k<12->k<n:=fun k hk=>by omega
 have b1:=Sd n x.bq;have b2:=OP n x.used;have b3:=agr n x.af;simp at h1;simp[h1,h2,h3,q,b1,b2,b3]
theorem SS(H:jo a0 a1 a2 a3 a4 a5 I O rL tl)(nl:Nat)(x:Ra)(gu gg:Option Nat)(hg:gg=none\/gg=some 0)(hl:x.af.length<2^30)(M:List (Nat×Bs))(b:By)(s:Bs):∀up,AM.Reach ak Γ (.cl vt [b.raw M s,.ptr 7 0] up (ek a0 a1 a2 a3 a4 a5 I O nl x gu gg rL tl))
 (.back up (.aH []) (ek a0 a1 a2 a3 a4 a5 I O nl ⟨x.af++[b.gate M s],x.used,x.bq⟩ gu (some 0) rL tl)):=by
 intro up;have hw:=H.wf nl ⟨x.af++[b.gate M s],x.used,x.bq⟩ gu (some 0)
 have hle:((x.af.length:Int)+1)<=2^40:=by omega
 refine .IJ [.cells (AV.cells (b.raw M s))] (by simp) hw rfl ?_
 rcases hg with rfl|rfl<;>cases b<;>(
  refine .bp 60 MF.1 ?_;simp[By.raw];refine .ei 60 ?_;simp(disch:=omega) [By.gate,uC,fj,hle]
  exact .refl _)
end
theorem af1{a:Nat}{m:List (Nat×Bs)}{s:Bs}(h:getM a m=none):getM a (m++[(a,s)])=some s:=by
 induction m with
 |nil=>simp[getM]
 |cons x m ih=>
  rw[eH];rw[getM]at h⊢
  split at h
  ·cases h
  ·rename_i hx;rw[if_neg hx];exact ih h
theorem _root_.Go.AM.fI.ur{P:Program}{K:np}{l:List Bool}{w:Nat}{ws:List Nat}{i:Nat}{d:Option Nat}{a:AO}{os:List AG}{t:List AV}{h:List Ob}{hs:List (List Ob)}{Cs:List (Nat×(List Ob->Prop))}{f:FuncId}{args:List AV}{v:AV}(Q:List Ob->Prop)(hb:dv P f=true)
 (hq:∀g,Q g->∀up,AM.Reach P Γ (.cl f args up g) (.back up v g))(h1:∀g∈hs,aD P Γ t g a=.call f args/\Q g)
 (h3:cI P Γ K l ws (i+1) os (bl t d v) h hs ((w,fun g=>aD P Γ t g a=.call f args/\Q g)::Cs)):fI P Γ K true l w ws i d a os t h hs Cs f args:=
 ⟨hb,by
  rw[if_pos rfl]
  exact⟨v,_,fun g hg=>⟨hg.1,hq g hg.2⟩,h1,h3⟩⟩
def By.iU:By->Prop
 |.one _=>True
 |.sE a=>(a:Int)<2^60
 |.both _ _=>True
section
variable{a0 a1 a2 a3 a4 a5 rL:Ob}{I O:AV}{tl:List Ob}
theorem jo.more(H:jo a0 a1 a2 a3 a4 a5 I O rL tl){J:List Ob}(hJ:∀n,12<=n->cz n J=true):jo a0 a1 a2 a3 a4 a5 I O rL (tl++J):=
 ⟨H.a,H.i,fun n hn=>by simp[H.t n hn,hJ n hn]⟩
theorem bN.app{h J:List Ob}(hw:bN h)(hJ:∀n,h.length+J.length<=n->cz n J=true):bN (h++J):=fun n hn=>by
 rw[bC]at hn;simp[hw n (by omega),hJ n hn]
theorem jo.pd(H:jo a0 a1 a2 a3 a4 a5 I O rL tl)(nl:Nat)(x:Ra)(gu gg:Option Nat)(J:List Ob)(hJ:∀n,tl.length+12+J.length<=n->cz n J=true):bN (ek a0 a1 a2 a3 a4 a5 I O nl x gu gg rL (tl++J)):=
 (H.wf nl x gu gg).app (J:=J) fun n hn=>hJ n (by simp only[bL]at hn;omega)
theorem R9(hΓ:pa Γ)(H:jo a0 a1 a2 a3 a4 a5 I O rL tl)(nl:Nat)(x:Ra)(gu gg:Option Nat)(hu:gu=none\/gu=some 0)(hg:gg=none\/gg=some 0)(hl:x.af.length<2^30)(hx:x.used.length<2^20)(a:Nat)(hn:getM a x.bq=none)(b:By)(hb:b.iU):
 ∀up,AM.Reach ak Γ (.cl BP [.ptr 6 0,iN a,Ez b] up (ek a0 a1 a2 a3 a4 a5 I O nl x gu gg rL tl)) (.back up (.aH []) (ek a0 a1 a2 a3 a4 a5 I O nl (x.make a b) (some 0) (some 0) rL tl)):=by
 intro up;have hw:=H.wf nl x gu gg;have hk:=H.wf nl (x.make a b) (some 0) (some 0);have hF:=ajp hΓ x.used fU (kd:=1) .self hx (by simp);have hv:=Sr (gk x.used fU) hn;refine .IJ [.cells (AV.cells (By.raw x.bq (gk x.used fU) b)),.row 1 aw [] none true false,.row 1 aw [] none true false] (by simp) hk rfl ?_
 have hA:=fun(J:List Ob) hJ up=>SS (Γ:=Γ) (H.more (J:=J) hJ) nl ⟨x.af,x.used++[gk x.used fU],x.bq++[(a,gk x.used fU)]⟩ (some 0) gg hg hl x.bq b (gk x.used fU) up
 generalize hs:gk x.used fU=s at*
 have hc:(x.used.length+1)*16<=140737488355328:=by omega
 rcases hu with rfl|rfl
 all_goals
  cases b with
  |one b=>
  have hG:=fun g hg=>Ss (Γ:=Γ) b (.mp 8) (h:=g) hg
  refine .bp 60 FQ.1 ?_;simp;refine .ei 60 ?_;simp;refine .ur bN (by simp) hG (by simp[hw]) ?_;simp;refine⟨H.pd nl x _ gg _ (by intro n hn;simp at hn;simp;omega),?_⟩;refine .ji 60 (by simp) hF ?_;simp;refine .ei 60 ?_;simp[hc,hv,isKey,bM,bV];refine .ei 60 ?_;simp;have h2:=hA [.cells (AV.cells (By.raw x.bq s (.one b))),.row 1 aw [] none true false,.row 1 aw [] none true false] (by intro n hn;simp[By.raw]);simp[By.raw,ek,D5]at h2;refine .reach (by simp) h2 ?_;simp[Ra.make,hs,By.raw]
  |sE c=>
  have hG:=fun g (hg:bN g/\g[8]? =some (.map (x.bq.map lV) true))=>O2 (Γ:=Γ) c hb x.bq (q:=8) (h:=g) hg.2 hg.1
  refine .bp 60 FQ.1 ?_;simp;refine .ei 60 ?_;simp;refine .ur (fun g=>bN g/\g[8]? =some (.map (x.bq.map lV) true)) (by simp) hG (by simp[hw]) ?_;simp;refine⟨H.pd nl x _ gg _ (by intro n hn;simp at hn;simp;omega),?_⟩;refine .ji 60 (by simp) hF ?_;simp;refine .ei 60 ?_;simp[hc,hv,isKey,bM,bV];refine .ei 60 ?_;simp;have h2:=hA [.cells (AV.cells (By.raw x.bq s (.sE c))),.row 1 aw [] none true false,.row 1 aw [] none true false] (by intro n hn;simp[By.raw]);simp[By.raw,ek,D5]at h2;refine .reach (by simp) h2 ?_;simp[Ra.make,hs,By.raw]
  |both p q=>
  have hG:=fun g (hg:bN g/\g[8]? =some (.map (x.bq.map lV) true))=>ajH (Γ:=Γ) p q x.bq (q:=8) (h:=g) hg.2 hg.1
  refine .bp 60 FQ.1 ?_;simp;refine .ei 60 ?_;simp;refine .ur (fun g=>bN g/\g[8]? =some (.map (x.bq.map lV) true)) (by simp) hG (by simp[hw]) ?_;simp;refine⟨H.pd nl x _ gg _ (by intro n hn;simp at hn;simp;omega),?_⟩;refine .ji 60 (by simp) hF ?_;simp;refine .ei 60 ?_;simp[hc,hv,isKey,bM,bV];refine .ei 60 ?_;simp;have h2:=hA [.cells (AV.cells (By.raw x.bq s (.both p q))),.row 1 aw [] none true false,.row 1 aw [] none true false] (by intro n hn;simp[By.raw]);simp[By.raw,ek,D5]at h2;refine .reach (by simp) h2 ?_;simp[Ra.make,hs,By.raw]
def w_(x:Ra)(a:Nat)(g:Option Nat):Option Nat:=match getM a x.bq with
 |some _=>g
 |none=>some 0
theorem agn{a:Nat}(ha:(a:Int)<2^60):(fZ a).iU:=by
 unfold fZ
 split
 ·trivial
 ·exact ha
theorem wN(b:By)(n:Nat):er n (Ez b)=(Ez b,[]):=by cases b<;>rfl
theorem JJ(hΓ:pa Γ)(H:jo a0 a1 a2 a3 a4 a5 I O rL tl)(nl:Nat)(x:Ra)(gu gg:Option Nat)(hu:gu=none\/gu=some 0)(hg:gg=none\/gg=some 0)(hl:x.af.length<2^30)(hc:x.used.length<2^20)(a:Nat)(ha:(a:Int)<2^60):
 ∀up,AM.Reach ak Γ (.cl y3 [.ptr 6 0,iN a] up (ek a0 a1 a2 a3 a4 a5 I O nl x gu gg rL tl)) (.back up (.str (dE (x.dy a).bq a)) (ek a0 a1 a2 a3 a4 a5 I O nl (x.dy a) (w_ x a gu) (w_ x a gg) rL tl)):=by
 intro up;have hf:=wq a x.bq;refine .bp 60 ZB.1 ?_;unfold Ra.dy w_ dE
 cases h2:getM a x.bq with
 |some s=>
  rw[h2]at hf;simp at hf;simp[hf,h2,isKey,bM,bV]
 |none=>
  rw[h2]at hf;simp at hf;have hM:=R9 hΓ H nl x gu gg hu hg hl hc a h2 (fZ a) (agn ha);have hv:=wq a (x.make a (fZ a)).bq;have hb:getM a (x.make a (fZ a)).bq=some (gk x.used fU):=af1 h2;rw[hb]at hv;simp at hv;simp[hf,isKey,bM,bV];refine .aX 60 (AM.Reach.TA (by simp) (TI a) (wN _) (by simp[eV,wN,-er])) ?_;simp;refine .aX 60 hM ?_;simp[hv,hb,isKey,bM,bV]
end
def dR(used:List Bs):Nat->List Bs
 |0=>[]
 |n+1=>dR used n++[gk (used++dR used n) fU]
@[simp] theorem RB(used:List Bs):∀n,(dR used n).length=n
 |0=>rfl
 |n+1=>by simp[dR,RB used n]
theorem R3(used:List Bs):∀n,(dR used n).Nodup/\∀s∈dR used n,s∉used
 |0=>⟨by simp[dR],fun s h=>by simp[dR]at h⟩
 |n+1=>by
  obtain⟨h1,h2⟩:=R3 used n;have h3:=Po (used++dR used n) fU;simp only[a8,not_or]at h3;refine⟨?_,fun s hs=>?_⟩
  ·rw[dR,mH];refine⟨h1,by simp,fun a ha b hb=>?_⟩;simp only[cL]at hb;subst hb
   rintro rfl
   exact h3.2 ha
  ·rw[dR]at hs
   rcases a8.1 hs with hs|hs
   ·exact h2 s hs
   ·simp only[cL]at hs;subst hs;exact h3.1
theorem QX(used:List Bs):∀n,∀s∈dR used n,∃j,j<=used.length+n+1/\s=fU++Lib.decDigits j
 |0,s,h=>by simp[dR]at h
 |n+1,s,h=>by
  rw[dR]at h
  rcases a8.1 h with h|h
  ·obtain⟨j,h1,h2⟩:=QX used n s h;exact⟨j,by omega,h2⟩
  ·simp only[cL]at h;subst h;obtain⟨j,h1,h2,h3⟩:=Pz (used:=used++dR used n) (stem:=fU) (used++dR used n).length 1;simp only[bC,RB]at h2;exact⟨j,by omega,h3⟩
theorem ajd:∀(n m:Nat),n<=m->∀c∈Lib.decDigits n,∃d,d<10/\c=sX d:=by
 intro n m
 induction m generalizing n with
 |zero=>
  intro h c hc
  obtain rfl:n=0:=by omega
  rw[mJ (by omega)]at hc;simp only[cL]at hc;exact⟨0,by omega,hc⟩
 |succ m ih=>
  intro h c hc
  by_cases h3:n<10
  ·rw[mJ h3]at hc;simp only[cL]at hc;exact⟨n,h3,hc⟩
  ·rw[qN h3]at hc
   rcases a8.1 hc with hc|hc
   ·exact ih (n/10) (by omega) c hc
   ·simp only[cL]at hc;exact⟨n%10,by omega,hc⟩
theorem NF{j:Nat}(h:j<10^7):gC (fU++Lib.decDigits j)=true:=by
 have h1:=Qo h;unfold gC;simp only[aB,j4,bj];refine⟨kK.2 fun c hc=>?_,?_⟩
 ·rcases a8.1 hc with hc|hc
  ·simp only[cL]at hc
   subst hc;decide
  ·obtain⟨d,hd,rfl⟩:=ajd j j (aT _) c hc
   have:∀d:Fin 10,qb (sX d.val)=false:=by decide+kernel
   exact this ⟨d,hd⟩
 ·simp;omega
theorem C9{α:Type}{p:List α->Prop}(h0:p [])(h1:∀l a,p l->p (l++[a])):∀l,p l:=fun l=>by
 have:∀l:List α,p l.reverse:=by
  intro l
  induction l with
  |nil=>simpa using h0
  |cons a l ih=>simpa using h1 _ a ih
 simpa using this l.reverse
def cY(m:Md)(L:List (Nat×By)):Ra:=L.foldl (fun x e=>x.make e.1 e.2) (kC m)
theorem ue(m:Md)(L:List (Nat×By))(e:Nat×By):cY m (L++[e])=(cY m L).make e.1 e.2:=by simp[cY]
abbrev jI(m:Md):List Bs:=m.aq++m.ah++m.az
def kV(n:Nat):List Nat:=(List.range n).map fun k=>2*(k+1)
def bY(m:Md)(L:List (Nat×By)):List Nat:=kV (m.aq++m.ah).length++L.map (·.1)
def gJ(m:Md)(n:Nat):List Bs:=(m.aq++m.ah)++dR (jI m) n
theorem Ol:∀(l:List Bs)(k:Nat),jh k l=((List.range' k l.length).map fun k=>2*(k+1)).zip l
 |[],k=>rfl
 |s::l,k=>by
  rw[jh,bL,List.range'_succ,bX,xH,Ol l (k+1)]
theorem vT(m:Md)(L:List (Nat×By)):(cY m L).used=jI m++dR (jI m) L.length/\(cY m L).bq=(bY m L).zip (gJ m L.length):=by
 induction L using C9 with
 |h0=>
  refine⟨by simp[cY,kC,dR],?_⟩;simp only[cY,List.foldl_nil,kC,Ol,bY,kV,gJ,dR,c_,jO,ey,List.range_eq_range']
 |h1 L e ih=>
  obtain⟨h1,h2⟩:=ih;rw[ue];refine⟨?_,?_⟩
  ·simp only[Ra.make,h1,bC,bL,c_,dR,cR]
  ·simp only[Ra.make,h1,h2,bY,gJ,jA,bX,jO,bC,bL,c_,dR];rw[<-cR,<-cR,FB (l₁:=kV _++_)]
   ·rfl
   ·simp[kV];omega
theorem NU(m:Md)(L:List (Nat×By)):(cY m L).af.length=L.length:=by
 induction L using C9 with
 |h0=>rfl
 |h1 L e ih=>rw[ue];simp[Ra.make,ih]
theorem Dq:∀(K:List Nat)(N:List Bs)(k:Nat),K.Nodup->(hk:k<K.length)->(hn:K.length=N.length)->getM K[k] (K.zip N)=some (N[k]'(by omega))
 |[],N,k,_,hk,_=>by simp at hk
 |a::K,[],k,_,hk,hn=>by simp at hn
 |a::K,s::N,0,_,hk,hn=>by simp[getM]
 |a::K,s::N,k+1,h,hk,hn=>by
  rw[l0]at h
  have h2:k<K.length:=by simpa using hk
  have ih:=Dq K N k h.2 h2 (by simpa using hn)
  have hv:¬K[k]=a:=fun e=>h.1 (by rw[<-e];exact bA h2)
  simp only[tE,xH,getM,hv,dq];exact ih
theorem P8{K:List Nat}{N:List Bs}(hn:K.length=N.length){a:Nat}:getM a (K.zip N)=none↔a∉K:=by
 rw[getM_none];constructor
 ·intro h hm;obtain⟨k,hk,rfl⟩:=gb hm
  have h2:k<(K.zip N).length:=by simp;omega
  have:=h (K.zip N)[k] (bA h2);simp at this
 ·rintro h ⟨x,s⟩ hx rfl
  exact h (Mb hx).1
theorem nL(m:Md)(L:List (Nat×By)):(bY m L).length=(gJ m L.length).length:=by simp[bY,gJ,kV];omega
def re:Nat×By->Bool
 |(_,.both _ _)=>true
 |_=>false
theorem Ie(a:Nat):re (a,fZ a)=false:=by unfold fZ;split<;>rfl
inductive Tr(m:Md)(first:Nat)(ands:List (Int×Int)):List (Nat×By)->Nat->Prop
 |nil:Tr m first ands [] 0
 |dy {L:List (Nat×By)} {t:Nat} (a:Nat):Tr m first ands L t->(a<2\/(a%2=1/\a-1∈bY m L))->a∉bY m L->Tr m first ands (L++[(a,fZ a)]) t
 |both {L:List (Nat×By)} {t:Nat} (p q:Nat):Tr m first ands L t->ands[t]? =some ((p:Int),(q:Int))->p∈bY m L->q∈bY m L->Tr m first ands (L++[(2*(first+t),.both p q)]) (t+1)
theorem ud(m:Md)(L:List (Nat×By))(e:Nat×By):bY m (L++[e])=bY m L++[e.1]:=by simp[bY]
theorem v7(m:Md)(L L2:List (Nat×By)):bY m (L++L2)=bY m L++L2.map (·.1):=by simp[bY]
structure TrF(m:Md)(first:Nat)(L:List (Nat×By))(t:Nat):Prop where
 nodup:(bY m L).Nodup
 lt:∀a∈bY m L,a<2*(first+t)
 even:∀n,1<=n->n<first+t->2*n∈bY m L
theorem Tr.facts{m:Md}{first:Nat}{ands:List (Int×Int)}(hf:first=1+(m.aq++m.ah).length){L:List (Nat×By)}{t:Nat}(h:Tr m first ands L t):TrF m first L t:=by
 induction h with
 |nil=>
  refine⟨?_,fun a ha=>?_,fun n h1 h2=>?_⟩
  ·simp only[bY,kV,jO,ey];rw[FC,List.pairwise_map];exact List.Pairwise.imp (fun hv he=>hv (by omega)) (FC.1 LZ)
  ·simp only[bY,kV,jO,ey,cd,dS]at ha;obtain⟨k,hk,rfl⟩:=ha;omega
  ·simp only[bY,kV,jO,ey,cd,dS];exact⟨n-1,by omega,by omega⟩
 |dy a _ ha hn ih=>
  refine⟨?_,fun x hx=>?_,fun n h1 h2=>?_⟩
  ·rw[ud,mH];refine⟨ih.nodup,by simp,fun x hx y hy=>?_⟩;simp only[cL]at hy;subst hy
   rintro rfl
   exact hn hx
  ·rw[ud]at hx
   rcases a8.1 hx with hx|hx
   ·exact ih.lt x hx
   ·simp only[cL]at hx;subst hx
    rcases ha with ha|⟨ha,hb⟩
    ·omega
    ·have:=ih.lt _ hb;omega
  ·rw[ud];exact nE _ (ih.even n h1 h2)
 |both p q _ hp h1 h2 ih=>
  refine⟨?_,fun x hx=>?_,fun n h3 h4=>?_⟩
  ·rw[ud,mH];refine⟨ih.nodup,by simp,fun x hx y hy=>?_⟩;simp only[cL]at hy;subst hy
   rintro rfl
   have:=ih.lt _ hx;omega
  ·rw[ud]at hx
   rcases a8.1 hx with hx|hx
   ·have:=ih.lt x hx;omega
   ·simp only[cL]at hx;subst hx;omega
  ·rw[ud];rename_i L t _
   by_cases h:n<first+t
   ·exact nE _ (ih.even n h3 h)
   ·refine xM _ ?_;simp only[cL];omega
theorem I2{m:Md}{first:Nat}{ands:List (Int×Int)}(hf:first=1+(m.aq++m.ah).length){L:List (Nat×By)}{t:Nat}(h:Tr m first ands L t){a:Nat}(ha:a<2*(first+t)):
 ∃L2,Tr m first ands (L++L2) t/\(cY m L).dy a=cY m (L++L2)/\a∈bY m (L++L2)/\∀e∈L2,e=(a,fZ a):=by
 have F:=h.facts hf;obtain⟨u1,u2⟩:=vT m L;unfold Ra.dy
 cases hg:getM a (cY m L).bq with
 |some s=>
  refine⟨[],by simpa using h,by simp,?_,by simp⟩;rw[ey]
  refine Ma fun hn=>?_
  rw[u2,(P8 (nL m L)).2 hn]at hg
  cases hg
 |none=>
  rw[u2,P8 (nL m L)]at hg;refine⟨[(a,fZ a)],.dy a h ?_ hg,by rw[ue],by rw[ud];simp,by simp⟩
  by_cases h2:a<2
  ·exact .inl h2
  ·refine .inr ?_
   have h3:a%2=1:=by
    refine Ma fun hn=>hg ?_
    have:=F.even (a/2) (by omega) (by omega);rwa[show 2*(a/2)=a by omega]at this
   have:=F.even (a/2) (by omega) (by omega);exact⟨h3,by rwa[show 2*(a/2)=a-1 by omega]at this⟩
theorem ahG{m:Md}{first:Nat}{ands:List (Int×Int)}(hf:first=1+(m.aq++m.ah).length)(hw:∀i(hi:i<ands.length),(0<=ands[i].1/\ands[i].1<2*(first+i))/\0<=ands[i].2/\ands[i].2<2*(first+i)):∀n i,i+n=ands.length->∀L,Tr m first ands L i->
 ∃L2,Tr m first ands (L++L2) ands.length/\n6 first (ands.drop i) i (cY m L)=cY m (L++L2)/\∀e∈L2,re e=false->∃p∈ands,e.1=p.1.toNat\/e.1=p.2.toNat:=by
 intro n
 induction n with
 |zero=>
  intro i hi L h
  obtain rfl:i=ands.length:=by omega
  exact⟨[],by simpa using h,by rw[xy];simp[n6],by simp⟩
 |succ n ih=>
  intro i hi L h
  have q1:i<ands.length:=by omega
  obtain⟨⟨a1,a2⟩,a3,a4⟩:=hw i q1;obtain⟨p,hp⟩:=gW a1;obtain⟨q,hq⟩:=gW a3
  have e:ands[i]? =some ((p:Int),(q:Int)):=by
   rw[aW q1];congr 1;exact Prod.ext hp hq
  rw[bJ q1,n6,hp,hq];simp only[eo];obtain⟨L1,t1,e1,k1,s1⟩:=I2 hf h (a:=p) (by omega);rw[e1];obtain⟨L2,t2,e2,k2,s2⟩:=I2 hf t1 (a:=q) (by omega);rw[e2]
  have h2:p∈bY m (L++L1++L2):=by rw[v7 m (L++L1)];exact nE _ k1
  obtain⟨L3,t3,e3,s3⟩:=ih (i+1) (by omega) _ (.both p q t2 e h2 k2);rw[ue]at e3
  have hm:((p:Int),(q:Int))∈ands:=by
   have:=bA q1;rwa[show ands[i]=((p:Int),(q:Int))from Prod.ext hp hq]at this
  refine⟨L1++L2++[(2*(first+i),By.both p q)]++L3,by simpa[cR]using t3,by rw[e3];simp[cR],fun x hx hb=>?_⟩;simp only[a8,cL]at hx
  rcases hx with((hx|hx)|rfl)|hx
  ·rw[s1 x hx];exact⟨_,hm,.inl (by simp)⟩
  ·rw[s2 x hx];exact⟨_,hm,.inr (by simp)⟩
  ·cases hb
  ·exact s3 x hx hb
theorem ajs{m:Md}{L L2:List (Nat×By)}{a:Nat}(ha:a∈bY m L)(hd:(bY m (L++L2)).Nodup):dE (cY m (L++L2)).bq a=dE (cY m L).bq a:=by
 obtain⟨k,hk,rfl⟩:=gb ha
 have qh:(bY m L).Nodup:=by
  rw[v7,mH]at hd;exact hd.1
 have hv:k<(bY m (L++L2)).length:=by rw[v7];simp;omega
 have e1:(bY m (L++L2))[k]=(bY m L)[k]:=by
  simp only[v7];rw[xF hk]
 have e2:(gJ m (L++L2).length)[k]'(by rw[<-nL];exact hv)=(gJ m L.length)[k]'(by rw[<-nL];exact hk):=by
  have h2:∀n k:Nat,∃e,dR (jI m) (n+k)=dR (jI m) n++e:=by
   intro n k
   induction k with
   |zero=>exact⟨[],by simp⟩
   |succ k ih=>
    obtain⟨e,he⟩:=ih;exact⟨e++[gk (jI m++dR (jI m) (n+k)) fU],by rw[<-lu,dR,he,cR]⟩
  obtain⟨e,he⟩:=h2 L.length L2.length
  have hn:gJ m (L++L2).length=gJ m L.length++e:=by rw[bC,gJ,he,gJ,<-cR]
  simp only[hn];rw[xF]
 unfold dE;rw[(vT m L).2,(vT m (L++L2)).2];rw[Dq _ _ k qh hk (nL m L)]
 conv=>lhs;rw[<-e1]
 rw[Dq _ _ k hd hv (nL m _)];simp only[e2]
theorem alv{m:Md}{L:List (Nat×By)}(hd:(bY m L).Nodup){k:Nat}(hk:k<(bY m L).length):dE (cY m L).bq (bY m L)[k]=(gJ m L.length)[k]'(by rw[<-nL];exact hk):=by
 unfold dE;rw[(vT m L).2,Dq _ _ k hd hk (nL m L)]
theorem QC{m:Md}{first:Nat}{ands:List (Int×Int)}(hf:first=1+(m.aq++m.ah).length):∀(l:List Bs)(n v:List Int),l.length=n.length->v.length=n.length->(∀a∈n,0<=a/\a<2*(first+ands.length))->∀L,Tr m first ands L ands.length->
 ∃L2,Tr m first ands (L++L2) ands.length/\(jg l n v (cY m L)).1=cY m (L++L2)/\(∀a∈n,a.toNat∈bY m (L++L2))/\(jg l n v (cY m L)).2.map (·.name)=l/\(jg l n v (cY m L)).2.map (·.init)=v/\(jg l n v (cY m L)).2.map (·.next)=n.map (fun a=>dE (cY m (L++L2)).bq a.toNat)/\∀e∈L2,re e=false/\∃a∈n,e.1=a.toNat
 |[],[],[],_,_,_,L,h=>⟨[],by simpa using h,by simp[jg],by simp,by simp[jg],by simp[jg],by simp[jg],by simp⟩
 |s::l,a::n,v::i,h1,h2,h3,L,h=>by
  obtain⟨b1,b2⟩:=h3 a (by simp);obtain⟨L1,t1,e1,k1,s1⟩:=I2 hf h (a:=a.toNat) (by omega);obtain⟨L2,t2,e2,k2,e3,e4,e5,s2⟩:=QC hf l n i (by simpa using h1) (by simpa using h2) (fun b hb=>h3 b (by simp[hb])) (L++L1) t1;have F:=t2.facts hf
  have hv:a.toNat∈bY m (L++L1++L2):=by rw[v7 m (L++L1)];exact nE _ k1
  refine⟨L1++L2,by simpa[cR]using t2,?_,?_,?_,?_,?_,fun x hx=>?_⟩
  ·rw[jg,e1,e2,cR]
  ·intro b hb;rw[<-cR]
   rcases bD.1 hb with rfl|hb
   ·exact hv
   ·exact k2 b hb
  ·rw[jg,e1];simp[e3]
  ·rw[jg,e1];simp[e4]
  ·rw[jg,e1,<-cR];simp only[bX,e5];rw[ajs k1 F.nodup]
  ·rcases a8.1 hx with hx|hx
   ·rw[s1 x hx];exact⟨Ie _,a,by simp,rfl⟩
   ·obtain⟨q1,b,q2,q3⟩:=s2 x hx;exact⟨q1,b,by simp[q2],q3⟩
theorem afg(m:Md)(L:List (Nat×By)):∀L2,∃G,(cY m (L++L2)).af=(cY m L).af++G/\G.length=L2.length:=by
 intro L2
 induction L2 using C9 with
 |h0=>exact⟨[],by simp,rfl⟩
 |h1 L2 e ih=>
  obtain⟨G,h1,h2⟩:=ih;refine⟨G++[e.2.gate (cY m (L++L2)).bq (gk (cY m (L++L2)).used fU)],?_,by simp[h2]⟩;rw[<-cR,ue];simp only[Ra.make,h1,cR]
theorem aiz(m:Md)(L:List (Nat×By))(e:Nat×By)(L2:List (Nat×By)):(cY m (L++e::L2)).af[L.length]? =some (e.2.gate (cY m L).bq (gk (jI m++dR (jI m) L.length) fU)):=by
 obtain⟨G,h1,h2⟩:=afg m (L++[e]) L2;rw[show L++e::L2=L++[e]++L2 by simp,h1,ue];have hl:=NU m L;simp only[Ra.make,(vT m L).1];rw[cR,dB (by omega),hl];simp
@[simp] theorem aiv(b:By)(m:List (Nat×Bs))(s:Bs):(b.gate m s).name=s:=by cases b<;>rfl
theorem adQ(m:Md)(L:List (Nat×By)):(cY m L).af.map (·.name)=dR (jI m) L.length:=by
 induction L using C9 with
 |h0=>rfl
 |h1 L e ih=>
  rw[ue];simp only[Ra.make,jA,ih,bX,jO,aiv,(vT m L).1,bC,bL,c_,dR]
def rI(L:List (Nat×By)):Nat:=(L.filter re).length
theorem Ik(L:List (Nat×By))(e:Nat×By):rI (L++[e])=rI L+if re e=true then 1 else 0:=by
 unfold rI;rw[List.filter_append,bC]
 cases h:re e<;>simp[h]
def DW(m:Md)(first:Nat)(ands:List (Int×Int))(P:List (Nat×By))(e:Nat×By):Prop:=
 (∃a,e=(a,fZ a)/\(a<2\/(a%2=1/\a-1∈bY m P)))\/(∃p q:Nat,e=(2*(first+rI P),.both p q)/\ands[rI P]? =some ((p:Int),(q:Int))/\p∈bY m P/\q∈bY m P)
theorem Tr.at{m:Md}{first:Nat}{ands:List (Int×Int)}{L:List (Nat×By)}{t:Nat}(h:Tr m first ands L t):t=rI L/\∀i(hi:i<L.length),DW m first ands (L.take i) L[i]:=by
 have step:∀(L:List (Nat×By))(e:Nat×By),(∀i(hi:i<L.length),DW m first ands (L.take i) L[i])->DW m first ands L e->∀i(hi:i<(L++[e]).length),DW m first ands ((L++[e]).take i) (L++[e])[i]:=by
  intro L e h1 h2 i hi
  by_cases h:i<L.length
  ·rw[List.take_append_of_le_length (by omega),xF h];exact h1 i h
  ·obtain rfl:i=L.length:=by simp at hi;omega
   rw[tF rfl];simpa using h2
 induction h with
 |nil=>exact⟨rfl,fun i hi=>by simp at hi⟩
 |dy a _ ha hn ih=>
  obtain⟨rfl,h2⟩:=ih;refine⟨by rw[Ik,Ie];simp,step _ _ h2 (.inl ⟨a,rfl,ha⟩)⟩
 |both p q _ hp h1 h2 ih=>
  obtain⟨rfl,h3⟩:=ih;refine⟨by rw[Ik];simp[re],step _ _ h3 (.inr ⟨p,q,rfl,hp,h1,h2⟩)⟩
theorem Iw{first:Nat}{l:List (Int×Int)}{p q:Nat}(h1:2<=q)(h2:q<p)(h3:p/2≠q/2)(h4:(((p:Nat):Int),((q:Nat):Int))∉l):
 bR first l p q=(l++[((p:Int),(q:Int))],2*(first+l.length)):=by
 unfold bR;rw[Nat.max_eq_left (by omega),Nat.min_eq_right (by omega)]
 have hk:mn p q=none:=by
  unfold mn;have hx:=nJ p;rw[if_neg,if_neg]
  ·omega
  ·rw[not_or];refine⟨by omega,?_⟩
   rw[hx];split<;>omega
 rw[hk,Hy.2 h4]
theorem IG{n a:Nat}(h:a/2<n):bt (ids n) a=a:=by
 have e1:(ids n).getD (a/2) 0=2*(a/2):=by
  rw[bz,aW (by simpa using h)];simp[ids]
 unfold bt;rw[e1]
 rcases(show a%2=0\/a%2=1 by omega)with h2|h2
 ·rw[h2,xO];omega
 ·rw[h2,nJ,if_pos (by omega)];omega
theorem Cq{α:Type}{l:List α}(h:l.Nodup){i:Nat}(hi:i<l.length):l[i]∉l.take i:=by
 intro hm
 have h2:(l.take i++l.drop i).Nodup:=by rw[lY];exact h
 exact(mH.1 h2).2.2 _ hm _ (by rw[bJ hi];exact pv) rfl
theorem Oo{first:Nat}{l:List (Int×Int)}(h:ie first l){i:Nat}(hi:i<l.length):bR first (l.take i) (bt (ids (first+i)) l[i].1.toNat) (bt (ids (first+i)) l[i].2.toNat)=(l.take (i+1),2*(first+i)):=by
 obtain⟨p,q,e,h1,h2,h3,h4⟩:=h.at_ i hi;have hn:=Cq h.nd hi;rw[iA hi];rw[e]at hn⊢;simp only[eo];rw[IG (by omega),IG (by omega),Iw h1 h2 h3 hn,fw,rR (by omega)]
theorem ND{first:Nat}{l:List (Int×Int)}(h:ie first l):∀n i:Nat,i+n=l.length->fQ first (l.drop i) (l.take i) (ids (first+i))=(l,ids (first+l.length))
 |0,i,hi=>by
  have:i=l.length:=by omega
  subst this;rw[xy,xz,fQ]
 |n+1,i,hi=>by
  have h1:i<l.length:=by omega
  rw[bJ h1,fQ,Oo h h1];simp only;rw[<-Im,lu];exact ND h n (i+1) (by omega)
theorem N4{first:Nat}{l:List (Int×Int)}(h:ie first l){bg:List Bool}(hl:∀i,i<l.length->bg.getD (first+i) false=true):∀n i:Nat,i+n=l.length->dU first bg (l.drop i) i (l.take i) (ids (first+i))=(l,ids (first+l.length))
 |0,i,hi=>by
  have:i=l.length:=by omega
  subst this;rw[xy,xz,dU]
 |n+1,i,hi=>by
  have h1:i<l.length:=by omega
  rw[bJ h1,dU,if_pos (hl i h1),Oo h h1];simp only;rw[<-Im,lu];exact N4 h hl n (i+1) (by omega)
theorem QO{n:Nat}{l:List Int}(h:∀a∈l,0<=a/\a<2*n):(eD (ids n) l).map (fun n:Nat=>(n:Int))=l:=by
 unfold eD;rw[iW]
 conv=>rhs;rw[<-List.map_id l]
 refine nB fun a ha=>?_
 have:=h a ha;simp only[Function.comp_apply,id];rw[IG (by omega)];omega
theorem P'{g:Gr}(ok:g.Ok):fP (g.dz (g.ands,ids (g.first+g.ands.length))) g=true:=by
 have h1:g.lits=2*(g.first+g.ands.length):=rfl;have e1:=QO (n:=g.first+g.ands.length) (l:=g.next) (fun a ha=>by have:=ok.next a ha;omega);have e2:=QO (n:=g.first+g.ands.length) (l:=g.outs) (fun a ha=>by have:=ok.outs a ha;omega);simp[fP,Gr.dz,e1,e2]
theorem zH{a b:Gr}(h:fP a b=true):a.ins=b.ins/\a.next=b.next/\a.init=b.init/\a.ands=b.ands/\a.outs=b.outs:=by
 simpa[fP,and_assoc]using h
theorem Cy{a b:Gr}(h:fP a b=true):a.bg=b.bg/\a.check=b.check/\a.first=b.first/\a.all=b.all/\a.strict=b.strict/\fP a.dm b.dm=true:=by
 obtain⟨i1,n1,j1,s1,o1,k1,k2,k3,k4,p1,p2,p3,p4⟩:=a;obtain⟨i2,n2,j2,s2,o2,k5,k6,k7,k8,p5,p6,p7,p8⟩:=b;obtain⟨rfl,rfl,rfl,rfl,rfl⟩:=zH h;exact⟨rfl,rfl,rfl,rfl,rfl,aci _⟩
theorem GA{a b c:Gr}(h:fP a b=true)(h2:fP b c=true):fP a c=true:=by
 obtain⟨h1,h3,h4,h5,h6⟩:=zH h;simp only[fP,h1,h3,h4,h5,h6];exact h2
theorem qI{g:Gr}(h:g.strict=true):g.Ok/\ie g.first g.ands/\∀i,i<g.ands.length->g.bg.getD (g.first+i) false=true:=by
 simp only[Gr.strict,aB,bj,j4]at h;obtain⟨hc,hb⟩:=h;have ok:=Gr.rk hc
 have key:∀i,i<g.ands.length->g.Ei i=false:=fun i hi=>kK.1 hb i (dS.2 hi)
 have h2:∀i(hi:i<g.ands.length),g.ands[i].2<g.ands[i].1/\1<g.ands[i].2/\g.ands[i].1.toNat/2≠g.ands[i].2.toNat/2/\g.bg.getD (g.first+i) false=true/\g.ands[i]∉g.ands.take i:=by
  intro i hi;have:=key i hi;unfold Gr.Ei at this;rw[bz,aW hi,kH]at this;simp only[lx,jB,Fw]at this;obtain⟨⟨⟨⟨t1,t2⟩,t3⟩,t4⟩,t5⟩:=this;exact⟨by omega,by omega,t3,t4,t5⟩
 refine⟨ok,⟨fun i hi=>?_,?_⟩,fun i hi=>(h2 i hi).2.2.2.1⟩
 ·obtain⟨k1,k2,k3,k4,k5⟩:=h2 i hi;have:=ok.ands i hi;refine⟨g.ands[i].1.toNat,g.ands[i].2.toNat,?_,by omega,by omega,k3,by omega⟩
  refine Prod.ext ?_ ?_<;>simp only<;>omega
 ·rw[FC,List.pairwise_iff_getElem];intro i j hi hj hv he;apply(h2 j hj).2.2.2.2;rw[<-he];exact Yi.2 ⟨i,by rw[fw];omega,by rw[qp]⟩
theorem GP{g:Gr}(h:g.strict=true):fP g.normal g=true:=by
 obtain⟨ok,hs,hl⟩:=qI h
 have e1:g.dD=g.dz (g.ands,ids (g.first+g.ands.length)):=by
  unfold Gr.dD;have:=ND hs g.ands.length 0 (by omega);simp only[fM,xD,iz]at this;rw[this]
 have e2:fP g.dm g=true:=by
  have:g.dm=g.dz (g.ands,ids (g.first+g.ands.length)):=by
   unfold Gr.dm;have:=N4 hs hl g.ands.length 0 (by omega);simp only[fM,xD,iz]at this;rw[this]
  rw[this];exact P' ok
 have e3:g.normal=g.dD.dm:=by unfold Gr.normal;rw[if_pos (Gr.su ok)]
 rw[e3]
 have e4:fP g.dD g=true:=by rw[e1];exact P' ok
 exact GA (Cy e4).2.2.2.2.2 e2
theorem pF(v:List Bool)(k n:Nat):(v.set k true).getD n false=true↔v.getD n false=true\/(n=k/\k<v.length):=by
 rw[bz,bz,qy]
 by_cases h:k=n
 ·subst h
  by_cases h2:k<v.length
  ·simp[h2]
  ·simp[h2]
 ·have h3:¬n=k:=fun e=>h e.symm
  simp[h,h3]
theorem HM:∀(l:List Int)(v:List Bool)(n:Nat),(jH l v).getD n false=true↔v.getD n false=true\/(n<v.length/\∃a∈l,a.toNat/2=n)
 |[],v,n=>by simp[jH]
 |a::l,v,n=>by
  rw[jH,HM l,pF,kD];constructor
  ·rintro((h|⟨rfl,h⟩)|⟨h,b,hb,e⟩)
   ·exact .inl h
   ·exact .inr ⟨h,a,by simp,rfl⟩
   ·exact .inr ⟨h,b,by simp[hb],e⟩
  ·rintro(h|⟨h,b,hb,e⟩)
   ·exact .inl (.inl h)
   ·rcases bD.1 hb with rfl|hb
    ·exact .inl (.inr ⟨e.symm,by omega⟩)
    ·exact .inr ⟨h,b,hb,e⟩
theorem RT{ands:List (Int×Int)}{first:Nat}(P:Nat->Prop):∀(i:Nat)(v:List Bool),(∀n,v.getD n false=true->P n)->
 (∀j,j<i->P (first+j)->P ((ands.getD j (0,0)).1.toNat/2)/\P ((ands.getD j (0,0)).2.toNat/2))->∀n,(jV ands first i v).getD n false=true->P n
 |0,v,hv,_=>hv
 |i+1,v,hv,hs=>by
  rw[jV];refine RT P i _ (fun n hn=>?_) (fun j hj=>hs j (by omega))
  split at hn
  ·rename_i h;have:=hs i (by omega) (hv _ h);rw[pF,pF]at hn
   rcases hn with(hn|⟨rfl,_⟩)|⟨rfl,_⟩
   ·exact hv n hn
   ·exact this.1
   ·exact this.2
  ·exact hv n hn
theorem Cw{ands:List (Int×Int)}{first:Nat}:∀(i:Nat)(v:List Bool)(n:Nat),v.getD n false=true->(jV ands first i v).getD n false=true
 |0,v,n,h=>h
 |i+1,v,n,h=>by
  rw[jV];refine Cw i _ n ?_
  split
  ·rw[pF,pF];exact .inl (.inl h)
  ·exact h
theorem N_{ands:List (Int×Int)}{first:Nat}:∀(i:Nat)(v:List Bool)(n:Nat),first+i<=n+1->(∀j,j<i->(ands.getD j (0,0)).1.toNat/2<first+j/\(ands.getD j (0,0)).2.toNat/2<first+j)->
 ((jV ands first i v).getD n false=true↔v.getD n false=true)
 |0,v,n,_,_=>oE
 |i+1,v,n,h,hw=>by
  have h0:=hw i (by omega);rw[jV,N_ i _ n (by omega) (fun j hj=>hw j (by omega))]
  split
  ·rw[pF,pF];constructor
   ·rintro((h2|⟨e,_⟩)|⟨e,_⟩)
    ·exact h2
    ·omega
    ·omega
   ·exact fun h2=>.inl (.inl h2)
  ·exact oE
theorem MX{ands:List (Int×Int)}{first:Nat}:∀(i:Nat)(v:List Bool),(∀j,j<i->(ands.getD j (0,0)).1.toNat/2<first+j/\(ands.getD j (0,0)).2.toNat/2<first+j)->first+i<=v.length->
 ∀j,j<i->(jV ands first i v).getD (first+j) false=true->(jV ands first i v).getD ((ands.getD j (0,0)).1.toNat/2) false=true/\(jV ands first i v).getD ((ands.getD j (0,0)).2.toNat/2) false=true
 |0,v,_,_=>fun j hj=>by omega
 |i+1,v,hw,hl=>by
  intro j hj;have h0:=hw i (by omega);rw[jV]
  by_cases hv:j<i
  ·exact MX i _ (fun j hj=>hw j (by omega)) (by split<;>(try simp only[kD])<;>omega) j hv
  ·have e:j=i:=by omega
   subst e;rw[N_ j _ (first+j) (by omega) (fun j hj=>hw j (by omega))];intro h
   split at h
   ·rename_i h2;rw[if_pos h2];refine⟨Cw _ _ _ ?_,Cw _ _ _ ?_⟩
    ·rw[pF,pF];exact .inl (.inr ⟨rfl,by omega⟩)
    ·rw[pF];exact .inr ⟨rfl,by rw[kD];omega⟩
   ·rename_i h2;exact absurd h h2
theorem getD_at{l:List (Int×Int)}{i:Nat}(h:i<l.length):l.getD i (0,0)=l[i]:=by
 rw[bz,aW h];rfl
theorem Gr.Ok.half{g:Gr}(ok:g.Ok):∀j,j<g.ands.length->(g.ands.getD j (0,0)).1.toNat/2<g.first+j/\(g.ands.getD j (0,0)).2.toNat/2<g.first+j:=by
 intro j hj;have:=ok.ands j hj;rw[getD_at hj];omega
theorem Iz{g:Gr}(ok:g.Ok){a:Int}(h:a∈g.next++g.outs):g.bg.getD (a.toNat/2) false=true:=by
 unfold Gr.bg;refine Cw _ _ _ ((HM _ _ _).2 (.inr ⟨?_,a,h,rfl⟩));have hl:g.lits=2*g.all:=rfl;rw[qx]
 rcases a8.1 h with h|h
 ·have:=ok.next a h;omega
 ·have:=ok.outs a h;omega
theorem Cp{g:Gr}(ok:g.Ok){i:Nat}(hi:i<g.ands.length)(h:g.bg.getD (g.first+i) false=true):g.bg.getD (g.ands[i].1.toNat/2) false=true/\g.bg.getD (g.ands[i].2.toNat/2) false=true:=by
 have:=MX (ands:=g.ands) (first:=g.first) g.ands.length (jH (g.next++g.outs) (List.replicate g.all false)) ok.half (by rw[zJ,qx];exact aT _) i hi h;rw[getD_at hi]at this;exact this
theorem ajr{g:Gr}(P:Nat->Prop)(h1:∀a∈g.next++g.outs,P (a.toNat/2))(h2:∀i(hi:i<g.ands.length),P (g.first+i)->P (g.ands[i].1.toNat/2)/\P (g.ands[i].2.toNat/2)):
 ∀n,g.bg.getD n false=true->P n:=by
 refine RT P _ _ (fun n hn=>?_) (fun j hj=>?_)
 ·rcases(HM _ _ _).1 hn with h|⟨_,a,ha,rfl⟩
  ·rw[bz,L5]at h
   split at h<;>simp at h
  ·exact h1 a ha
 ·rw[getD_at hj];exact h2 j hj
theorem DI{to:List Nat}{a:Nat}(h:to.getD (a/2) 0%2=0):bt to a=to.getD (a/2) 0+a%2:=by
 unfold bt
 rcases(show a%2=0\/a%2=1 by omega)with h2|h2
 ·rw[h2,xO];rfl
 ·rw[h2,nJ,if_pos h]
theorem PY(to:List Nat)(a:Nat):bt to a/2=to.getD (a/2) 0/2:=by
 unfold bt
 rcases(show a%2=0\/a%2=1 by omega)with h2|h2
 ·rw[h2,xO]
 ·rw[h2,nJ];split<;>omega
theorem nI{to:List Nat}{c n:Nat}(h:n<to.length):(to++[c]).getD n 0=to.getD n 0:=by
 rw[bz,bz,cF h]
theorem C8{to:List Nat}{c n:Nat}(h:n=to.length):(to++[c]).getD n 0=c:=by
 subst h
 rw[bz];simp
theorem wg{to:List Nat}{c a:Nat}(h:a/2<to.length):bt (to++[c]) a=bt to a:=by
 unfold bt;rw[nI h]
section
variable(first:Nat)(bg:List Bool)(ands:List (Int×Int))
def Live(n:Nat):Prop:=n<first\/bg.getD n false=true
abbrev ml(to:List Nat)(p:Int×Int):Int×Int:=((bt to p.1.toNat:Nat),(bt to p.2.toNat:Nat))
structure jW(i:Nat)(l:List (Int×Int))(to:List Nat):Prop where
 len:to.length=first+i
 low:∀n,n<first->to.getD n 0=2*n
 at_:∀k(hk:k<ands.length),k<i->bg.getD (first+k) false=true->∃j,j<l.length/\to.getD (first+k) 0=2*(first+j)/\l[j]? =some (ml to ands[k])
 D8:∀j,j<l.length->∃k,k<i/\bg.getD (first+k) false=true/\to.getD (first+k) 0=2*(first+j)
 mono:∀m n,m<n->n<first+i->Live first bg m->Live first bg n->to.getD m 0<to.getD n 0
variable{first bg ands}
theorem jW.ev{i:Nat}{l:List (Int×Int)}{to:List Nat}(h:jW first bg ands i l to)(hi:i<=ands.length){n:Nat}(hn:n<first+i)(hl:Live first bg n):to.getD n 0%2=0/\to.getD n 0<2*(first+l.length):=by
 by_cases h1:n<first
 ·rw[h.low n h1];omega
 ·rcases hl with h2|h2
  ·omega
  ·obtain⟨j,hj,e,_⟩:=h.at_ (n-first) (by omega) (by omega) (by rw[show first+(n-first)=n by omega];exact h2);rw[show first+(n-first)=n by omega]at e;omega
theorem jW.inj{i:Nat}{l:List (Int×Int)}{to:List Nat}(h:jW first bg ands i l to)(hi:i<=ands.length){a b:Nat}(ha:a/2<first+i)(hb:b/2<first+i)(la:Live first bg (a/2))(lb:Live first bg (b/2))(e:bt to a=bt to b):a=b:=by
 have e1:=h.ev hi ha la;have e2:=h.ev hi hb lb;rw[DI e1.1,DI e2.1]at e
 rcases LU (a/2) (b/2)with h1|h1|h1
 ·have:=h.mono _ _ h1 hb la lb;omega
 ·omega
 ·have:=h.mono _ _ h1 ha lb la;omega
structure AE(first:Nat)(bg:List Bool)(ands:List (Int×Int)):Prop where
 h1:1<=first
 s:ie first ands
 c:∀i(hi:i<ands.length),bg.getD (first+i) false=true->bg.getD (ands[i].1.toNat/2) false=true/\bg.getD (ands[i].2.toNat/2) false=true
theorem jW.new{i:Nat}{l:List (Int×Int)}{to:List Nat}(L:AE first bg ands)(h:jW first bg ands i l to)(hi:i<ands.length)(hl:bg.getD (first+i) false=true):
 bR first l (bt to ands[i].1.toNat) (bt to ands[i].2.toNat)=(l++[ml to ands[i]],2*(first+l.length))/\ands[i].1.toNat/2<first+i/\ands[i].2.toNat/2<first+i:=by
 obtain⟨p,q,e,s1,s2,s3,s4⟩:=L.s.at_ i hi;obtain⟨c1,c2⟩:=L.c i hi hl
 have hp:ands[i].1.toNat=p:=by rw[e];rfl
 have hq:ands[i].2.toNat=q:=by rw[e];rfl
 unfold ml
 rw[hp]at c1;rw[hq]at c2;rw[hp,hq]
 have e1:=h.ev (by omega) (n:=p/2) (by omega) (.inr c1);have e2:=h.ev (by omega) (n:=q/2) (by omega) (.inr c2);have m1:=h.mono (q/2) (p/2) (by omega) (by omega) (.inr c2) (.inr c1);have m0:=h.mono 0 (q/2) (by omega) (by omega) (.inl (by have:=L.h1;omega)) (.inr c2);have b1:=DI e1.1;have b2:=DI e2.1;refine⟨Iw (by omega) (by omega) (by omega) ?_,by omega,by omega⟩;intro hm;obtain⟨j,hj,ej⟩:=Yi.1 hm;obtain⟨k,hk,lk,tk⟩:=h.D8 j hj;obtain⟨j2,hv,hc,h2⟩:=h.at_ k (by omega) hk lk
 have hb:j2=j:=by omega
 subst hb;rw[aW hv,ej]at h2;simp only[ml,an,b9]at h2;obtain⟨p2,q2,e',t1,t2,t3,t4⟩:=L.s.at_ k (by omega);obtain⟨d1,d2⟩:=L.c k (by omega) lk;rw[e']at h2 d1 d2;simp only[eo]at h2 d1 d2;have x1:=h.inj (by omega) (a:=p) (b:=p2) (by omega) (by omega) (.inr c1) (.inr d1) (by omega);have x2:=h.inj (by omega) (a:=q) (b:=q2) (by omega) (by omega) (.inr c2) (.inr d2) (by omega);subst x1 x2;exact Cq L.s.nd hi (Yi.2 ⟨k,by rw[fw];omega,by rw[qp,e',e]⟩)
theorem jW.push{i:Nat}{l:List (Int×Int)}{to:List Nat}(L:AE first bg ands)(h:jW first bg ands i l to)(hi:i<ands.length)(hl:bg.getD (first+i) false=true):
 jW first bg ands (i+1) (l++[ml to ands[i]]) (to++[2*(first+l.length)]):=by
 obtain⟨_,n1,n2⟩:=h.new L hi hl;have hlen:=h.len;refine⟨by simp;omega,fun n hn=>by rw[nI (by omega)];exact h.low n hn,fun k hk hx lk=>?_,fun j hj=>?_,fun m n h2 hn lm ln=>?_⟩
 ·by_cases hv:k<i
  ·obtain⟨j,hj,e1,e2⟩:=h.at_ k hk hv lk;obtain⟨p2,q2,e',t1,t2,t3,t4⟩:=L.s.at_ k hk;refine⟨j,by simp;omega,by rw[nI (by omega)];exact e1,?_⟩;rw[cF hj,e2];unfold ml;rw[e'];simp only[eo];rw[wg (by omega),wg (by omega)]
  ·have e:k=i:=by omega
   subst e;refine⟨l.length,by simp,C8 (by omega),?_⟩;unfold ml;rw[wg (by omega),wg (by omega)];simp
 ·by_cases hb:j<l.length
  ·obtain⟨k,hk,lk,e⟩:=h.D8 j hb;exact⟨k,by omega,lk,by rw[nI (by omega)];exact e⟩
  ·have e:j=l.length:=by simp at hj;omega
   subst e;exact⟨i,by omega,hl,C8 (by omega)⟩
 ·rw[nI (n:=m) (by omega)]
  by_cases hc:n<first+i
  ·rw[nI (by omega)];exact h.mono m n h2 hc lm ln
  ·rw[C8 (by omega)];exact(h.ev (by omega) (by omega) lm).2
theorem jW.skip{i:Nat}{l:List (Int×Int)}{to:List Nat}(L:AE first bg ands)(h:jW first bg ands i l to)(hi:i<ands.length)(hl:¬bg.getD (first+i) false=true)(c:Nat):jW first bg ands (i+1) l (to++[c]):=by
 have hlen:=h.len;refine⟨by simp;omega,fun n hn=>by rw[nI (by omega)];exact h.low n hn,fun k hk hc lk=>?_,fun j hj=>?_,fun m n h2 hn lm ln=>?_⟩
 ·have hv:k<i:=by
   rcases mF k i with h3|h3
   ·exact h3
   ·have e:k=i:=by omega
    subst e;exact absurd lk hl
  obtain⟨j,hj,e1,e2⟩:=h.at_ k hk hv lk;obtain⟨p2,q2,e',t1,t2,t3,t4⟩:=L.s.at_ k hk;refine⟨j,hj,by rw[nI (by omega)];exact e1,?_⟩;rw[e2];unfold ml;rw[e'];simp only[eo];rw[wg (by omega),wg (by omega)]
 ·obtain⟨k,hk,lk,e⟩:=h.D8 j hj;exact⟨k,by omega,lk,by rw[nI (by omega)];exact e⟩
 ·have hb:n<first+i:=by
   rcases mF n (first+i)with h3|h3
   ·exact h3
   ·have e:n=first+i:=by omega
    subst e
    rcases ln with h4|h4
    ·omega
    ·exact absurd h4 hl
  rw[nI (n:=m) (by omega),nI (by omega)];exact h.mono m n h2 hb lm ln
theorem jW.zero:jW first bg ands 0 [] (ids first):=by
 have hg:∀n,n<first->(ids first).getD n 0=2*n:=fun n hn=>by
  rw[bz,aW (by simpa using hn)];simp[ids]
 refine⟨by simp,hg,fun k hk h=>by omega,fun j hj=>by simp at hj,fun m n h2 hn _ _=>?_⟩
 rw[hg m (by omega),hg n (by omega)];omega
theorem HL(L:AE first bg ands):∀n i l to,i+n=ands.length->jW first bg ands i l to->jW first bg ands ands.length (dU first bg (ands.drop i) i l to).1 (dU first bg (ands.drop i) i l to).2
 |0,i,l,to,hi,h=>by
  have:i=ands.length:=by omega
  subst this
  rw[xy,dU];exact h
 |n+1,i,l,to,hi,h=>by
  have h1:i<ands.length:=by omega
  rw[bJ h1,dU]
  split
  ·rename_i hl;rw[(h.new L h1 hl).1];exact HL L n (i+1) _ _ (by omega) (h.push L h1 hl)
  ·rename_i hl;exact HL L n (i+1) _ _ (by omega) (h.skip L h1 hl 0)
end
theorem Gr.akT{x:Gr}(ok:x.Ok)(s:ie x.first x.ands):AE x.first x.bg x.ands:=⟨by unfold Gr.first;omega,s,fun i hi h=>Cp ok hi h⟩
theorem Gr.TP{x:Gr}(ok:x.Ok)(s:ie x.first x.ands):jW x.first x.bg x.ands x.ands.length (dU x.first x.bg x.ands 0 [] (ids x.first)).1 (dU x.first x.bg x.ands 0 [] (ids x.first)).2:=by
 have:=HL (Gr.akT ok s) x.ands.length 0 [] (ids x.first) (by omega) jW.zero;rw[fM]at this;exact this
theorem vM(g:Gr)(r:List (Int×Int)×List Nat):(g.dz r).first=g.first:=by simp[Gr.first,Gr.dz]
theorem ajD{g:Gr}{r:List (Int×Int)×List Nat}{a:Int}(h:a∈g.next++g.outs):((bt r.2 a.toNat:Nat):Int)∈(g.dz r).next++(g.dz r).outs:=by
 simp only[Gr.dz,a8,cd,eD]at h⊢
 rcases h with h|h
 ·exact .inl ⟨_,⟨a,h,rfl⟩,rfl⟩
 ·exact .inr ⟨_,⟨a,h,rfl⟩,rfl⟩
theorem ag1{x:Gr}(ok:x.Ok)(s:ie x.first x.ands):∀j,j<x.dm.ands.length->x.dm.bg.getD (x.first+j) false=true:=by
 have I:=Gr.TP ok s;have s6:=(Dp ok).1
 have key:∀n,x.bg.getD n false=true->x.bg.getD n false=true/\x.dm.bg.getD ((dU x.first x.bg x.ands 0 [] (ids x.first)).2.getD n 0/2) false=true:=by
  refine ajr _ (fun a ha=>⟨Iz ok ha,?_⟩) (fun i hi h=>?_)
  ·have:=Iz s6 (ajD (r:=dU x.first x.bg x.ands 0 [] (ids x.first)) ha);rw[eo,PY]at this;exact this
  ·obtain⟨h1,h2⟩:=h;obtain⟨j,hj,e1,e2⟩:=I.at_ i hi hi h1;have hc:=Cp ok hi h1;have hv:j<x.dm.ands.length:=hj
   have e3:x.dm.ands[j]=ml (dU x.first x.bg x.ands 0 [] (ids x.first)).2 x.ands[i]:=by
    have:x.dm.ands[j]? =some (ml (dU x.first x.bg x.ands 0 [] (ids x.first)).2 x.ands[i]):=e2;rw[aW hv]at this;exact Option.some.inj this
   rw[e1,show 2*(x.first+j)/2=x.first+j by omega]at h2;have h4:=Cp s6 hv (by rw[show x.dm.first=x.first from vM _ _];exact h2);rw[e3]at h4;simp only[ml,eo,PY]at h4;exact⟨⟨hc.1,h4.1⟩,hc.2,h4.2⟩
 intro j hj;obtain⟨k,hk,lk,e⟩:=I.D8 j hj;have:=(key _ lk).2;rw[e,show 2*(x.first+j)/2=x.first+j by omega]at this;exact this
theorem aeq{g:Gr}(ok:g.Ok)(s:ie g.first g.ands)(h:∀i,i<g.ands.length->g.bg.getD (g.first+i) false=true):g.strict=true:=by
 simp only[Gr.strict,aB,bj,j4];refine⟨Gr.su ok,kK.2 fun i hi=>?_⟩;have hi:=dS.1 hi;obtain⟨p,q,e,s1,s2,s3,s4⟩:=s.at_ i hi;have hn:=Cq s.nd hi;have hh:=h i hi;unfold Gr.Ei;rw[getD_at hi,hh];rw[e]at hn⊢;simp[hn];omega
theorem B0{g:Gr}(h:g.check=0):g.normal.strict=true/\g.normal.check=0/\g.normal.ands.length<=g.ands.length:=by
 have ok:=Gr.rk h;obtain⟨o1,s1,l1⟩:=Di ok
 have hf:g.dD.first=g.first:=vM _ _
 obtain⟨o2,s2,l2⟩:=Dp o1
 have e:g.normal=g.dD.dm:=by unfold Gr.normal;rw[if_pos h]
 rw[e]
 have h2:g.dD.dm.first=g.dD.first:=vM _ _
 refine⟨aeq o2 (by rw[h2];exact s2) ?_,Gr.su o2,by omega⟩;rw[h2];exact ag1 o1 (by rw[hf];exact s1)
end Go.Proofs.YtchjijfjidlpjaaGreatDoor
