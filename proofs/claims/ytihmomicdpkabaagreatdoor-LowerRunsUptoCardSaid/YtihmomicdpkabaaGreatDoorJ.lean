/- OrderRises: gates that stand in an order in which they may come come just so. -/
import Derived.Test.YtihmomicdpkabaaGreatDoorI
import Derived.Test.YtihmomicdpkabaaGreatDoorH
import Derived.Test.YtihmomicdpkabaaGreatDoorG
import Derived.Test.YtihmomicdpkabaaGreatDoorF
import Derived.Test.YtihmomicdpkabaaGreatDoorCode
import Derived.Test.YtihmomicdpkabaaGreatDoorAMd
set_option linter.unusedSimpArgs false
set_option linter.unusedVariables false
namespace Go.Proofs.YtihmomicdpkabaaGreatDoor
open Go.AM Go.Proofs
variable{Γ:Nat->Option AV}
theorem MC(N:List Bs):∀l:List Bs,(∀s∈l,s∈N)->ik N l=(0,[])
 |[],_=>rfl
 |a::l,h=>by rw[ik,if_pos (h a (by simp)),MC N l fun s hs=>h s (by simp[hs])]
theorem Mv(r:Int×Bs):∀l:List Gt,(∀g∈l,jB g=true)->jE r l=r
 |[],_=>rfl
 |a::l,h=>by rw[jE,if_pos (h a (by simp)),Mv r l fun s hs=>h s (by simp[hs])]
theorem MO(r:Int×Bs):∀l:List Lt,(∀g∈l,me g=true)->kW r l=r
 |[],_=>rfl
 |a::l,h=>by rw[kW,if_pos (h a (by simp)),MO r l fun s hs=>h s (by simp[hs])]
theorem Np(r:Int×Bs):∀l:List Bs,(∀g∈l,jd g=true)->n4 r l=r
 |[],_=>rfl
 |a::l,h=>by rw[n4,if_pos (h a (by simp)),Np r l fun s hs=>h s (by simp[hs])]
theorem acz{c:Ct}(h:eN c):iF c=(0,[]):=by
 unfold iF;rw[h.lV,if_neg (by simp),Np _ _ h.names,h.Qg,h.outs,MO _ _ h.init,Mv _ _ h.af,MC _ _ h.used];rfl
theorem Nd{c:Ct}(h:eN c):kR c=true:=by rw[kR,acz h];rfl
theorem Fu{c:Ct}{s:Bs}:s∈aD c↔s∈c.aG\/(∃q∈c.ai,q.name=s)\/∃g∈c.af,g.name=s:=by
 simp[aD]
def xq(c:Ct):Bool:=uT c&&(decide (c.af.length<=24)&&(decide (c.aG.length<=24)&&decide (c.ai.length<=24)))
theorem abC(c:Ct):aM Tryz.prog Γ Ad [bH c] (.bool (xq c)):=by
 have hF:=agL (Γ:=Γ) c;refine .run 60 Xd (by simp) ?_;unfold xq;simp;refine .call 60 (by simp) hF ?_
 cases uT c with
 |false=>
  simp;exact .back (by simp)
 |true=>
  have e0:((c.af.length:Int)<=24)=(c.af.length<=24):=propext (by omega);have e1:((c.aG.length:Int)<=24)=(c.aG.length<=24):=propext (by omega);have e2:((c.ai.length:Int)<=24)=(c.ai.length<=24):=propext (by omega)
  by_cases h1:c.af.length<=24
  ·by_cases h2:c.aG.length<=24
   ·simp[e0,e1,e2,h1,h2];exact .back (by simp)
   ·simp[e0,e1,e2,h1,h2];exact .back (by simp)
  ·simp[e0,e1,e2,h1];exact .back (by simp)
theorem OH{α:Type}{P:List α->Prop}(h0:P [])(h1:∀l a,P l->P (l++[a]))(l:List α):P l:=by
 rw[<-List.reverse_reverse l]
 induction l.reverse with
 |nil=>exact h0
 |cons a r ih=>rw[List.reverse_cons];exact h1 _ _ ih
def dS(m:List (Bs×Bool))(s:Bs):Bool:=match getM s m with
 |some v=>v
 |none=>false
theorem aer{m r:List (Bs×Bool)}{s:Bs}(h:s∈m.map (·.1)):dS (m++r) s=dS m s:=by
 induction m with
 |nil=>cases h
 |cons a m ih=>
  obtain⟨k,v⟩:=a;rw[eR];unfold dS;rw[getM,getM]
  by_cases hk:s=k
  ·rw[if_pos hk,if_pos hk]
  ·rw[if_neg hk,if_neg hk];rw[cd,bw]at h;exact ih (h.resolve_left hk)
theorem adT{m:List (Bs×Bool)}{s:Bs}(v:Bool)(h:s∉m.map (·.1)):dS (m++[(s,v)]) s=v:=by
 induction m with
 |nil=>simp[dS,getM]
 |cons a m ih=>
  obtain⟨k,u⟩:=a;rw[cd,bw,not_or]at h;rw[eR];unfold dS;rw[getM,if_neg h.1];exact ih h.2
theorem acB{m:List (Bs×Bool)}{s:Bs}(h:s∉m.map (·.1)):getM s m=none:=getM_none.2 fun x hx he=>h (by rw[<-he];exact pY (f:=(·.1)) hx)
def eX(m:List (Bs×Bool))(l:List Bs):List Bool:=l.map (dS m)
def eM(c:Ct):List Bs:=c.aG++c.ai.map (·.name)
def xP(c:Ct)(ins state:List Bool):List (Bs×Bool):=(eM c).zip (ins++state)
def Qb(c:Ct)(m:List (Bs×Bool))(a:Nat):List (Bs×Bool):=match c.af[a]? with
 |some g=>m++[(g.name,qF g (eX m g.ins))]
 |none=>m
def iv(c:Ct)(ins state:List Bool)(p:List Nat):List (Bs×Bool):=p.foldl (Qb c) (xP c ins state)
def gU(c:Ct)(ins state:List Bool):List (Bs×Bool):=iv c ins state (aP c)
theorem Au(c:Ct)(ins state:List Bool)(p:List Nat){a:Nat}(ha:a<c.af.length):iv c ins state (p++[a])=iv c ins state p++[(c.af[a].name,qF c.af[a] (eX (iv c ins state p) c.af[a].ins))]:=by
 rw[iv,List.foldl_append,vq,List.foldl_nil,Qb,bm ha];rfl
theorem wL(c:Ct):(eM c).length=c.aG.length+c.ai.length:=by simp[eM]
theorem ZY{c:Ct}{ins state:List Bool}(hi:ins.length=c.aG.length)(hs:state.length=c.ai.length):(xP c ins state).map (·.1)=eM c:=by
 rw[xP,List.map_fst_zip (by rw[wL];simp;omega)]
theorem tV{c:Ct}{ins state:List Bool}(hi:ins.length=c.aG.length)(hs:state.length=c.ai.length):∀p:List Nat,(∀a∈p,a<c.af.length)->(iv c ins state p).map (·.1)=eM c++p.map (Hi c):=by
 intro p
 induction p using OH with
 |h0=>intro _;simpa[iv]using ZY hi hs
 |h1 p a ih=>
  intro h;have ha:=h a (by simp);rw[Au c ins state p ha,iT,ih fun b hb=>h b (by simp[hb])];simp[BD ha]
theorem Aq{c:Ct}(ok:eN c):(eM c++c.af.map (·.name)).Nodup:=by
 have:=ok.nodup;simpa[aD,eM]using this
theorem NB{c:Ct}(ok:eN c){ins state:List Bool}(hi:ins.length=c.aG.length)(hs:state.length=c.ai.length){p:List Nat}(hp:∀a∈p,a<c.af.length){a:Nat}(ha:a<c.af.length)(hn:a∉p):c.af[a].name∉(iv c ins state p).map (·.1):=by
 have hd:=tI (Nd ok);rw[tV hi hs p hp,bn,not_or];have h:=Aq ok;rw[sY]at h;refine⟨fun hb=>h.2.2 _ hb _ (pY (f:=(·.name)) (bx ha)) rfl,fun hb=>?_⟩;obtain⟨x,hx,he⟩:=cF.1 hb;have hxl:=hp x hx;rw[BD hxl]at he;exact hn (A0 hd hxl ha he▸hx)
structure BU(c:Ct)(ins state:List Bool)(f:Bs->Bool):Prop where
 Sf:∀i,∀h:i<c.aG.length,f c.aG[i]=ins.getD i false
 Ra:∀i,∀h:i<c.ai.length,f c.ai[i].name=state.getD i false
 QJ:∀i,∀h:i<c.af.length,f c.af[i].name=qF c.af[i] (c.af[i].ins.map f)
theorem Oq:∀(l:List Bs)(b:List Bool),l.Nodup->∀i,∀h:i<l.length,i<b.length->dS (l.zip b) l[i]=b.getD i false
 |[],_,_,i,h,_=>by simp at h
 |s::l,[],_,i,h,h2=>by simp at h2
 |s::l,v::b,hn,i,h,h2=>by
  rw[l5]at hn;rw[Ju];unfold dS
  cases i with
  |zero=>simp[getM]
  |succ i=>
   have hne:¬(s::l)[i+1]=s:=fun he=>hn.1 (by rw[<-he];simp)
   rw[getM,if_neg hne];simpa[dS]using Oq l b hn.2 i (by simpa using h) (by simpa using h2)
theorem FH{c:Ct}{ins state:List Bool}(hi:ins.length=c.aG.length)(hs:state.length=c.ai.length)(p:List Nat)(hp:∀a∈p,a<c.af.length):∀r:List Nat,(∀a∈r,a<c.af.length)->∀s∈(iv c ins state p).map (·.1),dS (iv c ins state (p++r)) s=dS (iv c ins state p) s:=by
 intro r
 induction r using OH with
 |h0=>intro _ s _;simp
 |h1 r a ih=>
  intro hr s hs';have ha:=hr a (by simp)
  have hr':=fun b hb=>hr b (bn.2 (.inl hb))
  have h1:=ih hr' s hs';rw[<-gf,Au c ins state (p++r) ha,aer ?_,h1];rw[tV hi hs _ fun b hb=>(bn.1 hb).elim (hp b) (hr' b)];rw[tV hi hs p hp]at hs';simp only[bn,iT]at hs'⊢
  exact hs'.elim .inl fun h=>.inr (.inl h)
theorem Z1{c:Ct}(ok:eN c)(hall:∀i<c.af.length,i∈aP c){ins state:List Bool}(hi:ins.length=c.aG.length)(hs:state.length=c.ai.length):BU c ins state (dS (gU c ins state)):=by
 have hd:=tI (Nd ok);have hlt:=oY c;have hnd:=Aq ok
 have hbn:(eM c).Nodup:=by rw[sY]at hnd;exact hnd.1
 have hbase:∀i,∀h:i<(eM c).length,dS (gU c ins state) (eM c)[i]=(ins++state).getD i false:=fun i h=>by
  have h1:=FH hi hs [] (by simp) (aP c) hlt (eM c)[i] (by rw[tV hi hs [] (by simp)];simp);rw[lq]at h1;rw[gU,h1];have:=Oq (eM c) (ins++state) hbn i h (by rw[wL]at h;simp;omega);simpa[iv,xP]using this
 refine⟨fun i h=>?_,fun i h=>?_,fun i h=>?_⟩
 ·have:=hbase i (by rw[wL];omega);simp only[eM,Jr h]at this;rw[this,bp,bp,cV (by omega)]
 ·have:=hbase (c.aG.length+i) (by rw[wL];omega);simp only[eM]at this;rw[Dw (by omega)]at this;simp only[vy,List.getElem_map]at this;rw[this,bp,bp,dF (by omega),hi,vy]
 ·obtain⟨p,q,he⟩:=List.append_of_mem (hall i h)
  have hpl:∀a∈p,a<c.af.length:=fun a ha=>hlt a (by rw[he];simp[ha])
  have hql:∀a∈q,a<c.af.length:=fun a ha=>hlt a (by rw[he];simp[ha])
  have hpos:=(jw.1 (EH c he).1);have hnew:=NB ok hi hs hpl h hpos.1
  have e1:aP c=(p++[i])++q:=by rw[he];simp
  have hpi:∀a∈p++[i],a<c.af.length:=fun a ha=>by
   rcases bn.1 ha with ha|ha
   ·exact hpl a ha
   ·rw[dG]at ha;subst ha;exact h
  have h2:dS (gU c ins state) c.af[i].name=qF c.af[i] (eX (iv c ins state p) c.af[i].ins):=by
   rw[gU,e1,FH hi hs (p++[i]) hpi q hql _ (by rw[tV hi hs _ hpi];simp[BD h])];rw[Au c ins state p h,adT _ hnew]
  rw[h2];congr 1;apply oD;intro s hsi
  have hs0:s∈(iv c ins state p).map (·.1):=by
   rw[tV hi hs p hpl,bn];have hu:s∈aD c:=ok.used s (by simp only[eV,mr,bn,ra];exact .inr ⟨_,bx h,hsi⟩)
   rcases Fu.1 hu with hu|⟨x,hx,rfl⟩|⟨x,hx,rfl⟩
   ·exact .inl (by simp[eM,hu])
   ·exact .inl (by simp only[eM,bn,cF];exact .inr ⟨x,hx,rfl⟩)
   ·obtain⟨j,hj,rfl⟩:=kC hx;have:=hpos.2 j ((xx h hj).2 hsi);exact .inr (cF.2 ⟨j,this,BD hj⟩)
  rw[gU,e1,gf];exact(FH hi hs p hpl ([i]++q) (fun a ha=>hlt a (by rw[he];simp at ha⊢;exact .inr ha)) s hs0).symm
theorem ab6{c:Ct}(ok:eN c)(hall:∀i<c.af.length,i∈aP c){ins state:List Bool}{f g:Bs->Bool}(hf:BU c ins state f)(hg:BU c ins state g):∀s∈aD c,f s=g s:=by
 have hlow:∀s∈eM c,f s=g s:=fun s hs=>by
  simp only[eM,bn,cF]at hs
  rcases hs with hs|⟨q,hq,rfl⟩
  ·obtain⟨i,hi,rfl⟩:=kC hs;rw[hf.Sf i hi,hg.Sf i hi]
  ·obtain⟨i,hi,rfl⟩:=kC hq;rw[hf.Ra i hi,hg.Ra i hi]
 have key:∀(q p:List Nat),aP c=p++q->(∀a∈p,∀h:a<c.af.length,f c.af[a].name=g c.af[a].name)->∀a∈p++q,∀h:a<c.af.length,f c.af[a].name=g c.af[a].name:=by
  intro q
  induction q with
  |nil=>intro p _ h;simpa using h
  |cons x q ih=>
   intro p he h
   have:=ih (p++[x]) (by simpa using he) fun a ha hal=>by
    rcases bn.1 ha with ha|ha
    ·exact h a ha hal
    ·rw[dG]at ha;subst ha;rw[hf.QJ a hal,hg.QJ a hal];congr 1;apply oD;intro s hs;have hu:s∈aD c:=ok.used s (by simp only[eV,mr,bn,ra];exact .inr ⟨_,bx hal,hs⟩)
     rcases Fu.1 hu with hu|⟨y,hy,rfl⟩|⟨y,hy,rfl⟩
     ·exact hlow s (by simp[eM,hu])
     ·exact hlow _ (by simp only[eM,bn,cF];exact .inr ⟨y,hy,rfl⟩)
     ·obtain⟨j,hj,rfl⟩:=kC hy;exact h j ((jw.1 (EH c he).1).2 j ((xx hal hj).2 hs)) hj
   simpa using this
 intro s hs
 rcases Fu.1 hs with hu|⟨y,hy,rfl⟩|⟨y,hy,rfl⟩
 ·exact hlow s (by simp[eM,hu])
 ·exact hlow _ (by simp only[eM,bn,cF];exact .inr ⟨y,hy,rfl⟩)
 ·obtain⟨j,hj,rfl⟩:=kC hy;exact key (aP c) [] rfl (by simp) j (by simpa using hall j hj) hj
def kV(c:Ct)(ins state:List Bool):List Bool:=eX (gU c ins state) c.bf
def lI(c:Ct)(ins state:List Bool):List Bool:=c.ai.map fun q=>dS (gU c ins state) q.next
theorem tU(c:Ct)(ins state:List Bool):(lI c ins state).length=c.ai.length:=by simp[lI]
theorem adJ{c:Ct}(ok:eN c){s:Bs}(h:s∈c.bf):s∈aD c:=ok.used s (by simp[eV,h])
theorem acM{c:Ct}(ok:eN c){q:Lt}(h:q∈c.ai):q.next∈aD c:=ok.used _ (by simp only[eV,bn,cF];exact .inl (.inr ⟨q,h,rfl⟩))
def fg:List Lt->List Bool->List Bool
 |[],_=>[]
 |q::r,picks=>(if q.init=2 then picks.headD false else decide (q.init=1))::fg r (if q.init=2 then picks.tail else picks)
theorem KZ:∀(l:List Lt)(p:List Bool),(fg l p).length=l.length
 |[],_=>rfl
 |q::r,p=>by rw[fg,bW,KZ r,bW]
def hY(c:Ct):Bool:=decide ((mg c).1=0)
theorem uC{c:Ct}(h:hY c=true):kR c=true/\o_ c=[]/\mg c=(0,[]):=aaN (DD h)
theorem D0(hΓ:ek Γ)(c:Ct)(hb:h_ c):aM Tryz.prog Γ v_ [bH c] (.bool (hY c)):=by
 have hC:=Na hΓ c hb;unfold hY;generalize mg c=r at*;obtain⟨e,s⟩:=r;refine .run 60 Xn (by simp) ?_;simp;refine .call 60 (by simp) hC ?_;simp;exact .back (by simp)
theorem XL(l:List Lt)(p:List Bool){i:Nat}(h:i<l.length):fg (l.drop i) p=(if l[i].init=2 then p.headD false else decide (l[i].init=1))::fg (l.drop (i+1)) (if l[i].init=2 then p.tail else p):=by
 rw[bL h,fg]
abbrev CD(c:Ct)(l:List Bool):List Ob:=[.cells (AV.cells (bH c)),.row 1 aV [] none true false,.row 1 aV (l.map .bool) none true false]
set_option maxRecDepth 8000 in
theorem af4(c:Ct)(hb:c.ai.length<2^40){k:Nat}:∀n i:Nat,i+n=c.ai.length->∀(picks:List Bool)(fl:Bool),Kd 1 k picks->picks.length<2^40->∀l:List Bool,l.length<=i->
 aw Tryz.prog Γ (yeZ (.list fl k (picks.map .bool)) (.sl 2 0 l.length) (.list false c.kL (c.ai.map nD)) (.int .i64 c.ai.length) (.int .i64 i) (CD c l) ⟨[],.norm,0,[]⟩)
  (.ret (.aB [.own 1 aV ((l++fg (c.ai.drop i) picks).map .bool),.int .i64 0])):=by
 intro n
 induction n with
 |zero=>
  intro i hi picks fl hk hp l hl
  have q1:¬i<c.ai.length:=by omega
  rw[br (by omega),fg,eS];refine .go 60 ?_;simp[q1];exact .back (by simp)
 |succ n ih=>
  intro i hi picks fl hk hp l hl
  have q1:i<c.ai.length:=by omega
  have q2:=bP (c.hL.of q1)
  have hle:((l.length:Int)+1)<=140737488355328:=by omega
  rw[XL _ _ q1]
  by_cases h2:c.ai[i].init=2
  ·rw[if_pos h2,if_pos h2]
   cases picks with
   |nil=>
    have hh:=ih (i+1) (by omega) [] fl hk hp (l++[false]) (by simp;omega);refine .go 60 ?_;simp(disch:=omega) [q1,q2,h2,hle];refine .aF ?_;simp;refine .drop 3 rfl (by simp) (by simp) (by simp) ?_;refine .reset (i:=2) rfl (by simp) (by simp) (by simp) ?_;simp[CD]at hh⊢;exact hh
   |cons p ps=>
    have hk1:=hk.of (i:=0) (by simp);subst hk1;have hh:=ih (i+1) (by omega) ps fl (.inl rfl) (by simp at hp;omega) (l++[p]) (by simp;omega);refine .go 60 ?_;simp(disch:=omega) [q1,q2,h2,hle];refine .aF ?_;simp;refine .drop 3 rfl (by simp) (by simp) (by simp) ?_;refine .reset (i:=2) rfl (by simp) (by simp) (by simp) ?_;simp[CD]at hh⊢;exact hh
  ·rw[if_neg h2,if_neg h2];have hh:=ih (i+1) (by omega) picks fl hk hp (l++[decide (c.ai[i].init=1)]) (by simp;omega);refine .go 60 ?_;simp(disch:=omega) [q1,q2,h2,hle];refine .aF ?_;simp;refine .drop 3 rfl (by simp) (by simp) (by simp) ?_;refine .reset (i:=2) rfl (by simp) (by simp) (by simp) ?_;simp[CD]at hh⊢;exact hh
set_option maxRecDepth 8000 in
theorem W1(hΓ:ek Γ)(c:Ct)(hb:h_ c)(picks:List Bool){k:Nat}(hk:Kd 1 k picks)(hp:picks.length<2^40):aM Tryz.prog Γ wg [bH c,.list false k (picks.map .bool)]
 (.aB [.own 1 aV ((if hY c=true then fg c.ai picks else[]).map .bool),.int .i64 (if hY c=true then 0 else 1)]):=by
 have hR:=D0 hΓ c hb;have b2:=hb.2.2.1;refine .run 60 W3 (by simp) ?_;simp;refine .call 60 (by simp) hR ?_
 cases ho:hY c with
 |false=>
  simp;exact .back (by simp)
 |true=>
  simp;have hh:=af4 (Γ:=Γ) c b2 c.ai.length 0 (by omega) picks false hk hp [] (by simp);refine .inLoop ?_;simp at hh⊢;exact hh
abbrev u7(x:Bs×Bool):AV×AV:=(.str x.1,.bool x.2)
@[simp] theorem Bw(n:Nat):∀l:List (Bs×Bool),fT n (l.map u7)=true
 |[]=>rfl
 |x::r=>by simp[Bw n r]
@[simp] theorem OK(n m:Nat):∀l:List (Bs×Bool),nz n m (l.map u7)=true
 |[]=>rfl
 |x::r=>by simp[OK n m r]
@[simp] theorem aBc(n:Nat)(τ:List Nat)(l:List (Bs×Bool)):mM n τ (l.map u7)=l.map u7:=F_ (Bw n l)
def gD(m:List (Bs×Bool)):Ob:=.map (m.map u7) true
def np(l:List Bool):Ob:=.row 1 aV (l.map .bool) none true false
theorem OW(s:Bs)(m:List (Bs×Bool)):ez (.sc .str) (.str s) (m.map u7)=some ((getM s m).map AV.bool):=wB nh AV.bool s m
theorem BW{h os:List Ob}{a b:Ob}:(h++a::b::os)[h.length+1]? =some b:=by simp
set_option maxRecDepth 8000 in
theorem O0(m:List (Bs×Bool))(l:List Bs){fl:Bool}{k:Nat}(hk:Kd 1 k l)(hl:l.length<2^40){j:Nat}{h:List Ob}(hj:h[j]? =some (gD m))(hw:cr h)(hv:dY h):
 ∀up,AM.Reach Tryz.prog Γ (.cl tE [.mp j,.list fl k (l.map .str)] up h) (.back up (.sl h.length 0 l.length) (h++[np (eX m l)])):=by
 intro up;have hb:=hw h.length (aT _);have hjl:j<h.length:=(cW.1 hj).1
 have hget:=fun os=>dL hj os
 have hvv:=fun m=>hv (h.length+1) m (by omega)
 have key:∀n i:Nat,i+n=l.length->AM.Reach Tryz.prog Γ (ysR (.mp j) (.sl (h.length+1) 0 i) (.list fl k (l.map .str)) (.int .i64 l.length) (.int .i64 i) (h++[.row 1 aV [] none true false,.row 1 aV ((eX m (l.take i)).map .bool) none true false]) ⟨[],.norm,h.length,up⟩)
  (.back up (.sl h.length 0 l.length) (h++[np (eX m l)])):=by
  intro n
  induction n with
  |zero=>
   intro i hi
   have q1:¬i<l.length:=by omega
   have he:i=l.length:=by omega
   subst he;rw[bR (by omega)];generalize eX m l=P at*;refine .mE h.length [1] (by simp[l_ hb,hjl]) (by decide) ?_;have hlt:(h.length+1<h.length)=False:=ie (by omega);simp[mb hb,hjl,hlt];refine .aR 60 ?_;simp[q1,np]
  |succ n ih=>
   intro i hi
   have q1:i<l.length:=by omega
   have q2:=bP (hk.of q1);have hh:=ih (i+1) (by omega)
   have e1:eX m (l.take (i+1))=eX m (l.take i)++[dS m l[i]]:=by
    rw[gG q1,eX,iT];rfl
   have hlen:(eX m (l.take i)).length=i:=by simp[eX];omega
   rw[e1]at hh;have hf:=OW l[i] m;have hlk:dS m l[i]=(match getM l[i] m with|some v=>v|none=>false):=rfl
   have hle:((i:Int)+1)<=140737488355328:=by omega
   generalize eX m (l.take i)=P at*;refine .aR 60 ?_
   cases hg:getM l[i] m with
   |none=>
    rw[hg]at hf hlk;simp at hf hlk;rw[hlk]at hh;simp(disch:=omega) [q1,q2,hget,gD,hf,isKey,bU,cz,hle,hlen];refine .aF ?_;simp;refine .lA (i:=h.length+1) BW (by simp) (by simp[hlen]) (by simp[hvv]) ?_;simp at hh⊢;exact hh
   |some v=>
    rw[hg]at hf hlk;simp at hf hlk;rw[hlk]at hh;simp(disch:=omega) [q1,q2,hget,gD,hf,isKey,bU,cz,hle,hlen];refine .aF ?_;simp;refine .lA (i:=h.length+1) BW (by simp) (by simp[hlen]) (by simp[hvv]) ?_;simp at hh⊢;exact hh
 refine .bt 60 XF ?_;simp;refine .inLoop ?_;have hh:=key l.length 0 (by omega);simp[eX]at hh⊢;exact hh
theorem PV{h os:List Ob}{a b:Ob}{f:Ob->Ob}:(h++a::b::os).modify (h.length+1) f=h++a::f b::os:=by
 induction h with
 |nil=>rfl
 |cons x h ih=>simpa using ih
theorem agh{h os:List Ob}{a b c d e:Ob}:(h++a::b::c::d::e::os)[h.length+4]? =some e:=by simp
theorem agt{h os:List Ob}{a b c d:Ob}{f:Ob->Ob}:(h++a::b::c::d::os).modify (h.length+3) f=h++a::b::c::f d::os:=by
 induction h with
 |nil=>rfl
 |cons x h ih=>simpa using ih
def fw(c:Ct)(N:List Bs)(l:List Nat):Ob:=.cells [.list false c.kI (c.aG.map .str),.list false c.kO (c.bf.map .str),.list false c.kL (c.ai.map nD),.list false c.kG (c.af.map cU),.list false 1 (N.map .str),.list false 1 (l.map iN)]
set_option maxRecDepth 8000 in
theorem OU(hΓ:ek Γ)(c:Ct)(hb:h_ c)(ho:hY c=true){h:List Ob}(hw:cr h)(hv:dY h):
 ∀up,AM.Reach Tryz.prog Γ (.cl tw [bH c] up h) (.back up (.aB [.ptr h.length 0,.int .i64 0]) (h++[fw c (aD c) (aP c)])):=by
 intro up;obtain⟨hr,hn,_⟩:=uC ho;have hbb:=hw h.length (aT _);have hR:=D0 hΓ c hb;rw[ho]at hR;have hS:=F9 hΓ c hb;rw[hn]at hS
 have hSo:uL c=aP c:=by simp[uL,hr]
 rw[hSo]at hS;have hN:=Gj (Γ:=Γ) c (rJ hb hr);generalize aP c=l at*;refine .bt 60 Kb ?_;simp;refine .jD 60 (by simp) hR ?_;simp;refine .jD 60 (by simp) hS ?_;simp;refine .trees [4] ?_;simp[PV,gI];refine .nB 0 ?_;simp;refine e_.call (by simp) hN ?_;simp;generalize aD c=N at*;refine .trans (.lH 4 agh) ?_;have htk:(N.map AV.str).take N.length=N.map AV.str:=bR (by simp);simp[k8,share,agt,gI,htk];refine .trans (.lU [1,5,9,11,12,13,16,18] _) ?_;simp[lS];refine .mE h.length [4] (by simp[l_ hbb]) (by decide) ?_;have hlt:(h.length+4<h.length)=False:=ie (by omega);simp[mb hbb,hlt];refine .aR 60 ?_;simp[fw]
theorem abn(hΓ:ek Γ)(c:Ct)(hb:h_ c)(ho:hY c=false){h:List Ob}:
 ∀up,AM.Reach Tryz.prog Γ (.cl tw [bH c] up h) (.back up (.aB [.iM,.int .i64 1]) (h++[.cells (AV.cells (bH c))])):=by
 intro up;have hR:=D0 hΓ c hb;rw[ho]at hR;refine .bt 60 Kb ?_;simp;refine .jD 60 (by simp) hR ?_;simp
set_option maxRecDepth 8000 in
theorem adh(c:Ct)(hc:bX c)(N:List Bs)(l:List Nat)(ins state:List Bool){fi fs:Bool}{ki ks:Nat}(hi2:ins.length<2^40)(hs2:state.length<2^40)(hn:¬(ins.length=c.aG.length/\state.length=c.ai.length)){j:Nat}{h:List Ob}(hj:h[j]? =some (fw c N l)):
 ∀up,AM.Reach Tryz.prog Γ (.cl oG [.ptr j 0,.list fs ks (state.map .bool),.list fi ki (ins.map .bool)] up h) (.back up (.aB [.c_,.int .i64 11]) h):=by
 intro up;have b0:=hc.1;have b2:=hc.2.2.1;have e1:((state.length:Int)=c.ai.length)=(state.length=c.ai.length):=propext (by omega);have e2:((ins.length:Int)=c.aG.length)=(ins.length=c.aG.length):=propext (by omega);have hj':=hj;unfold fw at hj';refine .bt 60 JV ?_
 by_cases h1:state.length=c.ai.length
 ·have h2:¬ins.length=c.aG.length:=fun h=>hn ⟨h,h1⟩
  simp[hj',e1,e2,h1,h2]
 ·simp[hj',e1,e2,h1]
theorem aaa(a b:List Bool){ka kb:Nat}(ha:Kd 1 ka a)(hb:Kd 1 kb b)(hl:a.length+b.length<2^40):aM Tryz.prog Γ oF [.list false 1 [.list false ka (a.map .bool),.list false kb (b.map .bool)]] (.own 1 aV ((a++b).map .bool)):=by
 by_cases h:a++b=[]
 ·rw[JA]at h;have:=Un (Γ:=Γ) [(ka,a),(kb,b)] (by simp[h]) (by simp);simpa[h,gR]using this
 ·have h2:0<(a++b).length:=pV.2 h;have:=JO (Γ:=Γ) [(ka,a),(kb,b)] (by simp[ha,hb]) (by simp) (by simp[cG];omega) (by simpa[cG]using h2);simpa[cG,gR]using this
theorem Xf{N:List Bs}(hn:N.Nodup)(v:List Bool){i:Nat}(hi:i<N.length):getM N[i] ((N.take i).zip (v.take i))=none:=by
 rw[getM_none];intro x hx he;have:=(List.of_mem_zip (a:=x.1) (b:=x.2) hx).1;obtain⟨j,hj,hje⟩:=kC this;rw[ox]at hje;have h1:=(zw (xs:=N) (i:=j) (j:=i) (h₀:=by simp at hj;omega) (h₁:=hi) hn).1 (hje.trans he)
 simp at hj;omega
theorem Wz(N:List Bs)(v:List Bool){i:Nat}(hi:i<N.length)(h2:i<v.length):(N.take (i+1)).zip (v.take (i+1))=(N.take i).zip (v.take i)++[(N[i],v[i])]:=by
 rw[gG hi,gG h2,JF (by simp;omega)];rfl
abbrev qT(h:List Ob)(m:List (Bs×Bool))(v:List Bool):List Ob:=h++[gD m,.row 1 aV (v.map .bool) none true true]
set_option maxRecDepth 8000 in
theorem agH(c:Ct)(N:List Bs)(hN:N.Nodup)(hNl:N.length<2^30)(l:List Nat)(v:List Bool)(hvN:v.length<=N.length){j:Nat}{h:List Ob}(hj:h[j]? =some (fw c N l))(hw:cr h)(hv:dY h)(up:List Fr):∀n i:Nat,i+n=v.length->
 AM.Reach Tryz.prog Γ (ysC (.ptr j 0) (.mp h.length) (.list false 1 (v.map .bool)) (.int .i64 v.length) (.int .i64 i) (qT h ((N.take i).zip (v.take i)) v) ⟨[],.norm,h.length,up⟩)
  (ysD (.ptr j 0) (.mp h.length) (qT h (N.zip v) v) ⟨[],.norm,h.length,up⟩):=by
 have hjl:j<h.length:=(cW.1 hj).1
 have hget:=fun os=>dL hj os
 unfold fw at hget;intro n
 induction n with
 |zero=>
  intro i hi
  have q1:¬i<v.length:=by omega
  have e1:(N.take i).zip (v.take i)=N.zip v:=by
   rw[bR (l:=v) (by omega)]
   conv=>rhs;rw[<-lZ i N]
   have:v=v++[]:=by simp
   conv=>rhs;rw[this]
   rw[JF (by simp;omega)];simp
  rw[e1];refine .di 60 ?_;simp[q1];exact .exit rfl rfl
 |succ n ih=>
  intro i hi
  have q1:i<v.length:=by omega
  have q3:i<N.length:=by omega
  have hh:=ih (i+1) (by omega);rw[Wz N v q3 q1]at hh;have hput:=wJ (E:=.sc .str) (e:=AV.str) nh AV.bool v[i] (Xf hN v q3);generalize(N.take i).zip (v.take i)=m at*;refine .di 60 ?_;simp(disch:=omega) [q1,q3,hget,gD,hput,isKey,bU,cz];refine .aF ?_;simp[gD,qT]at hh⊢;exact hh
set_option maxRecDepth 8000 in
theorem agy(hΓ:ek Γ)(c:Ct)(hc:bX c)(ok:eN c)(ins state:List Bool)(hi2:ins.length=c.aG.length)(hs2:state.length=c.ai.length)(v:List Bool){j:Nat}{h:List Ob}(hj:h[j]? =some (fw c (aD c) (aP c)))(hw:cr h)(hv:dY h)(up:List Fr):∀n i:Nat,i+n=(aP c).length->
 AM.Reach Tryz.prog Γ (ysz (.ptr j 0) (.mp h.length) (.list false 1 ((aP c).map iN)) (.int .i64 (aP c).length) (.int .i64 i) (qT h (iv c ins state ((aP c).take i)) v) ⟨[],.norm,h.length,up⟩)
  (ysA (.mp h.length) (qT h (gU c ins state) v) ⟨[],.norm,h.length,up⟩):=by
 have hjl:j<h.length:=(cW.1 hj).1
 have hget:=fun os=>dL hj os
 unfold fw at hget;have hlt:=oY c;have hnd:=Kz c;have hll:=EF hc;have hbb:=hw (h.length+2) (by omega);intro n
 induction n with
 |zero=>
  intro i hi
  have q1:¬i<(aP c).length:=by omega
  rw[bR (by omega),<-gU];refine .di 60 ?_;simp[q1];exact .exit rfl rfl
 |succ n ih=>
  intro i hi
  have q1:i<(aP c).length:=by omega
  have ha:=hlt _ (bx q1);have q2:=bP (c.hG.of ha);have hh:=ih (i+1) (by omega)
  have hnew:=NB ok hi2 hs2 (p:=(aP c).take i) (fun a h=>hlt a (jT h)) ha (fun hm=>by
   obtain⟨x,hx,he⟩:=kC hm;rw[ox]at he;have:=(zw (xs:=aP c) (h₀:=by simp at hx;omega) (h₁:=q1) hnd).1 he
   simp at hx;omega)
  rw[gG q1,Au c ins state _ ha]at hh
  have hput:=fun u=>wJ (E:=.sc .str) (e:=AV.str) nh AV.bool u (acB hnew)
  have hgf:=hc.2.2.2.2.1 _ (bx ha)
  have gl:((aP c).map iN)[i]? =some (.int .i64 (aP c)[i]):=by simp[q1]
  obtain⟨gl1,gl2⟩:=cW.1 gl
  have hEl:((aP c).map iN).length=(aP c).length:=by simp
  generalize iv c ins state ((aP c).take i)=m at*;generalize(aP c)[i]=a at*;have hG:=X2 hΓ c.af[a] hgf (eX m c.af[a].ins) (k:=1) .self (by simp[eX];have:=hgf.2.1;omega)
  have hP:=O0 (Γ:=Γ) m c.af[a].ins (fl:=false) c.af[a].hi (by have:=hgf.2.1;omega) (j:=h.length) (h:=qT h m v++[.cells (AV.cells (cU c.af[a])),.row 1 aE [] none true false,.row 1 aE [] none true false]) (by simp) (by
   intro n hn;simp at hn
   simp[hw n (by omega),gD]) (by
   intro n k hn;simp at hn
   simp[hv n k (by omega),gD])
  refine .di 60 ?_;simp(disch:=omega) [q1,q2,gl,gl2,hEl,ha,hget,eG];refine .QE 60 ?_;simp(disch:=omega) [q1,q2,hget]
  have hpl:(eX m c.af[a].ins).length=c.af[a].ins.length:=by simp[eX]
  simp at hP;generalize eX m c.af[a].ins=P at*;refine e_.reach (by simp) hP ?_;simp[np];have htk:(P.map AV.bool).take c.af[a].ins.length=P.map AV.bool:=bR (by simp[hpl]);refine e_.call (by simp[hpl,htk]) hG ?_;simp(disch:=omega) [gD,hput,isKey,bU,cz];refine .aF ?_;simp
  have hj2:j<h.length+2:=by omega
  have hbm:=Bw (h.length+2) (m++[(c.af[a].name,qF c.af[a] P)]);rw[iT,cd,lp]at hbm;refine .jz (h.length+2) (by simp;rfl) (by simp) (by simp[hj2]) (by simp[hbb];exact hbm) ?_;simp[gD,qT]at hh⊢;exact hh
set_option maxRecDepth 8000 in
theorem afd(hΓ:ek Γ)(c:Ct)(hc:bX c)(ok:eN c)(ins state:List Bool)(hi2:ins.length=c.aG.length)(hs2:state.length=c.ai.length){fi fs:Bool}{ki ks:Nat}(hki:Kd 1 ki ins)(hks:Kd 1 ks state){j:Nat}{h:List Ob}(hj:h[j]? =some (fw c (aD c) (aP c)))(hw:cr h)(hv:dY h):
 ∀up,AM.Reach Tryz.prog Γ (.cl oG [.ptr j 0,.list fs ks (state.map .bool),.list fi ki (ins.map .bool)] up h) (.back up (.aB [.mp h.length,.int .i64 0]) (h++[gD (gU c ins state)])):=by
 intro up;have b0:=hc.1;have b2:=hc.2.2.1;have hnl:=OQ hc;have e1:((state.length:Int)=c.ai.length)=True:=bP (by omega);have e2:((ins.length:Int)=c.aG.length)=True:=bP (by omega);have hjl:j<h.length:=(cW.1 hj).1
 have hget:=fun os=>dL hj os
 have hj':=hj;unfold fw at hj' hget;have hbb:=hw (h.length+1) (by omega);have hC:=aaa (Γ:=Γ) ins state hki hks (by omega)
 have hvN:(ins++state).length<=(aD c).length:=by simp[aD];omega
 have h9:=agH (Γ:=Γ) c (aD c) ok.nodup (by omega) (aP c) (ins++state) hvN hj hw hv up (ins++state).length 0 (by omega);have h1:=agy hΓ c hc ok ins state hi2 hs2 (ins++state) hj hw hv up (aP c).length 0 (by omega)
 have hz:(aD c).zip (ins++state)=iv c ins state []:=by
  have e:ins++state=(ins++state)++[]:=by simp
  rw[iv,List.foldl_nil,xP,aD,e,<-eM,JF (by rw[wL];simp;omega)];simp
 rw[Dv]at h9 h1;rw[hz]at h9;simp only[Dv,List.zip_nil_right]at h9
 have hvl:(ins++state).length=ins.length+state.length:=by simp
 generalize iv c ins state []=m0 at*;generalize gU c ins state=m1 at*;generalize aP c=l at*;generalize aD c=N at*;refine .bt 60 JV ?_;simp[hj',e1,e2];generalize ins++state=v at*;refine .jD 60 (by simp) hC ?_;simp;refine .trees [38] ?_;simp[PV,gI];refine .inLoop ?_;simp[gD,qT]at h9 h1⊢;refine .trans h9 ?_;refine .aR 60 ?_;simp[hget];refine .inLoop ?_;simp;refine .trans h1 ?_;refine .jz (h.length+1) (by simp;rfl) (by simp) (by simp) (by simp[hbb]) ?_;refine .aR 60 ?_;simp
structure Md where
 g:Gr
 aG:List Bs
 ai:List Bs
 bf:List Bs
 kI:Nat
 kL:Nat
 kO:Nat
 hI:Kd 1 kI aG
 hL:Kd 1 kL ai
 hO:Kd 1 kO bf
abbrev pL(m:Md):AV:=.agg [.int .i64 m.g.ins,.list false m.g.kn (m.g.next.map i64),.list false m.g.ki (m.g.init.map i64),.list false m.g.ka (m.g.ands.map df),.list false m.g.ko (m.g.outs.map i64),
 .list false m.kI (m.aG.map .str),.list false m.kL (m.ai.map .str),.list false m.kO (m.bf.map .str)]
def k_:Md:=⟨fD,[],[],[],0,0,0,.nil,.nil,.nil⟩
def sH(m:List (Bs×Nat))(s:Bs):Nat:=match getM s m with
 |some v=>v
 |none=>0
def dd(m:List (Bs×Nat))(l:List Bs):List Nat:=l.map (sH m)
def gN(n:Nat):List Nat:=(List.range n).map fun i=>2*(i+1)
def dN(c:Ct):Gr:=⟨c.aG.length,List.replicate c.ai.length 0,c.ai.map (·.init),[],[],1,1,0,0,.self,.self,.nil,.nil⟩
def oa(c:Ct):List Nat->Gr->List Nat->Gr×Option (List Nat)
 |[],x,v=>(x,some v)
 |a::r,x,v=>match c.af[a]? with
  |none=>(x,none)
  |some g=>iq (nk x g (dd ((aD c).zip v) g.ins)) fun y d=>oa c r y (v.set (c.aG.length+c.ai.length+a) d)
def oc(c:Ct):Gr×Option (List Nat):=oa c (aP c) (dN c) (gN (aD c).length)
def eb(c:Ct)(y:Gr)(v:List Nat):Gr:={y with
 next:=(dd ((aD c).zip v) (c.ai.map (·.next))).map fun n:Nat=>(n:Int),kn:=1,hn:=.self
 outs:=(dd ((aD c).zip v) c.bf).map fun n:Nat=>(n:Int),ko:=1,ho:=.self}
def qt(c:Ct)(y:Gr)(v:List Nat):Md:=⟨(eb c y v).normal,c.aG,c.ai.map (·.name),c.bf,1,1,1,.self,.self,.self⟩
def mn(c:Ct):Md×Int×Bs:=
 if(mg c).1=0 then(match(oc c).2 with
  |none=>(k_,8,[])
  |some v=>(qt c (oc c).1 v,0,[]))else(k_,mg c)
abbrev uY(r:Md×Int×Bs):AV:=.aB [pL r.1,.int .i64 r.2.1,.str r.2.2]
theorem _root_.Go.AM.Reach.aeL{P:Program}{f:FuncId}{args:List AV}{up:List Fr}{h:List Ob}{v:AV}(J:List Ob)(hw:cr h)(hv:aI h.length v=true)(h1:AM.Reach P Γ (.cl f args up h) (.back up v (h++J))):AM.Reach P Γ (.cl f args up h) (.back up v h):=by
 have:=AM.Reach.leave h1 hv (by rw[vF rfl];exact hw _ (aT _));rwa[vF rfl]at this
def P9(m:List (Bs×Nat)):Ob:=.map (m.map g_) true
theorem adP(s:Bs)(m:List (Bs×Nat)):ez (.sc .str) (.str s) (m.map g_)=some ((getM s m).map iN):=wB nh iN s m
theorem aeW{h os:List Ob}{a b:Ob}{f:Ob->Ob}:(h++a::b::os).modify (h.length+1) f=h++a::f b::os:=by
 induction h with
 |nil=>rfl
 |cons x h ih=>simpa using ih
set_option maxRecDepth 8000 in
theorem GA(m:List (Bs×Nat))(l:List Bs){fl:Bool}{k:Nat}(hk:Kd 1 k l)(hl:l.length<2^40){j q:Nat}{h:List Ob}(hj:h[j]? =some (.cells [.mp q]))(hq:h[q]? =some (P9 m))(hw:cr h)(hv:dY h):
 ∀up,AM.Reach Tryz.prog Γ (.cl oI [.list fl k (l.map .str),.ptr j 0] up h) (.back up (.list false 1 ((dd m l).map iN)) h):=by
 intro up;have hb:=hw h.length (aT _)
 have hget:=fun os=>dL hj os
 have hget2:=fun os=>dL hq os
 unfold P9 at hget2
 have hvv:=fun m=>hv (h.length+1) m (by omega)
 have key:∀n i:Nat,i+n=l.length->AM.Reach Tryz.prog Γ (ygW (.ptr j 0) (.sl (h.length+1) 0 i) (.list fl k (l.map .str)) (.int .i64 l.length) (.int .i64 i) (h++[.row 1 aq [] none true false,.row 1 aq ((dd m (l.take i)).map iN) none true false]) ⟨[],.norm,h.length,up⟩)
  (.back up (.list false 1 ((dd m l).map iN)) (h++[.row 1 aq [] none true false,.row 1 aq ((dd m l).map iN) none true true])):=by
  intro n
  induction n with
  |zero=>
   intro i hi
   have q1:¬i<l.length:=by omega
   have he:i=l.length:=by omega
   subst he;rw[bR (by omega)]
   have hlen:(dd m l).length=l.length:=by simp[dd]
   have htk:((dd m l).map iN).take l.length=(dd m l).map iN:=bR (by simp[hlen]);generalize dd m l=P at*;refine .di 60 ?_;simp[q1];refine .trans (.exit rfl rfl) ?_;refine .trees [4] ?_;simp[aeW,gI];refine .aR 60 ?_;simp[htk,hlen]
  |succ n ih=>
   intro i hi
   have q1:i<l.length:=by omega
   have q2:=bP (hk.of q1);have hh:=ih (i+1) (by omega)
   have e1:dd m (l.take (i+1))=dd m (l.take i)++[sH m l[i]]:=by
    rw[gG q1,dd,iT];rfl
   have hlen:(dd m (l.take i)).length=i:=by simp[dd];omega
   rw[e1]at hh;have hf:=adP l[i] m;have hlk:sH m l[i]=(match getM l[i] m with|some v=>v|none=>0):=rfl
   have hle:((i:Int)+1)<=140737488355328:=by omega
   generalize dd m (l.take i)=P at*;refine .aR 60 ?_
   cases hg:getM l[i] m with
   |none=>
    rw[hg]at hf hlk;simp at hf hlk;rw[hlk]at hh;simp(disch:=omega) [q1,q2,hget,hget2,hf,isKey,bU,cz,hle,hlen];refine .aF ?_;simp;refine .lA (i:=h.length+1) BW (by simp) (by simp[hlen]) (by simp[hvv]) ?_;simp at hh⊢;exact hh
   |some v=>
    rw[hg]at hf hlk;simp at hf hlk;rw[hlk]at hh;simp(disch:=omega) [q1,q2,hget,hget2,hf,isKey,bU,cz,hle,hlen];refine .aF ?_;simp;refine .lA (i:=h.length+1) BW (by simp) (by simp[hlen]) (by simp[hvv]) ?_;simp at hh⊢;exact hh
 refine .aeL [.row 1 aq [] none true false,.row 1 aq ((dd m l).map iN) none true true] hw (by simp) ?_;refine .bt 60 VV ?_;simp;refine .inLoop ?_;have hh:=key l.length 0 (by omega);simp[dd]at hh⊢;exact hh
abbrev mdC(c:Ct)(L:AV):Ob:=.cells [.int .i64 0,.list true 0 [],.list true 0 [],.list true 0 [],.list true 0 [],.list false 1 (c.aG.map .str),L,.list false 1 (c.bf.map .str)]
abbrev hA(c:Ct)(L:AV)(B:Ob)(m:List (Bs×Nat)):List Ob:=[.cells (AV.cells (bH c)),mdC c L,.row 1 aq [] none true false,.row 1 aq [] none true false,.row 2 cP [] none true false,.row 1 aq [] none true false,.row 1 aE [] none true false,.row 1 aE [] none true false,.row 1 aE [] none true false,
 .cells [.int .i64 0],.cells [.str []],B,.map (m.map g_) true,.cells [.mp 12]]
abbrev sI:Cx:=⟨[.call zU [.ptr 1 0,.ptr 9 0,.ptr 10 0]],.norm,0,[]⟩
@[simp] theorem az8(n k:Nat)(z:Int):aK n (List.replicate k (.int .i64 z))=true:=by
 induction k with
 |zero=>rfl
 |succ k ih=>simp[lh,ih]
@[simp] theorem azH(i m k:Nat)(z:Int):c8 i m (List.replicate k (.int .i64 z))=true:=by
 induction k with
 |zero=>rfl
 |succ k ih=>simp[lh,ih]
theorem wS(n:Nat):(gN n).length=n:=by simp[gN]
theorem Wg(N:List Bs)(v:List Nat){i:Nat}(hi:i<N.length)(h2:i<v.length):(N.take (i+1)).zip (v.take (i+1))=(N.take i).zip (v.take i)++[(N[i],v[i])]:=by
 rw[gG hi,gG h2,JF (by simp;omega)];rfl
theorem Wx{N:List Bs}(hn:N.Nodup)(v:List Nat){i:Nat}(hi:i<N.length):getM N[i] ((N.take i).zip (v.take i))=none:=by
 rw[getM_none];intro x hx he;have:=(List.of_mem_zip (a:=x.1) (b:=x.2) hx).1;obtain⟨j,hj,hje⟩:=kC this;rw[ox]at hje;have h1:=(zw (xs:=N) (i:=j) (j:=i) (h₀:=by simp at hj;omega) (h₁:=hi) hn).1 (hje.trans he)
 simp at hj;omega
set_option maxRecDepth 8000 in
theorem af1(c:Ct)(N:List Bs)(hN:N.Nodup)(hNl:N.length<2^20)(L:AV)(B:Ob)(hB:gC 14 B=true)(hL:aI 14 L=true){o:Out}
 (hc:aw Tryz.prog Γ (ycw (.ptr 0 0) (.ptr 1 0) (.ptr 9 0) (.ptr 10 0) (.ptr 11 0) (.ptr 13 0) (hA c L B (N.zip (gN N.length))) sI) o):∀n i:Nat,i+n=N.length->
 aw Tryz.prog Γ (ycv (.ptr 0 0) (.ptr 1 0) (.ptr 9 0) (.ptr 10 0) (.ptr 11 0) (.ptr 13 0) (.list false 1 (N.map .str)) (.int .i64 N.length) (.int .i64 i) (hA c L B ((N.take i).zip ((gN N.length).take i))) sI) o:=by
 intro n
 induction n with
 |zero=>
  intro i hi
  have q1:¬i<N.length:=by omega
  rw[bR (by omega),bR (by rw[wS];omega)];refine .di 60 ?_;simp[q1];exact .reach (.exit rfl rfl) hc
 |succ n ih=>
  intro i hi
  have q1:i<N.length:=by omega
  have hh:=ih (i+1) (by omega)
  have hv:(gN N.length)[i]'(by rw[wS];exact q1)=2*(i+1):=by simp[gN]
  rw[Wg N _ q1 (by rw[wS];exact q1),hv]at hh
  have hput:ir (.sc .str) (.str N[i]) (.int .i64 (2*((i:Int)+1))) (((N.take i).zip ((gN N.length).take i)).map g_)=some (((N.take i).zip ((gN N.length).take i)).map g_++[(.str N[i],.int .i64 (2*((i:Int)+1)))]):=by
   have:=wJ (E:=.sc .str) (e:=AV.str) nh iN (2*(i+1)) (Wx hN (gN N.length) q1);rw[iT]at this;rw[show AV.int .i64 (2*((i:Int)+1))=iN (2*(i+1)) by simp[iN]];exact this
  generalize(N.take i).zip ((gN N.length).take i)=m at*;refine .di 60 ?_;simp(disch:=omega) [q1,hput,isKey,bU,cz];refine .aF ?_;simp[hA]at hh⊢;exact hh
abbrev hB(c:Ct)(m:List (Bs×Nat))(i:Nat):List Ob:=hA c (.sl 15 0 i) (.cells [.int .i64 c.aG.length,.list false 1 (List.replicate c.ai.length (.int .i64 0)),.sl 16 0 i,.list false 0 [],.list false 0 []]) m++
 [.row 1 aE ((c.ai.take i).map fun q=>.str q.next) none true false,.row 1 aE ((c.ai.take i).map fun q=>.str q.name) none true false,.row 1 aq ((c.ai.take i).map fun q=>.int .i64 q.init) none true false]
set_option maxRecDepth 8000 in
theorem af9(c:Ct)(hcf:bX c)(m:List (Bs×Nat)){o:Out}
 (hc:aw Tryz.prog Γ (yct (.ptr 0 0) (.ptr 1 0) (.ptr 9 0) (.ptr 10 0) (.ptr 11 0) (.ptr 13 0) (.fn (.func oI) [] [.ptr 13 0]) (.sl 14 0 c.ai.length) (hB c m c.ai.length) sI) o):∀n i:Nat,i+n=c.ai.length->
 aw Tryz.prog Γ (ycs (.ptr 0 0) (.ptr 1 0) (.ptr 9 0) (.ptr 10 0) (.ptr 11 0) (.ptr 13 0) (.fn (.func oI) [] [.ptr 13 0]) (.sl 14 0 i) (.list false c.kL (c.ai.map nD)) (.int .i64 c.ai.length) (.int .i64 i) (hB c m i) sI) o:=by
 have b2:=hcf.2.2.1;intro n
 induction n with
 |zero=>
  intro i hi
  have q1:¬i<c.ai.length:=by omega
  have he:i=c.ai.length:=by omega
  subst he;refine .di 60 ?_;simp[q1]at hc⊢;exact .reach (.exit rfl rfl) hc
 |succ n ih=>
  intro i hi
  have q1:i<c.ai.length:=by omega
  have q2:=bP (c.hL.of q1);have hh:=ih (i+1) (by omega)
  have hle:((i:Int)+1)<=140737488355328:=by omega
  have e:c.ai.take (i+1)=c.ai.take i++[c.ai[i]]:=gG q1;simp only[hB,e,iT]at hh⊢
  have hlen:(c.ai.take i).length=i:=by simp;omega
  generalize c.ai.take i=P at*;refine .di 60 ?_;simp(disch:=omega) [q1,q2,hlen,hle];refine .dr 60 ?_;simp(disch:=omega) [q1,q2,hlen,hle];refine .aF ?_;simp;have hbm:=nX 17 m
  have hvm:=fun i k=>pg i k m
  refine .drop 17 rfl (by simp) (by simp) (by simp[hbm]) ?_;refine .reset (i:=14) rfl (by simp) (by simp[hlen]) (by simp[hvm]) ?_;refine .reset (i:=15) rfl (by simp) (by simp[hlen]) (by simp[hlen,hvm]) ?_;refine .reset (i:=16) rfl (by simp) (by simp[hlen]) (by simp[hlen,hvm]) ?_;simp[hA]at hh⊢;exact hh
theorem MY(d:Nat):∀(N:List Bs)(v:List Nat)(j:Nat)(hn:N.Nodup)(hj:j<N.length),v.length=N.length->ir (.sc .str) (.str N[j]) (iN d) ((N.zip v).map g_)=some ((N.zip (v.set j d)).map g_)
 |[],v,j,hn,hj,hv=>by simp at hj
 |s::N,[],j,hn,hj,hv=>by simp at hv
 |s::N,a::v,0,hn,hj,hv=>by simp[ir,nh]
 |s::N,a::v,j+1,hn,hj,hv=>by
  rw[l5]at hn
  have hj':j<N.length:=by simpa using hj
  have ih:=MY d N v j hn.2 hj' (by simpa using hv)
  have hne:¬N[j]=s:=fun e=>hn.1 (by rw[<-e];exact bx hj')
  simp only[sX,Ju,cd,ir,nh,hne,mY,ih,dv,pO]
def qJ(c:Ct)(p:List Nat)(k:Nat):Prop:=k<c.aG.length+c.ai.length\/∃j∈p,k=c.aG.length+c.ai.length+j
def sy(c:Ct)(x:Gr)(v:List Nat)(p:List Nat):Prop:=∀k(hk:k<v.length),qJ c p k->v[k]<x.lits
theorem sg:∀(N:List Bs)(v:List Nat)(k:Nat)(hn:N.Nodup)(hk:k<N.length)(hv:v.length=N.length),sH (N.zip v) N[k]=v[k]'(by omega)
 |[],v,k,hn,hk,hv=>by simp at hk
 |s::N,[],k,hn,hk,hv=>by simp at hv
 |s::N,a::v,0,hn,hk,hv=>by simp[sH,getM]
 |s::N,a::v,k+1,hn,hk,hv=>by
  rw[l5]at hn
  have hk':k<N.length:=by simpa using hk
  have ih:=sg N v k hn.2 hk' (by simpa using hv)
  have hne:¬N[k]=s:=fun e=>hn.1 (by rw[<-e];exact bx hk')
  simp only[sH,Ju,sX,getM,hne,db]at ih⊢;exact ih
theorem Gx(c:Ct){a:Nat}(ha:a<c.af.length):∃h:c.aG.length+c.ai.length+a<(aD c).length,(aD c)[c.aG.length+c.ai.length+a]=c.af[a].name:=by
 have h:c.aG.length+c.ai.length+a<(aD c).length:=by simp[aD];try omega
 refine⟨h,?_⟩
 have:(aD c)[c.aG.length+c.ai.length+a]? =some c.af[a].name:=by
  rw[aD,dF (by simp),vu]
  rw[show c.aG.length+c.ai.length+a-(c.aG++c.ai.map (·.name)).length=a by simp,bm ha];rfl
 exact(cW.1 this).2
theorem wW(c:Ct):(aD c).length=c.aG.length+c.ai.length+c.af.length:=by simp[aD,nF]
theorem ML{c:Ct}(ok:eN c){i:Nat}(hi:i<(aP c).length){s:Bs}(hs:s∈(c.af[(aP c)[i]]'(oY c _ (bx hi))).ins):∃k,∃hk:k<(aD c).length,(aD c)[k]=s/\qJ c ((aP c).take i) k:=by
 have ha:=oY c _ (bx hi)
 have hu:s∈eV c:=by
  simp only[eV,mr,bn,ra];exact .inr ⟨_,bx ha,hs⟩
 obtain⟨k,hk,he⟩:=kC (ok.used s hu);refine⟨k,hk,he,?_⟩
 by_cases h1:k<c.aG.length+c.ai.length
 ·exact .inl h1
 ·have hl:=wW c
  have hj:k-(c.aG.length+c.ai.length)<c.af.length:=by omega
  obtain⟨h2,h3⟩:=Gx c hj;refine .inr ⟨k-(c.aG.length+c.ai.length),acs c hi ((xx ha hj).2 ?_),by omega⟩;rw[<-h3]
  have e:c.aG.length+c.ai.length+(k-(c.aG.length+c.ai.length))=k:=by omega
  simp only[e,he];exact hs
theorem xg{c:Ct}{x:Gr}{v p:List Nat}(hn:(aD c).Nodup)(hv:v.length=(aD c).length)(h:sy c x v p){l:List Bs}(hl:∀s∈l,∃k,∃hk:k<(aD c).length,(aD c)[k]=s/\qJ c p k):∀a∈dd ((aD c).zip v) l,a<x.lits:=by
 intro a ha;obtain⟨s,hs,rfl⟩:=cF.1 ha;obtain⟨k,hk,rfl,hc⟩:=hl s hs;rw[sg _ _ k hn hk hv];exact h k (by omega) hc
theorem sy.step{c:Ct}{x y:Gr}{v p:List Nat}(h:sy c x v p)(hxy:x.lits<=y.lits){a d:Nat}(hd:d<y.lits):sy c y (v.set (c.aG.length+c.ai.length+a) d) (p++[a]):=by
 intro k hk hc;rw[List.getElem_set]
 split
 ·exact hd
 ·rename_i hne;refine kv (h k (by simpa using hk) ?_) hxy
  rcases hc with hc|⟨j,hj,rfl⟩
  ·exact .inl hc
  ·rcases bn.1 hj with hj|hj
   ·exact .inr ⟨j,hj,rfl⟩
   ·simp only[dG]at hj;subst hj;exact absurd rfl hne
theorem oQ(m:List (Bs×Nat))(l:List Bs):(dd m l).length=l.length:=by simp[dd]
abbrev O3(c:Ct):AV:=.list false 1 ((c.ai.map (·.name)).map .str)
abbrev hM(c:Ct)(x:Gr)(v:List Nat):List Ob:=hA c (O3 c) (cE x) ((aD c).zip v)
theorem PF(c:Ct)(x:Gr)(v:List Nat)(os:List Ob)(hos:∀m,14+os.length<=m->cI m os=true):cr (hM c x v++os):=fun m hm=>by
 have h1:=nX m ((aD c).zip v);simp at hm;have h2:=hos m (by omega);simp[h1,h2];omega
theorem PC(c:Ct)(x:Gr)(v:List Nat)(os:List Ob)(hos:∀i m,14+os.length<=i->cJ i m os=true):dY (hM c x v++os):=fun i m hi=>by
 have h1:=pg i m ((aD c).zip v);simp at hi;have h2:=hos i m (by omega);simp[h1,h2]
 try omega
def Cg(c:Ct)(r:Gr×Option (List Nat)):Md×Int×Bs:=match r.2 with
 |none=>(k_,8,[])
 |some v=>(qt c r.1 v,0,[])
theorem aca{c:Ct}(hc:bX c){y:Gr}(ok:y.Ok)(v:List Nat):(eb c y v).iy:=by
 have f:=ok.iy;have b1:=hc.2.1;have b2:=hc.2.2.1;refine⟨?_,f.2.1,f.2.2.1,?_⟩
 ·simp[eb,oQ];omega
 ·simp[eb,oQ];omega
set_option maxRecDepth 8000 in
theorem agU(c:Ct)(hc:bX c)(y:Gr)(ok:y.Ok)(v:List Nat):
 aw Tryz.prog Γ (ycq (.ptr 0 0) (.ptr 1 0) (.ptr 9 0) (.ptr 10 0) (.ptr 11 0) (.fn (.func oI) [] [.ptr 13 0]) (.list false 1 ((c.ai.map (·.next)).map .str)) (hM c y v) sI) (.ret (uY (qt c y v,0,[]))):=by
 have b1:=hc.2.1;have b2:=hc.2.2.1;have hw:=PF c y v [] (by simp);have hv:=PC c y v [] (by simp);rw[eS]at hw hv;have h1:=GA (Γ:=Γ) ((aD c).zip v) (c.ai.map (·.next)) (fl:=false) (k:=1) .self (by simp;omega) (j:=13) (q:=12) (h:=hM c y v) rfl rfl hw hv;have h2:=GA (Γ:=Γ) ((aD c).zip v) c.bf (fl:=false) c.hO (by omega) (j:=13) (q:=12) (h:=hM c y v) rfl rfl hw hv;have hN:=Xj (Γ:=Γ) (eb c y v) (aca hc ok v)
 have hG:eP (eb c y v)=.agg [.int .i64 y.ins,.list false 1 ((dd ((aD c).zip v) (c.ai.map (·.next))).map iN),.list false y.ki (y.init.map i64),.list false y.ka (y.ands.map df),.list false 1 ((dd ((aD c).zip v) c.bf).map iN)]:=by
  simp[eb,eP,zx]
 rw[hG]at hN;unfold qt;generalize(eb c y v).normal=NG at*;generalize(eb c y v).check=CH at*;clear hG;generalize dd ((aD c).zip v) (c.ai.map (·.next))=A1 at*;generalize dd ((aD c).zip v) c.bf=A2 at*;simp only[iz]at h1;refine .go 9 ?_;simp;refine .dr 60 ?_;simp;refine e_.reach (by simp) h1 ?_;simp;refine e_.reach (by simp) h2 ?_;simp;refine .call 60 (by simp) hN ?_;simp;exact .back (by simp)
theorem Mb(c:Ct){a:Nat}(ha:a<c.af.length)(r:List Nat)(x:Gr)(v:List Nat):oa c (a::r) x v=iq (nk x c.af[a] (dd ((aD c).zip v) c.af[a].ins)) fun y d=>oa c r y (v.set (c.aG.length+c.ai.length+a) d):=by
 rw[oa,bm ha]
abbrev Io(c:Ct)(x:Gr)(v:List Nat)(g:Gt):List Ob:=hM c x v++[.cells (AV.cells (cU g)),.row 1 aE [] none true false,.row 1 aE [] none true false]
set_option maxRecDepth 8000 in
theorem ag0(hΩ:uV Γ)(c:Ct)(hc:bX c)(okc:eN c)(hN:(aD c).Nodup):∀n i:Nat,i+n=(aP c).length->∀(x:Gr)(v:List Nat),x.Ok->v.length=(aD c).length->sy c x v ((aP c).take i)->
 aw Tryz.prog Γ (ycp (.ptr 0 0) (.ptr 1 0) (.ptr 9 0) (.ptr 10 0) (.ptr 11 0) (.ptr 13 0) (.fn (.func oI) [] [.ptr 13 0]) (.list false 1 ((c.ai.map (·.next)).map .str)) (.list false 1 ((aP c).map iN)) (.int .i64 (aP c).length) (.int .i64 i) (hM c x v) sI) (.ret (uY (Cg c (oa c ((aP c).drop i) x v)))):=by
 have hll:=EF hc;intro n
 induction n with
 |zero=>
  intro i hi x v ok hv hvl
  have q1:¬i<(aP c).length:=by omega
  have hE:=agU (Γ:=Γ) c hc x ok v;rw[br (by omega),oa,Cg];simp only[iz]at hE⊢;refine .di 60 ?_;simp[q1];exact .reach (.exit rfl rfl) hE
 |succ n ih=>
  intro i hi x v ok hv hvl
  have q1:i<(aP c).length:=by omega
  have ha:=oY c _ (bx q1);have q2:=bP (c.hG.of ha);have hgf:=hc.2.2.2.2.1 _ (bx ha);have hgb:=okc.af _ (bx ha);have ih:=ih (i+1) (by omega);have hlt:=xg hN hv hvl (l:=c.af[(aP c)[i]].ins) (fun s hs=>ML okc q1 hs);have hst:(aP c).take (i+1)=(aP c).take i++[(aP c)[i]]:=gG q1;rw[bL q1,Mb c ha];obtain⟨hna,hnm⟩:=Gx c ha
  have hput:=fun d=>MY d (aD c) v _ hN hna hv
  rw[hnm]at hput
  have gl:((aP c).map iN)[i]? =some (.int .i64 (aP c)[i]):=by simp[q1]
  obtain⟨gl1,gl2⟩:=cW.1 gl
  have hEl:((aP c).map iN).length=(aP c).length:=by simp
  generalize(aP c)[i]=a at*;have hw:=PF c x v [.cells (AV.cells (cU c.af[a])),.row 1 aE [] none true false,.row 1 aE [] none true false] (by intro m hm;simp);have hwv:=PC c x v [.cells (AV.cells (cU c.af[a])),.row 1 aE [] none true false,.row 1 aE [] none true false] (by intro m k hm;simp);have h1:=GA (Γ:=Γ) ((aD c).zip v) c.af[a].ins (fl:=false) c.af[a].hi (by have:=hgf.2.1;omega) (j:=13) (q:=12) (h:=Io c x v c.af[a]) rfl rfl hw hwv;have hll2:=oQ ((aD c).zip v) c.af[a].ins;have hg:=ac7 (Γ:=Γ) hΩ c.af[a] hgb hgf (dd ((aD c).zip v) c.af[a].ins) hll2 (ki:=1) .self x (i:=11) (h:=Io c x v c.af[a]) rfl hw hwv ok hlt;have hfi:=Le ok c.af[a] hlt;generalize dd ((aD c).zip v) c.af[a].ins=K at*;simp only[iz]at ih h1 hg⊢;refine .di 60 ?_
  simp(disch:=omega) [q1,q2,gl,gl2,hEl,ha]
  cases h9:nk x c.af[a] K with
  |mk y r=>
   rw[h9]at hg hfi
   cases r with
   |none=>
    simp only[cO,iq,Cg]at hg⊢
    obtain⟨D,hD1,hD2⟩:∃D,(∀its t,slot t 2=.ptr 1 0->slot t 3=.ptr 9 0->slot t 4=.ptr 10 0->AM.Reach Tryz.prog Γ (.cl vP [.ptr 11 0,cU c.af[a],.list false 1 (K.map iN)] (⟨.run,kD,its,t,sI.ds,.norm,0⟩::[]) (Io c x v c.af[a])) D)/\aw Tryz.prog Γ D (.ret (uY (k_,8,[]))):=by
     refine⟨?_,fun its t t2 t3 t4=>.j8 90 hg ?_,?_⟩
     rotate_left
     ·simp[t2,t3,t4];exact .refl _
     ·exact .back (by simp[k_,fD])
    refine .reach (.PS (D:=D) ?_) hD2;simp;refine e_.reach (by simp) h1 ?_;simp;refine e_.die (.int .i64 0) (by simp) (fun its t hk=>hD1 its t (hk 2 (by simp)) (hk 3 (by simp)) (hk 4 (by simp))) ?_;have hput0:ir (.sc .str) (.str c.af[a].name) (.int .i64 0) _=_:=hput 0;simp[hput0,isKey,bU,cz];exact .of (by simp)
   |some d=>
    have hd:=hfi.2 d rfl;have hh:=ih y (v.set (c.aG.length+c.ai.length+a) d) hfi.1.ok (by simpa using hv) (by rw[hst];exact hvl.step hfi.1.lits hd);simp only[cO,iq]at hg⊢;refine .dr 60 ?_;simp;refine e_.reach (by simp) h1 ?_;simp;refine e_.reach (by simp) hg ?_;simp(disch:=omega) [hput,isKey,bU,cz];refine .aF ?_;simp;have hbm:=nX 14 ((aD c).zip (v.set (c.aG.length+c.ai.length+a) d));refine .drop 14 rfl (by simp) (by simp) (by simp[hbm]) ?_;simp at hh⊢;exact hh
theorem NT{c:Ct}(hc:bX c)(ok:eN c):(dN c).Ok:=by
 have h0:=ok.lV;simp only[jg,jV,jr]at h0;refine⟨⟨by simp[dN],by simp[dN];omega⟩,by simp[dN];omega,by simp[dN],by simp[dN],fun a ha=>?_,fun a ha=>?_,fun a ha=>by simp[dN]at ha,fun i hi=>by simp[dN]at hi⟩
 ·simp only[dN,cF]at ha;obtain⟨q,hq,rfl⟩:=ha;have:=ok.init q hq;simpa[me]using this
 ·simp only[dN,T1]at ha;obtain⟨_,rfl⟩:=ha;have:=w9 (dN c);omega
theorem Ni{c:Ct}(hc:bX c):sy c (dN c) (gN (aD c).length) []:=by
 intro k hk h
 rcases h with h|⟨j,hj,_⟩
 ·have e:(gN (aD c).length)[k]=2*(k+1):=by simp[gN]
  rw[e];simp only[Gr.lits,Gr.all,Gr.first,dN,gb,pW,du];omega
 ·cases hj
set_option maxRecDepth 8000 in
theorem FR(hΓ:ek Γ)(hΩ:uV Γ)(c:Ct)(hb:h_ c):aM Tryz.prog Γ kD [bH c] (uY (mn c)):=by
 have hC:=Na hΓ c hb;refine .run 60 WK (by simp) ?_;unfold mn
 by_cases h0:(mg c).1=0
 ·rw[if_pos h0];simp;refine .call 60 (by simp) hC ?_;simp[h0]
  have hok:hY c=true:=by unfold hY;simp[h0]
  obtain⟨hr,hn,_⟩:=uC hok;obtain⟨ok,_⟩:=w6 hr;have hc:=rJ hb hr;have b0:=hc.1;have b1:=hc.2.1;have b2:=hc.2.2.1;have hCI:=s7 (Γ:=Γ) c.aG c.hI (by omega);have hCO:=s7 (Γ:=Γ) c.bf c.hO (by omega);have hN:=Gj (Γ:=Γ) c hc;have hS:=F9 hΓ c hb
  have hSo:uL c=aP c:=by simp[uL,hr]
  rw[hSo]at hS;have hnl:=OQ hc
  have hnd:(aD c).Nodup:=by
   have:=Aq ok;simpa[aD,eM]using this
  have h3:=ag0 (Γ:=Γ) hΩ c hc ok hnd (aP c).length 0 (by omega) (dN c) (gN (aD c).length) (NT hc ok) (wS _) (Ni hc);refine .dr 60 ?_;simp(disch:=omega);refine .dr 60 ?_;simp(disch:=omega);refine e_.call (by simp) hCI ?_;simp(disch:=omega);refine e_.call (by simp) hCO ?_;simp(disch:=omega);refine .call 60 (by simp) hN ?_;simp;refine .trees [50] ?_;simp[gI];refine .inLoop ?_;simp;refine .lH 5 (i:=1) rfl ?_;simp;refine .lH 7 (i:=1) rfl ?_;simp;refine .lH 1 (i:=12) rfl ?_;simp;refine .gc 11 [1,4,5] (by simp) (by decide) ?_;simp;refine af1 c (aD c) hnd (by omega) (.list true 0 []) (.cells [.int .i64 c.aG.length,.list false 1 (List.replicate c.ai.length (.int .i64 0)),.list true 0 [],.list true 0 [],.list true 0 []]) (by simp) (by simp) ?_ (aD c).length 0 (by omega);refine .go 12 ?_;simp
  refine .qm 1 6 1 aE rfl rfl (by omega) ?_;simp;refine .qm 11 2 1 aq rfl rfl (by omega) ?_;simp;refine .lH 3 (i:=11) rfl ?_;simp;refine .lH 4 (i:=11) rfl ?_;simp;refine .go 60 ?_;simp;refine .inLoop ?_;simp;refine af9 c hc ((aD c).zip (gN (aD c).length)) ?_ c.ai.length 0 (by omega);refine .go 60 ?_;simp;refine .call 60 (by simp) hS ?_;simp;refine .trees [12,102] ?_;simp[gI];refine .lH 6 (i:=1) rfl ?_;simp[gI];refine .lH 2 (i:=11) rfl ?_;simp[gI];refine .inLoop ?_;simp;have hbm:=nX 14 ((aD c).zip (gN (aD c).length));refine .drop 14 rfl (by simp) (by simp) (by simp[hbm]) ?_;unfold oc;rw[eT]at h3;generalize oa c (aP c) (dN c) (gN (aD c).length)=R at h3⊢;simp[dN,zx,Cg,O3,hM,hA,cE]at h3⊢;exact h3
 ·rw[if_neg h0];simp;refine .call 60 (by simp) hC ?_;simp[h0];exact .back (by simp[k_,fD])
theorem K3(a b:List Bs){ka kb:Nat}(ha:Kd 1 ka a)(hb:Kd 1 kb b)(hl:a.length+b.length<2^40):aM Tryz.prog Γ m3 [.list false 1 [.list false ka (a.map .str),.list false kb (b.map .str)]] (.own 1 aE ((a++b).map .str)):=by
 by_cases h:a++b=[]
 ·rw[JA]at h;have:=JH (Γ:=Γ) [(ka,a),(kb,b)] (by simp[h]) (by simp);simpa[h,nr]using this
 ·have h2:0<(a++b).length:=pV.2 h;have:=JJ (Γ:=Γ) [(ka,a),(kb,b)] (by simp[ha,hb]) (by simp) (by simp[cp];omega) (by simpa[cp]using h2);simpa[cp,nr]using this
theorem afI(l:List Bs):iu Tryz.prog Γ (fun _=>True) z1 [] AV.str (fun s=>!jd s) l:=by
 refine⟨by simp,fun s hs up h _=>?_⟩;refine .bt 60 Ww ?_;simp;refine .jD 60 (by simp) (OY s) ?_;simp
theorem Gk(l:List Bs){k:Nat}(hk:Kd 1 k l)(hl:l.length<2^40):aM Tryz.prog Γ tG [.list false k (l.map .str)] (.bool (bu (fun s=>!jd s) l)):=by
 refine .run 60 XW (by simp) ?_;simp;refine .aX 60 (vT (Γ:=Γ) (fl:=false) (afI l) hk (by omega) (h:=[]) trivial) ?_;simp;exact .back (by simp)
def u5(l:List Bs):Bool:=(i_ l).isSome
theorem agc(l:List Bs){k:Nat}(hk:Kd 1 k l)(hl:l.length<2^40):∀n i:Nat,i+n=l.length->∀seen:List Bs,
 aw Tryz.prog Γ (ykk (.mp 0) (.list false k (l.map .str)) (.int .i64 l.length) (.int .i64 i) [.map (seen.map jG) true]) (.ret (.bool (ng seen (l.drop i)).isSome)):=by
 intro n
 induction n with
 |zero=>
  intro i hi seen
  have q1:¬i<l.length:=by omega
  rw[br (by omega),ng];refine .go 60 ?_;simp[q1];exact .back (by simp)
 |succ n ih=>
  intro i hi seen
  have q1:i<l.length:=by omega
  have q2:=bP (hk.of q1);have hf:=wx l[i] seen;rw[bL q1,ng];refine .go 60 ?_
  by_cases hm:l[i]∈seen
  ·simp[hm]at hf;simp[q1,q2,hf,hm,isKey,bU,cz];exact .back (by simp)
  ·have hh:=ih (i+1) (by omega) (seen++[l[i]]);have hput:=Am (v:=.bool true) hm;simp[hm]at hf;simp(disch:=omega) [q1,q2,hf,hm,hput,isKey,bU,cz];refine .aF ?_;simp at hh⊢;exact hh
theorem Mu(l:List Bs){k:Nat}(hk:Kd 1 k l)(hl:l.length<2^40):aM Tryz.prog Γ tp [.list false k (l.map .str)] (.bool (u5 l)):=by
 refine .run 60 Wo (by simp) ?_;simp;refine .inLoop ?_;have hh:=agc (Γ:=Γ) l hk hl l.length 0 (by omega) [];simp[u5,i_]at hh⊢;exact hh
def nZ(m:Md)(s:Bs):Int:=if jh s (m.aG++m.ai) 0<0 then-1 else jh s (m.aG++m.ai) 0+1
theorem FX(s:Bs):∀(l:List Bs)(i:Nat),jh s l i<(i+l.length:Nat)
 |[],i=>by simp[jh];omega
 |a::l,i=>by
  rw[jh];have:=FX s l (i+1)
  split
  ·simp;omega
  ·simp at this⊢;omega
theorem FO(s:Bs):∀(l:List Bs)(i:Nat),-1<=jh s l i
 |[],i=>by simp[jh]
 |a::l,i=>by
  rw[jh];have:=FO s l (i+1)
  split<;>omega
theorem Fl(m:Md)(s:Bs)(hI:m.aG.length<2^30)(hL:m.ai.length<2^30):aM Tryz.prog Γ tq [pL m,.str s] (.int .i64 (nZ m s)):=by
 have h1:=K3 (Γ:=Γ) m.aG m.ai m.hI m.hL (by omega);have h2:=Ms (Γ:=Γ) (m.aG++m.ai) s (k:=1) .self (by simp;omega);have h3:=FX s (m.aG++m.ai) 0;have h4:=FO s (m.aG++m.ai) 0;simp only[bQ]at h3;unfold nZ;generalize jh s (m.aG++m.ai) 0=n at*;refine .run 60 Wu (by simp) ?_;simp;refine .call 60 (by simp) h1 ?_;simp;have htk:(m.aG.map AV.str++m.ai.map AV.str).take (m.aG.length+m.ai.length)=m.aG.map AV.str++m.ai.map AV.str:=bR (by simp);refine .call 60 (by simp[htk]) h2 ?_
 by_cases h:n<0
 ·simp[h];exact .back (by simp)
 ·simp(disch:=omega) [h];exact .back (by simp)
def BQ(a b:Md):Bool:=xv a.g b.g&&(decide (a.aG=b.aG)&&(decide (a.ai=b.ai)&&decide (a.bf=b.bf)))
def xZ(m:Md):Prop:=m.g.iy/\m.aG.length<2^30/\m.ai.length<2^30/\m.bf.length<2^30
theorem OL(a b:Md)(ha:xZ a):aM Tryz.prog Γ wc [pL a,pL b] (.bool (BQ a b)):=by
 obtain⟨f,f1,f2,f3⟩:=ha;have h0:=KQ (Γ:=Γ) a.g b.g f;have h1:=DG (Γ:=Γ) a.aG b.aG a.hI b.hI (by omega);have h2:=DG (Γ:=Γ) a.ai b.ai a.hL b.hL (by omega);have h3:=DG (Γ:=Γ) a.bf b.bf a.hO b.hO (by omega);unfold BQ;generalize xv a.g b.g=s0 at*;refine .run 60 Xa (by simp) ?_;simp;refine .call 60 (by simp) h0 ?_
 cases s0
 ·simp;exact .back (by simp)
 ·simp;refine .call 60 (by simp) h1 ?_
  by_cases c1:a.aG=b.aG
  ·simp[c1];refine .call 60 (by simp) h2 ?_
   by_cases c2:a.ai=b.ai
   ·simp[c2];refine .call 60 (by simp) h3 ?_;simp;exact .back (by simp)
   ·simp[c2];exact .back (by simp)
  ·simp[c1];exact .back (by simp)
def xR(m:Md):List Bs->List Int->Bool
 |s::l,a::r=>(decide (0<=nZ m s)&&!decide (a=2*nZ m s))||xR m l r
 |_,_=>false
def pz(m:Md):Bool:=!decide ((m.aG.length:Int)=m.g.ins)||(!decide (m.ai.length=m.g.next.length)||!decide (m.bf.length=m.g.outs.length))
def Qc(m:Md):Bool:=bu (fun s=>!jd s) m.aG||(bu (fun s=>!jd s) m.ai||bu (fun s=>!jd s) m.bf)
def BP(m:Md):Int:=if m.g.check≠0 then m.g.check else if pz m=true then 1 else if Qc m=true then 4 else if(u5 (m.aG++m.ai)||u5 m.bf)=true then 5 else if xR m m.bf m.g.outs=true then 5 else 0
theorem XK(m:Md)(s:Bs):-1<=nZ m s/\nZ m s<=m.aG.length+m.ai.length:=by
 have h3:=FX s (m.aG++m.ai) 0;have h4:=FO s (m.aG++m.ai) 0;simp only[bQ]at h3;unfold nZ
 split<;>omega
set_option maxRecDepth 8000 in
theorem af8(m:Md)(hI:m.aG.length<2^30)(hL:m.ai.length<2^30)(hO:m.bf.length=m.g.outs.length)(hl:m.g.outs.length<2^30):∀n i:Nat,i+n=m.bf.length->
 aw Tryz.prog Γ (ydL (.ptr 0 0) (.list false m.kO (m.bf.map .str)) (.int .i64 m.bf.length) (.int .i64 i) [.cells (AV.cells (pL m))]) (.ret (.int .i64 (if xR m (m.bf.drop i) (m.g.outs.drop i)=true then 5 else 0))):=by
 intro n
 induction n with
 |zero=>
  intro i hi
  have q1:¬i<m.bf.length:=by omega
  rw[br (by omega),xR]
  ·refine .go 60 ?_;simp[q1];exact .back (by simp)
  ·intro s l a r h;cases h
 |succ n ih=>
  intro i hi
  have q1:i<m.bf.length:=by omega
  have q3:i<m.g.outs.length:=by omega
  have q2:=bP (m.hO.of q1);have q4:=bP (m.g.ho.of q3);have hh:=ih (i+1) (by omega);have hP:=Fl (Γ:=Γ) m m.bf[i] hI hL;obtain⟨hp1,hp2⟩:=XK m m.bf[i];rw[bL q1,bL q3,xR];generalize nZ m m.bf[i]=p at*;refine .go 60 ?_;simp[q1,q2];refine .call 60 (by simp) hP ?_
  by_cases c1:0<=p
  ·by_cases c2:m.g.outs[i]=2*p
   ·simp(disch:=omega) [c1,c2,q3,q4];refine .aF ?_;simp[c1,c2]at hh⊢;refine .drop 1 rfl (by simp) (by simp) (by simp) ?_;exact hh
   ·simp(disch:=omega) [c1,c2,q3,q4];exact .back (by simp)
  ·simp(disch:=omega) [c1];refine .aF ?_;simp[c1]at hh⊢;refine .drop 1 rfl (by simp) (by simp) (by simp) ?_;exact hh
set_option maxRecDepth 8000 in
theorem M9(m:Md)(hb:xZ m):aM Tryz.prog Γ tr [pL m] (.int .i64 (BP m)):=by
 obtain⟨f,f1,f2,f3⟩:=hb;obtain⟨g1,g2,g3,g4⟩:=f;have h0:=rB (Γ:=Γ) m.g ⟨g1,g2,g3,g4⟩;have o1:=Gk (Γ:=Γ) m.aG m.hI (by omega);have o2:=Gk (Γ:=Γ) m.ai m.hL (by omega);have o3:=Gk (Γ:=Γ) m.bf m.hO (by omega);have cc:=K3 (Γ:=Γ) m.aG m.ai m.hI m.hL (by omega);have t1:=Mu (Γ:=Γ) (m.aG++m.ai) (k:=1) .self (by simp;omega);have t2:=Mu (Γ:=Γ) m.bf m.hO (by omega);unfold BP;refine .run 60 Wm (by simp) ?_;simp;refine .call 60 (by simp) h0 ?_
 by_cases c0:m.g.check=0
 ·by_cases l1:(m.aG.length:Int)=m.g.ins
  ·by_cases l2:m.ai.length=m.g.next.length
   ·by_cases l3:m.bf.length=m.g.outs.length
    ·have hf:=af8 (Γ:=Γ) m f1 f2 l3 (by omega) m.bf.length 0 (by omega)
     have hlm:pz m=false:=by simp[pz,l1,l2,l3]
     simp[c0,l1,l2,l3,hlm];refine .call 60 (by simp) o1 ?_;unfold Qc
     cases bu (fun s=>!jd s) m.aG
     ·simp;refine .call 60 (by simp) o2 ?_
      cases bu (fun s=>!jd s) m.ai
      ·simp;refine .call 60 (by simp) o3 ?_
       cases bu (fun s=>!jd s) m.bf
       ·simp;refine .call 60 (by simp) cc ?_;have htk:(m.aG.map AV.str++m.ai.map AV.str).take (m.aG.length+m.ai.length)=m.aG.map AV.str++m.ai.map AV.str:=bR (by simp);simp;refine .call 60 (by simp[htk]) t1 ?_
        cases u5 (m.aG++m.ai)
        ·simp;refine .call 60 (by simp) t2 ?_
         cases u5 m.bf
         ·simp;refine .inLoop ?_;simp at hf⊢;refine .drop 1 rfl (by simp) (by simp) (by simp) ?_;exact hf
         ·simp;exact .back (by simp)
        ·simp;exact .back (by simp)
       ·simp;exact .back (by simp)
      ·simp;exact .back (by simp)
     ·simp;exact .back (by simp)
    ·have hlm:pz m=true:=by simp[pz,l3]
     simp[c0,l1,l2,l3,hlm];exact .back (by simp)
   ·have hlm:pz m=true:=by simp[pz,l2]
    simp[c0,l1,l2,hlm];exact .back (by simp)
  ·have hlm:pz m=true:=by simp[pz,l1]
   simp[c0,l1,hlm];exact .back (by simp)
 ·simp[c0];exact .back (by simp)
end Go.Proofs.YtihmomicdpkabaaGreatDoor
namespace Go.Proofs.YtihmomicdpkabaaGreatDoor
open Go.AM Go.Proofs
theorem acg{first:Nat}{l:List (Int×Int)}{p q:Nat}(h1:2<=q)(h2:q<p)(h3:p/2≠q/2)(h4:(((p:Nat):Int),((q:Nat):Int))∉l):
 bN first l p q=(l++[((p:Int),(q:Int))],2*(first+l.length)):=by
 unfold bN;rw[Nat.max_eq_left (by omega),Nat.min_eq_right (by omega)]
 have hk:kY p q=none:=by
  unfold kY;have hx:=oV p;rw[if_neg,if_neg]
  ·omega
  ·rw[not_or];refine⟨by omega,?_⟩
   rw[hx];split<;>omega
 rw[hk,E6.2 h4]
theorem Lc{α:Type}{l:List α}(h:l.Nodup){i:Nat}(hi:i<l.length):l[i]∉l.take i:=by
 intro hm
 have h2:(l.take i++l.drop i).Nodup:=by rw[lZ];exact h
 exact(sY.1 h2).2.2 _ hm _ (by rw[bL hi];exact pZ) rfl
theorem nS(v:List Bool)(k n:Nat):(v.set k true).getD n false=true↔v.getD n false=true\/(n=k/\k<v.length):=by
 rw[bp,bp,nH]
 by_cases h:k=n
 ·subst h
  by_cases h2:k<v.length
  ·simp[h2]
  ·simp[h2]
 ·have h3:¬n=k:=fun e=>h e.symm
  simp[h,h3]
theorem EI:∀(l:List Int)(v:List Bool)(n:Nat),(il l v).getD n false=true↔v.getD n false=true\/(n<v.length/\∃a∈l,a.toNat/2=n)
 |[],v,n=>by simp[il]
 |a::l,v,n=>by
  rw[il,EI l,nS,jn];constructor
  ·rintro((h|⟨rfl,h⟩)|⟨h,b,hb,e⟩)
   ·exact .inl h
   ·exact .inr ⟨h,a,by simp,rfl⟩
   ·exact .inr ⟨h,b,by simp[hb],e⟩
  ·rintro(h|⟨h,b,hb,e⟩)
   ·exact .inl (.inl h)
   ·rcases bw.1 hb with rfl|hb
    ·exact .inl (.inr ⟨e.symm,by omega⟩)
    ·exact .inr ⟨h,b,hb,e⟩
theorem OE{ands:List (Int×Int)}{first:Nat}(P:Nat->Prop):∀(i:Nat)(v:List Bool),(∀n,v.getD n false=true->P n)->
 (∀j,j<i->P (first+j)->P ((ands.getD j (0,0)).1.toNat/2)/\P ((ands.getD j (0,0)).2.toNat/2))->∀n,(iI ands first i v).getD n false=true->P n
 |0,v,hv,_=>hv
 |i+1,v,hv,hs=>by
  rw[iI];refine OE P i _ (fun n hn=>?_) (fun j hj=>hs j (by omega))
  split at hn
  ·rename_i h;have:=hs i (by omega) (hv _ h);rw[nS,nS]at hn
   rcases hn with(hn|⟨rfl,_⟩)|⟨rfl,_⟩
   ·exact hv n hn
   ·exact this.1
   ·exact this.2
  ·exact hv n hn
theorem Ak{ands:List (Int×Int)}{first:Nat}:∀(i:Nat)(v:List Bool)(n:Nat),v.getD n false=true->(iI ands first i v).getD n false=true
 |0,v,n,h=>h
 |i+1,v,n,h=>by
  rw[iI];refine Ak i _ n ?_
  split
  ·rw[nS,nS];exact .inl (.inl h)
  ·exact h
theorem K2{ands:List (Int×Int)}{first:Nat}:∀(i:Nat)(v:List Bool)(n:Nat),first+i<=n+1->(∀j,j<i->(ands.getD j (0,0)).1.toNat/2<first+j/\(ands.getD j (0,0)).2.toNat/2<first+j)->
 ((iI ands first i v).getD n false=true↔v.getD n false=true)
 |0,v,n,_,_=>mZ
 |i+1,v,n,h,hw=>by
  have h0:=hw i (by omega);rw[iI,K2 i _ n (by omega) (fun j hj=>hw j (by omega))]
  split
  ·rw[nS,nS];constructor
   ·rintro((h2|⟨e,_⟩)|⟨e,_⟩)
    ·exact h2
    ·omega
    ·omega
   ·exact fun h2=>.inl (.inl h2)
  ·exact mZ
theorem Kc{ands:List (Int×Int)}{first:Nat}:∀(i:Nat)(v:List Bool),(∀j,j<i->(ands.getD j (0,0)).1.toNat/2<first+j/\(ands.getD j (0,0)).2.toNat/2<first+j)->first+i<=v.length->
 ∀j,j<i->(iI ands first i v).getD (first+j) false=true->(iI ands first i v).getD ((ands.getD j (0,0)).1.toNat/2) false=true/\(iI ands first i v).getD ((ands.getD j (0,0)).2.toNat/2) false=true
 |0,v,_,_=>fun j hj=>by omega
 |i+1,v,hw,hl=>by
  intro j hj;have h0:=hw i (by omega);rw[iI]
  by_cases hji:j<i
  ·exact Kc i _ (fun j hj=>hw j (by omega)) (by split<;>(try simp only[jn])<;>omega) j hji
  ·have e:j=i:=by omega
   subst e;rw[K2 j _ (first+j) (by omega) (fun j hj=>hw j (by omega))];intro h
   split at h
   ·rename_i h2;rw[if_pos h2];refine⟨Ak _ _ _ ?_,Ak _ _ _ ?_⟩
    ·rw[nS,nS];exact .inl (.inr ⟨rfl,by omega⟩)
    ·rw[nS];exact .inr ⟨rfl,by rw[jn];omega⟩
   ·rename_i h2;exact absurd h h2
theorem Bj{l:List (Int×Int)}{i:Nat}(h:i<l.length):l.getD i (0,0)=l[i]:=by
 rw[bp,bm h];rfl
theorem Gr.Ok.half{g:Gr}(ok:g.Ok):∀j,j<g.ands.length->(g.ands.getD j (0,0)).1.toNat/2<g.first+j/\(g.ands.getD j (0,0)).2.toNat/2<g.first+j:=by
 intro j hj;have:=ok.ands j hj;rw[Bj hj];omega
theorem FL{g:Gr}(ok:g.Ok){a:Int}(h:a∈g.next++g.outs):g.bl.getD (a.toNat/2) false=true:=by
 unfold Gr.bl;refine Ak _ _ _ ((EI _ _ _).2 (.inr ⟨?_,a,h,rfl⟩));have hl:g.lits=2*g.all:=rfl;rw[pW]
 rcases bn.1 h with h|h
 ·have:=ok.next a h;omega
 ·have:=ok.outs a h;omega
theorem As{g:Gr}(ok:g.Ok){i:Nat}(hi:i<g.ands.length)(h:g.bl.getD (g.first+i) false=true):g.bl.getD (g.ands[i].1.toNat/2) false=true/\g.bl.getD (g.ands[i].2.toNat/2) false=true:=by
 have:=Kc (ands:=g.ands) (first:=g.first) g.ands.length (il (g.next++g.outs) (List.replicate g.all false)) ok.half (by rw[wO,pW];exact aT _) i hi h;rw[Bj hi]at this;exact this
theorem ac5{g:Gr}(P:Nat->Prop)(h1:∀a∈g.next++g.outs,P (a.toNat/2))(h2:∀i(hi:i<g.ands.length),P (g.first+i)->P (g.ands[i].1.toNat/2)/\P (g.ands[i].2.toNat/2)):
 ∀n,g.bl.getD n false=true->P n:=by
 refine OE P _ _ (fun n hn=>?_) (fun j hj=>?_)
 ·rcases(EI _ _ _).1 hn with h|⟨_,a,ha,rfl⟩
  ·rw[bp,Jx]at h
   split at h<;>simp at h
  ·exact h1 a ha
 ·rw[Bj hj];exact h2 j hj
theorem BL{to:List Nat}{a:Nat}(h:to.getD (a/2) 0%2=0):bE to a=to.getD (a/2) 0+a%2:=by
 unfold bE
 rcases(show a%2=0\/a%2=1 by omega)with h2|h2
 ·rw[h2,DA];rfl
 ·rw[h2,oV,if_pos h]
theorem Nw(to:List Nat)(a:Nat):bE to a/2=to.getD (a/2) 0/2:=by
 unfold bE
 rcases(show a%2=0\/a%2=1 by omega)with h2|h2
 ·rw[h2,DA]
 ·rw[h2,oV];split<;>omega
theorem l8{to:List Nat}{c n:Nat}(h:n<to.length):(to++[c]).getD n 0=to.getD n 0:=by
 rw[bp,bp,cV h]
theorem AU{to:List Nat}{c n:Nat}(h:n=to.length):(to++[c]).getD n 0=c:=by
 subst h
 rw[bp];simp
theorem ub{to:List Nat}{c a:Nat}(h:a/2<to.length):bE (to++[c]) a=bE to a:=by
 unfold bE;rw[l8 h]
section
variable(first:Nat)(bl:List Bool)(ands:List (Int×Int))
def Live(n:Nat):Prop:=n<first\/bl.getD n false=true
abbrev k7(to:List Nat)(p:Int×Int):Int×Int:=((bE to p.1.toNat:Nat),(bE to p.2.toNat:Nat))
structure iO(i:Nat)(l:List (Int×Int))(to:List Nat):Prop where
 len:to.length=first+i
 low:∀n,n<first->to.getD n 0=2*n
 at_:∀k(hk:k<ands.length),k<i->bl.getD (first+k) false=true->∃j,j<l.length/\to.getD (first+k) 0=2*(first+j)/\l[j]? =some (k7 to ands[k])
 B7:∀j,j<l.length->∃k,k<i/\bl.getD (first+k) false=true/\to.getD (first+k) 0=2*(first+j)
 mono:∀m n,m<n->n<first+i->Live first bl m->Live first bl n->to.getD m 0<to.getD n 0
variable{first bl ands}
theorem iO.ev{i:Nat}{l:List (Int×Int)}{to:List Nat}(h:iO first bl ands i l to)(hi:i<=ands.length){n:Nat}(hn:n<first+i)(hl:Live first bl n):to.getD n 0%2=0/\to.getD n 0<2*(first+l.length):=by
 by_cases h1:n<first
 ·rw[h.low n h1];omega
 ·rcases hl with h2|h2
  ·omega
  ·obtain⟨j,hj,e,_⟩:=h.at_ (n-first) (by omega) (by omega) (by rw[show first+(n-first)=n by omega];exact h2);rw[show first+(n-first)=n by omega]at e;omega
theorem iO.inj{i:Nat}{l:List (Int×Int)}{to:List Nat}(h:iO first bl ands i l to)(hi:i<=ands.length){a b:Nat}(ha:a/2<first+i)(hb:b/2<first+i)(la:Live first bl (a/2))(lb:Live first bl (b/2))(e:bE to a=bE to b):a=b:=by
 have e1:=h.ev hi ha la;have e2:=h.ev hi hb lb;rw[BL e1.1,BL e2.1]at e
 rcases Jn (a/2) (b/2)with h1|h1|h1
 ·have:=h.mono _ _ h1 hb la lb;omega
 ·omega
 ·have:=h.mono _ _ h1 ha lb la;omega
structure xK(first:Nat)(bl:List Bool)(ands:List (Int×Int)):Prop where
 h1:1<=first
 s:iK first ands
 c:∀i(hi:i<ands.length),bl.getD (first+i) false=true->bl.getD (ands[i].1.toNat/2) false=true/\bl.getD (ands[i].2.toNat/2) false=true
theorem iO.new{i:Nat}{l:List (Int×Int)}{to:List Nat}(L:xK first bl ands)(h:iO first bl ands i l to)(hi:i<ands.length)(hl:bl.getD (first+i) false=true):
 bN first l (bE to ands[i].1.toNat) (bE to ands[i].2.toNat)=(l++[k7 to ands[i]],2*(first+l.length))/\ands[i].1.toNat/2<first+i/\ands[i].2.toNat/2<first+i:=by
 obtain⟨p,q,e,s1,s2,s3,s4⟩:=L.s.at_ i hi;obtain⟨c1,c2⟩:=L.c i hi hl
 have hp:ands[i].1.toNat=p:=by rw[e];rfl
 have hq:ands[i].2.toNat=q:=by rw[e];rfl
 unfold k7
 rw[hp]at c1;rw[hq]at c2;rw[hp,hq]
 have e1:=h.ev (by omega) (n:=p/2) (by omega) (.inr c1);have e2:=h.ev (by omega) (n:=q/2) (by omega) (.inr c2);have m1:=h.mono (q/2) (p/2) (by omega) (by omega) (.inr c2) (.inr c1);have m0:=h.mono 0 (q/2) (by omega) (by omega) (.inl (by have:=L.h1;omega)) (.inr c2);have b1:=BL e1.1;have b2:=BL e2.1;refine⟨acg (by omega) (by omega) (by omega) ?_,by omega,by omega⟩;intro hm;obtain⟨j,hj,ej⟩:=List.mem_iff_getElem.1 hm;obtain⟨k,hk,lk,tk⟩:=h.B7 j hj;obtain⟨j2,hj2,tj2,ej2⟩:=h.at_ k (by omega) hk lk
 have hjj:j2=j:=by omega
 subst hjj;rw[bm hj2,ej]at ej2;simp only[k7,ak,bT]at ej2;obtain⟨p2,q2,e',t1,t2,t3,t4⟩:=L.s.at_ k (by omega);obtain⟨d1,d2⟩:=L.c k (by omega) lk;rw[e']at ej2 d1 d2;simp only[gb]at ej2 d1 d2;have x1:=h.inj (by omega) (a:=p) (b:=p2) (by omega) (by omega) (.inr c1) (.inr d1) (by omega);have x2:=h.inj (by omega) (a:=q) (b:=q2) (by omega) (by omega) (.inr c2) (.inr d2) (by omega);subst x1 x2;exact Lc L.s.nd hi (List.mem_iff_getElem.2 ⟨k,by rw[fI];omega,by rw[ox,e',e]⟩)
theorem iO.push{i:Nat}{l:List (Int×Int)}{to:List Nat}(L:xK first bl ands)(h:iO first bl ands i l to)(hi:i<ands.length)(hl:bl.getD (first+i) false=true):
 iO first bl ands (i+1) (l++[k7 to ands[i]]) (to++[2*(first+l.length)]):=by
 obtain⟨_,n1,n2⟩:=h.new L hi hl;have hlen:=h.len;refine⟨by simp;omega,fun n hn=>by rw[l8 (by omega)];exact h.low n hn,fun k hk hki lk=>?_,fun j hj=>?_,fun m n hmn hn lm ln=>?_⟩
 ·by_cases hk2:k<i
  ·obtain⟨j,hj,e1,e2⟩:=h.at_ k hk hk2 lk;obtain⟨p2,q2,e',t1,t2,t3,t4⟩:=L.s.at_ k hk;refine⟨j,by simp;omega,by rw[l8 (by omega)];exact e1,?_⟩;rw[cV hj,e2];unfold k7;rw[e'];simp only[gb];rw[ub (by omega),ub (by omega)]
  ·have e:k=i:=by omega
   subst e;refine⟨l.length,by simp,AU (by omega),?_⟩;unfold k7;rw[ub (by omega),ub (by omega)];simp
 ·by_cases hj2:j<l.length
  ·obtain⟨k,hk,lk,e⟩:=h.B7 j hj2;exact⟨k,by omega,lk,by rw[l8 (by omega)];exact e⟩
  ·have e:j=l.length:=by simp at hj;omega
   subst e;exact⟨i,by omega,hl,AU (by omega)⟩
 ·rw[l8 (n:=m) (by omega)]
  by_cases hn2:n<first+i
  ·rw[l8 (by omega)];exact h.mono m n hmn hn2 lm ln
  ·rw[AU (by omega)];exact(h.ev (by omega) (by omega) lm).2
theorem iO.skip{i:Nat}{l:List (Int×Int)}{to:List Nat}(L:xK first bl ands)(h:iO first bl ands i l to)(hi:i<ands.length)(hl:¬bl.getD (first+i) false=true)(c:Nat):iO first bl ands (i+1) l (to++[c]):=by
 have hlen:=h.len;refine⟨by simp;omega,fun n hn=>by rw[l8 (by omega)];exact h.low n hn,fun k hk hki lk=>?_,fun j hj=>?_,fun m n hmn hn lm ln=>?_⟩
 ·have hk2:k<i:=by
   rcases lj k i with h3|h3
   ·exact h3
   ·have e:k=i:=by omega
    subst e;exact absurd lk hl
  obtain⟨j,hj,e1,e2⟩:=h.at_ k hk hk2 lk;obtain⟨p2,q2,e',t1,t2,t3,t4⟩:=L.s.at_ k hk;refine⟨j,hj,by rw[l8 (by omega)];exact e1,?_⟩;rw[e2];unfold k7;rw[e'];simp only[gb];rw[ub (by omega),ub (by omega)]
 ·obtain⟨k,hk,lk,e⟩:=h.B7 j hj;exact⟨k,by omega,lk,by rw[l8 (by omega)];exact e⟩
 ·have hn2:n<first+i:=by
   rcases lj n (first+i)with h3|h3
   ·exact h3
   ·have e:n=first+i:=by omega
    subst e
    rcases ln with h4|h4
    ·omega
    ·exact absurd h4 hl
  rw[l8 (n:=m) (by omega),l8 (by omega)];exact h.mono m n hmn hn2 lm ln
theorem iO.zero:iO first bl ands 0 [] (ids first):=by
 have hg:∀n,n<first->(ids first).getD n 0=2*n:=fun n hn=>by
  rw[bp,bm (by simpa using hn)];simp[ids]
 refine⟨by simp,hg,fun k hk h=>by omega,fun j hj=>by simp at hj,fun m n hmn hn _ _=>?_⟩
 rw[hg m (by omega),hg n (by omega)];omega
theorem Fb(L:xK first bl ands):∀n i l to,i+n=ands.length->iO first bl ands i l to->iO first bl ands ands.length (ef first bl (ands.drop i) i l to).1 (ef first bl (ands.drop i) i l to).2
 |0,i,l,to,hi,h=>by
  have:i=ands.length:=by omega
  subst this
  rw[List.drop_length,ef];exact h
 |n+1,i,l,to,hi,h=>by
  have h1:i<ands.length:=by omega
  rw[bL h1,ef]
  split
  ·rename_i hl;rw[(h.new L h1 hl).1];exact Fb L n (i+1) _ _ (by omega) (h.push L h1 hl)
  ·rename_i hl;exact Fb L n (i+1) _ _ (by omega) (h.skip L h1 hl 0)
end
theorem Gr.afY{x:Gr}(ok:x.Ok)(s:iK x.first x.ands):xK x.first x.bl x.ands:=⟨by unfold Gr.first;omega,s,fun i hi h=>As ok hi h⟩
theorem Gr.P7{x:Gr}(ok:x.Ok)(s:iK x.first x.ands):iO x.first x.bl x.ands x.ands.length (ef x.first x.bl x.ands 0 [] (ids x.first)).1 (ef x.first x.bl x.ands 0 [] (ids x.first)).2:=by
 have:=Fb (Gr.afY ok s) x.ands.length 0 [] (ids x.first) (by omega) iO.zero;rw[eT]at this;exact this
theorem wM(g:Gr)(r:List (Int×Int)×List Nat):(g.dE r).first=g.first:=by simp[Gr.first,Gr.dE]
theorem adw{g:Gr}{r:List (Int×Int)×List Nat}{a:Int}(h:a∈g.next++g.outs):((bE r.2 a.toNat:Nat):Int)∈(g.dE r).next++(g.dE r).outs:=by
 simp only[Gr.dE,bn,cF,eB]at h⊢
 rcases h with h|h
 ·exact .inl ⟨_,⟨a,h,rfl⟩,rfl⟩
 ·exact .inr ⟨_,⟨a,h,rfl⟩,rfl⟩
theorem ab9{x:Gr}(ok:x.Ok)(s:iK x.first x.ands):∀j,j<x.dO.ands.length->x.dO.bl.getD (x.first+j) false=true:=by
 have I:=Gr.P7 ok s;have qS:=(Bu ok).1
 have key:∀n,x.bl.getD n false=true->x.bl.getD n false=true/\x.dO.bl.getD ((ef x.first x.bl x.ands 0 [] (ids x.first)).2.getD n 0/2) false=true:=by
  refine ac5 _ (fun a ha=>⟨FL ok ha,?_⟩) (fun i hi h=>?_)
  ·have:=FL qS (adw (r:=ef x.first x.bl x.ands 0 [] (ids x.first)) ha);rw[gb,Nw]at this;exact this
  ·obtain⟨h1,h2⟩:=h;obtain⟨j,hj,e1,e2⟩:=I.at_ i hi hi h1;have hc:=As ok hi h1;have hj2:j<x.dO.ands.length:=hj
   have e3:x.dO.ands[j]=k7 (ef x.first x.bl x.ands 0 [] (ids x.first)).2 x.ands[i]:=by
    have:x.dO.ands[j]? =some (k7 (ef x.first x.bl x.ands 0 [] (ids x.first)).2 x.ands[i]):=e2;rw[bm hj2]at this;exact Option.some.inj this
   rw[e1,show 2*(x.first+j)/2=x.first+j by omega]at h2;have h4:=As qS hj2 (by rw[show x.dO.first=x.first from wM _ _];exact h2);rw[e3]at h4;simp only[k7,gb,Nw]at h4;exact⟨⟨hc.1,h4.1⟩,hc.2,h4.2⟩
 intro j hj;obtain⟨k,hk,lk,e⟩:=I.B7 j hj;have:=(key _ lk).2;rw[e,show 2*(x.first+j)/2=x.first+j by omega]at this;exact this
theorem Z6{g:Gr}(ok:g.Ok)(s:iK g.first g.ands)(h:∀i,i<g.ands.length->g.bl.getD (g.first+i) false=true):g.strict=true:=by
 simp only[Gr.strict,av,bj,ju];refine⟨Gr.uc ok,m9.2 fun i hi=>?_⟩;have hi:=ew.1 hi;obtain⟨p,q,e,s1,s2,s3,s4⟩:=s.at_ i hi;have hn:=Lc s.nd hi;have hh:=h i hi;unfold Gr.Qi;rw[Bj hi,hh];rw[e]at hn⊢;simp[hn];omega
theorem WH{g:Gr}(h:g.check=0):g.normal.strict=true/\g.normal.check=0/\g.normal.ands.length<=g.ands.length:=by
 have ok:=Gr.qv h;obtain⟨o1,s1,l1⟩:=Bo ok
 have hf:g.gz.first=g.first:=wM _ _
 obtain⟨o2,s2,l2⟩:=Bu o1
 have e:g.normal=g.gz.dO:=by unfold Gr.normal;rw[if_pos h]
 rw[e]
 have hf2:g.gz.dO.first=g.gz.first:=wM _ _
 refine⟨Z6 o2 (by rw[hf2];exact s2) ?_,Gr.uc o2,by omega⟩;rw[hf2];exact ab9 o1 (by rw[hf];exact s1)
theorem uz(w:List Bool)(to:List Nat)(a:Nat):bG w (bE to a)=(bG w (to.getD (a/2) 0) !=decide (a%2=1)):=by
 unfold bE
 rcases(show a%2=0\/a%2=1 by omega)with h2|h2
 ·rw[h2,DA];simp
 ·rw[h2,A3];simp
theorem At(v:List Bool)(n:Nat):bG v (2*n)=v.getD n false:=by
 unfold bG
 rw[show 2*n/2=n by omega,show 2*n%2=0 by omega];simp
theorem YF{v:List Bool}{c:Bool}{n:Nat}(h:n<v.length):(v++[c]).getD n false=v.getD n false:=by
 rw[bp,bp,cV h]
theorem Z_{v:List Bool}{c:Bool}{n:Nat}(h:n=v.length):(v++[c]).getD n false=c:=by
 subst h
 rw[bp];simp
theorem Lw{first:Nat}{v0:List Bool}(hv:v0.length=first)(hz:bG v0 0=false)(h1:1<=first):∀(ps l:List (Int×Int))(to:List Nat)(V:List Bool),oo first l->mG first l to->V.length=to.length->
 (∀n,n<to.length->bG (bM l v0) (to.getD n 0)=V.getD n false)->(∀i(h:i<ps.length),ps[i].1.toNat/2<to.length+i/\ps[i].2.toNat/2<to.length+i)->
 ∀n,n<to.length+ps.length->bG (bM (iH first ps l to).1 v0) ((iH first ps l to).2.getD n 0)=(bM ps V).getD n false
 |[],l,to,V,_,_,hl,hh,_=>hh
 |p::ps,l,to,V,hw,ht,hl,hh,hp=>by
  have h0:=hp 0 (by simp);simp only[DB,ic]at h0;have ha:=ni ht.lt h0.1;have hb:=ni ht.lt h0.2;obtain⟨hlt,hge⟩:=ur ha hb h1;have hval:=MK hv hz h1 hw ha hb
  have b1:bG (bM l v0) (bE to p.1.toNat)=bG V p.1.toNat:=by rw[uz,hh _ h0.1];rfl
  have b2:bG (bM l v0) (bE to p.2.toNat)=bG V p.2.toNat:=by rw[uz,hh _ h0.2];rfl
  rw[b1,b2]at hval;intro n hn;rw[iH,bM]
  refine Lw hv hz h1 ps _ _ _ (hw.and ha hb) ⟨fun z hz=>by
   rcases bn.1 hz with hz|hz
   ·have:=ht.lt z hz;omega
   ·simp at hz;omega⟩ (by simp[hl]) (fun n hn=>?_) (fun i hi=>by
   have:=hp (i+1) (by simpa using hi);simp only[sX]at this
   simp;omega) n (by rw[bW]at hn;simp;omega)
  by_cases hn2:n<to.length
  ·rw[l8 hn2,YF (by omega),<-hh n hn2];refine acf hv ?_;refine ht.lt _ ?_;rw[bp,bm hn2];exact bx hn2
  ·have e:n=to.length:=by simp at hn;omega
   rw[AU e,Z_ (by omega),hval]
theorem adU{x:Gr}(ok:x.Ok)(s:iK x.first x.ands){v0:List Bool}(hv:v0.length=x.first):∀N n,n<N->n<x.first+x.ands.length->Live x.first x.bl n->
 bG (bM x.dO.ands v0) ((ef x.first x.bl x.ands 0 [] (ids x.first)).2.getD n 0)=(bM x.ands v0).getD n false:=by
 have I:=Gr.P7 ok s;have qS:=(Bu ok).1;have w2:=qS.ands;rw[show x.dO.first=x.first from wM _ _]at w2;intro N
 induction N with
 |zero=>intro n hn;omega
 |succ N ih=>
  intro n hn hn2 hl
  by_cases h1:n<x.first
  ·rw[I.low n h1,tY _ (by omega),At];obtain⟨e,he⟩:=E4 x.ands v0;rw[he,bp,bp,cV (by omega)]
  ·rcases hl with h2|h2
   ·omega
   ·have hk:n-x.first<x.ands.length:=by omega
    have en:x.first+(n-x.first)=n:=by omega
    obtain⟨j,hj,e1,e2⟩:=I.at_ (n-x.first) hk hk (by rw[en];exact h2);rw[en]at e1;have hj2:j<x.dO.ands.length:=hj
    have e3:x.dO.ands[j]=k7 (ef x.first x.bl x.ands 0 [] (ids x.first)).2 x.ands[n-x.first]:=by
     have:x.dO.ands[j]? =some (k7 (ef x.first x.bl x.ands 0 [] (ids x.first)).2 x.ands[n-x.first]):=e2;rw[bm hj2]at this;exact Option.some.inj this
    have hw:=w2 j hj2;have hx:=ok.ands (n-x.first) hk;obtain⟨c1,c2⟩:=As ok hk (by rw[en];exact h2);have va:=EX (v:=v0) hj2 (by omega) (by omega);have vb:=EX (v:=v0) hk (by omega) (by omega);rw[hv]at va vb;rw[e1,va,e3];simp only[k7,gb];rw[uz,uz,ih _ (by omega) (by omega) (.inr c1),ih _ (by omega) (by omega) (.inr c2)];rw[en,At]at vb;rw[vb];rfl
theorem M1{g:Gr}{r:List (Int×Int)×List Nat}(ok:g.Ok)(qS:(g.dE r).Ok){state ins:List Bool}
 (h:g.ey state ins=0->∀a∈g.next++g.outs,bG (bM r.1 (false::(ins++state))) (bE r.2 a.toNat)=bG (g.kf state ins) a.toNat):
 (g.dE r).ey state ins=g.ey state ins/\(g.dE r).dC state ins=g.dC state ins/\(g.dE r).je state ins=g.je state ins:=by
 have hE:(g.dE r).ey state ins=g.ey state ins:=by
  unfold Gr.ey;rw[Gr.uc ok,Gr.uc qS]
  have h1:(g.dE r).next.length=g.next.length:=by simp[Gr.dE]
  have:(g.dE r).fits state ins=g.fits state ins:=by unfold Gr.fits;rw[h1];rfl
  rw[this]
 refine⟨hE,?_,?_⟩
 ·unfold Gr.dC;rw[hE]
  split
  ·rename_i h0;have hh:=h h0;unfold j7 Gr.dE eB Gr.kf;simp only[iz]
   refine oD fun a ha=>?_
   exact hh a (Jz _ ha)
  ·rfl
 ·unfold Gr.je;rw[hE]
  split
  ·rename_i h0;have hh:=h h0;unfold j7 Gr.dE eB Gr.kf;simp only[iz]
   refine oD fun a ha=>?_
   exact hh a (sW _ ha)
  ·rfl
theorem O7{g:Gr}{state ins:List Bool}(h:g.ey state ins=0):(false::(ins++state)).length=g.first:=by
 obtain⟨ok,d1,d2⟩:=Gr.P4 h;have:=ok.ins
 simp[Gr.first];omega
theorem Pr{g:Gr}(ok:g.Ok){a:Int}(h:a∈g.next++g.outs):a.toNat/2<g.first+g.ands.length:=by
 have hl:g.lits=2*(g.first+g.ands.length):=rfl
 rcases bn.1 h with h|h
 ·have:=ok.next a h;omega
 ·have:=ok.outs a h;omega
theorem ZV{g:Gr}(ok:g.Ok)(state ins:List Bool):g.gz.ey state ins=g.ey state ins/\g.gz.dC state ins=g.dC state ins/\g.gz.je state ins=g.je state ins:=by
 refine M1 ok (Bo ok).1 (fun hE a ha=>?_);have hv:=O7 hE
 have hi:∀n,n<g.first->(ids g.first).getD n 0=2*n:=fun n hn=>by
  rw[bp,bm (by simpa using hn)];simp[ids]
 have:=Lw hv (by simp[bG]) (by unfold Gr.first;omega) g.ands [] (ids g.first) (false::(ins++state)) (fun i hi=>by simp at hi) (BA _) (by rw[hv];simp)
  (fun n hn=>by rw[OM]at hn;rw[hi n hn,bM,At]) (F1 ok) (a.toNat/2) (by rw[OM];exact Pr ok ha)
 rw[uz,this];rfl
theorem aaK{g:Gr}(ok:g.Ok)(s:iK g.first g.ands)(state ins:List Bool):g.dO.ey state ins=g.ey state ins/\g.dO.dC state ins=g.dC state ins/\g.dO.je state ins=g.je state ins:=by
 refine M1 ok (Bu ok).1 (fun hE a ha=>?_);have:=adU ok s (O7 hE) (a.toNat/2+1) (a.toNat/2) (by omega) (Pr ok ha) (.inr (FL ok ha));rw[uz];have e:g.dO.ands=(ef g.first g.bl g.ands 0 [] (ids g.first)).1:=rfl;rw[e]at this;rw[this];rfl
theorem X8{g:Gr}(h:g.check=0)(state ins:List Bool):g.normal.ey state ins=g.ey state ins/\g.normal.dC state ins=g.dC state ins/\g.normal.je state ins=g.je state ins:=by
 have ok:=Gr.qv h;obtain⟨o1,s1,l1⟩:=Bo ok
 have e:g.normal=g.gz.dO:=by unfold Gr.normal;rw[if_pos h]
 rw[e]
 have hf:g.gz.first=g.first:=wM _ _
 obtain⟨a1,a2,a3⟩:=aaK o1 (by rw[hf];exact s1) state ins;obtain⟨b1,b2,b3⟩:=ZV ok state ins;exact⟨a1.trans b1,a2.trans b2,a3.trans b3⟩
end Go.Proofs.YtihmomicdpkabaaGreatDoor
namespace Go.Proofs.YtihmomicdpkabaaGreatDoor
open Go.AM Go.Proofs
variable{Γ:Nat->Option AV}
theorem Mp(ins:List Bool):∀(s:Bs)(i:Nat),s.all lP=true->s.length=(ins.drop i).length->(bo s i).all (fun x=>pG ins (dV x).lit)=mo s (ins.drop i)
 |[],i,_,_=>by simp[bo,mo]
 |c::s,i,hg,hl=>by
  have hi:i<ins.length:=by
   refine vA fun hn=>?_
   rw[br (by omega)]at hl;simp at hl
  rw[bL hi]at hl⊢;rw[pR,av]at hg;have ih:=Mp ins s (i+1) hg.2 (by simp at hl⊢;omega);rw[mo,<-ih,bo]
  by_cases a:c=45
  ·rw[if_pos a];simp[a]
  ·rw[if_neg a,pR];congr 1;have hc:=hg.1;simp only[lP,fa,bj]at hc
   rcases hc with b|b|b
   ·subst b
    have e1:((2*(i:Int)+1)/2).toNat=i:=by omega
    have e2:(2*(i:Int)+1)%2=1:=by omega
    simp[dV,pG,e1,e2,bp,bm hi]
   ·subst b
    have e1:((2*(i:Int))/2).toNat=i:=by omega
    have e2:¬(2*(i:Int))%2=1:=by omega
    simp[dV,pG,e1,e2,bp,bm hi]
   ·exact absurd b a
theorem PW{h os:List Ob}{a b c d:Ob}:(h++a::b::c::d::os)[h.length+3]? =some d:=by simp
abbrev vg(h:List Ob)(m:List (Bs×Bool))(nx:List Bool):List Ob:=h++[.row 1 aV [] none true false,.row 1 aV [] none true false,gD m,.row 1 aV (nx.map .bool) none true false]
set_option maxRecDepth 8000 in
theorem agd(c:Ct)(hc:bX c)(m:List (Bs×Bool)){j:Nat}{h:List Ob}(hjl:j<h.length)(hw:cr h)(hv:dY h)(up:List Fr):∀n i:Nat,i+n=c.ai.length->
 AM.Reach Tryz.prog Γ (ylv (.ptr j 0) (.mp (h.length+2)) (.sl (h.length+3) 0 i) (.list false c.kL (c.ai.map nD)) (.int .i64 c.ai.length) (.int .i64 i) (vg h m ((c.ai.take i).map fun q=>dS m q.next)) ⟨[],.norm,h.length,up⟩)
  (ylw (.ptr j 0) (.mp (h.length+2)) (.sl (h.length+3) 0 c.ai.length) (vg h m (c.ai.map fun q=>dS m q.next)) ⟨[],.norm,h.length,up⟩):=by
 have b2:=hc.2.2.1
 have hvv:=fun m=>hv (h.length+3) m (by omega)
 have hbb:=hw (h.length+4) (by omega)
 have hj4:j<h.length+4:=by omega
 have hbm:=Bw (h.length+4) m
 have hvm:=fun k=>OK (h.length+3) k m
 intro n
 induction n with
 |zero=>
  intro i hi
  have q1:¬i<c.ai.length:=by omega
  have he:i=c.ai.length:=by omega
  subst he;rw[bR (by omega)];refine .di 60 ?_;simp[q1];exact .exit rfl rfl
 |succ n ih=>
  intro i hi
  have q1:i<c.ai.length:=by omega
  have q2:=bP (c.hL.of q1);have hh:=ih (i+1) (by omega)
  have e1:((c.ai.take (i+1)).map fun q=>dS m q.next)=((c.ai.take i).map fun q=>dS m q.next)++[dS m c.ai[i].next]:=by
   rw[gG q1,iT];rfl
  have hlen:((c.ai.take i).map fun q=>dS m q.next).length=i:=by simp;omega
  rw[e1]at hh;have hf:=OW c.ai[i].next m;have hlk:dS m c.ai[i].next=(match getM c.ai[i].next m with|some v=>v|none=>false):=rfl
  have hle:((i:Int)+1)<=140737488355328:=by omega
  generalize((c.ai.take i).map fun q=>dS m q.next)=P at*;generalize(c.ai.map fun q=>dS m q.next)=P2 at*;refine .di 60 ?_
  cases hg:getM c.ai[i].next m with
  |none=>
   rw[hg]at hf hlk;simp at hf hlk;rw[hlk]at hh;simp(disch:=omega) [q1,q2,gD,hf,isKey,bU,cz,hle,hlen];refine .aF ?_;simp;refine .jz (h.length+4) (by simp;rfl) (by simp) (by simp[hj4]) (by simp[hbb,hbm]) ?_;refine .lA (i:=h.length+3) PW (by simp) (by simp[hlen]) (by simp[hvv,hvm]) ?_;simp[vg,gD]at hh⊢;exact hh
  |some v=>
   rw[hg]at hf hlk;simp at hf hlk;rw[hlk]at hh;simp(disch:=omega) [q1,q2,gD,hf,isKey,bU,cz,hle,hlen];refine .aF ?_;simp;refine .jz (h.length+4) (by simp;rfl) (by simp) (by simp[hj4]) (by simp[hbb,hbm]) ?_;refine .lA (i:=h.length+3) PW (by simp) (by simp[hlen]) (by simp[hvv,hvm]) ?_;simp[vg,gD]at hh⊢;exact hh
def n5(c:Ct)(ins state:List Bool):Bool:=decide (ins.length=c.aG.length)&&decide (state.length=c.ai.length)
def dC(c:Ct)(ins state:List Bool):List Bool×List Bool×Int:=if n5 c ins state=true then(kV c ins state,lI c ins state,0)else([],[],11)
set_option maxRecDepth 8000 in
theorem aey(hΓ:ek Γ)(c:Ct)(hc:bX c)(ok:eN c)(ins state:List Bool)(hi2:ins.length<2^40)(hs2:state.length<2^40){fi fs:Bool}{ki ks:Nat}(hki:Kd 1 ki ins)(hks:Kd 1 ks state){j:Nat}{h:List Ob}(hj:h[j]? =some (fw c (aD c) (aP c)))(hw:cr h)(hv:dY h):
 ∀up,AM.Reach Tryz.prog Γ (.cl rn [.ptr j 0,.list fs ks (state.map .bool),.list fi ki (ins.map .bool)] up h) (.back up (.aB [.sl h.length 0 (dC c ins state).1.length,.sl (h.length+1) 0 (dC c ins state).2.1.length,.int .i64 (dC c ins state).2.2]) (h++[np (dC c ins state).1,np (dC c ins state).2.1])):=by
 intro up;have hjl:j<h.length:=(cW.1 hj).1
 have hget:=fun os=>dL hj os
 have hbb:=hw h.length (aT _);unfold dC n5
 by_cases hl:ins.length=c.aG.length/\state.length=c.ai.length
 ·have hV:=afd hΓ c hc ok ins state hl.1 hl.2 (fi:=fi) (fs:=fs) hki hks (j:=j) (h:=h++[.row 1 aV [] none true false,.row 1 aV [] none true false]) (hget _) (by
   intro n hn;simp at hn
   simp[hw n (by omega)]) (by
   intro n k hn;simp at hn
   simp[hv n k (by omega)])
  simp at hV;have h1:=agd (Γ:=Γ) c hc (gU c ins state) hjl hw hv up c.ai.length 0 (by omega)
  have hP:=O0 (Γ:=Γ) (gU c ins state) c.bf (fl:=false) c.hO (by have:=hc.2.1;omega) (j:=h.length+2) (h:=vg h (gU c ins state) (c.ai.map fun q=>dS (gU c ins state) q.next)) (by simp) (by
   intro n hn;simp at hn
   simp[hw n (by omega),gD]) (by
   intro n k hn;simp at hn
   simp[hv n k (by omega),gD])
  unfold fw at hget
  have hol:(kV c ins state).length=c.bf.length:=by simp[kV,eX]
  have hnl:=tU c ins state;rw[if_pos (by simp[hl.1,hl.2])];unfold kV lI at*;simp only at hol hnl⊢;generalize eX (gU c ins state) c.bf=PO at*;generalize(c.ai.map fun q=>dS (gU c ins state) q.next)=PN at*;generalize gU c ins state=m at*;simp at h1 hP;refine .bt 60 JX ?_;simp;refine .aX 60 hV ?_;simp[hget,gD];refine .inLoop ?_;simp[vg,gD,np]at h1 hP⊢;refine .trans h1 ?_;refine .aR 60 ?_;simp[hget];refine .aX 4 hP ?_;simp;refine .trans (.lU [9,11,42,48,49] _) ?_;simp[lS];have hlt3:(h.length+3<h.length)=False:=ie (by omega);have hlt4:(h.length+4<h.length)=False:=ie (by omega);refine .mE h.length [4,3] (by simp[l_ hbb,hjl]) (by decide) ?_;simp[mb hbb,hjl,hlt3,hlt4];refine .aR 60 ?_;simp[hol,hnl]
 ·have hV:=adh (Γ:=Γ) c hc (aD c) (aP c) ins state (fi:=fi) (fs:=fs) (ki:=ki) (ks:=ks) hi2 hs2 hl (j:=j) (h:=h++[.row 1 aV [] none true false,.row 1 aV [] none true false]) (hget _);rw[if_neg (by simpa using hl)];refine .bt 60 JX ?_;simp;refine .aX 12 hV ?_;simp;refine .aR 6 ?_;simp;have hlt3:(h.length+3<h.length)=False:=ie (by omega);have hlt2:(h.length+2<h.length)=False:=ie (by omega);refine .mE h.length [2,3] (by simp[l_ hbb,hjl]) (by decide) ?_;simp[mb hbb,hjl,hlt3,hlt2];refine .aR 60 ?_;simp[np]
def qy(c:Ct)(ins state:List Bool):List Bool×List Bool×Int:=if hY c=true then dC c ins state else([],[],1)
theorem UK(l:List Bool){k:Nat}(hk:Kd 1 k l)(hl:l.length<2^40):aM Tryz.prog Γ zE [.list false k (l.map AV.bool)] (.own 1 aV (l.map AV.bool)):=by
 refine .run 60 UH (by simp) ?_
 cases l with
 |nil=>
  simp;refine .either 0 (by simp) (fun b=>?_)
  cases b
  ·refine .go 9 ?_;simp;refine .nT 2 1 aV rfl (by omega) ?_;refine .go 60 ?_;simp;exact .back (by simp)
  ·refine .go 60 ?_;simp;exact .back (by simp)
 |cons x xs=>
  have hk0:k=1:=by
   rcases hk with h|h
   ·exact h
   ·cases h
  subst hk0;simp at hl;simp(disch:=(first|omega|(simp;omega)));exact .back (by simp)
end Go.Proofs.YtihmomicdpkabaaGreatDoor
