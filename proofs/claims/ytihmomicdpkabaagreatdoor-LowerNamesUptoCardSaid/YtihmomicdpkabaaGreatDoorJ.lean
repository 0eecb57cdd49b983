/- OrderRises: gates that stand in an order in which they may come come just so. -/
import Derived.Test.YtihmomicdpkabaaGreatDoorI
import Derived.Test.YtihmomicdpkabaaGreatDoorH
import Derived.Test.YtihmomicdpkabaaGreatDoorG
import Derived.Test.YtihmomicdpkabaaGreatDoorF
import Derived.Test.YtihmomicdpkabaaGreatDoorCode
import Derived.Test.YtihmomicdpkabaaGreatDoorAMd
set_option linter.unusedSimpArgs false
set_option linter.unusedVariables false
namespace Go.Proofs.YtihmomicdpkabaaGreatDoor
open Go.AM Go.Proofs
variable{Γ:Nat->Option AV}
theorem L'(N:List Bs):∀l:List Bs,(∀s∈l,s∈N)->ic N l=(0,[])
 |[],_=>rfl
 |a::l,h=>by rw[ic,if_pos (h a (by simp)),L' N l fun s hs=>h s (by simp[hs])]
theorem M3(r:Int×Bs):∀l:List Gt,(∀g∈l,jV g=true)->ju r l=r
 |[],_=>rfl
 |a::l,h=>by rw[ju,if_pos (h a (by simp)),M3 r l fun s hs=>h s (by simp[hs])]
theorem Mf(r:Int×Bs):∀l:List Lt,(∀g∈l,lW g=true)->kz r l=r
 |[],_=>rfl
 |a::l,h=>by rw[kz,if_pos (h a (by simp)),Mf r l fun s hs=>h s (by simp[hs])]
theorem MC(r:Int×Bs):∀l:List Bs,(∀g∈l,iC g=true)->nP r l=r
 |[],_=>rfl
 |a::l,h=>by rw[nP,if_pos (h a (by simp)),MC r l fun s hs=>h s (by simp[hs])]
theorem Z0{c:Ct}(h:fQ c):iw c=(0,[]):=by
 unfold iw;rw[h.lG,if_neg (by simp),MC _ _ h.names,h.Pp,h.outs,Mf _ _ h.init,M3 _ _ h.af,L' _ _ h.used];rfl
theorem MY{c:Ct}(h:fQ c):kv c=true:=by rw[kv,Z0 h];rfl
theorem LG:∀(l seen:List Bs),l.Nodup->(∀s∈l,s∉seen)->lp seen l=none
 |[],_,_,_=>rfl
 |a::l,seen,hn,h=>by
  rw[k7]at hn;rw[lp,if_neg (h a (by simp))]
  refine LG l _ hn.2 fun s hs=>?_
  simp only[bl,dC,not_or];exact⟨h s (by simp[hs]),fun he=>hn.1 (he▸hs)⟩
theorem aai{l:List Bs}(h:l.Nodup):iy l=none:=LG l [] h (by simp)
theorem E9{c:Ct}{s:Bs}:s∈aD c↔s∈c.aB\/(∃q∈c.ak,q.name=s)\/∃g∈c.af,g.name=s:=by
 simp[aD]
def uc(c:Ct):Bool:=sk c&&(decide (c.af.length<=24)&&(decide (c.aB.length<=24)&&decide (c.ak.length<=24)))
theorem aaJ(c:Ct):aP Tryz.prog Γ zw [bX c] (.bool (uc c)):=by
 have hF:=aeL (Γ:=Γ) c;refine .run 60 VP (by simp) ?_;unfold uc;simp;refine .call 60 (by simp) hF ?_
 cases sk c with
 |false=>
  simp;exact .back (by simp)
 |true=>
  have e0:((c.af.length:Int)<=24)=(c.af.length<=24):=propext (by omega);have e1:((c.aB.length:Int)<=24)=(c.aB.length<=24):=propext (by omega);have e2:((c.ak.length:Int)<=24)=(c.ak.length<=24):=propext (by omega)
  by_cases h1:c.af.length<=24
  ·by_cases h2:c.aB.length<=24
   ·simp[e0,e1,e2,h1,h2];exact .back (by simp)
   ·simp[e0,e1,e2,h1,h2];exact .back (by simp)
  ·simp[e0,e1,e2,h1];exact .back (by simp)
theorem NQ{α:Type}{P:List α->Prop}(h0:P [])(h1:∀l a,P l->P (l++[a]))(l:List α):P l:=by
 rw[<-List.reverse_reverse l]
 induction l.reverse with
 |nil=>exact h0
 |cons a r ih=>rw[List.reverse_cons];exact h1 _ _ ih
def jd(m:List (Bs×Bool))(s:Bs):Bool:=match getM s m with
 |some v=>v
 |none=>false
theorem ab3{m r:List (Bs×Bool)}{s:Bs}(h:s∈m.map (·.1)):jd (m++r) s=jd m s:=by
 induction m with
 |nil=>cases h
 |cons a m ih=>
  obtain⟨k,v⟩:=a;rw[eP];unfold jd;rw[getM,getM]
  by_cases hk:s=k
  ·rw[if_pos hk,if_pos hk]
  ·rw[if_neg hk,if_neg hk];rw[b9,bt]at h;exact ih (h.resolve_left hk)
theorem ace{m:List (Bs×Bool)}{s:Bs}(v:Bool)(h:s∉m.map (·.1)):jd (m++[(s,v)]) s=v:=by
 induction m with
 |nil=>simp[jd,getM]
 |cons a m ih=>
  obtain⟨k,u⟩:=a;rw[b9,bt,not_or]at h;rw[eP];unfold jd;rw[getM,if_neg h.1];exact ih h.2
def By(m:List (Bs×Bool))(l:List Bs):List Bool:=l.map (jd m)
def eH(c:Ct):List Bs:=c.aB++c.ak.map (·.name)
def BK(c:Ct)(ins state:List Bool):List (Bs×Bool):=(eH c).zip (ins++state)
def Pq(c:Ct)(m:List (Bs×Bool))(a:Nat):List (Bs×Bool):=match c.af[a]? with
 |some g=>m++[(g.name,xd g (By m g.ins))]
 |none=>m
def kK(c:Ct)(ins state:List Bool)(p:List Nat):List (Bs×Bool):=p.foldl (Pq c) (BK c ins state)
def pn(c:Ct)(ins state:List Bool):List (Bs×Bool):=kK c ins state (aR c)
theorem ED(c:Ct)(ins state:List Bool)(p:List Nat){a:Nat}(ha:a<c.af.length):kK c ins state (p++[a])=kK c ins state p++[(c.af[a].name,xd c.af[a] (By (kK c ins state p) c.af[a].ins))]:=by
 rw[kK,List.foldl_append,u9,List.foldl_nil,Pq,bg ha];rfl
theorem Af(c:Ct):(eH c).length=c.aB.length+c.ak.length:=by simp[eH]
theorem YI{c:Ct}{ins state:List Bool}(hi:ins.length=c.aB.length)(hs:state.length=c.ak.length):(BK c ins state).map (·.1)=eH c:=by
 rw[BK,List.map_fst_zip (by rw[Af];simp;omega)]
theorem tL{c:Ct}{ins state:List Bool}(hi:ins.length=c.aB.length)(hs:state.length=c.ak.length):∀p:List Nat,(∀a∈p,a<c.af.length)->(kK c ins state p).map (·.1)=eH c++p.map (HP c):=by
 intro p
 induction p using NQ with
 |h0=>intro _;simpa[kK]using YI hi hs
 |h1 p a ih=>
  intro h;have ha:=h a (by simp);rw[ED c ins state p ha,kZ,ih fun b hb=>h b (by simp[hb])];simp[Bj ha]
theorem vX{c:Ct}(ok:fQ c):(eH c++c.af.map (·.name)).Nodup:=by
 have:=ok.nodup;simpa[aD,eH]using this
theorem aab{c:Ct}(ok:fQ c){ins state:List Bool}(hi:ins.length=c.aB.length)(hs:state.length=c.ak.length){p:List Nat}(hp:∀a∈p,a<c.af.length){a:Nat}(ha:a<c.af.length)(hn:a∉p):c.af[a].name∉(kK c ins state p).map (·.1):=by
 have hd:=ry (MY ok);rw[tL hi hs p hp,bl,not_or];have h:=vX ok;rw[q9]at h;refine⟨fun hb=>h.2.2 _ hb _ (qW (f:=(·.name)) (bC ha)) rfl,fun hb=>?_⟩;obtain⟨x,hx,he⟩:=cC.1 hb;have hxl:=hp x hx;rw[Bj hxl]at he;exact hn (Ao hd hxl ha he▸hx)
structure Bo(c:Ct)(ins state:List Bool)(f:Bs->Bool):Prop where
 PR:∀i,∀h:i<c.aB.length,f c.aB[i]=ins.getD i false
 Sg:∀i,∀h:i<c.ak.length,f c.ak[i].name=state.getD i false
 RW:∀i,∀h:i<c.af.length,f c.af[i].name=xd c.af[i] (c.af[i].ins.map f)
theorem Nl:∀(l:List Bs)(b:List Bool),l.Nodup->∀i,∀h:i<l.length,i<b.length->jd (l.zip b) l[i]=b.getD i false
 |[],_,_,i,h,_=>by simp at h
 |s::l,[],_,i,h,h2=>by simp at h2
 |s::l,v::b,hn,i,h,h2=>by
  rw[k7]at hn;rw[Jc];unfold jd
  cases i with
  |zero=>simp[getM]
  |succ i=>
   have hne:¬(s::l)[i+1]=s:=fun he=>hn.1 (by rw[<-he];simp)
   rw[getM,if_neg hne];simpa[jd]using Nl l b hn.2 i (by simpa using h) (by simpa using h2)
theorem Fe{c:Ct}{ins state:List Bool}(hi:ins.length=c.aB.length)(hs:state.length=c.ak.length)(p:List Nat)(hp:∀a∈p,a<c.af.length):∀r:List Nat,(∀a∈r,a<c.af.length)->∀s∈(kK c ins state p).map (·.1),jd (kK c ins state (p++r)) s=jd (kK c ins state p) s:=by
 intro r
 induction r using NQ with
 |h0=>intro _ s _;simp
 |h1 r a ih=>
  intro hr s hs';have ha:=hr a (by simp)
  have hr':=fun b hb=>hr b (bl.2 (.inl hb))
  have h1:=ih hr' s hs';rw[<-eQ,ED c ins state (p++r) ha,ab3 ?_,h1];rw[tL hi hs _ fun b hb=>(bl.1 hb).elim (hp b) (hr' b)];rw[tL hi hs p hp]at hs';simp only[bl,kZ]at hs'⊢
  exact hs'.elim .inl fun h=>.inr (.inl h)
theorem Y8{c:Ct}(ok:fQ c)(hall:∀i<c.af.length,i∈aR c){ins state:List Bool}(hi:ins.length=c.aB.length)(hs:state.length=c.ak.length):Bo c ins state (jd (pn c ins state)):=by
 have hd:=ry (MY ok);have hlt:=oL c;have hnd:=vX ok
 have hbn:(eH c).Nodup:=by rw[q9]at hnd;exact hnd.1
 have hbase:∀i,∀h:i<(eH c).length,jd (pn c ins state) (eH c)[i]=(ins++state).getD i false:=fun i h=>by
  have h1:=Fe hi hs [] (by simp) (aR c) hlt (eH c)[i] (by rw[tL hi hs [] (by simp)];simp);rw[kY]at h1;rw[pn,h1];have:=Nl (eH c) (ins++state) hbn i h (by rw[Af]at h;simp;omega);simpa[kK,BK]using this
 refine⟨fun i h=>?_,fun i h=>?_,fun i h=>?_⟩
 ·have:=hbase i (by rw[Af];omega);simp only[eH,C0 h]at this;rw[this,bo,bo,cR (by omega)]
 ·have:=hbase (c.aB.length+i) (by rw[Af];omega);simp only[eH]at this;rw[C1 (by omega)]at this;simp only[vh,List.getElem_map]at this;rw[this,bo,bo,dF (by omega),hi,vh]
 ·obtain⟨p,q,he⟩:=List.append_of_mem (hall i h)
  have hpl:∀a∈p,a<c.af.length:=fun a ha=>hlt a (by rw[he];simp[ha])
  have hql:∀a∈q,a<c.af.length:=fun a ha=>hlt a (by rw[he];simp[ha])
  have hpos:=(jn.1 (EL c he).1);have hnew:=aab ok hi hs hpl h hpos.1
  have e1:aR c=(p++[i])++q:=by rw[he];simp
  have hpi:∀a∈p++[i],a<c.af.length:=fun a ha=>by
   rcases bl.1 ha with ha|ha
   ·exact hpl a ha
   ·rw[dC]at ha;subst ha;exact h
  have h2:jd (pn c ins state) c.af[i].name=xd c.af[i] (By (kK c ins state p) c.af[i].ins):=by
   rw[pn,e1,Fe hi hs (p++[i]) hpi q hql _ (by rw[tL hi hs _ hpi];simp[Bj h])];rw[ED c ins state p h,ace _ hnew]
  rw[h2];congr 1;apply nk;intro s hsi
  have hs0:s∈(kK c ins state p).map (·.1):=by
   rw[tL hi hs p hpl,bl];have hu:s∈aD c:=ok.used s (by simp only[eS,mb,bl,pM];exact .inr ⟨_,bC h,hsi⟩)
   rcases E9.1 hu with hu|⟨x,hx,rfl⟩|⟨x,hx,rfl⟩
   ·exact .inl (by simp[eH,hu])
   ·exact .inl (by simp only[eH,bl,cC];exact .inr ⟨x,hx,rfl⟩)
   ·obtain⟨j,hj,rfl⟩:=k8 hx;have:=hpos.2 j ((wQ h hj).2 hsi);exact .inr (cC.2 ⟨j,this,Bj hj⟩)
  rw[pn,e1,eQ];exact(Fe hi hs p hpl ([i]++q) (fun a ha=>hlt a (by rw[he];simp at ha⊢;exact .inr ha)) s hs0).symm
theorem abd{c:Ct}(ok:fQ c)(hall:∀i<c.af.length,i∈aR c){ins state:List Bool}{f g:Bs->Bool}(hf:Bo c ins state f)(hg:Bo c ins state g):∀s∈aD c,f s=g s:=by
 have hlow:∀s∈eH c,f s=g s:=fun s hs=>by
  simp only[eH,bl,cC]at hs
  rcases hs with hs|⟨q,hq,rfl⟩
  ·obtain⟨i,hi,rfl⟩:=k8 hs;rw[hf.PR i hi,hg.PR i hi]
  ·obtain⟨i,hi,rfl⟩:=k8 hq;rw[hf.Sg i hi,hg.Sg i hi]
 have key:∀(q p:List Nat),aR c=p++q->(∀a∈p,∀h:a<c.af.length,f c.af[a].name=g c.af[a].name)->∀a∈p++q,∀h:a<c.af.length,f c.af[a].name=g c.af[a].name:=by
  intro q
  induction q with
  |nil=>intro p _ h;simpa using h
  |cons x q ih=>
   intro p he h
   have:=ih (p++[x]) (by simpa using he) fun a ha hal=>by
    rcases bl.1 ha with ha|ha
    ·exact h a ha hal
    ·rw[dC]at ha;subst ha;rw[hf.RW a hal,hg.RW a hal];congr 1;apply nk;intro s hs;have hu:s∈aD c:=ok.used s (by simp only[eS,mb,bl,pM];exact .inr ⟨_,bC hal,hs⟩)
     rcases E9.1 hu with hu|⟨y,hy,rfl⟩|⟨y,hy,rfl⟩
     ·exact hlow s (by simp[eH,hu])
     ·exact hlow _ (by simp only[eH,bl,cC];exact .inr ⟨y,hy,rfl⟩)
     ·obtain⟨j,hj,rfl⟩:=k8 hy;exact h j ((jn.1 (EL c he).1).2 j ((wQ hal hj).2 hs)) hj
   simpa using this
 intro s hs
 rcases E9.1 hs with hu|⟨y,hy,rfl⟩|⟨y,hy,rfl⟩
 ·exact hlow s (by simp[eH,hu])
 ·exact hlow _ (by simp only[eH,bl,cC];exact .inr ⟨y,hy,rfl⟩)
 ·obtain⟨j,hj,rfl⟩:=k8 hy;exact key (aR c) [] rfl (by simp) j (by simpa using hall j hj) hj
def aeh(c:Ct)(ins state:List Bool):List Bool:=By (pn c ins state) c.aW
def aeN(c:Ct)(ins state:List Bool):List Bool:=c.ak.map fun q=>jd (pn c ins state) q.next
theorem ack{c:Ct}(ok:fQ c){s:Bs}(h:s∈c.aW):s∈aD c:=ok.used s (by simp[eS,h])
theorem ZH{c:Ct}(ok:fQ c){q:Lt}(h:q∈c.ak):q.next∈aD c:=ok.used _ (by simp only[eS,bl,cC];exact .inl (.inr ⟨q,h,rfl⟩))
def mo(c:Ct):Bool:=decide ((jo c).1=0)
theorem ub{c:Ct}(h:mo c=true):kv c=true/\mR c=[]/\jo c=(0,[]):=ZA (C9 h)
abbrev BT(x:Bs×Bool):AV×AV:=(.str x.1,.bool x.2)
@[simp] theorem NH(n:Nat):∀l:List (Bs×Bool),fT n (l.map BT)=true
 |[]=>rfl
 |x::r=>by simp[NH n r]
@[simp] theorem abv(n m:Nat):∀l:List (Bs×Bool),m6 n m (l.map BT)=true
 |[]=>rfl
 |x::r=>by simp[abv n m r]
@[simp] theorem aAa(n:Nat)(τ:List Nat)(l:List (Bs×Bool)):my n τ (l.map BT)=l.map BT:=FF (NH n l)
theorem O6{h os:List Ob}{a b:Ob}:(h++a::b::os)[h.length+1]? =some b:=by simp
def BG(c:Ct)(N:List Bs)(l:List Nat):Ob:=.cells [.list false c.kI (c.aB.map .str),.list false c.kO (c.aW.map .str),.list false c.kL (c.ak.map pC),.list false c.kG (c.af.map dg),.list false 1 (N.map .str),.list false 1 (l.map iN)]
structure Md where
 g:Gr
 aB:List Bs
 ak:List Bs
 aW:List Bs
 kI:Nat
 kL:Nat
 kO:Nat
 hI:Kd 1 kI aB
 hL:Kd 1 kL ak
 hO:Kd 1 kO aW
abbrev py(m:Md):AV:=.agg [.int .i64 m.g.ins,.list false m.g.kn (m.g.next.map i64),.list false m.g.ki (m.g.init.map i64),.list false m.g.ka (m.g.ands.map cN),.list false m.g.ko (m.g.outs.map i64),
 .list false m.kI (m.aB.map .str),.list false m.kL (m.ak.map .str),.list false m.kO (m.aW.map .str)]
def jH:Md:=⟨fv,[],[],[],0,0,0,.nil,.nil,.nil⟩
def pD(m:List (Bs×Nat))(s:Bs):Nat:=match getM s m with
 |some v=>v
 |none=>0
def cT(m:List (Bs×Nat))(l:List Bs):List Nat:=l.map (pD m)
def gM(n:Nat):List Nat:=(List.range n).map fun i=>2*(i+1)
def de(c:Ct):Gr:=⟨c.aB.length,List.replicate c.ak.length 0,c.ak.map (·.init),[],[],1,1,0,0,.self,.self,.nil,.nil⟩
def mi(c:Ct):List Nat->Gr->List Nat->Gr×Option (List Nat)
 |[],x,v=>(x,some v)
 |a::r,x,v=>match c.af[a]? with
  |none=>(x,none)
  |some g=>eF (ky x g (cT ((aD c).zip v) g.ins)) fun y d=>mi c r y (v.set (c.aB.length+c.ak.length+a) d)
def ml(c:Ct):Gr×Option (List Nat):=mi c (aR c) (de c) (gM (aD c).length)
def da(c:Ct)(y:Gr)(v:List Nat):Gr:={y with
 next:=(cT ((aD c).zip v) (c.ak.map (·.next))).map fun n:Nat=>(n:Int),kn:=1,hn:=.self
 outs:=(cT ((aD c).zip v) c.aW).map fun n:Nat=>(n:Int),ko:=1,ho:=.self}
def eE(c:Ct)(y:Gr)(v:List Nat):Md:=⟨(da c y v).normal,c.aB,c.ak.map (·.name),c.aW,1,1,1,.self,.self,.self⟩
def jS(c:Ct):Md×Int×Bs:=
 if(jo c).1=0 then(match(ml c).2 with
  |none=>(jH,8,[])
  |some v=>(eE c (ml c).1 v,0,[]))else(jH,jo c)
abbrev uN(r:Md×Int×Bs):AV:=.aH [py r.1,.int .i64 r.2.1,.str r.2.2]
theorem _root_.Go.AM.Reach.ab0{P:Program}{f:FuncId}{args:List AV}{up:List Fr}{h:List Ob}{v:AV}(J:List Ob)(hw:cO h)(hv:aG h.length v=true)(h1:AM.Reach P Γ (.cl f args up h) (.back up v (h++J))):AM.Reach P Γ (.cl f args up h) (.back up v h):=by
 have:=AM.Reach.leave h1 hv (by rw[vn rfl];exact hw _ (aU _));rwa[vn rfl]at this
def Pw(m:List (Bs×Nat)):Ob:=.map (m.map gT) true
theorem ac2(s:Bs)(m:List (Bs×Nat)):eD (.sc .str) (.str s) (m.map gT)=some ((getM s m).map iN):=zS qf iN s m
theorem adu{h os:List Ob}{a b:Ob}{f:Ob->Ob}:(h++a::b::os).modify (h.length+1) f=h++a::f b::os:=by
 induction h with
 |nil=>rfl
 |cons x h ih=>simpa using ih
set_option maxRecDepth 8000 in
theorem Gb(m:List (Bs×Nat))(l:List Bs){fl:Bool}{k:Nat}(hk:Kd 1 k l)(hl:l.length<2^40){j q:Nat}{h:List Ob}(hj:h[j]? =some (.cells [.mp q]))(hq:h[q]? =some (Pw m))(hw:cO h)(hv:fX h):
 ∀up,AM.Reach Tryz.prog Γ (.cl ot [.list fl k (l.map .str),.ptr j 0] up h) (.back up (.list false 1 ((cT m l).map iN)) h):=by
 intro up;have hb:=hw h.length (aU _)
 have hget:=fun os=>fE hj os
 have hget2:=fun os=>fE hq os
 unfold Pw at hget2
 have hvv:=fun m=>hv (h.length+1) m (by omega)
 have key:∀n i:Nat,i+n=l.length->AM.Reach Tryz.prog Γ (ygP (.ptr j 0) (.sl (h.length+1) 0 i) (.list fl k (l.map .str)) (.int .i64 l.length) (.int .i64 i) (h++[.row 1 an [] none true false,.row 1 an ((cT m (l.take i)).map iN) none true false]) ⟨[],.norm,h.length,up⟩)
  (.back up (.list false 1 ((cT m l).map iN)) (h++[.row 1 an [] none true false,.row 1 an ((cT m l).map iN) none true true])):=by
  intro n
  induction n with
  |zero=>
   intro i hi
   have q1:¬i<l.length:=by omega
   have he:i=l.length:=by omega
   subst he;rw[cS (by omega)]
   have hlen:(cT m l).length=l.length:=by simp[cT]
   have htk:((cT m l).map iN).take l.length=(cT m l).map iN:=cS (by simp[hlen]);generalize cT m l=P at*;refine .dN 60 ?_;simp[q1];refine .trans (.exit rfl rfl) ?_;refine .trees [4] ?_;simp[adu,iR];refine .bf 60 ?_;simp[htk,hlen]
  |succ n ih=>
   intro i hi
   have q1:i<l.length:=by omega
   have q2:=cv (hk.of q1);have hh:=ih (i+1) (by omega)
   have e1:cT m (l.take (i+1))=cT m (l.take i)++[pD m l[i]]:=by
    rw[k5 q1,cT,kZ];rfl
   have hlen:(cT m (l.take i)).length=i:=by simp[cT];omega
   rw[e1]at hh;have hf:=ac2 l[i] m;have hlk:pD m l[i]=(match getM l[i] m with|some v=>v|none=>0):=rfl
   have hle:((i:Int)+1)<=140737488355328:=by omega
   generalize cT m (l.take i)=P at*;refine .bf 60 ?_
   cases hg:getM l[i] m with
   |none=>
    rw[hg]at hf hlk;simp at hf hlk;rw[hlk]at hh;simp(disch:=omega) [q1,q2,hget,hget2,hf,isKey,cf,cP,hle,hlen];refine .aL ?_;simp;refine .qb (i:=h.length+1) O6 (by simp) (by simp[hlen]) (by simp[hvv]) ?_;simp at hh⊢;exact hh
   |some v=>
    rw[hg]at hf hlk;simp at hf hlk;rw[hlk]at hh;simp(disch:=omega) [q1,q2,hget,hget2,hf,isKey,cf,cP,hle,hlen];refine .aL ?_;simp;refine .qb (i:=h.length+1) O6 (by simp) (by simp[hlen]) (by simp[hvv]) ?_;simp at hh⊢;exact hh
 refine .ab0 [.row 1 an [] none true false,.row 1 an ((cT m l).map iN) none true true] hw (by simp) ?_;refine .bF 60 UT ?_;simp;refine .inLoop ?_;have hh:=key l.length 0 (by omega);simp[cT]at hh⊢;exact hh
abbrev mdC(c:Ct)(L:AV):Ob:=.cells [.int .i64 0,.list true 0 [],.list true 0 [],.list true 0 [],.list true 0 [],.list false 1 (c.aB.map .str),L,.list false 1 (c.aW.map .str)]
abbrev hA(c:Ct)(L:AV)(B:Ob)(m:List (Bs×Nat)):List Ob:=[.cells (AV.cells (bX c)),mdC c L,.row 1 an [] none true false,.row 1 an [] none true false,.row 2 cM [] none true false,.row 1 an [] none true false,.row 1 aE [] none true false,.row 1 aE [] none true false,.row 1 aE [] none true false,
 .cells [.int .i64 0],.cells [.str []],B,.map (m.map gT) true,.cells [.mp 12]]
abbrev sw:Cx:=⟨[.call zk [.ptr 1 0,.ptr 9 0,.ptr 10 0]],.norm,0,[]⟩
@[simp] theorem ayQ(n k:Nat)(z:Int):aK n (List.replicate k (.int .i64 z))=true:=by
 induction k with
 |zero=>rfl
 |succ k ih=>simp[kV,ih]
@[simp] theorem ayM(i m k:Nat)(z:Int):cY i m (List.replicate k (.int .i64 z))=true:=by
 induction k with
 |zero=>rfl
 |succ k ih=>simp[kV,ih]
theorem tE(n:Nat):(gM n).length=n:=by simp[gM]
theorem U3(N:List Bs)(v:List Nat){i:Nat}(hi:i<N.length)(h2:i<v.length):(N.take (i+1)).zip (v.take (i+1))=(N.take i).zip (v.take i)++[(N[i],v[i])]:=by
 rw[k5 hi,k5 h2,List.zip_append (by simp;omega)];rfl
theorem Vj{N:List Bs}(hn:N.Nodup)(v:List Nat){i:Nat}(hi:i<N.length):getM N[i] ((N.take i).zip (v.take i))=none:=by
 rw[getM_none];intro x hx he;have:=(List.of_mem_zip (a:=x.1) (b:=x.2) hx).1;obtain⟨j,hj,hje⟩:=k8 this;rw[qQ]at hje;have h1:=(C8 (xs:=N) (i:=j) (j:=i) (h₀:=by simp at hj;omega) (h₁:=hi) hn).1 (hje.trans he)
 simp at hj;omega
set_option maxRecDepth 8000 in
theorem aeU(c:Ct)(N:List Bs)(hN:N.Nodup)(hNl:N.length<2^20)(L:AV)(B:Ob)(hB:gA 14 B=true)(hL:aG 14 L=true){o:Out}
 (hc:ay Tryz.prog Γ (ycu (.ptr 0 0) (.ptr 1 0) (.ptr 9 0) (.ptr 10 0) (.ptr 11 0) (.ptr 13 0) (hA c L B (N.zip (gM N.length))) sw) o):∀n i:Nat,i+n=N.length->
 ay Tryz.prog Γ (yct (.ptr 0 0) (.ptr 1 0) (.ptr 9 0) (.ptr 10 0) (.ptr 11 0) (.ptr 13 0) (.list false 1 (N.map .str)) (.int .i64 N.length) (.int .i64 i) (hA c L B ((N.take i).zip ((gM N.length).take i))) sw) o:=by
 intro n
 induction n with
 |zero=>
  intro i hi
  have q1:¬i<N.length:=by omega
  rw[cS (by omega),cS (by rw[tE];omega)];refine .dN 60 ?_;simp[q1];exact .reach (.exit rfl rfl) hc
 |succ n ih=>
  intro i hi
  have q1:i<N.length:=by omega
  have hh:=ih (i+1) (by omega)
  have hv:(gM N.length)[i]'(by rw[tE];exact q1)=2*(i+1):=by simp[gM]
  rw[U3 N _ q1 (by rw[tE];exact q1),hv]at hh
  have hput:h_ (.sc .str) (.str N[i]) (.int .i64 (2*((i:Int)+1))) (((N.take i).zip ((gM N.length).take i)).map gT)=some (((N.take i).zip ((gM N.length).take i)).map gT++[(.str N[i],.int .i64 (2*((i:Int)+1)))]):=by
   have:=Es (E:=.sc .str) (e:=AV.str) qf iN (2*(i+1)) (Vj hN (gM N.length) q1);rw[kZ]at this;rw[show AV.int .i64 (2*((i:Int)+1))=iN (2*(i+1)) by simp[iN]];exact this
  generalize(N.take i).zip ((gM N.length).take i)=m at*;refine .dN 60 ?_;simp(disch:=omega) [q1,hput,isKey,cf,cP];refine .aL ?_;simp[hA]at hh⊢;exact hh
abbrev hB(c:Ct)(m:List (Bs×Nat))(i:Nat):List Ob:=hA c (.sl 15 0 i) (.cells [.int .i64 c.aB.length,.list false 1 (List.replicate c.ak.length (.int .i64 0)),.sl 16 0 i,.list false 0 [],.list false 0 []]) m++
 [.row 1 aE ((c.ak.take i).map fun q=>.str q.next) none true false,.row 1 aE ((c.ak.take i).map fun q=>.str q.name) none true false,.row 1 an ((c.ak.take i).map fun q=>.int .i64 q.init) none true false]
set_option maxRecDepth 8000 in
theorem aei(c:Ct)(hcf:cj c)(m:List (Bs×Nat)){o:Out}
 (hc:ay Tryz.prog Γ (ycr (.ptr 0 0) (.ptr 1 0) (.ptr 9 0) (.ptr 10 0) (.ptr 11 0) (.ptr 13 0) (.fn (.func ot) [] [.ptr 13 0]) (.sl 14 0 c.ak.length) (hB c m c.ak.length) sw) o):∀n i:Nat,i+n=c.ak.length->
 ay Tryz.prog Γ (ycq (.ptr 0 0) (.ptr 1 0) (.ptr 9 0) (.ptr 10 0) (.ptr 11 0) (.ptr 13 0) (.fn (.func ot) [] [.ptr 13 0]) (.sl 14 0 i) (.list false c.kL (c.ak.map pC)) (.int .i64 c.ak.length) (.int .i64 i) (hB c m i) sw) o:=by
 have b2:=hcf.2.2.1;intro n
 induction n with
 |zero=>
  intro i hi
  have q1:¬i<c.ak.length:=by omega
  have he:i=c.ak.length:=by omega
  subst he;refine .dN 60 ?_;simp[q1]at hc⊢;exact .reach (.exit rfl rfl) hc
 |succ n ih=>
  intro i hi
  have q1:i<c.ak.length:=by omega
  have q2:=cv (c.hL.of q1);have hh:=ih (i+1) (by omega)
  have hle:((i:Int)+1)<=140737488355328:=by omega
  have e:c.ak.take (i+1)=c.ak.take i++[c.ak[i]]:=k5 q1;simp only[hB,e,kZ]at hh⊢
  have hlen:(c.ak.take i).length=i:=by simp;omega
  generalize c.ak.take i=P at*;refine .dN 60 ?_;simp(disch:=omega) [q1,q2,hlen,hle];refine .dr 60 ?_;simp(disch:=omega) [q1,q2,hlen,hle];refine .aL ?_;simp;have hbm:=nG 17 m
  have hvm:=fun i k=>oU i k m
  refine .drop 17 rfl (by simp) (by simp) (by simp[hbm]) ?_;refine .reset (i:=14) rfl (by simp) (by simp[hlen]) (by simp[hvm]) ?_;refine .reset (i:=15) rfl (by simp) (by simp[hlen]) (by simp[hlen,hvm]) ?_;refine .reset (i:=16) rfl (by simp) (by simp[hlen]) (by simp[hlen,hvm]) ?_;simp[hA]at hh⊢;exact hh
theorem Mx(d:Nat):∀(N:List Bs)(v:List Nat)(j:Nat)(hn:N.Nodup)(hj:j<N.length),v.length=N.length->h_ (.sc .str) (.str N[j]) (iN d) ((N.zip v).map gT)=some ((N.zip (v.set j d)).map gT)
 |[],v,j,hn,hj,hv=>by simp at hj
 |s::N,[],j,hn,hj,hv=>by simp at hv
 |s::N,a::v,0,hn,hj,hv=>by simp[h_,qf]
 |s::N,a::v,j+1,hn,hj,hv=>by
  rw[k7]at hn
  have hj':j<N.length:=by simpa using hj
  have ih:=Mx d N v j hn.2 hj' (by simpa using hv)
  have hne:¬N[j]=s:=fun e=>hn.1 (by rw[<-e];exact bC hj')
  simp only[sO,Jc,b9,h_,qf,hne,mE,ih,dt,pF]
def qy(c:Ct)(p:List Nat)(k:Nat):Prop:=k<c.aB.length+c.ak.length\/∃j∈p,k=c.aB.length+c.ak.length+j
def qC(c:Ct)(x:Gr)(v:List Nat)(p:List Nat):Prop:=∀k(hk:k<v.length),qy c p k->v[k]<x.lits
theorem qn:∀(N:List Bs)(v:List Nat)(k:Nat)(hn:N.Nodup)(hk:k<N.length)(hv:v.length=N.length),pD (N.zip v) N[k]=v[k]'(by omega)
 |[],v,k,hn,hk,hv=>by simp at hk
 |s::N,[],k,hn,hk,hv=>by simp at hv
 |s::N,a::v,0,hn,hk,hv=>by simp[pD,getM]
 |s::N,a::v,k+1,hn,hk,hv=>by
  rw[k7]at hn
  have hk':k<N.length:=by simpa using hk
  have ih:=qn N v k hn.2 hk' (by simpa using hv)
  have hne:¬N[k]=s:=fun e=>hn.1 (by rw[<-e];exact bC hk')
  simp only[pD,Jc,sO,getM,hne,c9]at ih⊢;exact ih
theorem Gn(c:Ct){a:Nat}(ha:a<c.af.length):∃h:c.aB.length+c.ak.length+a<(aD c).length,(aD c)[c.aB.length+c.ak.length+a]=c.af[a].name:=by
 have h:c.aB.length+c.ak.length+a<(aD c).length:=by simp[aD];try omega
 refine⟨h,?_⟩
 have:(aD c)[c.aB.length+c.ak.length+a]? =some c.af[a].name:=by
  rw[aD,dF (by simp),vd]
  rw[show c.aB.length+c.ak.length+a-(c.aB++c.ak.map (·.name)).length=a by simp,bg ha];rfl
 exact(dD.1 this).2
theorem wk(c:Ct):(aD c).length=c.aB.length+c.ak.length+c.af.length:=by simp[aD,nh]
theorem Fw{c:Ct}(ok:fQ c){i:Nat}(hi:i<(aR c).length){s:Bs}(hs:s∈(c.af[(aR c)[i]]'(oL c _ (bC hi))).ins):∃k,∃hk:k<(aD c).length,(aD c)[k]=s/\qy c ((aR c).take i) k:=by
 have ha:=oL c _ (bC hi)
 have hu:s∈eS c:=by
  simp only[eS,mb,bl,pM];exact .inr ⟨_,bC ha,hs⟩
 obtain⟨k,hk,he⟩:=k8 (ok.used s hu);refine⟨k,hk,he,?_⟩
 by_cases h1:k<c.aB.length+c.ak.length
 ·exact .inl h1
 ·have hl:=wk c
  have hj:k-(c.aB.length+c.ak.length)<c.af.length:=by omega
  obtain⟨h2,h3⟩:=Gn c hj;refine .inr ⟨k-(c.aB.length+c.ak.length),ZW c hi ((wQ ha hj).2 ?_),by omega⟩;rw[<-h3]
  have e:c.aB.length+c.ak.length+(k-(c.aB.length+c.ak.length))=k:=by omega
  simp only[e,he];exact hs
theorem ud{c:Ct}{x:Gr}{v p:List Nat}(hn:(aD c).Nodup)(hv:v.length=(aD c).length)(h:qC c x v p){l:List Bs}(hl:∀s∈l,∃k,∃hk:k<(aD c).length,(aD c)[k]=s/\qy c p k):∀a∈cT ((aD c).zip v) l,a<x.lits:=by
 intro a ha;obtain⟨s,hs,rfl⟩:=cC.1 ha;obtain⟨k,hk,rfl,hc⟩:=hl s hs;rw[qn _ _ k hn hk hv];exact h k (by omega) hc
theorem qC.step{c:Ct}{x y:Gr}{v p:List Nat}(h:qC c x v p)(hxy:x.lits<=y.lits){a d:Nat}(hd:d<y.lits):qC c y (v.set (c.aB.length+c.ak.length+a) d) (p++[a]):=by
 intro k hk hc;rw[List.getElem_set]
 split
 ·exact hd
 ·rename_i hne;refine gD (h k (by simpa using hk) ?_) hxy
  rcases hc with hc|⟨j,hj,rfl⟩
  ·exact .inl hc
  ·rcases bl.1 hj with hj|hj
   ·exact .inr ⟨j,hj,rfl⟩
   ·simp only[dC]at hj;subst hj;exact absurd rfl hne
theorem k_(m:List (Bs×Nat))(l:List Bs):(cT m l).length=l.length:=by simp[cT]
abbrev OR(c:Ct):AV:=.list false 1 ((c.ak.map (·.name)).map .str)
abbrev hM(c:Ct)(x:Gr)(v:List Nat):List Ob:=hA c (OR c) (cz x) ((aD c).zip v)
theorem O_(c:Ct)(x:Gr)(v:List Nat)(os:List Ob)(hos:∀m,14+os.length<=m->cE m os=true):cO (hM c x v++os):=fun m hm=>by
 have h1:=nG m ((aD c).zip v);simp at hm;have h2:=hos m (by omega);simp[h1,h2];omega
theorem O1(c:Ct)(x:Gr)(v:List Nat)(os:List Ob)(hos:∀i m,14+os.length<=i->cH i m os=true):fX (hM c x v++os):=fun i m hi=>by
 have h1:=oU i m ((aD c).zip v);simp at hi;have h2:=hos i m (by omega);simp[h1,h2]
 try omega
def BF(c:Ct)(r:Gr×Option (List Nat)):Md×Int×Bs:=match r.2 with
 |none=>(jH,8,[])
 |some v=>(eE c r.1 v,0,[])
theorem aaR{c:Ct}(hc:cj c){y:Gr}(ok:y.Ok)(v:List Nat):(da c y v).jc:=by
 have f:=ok.jc;have b1:=hc.2.1;have b2:=hc.2.2.1;refine⟨?_,f.2.1,f.2.2.1,?_⟩
 ·simp[da,k_];omega
 ·simp[da,k_];omega
set_option maxRecDepth 8000 in
theorem ae0(c:Ct)(hc:cj c)(y:Gr)(ok:y.Ok)(v:List Nat):
 ay Tryz.prog Γ (yco (.ptr 0 0) (.ptr 1 0) (.ptr 9 0) (.ptr 10 0) (.ptr 11 0) (.fn (.func ot) [] [.ptr 13 0]) (.list false 1 ((c.ak.map (·.next)).map .str)) (hM c y v) sw) (.ret (uN (eE c y v,0,[]))):=by
 have b1:=hc.2.1;have b2:=hc.2.2.1;have hw:=O_ c y v [] (by simp);have hv:=O1 c y v [] (by simp);rw[fZ]at hw hv;have h1:=Gb (Γ:=Γ) ((aD c).zip v) (c.ak.map (·.next)) (fl:=false) (k:=1) .self (by simp;omega) (j:=13) (q:=12) (h:=hM c y v) rfl rfl hw hv;have h2:=Gb (Γ:=Γ) ((aD c).zip v) c.aW (fl:=false) c.hO (by omega) (j:=13) (q:=12) (h:=hM c y v) rfl rfl hw hv;have hN:=V' (Γ:=Γ) (da c y v) (aaR hc ok v)
 have hG:eW (da c y v)=.agg [.int .i64 y.ins,.list false 1 ((cT ((aD c).zip v) (c.ak.map (·.next))).map iN),.list false y.ki (y.init.map i64),.list false y.ka (y.ands.map cN),.list false 1 ((cT ((aD c).zip v) c.aW).map iN)]:=by
  simp[da,eW,x_]
 rw[hG]at hN;unfold eE;generalize(da c y v).normal=NG at*;generalize(da c y v).check=CH at*;clear hG;generalize cT ((aD c).zip v) (c.ak.map (·.next))=A1 at*;generalize cT ((aD c).zip v) c.aW=A2 at*;simp only[ij]at h1;refine .go 9 ?_;simp;refine .dr 60 ?_;simp;refine gB.reach (by simp) h1 ?_;simp;refine gB.reach (by simp) h2 ?_;simp;refine .call 60 (by simp) hN ?_;simp;exact .back (by simp)
theorem ER(c:Ct){a:Nat}(ha:a<c.af.length)(r:List Nat)(x:Gr)(v:List Nat):mi c (a::r) x v=eF (ky x c.af[a] (cT ((aD c).zip v) c.af[a].ins)) fun y d=>mi c r y (v.set (c.aB.length+c.ak.length+a) d):=by
 rw[mi,bg ha]
abbrev HN(c:Ct)(x:Gr)(v:List Nat)(g:Gt):List Ob:=hM c x v++[.cells (AV.cells (dg g)),.row 1 aE [] none true false,.row 1 aE [] none true false]
set_option maxRecDepth 8000 in
theorem afi(hΩ:uF Γ)(c:Ct)(hc:cj c)(okc:fQ c)(hN:(aD c).Nodup):∀n i:Nat,i+n=(aR c).length->∀(x:Gr)(v:List Nat),x.Ok->v.length=(aD c).length->qC c x v ((aR c).take i)->
 ay Tryz.prog Γ (ycn (.ptr 0 0) (.ptr 1 0) (.ptr 9 0) (.ptr 10 0) (.ptr 11 0) (.ptr 13 0) (.fn (.func ot) [] [.ptr 13 0]) (.list false 1 ((c.ak.map (·.next)).map .str)) (.list false 1 ((aR c).map iN)) (.int .i64 (aR c).length) (.int .i64 i) (hM c x v) sw) (.ret (uN (BF c (mi c ((aR c).drop i) x v)))):=by
 have hll:=KM hc;intro n
 induction n with
 |zero=>
  intro i hi x v ok hv hvl
  have q1:¬i<(aR c).length:=by omega
  have hE:=ae0 (Γ:=Γ) c hc x ok v;rw[bw (by omega),mi,BF];simp only[ij]at hE⊢;refine .dN 60 ?_;simp[q1];exact .reach (.exit rfl rfl) hE
 |succ n ih=>
  intro i hi x v ok hv hvl
  have q1:i<(aR c).length:=by omega
  have ha:=oL c _ (bC q1);have q2:=cv (c.hG.of ha);have hgf:=hc.2.2.2.2.1 _ (bC ha);have hgb:=okc.af _ (bC ha);have ih:=ih (i+1) (by omega);have hlt:=ud hN hv hvl (l:=c.af[(aR c)[i]].ins) (fun s hs=>Fw okc q1 hs);have hst:(aR c).take (i+1)=(aR c).take i++[(aR c)[i]]:=k5 q1;rw[bM q1,ER c ha];obtain⟨hna,hnm⟩:=Gn c ha
  have hput:=fun d=>Mx d (aD c) v _ hN hna hv
  rw[hnm]at hput
  have gl:((aR c).map iN)[i]? =some (.int .i64 (aR c)[i]):=by simp[q1]
  obtain⟨gl1,gl2⟩:=dD.1 gl
  have hEl:((aR c).map iN).length=(aR c).length:=by simp
  generalize(aR c)[i]=a at*;have hw:=O_ c x v [.cells (AV.cells (dg c.af[a])),.row 1 aE [] none true false,.row 1 aE [] none true false] (by intro m hm;simp);have hwv:=O1 c x v [.cells (AV.cells (dg c.af[a])),.row 1 aE [] none true false,.row 1 aE [] none true false] (by intro m k hm;simp);have h1:=Gb (Γ:=Γ) ((aD c).zip v) c.af[a].ins (fl:=false) c.af[a].hi (by have:=hgf.2.1;omega) (j:=13) (q:=12) (h:=HN c x v c.af[a]) rfl rfl hw hwv;have hll2:=k_ ((aD c).zip v) c.af[a].ins;have hg:=acx (Γ:=Γ) hΩ c.af[a] hgb hgf (cT ((aD c).zip v) c.af[a].ins) hll2 (ki:=1) .self x (i:=11) (h:=HN c x v c.af[a]) rfl hw hwv ok hlt;have hfi:=Em ok c.af[a] hlt;generalize cT ((aD c).zip v) c.af[a].ins=K at*;simp only[ij]at ih h1 hg⊢;refine .dN 60 ?_
  simp(disch:=omega) [q1,q2,gl,gl2,hEl,ha]
  cases h9:ky x c.af[a] K with
  |mk y r=>
   rw[h9]at hg hfi
   cases r with
   |none=>
    simp only[cK,eF,BF]at hg⊢
    obtain⟨D,hD1,hD2⟩:∃D,(∀its t,slot t 2=.ptr 1 0->slot t 3=.ptr 9 0->slot t 4=.ptr 10 0->AM.Reach Tryz.prog Γ (.cl vA [.ptr 11 0,dg c.af[a],.list false 1 (K.map iN)] (⟨.run,j9,its,t,sw.ds,.norm,0⟩::[]) (HN c x v c.af[a])) D)/\ay Tryz.prog Γ D (.ret (uN (jH,8,[]))):=by
     refine⟨?_,fun its t t2 t3 t4=>.jW 90 hg ?_,?_⟩
     rotate_left
     ·simp[t2,t3,t4];exact .refl _
     ·exact .back (by simp[jH,fv])
    refine .reach (.O7 (D:=D) ?_) hD2;simp;refine gB.reach (by simp) h1 ?_;simp;refine gB.die (.int .i64 0) (by simp) (fun its t hk=>hD1 its t (hk 2 (by simp)) (hk 3 (by simp)) (hk 4 (by simp))) ?_;have hput0:h_ (.sc .str) (.str c.af[a].name) (.int .i64 0) _=_:=hput 0;simp[hput0,isKey,cf,cP];exact .of (by simp)
   |some d=>
    have hd:=hfi.2 d rfl;have hh:=ih y (v.set (c.aB.length+c.ak.length+a) d) hfi.1.ok (by simpa using hv) (by rw[hst];exact hvl.step hfi.1.lits hd);simp only[cK,eF]at hg⊢;refine .dr 60 ?_;simp;refine gB.reach (by simp) h1 ?_;simp;refine gB.reach (by simp) hg ?_;simp(disch:=omega) [hput,isKey,cf,cP];refine .aL ?_;simp;have hbm:=nG 14 ((aD c).zip (v.set (c.aB.length+c.ak.length+a) d));refine .drop 14 rfl (by simp) (by simp) (by simp[hbm]) ?_;simp at hh⊢;exact hh
theorem F9{c:Ct}(hc:cj c)(ok:fQ c):(de c).Ok:=by
 have h0:=ok.lG;simp only[iZ,jK,iO]at h0;refine⟨⟨by simp[de],by simp[de];omega⟩,by simp[de];omega,by simp[de],by simp[de],fun a ha=>?_,fun a ha=>?_,fun a ha=>by simp[de]at ha,fun i hi=>by simp[de]at hi⟩
 ·simp only[de,cC]at ha;obtain⟨q,hq,rfl⟩:=ha;have:=ok.init q hq;simpa[lW]using this
 ·simp only[de,SI]at ha;obtain⟨_,rfl⟩:=ha;have:=wu (de c);omega
theorem E_{c:Ct}(hc:cj c):qC c (de c) (gM (aD c).length) []:=by
 intro k hk h
 rcases h with h|⟨j,hj,_⟩
 ·have e:(gM (aD c).length)[k]=2*(k+1):=by simp[gM]
  rw[e];simp only[Gr.lits,Gr.all,Gr.first,de,fB,oj,dh];omega
 ·cases hj
set_option maxRecDepth 8000 in
theorem F4(hΓ:jB Γ)(hΩ:uF Γ)(c:Ct)(hb:jb c):aP Tryz.prog Γ j9 [bX c] (uN (jS c)):=by
 have hC:=Mm hΓ c hb;refine .run 60 VA (by simp) ?_;unfold jS
 by_cases h0:(jo c).1=0
 ·rw[if_pos h0];simp;refine .call 60 (by simp) hC ?_;simp[h0]
  have hok:mo c=true:=by unfold mo;simp[h0]
  obtain⟨hr,hn,_⟩:=ub hok;obtain⟨ok,_⟩:=tQ hr;have hc:=rE hb hr;have b0:=hc.1;have b1:=hc.2.1;have b2:=hc.2.2.1;have hCI:=sS (Γ:=Γ) c.aB c.hI (by omega);have hCO:=sS (Γ:=Γ) c.aW c.hO (by omega);have hN:=Ot (Γ:=Γ) c hc;have hS:=NV hΓ c hb
  have hSo:Bp c=aR c:=by simp[Bp,hr]
  rw[hSo]at hS;have hnl:=acT hc
  have hnd:(aD c).Nodup:=by
   have:=vX ok;simpa[aD,eH]using this
  have h3:=afi (Γ:=Γ) hΩ c hc ok hnd (aR c).length 0 (by omega) (de c) (gM (aD c).length) (F9 hc ok) (tE _) (E_ hc);refine .dr 60 ?_;simp(disch:=omega);refine .dr 60 ?_;simp(disch:=omega);refine gB.call (by simp) hCI ?_;simp(disch:=omega);refine gB.call (by simp) hCO ?_;simp(disch:=omega);refine .call 60 (by simp) hN ?_;simp;refine .trees [50] ?_;simp[iR];refine .inLoop ?_;simp;refine .l7 5 (i:=1) rfl ?_;simp;refine .l7 7 (i:=1) rfl ?_;simp;refine .l7 1 (i:=12) rfl ?_;simp;refine .gc 11 [1,4,5] (by simp) (by decide) ?_;simp;refine aeU c (aD c) hnd (by omega) (.list true 0 []) (.cells [.int .i64 c.aB.length,.list false 1 (List.replicate c.ak.length (.int .i64 0)),.list true 0 [],.list true 0 [],.list true 0 []]) (by simp) (by simp) ?_ (aD c).length 0 (by omega);refine .go 12 ?_;simp
  refine .qc 1 6 1 aE rfl rfl (by omega) ?_;simp;refine .qc 11 2 1 an rfl rfl (by omega) ?_;simp;refine .l7 3 (i:=11) rfl ?_;simp;refine .l7 4 (i:=11) rfl ?_;simp;refine .go 60 ?_;simp;refine .inLoop ?_;simp;refine aei c hc ((aD c).zip (gM (aD c).length)) ?_ c.ak.length 0 (by omega);refine .go 60 ?_;simp;refine .call 60 (by simp) hS ?_;simp;refine .trees [12,102] ?_;simp[iR];refine .l7 6 (i:=1) rfl ?_;simp[iR];refine .l7 2 (i:=11) rfl ?_;simp[iR];refine .inLoop ?_;simp;have hbm:=nG 14 ((aD c).zip (gM (aD c).length));refine .drop 14 rfl (by simp) (by simp) (by simp[hbm]) ?_;unfold ml;rw[iq]at h3;generalize mi c (aR c) (de c) (gM (aD c).length)=R at h3⊢;simp[de,x_,BF,OR,hM,hA,cz]at h3⊢;exact h3
 ·rw[if_neg h0];simp;refine .call 60 (by simp) hC ?_;simp[h0];exact .back (by simp[jH,fv])
theorem KA(a b:List Bs){ka kb:Nat}(ha:Kd 1 ka a)(hb:Kd 1 kb b)(hl:a.length+b.length<2^40):aP Tryz.prog Γ mG [.list false 1 [.list false ka (a.map .str),.list false kb (b.map .str)]] (.own 1 aE ((a++b).map .str)):=by
 by_cases h:a++b=[]
 ·rw[SG]at h;have:=Jn (Γ:=Γ) [(ka,a),(kb,b)] (by simp[h]) (by simp);simpa[h,mY]using this
 ·have h2:0<(a++b).length:=qU.2 h;have:=Jp (Γ:=Γ) [(ka,a),(kb,b)] (by simp[ha,hb]) (by simp) (by simp[cd];omega) (by simpa[cd]using h2);simpa[cd,mY]using this
theorem ac8(l:List Bs):iH Tryz.prog Γ (fun _=>True) zn [] AV.str (fun s=>!iC s) l:=by
 refine⟨by simp,fun s hs up h _=>?_⟩;refine .bF 60 Vr ?_;simp;refine .nM 60 (by simp) (OT s) ?_;simp
theorem Gd(l:List Bs){k:Nat}(hk:Kd 1 k l)(hl:l.length<2^40):aP Tryz.prog Γ tp [.list false k (l.map .str)] (.bool (br (fun s=>!iC s) l)):=by
 refine .run 60 Wm (by simp) ?_;simp;refine .bd 60 (zb (Γ:=Γ) (fl:=false) (ac8 l) hk (by omega) (h:=[]) trivial) ?_;simp;exact .back (by simp)
def n6(l:List Bs):Bool:=(iy l).isSome
theorem aeV(l:List Bs){k:Nat}(hk:Kd 1 k l)(hl:l.length<2^40):∀n i:Nat,i+n=l.length->∀seen:List Bs,
 ay Tryz.prog Γ (ykd (.mp 0) (.list false k (l.map .str)) (.int .i64 l.length) (.int .i64 i) [.map (seen.map jr) true]) (.ret (.bool (lp seen (l.drop i)).isSome)):=by
 intro n
 induction n with
 |zero=>
  intro i hi seen
  have q1:¬i<l.length:=by omega
  rw[bw (by omega),lp];refine .go 60 ?_;simp[q1];exact .back (by simp)
 |succ n ih=>
  intro i hi seen
  have q1:i<l.length:=by omega
  have q2:=cv (hk.of q1);have hf:=vQ l[i] seen;rw[bM q1,lp];refine .go 60 ?_
  by_cases hm:l[i]∈seen
  ·simp[hm]at hf;simp[q1,q2,hf,hm,isKey,cf,cP];exact .back (by simp)
  ·have hh:=ih (i+1) (by omega) (seen++[l[i]]);have hput:=zK (v:=.bool true) hm;simp[hm]at hf;simp(disch:=omega) [q1,q2,hf,hm,hput,isKey,cf,cP];refine .aL ?_;simp at hh⊢;exact hh
theorem MS(l:List Bs){k:Nat}(hk:Kd 1 k l)(hl:l.length<2^40):aP Tryz.prog Γ te [.list false k (l.map .str)] (.bool (n6 l)):=by
 refine .run 60 Vp (by simp) ?_;simp;refine .inLoop ?_;have hh:=aeV (Γ:=Γ) l hk hl l.length 0 (by omega) [];simp[n6,iy]at hh⊢;exact hh
def jT(m:Md)(s:Bs):Int:=if eM s (m.aB++m.ak) 0<0 then-1 else eM s (m.aB++m.ak) 0+1
theorem FH(s:Bs):∀(l:List Bs)(i:Nat),eM s l i<(i+l.length:Nat)
 |[],i=>by simp[eM];omega
 |a::l,i=>by
  rw[eM];have:=FH s l (i+1)
  split
  ·simp;omega
  ·simp at this⊢;omega
theorem FX(s:Bs):∀(l:List Bs)(i:Nat),-1<=eM s l i
 |[],i=>by simp[eM]
 |a::l,i=>by
  rw[eM];have:=FX s l (i+1)
  split<;>omega
theorem Fj(m:Md)(s:Bs)(hI:m.aB.length<2^30)(hL:m.ak.length<2^30):aP Tryz.prog Γ td [py m,.str s] (.int .i64 (jT m s)):=by
 have h1:=KA (Γ:=Γ) m.aB m.ak m.hI m.hL (by omega);have h2:=Na (Γ:=Γ) (m.aB++m.ak) s (k:=1) .self (by simp;omega);have h3:=FH s (m.aB++m.ak) 0;have h4:=FX s (m.aB++m.ak) 0;simp only[bR]at h3;unfold jT;generalize eM s (m.aB++m.ak) 0=n at*;refine .run 60 VC (by simp) ?_;simp;refine .call 60 (by simp) h1 ?_;simp;have htk:(m.aB.map AV.str++m.ak.map AV.str).take (m.aB.length+m.ak.length)=m.aB.map AV.str++m.ak.map AV.str:=cS (by simp);refine .call 60 (by simp[htk]) h2 ?_
 by_cases h:n<0
 ·simp[h];exact .back (by simp)
 ·simp(disch:=omega) [h];exact .back (by simp)
def Br(a b:Md):Bool:=wS a.g b.g&&(decide (a.aB=b.aB)&&(decide (a.ak=b.ak)&&decide (a.aW=b.aW)))
def uS(m:Md):Prop:=m.g.jc/\m.aB.length<2^30/\m.ak.length<2^30/\m.aW.length<2^30
theorem N8(a b:Md)(ha:uS a):aP Tryz.prog Γ vM [py a,py b] (.bool (Br a b)):=by
 obtain⟨f,f1,f2,f3⟩:=ha;have h0:=KL (Γ:=Γ) a.g b.g f;have h1:=Db (Γ:=Γ) a.aB b.aB a.hI b.hI (by omega);have h2:=Db (Γ:=Γ) a.ak b.ak a.hL b.hL (by omega);have h3:=Db (Γ:=Γ) a.aW b.aW a.hO b.hO (by omega);unfold Br;generalize wS a.g b.g=s0 at*;refine .run 60 VM (by simp) ?_;simp;refine .call 60 (by simp) h0 ?_
 cases s0
 ·simp;exact .back (by simp)
 ·simp;refine .call 60 (by simp) h1 ?_
  by_cases c1:a.aB=b.aB
  ·simp[c1];refine .call 60 (by simp) h2 ?_
   by_cases c2:a.ak=b.ak
   ·simp[c2];refine .call 60 (by simp) h3 ?_;simp;exact .back (by simp)
   ·simp[c2];exact .back (by simp)
  ·simp[c1];exact .back (by simp)
def sd(m:Md):List Bs->List Int->Bool
 |s::l,a::r=>(decide (0<=jT m s)&&!decide (a=2*jT m s))||sd m l r
 |_,_=>false
def nX(m:Md):Bool:=!decide ((m.aB.length:Int)=m.g.ins)||(!decide (m.ak.length=m.g.next.length)||!decide (m.aW.length=m.g.outs.length))
def GK(m:Md):Bool:=br (fun s=>!iC s) m.aB||(br (fun s=>!iC s) m.ak||br (fun s=>!iC s) m.aW)
def rT(m:Md):Int:=if m.g.check≠0 then m.g.check else if nX m=true then 1 else if GK m=true then 4 else if(n6 (m.aB++m.ak)||n6 m.aW)=true then 5 else if sd m m.aW m.g.outs=true then 5 else 0
theorem Wp(m:Md)(s:Bs):-1<=jT m s/\jT m s<=m.aB.length+m.ak.length:=by
 have h3:=FH s (m.aB++m.ak) 0;have h4:=FX s (m.aB++m.ak) 0;simp only[bR]at h3;unfold jT
 split<;>omega
set_option maxRecDepth 8000 in
theorem aer(m:Md)(hI:m.aB.length<2^30)(hL:m.ak.length<2^30)(hO:m.aW.length=m.g.outs.length)(hl:m.g.outs.length<2^30):∀n i:Nat,i+n=m.aW.length->
 ay Tryz.prog Γ (ydJ (.ptr 0 0) (.list false m.kO (m.aW.map .str)) (.int .i64 m.aW.length) (.int .i64 i) [.cells (AV.cells (py m))]) (.ret (.int .i64 (if sd m (m.aW.drop i) (m.g.outs.drop i)=true then 5 else 0))):=by
 intro n
 induction n with
 |zero=>
  intro i hi
  have q1:¬i<m.aW.length:=by omega
  rw[bw (by omega),sd]
  ·refine .go 60 ?_;simp[q1];exact .back (by simp)
  ·intro s l a r h;cases h
 |succ n ih=>
  intro i hi
  have q1:i<m.aW.length:=by omega
  have q3:i<m.g.outs.length:=by omega
  have q2:=cv (m.hO.of q1);have q4:=cv (m.g.ho.of q3);have hh:=ih (i+1) (by omega);have hP:=Fj (Γ:=Γ) m m.aW[i] hI hL;obtain⟨hp1,hp2⟩:=Wp m m.aW[i];rw[bM q1,bM q3,sd];generalize jT m m.aW[i]=p at*;refine .go 60 ?_;simp[q1,q2];refine .call 60 (by simp) hP ?_
  by_cases c1:0<=p
  ·by_cases c2:m.g.outs[i]=2*p
   ·simp(disch:=omega) [c1,c2,q3,q4];refine .aL ?_;simp[c1,c2]at hh⊢;refine .drop 1 rfl (by simp) (by simp) (by simp) ?_;exact hh
   ·simp(disch:=omega) [c1,c2,q3,q4];exact .back (by simp)
  ·simp(disch:=omega) [c1];refine .aL ?_;simp[c1]at hh⊢;refine .drop 1 rfl (by simp) (by simp) (by simp) ?_;exact hh
set_option maxRecDepth 8000 in
theorem E6(m:Md)(hb:uS m):aP Tryz.prog Γ rm [py m] (.int .i64 (rT m)):=by
 obtain⟨f,f1,f2,f3⟩:=hb;obtain⟨g1,g2,g3,g4⟩:=f;have h0:=rp (Γ:=Γ) m.g ⟨g1,g2,g3,g4⟩;have o1:=Gd (Γ:=Γ) m.aB m.hI (by omega);have o2:=Gd (Γ:=Γ) m.ak m.hL (by omega);have o3:=Gd (Γ:=Γ) m.aW m.hO (by omega);have cc:=KA (Γ:=Γ) m.aB m.ak m.hI m.hL (by omega);have t1:=MS (Γ:=Γ) (m.aB++m.ak) (k:=1) .self (by simp;omega);have t2:=MS (Γ:=Γ) m.aW m.hO (by omega);unfold rT;refine .run 60 Vi (by simp) ?_;simp;refine .call 60 (by simp) h0 ?_
 by_cases c0:m.g.check=0
 ·by_cases l1:(m.aB.length:Int)=m.g.ins
  ·by_cases l2:m.ak.length=m.g.next.length
   ·by_cases l3:m.aW.length=m.g.outs.length
    ·have hf:=aer (Γ:=Γ) m f1 f2 l3 (by omega) m.aW.length 0 (by omega)
     have hlm:nX m=false:=by simp[nX,l1,l2,l3]
     simp[c0,l1,l2,l3,hlm];refine .call 60 (by simp) o1 ?_;unfold GK
     cases br (fun s=>!iC s) m.aB
     ·simp;refine .call 60 (by simp) o2 ?_
      cases br (fun s=>!iC s) m.ak
      ·simp;refine .call 60 (by simp) o3 ?_
       cases br (fun s=>!iC s) m.aW
       ·simp;refine .call 60 (by simp) cc ?_;have htk:(m.aB.map AV.str++m.ak.map AV.str).take (m.aB.length+m.ak.length)=m.aB.map AV.str++m.ak.map AV.str:=cS (by simp);simp;refine .call 60 (by simp[htk]) t1 ?_
        cases n6 (m.aB++m.ak)
        ·simp;refine .call 60 (by simp) t2 ?_
         cases n6 m.aW
         ·simp;refine .inLoop ?_;simp at hf⊢;refine .drop 1 rfl (by simp) (by simp) (by simp) ?_;exact hf
         ·simp;exact .back (by simp)
        ·simp;exact .back (by simp)
       ·simp;exact .back (by simp)
      ·simp;exact .back (by simp)
     ·simp;exact .back (by simp)
    ·have hlm:nX m=true:=by simp[nX,l3]
     simp[c0,l1,l2,l3,hlm];exact .back (by simp)
   ·have hlm:nX m=true:=by simp[nX,l2]
    simp[c0,l1,l2,hlm];exact .back (by simp)
  ·have hlm:nX m=true:=by simp[nX,l1]
   simp[c0,l1,hlm];exact .back (by simp)
 ·simp[c0];exact .back (by simp)
end Go.Proofs.YtihmomicdpkabaaGreatDoor
namespace Go.Proofs.YtihmomicdpkabaaGreatDoor
open Go.AM Go.Proofs
theorem ZQ{first:Nat}{l:List (Int×Int)}{p q:Nat}(h1:2<=q)(h2:q<p)(h3:p/2≠q/2)(h4:(((p:Nat):Int),((q:Nat):Int))∉l):
 bI first l p q=(l++[((p:Int),(q:Int))],2*(first+l.length)):=by
 unfold bI;rw[Nat.max_eq_left (by omega),Nat.min_eq_right (by omega)]
 have hk:kF p q=none:=by
  unfold kF;have hx:=oM p;rw[if_neg,if_neg]
  ·omega
  ·rw[not_or];refine⟨by omega,?_⟩
   rw[hx];split<;>omega
 rw[hk,zU.2 h4]
theorem KB{α:Type}{l:List α}(h:l.Nodup){i:Nat}(hi:i<l.length):l[i]∉l.take i:=by
 intro hm
 have h2:(l.take i++l.drop i).Nodup:=by rw[ng];exact h
 exact(q9.1 h2).2.2 _ hm _ (by rw[bM hi];exact pN) rfl
theorem nC(v:List Bool)(k n:Nat):(v.set k true).getD n false=true↔v.getD n false=true\/(n=k/\k<v.length):=by
 rw[bo,bo,nj]
 by_cases h:k=n
 ·subst h
  by_cases h2:k<v.length
  ·simp[h2]
  ·simp[h2]
 ·have h3:¬n=k:=fun e=>h e.symm
  simp[h,h3]
theorem Eu:∀(l:List Int)(v:List Bool)(n:Nat),(ia l v).getD n false=true↔v.getD n false=true\/(n<v.length/\∃a∈l,a.toNat/2=n)
 |[],v,n=>by simp[ia]
 |a::l,v,n=>by
  rw[ia,Eu l,nC,jg];constructor
  ·rintro((h|⟨rfl,h⟩)|⟨h,b,hb,e⟩)
   ·exact .inl h
   ·exact .inr ⟨h,a,by simp,rfl⟩
   ·exact .inr ⟨h,b,by simp[hb],e⟩
  ·rintro(h|⟨h,b,hb,e⟩)
   ·exact .inl (.inl h)
   ·rcases bt.1 hb with rfl|hb
    ·exact .inl (.inr ⟨e.symm,by omega⟩)
    ·exact .inr ⟨h,b,hb,e⟩
theorem Nu{ands:List (Int×Int)}{first:Nat}(P:Nat->Prop):∀(i:Nat)(v:List Bool),(∀n,v.getD n false=true->P n)->
 (∀j,j<i->P (first+j)->P ((ands.getD j (0,0)).1.toNat/2)/\P ((ands.getD j (0,0)).2.toNat/2))->∀n,(iz ands first i v).getD n false=true->P n
 |0,v,hv,_=>hv
 |i+1,v,hv,hs=>by
  rw[iz];refine Nu P i _ (fun n hn=>?_) (fun j hj=>hs j (by omega))
  split at hn
  ·rename_i h;have:=hs i (by omega) (hv _ h);rw[nC,nC]at hn
   rcases hn with(hn|⟨rfl,_⟩)|⟨rfl,_⟩
   ·exact hv n hn
   ·exact this.1
   ·exact this.2
  ·exact hv n hn
theorem zO{ands:List (Int×Int)}{first:Nat}:∀(i:Nat)(v:List Bool)(n:Nat),v.getD n false=true->(iz ands first i v).getD n false=true
 |0,v,n,h=>h
 |i+1,v,n,h=>by
  rw[iz];refine zO i _ n ?_
  split
  ·rw[nC,nC];exact .inl (.inl h)
  ·exact h
theorem KN{ands:List (Int×Int)}{first:Nat}:∀(i:Nat)(v:List Bool)(n:Nat),first+i<=n+1->(∀j,j<i->(ands.getD j (0,0)).1.toNat/2<first+j/\(ands.getD j (0,0)).2.toNat/2<first+j)->
 ((iz ands first i v).getD n false=true↔v.getD n false=true)
 |0,v,n,_,_=>mF
 |i+1,v,n,h,hw=>by
  have h0:=hw i (by omega);rw[iz,KN i _ n (by omega) (fun j hj=>hw j (by omega))]
  split
  ·rw[nC,nC];constructor
   ·rintro((h2|⟨e,_⟩)|⟨e,_⟩)
    ·exact h2
    ·omega
    ·omega
   ·exact fun h2=>.inl (.inl h2)
  ·exact mF
theorem JN{ands:List (Int×Int)}{first:Nat}:∀(i:Nat)(v:List Bool),(∀j,j<i->(ands.getD j (0,0)).1.toNat/2<first+j/\(ands.getD j (0,0)).2.toNat/2<first+j)->first+i<=v.length->
 ∀j,j<i->(iz ands first i v).getD (first+j) false=true->(iz ands first i v).getD ((ands.getD j (0,0)).1.toNat/2) false=true/\(iz ands first i v).getD ((ands.getD j (0,0)).2.toNat/2) false=true
 |0,v,_,_=>fun j hj=>by omega
 |i+1,v,hw,hl=>by
  intro j hj;have h0:=hw i (by omega);rw[iz]
  by_cases hji:j<i
  ·exact JN i _ (fun j hj=>hw j (by omega)) (by split<;>(try simp only[jg])<;>omega) j hji
  ·have e:j=i:=by omega
   subst e;rw[KN j _ (first+j) (by omega) (fun j hj=>hw j (by omega))];intro h
   split at h
   ·rename_i h2;rw[if_pos h2];refine⟨zO _ _ _ ?_,zO _ _ _ ?_⟩
    ·rw[nC,nC];exact .inl (.inr ⟨rfl,by omega⟩)
    ·rw[nC];exact .inr ⟨rfl,by rw[jg];omega⟩
   ·rename_i h2;exact absurd h h2
theorem AT{l:List (Int×Int)}{i:Nat}(h:i<l.length):l.getD i (0,0)=l[i]:=by
 rw[bo,bg h];rfl
theorem Gr.Ok.half{g:Gr}(ok:g.Ok):∀j,j<g.ands.length->(g.ands.getD j (0,0)).1.toNat/2<g.first+j/\(g.ands.getD j (0,0)).2.toNat/2<g.first+j:=by
 intro j hj;have:=ok.ands j hj;rw[AT hj];omega
theorem FA{g:Gr}(ok:g.Ok){a:Int}(h:a∈g.next++g.outs):g.aX.getD (a.toNat/2) false=true:=by
 unfold Gr.aX;refine zO _ _ _ ((Eu _ _ _).2 (.inr ⟨?_,a,h,rfl⟩));have hl:g.lits=2*g.all:=rfl;rw[oj]
 rcases bl.1 h with h|h
 ·have:=ok.next a h;omega
 ·have:=ok.outs a h;omega
theorem zL{g:Gr}(ok:g.Ok){i:Nat}(hi:i<g.ands.length)(h:g.aX.getD (g.first+i) false=true):g.aX.getD (g.ands[i].1.toNat/2) false=true/\g.aX.getD (g.ands[i].2.toNat/2) false=true:=by
 have:=JN (ands:=g.ands) (first:=g.first) g.ands.length (ia (g.next++g.outs) (List.replicate g.all false)) ok.half (by rw[wj,oj];exact aU _) i hi h;rw[AT hi]at this;exact this
theorem abH{g:Gr}(P:Nat->Prop)(h1:∀a∈g.next++g.outs,P (a.toNat/2))(h2:∀i(hi:i<g.ands.length),P (g.first+i)->P (g.ands[i].1.toNat/2)/\P (g.ands[i].2.toNat/2)):
 ∀n,g.aX.getD n false=true->P n:=by
 refine Nu P _ _ (fun n hn=>?_) (fun j hj=>?_)
 ·rcases(Eu _ _ _).1 hn with h|⟨_,a,ha,rfl⟩
  ·rw[bo,Jf]at h
   split at h<;>simp at h
  ·exact h1 a ha
 ·rw[AT hj];exact h2 j hj
theorem Bd{to:List Nat}{a:Nat}(h:to.getD (a/2) 0%2=0):bp to a=to.getD (a/2) 0+a%2:=by
 unfold bp
 rcases(show a%2=0\/a%2=1 by omega)with h2|h2
 ·rw[h2,C5];rfl
 ·rw[h2,oM,if_pos h]
theorem Mb(to:List Nat)(a:Nat):bp to a/2=to.getD (a/2) 0/2:=by
 unfold bp
 rcases(show a%2=0\/a%2=1 by omega)with h2|h2
 ·rw[h2,C5]
 ·rw[h2,oM];split<;>omega
theorem lN{to:List Nat}{c n:Nat}(h:n<to.length):(to++[c]).getD n 0=to.getD n 0:=by
 rw[bo,bo,cR h]
theorem An{to:List Nat}{c n:Nat}(h:n=to.length):(to++[c]).getD n 0=c:=by
 subst h
 rw[bo];simp
theorem tY{to:List Nat}{c a:Nat}(h:a/2<to.length):bp (to++[c]) a=bp to a:=by
 unfold bp;rw[lN h]
section
variable(first:Nat)(aX:List Bool)(ands:List (Int×Int))
def Live(n:Nat):Prop:=n<first\/aX.getD n false=true
abbrev kM(to:List Nat)(p:Int×Int):Int×Int:=((bp to p.1.toNat:Nat),(bp to p.2.toNat:Nat))
structure iF(i:Nat)(l:List (Int×Int))(to:List Nat):Prop where
 len:to.length=first+i
 low:∀n,n<first->to.getD n 0=2*n
 at_:∀k(hk:k<ands.length),k<i->aX.getD (first+k) false=true->∃j,j<l.length/\to.getD (first+k) 0=2*(first+j)/\l[j]? =some (kM to ands[k])
 BR:∀j,j<l.length->∃k,k<i/\aX.getD (first+k) false=true/\to.getD (first+k) 0=2*(first+j)
 mono:∀m n,m<n->n<first+i->Live first aX m->Live first aX n->to.getD m 0<to.getD n 0
variable{first aX ands}
theorem iF.ev{i:Nat}{l:List (Int×Int)}{to:List Nat}(h:iF first aX ands i l to)(hi:i<=ands.length){n:Nat}(hn:n<first+i)(hl:Live first aX n):to.getD n 0%2=0/\to.getD n 0<2*(first+l.length):=by
 by_cases h1:n<first
 ·rw[h.low n h1];omega
 ·rcases hl with h2|h2
  ·omega
  ·obtain⟨j,hj,e,_⟩:=h.at_ (n-first) (by omega) (by omega) (by rw[show first+(n-first)=n by omega];exact h2);rw[show first+(n-first)=n by omega]at e;omega
theorem iF.inj{i:Nat}{l:List (Int×Int)}{to:List Nat}(h:iF first aX ands i l to)(hi:i<=ands.length){a b:Nat}(ha:a/2<first+i)(hb:b/2<first+i)(la:Live first aX (a/2))(lb:Live first aX (b/2))(e:bp to a=bp to b):a=b:=by
 have e1:=h.ev hi ha la;have e2:=h.ev hi hb lb;rw[Bd e1.1,Bd e2.1]at e
 rcases I7 (a/2) (b/2)with h1|h1|h1
 ·have:=h.mono _ _ h1 hb la lb;omega
 ·omega
 ·have:=h.mono _ _ h1 ha lb la;omega
structure wY(first:Nat)(aX:List Bool)(ands:List (Int×Int)):Prop where
 h1:1<=first
 s:iD first ands
 c:∀i(hi:i<ands.length),aX.getD (first+i) false=true->aX.getD (ands[i].1.toNat/2) false=true/\aX.getD (ands[i].2.toNat/2) false=true
theorem iF.new{i:Nat}{l:List (Int×Int)}{to:List Nat}(L:wY first aX ands)(h:iF first aX ands i l to)(hi:i<ands.length)(hl:aX.getD (first+i) false=true):
 bI first l (bp to ands[i].1.toNat) (bp to ands[i].2.toNat)=(l++[kM to ands[i]],2*(first+l.length))/\ands[i].1.toNat/2<first+i/\ands[i].2.toNat/2<first+i:=by
 obtain⟨p,q,e,s1,s2,s3,s4⟩:=L.s.at_ i hi;obtain⟨c1,c2⟩:=L.c i hi hl
 have hp:ands[i].1.toNat=p:=by rw[e];rfl
 have hq:ands[i].2.toNat=q:=by rw[e];rfl
 unfold kM
 rw[hp]at c1;rw[hq]at c2;rw[hp,hq]
 have e1:=h.ev (by omega) (n:=p/2) (by omega) (.inr c1);have e2:=h.ev (by omega) (n:=q/2) (by omega) (.inr c2);have m1:=h.mono (q/2) (p/2) (by omega) (by omega) (.inr c2) (.inr c1);have m0:=h.mono 0 (q/2) (by omega) (by omega) (.inl (by have:=L.h1;omega)) (.inr c2);have b1:=Bd e1.1;have b2:=Bd e2.1;refine⟨ZQ (by omega) (by omega) (by omega) ?_,by omega,by omega⟩;intro hm;obtain⟨j,hj,ej⟩:=List.mem_iff_getElem.1 hm;obtain⟨k,hk,lk,tk⟩:=h.BR j hj;obtain⟨j2,hj2,tj2,ej2⟩:=h.at_ k (by omega) hk lk
 have hjj:j2=j:=by omega
 subst hjj;rw[bg hj2,ej]at ej2;simp only[kM,aj,bL]at ej2;obtain⟨p2,q2,e',t1,t2,t3,t4⟩:=L.s.at_ k (by omega);obtain⟨d1,d2⟩:=L.c k (by omega) lk;rw[e']at ej2 d1 d2;simp only[fB]at ej2 d1 d2;have x1:=h.inj (by omega) (a:=p) (b:=p2) (by omega) (by omega) (.inr c1) (.inr d1) (by omega);have x2:=h.inj (by omega) (a:=q) (b:=q2) (by omega) (by omega) (.inr c2) (.inr d2) (by omega);subst x1 x2;exact KB L.s.nd hi (List.mem_iff_getElem.2 ⟨k,by rw[gE];omega,by rw[qQ,e',e]⟩)
theorem iF.push{i:Nat}{l:List (Int×Int)}{to:List Nat}(L:wY first aX ands)(h:iF first aX ands i l to)(hi:i<ands.length)(hl:aX.getD (first+i) false=true):
 iF first aX ands (i+1) (l++[kM to ands[i]]) (to++[2*(first+l.length)]):=by
 obtain⟨_,n1,n2⟩:=h.new L hi hl;have hlen:=h.len;refine⟨by simp;omega,fun n hn=>by rw[lN (by omega)];exact h.low n hn,fun k hk hki lk=>?_,fun j hj=>?_,fun m n hmn hn lm ln=>?_⟩
 ·by_cases hk2:k<i
  ·obtain⟨j,hj,e1,e2⟩:=h.at_ k hk hk2 lk;obtain⟨p2,q2,e',t1,t2,t3,t4⟩:=L.s.at_ k hk;refine⟨j,by simp;omega,by rw[lN (by omega)];exact e1,?_⟩;rw[cR hj,e2];unfold kM;rw[e'];simp only[fB];rw[tY (by omega),tY (by omega)]
  ·have e:k=i:=by omega
   subst e;refine⟨l.length,by simp,An (by omega),?_⟩;unfold kM;rw[tY (by omega),tY (by omega)];simp
 ·by_cases hj2:j<l.length
  ·obtain⟨k,hk,lk,e⟩:=h.BR j hj2;exact⟨k,by omega,lk,by rw[lN (by omega)];exact e⟩
  ·have e:j=l.length:=by simp at hj;omega
   subst e;exact⟨i,by omega,hl,An (by omega)⟩
 ·rw[lN (n:=m) (by omega)]
  by_cases hn2:n<first+i
  ·rw[lN (by omega)];exact h.mono m n hmn hn2 lm ln
  ·rw[An (by omega)];exact(h.ev (by omega) (by omega) lm).2
theorem iF.skip{i:Nat}{l:List (Int×Int)}{to:List Nat}(L:wY first aX ands)(h:iF first aX ands i l to)(hi:i<ands.length)(hl:¬aX.getD (first+i) false=true)(c:Nat):iF first aX ands (i+1) l (to++[c]):=by
 have hlen:=h.len;refine⟨by simp;omega,fun n hn=>by rw[lN (by omega)];exact h.low n hn,fun k hk hki lk=>?_,fun j hj=>?_,fun m n hmn hn lm ln=>?_⟩
 ·have hk2:k<i:=by
   rcases kW k i with h3|h3
   ·exact h3
   ·have e:k=i:=by omega
    subst e;exact absurd lk hl
  obtain⟨j,hj,e1,e2⟩:=h.at_ k hk hk2 lk;obtain⟨p2,q2,e',t1,t2,t3,t4⟩:=L.s.at_ k hk;refine⟨j,hj,by rw[lN (by omega)];exact e1,?_⟩;rw[e2];unfold kM;rw[e'];simp only[fB];rw[tY (by omega),tY (by omega)]
 ·obtain⟨k,hk,lk,e⟩:=h.BR j hj;exact⟨k,by omega,lk,by rw[lN (by omega)];exact e⟩
 ·have hn2:n<first+i:=by
   rcases kW n (first+i)with h3|h3
   ·exact h3
   ·have e:n=first+i:=by omega
    subst e
    rcases ln with h4|h4
    ·omega
    ·exact absurd h4 hl
  rw[lN (n:=m) (by omega),lN (by omega)];exact h.mono m n hmn hn2 lm ln
theorem iF.zero:iF first aX ands 0 [] (ids first):=by
 have hg:∀n,n<first->(ids first).getD n 0=2*n:=fun n hn=>by
  rw[bo,bg (by simpa using hn)];simp[ids]
 refine⟨by simp,hg,fun k hk h=>by omega,fun j hj=>by simp at hj,fun m n hmn hn _ _=>?_⟩
 rw[hg m (by omega),hg n (by omega)];omega
theorem EX(L:wY first aX ands):∀n i l to,i+n=ands.length->iF first aX ands i l to->iF first aX ands ands.length (dJ first aX (ands.drop i) i l to).1 (dJ first aX (ands.drop i) i l to).2
 |0,i,l,to,hi,h=>by
  have:i=ands.length:=by omega
  subst this
  rw[I8,dJ];exact h
 |n+1,i,l,to,hi,h=>by
  have h1:i<ands.length:=by omega
  rw[bM h1,dJ]
  split
  ·rename_i hl;rw[(h.new L h1 hl).1];exact EX L n (i+1) _ _ (by omega) (h.push L h1 hl)
  ·rename_i hl;exact EX L n (i+1) _ _ (by omega) (h.skip L h1 hl 0)
end
theorem Gr.aew{x:Gr}(ok:x.Ok)(s:iD x.first x.ands):wY x.first x.aX x.ands:=⟨by unfold Gr.first;omega,s,fun i hi h=>zL ok hi h⟩
theorem Gr.Po{x:Gr}(ok:x.Ok)(s:iD x.first x.ands):iF x.first x.aX x.ands x.ands.length (dJ x.first x.aX x.ands 0 [] (ids x.first)).1 (dJ x.first x.aX x.ands 0 [] (ids x.first)).2:=by
 have:=EX (Gr.aew ok s) x.ands.length 0 [] (ids x.first) (by omega) iF.zero;rw[iq]at this;exact this
theorem tJ(g:Gr)(r:List (Int×Int)×List Nat):(g.du r).first=g.first:=by simp[Gr.first,Gr.du]
theorem acV{g:Gr}{r:List (Int×Int)×List Nat}{a:Int}(h:a∈g.next++g.outs):((bp r.2 a.toNat:Nat):Int)∈(g.du r).next++(g.du r).outs:=by
 simp only[Gr.du,bl,cC,ea]at h⊢
 rcases h with h|h
 ·exact .inl ⟨_,⟨a,h,rfl⟩,rfl⟩
 ·exact .inr ⟨_,⟨a,h,rfl⟩,rfl⟩
theorem aae{x:Gr}(ok:x.Ok)(s:iD x.first x.ands):∀j,j<x.dz.ands.length->x.dz.aX.getD (x.first+j) false=true:=by
 have I:=Gr.Po ok s;have qM:=(AQ ok).1
 have key:∀n,x.aX.getD n false=true->x.aX.getD n false=true/\x.dz.aX.getD ((dJ x.first x.aX x.ands 0 [] (ids x.first)).2.getD n 0/2) false=true:=by
  refine abH _ (fun a ha=>⟨FA ok ha,?_⟩) (fun i hi h=>?_)
  ·have:=FA qM (acV (r:=dJ x.first x.aX x.ands 0 [] (ids x.first)) ha);rw[fB,Mb]at this;exact this
  ·obtain⟨h1,h2⟩:=h;obtain⟨j,hj,e1,e2⟩:=I.at_ i hi hi h1;have hc:=zL ok hi h1;have hj2:j<x.dz.ands.length:=hj
   have e3:x.dz.ands[j]=kM (dJ x.first x.aX x.ands 0 [] (ids x.first)).2 x.ands[i]:=by
    have:x.dz.ands[j]? =some (kM (dJ x.first x.aX x.ands 0 [] (ids x.first)).2 x.ands[i]):=e2;rw[bg hj2]at this;exact Option.some.inj this
   rw[e1,show 2*(x.first+j)/2=x.first+j by omega]at h2;have h4:=zL qM hj2 (by rw[show x.dz.first=x.first from tJ _ _];exact h2);rw[e3]at h4;simp only[kM,fB,Mb]at h4;exact⟨⟨hc.1,h4.1⟩,hc.2,h4.2⟩
 intro j hj;obtain⟨k,hk,lk,e⟩:=I.BR j hj;have:=(key _ lk).2;rw[e,show 2*(x.first+j)/2=x.first+j by omega]at this;exact this
theorem Yz{g:Gr}(ok:g.Ok)(s:iD g.first g.ands)(h:∀i,i<g.ands.length->g.aX.getD (g.first+i) false=true):g.strict=true:=by
 simp only[Gr.strict,av,a_,jl];refine⟨Gr.p5 ok,nE.2 fun i hi=>?_⟩;have hi:=eu.1 hi;obtain⟨p,q,e,s1,s2,s3,s4⟩:=s.at_ i hi;have hn:=KB s.nd hi;have hh:=h i hi;unfold Gr.xq;rw[AT hi,hh];rw[e]at hn⊢;simp[hn];omega
theorem JJ{g:Gr}(h:g.check=0):g.normal.strict=true/\g.normal.check=0/\g.normal.ands.length<=g.ands.length:=by
 have ok:=Gr.qx h;obtain⟨o1,s1,l1⟩:=AU ok
 have hf:g.dy.first=g.first:=tJ _ _
 obtain⟨o2,s2,l2⟩:=AQ o1
 have e:g.normal=g.dy.dz:=by unfold Gr.normal;rw[if_pos h]
 rw[e]
 have hf2:g.dy.dz.first=g.dy.first:=tJ _ _
 refine⟨Yz o2 (by rw[hf2];exact s2) ?_,Gr.p5 o2,by omega⟩;rw[hf2];exact aae o1 (by rw[hf];exact s1)
theorem uk(w:List Bool)(to:List Nat)(a:Nat):bK w (bp to a)=(bK w (to.getD (a/2) 0) !=decide (a%2=1)):=by
 unfold bp
 rcases(show a%2=0\/a%2=1 by omega)with h2|h2
 ·rw[h2,C5];simp
 ·rw[h2,Aj];simp
theorem z7(v:List Bool)(n:Nat):bK v (2*n)=v.getD n false:=by
 unfold bK
 rw[show 2*n/2=n by omega,show 2*n%2=0 by omega];simp
theorem XC{v:List Bool}{c:Bool}{n:Nat}(h:n<v.length):(v++[c]).getD n false=v.getD n false:=by
 rw[bo,bo,cR h]
theorem Yy{v:List Bool}{c:Bool}{n:Nat}(h:n=v.length):(v++[c]).getD n false=c:=by
 subst h
 rw[bo];simp
theorem KS{first:Nat}{v0:List Bool}(hv:v0.length=first)(hz:bK v0 0=false)(h1:1<=first):∀(ps l:List (Int×Int))(to:List Nat)(V:List Bool),n5 first l->mg first l to->V.length=to.length->
 (∀n,n<to.length->bK (bT l v0) (to.getD n 0)=V.getD n false)->(∀i(h:i<ps.length),ps[i].1.toNat/2<to.length+i/\ps[i].2.toNat/2<to.length+i)->
 ∀n,n<to.length+ps.length->bK (bT (fL first ps l to).1 v0) ((fL first ps l to).2.getD n 0)=(bT ps V).getD n false
 |[],l,to,V,_,_,hl,hh,_=>hh
 |p::ps,l,to,V,hw,ht,hl,hh,hp=>by
  have h0:=hp 0 (by simp);simp only[C6,gW]at h0;have ha:=mS ht.lt h0.1;have hb:=mS ht.lt h0.2;obtain⟨hlt,hge⟩:=uj ha hb h1;have hval:=Nd hv hz h1 hw ha hb
  have b1:bK (bT l v0) (bp to p.1.toNat)=bK V p.1.toNat:=by rw[uk,hh _ h0.1];rfl
  have b2:bK (bT l v0) (bp to p.2.toNat)=bK V p.2.toNat:=by rw[uk,hh _ h0.2];rfl
  rw[b1,b2]at hval;intro n hn;rw[fL,bT]
  refine KS hv hz h1 ps _ _ _ (hw.and ha hb) ⟨fun z hz=>by
   rcases bl.1 hz with hz|hz
   ·have:=ht.lt z hz;omega
   ·simp at hz;omega⟩ (by simp[hl]) (fun n hn=>?_) (fun i hi=>by
   have:=hp (i+1) (by simpa using hi);simp only[sO]at this
   simp;omega) n (by rw[bP]at hn;simp;omega)
  by_cases hn2:n<to.length
  ·rw[lN hn2,XC (by omega),<-hh n hn2];refine aaC hv ?_;refine ht.lt _ ?_;rw[bo,bg hn2];exact bC hn2
  ·have e:n=to.length:=by simp at hn;omega
   rw[An e,Yy (by omega),hval]
theorem abS{x:Gr}(ok:x.Ok)(s:iD x.first x.ands){v0:List Bool}(hv:v0.length=x.first):∀N n,n<N->n<x.first+x.ands.length->Live x.first x.aX n->
 bK (bT x.dz.ands v0) ((dJ x.first x.aX x.ands 0 [] (ids x.first)).2.getD n 0)=(bT x.ands v0).getD n false:=by
 have I:=Gr.Po ok s;have qM:=(AQ ok).1;have w2:=qM.ands;rw[show x.dz.first=x.first from tJ _ _]at w2;intro N
 induction N with
 |zero=>intro n hn;omega
 |succ N ih=>
  intro n hn hn2 hl
  by_cases h1:n<x.first
  ·rw[I.low n h1,tM _ (by omega),z7];obtain⟨e,he⟩:=ES x.ands v0;rw[he,bo,bo,cR (by omega)]
  ·rcases hl with h2|h2
   ·omega
   ·have hk:n-x.first<x.ands.length:=by omega
    have en:x.first+(n-x.first)=n:=by omega
    obtain⟨j,hj,e1,e2⟩:=I.at_ (n-x.first) hk hk (by rw[en];exact h2);rw[en]at e1;have hj2:j<x.dz.ands.length:=hj
    have e3:x.dz.ands[j]=kM (dJ x.first x.aX x.ands 0 [] (ids x.first)).2 x.ands[n-x.first]:=by
     have:x.dz.ands[j]? =some (kM (dJ x.first x.aX x.ands 0 [] (ids x.first)).2 x.ands[n-x.first]):=e2;rw[bg hj2]at this;exact Option.some.inj this
    have hw:=w2 j hj2;have hx:=ok.ands (n-x.first) hk;obtain⟨c1,c2⟩:=zL ok hk (by rw[en];exact h2);have va:=EC (v:=v0) hj2 (by omega) (by omega);have vb:=EC (v:=v0) hk (by omega) (by omega);rw[hv]at va vb;rw[e1,va,e3];simp only[kM,fB];rw[uk,uk,ih _ (by omega) (by omega) (.inr c1),ih _ (by omega) (by omega) (.inr c2)];rw[en,z7]at vb;rw[vb];rfl
theorem M4{g:Gr}{r:List (Int×Int)×List Nat}(ok:g.Ok)(qM:(g.du r).Ok){state ins:List Bool}
 (h:g.gh state ins=0->∀a∈g.next++g.outs,bK (bT r.1 (false::(ins++state))) (bp r.2 a.toNat)=bK (g.su state ins) a.toNat):
 (g.du r).gh state ins=g.gh state ins/\(g.du r).gp state ins=g.gp state ins/\(g.du r).kD state ins=g.kD state ins:=by
 have hE:(g.du r).gh state ins=g.gh state ins:=by
  unfold Gr.gh;rw[Gr.p5 ok,Gr.p5 qM]
  have h1:(g.du r).next.length=g.next.length:=by simp[Gr.du]
  have:(g.du r).fits state ins=g.fits state ins:=by unfold Gr.fits;rw[h1];rfl
  rw[this]
 refine⟨hE,?_,?_⟩
 ·unfold Gr.gp;rw[hE]
  split
  ·rename_i h0;have hh:=h h0;unfold qo Gr.du ea Gr.su;simp only[ij]
   refine nk fun a ha=>?_
   exact hh a (Jh _ ha)
  ·rfl
 ·unfold Gr.kD;rw[hE]
  split
  ·rename_i h0;have hh:=h h0;unfold qo Gr.du ea Gr.su;simp only[ij]
   refine nk fun a ha=>?_
   exact hh a (sN _ ha)
  ·rfl
theorem ON{g:Gr}{state ins:List Bool}(h:g.gh state ins=0):(false::(ins++state)).length=g.first:=by
 obtain⟨ok,d1,d2⟩:=Gr.afd h;have:=ok.ins
 simp[Gr.first];omega
theorem OG{g:Gr}(ok:g.Ok){a:Int}(h:a∈g.next++g.outs):a.toNat/2<g.first+g.ands.length:=by
 have hl:g.lits=2*(g.first+g.ands.length):=rfl
 rcases bl.1 h with h|h
 ·have:=ok.next a h;omega
 ·have:=ok.outs a h;omega
theorem YP{g:Gr}(ok:g.Ok)(state ins:List Bool):g.dy.gh state ins=g.gh state ins/\g.dy.gp state ins=g.gp state ins/\g.dy.kD state ins=g.kD state ins:=by
 refine M4 ok (AU ok).1 (fun hE a ha=>?_);have hv:=ON hE
 have hi:∀n,n<g.first->(ids g.first).getD n 0=2*n:=fun n hn=>by
  rw[bo,bg (by simpa using hn)];simp[ids]
 have:=KS hv (by simp[bK]) (by unfold Gr.first;omega) g.ands [] (ids g.first) (false::(ins++state)) (fun i hi=>by simp at hi) (Bc _) (by rw[hv];simp)
  (fun n hn=>by rw[NL]at hn;rw[hi n hn,bT,z7]) (FJ ok) (a.toNat/2) (by rw[NL];exact OG ok ha)
 rw[uk,this];rfl
theorem YG{g:Gr}(ok:g.Ok)(s:iD g.first g.ands)(state ins:List Bool):g.dz.gh state ins=g.gh state ins/\g.dz.gp state ins=g.gp state ins/\g.dz.kD state ins=g.kD state ins:=by
 refine M4 ok (AQ ok).1 (fun hE a ha=>?_);have:=abS ok s (ON hE) (a.toNat/2+1) (a.toNat/2) (by omega) (OG ok ha) (.inr (FA ok ha));rw[uk];have e:g.dz.ands=(dJ g.first g.aX g.ands 0 [] (ids g.first)).1:=rfl;rw[e]at this;rw[this];rfl
theorem Wk{g:Gr}(h:g.check=0)(state ins:List Bool):g.normal.gh state ins=g.gh state ins/\g.normal.gp state ins=g.gp state ins/\g.normal.kD state ins=g.kD state ins:=by
 have ok:=Gr.qx h;obtain⟨o1,s1,l1⟩:=AU ok
 have e:g.normal=g.dy.dz:=by unfold Gr.normal;rw[if_pos h]
 rw[e]
 have hf:g.dy.first=g.first:=tJ _ _
 obtain⟨a1,a2,a3⟩:=YG o1 (by rw[hf];exact s1) state ins;obtain⟨b1,b2,b3⟩:=YP ok state ins;exact⟨a1.trans b1,a2.trans b2,a3.trans b3⟩
end Go.Proofs.YtihmomicdpkabaaGreatDoor
namespace Go.Proofs.YtihmomicdpkabaaGreatDoor
open Go.AM Go.Proofs
variable{Γ:Nat->Option AV}
theorem KV(ins:List Bool):∀(s:Bs)(i:Nat),s.all lF=true->s.length=(ins.drop i).length->(bn s i).all (fun x=>pv ins (dT x).lit)=uy s (ins.drop i)
 |[],i,_,_=>by simp[bn,uy]
 |c::s,i,hg,hl=>by
  have hi:i<ins.length:=by
   refine vl fun hn=>?_
   rw[bw (by omega)]at hl;simp at hl
  rw[bM hi]at hl⊢;rw[qR,av]at hg;have ih:=KV ins s (i+1) hg.2 (by simp at hl⊢;omega);rw[uy,<-ih,bn]
  by_cases a:c=45
  ·rw[if_pos a];simp[a]
  ·rw[if_neg a,qR];congr 1;have hc:=hg.1;simp only[lF,eY,a_]at hc
   rcases hc with b|b|b
   ·subst b
    have e1:((2*(i:Int)+1)/2).toNat=i:=by omega
    have e2:(2*(i:Int)+1)%2=1:=by omega
    simp[dT,pv,e1,e2,bo,bg hi]
   ·subst b
    have e1:((2*(i:Int))/2).toNat=i:=by omega
    have e2:¬(2*(i:Int))%2=1:=by omega
    simp[dT,pv,e1,e2,bo,bg hi]
   ·exact absurd b a
def uE(c:Ct)(ins state:List Bool):Bool:=decide (ins.length=c.aB.length)&&decide (state.length=c.ak.length)
def gp(c:Ct)(ins state:List Bool):List Bool×List Bool×Int:=if uE c ins state=true then(aeh c ins state,aeN c ins state,0)else([],[],11)
def Bv(c:Ct)(ins state:List Bool):List Bool×List Bool×Int:=if mo c=true then gp c ins state else([],[],1)
end Go.Proofs.YtihmomicdpkabaaGreatDoor
