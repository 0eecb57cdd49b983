/- Steps: the values of nets (plain law). -/
import Derived.Test.YtchjijfjidlpjaaGreatDoorH
import Derived.Test.YtchjijfjidlpjaaGreatDoorI
import Derived.Test.YtchjijfjidlpjaaGreatDoorG
import Derived.Test.YtchjijfjidlpjaaGreatDoorF
import Derived.Test.YtchjijfjidlpjaaGreatDoorShelf
import Derived.Test.YtchjijfjidlpjaaGreatDoorAMd
import Derived.Below
import Derived.Sort.Grow
set_option linter.unusedSimpArgs false
set_option linter.unusedVariables false
namespace Go.Proofs.YtchjijfjidlpjaaGreatDoor
open Go.AM Go.Proofs
variable{Γ:Nat->Option AV}
theorem Qr{α:Type}{P:List α->Prop}(h0:P [])(h1:∀l a,P l->P (l++[a]))(l:List α):P l:=by
 rw[<-List.reverse_reverse l]
 induction l.reverse with
 |nil=>exact h0
 |cons a r ih=>rw[List.reverse_cons];exact h1 _ _ ih
def jY(m:List (Bs×Bool))(s:Bs):Bool:=match getM s m with
 |some v=>v
 |none=>false
theorem afv{m r:List (Bs×Bool)}{s:Bs}(h:s∈m.map (·.1)):jY (m++r) s=jY m s:=by
 induction m with
 |nil=>cases h
 |cons a m ih=>
  obtain⟨k,v⟩:=a;rw[eo];unfold jY;rw[getM,getM]
  by_cases hk:s=k
  ·rw[if_pos hk,if_pos hk]
  ·rw[if_neg hk,if_neg hk];rw[bU,bz]at h;exact ih (h.resolve_left hk)
theorem ae4{m:List (Bs×Bool)}{s:Bs}(v:Bool)(h:s∉m.map (·.1)):jY (m++[(s,v)]) s=v:=by
 induction m with
 |nil=>simp[jY,getM]
 |cons a m ih=>
  obtain⟨k,u⟩:=a;rw[bU,bz,not_or]at h;rw[eo];unfold jY;rw[getM,if_neg h.1];exact ih h.2
def Dv(m:List (Bs×Bool))(l:List Bs):List Bool:=l.map (jY m)
def fM(c:Ct):List Bs:=c.an++c.ah.map (·.name)
def DL(c:Ct)(ins state:List Bool):List (Bs×Bool):=(fM c).zip (ins++state)
def Sz(c:Ct)(m:List (Bs×Bool))(a:Nat):List (Bs×Bool):=match c.af[a]? with
 |some g=>m++[(g.name,z_ g (Dv m g.ins))]
 |none=>m
def lW(c:Ct)(ins state:List Bool)(p:List Nat):List (Bs×Bool):=p.foldl (Sz c) (DL c ins state)
def qV(c:Ct)(ins state:List Bool):List (Bs×Bool):=lW c ins state (bm c)
theorem G7(c:Ct)(ins state:List Bool)(p:List Nat){a:Nat}(ha:a<c.af.length):lW c ins state (p++[a])=lW c ins state p++[(c.af[a].name,z_ c.af[a] (Dv (lW c ins state p) c.af[a].ins))]:=by
 rw[lW,List.foldl_append,sM,List.foldl_nil,Sz,aR ha];rfl
theorem B8(c:Ct):(fM c).length=c.an.length+c.ah.length:=by simp[fM]
theorem ab7{c:Ct}{ins state:List Bool}(hi:ins.length=c.an.length)(hs:state.length=c.ah.length):(DL c ins state).map (·.1)=fM c:=by
 rw[DL,List.map_fst_zip (by rw[B8];simp;omega)]
theorem vu{c:Ct}{ins state:List Bool}(hi:ins.length=c.an.length)(hs:state.length=c.ah.length):∀p:List Nat,(∀a∈p,a<c.af.length)->(lW c ins state p).map (·.1)=fM c++p.map (Lj c):=by
 intro p
 induction p using Qr with
 |h0=>intro _;simpa[lW]using ab7 hi hs
 |h1 p a ih=>
  intro h;have ha:=h a (by simp);rw[G7 c ins state p ha,j5,ih fun b hb=>h b (by simp[hb])];simp[C9 ha]
theorem BL{c:Ct}(ok:e_ c):(fM c++c.af.map (·.name)).Nodup:=by
 have:=ok.nodup;simpa[aD,fM]using this
theorem aeY{c:Ct}(ok:e_ c){ins state:List Bool}(hi:ins.length=c.an.length)(hs:state.length=c.ah.length){p:List Nat}(hp:∀a∈p,a<c.af.length){a:Nat}(ha:a<c.af.length)(hn:a∉p):c.af[a].name∉(lW c ins state p).map (·.1):=by
 have hd:=tn (zk ok);rw[vu hi hs p hp,aT,not_or];have h:=BL ok;rw[ly]at h;refine⟨fun hb=>h.2.2 _ hb _ (sU (f:=(·.name)) (bw ha)) rfl,fun hb=>?_⟩;obtain⟨x,hx,he⟩:=cd.1 hb;have hxl:=hp x hx;rw[C9 hxl]at he;exact hn (CB hd hxl ha he▸hx)
structure Dl(c:Ct)(ins state:List Bool)(f:Bs->Bool):Prop where
 UU:∀i,∀h:i<c.an.length,f c.an[i]=ins.getD i false
 AB:∀i,∀h:i<c.ah.length,f c.ah[i].name=state.getD i false
 Tz:∀i,∀h:i<c.af.length,f c.af[i].name=z_ c.af[i] (c.af[i].ins.map f)
theorem QZ:∀(l:List Bs)(b:List Bool),l.Nodup->∀i,∀h:i<l.length,i<b.length->jY (l.zip b) l[i]=b.getD i false
 |[],_,_,i,h,_=>by simp at h
 |s::l,[],_,i,h,h2=>by simp at h2
 |s::l,v::b,hn,i,h,h2=>by
  rw[lA]at hn;rw[xf];unfold jY
  cases i with
  |zero=>simp[getM]
  |succ i=>
   have hne:¬(s::l)[i+1]=s:=fun he=>hn.1 (by rw[<-he];simp)
   rw[getM,if_neg hne];simpa[jY]using QZ l b hn.2 i (by simpa using h) (by simpa using h2)
theorem HG{c:Ct}{ins state:List Bool}(hi:ins.length=c.an.length)(hs:state.length=c.ah.length)(p:List Nat)(hp:∀a∈p,a<c.af.length):∀r:List Nat,(∀a∈r,a<c.af.length)->∀s∈(lW c ins state p).map (·.1),jY (lW c ins state (p++r)) s=jY (lW c ins state p) s:=by
 intro r
 induction r using Qr with
 |h0=>intro _ s _;simp
 |h1 r a ih=>
  intro hr s hs';have ha:=hr a (by simp)
  have hr':=fun b hb=>hr b (aT.2 (.inl hb))
  have h1:=ih hr' s hs';rw[<-cI,G7 c ins state (p++r) ha,afv ?_,h1];rw[vu hi hs _ fun b hb=>(aT.1 hb).elim (hp b) (hr' b)];rw[vu hi hs p hp]at hs';simp only[aT,j5]at hs'⊢
  exact hs'.elim .inl fun h=>.inr (.inl h)
theorem abv{c:Ct}(ok:e_ c)(hall:∀i<c.af.length,i∈bm c){ins state:List Bool}(hi:ins.length=c.an.length)(hs:state.length=c.ah.length):Dl c ins state (jY (qV c ins state)):=by
 have hd:=tn (zk ok);have hlt:=qp c;have hnd:=BL ok
 have hbn:(fM c).Nodup:=by rw[ly]at hnd;exact hnd.1
 have hbase:∀i,∀h:i<(fM c).length,jY (qV c ins state) (fM c)[i]=(ins++state).getD i false:=fun i h=>by
  have h1:=HG hi hs [] (by simp) (bm c) hlt (fM c)[i] (by rw[vu hi hs [] (by simp)];simp);rw[j3]at h1;rw[qV,h1];have:=QZ (fM c) (ins++state) hbn i h (by rw[B8]at h;simp;omega);simpa[lW,DL]using this
 refine⟨fun i h=>?_,fun i h=>?_,fun i h=>?_⟩
 ·have:=hbase i (by rw[B8];omega);simp only[fM,uF h]at this;rw[this,bq,bq,cz (by omega)]
 ·have:=hbase (c.an.length+i) (by rw[B8];omega);simp only[fM]at this;rw[EW (by omega)]at this;simp only[rB,List.getElem_map]at this;rw[this,bq,bq,dk (by omega),hi,rB]
 ·obtain⟨p,q,he⟩:=List.append_of_mem (hall i h)
  have hpl:∀a∈p,a<c.af.length:=fun a ha=>hlt a (by rw[he];simp[ha])
  have hql:∀a∈q,a<c.af.length:=fun a ha=>hlt a (by rw[he];simp[ha])
  have hpos:=(jJ.1 (Gu c he).1);have hnew:=aeY ok hi hs hpl h hpos.1
  have e1:bm c=(p++[i])++q:=by rw[he];simp
  have hpi:∀a∈p++[i],a<c.af.length:=fun a ha=>by
   rcases aT.1 ha with ha|ha
   ·exact hpl a ha
   ·rw[cE]at ha;subst ha;exact h
  have h2:jY (qV c ins state) c.af[i].name=z_ c.af[i] (Dv (lW c ins state p) c.af[i].ins):=by
   rw[qV,e1,HG hi hs (p++[i]) hpi q hql _ (by rw[vu hi hs _ hpi];simp[C9 h])];rw[G7 c ins state p h,ae4 _ hnew]
  rw[h2];congr 1;apply mb;intro s hsi
  have hs0:s∈(lW c ins state p).map (·.1):=by
   rw[vu hi hs p hpl,aT];have hu:s∈aD c:=ok.used s (by simp only[fm,mF,aT,oV];exact .inr ⟨_,bw h,hsi⟩)
   rcases HA.1 hu with hu|⟨x,hx,rfl⟩|⟨x,hx,rfl⟩
   ·exact .inl (by simp[fM,hu])
   ·exact .inl (by simp only[fM,aT,cd];exact .inr ⟨x,hx,rfl⟩)
   ·obtain⟨j,hj,rfl⟩:=gC hx;have:=hpos.2 j ((zY h hj).2 hsi);exact .inr (cd.2 ⟨j,this,C9 hj⟩)
  rw[qV,e1,cI];exact(HG hi hs p hpl ([i]++q) (fun a ha=>hlt a (by rw[he];simp at ha⊢;exact .inr ha)) s hs0).symm
theorem adG{c:Ct}(ok:e_ c)(hall:∀i<c.af.length,i∈bm c){ins state:List Bool}{f g:Bs->Bool}(hf:Dl c ins state f)(hg:Dl c ins state g):∀s∈aD c,f s=g s:=by
 have hlow:∀s∈fM c,f s=g s:=fun s hs=>by
  simp only[fM,aT,cd]at hs
  rcases hs with hs|⟨q,hq,rfl⟩
  ·obtain⟨i,hi,rfl⟩:=gC hs;rw[hf.UU i hi,hg.UU i hi]
  ·obtain⟨i,hi,rfl⟩:=gC hq;rw[hf.AB i hi,hg.AB i hi]
 have key:∀(q p:List Nat),bm c=p++q->(∀a∈p,∀h:a<c.af.length,f c.af[a].name=g c.af[a].name)->∀a∈p++q,∀h:a<c.af.length,f c.af[a].name=g c.af[a].name:=by
  intro q
  induction q with
  |nil=>intro p _ h;simpa using h
  |cons x q ih=>
   intro p he h
   have:=ih (p++[x]) (by simpa using he) fun a ha hal=>by
    rcases aT.1 ha with ha|ha
    ·exact h a ha hal
    ·rw[cE]at ha;subst ha;rw[hf.Tz a hal,hg.Tz a hal];congr 1;apply mb;intro s hs;have hu:s∈aD c:=ok.used s (by simp only[fm,mF,aT,oV];exact .inr ⟨_,bw hal,hs⟩)
     rcases HA.1 hu with hu|⟨y,hy,rfl⟩|⟨y,hy,rfl⟩
     ·exact hlow s (by simp[fM,hu])
     ·exact hlow _ (by simp only[fM,aT,cd];exact .inr ⟨y,hy,rfl⟩)
     ·obtain⟨j,hj,rfl⟩:=gC hy;exact h j ((jJ.1 (Gu c he).1).2 j ((zY hal hj).2 hs)) hj
   simpa using this
 intro s hs
 rcases HA.1 hs with hu|⟨y,hy,rfl⟩|⟨y,hy,rfl⟩
 ·exact hlow s (by simp[fM,hu])
 ·exact hlow _ (by simp only[fM,aT,cd];exact .inr ⟨y,hy,rfl⟩)
 ·obtain⟨j,hj,rfl⟩:=gC hy;exact key (bm c) [] rfl (by simp) j (by simpa using hall j hj) hj
def aim(c:Ct)(ins state:List Bool):List Bool:=Dv (qV c ins state) c.aw
def ah3(c:Ct)(ins state:List Bool):List Bool:=c.ah.map fun q=>jY (qV c ins state) q.next
theorem Ik{c:Ct}(ok:e_ c){s:Bs}(h:s∈c.aw):s∈aD c:=ok.used s (by simp[fm,h])
theorem zr{c:Ct}(ok:e_ c){q:Lt}(h:q∈c.ah):q.next∈aD c:=ok.used _ (by simp only[fm,aT,cd];exact .inl (.inr ⟨q,h,rfl⟩))
def nQ(c:Ct):Bool:=decide ((oi c).1=0)
theorem CE{c:Ct}(h:nQ c=true):lN c=true/\mr c=[]/\oi c=(0,[]):=aby (A4 h)
abbrev D7(x:Bs×Bool):AV×AV:=(.str x.1,.bool x.2)
@[simp] theorem Q'(n:Nat):∀l:List (Bs×Bool),fa n (l.map D7)=true
 |[]=>rfl
 |x::r=>by simp[Q' n r]
@[simp] theorem agA(n m:Nat):∀l:List (Bs×Bool),oB n m (l.map D7)=true
 |[]=>rfl
 |x::r=>by simp[agA n m r]
@[simp] theorem aBI(n:Nat)(τ:List Nat)(l:List (Bs×Bool)):nO n τ (l.map D7)=l.map D7:=HT (Q' n l)
theorem R3{h os:List Ob}{a b:Ob}:(h++a::b::os)[h.length+1]? =some b:=by simp
def DU(c:Ct)(N:List Bs)(l:List Nat):Ob:=.cells [.list false c.kI (c.an.map .str),.list false c.kO (c.aw.map .str),.list false c.kL (c.ah.map lj),.list false c.kG (c.af.map cW),.list false 1 (N.map .str),.list false 1 (l.map iN)]
structure Md where
 g:Gr
 an:List Bs
 ah:List Bs
 aw:List Bs
 kI:Nat
 kL:Nat
 kO:Nat
 hI:Kd 1 kI an
 hL:Kd 1 kL ah
 hO:Kd 1 kO aw
abbrev eb(m:Md):AV:=.agg [.int .i64 m.g.ins,.list false m.g.kn (m.g.next.map i64),.list false m.g.ki (m.g.init.map i64),.list false m.g.ka (m.g.ands.map c8),.list false m.g.ko (m.g.outs.map i64),
 .list false m.kI (m.an.map .str),.list false m.kL (m.ah.map .str),.list false m.kO (m.aw.map .str)]
def kC:Md:=⟨fQ,[],[],[],0,0,0,.nil,.nil,.nil⟩
def oR(m:List (Bs×Nat))(s:Bs):Nat:=match getM s m with
 |some v=>v
 |none=>0
def cD(m:List (Bs×Nat))(l:List Bs):List Nat:=l.map (oR m)
def gM(n:Nat):List Nat:=(List.range n).map fun i=>2*(i+1)
def dC(c:Ct):Gr:=⟨c.an.length,List.replicate c.ah.length 0,c.ah.map (·.init),[],[],1,1,0,0,.self,.self,.nil,.nil⟩
def ku(c:Ct):List Nat->Gr->List Nat->Gr×Option (List Nat)
 |[],x,v=>(x,some v)
 |a::r,x,v=>match c.af[a]? with
  |none=>(x,none)
  |some g=>fL (jS x g (cD ((aD c).zip v) g.ins)) fun y d=>ku c r y (v.set (c.an.length+c.ah.length+a) d)
def pJ(c:Ct):Gr×Option (List Nat):=ku c (bm c) (dC c) (gM (aD c).length)
def cv(c:Ct)(y:Gr)(v:List Nat):Gr:={y with
 next:=(cD ((aD c).zip v) (c.ah.map (·.next))).map fun n:Nat=>(n:Int),kn:=1,hn:=.self
 outs:=(cD ((aD c).zip v) c.aw).map fun n:Nat=>(n:Int),ko:=1,ho:=.self}
def ep(c:Ct)(y:Gr)(v:List Nat):Md:=⟨(cv c y v).normal,c.an,c.ah.map (·.name),c.aw,1,1,1,.self,.self,.self⟩
def tZ(c:Ct):Md×Int×Bs:=
 if(oi c).1=0 then(match(pJ c).2 with
  |none=>(kC,8,[])
  |some v=>(ep c (pJ c).1 v,0,[]))else(kC,oi c)
abbrev DN(r:Md×Int×Bs):AV:=.aH [eb r.1,.int .i64 r.2.1,.str r.2.2]
theorem _root_.Go.AM.Reach.zH{P:Program}{f:FuncId}{args:List AV}{up:List Fr}{h:List Ob}{v:AV}(J:List Ob)(hw:bS h)(hv:aG h.length v=true)(h1:AM.Reach P Γ (.cl f args up h) (.back up v (h++J))):AM.Reach P Γ (.cl f args up h) (.back up v h):=by
 have:=AM.Reach.leave h1 hv (by rw[sW rfl];exact hw _ (aQ _));rwa[sW rfl]at this
def Ss(m:List (Bs×Nat)):Ob:=.map (m.map iW) true
theorem agq(s:Bs)(m:List (Bs×Nat)):eT (.sc .str) (.str s) (m.map iW)=some ((getM s m).map iN):=y9 sa iN s m
theorem ahI{h os:List Ob}{a b:Ob}{f:Ob->Ob}:(h++a::b::os).modify (h.length+1) f=h++a::f b::os:=by
 induction h with
 |nil=>rfl
 |cons x h ih=>simpa using ih
set_option maxRecDepth 8000 in
theorem IA(m:List (Bs×Nat))(l:List Bs){fl:Bool}{k:Nat}(hk:Kd 1 k l)(hl:l.length<2^40){j q:Nat}{h:List Ob}(hj:h[j]? =some (.cells [.mp q]))(hq:h[q]? =some (Ss m))(hw:bS h)(hv:gV h):
 ∀up,AM.Reach Tryz.prog Γ (.cl p9 [.list fl k (l.map .str),.ptr j 0] up h) (.back up (.list false 1 ((cD m l).map iN)) h):=by
 intro up;have hb:=hw h.length (aQ _)
 have hget:=fun os=>fF hj os
 have hget2:=fun os=>fF hq os
 unfold Ss at hget2
 have hvv:=fun m=>hv (h.length+1) m (by omega)
 have key:∀n i:Nat,i+n=l.length->AM.Reach Tryz.prog Γ (ykB (.ptr j 0) (.sl (h.length+1) 0 i) (.list fl k (l.map .str)) (.int .i64 l.length) (.int .i64 i) (h++[.row 1 aq [] none true false,.row 1 aq ((cD m (l.take i)).map iN) none true false]) ⟨[],.norm,h.length,up⟩)
  (.back up (.list false 1 ((cD m l).map iN)) (h++[.row 1 aq [] none true false,.row 1 aq ((cD m l).map iN) none true true])):=by
  intro n
  induction n with
  |zero=>
   intro i hi
   have q1:¬i<l.length:=by omega
   have he:i=l.length:=by omega
   subst he;rw[cR (by omega)]
   have hlen:(cD m l).length=l.length:=by simp[cD]
   have htk:((cD m l).map iN).take l.length=(cD m l).map iN:=cR (by simp[hlen]);generalize cD m l=P at*;refine .dW 60 ?_;simp[q1];refine .trans (.exit rfl rfl) ?_;refine .trees [4] ?_;simp[ahI,eS];refine .a8 60 ?_;simp[htk,hlen]
  |succ n ih=>
   intro i hi
   have q1:i<l.length:=by omega
   have q2:=bR (hk.of q1);have hh:=ih (i+1) (by omega)
   have e1:cD m (l.take (i+1))=cD m (l.take i)++[oR m l[i]]:=by
    rw[kK q1,cD,j5];rfl
   have hlen:(cD m (l.take i)).length=i:=by simp[cD];omega
   rw[e1]at hh;have hf:=agq l[i] m;have hlk:oR m l[i]=(match getM l[i] m with|some v=>v|none=>0):=rfl
   have hle:((i:Int)+1)<=140737488355328:=by omega
   generalize cD m (l.take i)=P at*;refine .a8 60 ?_
   cases hg:getM l[i] m with
   |none=>
    rw[hg]at hf hlk;simp at hf hlk;rw[hlk]at hh;simp(disch:=omega) [q1,q2,hget,hget2,hf,isKey,bN,b9,hle,hlen];refine .aO ?_;simp;refine .rU (i:=h.length+1) R3 (by simp) (by simp[hlen]) (by simp[hvv]) ?_;simp at hh⊢;exact hh
   |some v=>
    rw[hg]at hf hlk;simp at hf hlk;rw[hlk]at hh;simp(disch:=omega) [q1,q2,hget,hget2,hf,isKey,bN,b9,hle,hlen];refine .aO ?_;simp;refine .rU (i:=h.length+1) R3 (by simp) (by simp[hlen]) (by simp[hvv]) ?_;simp at hh⊢;exact hh
 refine .zH [.row 1 aq [] none true false,.row 1 aq ((cD m l).map iN) none true true] hw (by simp) ?_;refine .bt 60 X7 ?_;simp;refine .inLoop ?_;have hh:=key l.length 0 (by omega);simp[cD]at hh⊢;exact hh
abbrev mdC(c:Ct)(L:AV):Ob:=.cells [.int .i64 0,.list true 0 [],.list true 0 [],.list true 0 [],.list true 0 [],.list false 1 (c.an.map .str),L,.list false 1 (c.aw.map .str)]
abbrev hA(c:Ct)(L:AV)(B:Ob)(m:List (Bs×Nat)):List Ob:=[.cells (AV.cells (cN c)),mdC c L,.row 1 aq [] none true false,.row 1 aq [] none true false,.row 2 cT [] none true false,.row 1 aq [] none true false,.row 1 au [] none true false,.row 1 au [] none true false,.row 1 au [] none true false,
 .cells [.int .i64 0],.cells [.str []],B,.map (m.map iW) true,.cells [.mp 12]]
abbrev uz:Cx:=⟨[.call Bm [.ptr 1 0,.ptr 9 0,.ptr 10 0]],.norm,0,[]⟩
@[simp] theorem aAx(n k:Nat)(z:Int):aK n (List.replicate k (.int .i64 z))=true:=by
 induction k with
 |zero=>rfl
 |succ k ih=>simp[l9,ih]
@[simp] theorem aAo(i m k:Nat)(z:Int):dh i m (List.replicate k (.int .i64 z))=true:=by
 induction k with
 |zero=>rfl
 |succ k ih=>simp[l9,ih]
theorem vy(n:Nat):(gM n).length=n:=by simp[gM]
theorem Yo(N:List Bs)(v:List Nat){i:Nat}(hi:i<N.length)(h2:i<v.length):(N.take (i+1)).zip (v.take (i+1))=(N.take i).zip (v.take i)++[(N[i],v[i])]:=by
 rw[kK hi,kK h2,List.zip_append (by simp;omega)];rfl
theorem Y3{N:List Bs}(hn:N.Nodup)(v:List Nat){i:Nat}(hi:i<N.length):getM N[i] ((N.take i).zip (v.take i))=none:=by
 rw[getM_none];intro x hx he;have:=(List.of_mem_zip (a:=x.1) (b:=x.2) hx).1;obtain⟨j,hj,hje⟩:=gC this;rw[w9]at hje;have h1:=(E8 (xs:=N) (i:=j) (j:=i) (h₀:=by simp at hj;omega) (h₁:=hi) hn).1 (hje.trans he)
 simp at hj;omega
set_option maxRecDepth 8000 in
theorem ah9(c:Ct)(N:List Bs)(hN:N.Nodup)(hNl:N.length<2^20)(L:AV)(B:Ob)(hB:iu 14 B=true)(hL:aG 14 L=true){o:Out}
 (hc:aA Tryz.prog Γ (yeK (.ptr 0 0) (.ptr 1 0) (.ptr 9 0) (.ptr 10 0) (.ptr 11 0) (.ptr 13 0) (hA c L B (N.zip (gM N.length))) uz) o):∀n i:Nat,i+n=N.length->
 aA Tryz.prog Γ (yeJ (.ptr 0 0) (.ptr 1 0) (.ptr 9 0) (.ptr 10 0) (.ptr 11 0) (.ptr 13 0) (.list false 1 (N.map .str)) (.int .i64 N.length) (.int .i64 i) (hA c L B ((N.take i).zip ((gM N.length).take i))) uz) o:=by
 intro n
 induction n with
 |zero=>
  intro i hi
  have q1:¬i<N.length:=by omega
  rw[cR (by omega),cR (by rw[vy];omega)];refine .dW 60 ?_;simp[q1];exact .reach (.exit rfl rfl) hc
 |succ n ih=>
  intro i hi
  have q1:i<N.length:=by omega
  have hh:=ih (i+1) (by omega)
  have hv:(gM N.length)[i]'(by rw[vy];exact q1)=2*(i+1):=by simp[gM]
  rw[Yo N _ q1 (by rw[vy];exact q1),hv]at hh
  have hput:gb (.sc .str) (.str N[i]) (.int .i64 (2*((i:Int)+1))) (((N.take i).zip ((gM N.length).take i)).map iW)=some (((N.take i).zip ((gM N.length).take i)).map iW++[(.str N[i],.int .i64 (2*((i:Int)+1)))]):=by
   have:=BZ (E:=.sc .str) (e:=AV.str) sa iN (2*(i+1)) (Y3 hN (gM N.length) q1);rw[j5]at this;rw[show AV.int .i64 (2*((i:Int)+1))=iN (2*(i+1)) by simp[iN]];exact this
  generalize(N.take i).zip ((gM N.length).take i)=m at*;refine .dW 60 ?_;simp(disch:=omega) [q1,hput,isKey,bN,b9];refine .aO ?_;simp[hA]at hh⊢;exact hh
abbrev hB(c:Ct)(m:List (Bs×Nat))(i:Nat):List Ob:=hA c (.sl 15 0 i) (.cells [.int .i64 c.an.length,.list false 1 (List.replicate c.ah.length (.int .i64 0)),.sl 16 0 i,.list false 0 [],.list false 0 []]) m++
 [.row 1 au ((c.ah.take i).map fun q=>.str q.next) none true false,.row 1 au ((c.ah.take i).map fun q=>.str q.name) none true false,.row 1 aq ((c.ah.take i).map fun q=>.int .i64 q.init) none true false]
set_option maxRecDepth 8000 in
theorem aih(c:Ct)(hcf:cK c)(m:List (Bs×Nat)){o:Out}
 (hc:aA Tryz.prog Γ (yeH (.ptr 0 0) (.ptr 1 0) (.ptr 9 0) (.ptr 10 0) (.ptr 11 0) (.ptr 13 0) (.fn (.func p9) [] [.ptr 13 0]) (.sl 14 0 c.ah.length) (hB c m c.ah.length) uz) o):∀n i:Nat,i+n=c.ah.length->
 aA Tryz.prog Γ (yeG (.ptr 0 0) (.ptr 1 0) (.ptr 9 0) (.ptr 10 0) (.ptr 11 0) (.ptr 13 0) (.fn (.func p9) [] [.ptr 13 0]) (.sl 14 0 i) (.list false c.kL (c.ah.map lj)) (.int .i64 c.ah.length) (.int .i64 i) (hB c m i) uz) o:=by
 have b2:=hcf.2.2.1;intro n
 induction n with
 |zero=>
  intro i hi
  have q1:¬i<c.ah.length:=by omega
  have he:i=c.ah.length:=by omega
  subst he;refine .dW 60 ?_;simp[q1]at hc⊢;exact .reach (.exit rfl rfl) hc
 |succ n ih=>
  intro i hi
  have q1:i<c.ah.length:=by omega
  have q2:=bR (c.hL.of q1);have hh:=ih (i+1) (by omega)
  have hle:((i:Int)+1)<=140737488355328:=by omega
  have e:c.ah.take (i+1)=c.ah.take i++[c.ah[i]]:=kK q1;simp only[hB,e,j5]at hh⊢
  have hlen:(c.ah.take i).length=i:=by simp;omega
  generalize c.ah.take i=P at*;refine .dW 60 ?_;simp(disch:=omega) [q1,q2,hlen,hle];refine .dr 60 ?_;simp(disch:=omega) [q1,q2,hlen,hle];refine .aO ?_;simp;have hbm:=pq 17 m
  have hvm:=fun i k=>qB i k m
  refine .drop 17 rfl (by simp) (by simp) (by simp[hbm]) ?_;refine .reset (i:=14) rfl (by simp) (by simp[hlen]) (by simp[hvm]) ?_;refine .reset (i:=15) rfl (by simp) (by simp[hlen]) (by simp[hlen,hvm]) ?_;refine .reset (i:=16) rfl (by simp) (by simp[hlen]) (by simp[hlen,hvm]) ?_;simp[hA]at hh⊢;exact hh
theorem Pb(d:Nat):∀(N:List Bs)(v:List Nat)(j:Nat)(hn:N.Nodup)(hj:j<N.length),v.length=N.length->gb (.sc .str) (.str N[j]) (iN d) ((N.zip v).map iW)=some ((N.zip (v.set j d)).map iW)
 |[],v,j,hn,hj,hv=>by simp at hj
 |s::N,[],j,hn,hj,hv=>by simp at hv
 |s::N,a::v,0,hn,hj,hv=>by simp[gb,sa]
 |s::N,a::v,j+1,hn,hj,hv=>by
  rw[lA]at hn
  have hj':j<N.length:=by simpa using hj
  have ih:=Pb d N v j hn.2 hj' (by simpa using hv)
  have hne:¬N[j]=s:=fun e=>hn.1 (by rw[<-e];exact bw hj')
  simp only[sV,xf,bU,gb,sa,hne,nV,ih,dm,rp]
def sv(c:Ct)(p:List Nat)(k:Nat):Prop:=k<c.an.length+c.ah.length\/∃j∈p,k=c.an.length+c.ah.length+j
def uq(c:Ct)(x:Gr)(v:List Nat)(p:List Nat):Prop:=∀k(hk:k<v.length),sv c p k->v[k]<x.lits
theorem qN:∀(N:List Bs)(v:List Nat)(k:Nat)(hn:N.Nodup)(hk:k<N.length)(hv:v.length=N.length),oR (N.zip v) N[k]=v[k]'(by omega)
 |[],v,k,hn,hk,hv=>by simp at hk
 |s::N,[],k,hn,hk,hv=>by simp at hv
 |s::N,a::v,0,hn,hk,hv=>by simp[oR,getM]
 |s::N,a::v,k+1,hn,hk,hv=>by
  rw[lA]at hn
  have hk':k<N.length:=by simpa using hk
  have ih:=qN N v k hn.2 hk' (by simpa using hv)
  have hne:¬N[k]=s:=fun e=>hn.1 (by rw[<-e];exact bw hk')
  simp only[oR,xf,sV,getM,hne,da]at ih⊢;exact ih
theorem Db(c:Ct){a:Nat}(ha:a<c.af.length):∃h:c.an.length+c.ah.length+a<(aD c).length,(aD c)[c.an.length+c.ah.length+a]=c.af[a].name:=by
 have h:c.an.length+c.ah.length+a<(aD c).length:=by simp[aD];try omega
 refine⟨h,?_⟩
 have:(aD c)[c.an.length+c.ah.length+a]? =some c.af[a].name:=by
  rw[aD,dk (by simp),jn]
  rw[show c.an.length+c.ah.length+a-(c.an++c.ah.map (·.name)).length=a by simp,aR ha];rfl
 exact(db.1 this).2
theorem vL(c:Ct):(aD c).length=c.an.length+c.ah.length+c.af.length:=by simp[aD,lx]
theorem Pz{c:Ct}(ok:e_ c){i:Nat}(hi:i<(bm c).length){s:Bs}(hs:s∈(c.af[(bm c)[i]]'(qp c _ (bw hi))).ins):∃k,∃hk:k<(aD c).length,(aD c)[k]=s/\sv c ((bm c).take i) k:=by
 have ha:=qp c _ (bw hi)
 have hu:s∈fm c:=by
  simp only[fm,mF,aT,oV];exact .inr ⟨_,bw ha,hs⟩
 obtain⟨k,hk,he⟩:=gC (ok.used s hu);refine⟨k,hk,he,?_⟩
 by_cases h1:k<c.an.length+c.ah.length
 ·exact .inl h1
 ·have hl:=vL c
  have hj:k-(c.an.length+c.ah.length)<c.af.length:=by omega
  obtain⟨h2,h3⟩:=Db c hj;refine .inr ⟨k-(c.an.length+c.ah.length),adW c hi ((zY ha hj).2 ?_),by omega⟩;rw[<-h3]
  have e:c.an.length+c.ah.length+(k-(c.an.length+c.ah.length))=k:=by omega
  simp only[e,he];exact hs
theorem zD{c:Ct}{x:Gr}{v p:List Nat}(hn:(aD c).Nodup)(hv:v.length=(aD c).length)(h:uq c x v p){l:List Bs}(hl:∀s∈l,∃k,∃hk:k<(aD c).length,(aD c)[k]=s/\sv c p k):∀a∈cD ((aD c).zip v) l,a<x.lits:=by
 intro a ha;obtain⟨s,hs,rfl⟩:=cd.1 ha;obtain⟨k,hk,rfl,hc⟩:=hl s hs;rw[qN _ _ k hn hk hv];exact h k (by omega) hc
theorem uq.step{c:Ct}{x y:Gr}{v p:List Nat}(h:uq c x v p)(hxy:x.lits<=y.lits){a d:Nat}(hd:d<y.lits):uq c y (v.set (c.an.length+c.ah.length+a) d) (p++[a]):=by
 intro k hk hc;rw[List.getElem_set]
 split
 ·exact hd
 ·rename_i hne;refine lu (h k (by simpa using hk) ?_) hxy
  rcases hc with hc|⟨j,hj,rfl⟩
  ·exact .inl hc
  ·rcases aT.1 hj with hj|hj
   ·exact .inr ⟨j,hj,rfl⟩
   ·simp only[cE]at hj;subst hj;exact absurd rfl hne
theorem mY(m:List (Bs×Nat))(l:List Bs):(cD m l).length=l.length:=by simp[cD]
abbrev RV(c:Ct):AV:=.list false 1 ((c.ah.map (·.name)).map .str)
abbrev hM(c:Ct)(x:Gr)(v:List Nat):List Ob:=hA c (RV c) (cJ x) ((aD c).zip v)
theorem Sc(c:Ct)(x:Gr)(v:List Nat)(os:List Ob)(hos:∀m,14+os.length<=m->cr m os=true):bS (hM c x v++os):=fun m hm=>by
 have h1:=pq m ((aD c).zip v);simp at hm;have h2:=hos m (by omega);simp[h1,h2];omega
theorem Si(c:Ct)(x:Gr)(v:List Nat)(os:List Ob)(hos:∀i m,14+os.length<=i->cQ i m os=true):gV (hM c x v++os):=fun i m hi=>by
 have h1:=qB i m ((aD c).zip v);simp at hi;have h2:=hos i m (by omega);simp[h1,h2]
 try omega
def DD(c:Ct)(r:Gr×Option (List Nat)):Md×Int×Bs:=match r.2 with
 |none=>(kC,8,[])
 |some v=>(ep c r.1 v,0,[])
theorem adS{c:Ct}(hc:cK c){y:Gr}(ok:y.Ok)(v:List Nat):(cv c y v).iA:=by
 have f:=ok.iA;have b1:=hc.2.1;have b2:=hc.2.2.1;refine⟨?_,f.2.1,f.2.2.1,?_⟩
 ·simp[cv,mY];omega
 ·simp[cv,mY];omega
set_option maxRecDepth 8000 in
theorem ai7(c:Ct)(hc:cK c)(y:Gr)(ok:y.Ok)(v:List Nat):
 aA Tryz.prog Γ (yeE (.ptr 0 0) (.ptr 1 0) (.ptr 9 0) (.ptr 10 0) (.ptr 11 0) (.fn (.func p9) [] [.ptr 13 0]) (.list false 1 ((c.ah.map (·.next)).map .str)) (hM c y v) uz) (.ret (DN (ep c y v,0,[]))):=by
 have b1:=hc.2.1;have b2:=hc.2.2.1;have hw:=Sc c y v [] (by simp);have hv:=Si c y v [] (by simp);rw[ee]at hw hv;have h1:=IA (Γ:=Γ) ((aD c).zip v) (c.ah.map (·.next)) (fl:=false) (k:=1) .self (by simp;omega) (j:=13) (q:=12) (h:=hM c y v) rfl rfl hw hv;have h2:=IA (Γ:=Γ) ((aD c).zip v) c.aw (fl:=false) c.hO (by omega) (j:=13) (q:=12) (h:=hM c y v) rfl rfl hw hv;have hN:=FF (Γ:=Γ) (cv c y v) (adS hc ok v)
 have hG:eQ (cv c y v)=.agg [.int .i64 y.ins,.list false 1 ((cD ((aD c).zip v) (c.ah.map (·.next))).map iN),.list false y.ki (y.init.map i64),.list false y.ka (y.ands.map c8),.list false 1 ((cD ((aD c).zip v) c.aw).map iN)]:=by
  simp[cv,eQ,E_]
 rw[hG]at hN;unfold ep;generalize(cv c y v).normal=NG at*;generalize(cv c y v).check=CH at*;clear hG;generalize cD ((aD c).zip v) (c.ah.map (·.next))=A1 at*;generalize cD ((aD c).zip v) c.aw=A2 at*;simp only[iB]at h1;refine .go 9 ?_;simp;refine .dr 60 ?_;simp;refine gy.reach (by simp) h1 ?_;simp;refine gy.reach (by simp) h2 ?_;simp;refine .call 60 (by simp) hN ?_;simp;exact .back (by simp)
theorem GC(c:Ct){a:Nat}(ha:a<c.af.length)(r:List Nat)(x:Gr)(v:List Nat):ku c (a::r) x v=fL (jS x c.af[a] (cD ((aD c).zip v) c.af[a].ins)) fun y d=>ku c r y (v.set (c.an.length+c.ah.length+a) d):=by
 rw[ku,aR ha]
abbrev K1(c:Ct)(x:Gr)(v:List Nat)(g:Gt):List Ob:=hM c x v++[.cells (AV.cells (cW g)),.row 1 au [] none true false,.row 1 au [] none true false]
set_option maxRecDepth 8000 in
theorem ai6(hΩ:An Γ)(c:Ct)(hc:cK c)(okc:e_ c)(hN:(aD c).Nodup):∀n i:Nat,i+n=(bm c).length->∀(x:Gr)(v:List Nat),x.Ok->v.length=(aD c).length->uq c x v ((bm c).take i)->
 aA Tryz.prog Γ (yeD (.ptr 0 0) (.ptr 1 0) (.ptr 9 0) (.ptr 10 0) (.ptr 11 0) (.ptr 13 0) (.fn (.func p9) [] [.ptr 13 0]) (.list false 1 ((c.ah.map (·.next)).map .str)) (.list false 1 ((bm c).map iN)) (.int .i64 (bm c).length) (.int .i64 i) (hM c x v) uz) (.ret (DN (DD c (ku c ((bm c).drop i) x v)))):=by
 have hll:=M1 hc;intro n
 induction n with
 |zero=>
  intro i hi x v ok hv hvl
  have q1:¬i<(bm c).length:=by omega
  have hE:=ai7 (Γ:=Γ) c hc x ok v;rw[bA (by omega),ku,DD];simp only[iB]at hE⊢;refine .dW 60 ?_;simp[q1];exact .reach (.exit rfl rfl) hE
 |succ n ih=>
  intro i hi x v ok hv hvl
  have q1:i<(bm c).length:=by omega
  have ha:=qp c _ (bw q1);have q2:=bR (c.hG.of ha);have hgf:=hc.2.2.2.2.1 _ (bw ha);have hgb:=okc.af _ (bw ha);have ih:=ih (i+1) (by omega);have hlt:=zD hN hv hvl (l:=c.af[(bm c)[i]].ins) (fun s hs=>Pz okc q1 hs);have hst:(bm c).take (i+1)=(bm c).take i++[(bm c)[i]]:=kK q1;rw[bJ q1,GC c ha];obtain⟨hna,hnm⟩:=Db c ha
  have hput:=fun d=>Pb d (aD c) v _ hN hna hv
  rw[hnm]at hput
  have gl:((bm c).map iN)[i]? =some (.int .i64 (bm c)[i]):=by simp[q1]
  obtain⟨gl1,gl2⟩:=db.1 gl
  have hEl:((bm c).map iN).length=(bm c).length:=by simp
  generalize(bm c)[i]=a at*;have hw:=Sc c x v [.cells (AV.cells (cW c.af[a])),.row 1 au [] none true false,.row 1 au [] none true false] (by intro m hm;simp);have hwv:=Si c x v [.cells (AV.cells (cW c.af[a])),.row 1 au [] none true false,.row 1 au [] none true false] (by intro m k hm;simp);have h1:=IA (Γ:=Γ) ((aD c).zip v) c.af[a].ins (fl:=false) c.af[a].hi (by have:=hgf.2.1;omega) (j:=13) (q:=12) (h:=K1 c x v c.af[a]) rfl rfl hw hwv;have hll2:=mY ((aD c).zip v) c.af[a].ins;have hg:=agi (Γ:=Γ) hΩ c.af[a] hgb hgf (cD ((aD c).zip v) c.af[a].ins) hll2 (ki:=1) .self x (i:=11) (h:=K1 c x v c.af[a]) rfl hw hwv ok hlt;have hfi:=MI ok c.af[a] hlt;generalize cD ((aD c).zip v) c.af[a].ins=K at*;simp only[iB]at ih h1 hg⊢;refine .dW 60 ?_
  simp(disch:=omega) [q1,q2,gl,gl2,hEl,ha]
  cases h9:jS x c.af[a] K with
  |mk y r=>
   rw[h9]at hg hfi
   cases r with
   |none=>
    simp only[cV,fL,DD]at hg⊢
    obtain⟨D,hD1,hD2⟩:∃D,(∀its t,slot t 2=.ptr 1 0->slot t 3=.ptr 9 0->slot t 4=.ptr 10 0->AM.Reach Tryz.prog Γ (.cl xI [.ptr 11 0,cW c.af[a],.list false 1 (K.map iN)] (⟨.run,n5,its,t,uz.ds,.norm,0⟩::[]) (K1 c x v c.af[a])) D)/\aA Tryz.prog Γ D (.ret (DN (kC,8,[]))):=by
     refine⟨?_,fun its t t2 t3 t4=>.kZ 90 hg ?_,?_⟩
     rotate_left
     ·simp[t2,t3,t4];exact .refl _
     ·exact .back (by simp[kC,fQ])
    refine .reach (.R6 (D:=D) ?_) hD2;simp;refine gy.reach (by simp) h1 ?_;simp;refine gy.die (.int .i64 0) (by simp) (fun its t hk=>hD1 its t (hk 2 (by simp)) (hk 3 (by simp)) (hk 4 (by simp))) ?_;have hput0:gb (.sc .str) (.str c.af[a].name) (.int .i64 0) _=_:=hput 0;simp[hput0,isKey,bN,b9];exact .of (by simp)
   |some d=>
    have hd:=hfi.2 d rfl;have hh:=ih y (v.set (c.an.length+c.ah.length+a) d) hfi.1.ok (by simpa using hv) (by rw[hst];exact hvl.step hfi.1.lits hd);simp only[cV,fL]at hg⊢;refine .dr 60 ?_;simp;refine gy.reach (by simp) h1 ?_;simp;refine gy.reach (by simp) hg ?_;simp(disch:=omega) [hput,isKey,bN,b9];refine .aO ?_;simp;have hbm:=pq 14 ((aD c).zip (v.set (c.an.length+c.ah.length+a) d));refine .drop 14 rfl (by simp) (by simp) (by simp[hbm]) ?_;simp at hh⊢;exact hh
theorem Ig{c:Ct}(hc:cK c)(ok:e_ c):(dC c).Ok:=by
 have h0:=ok.mS;simp only[gf,kJ,iD]at h0;refine⟨⟨by simp[dC],by simp[dC];omega⟩,by simp[dC];omega,by simp[dC],by simp[dC],fun a ha=>?_,fun a ha=>?_,fun a ha=>by simp[dC]at ha,fun i hi=>by simp[dC]at hi⟩
 ·simp only[dC,cd]at ha;obtain⟨q,hq,rfl⟩:=ha;have:=ok.init q hq;simpa[mn]using this
 ·simp only[dC,V_]at ha;obtain⟨_,rfl⟩:=ha;have:=zj (dC c);omega
theorem PH{c:Ct}(hc:cK c):uq c (dC c) (gM (aD c).length) []:=by
 intro k hk h
 rcases h with h|⟨j,hj,_⟩
 ·have e:(gM (aD c).length)[k]=2*(k+1):=by simp[gM]
  rw[e];simp only[Gr.lits,Gr.all,Gr.first,dC,dX,pW,cS];omega
 ·cases hj
set_option maxRecDepth 8000 in
theorem ae6(hΓ:jz Γ)(hΩ:An Γ)(c:Ct)(hb:kF c):aS Tryz.prog Γ n5 [cN c] (DN (tZ c)):=by
 have hC:=aeR hΓ c hb;refine .run 60 YP (by simp) ?_;unfold tZ
 by_cases h0:(oi c).1=0
 ·rw[if_pos h0];simp;refine .call 60 (by simp) hC ?_;simp[h0]
  have hok:nQ c=true:=by unfold nQ;simp[h0]
  obtain⟨hr,hn,_⟩:=CE hok;obtain⟨ok,_⟩:=zn hr;have hc:=rP hb hr;have b0:=hc.1;have b1:=hc.2.1;have b2:=hc.2.2.1;have hCI:=uK (Γ:=Γ) c.an c.hI (by omega);have hCO:=uK (Γ:=Γ) c.aw c.hO (by omega);have hN:=RA (Γ:=Γ) c hc;have hS:=QW hΓ c hb
  have hSo:Du c=bm c:=by simp[Du,hr]
  rw[hSo]at hS;have hnl:=agy hc
  have hnd:(aD c).Nodup:=by
   have:=BL ok;simpa[aD,fM]using this
  have h3:=ai6 (Γ:=Γ) hΩ c hc ok hnd (bm c).length 0 (by omega) (dC c) (gM (aD c).length) (Ig hc ok) (vy _) (PH hc);refine .dr 60 ?_;simp(disch:=omega);refine .dr 60 ?_;simp(disch:=omega);refine gy.call (by simp) hCI ?_;simp(disch:=omega);refine gy.call (by simp) hCO ?_;simp(disch:=omega);refine .call 60 (by simp) hN ?_;simp;refine .trees [50] ?_;simp[eS];refine .inLoop ?_;simp;refine .iP 5 (i:=1) rfl ?_;simp;refine .iP 7 (i:=1) rfl ?_;simp;refine .iP 1 (i:=12) rfl ?_;simp;refine .gc 11 [1,4,5] (by simp) (by decide) ?_;simp;refine ah9 c (aD c) hnd (by omega) (.list true 0 []) (.cells [.int .i64 c.an.length,.list false 1 (List.replicate c.ah.length (.int .i64 0)),.list true 0 [],.list true 0 [],.list true 0 []]) (by simp) (by simp) ?_ (aD c).length 0 (by omega);refine .go 12 ?_;simp
  refine .mj 1 6 1 au rfl rfl (by omega) ?_;simp;refine .mj 11 2 1 aq rfl rfl (by omega) ?_;simp;refine .iP 3 (i:=11) rfl ?_;simp;refine .iP 4 (i:=11) rfl ?_;simp;refine .go 60 ?_;simp;refine .inLoop ?_;simp;refine aih c hc ((aD c).zip (gM (aD c).length)) ?_ c.ah.length 0 (by omega);refine .go 60 ?_;simp;refine .call 60 (by simp) hS ?_;simp;refine .trees [12,102] ?_;simp[eS];refine .iP 6 (i:=1) rfl ?_;simp[eS];refine .iP 2 (i:=11) rfl ?_;simp[eS];refine .inLoop ?_;simp;have hbm:=pq 14 ((aD c).zip (gM (aD c).length));refine .drop 14 rfl (by simp) (by simp) (by simp[hbm]) ?_;unfold pJ;rw[fg]at h3;generalize ku c (bm c) (dC c) (gM (aD c).length)=R at h3⊢;simp[dC,E_,DD,RV,hM,hA,cJ]at h3⊢;exact h3
 ·rw[if_neg h0];simp;refine .call 60 (by simp) hC ?_;simp[h0];exact .back (by simp[kC,fQ])
theorem Nh(a b:List Bs){ka kb:Nat}(ha:Kd 1 ka a)(hb:Kd 1 kb b)(hl:a.length+b.length<2^40):aS Tryz.prog Γ nZ [.list false 1 [.list false ka (a.map .str),.list false kb (b.map .str)]] (.own 1 au ((a++b).map .str)):=by
 by_cases h:a++b=[]
 ·rw[V8]at h;have:=LD (Γ:=Γ) [(ka,a),(kb,b)] (by simp[h]) (by simp);simpa[h,ou]using this
 ·have h2:0<(a++b).length:=sQ.2 h;have:=LH (Γ:=Γ) [(ka,a),(kb,b)] (by simp[ha,hb]) (by simp) (by simp[cw];omega) (by simpa[cw]using h2);simpa[cw,ou]using this
theorem ahU(l:List Bs):jA Tryz.prog Γ (fun _=>True) Br [] AV.str (fun s=>!fK s) l:=by
 refine⟨by simp,fun s hs up h _=>?_⟩;refine .bt 60 YD ?_;simp;refine .kW 60 (by simp) (Rc s) ?_;simp
theorem Iy(l:List Bs){k:Nat}(hk:Kd 1 k l)(hl:l.length<2^40):aS Tryz.prog Γ vg [.list false k (l.map .str)] (.bool (bH (fun s=>!fK s) l)):=by
 refine .run 60 ZF (by simp) ?_;simp;refine .aW 60 (Bf (Γ:=Γ) (fl:=false) (ahU l) hk (by omega) (h:=[]) trivial) ?_;simp;exact .back (by simp)
def nS(l:List Bs):Bool:=(je l).isSome
theorem aiw(l:List Bs){k:Nat}(hk:Kd 1 k l)(hl:l.length<2^40):∀n i:Nat,i+n=l.length->∀seen:List Bs,
 aA Tryz.prog Γ (yoH (.mp 0) (.list false k (l.map .str)) (.int .i64 l.length) (.int .i64 i) [.map (seen.map j_) true]) (.ret (.bool (mw seen (l.drop i)).isSome)):=by
 intro n
 induction n with
 |zero=>
  intro i hi seen
  have q1:¬i<l.length:=by omega
  rw[bA (by omega),mw];refine .go 60 ?_;simp[q1];exact .back (by simp)
 |succ n ih=>
  intro i hi seen
  have q1:i<l.length:=by omega
  have q2:=bR (hk.of q1);have hf:=y0 l[i] seen;rw[bJ q1,mw];refine .go 60 ?_
  by_cases hm:l[i]∈seen
  ·simp[hm]at hf;simp[q1,q2,hf,hm,isKey,bN,b9];exact .back (by simp)
  ·have hh:=ih (i+1) (by omega) (seen++[l[i]]);have hput:=BQ (v:=.bool true) hm;simp[hm]at hf;simp(disch:=omega) [q1,q2,hf,hm,hput,isKey,bN,b9];refine .aO ?_;simp at hh⊢;exact hh
theorem Pu(l:List Bs){k:Nat}(hk:Kd 1 k l)(hl:l.length<2^40):aS Tryz.prog Γ u6 [.list false k (l.map .str)] (.bool (nS l)):=by
 refine .run 60 YW (by simp) ?_;simp;refine .inLoop ?_;have hh:=aiw (Γ:=Γ) l hk hl l.length 0 (by omega) [];simp[nS,je]at hh⊢;exact hh
def dn(m:Md)(s:Bs):Int:=if fy s (m.an++m.ah) 0<0 then-1 else fy s (m.an++m.ah) 0+1
theorem HL(s:Bs):∀(l:List Bs)(i:Nat),fy s l i<(i+l.length:Nat)
 |[],i=>by simp[fy];omega
 |a::l,i=>by
  rw[fy];have:=HL s l (i+1)
  split
  ·simp;omega
  ·simp at this⊢;omega
theorem CT(s:Bs):∀(l:List Bs)(i:Nat),-1<=fy s l i
 |[],i=>by simp[fy]
 |a::l,i=>by
  rw[fy];have:=CT s l (i+1)
  split<;>omega
theorem Pn(m:Md)(s:Bs)(hI:m.an.length<2^30)(hL:m.ah.length<2^30):aS Tryz.prog Γ xW [eb m,.str s] (.int .i64 (dn m s)):=by
 have h1:=Nh (Γ:=Γ) m.an m.ah m.hI m.hL (by omega);have h2:=PJ (Γ:=Γ) (m.an++m.ah) s (k:=1) .self (by simp;omega);have h3:=HL s (m.an++m.ah) 0;have h4:=CT s (m.an++m.ah) 0;simp only[bu]at h3;unfold dn;generalize fy s (m.an++m.ah) 0=n at*;refine .run 60 Y7 (by simp) ?_;simp;refine .call 60 (by simp) h1 ?_;simp;have htk:(m.an.map AV.str++m.ah.map AV.str).take (m.an.length+m.ah.length)=m.an.map AV.str++m.ah.map AV.str:=cR (by simp);refine .call 60 (by simp[htk]) h2 ?_
 by_cases h:n<0
 ·simp[h];exact .back (by simp)
 ·simp(disch:=omega) [h];exact .back (by simp)
def qL(a b:Md):Bool:=fX a.g b.g&&(decide (a.an=b.an)&&(decide (a.ah=b.ah)&&decide (a.aw=b.aw)))
def rj(m:Md):Prop:=m.g.iA/\m.an.length<2^30/\m.ah.length<2^30/\m.aw.length<2^30
theorem afh(a b:Md)(ha:rj a):aS Tryz.prog Γ Bw [eb a,eb b] (.bool (qL a b)):=by
 obtain⟨f,f1,f2,f3⟩:=ha;have h0:=aa1 (Γ:=Γ) a.g b.g f;have h1:=s7 (Γ:=Γ) a.an b.an a.hI b.hI (by omega);have h2:=s7 (Γ:=Γ) a.ah b.ah a.hL b.hL (by omega);have h3:=s7 (Γ:=Γ) a.aw b.aw a.hO b.hO (by omega);unfold qL;generalize fX a.g b.g=s0 at*;refine .run 60 Y_ (by simp) ?_;simp;refine .call 60 (by simp) h0 ?_
 cases s0
 ·simp;exact .back (by simp)
 ·simp;refine .call 60 (by simp) h1 ?_
  by_cases c1:a.an=b.an
  ·simp[c1];refine .call 60 (by simp) h2 ?_
   by_cases c2:a.ah=b.ah
   ·simp[c2];refine .call 60 (by simp) h3 ?_;simp;exact .back (by simp)
   ·simp[c2];exact .back (by simp)
  ·simp[c1];exact .back (by simp)
def qW(m:Md):List Bs->List Int->Bool
 |s::l,a::r=>(decide (0<=dn m s)&&!decide (a=2*dn m s))||qW m l r
 |_,_=>false
def oC(m:Md):Bool:=!decide ((m.an.length:Int)=m.g.ins)||(!decide (m.ah.length=m.g.next.length)||!decide (m.aw.length=m.g.outs.length))
def Dz(m:Md):Bool:=bH (fun s=>!fK s) m.an||(bH (fun s=>!fK s) m.ah||bH (fun s=>!fK s) m.aw)
def jc(m:Md):Int:=if m.g.check≠0 then m.g.check else if oC m=true then 1 else if Dz m=true then 4 else if(nS (m.an++m.ah)||nS m.aw)=true then 5 else if qW m m.aw m.g.outs=true then 5 else 0
theorem Mr(m:Md)(s:Bs):-1<=dn m s/\dn m s<=m.an.length+m.ah.length:=by
 have h3:=HL s (m.an++m.ah) 0;have h4:=CT s (m.an++m.ah) 0;simp only[bu]at h3;unfold dn
 split<;>omega
set_option maxRecDepth 8000 in
theorem aiH(m:Md)(hI:m.an.length<2^30)(hL:m.ah.length<2^30)(hO:m.aw.length=m.g.outs.length)(hl:m.g.outs.length<2^30):∀n i:Nat,i+n=m.aw.length->
 aA Tryz.prog Γ (yhJ (.ptr 0 0) (.list false m.kO (m.aw.map .str)) (.int .i64 m.aw.length) (.int .i64 i) [.cells (AV.cells (eb m))]) (.ret (.int .i64 (if qW m (m.aw.drop i) (m.g.outs.drop i)=true then 5 else 0))):=by
 intro n
 induction n with
 |zero=>
  intro i hi
  have q1:¬i<m.aw.length:=by omega
  rw[bA (by omega),qW]
  ·refine .go 60 ?_;simp[q1];exact .back (by simp)
  ·intro s l a r h;cases h
 |succ n ih=>
  intro i hi
  have q1:i<m.aw.length:=by omega
  have q3:i<m.g.outs.length:=by omega
  have q2:=bR (m.hO.of q1);have q4:=bR (m.g.ho.of q3);have hh:=ih (i+1) (by omega);have hP:=Pn (Γ:=Γ) m m.aw[i] hI hL;obtain⟨hp1,hp2⟩:=Mr m m.aw[i];rw[bJ q1,bJ q3,qW];generalize dn m m.aw[i]=p at*;refine .go 60 ?_;simp[q1,q2];refine .call 60 (by simp) hP ?_
  by_cases c1:0<=p
  ·by_cases c2:m.g.outs[i]=2*p
   ·simp(disch:=omega) [c1,c2,q3,q4];refine .aO ?_;simp[c1,c2]at hh⊢;refine .drop 1 rfl (by simp) (by simp) (by simp) ?_;exact hh
   ·simp(disch:=omega) [c1,c2,q3,q4];exact .back (by simp)
  ·simp(disch:=omega) [c1];refine .aO ?_;simp[c1]at hh⊢;refine .drop 1 rfl (by simp) (by simp) (by simp) ?_;exact hh
set_option maxRecDepth 8000 in
theorem aeK(m:Md)(hb:rj m):aS Tryz.prog Γ xU [eb m] (.int .i64 (jc m)):=by
 obtain⟨f,f1,f2,f3⟩:=hb;obtain⟨g1,g2,g3,g4⟩:=f;have h0:=vf (Γ:=Γ) m.g ⟨g1,g2,g3,g4⟩;have o1:=Iy (Γ:=Γ) m.an m.hI (by omega);have o2:=Iy (Γ:=Γ) m.ah m.hL (by omega);have o3:=Iy (Γ:=Γ) m.aw m.hO (by omega);have cc:=Nh (Γ:=Γ) m.an m.ah m.hI m.hL (by omega);have t1:=Pu (Γ:=Γ) (m.an++m.ah) (k:=1) .self (by simp;omega);have t2:=Pu (Γ:=Γ) m.aw m.hO (by omega);unfold jc;refine .run 60 YX (by simp) ?_;simp;refine .call 60 (by simp) h0 ?_
 by_cases c0:m.g.check=0
 ·by_cases l1:(m.an.length:Int)=m.g.ins
  ·by_cases l2:m.ah.length=m.g.next.length
   ·by_cases l3:m.aw.length=m.g.outs.length
    ·have hf:=aiH (Γ:=Γ) m f1 f2 l3 (by omega) m.aw.length 0 (by omega)
     have hlm:oC m=false:=by simp[oC,l1,l2,l3]
     simp[c0,l1,l2,l3,hlm];refine .call 60 (by simp) o1 ?_;unfold Dz
     cases bH (fun s=>!fK s) m.an
     ·simp;refine .call 60 (by simp) o2 ?_
      cases bH (fun s=>!fK s) m.ah
      ·simp;refine .call 60 (by simp) o3 ?_
       cases bH (fun s=>!fK s) m.aw
       ·simp;refine .call 60 (by simp) cc ?_;have htk:(m.an.map AV.str++m.ah.map AV.str).take (m.an.length+m.ah.length)=m.an.map AV.str++m.ah.map AV.str:=cR (by simp);simp;refine .call 60 (by simp[htk]) t1 ?_
        cases nS (m.an++m.ah)
        ·simp;refine .call 60 (by simp) t2 ?_
         cases nS m.aw
         ·simp;refine .inLoop ?_;simp at hf⊢;refine .drop 1 rfl (by simp) (by simp) (by simp) ?_;exact hf
         ·simp;exact .back (by simp)
        ·simp;exact .back (by simp)
       ·simp;exact .back (by simp)
      ·simp;exact .back (by simp)
     ·simp;exact .back (by simp)
    ·have hlm:oC m=true:=by simp[oC,l3]
     simp[c0,l1,l2,l3,hlm];exact .back (by simp)
   ·have hlm:oC m=true:=by simp[oC,l2]
    simp[c0,l1,l2,hlm];exact .back (by simp)
  ·have hlm:oC m=true:=by simp[oC,l1]
   simp[c0,l1,hlm];exact .back (by simp)
 ·simp[c0];exact .back (by simp)
end Go.Proofs.YtchjijfjidlpjaaGreatDoor
namespace Go.Proofs.YtchjijfjidlpjaaGreatDoor
open Go.AM Go.Proofs
theorem agU{n:Nat}(h:¬n<10):Lib.decDigits n=Lib.decDigits (n/10)++[UInt8.ofNat (48+n%10)]:=by rw[Lib.decDigits,dif_neg h]
theorem GX{n:Nat}(h:n<10):Lib.decDigits n=[UInt8.ofNat (48+n)]:=by rw[Lib.decDigits,dif_pos h]
def sw(m:Nat):UInt8:=UInt8.ofNat (48+m)
theorem qt{n:Nat}(h:¬n<10):Lib.decDigits n=Lib.decDigits (n/10)++[sw (n%10)]:=agU h
theorem mg{n:Nat}(h:n<10):Lib.decDigits n=[sw n]:=GX h
theorem afX:∀(m a b:Nat),a<=m->Lib.decDigits a=Lib.decDigits b->a=b:=by
 have hd:∀x y:Nat,x<10->y<10->sw x=sw y->x=y:=by
  intro x y hx hy h
  have:∀x y:Fin 10,sw x.val=sw y.val->x.val=y.val:=by decide+kernel
  exact this ⟨x,hx⟩ ⟨y,hy⟩ h
 intro m
 induction m with
 |zero=>
  intro a b ha h
  obtain rfl:a=0:=by omega
  by_cases hb:b<10
  ·rw[mg (by omega),mg hb]at h;exact hd _ _ (by omega) hb (by simpa using h)
  ·rw[mg (by omega),qt hb]at h;have:=congrArg List.length h
   have h2:1<=(Lib.decDigits (b/10)).length:=by
    by_cases h3:b/10<10
    ·rw[mg h3];simp
    ·rw[qt h3];simp
   simp only[bu,bE,cS]at this;omega
 |succ m ih=>
  have hne:∀n,1<=(Lib.decDigits n).length:=by
   intro n
   by_cases h3:n<10
   ·rw[mg h3];simp
   ·rw[qt h3];simp
  intro a b ha h
  by_cases h1:a<10
  ·by_cases hb:b<10
   ·rw[mg h1,mg hb]at h;exact hd _ _ h1 hb (by simpa using h)
   ·rw[mg h1,qt hb]at h;have:=congrArg List.length h;have:=hne (b/10)
    simp only[bu,bE,cS]at*;omega
  ·by_cases hb:b<10
   ·rw[mg hb,qt h1]at h;have:=congrArg List.length h;have:=hne (a/10)
    simp only[bu,bE,cS]at*;omega
   ·rw[qt h1,qt hb]at h;have h2:=List.append_inj' h rfl;have h3:=ih (a/10) (b/10) (by omega) h2.1;have h4:=hd _ _ (by omega) (by omega) (List.cons.inj h2.2).1;omega
theorem G5{α:Type}[DecidableEq α]:∀(l m:List α),l.Nodup->(∀x∈l,x∈m)->l.length<=m.length
 |[],m,_,_=>wW _
 |x::l,m,hn,hs=>by
  have hx:=hs x (oY ..);rw[lA]at hn;have:=G5 l (m.erase x) hn.2 (fun y hy=>(List.mem_erase_of_ne (by rintro rfl;exact hn.1 hy)).2 (hs y (dw _ hy)));rw[V2 hx]at this;have hp:=EY hx
  rw[bE];omega
def oK(used:List (List UInt8))(stem:List UInt8):Nat->Nat->List UInt8
 |0,k=>stem++Lib.decDigits k
 |n+1,k=>if used.contains (stem++Lib.decDigits k)=true then oK used stem n (k+1)else stem++Lib.decDigits k
def fI(used:List (List UInt8))(stem:List UInt8):List UInt8:=oK used stem used.length 1
theorem Q7{used:List (List UInt8)}{stem:List UInt8}:∀(n k:Nat),oK used stem n k∈used->∀j,k<=j->j<=k+n->stem++Lib.decDigits j∈used
 |0,k,h,j,h1,h2=>by obtain rfl:j=k:=by omega
                    exact h
 |n+1,k,h,j,h1,h2=>by
  rw[oK]at h
  split at h
  ·rename_i hc
   by_cases hj:j=k
   ·subst hj;simpa using hc
   ·exact Q7 n (k+1) h j (by omega) (by omega)
  ·rename_i hc;exact absurd (by simpa using h) hc
theorem NL(used:List (List UInt8))(stem:List UInt8):fI used stem∉used:=by
 intro h;have h1:=Q7 used.length 1 h
 have h2:=G5 ((List.range (used.length+1)).map fun j=>stem++Lib.decDigits (j+1)) used (by
  rw[Fb,List.pairwise_map];refine List.Pairwise.imp ?_ (Fb.1 Lu);intro a b hab he
  exact hab (by have:=afX _ (a+1) (b+1) (aQ _) (List.append_cancel_left he);omega)) (by
  intro x hx;obtain⟨j,hj,rfl⟩:=cd.1 hx;have:=dJ.1 hj
  exact h1 (j+1) (by omega) (by omega))
 simp only[fC,pV]at h2;omega
theorem PD{used:List (List UInt8)}{stem:List UInt8}:∀(n k:Nat),∃j,k<=j/\j<=k+n/\oK used stem n k=stem++Lib.decDigits j
 |0,k=>⟨k,by omega,by omega,rfl⟩
 |n+1,k=>by
  rw[oK]
  split
  ·obtain⟨j,h1,h2,h3⟩:=PD (used:=used) (stem:=stem) n (k+1);exact⟨j,by omega,by omega,h3⟩
  ·exact⟨k,by omega,by omega,rfl⟩
theorem NS:∀(m n:Nat),n<10^(m+1)->(Lib.decDigits n).length<=m+1
 |0,n,h=>by rw[mg (by simpa using h)];simp
 |m+1,n,h=>by
  by_cases h3:n<10
  ·rw[mg h3];simp
  ·rw[qt h3]
   have:n/10<10^(m+1):=by
    rw[Nat.pow_succ]at h;omega
   have:=NS m (n/10) this
   simp;omega
theorem PM{n:Nat}(h:n<10^7):(Lib.decDigits n).length<=7:=NS 6 n h
def uj(s:Bs)(op:Int):Gt:=⟨s,op,[],[],false,0,0,.nil,.nil⟩
def eL(s:Bs)(op:Int)(l:List Bs):Gt:=⟨s,op,l,[],false,1,0,.self,.nil⟩
def dt(m:List (Nat×Bs))(a:Nat):Bs:=match getM a m with
 |some s=>s
 |none=>[]
inductive By where
 |one (b:Bool)
 |r9 (a:Nat)
 |both (p q:Nat)
def By.gate(m:List (Nat×Bs))(s:Bs):By->Gt
 |.one b=>uj s (if b then 1 else 0)
 |.r9 a=>eL s 3 [dt m (a^^^1)]
 |.both p q=>eL s 4 [dt m p,dt m q]
def fA(a:Nat):By:=if a<2 then .one (decide (a=1))else .r9 a
structure Ra where
 af:List Gt
 used:List Bs
 bn:List (Nat×Bs)
abbrev fh:Bs:=[110]
def Ra.make(x:Ra)(a:Nat)(b:By):Ra:=⟨x.af++[b.gate x.bn (fI x.used fh)],x.used++[fI x.used fh],x.bn++[(a,fI x.used fh)]⟩
def Ra.df(x:Ra)(a:Nat):Ra:=match getM a x.bn with
 |some _=>x
 |none=>x.make a (fA a)
def ny(first:Nat):List (Int×Int)->Nat->Ra->Ra
 |[],_,x=>x
 |p::ps,i,x=>ny first ps (i+1) (((x.df p.1.toNat).df p.2.toNat).make (2*(first+i)) (.both p.1.toNat p.2.toNat))
def iI:List Bs->List Int->List Int->Ra->Ra×List Lt
 |s::l,a::n,v::i,x=>((iI l n i (x.df a.toNat)).1,⟨s,dt (x.df a.toNat).bn a.toNat,v⟩::(iI l n i (x.df a.toNat)).2)
 |_,_,_,x=>(x,[])
def mN(m:List (Nat×Bs))(s:Bs)(a:Nat):Gt:=if 2<=a/\a%2=0 then eL s 2 [dt m a]else(fA a).gate m s
def ij(d:Md)(m:List (Nat×Bs)):List Bs->List Int->List Gt
 |s::l,a::r=>if dn d s<0 then mN m s a.toNat::ij d m l r else ij d m l r
 |_,_=>[]
def iL:Nat->List Bs->List (Nat×Bs)
 |_,[]=>[]
 |k,s::l=>(2*(k+1),s)::iL (k+1) l
def iX(m:Md):Ra:=⟨[],m.an++m.ah++m.aw,iL 0 (m.an++m.ah)⟩
def bI(m:Md):Md:={m with g:=m.g.normal}
def lR(m:Md):Md×Int:=if jc m=0 then(bI m,0)else(kC,jc m)
def oL:Ct:=⟨[],[],[],[],0,0,0,0,.nil,.nil,.nil,.nil⟩
def oH(n:Md):Ra:=ny n.g.first n.g.ands 0 (iX n)
def dy(n:Md):Ra×List Lt:=iI n.ah n.g.next n.g.init (oH n)
def aJ(n:Md):Ct:=⟨n.an,n.aw,(dy n).2,(dy n).1.af++ij n (dy n).1.bn n.aw n.g.outs,1,1,3,5,.self,.self,.self,.self⟩
def fH(m:Md):Ct×Int:=if jc m=0 then(if(er (aJ (bI m))).1=0 then(aJ (bI m),0)else(oL,8))else(oL,jc m)
end Go.Proofs.YtchjijfjidlpjaaGreatDoor
namespace Go.Proofs.YtchjijfjidlpjaaGreatDoor
open Go.AM Go.Proofs Go.RowKit Go.Sort
variable{Γ:Nat->Option AV}
def oE(Γ:Nat->Option AV):Prop:=Γ IY=some (.agg (Lib.pow10Tab.map fun z=>.int .u64 z))
theorem abn(w:World)(k:Nat)(os:Array Obj):Below w.heap.size w (grow (w.drewN k) os):=by
 refine⟨rfl,rfl,rfl,by simp[grow,World.drewN],fun b hb=>?_⟩
 show(w.heap++os)[b]? =w.heap[b]?
 rw[Array.getElem?_append_left hb]
theorem ahX{w:World}{t q}(h:w.heap[IY]? =some (.cells (Lib.pow10Tab.map fun z=>Value.int .u64 z).toArray t q)):Lib.TabIs Tryz.prog w "internal/strconv.uint64pow10" .u64 Lib.pow10Tab:=by
 unfold Lib.TabIs World.var?;rw[H4];simp[h]
theorem Rk(hΓ:oE Γ)(k:Nat)(hk:k<2^21):aS Tryz.prog Γ Fz [.int .i64 k] (.str (Lib.decDigits k)):=by
 refine aS.Jc (by simp) (fun _=>rfl) rfl fun N g h w us H hV=>?_
 obtain⟨us,rfl,h2⟩:=ahk hV;obtain rfl:=HX h2;obtain⟨t,q,hp⟩:=H.l6 _ _ (by decide) hΓ;refine(Tryz.strconv_Itoa k (by omega) (by omega) w (ahX (H.fN _ _ hp))).mono ?_
 rintro e w' ⟨rfl,n,os,rfl⟩
 have e:Lib.itoa (k:Int)=Lib.decDigits k:=by unfold Lib.itoa;rw[if_neg (by omega)];simp
 refine⟨⟨_,rfl,fun _ _=>?_⟩,abn w n os⟩;rw[e];simp[V]
theorem PB{n:Nat}(h:n<2^21):(Lib.decDigits n).length<=7:=PM (by omega)
abbrev Sq(used:List (List UInt8))(kd:Nat)(stem:List UInt8):List Fr:=[⟨.run,u0,[It.jN 4,It.inBlock 0 [],It.code ((aj.ae T5).seq aj.ret)],
 [.list false kd (used.map .str),.str stem,.ptr 0 0,U,.str [],.ptr 1 0,U,.str stem,.str stem,.fn (.func xP) [] [.ptr 2 0],U,U,U,U,U,U,U],[.mark 3],.norm,0⟩]
abbrev wQ(used:List (List UInt8))(kd:Nat)(fresh stem:List UInt8)(st:LoopState)(j:Jump):List Ob:=[.cells [.list false kd (used.map .str)],.cells [.str fresh],.cells [.str stem],.bD true,
 .loop st j u0 [U,U,.ptr 0 0,U,.str [],.ptr 1 0,U,U,U,U,U,U,U,U,U,U,U] [10] (.ae To) VH]
theorem agK(used:List (List UInt8)){kd:Nat}(hk:Kd 1 kd used)(hl:used.length<2^20)(stem s:List UInt8)(h:s∈used):∀up,AM.Reach Tryz.prog Γ ((jm.yl 4).cfg [.str s] up (wQ used kd stem stem .ready .none)) (.back up (.bool true) (wQ used kd stem stem .ready .none)):=by
 intro up;have hc:=FP (Γ:=Γ) used s hk (by omega);simp[jO];refine .a8 60 ?_;simp;refine .kW 60 (by simp) hc ?_;simp[h]
theorem ahd(used:List (List UInt8)){kd:Nat}(hk:Kd 1 kd used)(hl:used.length<2^20)(stem s:List UInt8)(h:¬s∈used):∀up,AM.Reach Tryz.prog Γ ((jm.yl 4).cfg [.str s] up (wQ used kd stem stem .ready .none)) (.back up (.bool false) (wQ used kd s stem .done (.exit 0))):=by
 intro up;have hc:=FP (Γ:=Γ) used s hk (by omega);simp[jO];refine .a8 60 ?_;simp;refine .kW 60 (by simp) hc ?_;simp[h];exact .refl _
set_option maxRecDepth 8000 in
theorem agm(hΓ:oE Γ)(used:List (List UInt8))(stem:List UInt8){kd:Nat}(hk:Kd 1 kd used)(hl:used.length<2^20)(hs:stem.length<2^40):aS Tryz.prog Γ u0 [.list false kd (used.map .str),.str stem] (.str (fI used stem)):=by
 have stop:∀k:Nat,k<2^21->¬(stem++Lib.decDigits k∈used)->aA Tryz.prog Γ (VR (.cY 4) (.ptr 2 0) (.int .i64 k) (wQ used kd stem stem .ready .none) ⟨[],.norm,5,Sq used kd stem⟩) (.ret (.str (stem++Lib.decDigits k))):=by
  intro k hk1 h;have hp:=Rk hΓ k hk1;have hd:=PB hk1;refine .go 60 ?_;simp;refine .dr 60 ?_;simp;refine .call (by simp) hp ?_;simp(disch:=omega);refine .go (.bool false) _ (ahd used hk hl stem _ h) ?_;simp;exact .back (by simp)
 have key:∀n k:Nat,k+n<2^21->¬(oK used stem n k∈used)->aA Tryz.prog Γ (VR (.cY 4) (.ptr 2 0) (.int .i64 k) (wQ used kd stem stem .ready .none) ⟨[],.norm,5,Sq used kd stem⟩) (.ret (.str (oK used stem n k))):=by
  intro n
  induction n with
  |zero=>
   intro k hn h;exact stop k (by omega) h
  |succ n ih=>
   intro k hn h;rw[oK]at h⊢
   by_cases h1:stem++Lib.decDigits k∈used
   ·have h2:used.contains (stem++Lib.decDigits k)=true:=by simpa using h1
    rw[if_pos h2]at h⊢;have hh:=ih (k+1) (by omega) h;have hp:=Rk hΓ k (by omega);have hd:=PB (n:=k) (by omega);refine .go 60 ?_;simp;refine .dr 60 ?_;simp;refine .call (by simp) hp ?_;simp(disch:=omega);refine .go (.bool true) _ (agK used hk hl stem _ h1) ?_;simp(disch:=omega);refine .aO ?_;simp at hh⊢;exact hh
   ·have h2:¬used.contains (stem++Lib.decDigits k)=true:=by simpa using h1
    rw[if_neg h2];exact stop k (by omega) h1
 refine .run 60 YJ (by simp) ?_;simp;refine .enter 60 YG ?_;simp;refine .enter 60 Ye ?_;simp;refine .inLoop ?_;have hh:=key used.length 1 (by omega) (NL used stem);unfold fI;simp at hh⊢;exact hh
end Go.Proofs.YtchjijfjidlpjaaGreatDoor
namespace Go.Proofs.YtchjijfjidlpjaaGreatDoor
open Go.AM Go.Proofs
variable{Γ:Nat->Option AV}
theorem _root_.Go.AM.Reach.HW{P:Program}{f:FuncId}{args:List AV}{up:List Fr}{h h':List Ob}{v:AV}(J:List Ob)(hl:h'.length=h.length)(hw:bS h')(hv:aG h.length v=true)(h1:AM.Reach P Γ (.cl f args up h) (.back up v (h'++J))):AM.Reach P Γ (.cl f args up h) (.back up v h'):=by
 have e:(h'++J).take h.length=h':=by rw[<-hl,sW rfl]
 have:=AM.Reach.leave h1 hv (by rw[e];exact hw _ (by omega));rwa[e]at this
abbrev lh(x:Nat×Bs):AV×AV:=(iN x.1,.str x.2)
theorem v7(a:Nat)(m:List (Nat×Bs)):eT (.sc .int) (.int .i64 (a:Int)) (m.map lh)=some ((getM a m).map .str):=y9 ud .str a m
theorem Ru{a:Nat}{m:List (Nat×Bs)}(s:Bs)(h:getM a m=none):gb (.sc .int) (.int .i64 (a:Int)) (.str s) (m.map lh)=some ((m++[(a,s)]).map lh):=BZ ud .str s h
abbrev nD(s:Bs)(op:Int)(l:AV):AV:=.agg [.str s,.int .i64 op,l,.list true 0 [],.bool false]
def By.raw(m:List (Nat×Bs))(s:Bs):By->AV
 |.one b=>nD s (if b then 1 else 0) (.list true 0 [])
 |.r9 a=>nD s 3 (.list true 1 [.str (dt m (a^^^1))])
 |.both p q=>nD s 4 (.list true 1 [.str (dt m p),.str (dt m q)])
abbrev EG:By->AV
 |.one b=>.bT Fs (.agg [.bool b])
 |.r9 a=>.bT Fv (.agg [iN a])
 |.both p q=>.bT FE (.agg [iN p,iN q])
theorem Ro(b:Bool)(v:AV){h:List Ob}(hw:bS h):∀up,AM.Reach Tryz.prog Γ (.cl A_ [.agg [.bool b],v] up h) (.back up (nD [] (if b then 1 else 0) (.list true 0 [])) h):=by
 intro up;refine .zH [.cells [.bool b],.cells [.str [],.int .i64 (if b then 1 else 0),.list true 0 [],.list true 0 [],.bool false],.row 1 au [] none true false,.row 1 au [] none true false] hw (by simp) ?_;refine .bt 60 W6 ?_
 cases b
 ·simp
 ·simp
theorem Np(a:Nat)(ha:(a:Int)<2^60)(m:List (Nat×Bs)){q:Nat}{h:List Ob}(hq:h[q]? =some (.map (m.map lh) true))(hw:bS h):∀up,AM.Reach Tryz.prog Γ (.cl Bc [.agg [iN a],.mp q] up h) (.back up (nD [] 3 (.list true 1 [.str (dt m (a^^^1))])) h):=by
 intro up
 have hget:=fun os=>fF hq os
 have hf:=v7 (a^^^1) m;refine .zH [.cells [iN a],.cells [.str [],.int .i64 3,.list true 1 [.str (dt m (a^^^1))],.list true 0 [],.bool false],.row 1 au [] none true false,.row 1 au [] none true false] hw (by simp) ?_;refine .bt 60 Xq ?_;unfold dt
 cases hg:getM (a^^^1) m with
 |none=>
  rw[hg]at hf;simp at hf;simp(disch:=omega) [hget,hf,isKey,bN,b9]
 |some s=>
  rw[hg]at hf;simp at hf;simp(disch:=omega) [hget,hf,isKey,bN,b9]
theorem afw(p p2:Nat)(m:List (Nat×Bs)){q:Nat}{h:List Ob}(hq:h[q]? =some (.map (m.map lh) true))(hw:bS h):∀up,AM.Reach Tryz.prog Γ (.cl Bi [.agg [iN p,iN p2],.mp q] up h) (.back up (nD [] 4 (.list true 1 [.str (dt m p),.str (dt m p2)])) h):=by
 intro up
 have hget:=fun os=>fF hq os
 have hf:=v7 p m;have hf2:=v7 p2 m;refine .zH [.cells [iN p,iN p2],.cells [.str [],.int .i64 4,.list true 1 [.str (dt m p),.str (dt m p2)],.list true 0 [],.bool false],.row 1 au [] none true false,.row 1 au [] none true false] hw (by simp) ?_;refine .bt 60 XK ?_;unfold dt
 cases hg:getM p m<;>cases hg2:getM p2 m<;>rw[hg]at hf<;>rw[hg2]at hf2<;>simp at hf hf2<;>simp[hget,hf,hf2,isKey,bN,b9]<;>exact .refl _
theorem Sn(a:Nat):aS Tryz.prog Γ xQ [iN a] (EG (fA a)):=by
 refine .run 60 X8 (by simp) ?_;unfold fA
 by_cases h:a<2
 ·have h2:((a:Int)<2)=True:=bR (by omega)
  by_cases h1:a=1
  ·subst h1;simp;exact .back (by simp)
  ·obtain rfl:a=0:=by omega
   simp;exact .back (by simp)
 ·have h2:((a:Int)<2)=False:=nY (by omega);simp[h,h2];exact .back (by simp)
abbrev DE(I O:AV)(nl ng nu:Nat):Ob:=.cells [I,O,.sl 11 0 nl,.sl 10 0 ng,.sl 9 0 nu,.mp 8,.fn (.func te) [] [.ptr 7 0],.fn (.func xQ) [] []]
abbrev dV(a0 a1 a2 a3 a4 a5:Ob)(I O:AV)(nl:Nat)(x:Ra)(gu gg:Option Nat)(rL:Ob)(tl:List Ob):List Ob:=
 a0::a1::a2::a3::a4::a5::DE I O nl x.af.length x.used.length::.cells [.ptr 6 0]::.map (x.bn.map lh) true::.row 1 au (x.used.map .str) gu true true::.row 5 qc (x.af.map cW) gg true false::rL::tl
structure iQ(a0 a1 a2 a3 a4 a5:Ob)(I O:AV)(rL:Ob)(tl:List Ob):Prop where
 a:∀n,12<=n->cr n [a0,a1,a2,a3,a4,a5,rL]=true
 i:∀n,12<=n->aG n I=true/\aG n O=true
 t:∀n,12<=n->cr n tl=true
theorem Rm(n:Nat)(m:List (Nat×Bs)):fa n (m.map lh)=true:=by
 induction m with
 |nil=>rfl
 |cons x m ih=>simpa[fa]using ih
theorem NY(n:Nat)(l:List Bs):aK n (l.map AV.str)=true:=by
 induction l with
 |nil=>rfl
 |cons x m _=>simp[aK]
theorem aej(n:Nat)(l:List Gt):aK n (l.map cW)=true:=by
 induction l with
 |nil=>rfl
 |cons x m ih=>simp[ih,NY]
section
variable{a0 a1 a2 a3 a4 a5 rL:Ob}{I O:AV}{tl:List Ob}
theorem iQ.wf(H:iQ a0 a1 a2 a3 a4 a5 I O rL tl)(nl:Nat)(x:Ra)(gu gg:Option Nat):bS (dV a0 a1 a2 a3 a4 a5 I O nl x gu gg rL tl):=by
 intro n hn;simp only[bE]at hn;have h1:=H.a n (by omega);have h2:=H.i n (by omega);have h3:=H.t n (by omega)
 have q:∀k,k<12->k<n:=fun k hk=>by omega
 have b1:=Rm n x.bn;have b2:=NY n x.used;have b3:=aej n x.af;simp at h1;simp[h1,h2,h3,q,b1,b2,b3]
theorem Rz(H:iQ a0 a1 a2 a3 a4 a5 I O rL tl)(nl:Nat)(x:Ra)(gu gg:Option Nat)(hg:gg=none\/gg=some 0)(hl:x.af.length<2^30)(M:List (Nat×Bs))(b:By)(s:Bs):∀up,AM.Reach Tryz.prog Γ (.cl te [b.raw M s,.ptr 7 0] up (dV a0 a1 a2 a3 a4 a5 I O nl x gu gg rL tl))
 (.back up (.aH []) (dV a0 a1 a2 a3 a4 a5 I O nl ⟨x.af++[b.gate M s],x.used,x.bn⟩ gu (some 0) rL tl)):=by
 intro up;have hw:=H.wf nl ⟨x.af++[b.gate M s],x.used,x.bn⟩ gu (some 0)
 have hle:((x.af.length:Int)+1)<=2^40:=by omega
 refine .HW [.cells (AV.cells (b.raw M s))] (by simp) hw rfl ?_
 rcases hg with rfl|rfl<;>cases b<;>(
  refine .bt 60 LY ?_;simp[By.raw];refine .ea 60 ?_;simp(disch:=omega) [By.gate,uj,eL,hle]
  exact .refl _)
end
theorem adw{a:Nat}{m:List (Nat×Bs)}{s:Bs}(h:getM a m=none):getM a (m++[(a,s)])=some s:=by
 induction m with
 |nil=>simp[getM]
 |cons x m ih=>
  rw[eo];rw[getM]at h⊢
  split at h
  ·cases h
  ·rename_i hx;rw[if_neg hx];exact ih h
theorem _root_.Go.AM.gy.uc{P:Program}{K:mI}{l:List Bool}{w:Nat}{ws:List Nat}{i:Nat}{d:Option Nat}{a:AO}{os:List AG}{t:List AV}{h:List Ob}{hs:List (List Ob)}{Cs:List (Nat×(List Ob->Prop))}{f:FuncId}{args:List AV}{v:AV}(Q:List Ob->Prop)(hb:az P f=true)
 (hq:∀g,Q g->∀up,AM.Reach P Γ (.cl f args up g) (.back up v g))(h1:∀g∈hs,aB P Γ t g a=.call f args/\Q g)
 (h3:cB P Γ K l ws (i+1) os (a_ t d v) h hs ((w,fun g=>aB P Γ t g a=.call f args/\Q g)::Cs)):gy P Γ K true l w ws i d a os t h hs Cs f args:=
 ⟨hb,by
  rw[if_pos rfl]
  exact⟨v,_,fun g hg=>⟨hg.1,hq g hg.2⟩,h1,h3⟩⟩
def By.iA:By->Prop
 |.one _=>True
 |.r9 a=>(a:Int)<2^60
 |.both _ _=>True
section
variable{a0 a1 a2 a3 a4 a5 rL:Ob}{I O:AV}{tl:List Ob}
theorem iQ.more(H:iQ a0 a1 a2 a3 a4 a5 I O rL tl){J:List Ob}(hJ:∀n,12<=n->cr n J=true):iQ a0 a1 a2 a3 a4 a5 I O rL (tl++J):=
 ⟨H.a,H.i,fun n hn=>by simp[H.t n hn,hJ n hn]⟩
theorem bS.app{h J:List Ob}(hw:bS h)(hJ:∀n,h.length+J.length<=n->cr n J=true):bS (h++J):=fun n hn=>by
 rw[bu]at hn;simp[hw n (by omega),hJ n hn]
theorem iQ.oQ(H:iQ a0 a1 a2 a3 a4 a5 I O rL tl)(nl:Nat)(x:Ra)(gu gg:Option Nat)(J:List Ob)(hJ:∀n,tl.length+12+J.length<=n->cr n J=true):bS (dV a0 a1 a2 a3 a4 a5 I O nl x gu gg rL (tl++J)):=
 (H.wf nl x gu gg).app (J:=J) fun n hn=>hJ n (by simp only[bE]at hn;omega)
set_option maxRecDepth 8000 in
theorem Rf(hΓ:oE Γ)(H:iQ a0 a1 a2 a3 a4 a5 I O rL tl)(nl:Nat)(x:Ra)(gu gg:Option Nat)(hu:gu=none\/gu=some 0)(hg:gg=none\/gg=some 0)(hl:x.af.length<2^30)(hl2:x.used.length<2^20)(a:Nat)(hn:getM a x.bn=none)(b:By)(hb:b.iA):
 ∀up,AM.Reach Tryz.prog Γ (.cl xJ [.ptr 6 0,iN a,EG b] up (dV a0 a1 a2 a3 a4 a5 I O nl x gu gg rL tl)) (.back up (.aH []) (dV a0 a1 a2 a3 a4 a5 I O nl (x.make a b) (some 0) (some 0) rL tl)):=by
 intro up;have hw:=H.wf nl x gu gg;have hw2:=H.wf nl (x.make a b) (some 0) (some 0);have hF:=agm hΓ x.used fh (kd:=1) .self hl2 (by simp);have hput:=Ru (fI x.used fh) hn;refine .HW [.cells (AV.cells (By.raw x.bn (fI x.used fh) b)),.row 1 au [] none true false,.row 1 au [] none true false] (by simp) hw2 rfl ?_
 have hA:=fun(J:List Ob) hJ up=>Rz (Γ:=Γ) (H.more (J:=J) hJ) nl ⟨x.af,x.used++[fI x.used fh],x.bn++[(a,fI x.used fh)]⟩ (some 0) gg hg hl x.bn b (fI x.used fh) up
 generalize hs:fI x.used fh=s at*
 have hle2:(x.used.length+1)*16<=140737488355328:=by omega
 rcases hu with rfl|rfl
 all_goals
  cases b with
  |one b=>
  have hG:=fun g hg=>Ro (Γ:=Γ) b (.mp 8) (h:=g) hg
  refine .bt 60 Fj ?_;simp;refine .ea 60 ?_;simp;refine .uc bS (by simp) hG (by simp[hw]) ?_;simp;refine⟨H.oQ nl x _ gg _ (by intro n hn;simp at hn;simp;omega),?_⟩;refine .kW 60 (by simp) hF ?_;simp;refine .ea 60 ?_;simp[hle2,hput,isKey,bN,b9];refine .ea 60 ?_;simp;have hA1:=hA [.cells (AV.cells (By.raw x.bn s (.one b))),.row 1 au [] none true false,.row 1 au [] none true false] (by intro n hn;simp[By.raw]);simp[By.raw,dV,DE]at hA1;refine .reach (by simp) hA1 ?_;simp[Ra.make,hs,By.raw]
  |r9 c=>
  have hG:=fun g (hg:bS g/\g[8]? =some (.map (x.bn.map lh) true))=>Np (Γ:=Γ) c hb x.bn (q:=8) (h:=g) hg.2 hg.1
  refine .bt 60 Fj ?_;simp;refine .ea 60 ?_;simp;refine .uc (fun g=>bS g/\g[8]? =some (.map (x.bn.map lh) true)) (by simp) hG (by simp[hw]) ?_;simp;refine⟨H.oQ nl x _ gg _ (by intro n hn;simp at hn;simp;omega),?_⟩;refine .kW 60 (by simp) hF ?_;simp;refine .ea 60 ?_;simp[hle2,hput,isKey,bN,b9];refine .ea 60 ?_;simp;have hA1:=hA [.cells (AV.cells (By.raw x.bn s (.r9 c))),.row 1 au [] none true false,.row 1 au [] none true false] (by intro n hn;simp[By.raw]);simp[By.raw,dV,DE]at hA1;refine .reach (by simp) hA1 ?_;simp[Ra.make,hs,By.raw]
  |both p q=>
  have hG:=fun g (hg:bS g/\g[8]? =some (.map (x.bn.map lh) true))=>afw (Γ:=Γ) p q x.bn (q:=8) (h:=g) hg.2 hg.1
  refine .bt 60 Fj ?_;simp;refine .ea 60 ?_;simp;refine .uc (fun g=>bS g/\g[8]? =some (.map (x.bn.map lh) true)) (by simp) hG (by simp[hw]) ?_;simp;refine⟨H.oQ nl x _ gg _ (by intro n hn;simp at hn;simp;omega),?_⟩;refine .kW 60 (by simp) hF ?_;simp;refine .ea 60 ?_;simp[hle2,hput,isKey,bN,b9];refine .ea 60 ?_;simp;have hA1:=hA [.cells (AV.cells (By.raw x.bn s (.both p q))),.row 1 au [] none true false,.row 1 au [] none true false] (by intro n hn;simp[By.raw]);simp[By.raw,dV,DE]at hA1;refine .reach (by simp) hA1 ?_;simp[Ra.make,hs,By.raw]
def wH(x:Ra)(a:Nat)(g:Option Nat):Option Nat:=match getM a x.bn with
 |some _=>g
 |none=>some 0
theorem adp{a:Nat}(ha:(a:Int)<2^60):(fA a).iA:=by
 unfold fA
 split
 ·trivial
 ·exact ha
theorem wh(b:By)(n:Nat):dZ n (EG b)=(EG b,[]):=by cases b<;>rfl
set_option maxRecDepth 8000 in
theorem IL(hΓ:oE Γ)(H:iQ a0 a1 a2 a3 a4 a5 I O rL tl)(nl:Nat)(x:Ra)(gu gg:Option Nat)(hu:gu=none\/gu=some 0)(hg:gg=none\/gg=some 0)(hl:x.af.length<2^30)(hl2:x.used.length<2^20)(a:Nat)(ha:(a:Int)<2^60):
 ∀up,AM.Reach Tryz.prog Γ (.cl uR [.ptr 6 0,iN a] up (dV a0 a1 a2 a3 a4 a5 I O nl x gu gg rL tl)) (.back up (.str (dt (x.df a).bn a)) (dV a0 a1 a2 a3 a4 a5 I O nl (x.df a) (wH x a gu) (wH x a gg) rL tl)):=by
 intro up;have hf:=v7 a x.bn;refine .bt 60 Xw ?_;unfold Ra.df wH dt
 cases hg1:getM a x.bn with
 |some s=>
  rw[hg1]at hf;simp at hf;simp[hf,hg1,isKey,bN,b9]
 |none=>
  rw[hg1]at hf;simp at hf;have hM:=Rf hΓ H nl x gu gg hu hg hl hl2 a hg1 (fA a) (adp ha);have hf2:=v7 a (x.make a (fA a)).bn;have hg2:getM a (x.make a (fA a)).bn=some (fI x.used fh):=adw hg1;rw[hg2]at hf2;simp at hf2;simp[hf,isKey,bN,b9];refine .aW 60 (AM.Reach.Sr (by simp) (Sn a) (wh _) (by simp[eC,wh,-dZ])) ?_;simp;refine .aW 60 hM ?_;simp[hf2,hg2,isKey,bN,b9]
end
end Go.Proofs.YtchjijfjidlpjaaGreatDoor
namespace Go.Proofs.YtchjijfjidlpjaaGreatDoor
open Go.AM Go.Proofs
def dI(used:List Bs):Nat->List Bs
 |0=>[]
 |n+1=>dI used n++[fI (used++dI used n) fh]
@[simp] theorem Q8(used:List Bs):∀n,(dI used n).length=n
 |0=>rfl
 |n+1=>by simp[dI,Q8 used n]
theorem Qa(used:List Bs):∀n,(dI used n).Nodup/\∀s∈dI used n,s∉used
 |0=>⟨by simp[dI],fun s h=>by simp[dI]at h⟩
 |n+1=>by
  obtain⟨h1,h2⟩:=Qa used n;have h3:=NL (used++dI used n) fh;simp only[aT,not_or]at h3;refine⟨?_,fun s hs=>?_⟩
  ·rw[dI,ly];refine⟨h1,by simp,fun a ha b hb=>?_⟩;simp only[cE]at hb;subst hb
   rintro rfl
   exact h3.2 ha
  ·rw[dI]at hs
   rcases aT.1 hs with hs|hs
   ·exact h2 s hs
   ·simp only[cE]at hs;subst hs;exact h3.1
theorem PI(used:List Bs):∀n,∀s∈dI used n,∃j,j<=used.length+n+1/\s=fh++Lib.decDigits j
 |0,s,h=>by simp[dI]at h
 |n+1,s,h=>by
  rw[dI]at h
  rcases aT.1 h with h|h
  ·obtain⟨j,h1,h2⟩:=PI used n s h;exact⟨j,by omega,h2⟩
  ·simp only[cE]at h;subst h;obtain⟨j,h1,h2,h3⟩:=PD (used:=used++dI used n) (stem:=fh) (used++dI used n).length 1;simp only[bu,Q8]at h2;exact⟨j,by omega,h3⟩
theorem af2:∀(n m:Nat),n<=m->∀c∈Lib.decDigits n,∃d,d<10/\c=sw d:=by
 intro n m
 induction m generalizing n with
 |zero=>
  intro h c hc
  obtain rfl:n=0:=by omega
  rw[mg (by omega)]at hc;simp only[cE]at hc;exact⟨0,by omega,hc⟩
 |succ m ih=>
  intro h c hc
  by_cases h3:n<10
  ·rw[mg h3]at hc;simp only[cE]at hc;exact⟨n,h3,hc⟩
  ·rw[qt h3]at hc
   rcases aT.1 hc with hc|hc
   ·exact ih (n/10) (by omega) c hc
   ·simp only[cE]at hc;exact⟨n%10,by omega,hc⟩
theorem MZ{j:Nat}(h:j<10^7):fK (fh++Lib.decDigits j)=true:=by
 have h1:=PM h;unfold fK;simp only[ay,j7,aZ];refine⟨kR.2 fun c hc=>?_,?_⟩
 ·rcases aT.1 hc with hc|hc
  ·simp only[cE]at hc
   subst hc;decide
  ·obtain⟨d,hd,rfl⟩:=af2 j j (aQ _) c hc
   have:∀d:Fin 10,pz (sw d.val)=false:=by decide+kernel
   exact this ⟨d,hd⟩
 ·simp;omega
theorem CC{α:Type}{p:List α->Prop}(h0:p [])(h1:∀l a,p l->p (l++[a])):∀l,p l:=fun l=>by
 have:∀l:List α,p l.reverse:=by
  intro l
  induction l with
  |nil=>simpa using h0
  |cons a l ih=>simpa using h1 _ a ih
 simpa using this l.reverse
def cL(m:Md)(L:List (Nat×By)):Ra:=L.foldl (fun x e=>x.make e.1 e.2) (iX m)
theorem tI(m:Md)(L:List (Nat×By))(e:Nat×By):cL m (L++[e])=(cL m L).make e.1 e.2:=by simp[cL]
abbrev ji(m:Md):List Bs:=m.an++m.ah++m.aw
def kj(n:Nat):List Nat:=(List.range n).map fun k=>2*(k+1)
def bV(m:Md)(L:List (Nat×By)):List Nat:=kj (m.an++m.ah).length++L.map (·.1)
def gh(m:Md)(n:Nat):List Bs:=(m.an++m.ah)++dI (ji m) n
theorem Ow:∀(l:List Bs)(k:Nat),iL k l=((List.range' k l.length).map fun k=>2*(k+1)).zip l
 |[],k=>rfl
 |s::l,k=>by
  rw[iL,bE,List.range'_succ,bU,xf,Ow l (k+1)]
theorem vv(m:Md)(L:List (Nat×By)):(cL m L).used=ji m++dI (ji m) L.length/\(cL m L).bn=(bV m L).zip (gh m L.length):=by
 induction L using CC with
 |h0=>
  refine⟨by simp[cL,iX,dI],?_⟩;simp only[cL,List.foldl_nil,iX,Ow,bV,kj,gh,dI,cS,jG,ee,List.range_eq_range']
 |h1 L e ih=>
  obtain⟨h1,h2⟩:=ih;rw[tI];refine⟨?_,?_⟩
  ·simp only[Ra.make,h1,bu,bE,cS,dI,cI]
  ·simp only[Ra.make,h1,h2,bV,gh,j5,bU,jG,bu,bE,cS,dI];rw[<-cI,<-cI,List.zip_append (l₁:=kj _++_)]
   ·rfl
   ·simp[kj];omega
theorem Na(m:Md)(L:List (Nat×By)):(cL m L).af.length=L.length:=by
 induction L using CC with
 |h0=>rfl
 |h1 L e ih=>rw[tI];simp[Ra.make,ih]
theorem CV:∀(K:List Nat)(N:List Bs)(k:Nat),K.Nodup->(hk:k<K.length)->(hn:K.length=N.length)->getM K[k] (K.zip N)=some (N[k]'(by omega))
 |[],N,k,_,hk,_=>by simp at hk
 |a::K,[],k,_,hk,hn=>by simp at hn
 |a::K,s::N,0,_,hk,hn=>by simp[getM]
 |a::K,s::N,k+1,h,hk,hn=>by
  rw[lA]at h
  have hk':k<K.length:=by simpa using hk
  have ih:=CV K N k h.2 hk' (by simpa using hn)
  have hne:¬K[k]=a:=fun e=>h.1 (by rw[<-e];exact bw hk')
  simp only[sV,xf,getM,hne,da];exact ih
theorem OP{K:List Nat}{N:List Bs}(hn:K.length=N.length){a:Nat}:getM a (K.zip N)=none↔a∉K:=by
 rw[getM_none];constructor
 ·intro h hm;obtain⟨k,hk,rfl⟩:=gC hm
  have hkz:k<(K.zip N).length:=by simp;omega
  have:=h (K.zip N)[k] (bw hkz);simp at this
 ·rintro h ⟨x,s⟩ hx rfl
  exact h (List.of_mem_zip hx).1
theorem nc(m:Md)(L:List (Nat×By)):(bV m L).length=(gh m L.length).length:=by simp[bV,gh,kj];omega
def qF:Nat×By->Bool
 |(_,.both _ _)=>true
 |_=>false
theorem HB(a:Nat):qF (a,fA a)=false:=by unfold fA;split<;>rfl
inductive Tr(m:Md)(first:Nat)(ands:List (Int×Int)):List (Nat×By)->Nat->Prop
 |nil:Tr m first ands [] 0
 |df {L:List (Nat×By)} {t:Nat} (a:Nat):Tr m first ands L t->(a<2\/(a%2=1/\a-1∈bV m L))->a∉bV m L->Tr m first ands (L++[(a,fA a)]) t
 |both {L:List (Nat×By)} {t:Nat} (p q:Nat):Tr m first ands L t->ands[t]? =some ((p:Int),(q:Int))->p∈bV m L->q∈bV m L->Tr m first ands (L++[(2*(first+t),.both p q)]) (t+1)
theorem tG(m:Md)(L:List (Nat×By))(e:Nat×By):bV m (L++[e])=bV m L++[e.1]:=by simp[bV]
theorem vF(m:Md)(L L2:List (Nat×By)):bV m (L++L2)=bV m L++L2.map (·.1):=by simp[bV]
structure TrF(m:Md)(first:Nat)(L:List (Nat×By))(t:Nat):Prop where
 nodup:(bV m L).Nodup
 lt:∀a∈bV m L,a<2*(first+t)
 even:∀n,1<=n->n<first+t->2*n∈bV m L
theorem Tr.facts{m:Md}{first:Nat}{ands:List (Int×Int)}(hf:first=1+(m.an++m.ah).length){L:List (Nat×By)}{t:Nat}(h:Tr m first ands L t):TrF m first L t:=by
 induction h with
 |nil=>
  refine⟨?_,fun a ha=>?_,fun n h1 h2=>?_⟩
  ·simp only[bV,kj,jG,ee];rw[Fb,List.pairwise_map];exact List.Pairwise.imp (fun hab he=>hab (by omega)) (Fb.1 Lu)
  ·simp only[bV,kj,jG,ee,cd,dJ]at ha;obtain⟨k,hk,rfl⟩:=ha;omega
  ·simp only[bV,kj,jG,ee,cd,dJ];exact⟨n-1,by omega,by omega⟩
 |df a _ ha hn ih=>
  refine⟨?_,fun x hx=>?_,fun n h1 h2=>?_⟩
  ·rw[tG,ly];refine⟨ih.nodup,by simp,fun x hx y hy=>?_⟩;simp only[cE]at hy;subst hy
   rintro rfl
   exact hn hx
  ·rw[tG]at hx
   rcases aT.1 hx with hx|hx
   ·exact ih.lt x hx
   ·simp only[cE]at hx;subst hx
    rcases ha with ha|⟨ha,hb⟩
    ·omega
    ·have:=ih.lt _ hb;omega
  ·rw[tG];exact mW _ (ih.even n h1 h2)
 |both p q _ hp h1 h2 ih=>
  refine⟨?_,fun x hx=>?_,fun n h3 h4=>?_⟩
  ·rw[tG,ly];refine⟨ih.nodup,by simp,fun x hx y hy=>?_⟩;simp only[cE]at hy;subst hy
   rintro rfl
   have:=ih.lt _ hx;omega
  ·rw[tG]at hx
   rcases aT.1 hx with hx|hx
   ·have:=ih.lt x hx;omega
   ·simp only[cE]at hx;subst hx;omega
  ·rw[tG];rename_i L t _
   by_cases h:n<first+t
   ·exact mW _ (ih.even n h3 h)
   ·refine xo _ ?_;simp only[cE];omega
theorem H9{m:Md}{first:Nat}{ands:List (Int×Int)}(hf:first=1+(m.an++m.ah).length){L:List (Nat×By)}{t:Nat}(h:Tr m first ands L t){a:Nat}(ha:a<2*(first+t)):
 ∃L2,Tr m first ands (L++L2) t/\(cL m L).df a=cL m (L++L2)/\a∈bV m (L++L2)/\∀e∈L2,e=(a,fA a):=by
 have F:=h.facts hf;obtain⟨u1,u2⟩:=vv m L;unfold Ra.df
 cases hg:getM a (cL m L).bn with
 |some s=>
  refine⟨[],by simpa using h,by simp,?_,by simp⟩;rw[ee]
  refine Fa fun hn=>?_
  rw[u2,(OP (nc m L)).2 hn]at hg
  cases hg
 |none=>
  rw[u2,OP (nc m L)]at hg;refine⟨[(a,fA a)],.df a h ?_ hg,by rw[tI],by rw[tG];simp,by simp⟩
  by_cases h2:a<2
  ·exact .inl h2
  ·refine .inr ?_
   have h3:a%2=1:=by
    refine Fa fun hn=>hg ?_
    have:=F.even (a/2) (by omega) (by omega);rwa[show 2*(a/2)=a by omega]at this
   have:=F.even (a/2) (by omega) (by omega);exact⟨h3,by rwa[show 2*(a/2)=a-1 by omega]at this⟩
theorem aef{m:Md}{first:Nat}{ands:List (Int×Int)}(hf:first=1+(m.an++m.ah).length)(hw:∀i(hi:i<ands.length),(0<=ands[i].1/\ands[i].1<2*(first+i))/\0<=ands[i].2/\ands[i].2<2*(first+i)):∀n i,i+n=ands.length->∀L,Tr m first ands L i->
 ∃L2,Tr m first ands (L++L2) ands.length/\ny first (ands.drop i) i (cL m L)=cL m (L++L2)/\∀e∈L2,qF e=false->∃p∈ands,e.1=p.1.toNat\/e.1=p.2.toNat:=by
 intro n
 induction n with
 |zero=>
  intro i hi L h
  obtain rfl:i=ands.length:=by omega
  exact⟨[],by simpa using h,by rw[w6];simp[ny],by simp⟩
 |succ n ih=>
  intro i hi L h
  have q1:i<ands.length:=by omega
  obtain⟨⟨a1,a2⟩,a3,a4⟩:=hw i q1;obtain⟨p,hp⟩:=gB a1;obtain⟨q,hq⟩:=gB a3
  have e:ands[i]? =some ((p:Int),(q:Int)):=by
   rw[aR q1];congr 1;exact Prod.ext hp hq
  rw[bJ q1,ny,hp,hq];simp only[dX];obtain⟨L1,t1,e1,k1,s1⟩:=H9 hf h (a:=p) (by omega);rw[e1];obtain⟨L2,t2,e2,k2,s2⟩:=H9 hf t1 (a:=q) (by omega);rw[e2]
  have k1':p∈bV m (L++L1++L2):=by rw[vF m (L++L1)];exact mW _ k1
  obtain⟨L3,t3,e3,s3⟩:=ih (i+1) (by omega) _ (.both p q t2 e k1' k2);rw[tI]at e3
  have hm:((p:Int),(q:Int))∈ands:=by
   have:=bw q1;rwa[show ands[i]=((p:Int),(q:Int))from Prod.ext hp hq]at this
  refine⟨L1++L2++[(2*(first+i),By.both p q)]++L3,by simpa[cI]using t3,by rw[e3];simp[cI],fun x hx hb=>?_⟩;simp only[aT,cE]at hx
  rcases hx with((hx|hx)|rfl)|hx
  ·rw[s1 x hx];exact⟨_,hm,.inl (by simp)⟩
  ·rw[s2 x hx];exact⟨_,hm,.inr (by simp)⟩
  ·cases hb
  ·exact s3 x hx hb
theorem afr{m:Md}{L L2:List (Nat×By)}{a:Nat}(ha:a∈bV m L)(hd:(bV m (L++L2)).Nodup):dt (cL m (L++L2)).bn a=dt (cL m L).bn a:=by
 obtain⟨k,hk,rfl⟩:=gC ha
 have pQ:(bV m L).Nodup:=by
  rw[vF,ly]at hd;exact hd.1
 have hk2:k<(bV m (L++L2)).length:=by rw[vF];simp;omega
 have e1:(bV m (L++L2))[k]=(bV m L)[k]:=by
  simp only[vF];rw[uF hk]
 have e2:(gh m (L++L2).length)[k]'(by rw[<-nc];exact hk2)=(gh m L.length)[k]'(by rw[<-nc];exact hk):=by
  have hpre:∀n k:Nat,∃e,dI (ji m) (n+k)=dI (ji m) n++e:=by
   intro n k
   induction k with
   |zero=>exact⟨[],by simp⟩
   |succ k ih=>
    obtain⟨e,he⟩:=ih;exact⟨e++[fI (ji m++dI (ji m) (n+k)) fh],by rw[<-lx,dI,he,cI]⟩
  obtain⟨e,he⟩:=hpre L.length L2.length
  have hn:gh m (L++L2).length=gh m L.length++e:=by rw[bu,gh,he,gh,<-cI]
  simp only[hn];rw[uF]
 unfold dt;rw[(vv m L).2,(vv m (L++L2)).2];rw[CV _ _ k pQ hk (nc m L)]
 conv=>lhs;rw[<-e1]
 rw[CV _ _ k hd hk2 (nc m _)];simp only[e2]
theorem aiO{m:Md}{L:List (Nat×By)}(hd:(bV m L).Nodup){k:Nat}(hk:k<(bV m L).length):dt (cL m L).bn (bV m L)[k]=(gh m L.length)[k]'(by rw[<-nc];exact hk):=by
 unfold dt;rw[(vv m L).2,CV _ _ k hd hk (nc m L)]
theorem PF{m:Md}{first:Nat}{ands:List (Int×Int)}(hf:first=1+(m.an++m.ah).length):∀(l:List Bs)(n v:List Int),l.length=n.length->v.length=n.length->(∀a∈n,0<=a/\a<2*(first+ands.length))->∀L,Tr m first ands L ands.length->
 ∃L2,Tr m first ands (L++L2) ands.length/\(iI l n v (cL m L)).1=cL m (L++L2)/\(∀a∈n,a.toNat∈bV m (L++L2))/\(iI l n v (cL m L)).2.map (·.name)=l/\(iI l n v (cL m L)).2.map (·.init)=v/\(iI l n v (cL m L)).2.map (·.next)=n.map (fun a=>dt (cL m (L++L2)).bn a.toNat)/\∀e∈L2,qF e=false/\∃a∈n,e.1=a.toNat
 |[],[],[],_,_,_,L,h=>⟨[],by simpa using h,by simp[iI],by simp,by simp[iI],by simp[iI],by simp[iI],by simp⟩
 |s::l,a::n,v::i,h1,h2,h3,L,h=>by
  obtain⟨b1,b2⟩:=h3 a (by simp);obtain⟨L1,t1,e1,k1,s1⟩:=H9 hf h (a:=a.toNat) (by omega);obtain⟨L2,t2,e2,k2,e3,e4,e5,s2⟩:=PF hf l n i (by simpa using h1) (by simpa using h2) (fun b hb=>h3 b (by simp[hb])) (L++L1) t1;have F:=t2.facts hf
  have k1':a.toNat∈bV m (L++L1++L2):=by rw[vF m (L++L1)];exact mW _ k1
  refine⟨L1++L2,by simpa[cI]using t2,?_,?_,?_,?_,?_,fun x hx=>?_⟩
  ·rw[iI,e1,e2,cI]
  ·intro b hb;rw[<-cI]
   rcases bz.1 hb with rfl|hb
   ·exact k1'
   ·exact k2 b hb
  ·rw[iI,e1];simp[e3]
  ·rw[iI,e1];simp[e4]
  ·rw[iI,e1,<-cI];simp only[bU,e5];rw[afr k1 F.nodup]
  ·rcases aT.1 hx with hx|hx
   ·rw[s1 x hx];exact⟨HB _,a,by simp,rfl⟩
   ·obtain⟨q1,b,q2,q3⟩:=s2 x hx;exact⟨q1,b,by simp[q2],q3⟩
theorem ach(m:Md)(L:List (Nat×By)):∀L2,∃G,(cL m (L++L2)).af=(cL m L).af++G/\G.length=L2.length:=by
 intro L2
 induction L2 using CC with
 |h0=>exact⟨[],by simp,rfl⟩
 |h1 L2 e ih=>
  obtain⟨G,h1,h2⟩:=ih;refine⟨G++[e.2.gate (cL m (L++L2)).bn (fI (cL m (L++L2)).used fh)],?_,by simp[h2]⟩;rw[<-cI,tI];simp only[Ra.make,h1,cI]
theorem afx(m:Md)(L:List (Nat×By))(e:Nat×By)(L2:List (Nat×By)):(cL m (L++e::L2)).af[L.length]? =some (e.2.gate (cL m L).bn (fI (ji m++dI (ji m) L.length) fh)):=by
 obtain⟨G,h1,h2⟩:=ach m (L++[e]) L2;rw[show L++e::L2=L++[e]++L2 by simp,h1,tI];have hl:=Na m L;simp only[Ra.make,(vv m L).1];rw[cI,dk (by omega),hl];simp
@[simp] theorem agS(b:By)(m:List (Nat×Bs))(s:Bs):(b.gate m s).name=s:=by cases b<;>rfl
theorem abq(m:Md)(L:List (Nat×By)):(cL m L).af.map (·.name)=dI (ji m) L.length:=by
 induction L using CC with
 |h0=>rfl
 |h1 L e ih=>
  rw[tI];simp only[Ra.make,j5,ih,bU,jG,agS,(vv m L).1,bu,bE,cS,dI]
def q_(L:List (Nat×By)):Nat:=(L.filter qF).length
theorem Hv(L:List (Nat×By))(e:Nat×By):q_ (L++[e])=q_ L+if qF e=true then 1 else 0:=by
 unfold q_;rw[List.filter_append,bu]
 cases h:qF e<;>simp[h]
def Dm(m:Md)(first:Nat)(ands:List (Int×Int))(P:List (Nat×By))(e:Nat×By):Prop:=
 (∃a,e=(a,fA a)/\(a<2\/(a%2=1/\a-1∈bV m P)))\/(∃p q:Nat,e=(2*(first+q_ P),.both p q)/\ands[q_ P]? =some ((p:Int),(q:Int))/\p∈bV m P/\q∈bV m P)
theorem Tr.at{m:Md}{first:Nat}{ands:List (Int×Int)}{L:List (Nat×By)}{t:Nat}(h:Tr m first ands L t):t=q_ L/\∀i(hi:i<L.length),Dm m first ands (L.take i) L[i]:=by
 have step:∀(L:List (Nat×By))(e:Nat×By),(∀i(hi:i<L.length),Dm m first ands (L.take i) L[i])->Dm m first ands L e->∀i(hi:i<(L++[e]).length),Dm m first ands ((L++[e]).take i) (L++[e])[i]:=by
  intro L e h1 h2 i hi
  by_cases h:i<L.length
  ·rw[List.take_append_of_le_length (by omega),uF h];exact h1 i h
  ·obtain rfl:i=L.length:=by simp at hi;omega
   rw[sW rfl];simpa using h2
 induction h with
 |nil=>exact⟨rfl,fun i hi=>by simp at hi⟩
 |df a _ ha hn ih=>
  obtain⟨rfl,h2⟩:=ih;refine⟨by rw[Hv,HB];simp,step _ _ h2 (.inl ⟨a,rfl,ha⟩)⟩
 |both p q _ hp h1 h2 ih=>
  obtain⟨rfl,h3⟩:=ih;refine⟨by rw[Hv];simp[qF],step _ _ h3 (.inr ⟨p,q,rfl,hp,h1,h2⟩)⟩
theorem HI{first:Nat}{l:List (Int×Int)}{p q:Nat}(h1:2<=q)(h2:q<p)(h3:p/2≠q/2)(h4:(((p:Nat):Int),((q:Nat):Int))∉l):
 bO first l p q=(l++[((p:Int),(q:Int))],2*(first+l.length)):=by
 unfold bO;rw[Nat.max_eq_left (by omega),Nat.min_eq_right (by omega)]
 have hk:lY p q=none:=by
  unfold lY;have hx:=nb p;rw[if_neg,if_neg]
  ·omega
  ·rw[not_or];refine⟨by omega,?_⟩
   rw[hx];split<;>omega
 rw[hk,GY.2 h4]
theorem Ia{n a:Nat}(h:a/2<n):bo (ids n) a=a:=by
 have e1:(ids n).getD (a/2) 0=2*(a/2):=by
  rw[bq,aR (by simpa using h)];simp[ids]
 unfold bo;rw[e1]
 rcases(show a%2=0\/a%2=1 by omega)with h2|h2
 ·rw[h2,xq];omega
 ·rw[h2,nb,if_pos (by omega)];omega
theorem BK{α:Type}{l:List α}(h:l.Nodup){i:Nat}(hi:i<l.length):l[i]∉l.take i:=by
 intro hm
 have h2:(l.take i++l.drop i).Nodup:=by rw[mT];exact h
 exact(ly.1 h2).2.2 _ hm _ (by rw[bJ hi];exact oY) rfl
theorem Nq{first:Nat}{l:List (Int×Int)}(h:gK first l){i:Nat}(hi:i<l.length):bO first (l.take i) (bo (ids (first+i)) l[i].1.toNat) (bo (ids (first+i)) l[i].2.toNat)=(l.take (i+1),2*(first+i)):=by
 obtain⟨p,q,e,h1,h2,h3,h4⟩:=h.at_ i hi;have hn:=BK h.nd hi;rw[kK hi];rw[e]at hn⊢;simp only[dX];rw[Ia (by omega),Ia (by omega),HI h1 h2 h3 hn,eR,rq (by omega)]
theorem MJ{first:Nat}{l:List (Int×Int)}(h:gK first l):∀n i:Nat,i+n=l.length->fv first (l.drop i) (l.take i) (ids (first+i))=(l,ids (first+l.length))
 |0,i,hi=>by
  have:i=l.length:=by omega
  subst this;rw[w6,w7,fv]
 |n+1,i,hi=>by
  have h1:i<l.length:=by omega
  rw[bJ h1,fv,Nq h h1];simp only;rw[<-Ho,lx];exact MJ h n (i+1) (by omega)
theorem MV{first:Nat}{l:List (Int×Int)}(h:gK first l){aY:List Bool}(hl:∀i,i<l.length->aY.getD (first+i) false=true):∀n i:Nat,i+n=l.length->dK first aY (l.drop i) i (l.take i) (ids (first+i))=(l,ids (first+l.length))
 |0,i,hi=>by
  have:i=l.length:=by omega
  subst this;rw[w6,w7,dK]
 |n+1,i,hi=>by
  have h1:i<l.length:=by omega
  rw[bJ h1,dK,if_pos (hl i h1),Nq h h1];simp only;rw[<-Ho,lx];exact MV h hl n (i+1) (by omega)
theorem Pa{n:Nat}{l:List Int}(h:∀a∈l,0<=a/\a<2*n):(eh (ids n) l).map (fun n:Nat=>(n:Int))=l:=by
 unfold eh;rw[iB]
 conv=>rhs;rw[<-List.map_id l]
 refine mb fun a ha=>?_
 have:=h a ha;simp only[Function.comp_apply,id];rw[Ia (by omega)];omega
theorem Pw{g:Gr}(ok:g.Ok):fX (g.dj (g.ands,ids (g.first+g.ands.length))) g=true:=by
 have h1:g.lits=2*(g.first+g.ands.length):=rfl;have e1:=Pa (n:=g.first+g.ands.length) (l:=g.next) (fun a ha=>by have:=ok.next a ha;omega);have e2:=Pa (n:=g.first+g.ands.length) (l:=g.outs) (fun a ha=>by have:=ok.outs a ha;omega);simp[fX,Gr.dj,e1,e2]
theorem G3{a b:Gr}(h:fX a b=true):a.ins=b.ins/\a.next=b.next/\a.init=b.init/\a.ands=b.ands/\a.outs=b.outs:=by
 simpa[fX,and_assoc]using h
theorem MG{a b:Gr}(h:fX a b=true):a.aY=b.aY/\a.check=b.check/\a.first=b.first/\a.all=b.all/\a.strict=b.strict/\fX a.c9 b.c9=true:=by
 obtain⟨i1,n1,j1,s1,o1,k1,k2,k3,k4,p1,p2,p3,p4⟩:=a;obtain⟨i2,n2,j2,s2,o2,k5,k6,k7,k8,p5,p6,p7,p8⟩:=b;obtain⟨rfl,rfl,rfl,rfl,rfl⟩:=G3 h;exact⟨rfl,rfl,rfl,rfl,rfl,aam _⟩
theorem FD{a b c:Gr}(h:fX a b=true)(h2:fX b c=true):fX a c=true:=by
 obtain⟨h1,h3,h4,h5,h6⟩:=G3 h;simp only[fX,h1,h3,h4,h5,h6];exact h2
theorem qe{g:Gr}(h:g.strict=true):g.Ok/\gK g.first g.ands/\∀i,i<g.ands.length->g.aY.getD (g.first+i) false=true:=by
 simp only[Gr.strict,ay,aZ,j7]at h;obtain⟨hc,hb⟩:=h;have ok:=Gr.qP hc
 have key:∀i,i<g.ands.length->g.DJ i=false:=fun i hi=>kR.1 hb i (dJ.2 hi)
 have key2:∀i(hi:i<g.ands.length),g.ands[i].2<g.ands[i].1/\1<g.ands[i].2/\g.ands[i].1.toNat/2≠g.ands[i].2.toNat/2/\g.aY.getD (g.first+i) false=true/\g.ands[i]∉g.ands.take i:=by
  intro i hi;have:=key i hi;unfold Gr.DJ at this;rw[bq,aR hi,j4]at this;simp only[kJ,iD,E4]at this;obtain⟨⟨⟨⟨t1,t2⟩,t3⟩,t4⟩,t5⟩:=this;exact⟨by omega,by omega,t3,t4,t5⟩
 refine⟨ok,⟨fun i hi=>?_,?_⟩,fun i hi=>(key2 i hi).2.2.2.1⟩
 ·obtain⟨k1,k2,k3,k4,k5⟩:=key2 i hi;have:=ok.ands i hi;refine⟨g.ands[i].1.toNat,g.ands[i].2.toNat,?_,by omega,by omega,k3,by omega⟩
  refine Prod.ext ?_ ?_<;>simp only<;>omega
 ·rw[Fb,List.pairwise_iff_getElem];intro i j hi hj hij he;apply(key2 j hj).2.2.2.2;rw[<-he];exact V'.2 ⟨i,by rw[eR];omega,by rw[w9]⟩
theorem Mq{g:Gr}(h:g.strict=true):fX g.normal g=true:=by
 obtain⟨ok,hs,hl⟩:=qe h
 have e1:g.dq=g.dj (g.ands,ids (g.first+g.ands.length)):=by
  unfold Gr.dq;have:=MJ hs g.ands.length 0 (by omega);simp only[fg,EV,gZ]at this;rw[this]
 have e2:fX g.c9 g=true:=by
  have:g.c9=g.dj (g.ands,ids (g.first+g.ands.length)):=by
   unfold Gr.c9;have:=MV hs hl g.ands.length 0 (by omega);simp only[fg,EV,gZ]at this;rw[this]
  rw[this];exact Pw ok
 have e3:g.normal=g.dq.c9:=by unfold Gr.normal;rw[if_pos (Gr.qn ok)]
 rw[e3]
 have e4:fX g.dq g=true:=by rw[e1];exact Pw ok
 exact FD (MG e4).2.2.2.2.2 e2
theorem pe(v:List Bool)(k n:Nat):(v.set k true).getD n false=true↔v.getD n false=true\/(n=k/\k<v.length):=by
 rw[bq,bq,pX]
 by_cases h:k=n
 ·subst h
  by_cases h2:k<v.length
  ·simp[h2]
  ·simp[h2]
 ·have h3:¬n=k:=fun e=>h e.symm
  simp[h,h3]
theorem GR:∀(l:List Int)(v:List Bool)(n:Nat),(jg l v).getD n false=true↔v.getD n false=true\/(n<v.length/\∃a∈l,a.toNat/2=n)
 |[],v,n=>by simp[jg]
 |a::l,v,n=>by
  rw[jg,GR l,pe,jZ];constructor
  ·rintro((h|⟨rfl,h⟩)|⟨h,b,hb,e⟩)
   ·exact .inl h
   ·exact .inr ⟨h,a,by simp,rfl⟩
   ·exact .inr ⟨h,b,by simp[hb],e⟩
  ·rintro(h|⟨h,b,hb,e⟩)
   ·exact .inl (.inl h)
   ·rcases bz.1 hb with rfl|hb
    ·exact .inl (.inr ⟨e.symm,by omega⟩)
    ·exact .inr ⟨h,b,hb,e⟩
theorem Qp{ands:List (Int×Int)}{first:Nat}(P:Nat->Prop):∀(i:Nat)(v:List Bool),(∀n,v.getD n false=true->P n)->
 (∀j,j<i->P (first+j)->P ((ands.getD j (0,0)).1.toNat/2)/\P ((ands.getD j (0,0)).2.toNat/2))->∀n,(jt ands first i v).getD n false=true->P n
 |0,v,hv,_=>hv
 |i+1,v,hv,hs=>by
  rw[jt];refine Qp P i _ (fun n hn=>?_) (fun j hj=>hs j (by omega))
  split at hn
  ·rename_i h;have:=hs i (by omega) (hv _ h);rw[pe,pe]at hn
   rcases hn with(hn|⟨rfl,_⟩)|⟨rfl,_⟩
   ·exact hv n hn
   ·exact this.1
   ·exact this.2
  ·exact hv n hn
theorem BS{ands:List (Int×Int)}{first:Nat}:∀(i:Nat)(v:List Bool)(n:Nat),v.getD n false=true->(jt ands first i v).getD n false=true
 |0,v,n,h=>h
 |i+1,v,n,h=>by
  rw[jt];refine BS i _ n ?_
  split
  ·rw[pe,pe];exact .inl (.inl h)
  ·exact h
theorem MP{ands:List (Int×Int)}{first:Nat}:∀(i:Nat)(v:List Bool)(n:Nat),first+i<=n+1->(∀j,j<i->(ands.getD j (0,0)).1.toNat/2<first+j/\(ands.getD j (0,0)).2.toNat/2<first+j)->
 ((jt ands first i v).getD n false=true↔v.getD n false=true)
 |0,v,n,_,_=>nX
 |i+1,v,n,h,hw=>by
  have h0:=hw i (by omega);rw[jt,MP i _ n (by omega) (fun j hj=>hw j (by omega))]
  split
  ·rw[pe,pe];constructor
   ·rintro((h2|⟨e,_⟩)|⟨e,_⟩)
    ·exact h2
    ·omega
    ·omega
   ·exact fun h2=>.inl (.inl h2)
  ·exact nX
theorem L'{ands:List (Int×Int)}{first:Nat}:∀(i:Nat)(v:List Bool),(∀j,j<i->(ands.getD j (0,0)).1.toNat/2<first+j/\(ands.getD j (0,0)).2.toNat/2<first+j)->first+i<=v.length->
 ∀j,j<i->(jt ands first i v).getD (first+j) false=true->(jt ands first i v).getD ((ands.getD j (0,0)).1.toNat/2) false=true/\(jt ands first i v).getD ((ands.getD j (0,0)).2.toNat/2) false=true
 |0,v,_,_=>fun j hj=>by omega
 |i+1,v,hw,hl=>by
  intro j hj;have h0:=hw i (by omega);rw[jt]
  by_cases hji:j<i
  ·exact L' i _ (fun j hj=>hw j (by omega)) (by split<;>(try simp only[jZ])<;>omega) j hji
  ·have e:j=i:=by omega
   subst e;rw[MP j _ (first+j) (by omega) (fun j hj=>hw j (by omega))];intro h
   split at h
   ·rename_i h2;rw[if_pos h2];refine⟨BS _ _ _ ?_,BS _ _ _ ?_⟩
    ·rw[pe,pe];exact .inl (.inr ⟨rfl,by omega⟩)
    ·rw[pe];exact .inr ⟨rfl,by rw[jZ];omega⟩
   ·rename_i h2;exact absurd h h2
theorem getD_at{l:List (Int×Int)}{i:Nat}(h:i<l.length):l.getD i (0,0)=l[i]:=by
 rw[bq,aR h];rfl
theorem Gr.Ok.half{g:Gr}(ok:g.Ok):∀j,j<g.ands.length->(g.ands.getD j (0,0)).1.toNat/2<g.first+j/\(g.ands.getD j (0,0)).2.toNat/2<g.first+j:=by
 intro j hj;have:=ok.ands j hj;rw[getD_at hj];omega
theorem Hs{g:Gr}(ok:g.Ok){a:Int}(h:a∈g.next++g.outs):g.aY.getD (a.toNat/2) false=true:=by
 unfold Gr.aY;refine BS _ _ _ ((GR _ _ _).2 (.inr ⟨?_,a,h,rfl⟩));have hl:g.lits=2*g.all:=rfl;rw[pW]
 rcases aT.1 h with h|h
 ·have:=ok.next a h;omega
 ·have:=ok.outs a h;omega
theorem BO{g:Gr}(ok:g.Ok){i:Nat}(hi:i<g.ands.length)(h:g.aY.getD (g.first+i) false=true):g.aY.getD (g.ands[i].1.toNat/2) false=true/\g.aY.getD (g.ands[i].2.toNat/2) false=true:=by
 have:=L' (ands:=g.ands) (first:=g.first) g.ands.length (jg (g.next++g.outs) (List.replicate g.all false)) ok.half (by rw[zg,pW];exact aQ _) i hi h;rw[getD_at hi]at this;exact this
theorem afP{g:Gr}(P:Nat->Prop)(h1:∀a∈g.next++g.outs,P (a.toNat/2))(h2:∀i(hi:i<g.ands.length),P (g.first+i)->P (g.ands[i].1.toNat/2)/\P (g.ands[i].2.toNat/2)):
 ∀n,g.aY.getD n false=true->P n:=by
 refine Qp P _ _ (fun n hn=>?_) (fun j hj=>?_)
 ·rcases(GR _ _ _).1 hn with h|⟨_,a,ha,rfl⟩
  ·rw[bq,Lx]at h
   split at h<;>simp at h
  ·exact h1 a ha
 ·rw[getD_at hj];exact h2 j hj
theorem C_{to:List Nat}{a:Nat}(h:to.getD (a/2) 0%2=0):bo to a=to.getD (a/2) 0+a%2:=by
 unfold bo
 rcases(show a%2=0\/a%2=1 by omega)with h2|h2
 ·rw[h2,xq];rfl
 ·rw[h2,nb,if_pos h]
theorem OU(to:List Nat)(a:Nat):bo to a/2=to.getD (a/2) 0/2:=by
 unfold bo
 rcases(show a%2=0\/a%2=1 by omega)with h2|h2
 ·rw[h2,xq]
 ·rw[h2,nb];split<;>omega
theorem na{to:List Nat}{c n:Nat}(h:n<to.length):(to++[c]).getD n 0=to.getD n 0:=by
 rw[bq,bq,cz h]
theorem Cr{to:List Nat}{c n:Nat}(h:n=to.length):(to++[c]).getD n 0=c:=by
 subst h
 rw[bq];simp
theorem vK{to:List Nat}{c a:Nat}(h:a/2<to.length):bo (to++[c]) a=bo to a:=by
 unfold bo;rw[na h]
section
variable(first:Nat)(aY:List Bool)(ands:List (Int×Int))
def Live(n:Nat):Prop:=n<first\/aY.getD n false=true
abbrev lV(to:List Nat)(p:Int×Int):Int×Int:=((bo to p.1.toNat:Nat),(bo to p.2.toNat:Nat))
structure jB(i:Nat)(l:List (Int×Int))(to:List Nat):Prop where
 len:to.length=first+i
 low:∀n,n<first->to.getD n 0=2*n
 at_:∀k(hk:k<ands.length),k<i->aY.getD (first+k) false=true->∃j,j<l.length/\to.getD (first+k) 0=2*(first+j)/\l[j]? =some (lV to ands[k])
 DV:∀j,j<l.length->∃k,k<i/\aY.getD (first+k) false=true/\to.getD (first+k) 0=2*(first+j)
 mono:∀m n,m<n->n<first+i->Live first aY m->Live first aY n->to.getD m 0<to.getD n 0
variable{first aY ands}
theorem jB.ev{i:Nat}{l:List (Int×Int)}{to:List Nat}(h:jB first aY ands i l to)(hi:i<=ands.length){n:Nat}(hn:n<first+i)(hl:Live first aY n):to.getD n 0%2=0/\to.getD n 0<2*(first+l.length):=by
 by_cases h1:n<first
 ·rw[h.low n h1];omega
 ·rcases hl with h2|h2
  ·omega
  ·obtain⟨j,hj,e,_⟩:=h.at_ (n-first) (by omega) (by omega) (by rw[show first+(n-first)=n by omega];exact h2);rw[show first+(n-first)=n by omega]at e;omega
theorem jB.inj{i:Nat}{l:List (Int×Int)}{to:List Nat}(h:jB first aY ands i l to)(hi:i<=ands.length){a b:Nat}(ha:a/2<first+i)(hb:b/2<first+i)(la:Live first aY (a/2))(lb:Live first aY (b/2))(e:bo to a=bo to b):a=b:=by
 have e1:=h.ev hi ha la;have e2:=h.ev hi hb lb;rw[C_ e1.1,C_ e2.1]at e
 rcases Lo (a/2) (b/2)with h1|h1|h1
 ·have:=h.mono _ _ h1 hb la lb;omega
 ·omega
 ·have:=h.mono _ _ h1 ha lb la;omega
structure z6(first:Nat)(aY:List Bool)(ands:List (Int×Int)):Prop where
 h1:1<=first
 s:gK first ands
 c:∀i(hi:i<ands.length),aY.getD (first+i) false=true->aY.getD (ands[i].1.toNat/2) false=true/\aY.getD (ands[i].2.toNat/2) false=true
theorem jB.new{i:Nat}{l:List (Int×Int)}{to:List Nat}(L:z6 first aY ands)(h:jB first aY ands i l to)(hi:i<ands.length)(hl:aY.getD (first+i) false=true):
 bO first l (bo to ands[i].1.toNat) (bo to ands[i].2.toNat)=(l++[lV to ands[i]],2*(first+l.length))/\ands[i].1.toNat/2<first+i/\ands[i].2.toNat/2<first+i:=by
 obtain⟨p,q,e,s1,s2,s3,s4⟩:=L.s.at_ i hi;obtain⟨c1,c2⟩:=L.c i hi hl
 have hp:ands[i].1.toNat=p:=by rw[e];rfl
 have hq:ands[i].2.toNat=q:=by rw[e];rfl
 unfold lV
 rw[hp]at c1;rw[hq]at c2;rw[hp,hq]
 have e1:=h.ev (by omega) (n:=p/2) (by omega) (.inr c1);have e2:=h.ev (by omega) (n:=q/2) (by omega) (.inr c2);have m1:=h.mono (q/2) (p/2) (by omega) (by omega) (.inr c2) (.inr c1);have m0:=h.mono 0 (q/2) (by omega) (by omega) (.inl (by have:=L.h1;omega)) (.inr c2);have b1:=C_ e1.1;have b2:=C_ e2.1;refine⟨HI (by omega) (by omega) (by omega) ?_,by omega,by omega⟩;intro hm;obtain⟨j,hj,ej⟩:=V'.1 hm;obtain⟨k,hk,lk,tk⟩:=h.DV j hj;obtain⟨j2,hj2,tj2,ej2⟩:=h.at_ k (by omega) hk lk
 have hjj:j2=j:=by omega
 subst hjj;rw[aR hj2,ej]at ej2;simp only[lV,ak,bY]at ej2;obtain⟨p2,q2,e',t1,t2,t3,t4⟩:=L.s.at_ k (by omega);obtain⟨d1,d2⟩:=L.c k (by omega) lk;rw[e']at ej2 d1 d2;simp only[dX]at ej2 d1 d2;have x1:=h.inj (by omega) (a:=p) (b:=p2) (by omega) (by omega) (.inr c1) (.inr d1) (by omega);have x2:=h.inj (by omega) (a:=q) (b:=q2) (by omega) (by omega) (.inr c2) (.inr d2) (by omega);subst x1 x2;exact BK L.s.nd hi (V'.2 ⟨k,by rw[eR];omega,by rw[w9,e',e]⟩)
theorem jB.push{i:Nat}{l:List (Int×Int)}{to:List Nat}(L:z6 first aY ands)(h:jB first aY ands i l to)(hi:i<ands.length)(hl:aY.getD (first+i) false=true):
 jB first aY ands (i+1) (l++[lV to ands[i]]) (to++[2*(first+l.length)]):=by
 obtain⟨_,n1,n2⟩:=h.new L hi hl;have hlen:=h.len;refine⟨by simp;omega,fun n hn=>by rw[na (by omega)];exact h.low n hn,fun k hk hki lk=>?_,fun j hj=>?_,fun m n hmn hn lm ln=>?_⟩
 ·by_cases hk2:k<i
  ·obtain⟨j,hj,e1,e2⟩:=h.at_ k hk hk2 lk;obtain⟨p2,q2,e',t1,t2,t3,t4⟩:=L.s.at_ k hk;refine⟨j,by simp;omega,by rw[na (by omega)];exact e1,?_⟩;rw[cz hj,e2];unfold lV;rw[e'];simp only[dX];rw[vK (by omega),vK (by omega)]
  ·have e:k=i:=by omega
   subst e;refine⟨l.length,by simp,Cr (by omega),?_⟩;unfold lV;rw[vK (by omega),vK (by omega)];simp
 ·by_cases hj2:j<l.length
  ·obtain⟨k,hk,lk,e⟩:=h.DV j hj2;exact⟨k,by omega,lk,by rw[na (by omega)];exact e⟩
  ·have e:j=l.length:=by simp at hj;omega
   subst e;exact⟨i,by omega,hl,Cr (by omega)⟩
 ·rw[na (n:=m) (by omega)]
  by_cases hn2:n<first+i
  ·rw[na (by omega)];exact h.mono m n hmn hn2 lm ln
  ·rw[Cr (by omega)];exact(h.ev (by omega) (by omega) lm).2
theorem jB.skip{i:Nat}{l:List (Int×Int)}{to:List Nat}(L:z6 first aY ands)(h:jB first aY ands i l to)(hi:i<ands.length)(hl:¬aY.getD (first+i) false=true)(c:Nat):jB first aY ands (i+1) l (to++[c]):=by
 have hlen:=h.len;refine⟨by simp;omega,fun n hn=>by rw[na (by omega)];exact h.low n hn,fun k hk hki lk=>?_,fun j hj=>?_,fun m n hmn hn lm ln=>?_⟩
 ·have hk2:k<i:=by
   rcases l_ k i with h3|h3
   ·exact h3
   ·have e:k=i:=by omega
    subst e;exact absurd lk hl
  obtain⟨j,hj,e1,e2⟩:=h.at_ k hk hk2 lk;obtain⟨p2,q2,e',t1,t2,t3,t4⟩:=L.s.at_ k hk;refine⟨j,hj,by rw[na (by omega)];exact e1,?_⟩;rw[e2];unfold lV;rw[e'];simp only[dX];rw[vK (by omega),vK (by omega)]
 ·obtain⟨k,hk,lk,e⟩:=h.DV j hj;exact⟨k,by omega,lk,by rw[na (by omega)];exact e⟩
 ·have hn2:n<first+i:=by
   rcases l_ n (first+i)with h3|h3
   ·exact h3
   ·have e:n=first+i:=by omega
    subst e
    rcases ln with h4|h4
    ·omega
    ·exact absurd h4 hl
  rw[na (n:=m) (by omega),na (by omega)];exact h.mono m n hmn hn2 lm ln
theorem jB.zero:jB first aY ands 0 [] (ids first):=by
 have hg:∀n,n<first->(ids first).getD n 0=2*n:=fun n hn=>by
  rw[bq,aR (by simpa using hn)];simp[ids]
 refine⟨by simp,hg,fun k hk h=>by omega,fun j hj=>by simp at hj,fun m n hmn hn _ _=>?_⟩
 rw[hg m (by omega),hg n (by omega)];omega
theorem GJ(L:z6 first aY ands):∀n i l to,i+n=ands.length->jB first aY ands i l to->jB first aY ands ands.length (dK first aY (ands.drop i) i l to).1 (dK first aY (ands.drop i) i l to).2
 |0,i,l,to,hi,h=>by
  have:i=ands.length:=by omega
  subst this
  rw[w6,dK];exact h
 |n+1,i,l,to,hi,h=>by
  have h1:i<ands.length:=by omega
  rw[bJ h1,dK]
  split
  ·rename_i hl;rw[(h.new L h1 hl).1];exact GJ L n (i+1) _ _ (by omega) (h.push L h1 hl)
  ·rename_i hl;exact GJ L n (i+1) _ _ (by omega) (h.skip L h1 hl 0)
end
theorem Gr.aiL{x:Gr}(ok:x.Ok)(s:gK x.first x.ands):z6 x.first x.aY x.ands:=⟨by unfold Gr.first;omega,s,fun i hi h=>BO ok hi h⟩
theorem Gr.Sw{x:Gr}(ok:x.Ok)(s:gK x.first x.ands):jB x.first x.aY x.ands x.ands.length (dK x.first x.aY x.ands 0 [] (ids x.first)).1 (dK x.first x.aY x.ands 0 [] (ids x.first)).2:=by
 have:=GJ (Gr.aiL ok s) x.ands.length 0 [] (ids x.first) (by omega) jB.zero;rw[fg]at this;exact this
theorem vC(g:Gr)(r:List (Int×Int)×List Nat):(g.dj r).first=g.first:=by simp[Gr.first,Gr.dj]
theorem agv{g:Gr}{r:List (Int×Int)×List Nat}{a:Int}(h:a∈g.next++g.outs):((bo r.2 a.toNat:Nat):Int)∈(g.dj r).next++(g.dj r).outs:=by
 simp only[Gr.dj,aT,cd,eh]at h⊢
 rcases h with h|h
 ·exact .inl ⟨_,⟨a,h,rfl⟩,rfl⟩
 ·exact .inr ⟨_,⟨a,h,rfl⟩,rfl⟩
theorem aec{x:Gr}(ok:x.Ok)(s:gK x.first x.ands):∀j,j<x.c9.ands.length->x.c9.aY.getD (x.first+j) false=true:=by
 have I:=Gr.Sw ok s;have sK:=(CQ ok).1
 have key:∀n,x.aY.getD n false=true->x.aY.getD n false=true/\x.c9.aY.getD ((dK x.first x.aY x.ands 0 [] (ids x.first)).2.getD n 0/2) false=true:=by
  refine afP _ (fun a ha=>⟨Hs ok ha,?_⟩) (fun i hi h=>?_)
  ·have:=Hs sK (agv (r:=dK x.first x.aY x.ands 0 [] (ids x.first)) ha);rw[dX,OU]at this;exact this
  ·obtain⟨h1,h2⟩:=h;obtain⟨j,hj,e1,e2⟩:=I.at_ i hi hi h1;have hc:=BO ok hi h1;have hj2:j<x.c9.ands.length:=hj
   have e3:x.c9.ands[j]=lV (dK x.first x.aY x.ands 0 [] (ids x.first)).2 x.ands[i]:=by
    have:x.c9.ands[j]? =some (lV (dK x.first x.aY x.ands 0 [] (ids x.first)).2 x.ands[i]):=e2;rw[aR hj2]at this;exact Option.some.inj this
   rw[e1,show 2*(x.first+j)/2=x.first+j by omega]at h2;have h4:=BO sK hj2 (by rw[show x.c9.first=x.first from vC _ _];exact h2);rw[e3]at h4;simp only[lV,dX,OU]at h4;exact⟨⟨hc.1,h4.1⟩,hc.2,h4.2⟩
 intro j hj;obtain⟨k,hk,lk,e⟩:=I.DV j hj;have:=(key _ lk).2;rw[e,show 2*(x.first+j)/2=x.first+j by omega]at this;exact this
theorem abB{g:Gr}(ok:g.Ok)(s:gK g.first g.ands)(h:∀i,i<g.ands.length->g.aY.getD (g.first+i) false=true):g.strict=true:=by
 simp only[Gr.strict,ay,aZ,j7];refine⟨Gr.qn ok,kR.2 fun i hi=>?_⟩;have hi:=dJ.1 hi;obtain⟨p,q,e,s1,s2,s3,s4⟩:=s.at_ i hi;have hn:=BK s.nd hi;have hh:=h i hi;unfold Gr.DJ;rw[getD_at hi,hh];rw[e]at hn⊢;simp[hn];omega
theorem Bq{g:Gr}(h:g.check=0):g.normal.strict=true/\g.normal.check=0/\g.normal.ands.length<=g.ands.length:=by
 have ok:=Gr.qP h;obtain⟨o1,s1,l1⟩:=CU ok
 have hf:g.dq.first=g.first:=vC _ _
 obtain⟨o2,s2,l2⟩:=CQ o1
 have e:g.normal=g.dq.c9:=by unfold Gr.normal;rw[if_pos h]
 rw[e]
 have hf2:g.dq.c9.first=g.dq.first:=vC _ _
 refine⟨abB o2 (by rw[hf2];exact s2) ?_,Gr.qn o2,by omega⟩;rw[hf2];exact aec o1 (by rw[hf];exact s1)
end Go.Proofs.YtchjijfjidlpjaaGreatDoor
