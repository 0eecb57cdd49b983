/- The abstract machine: ea -/
import Derived.Test.YtchjijfjidlpjaaGreatDoorAMb
import Derived.Orders
set_option linter.unusedSimpArgs false
set_option linter.unusedVariables false
namespace Go.AM
open Go.RowKit
section
variable{P:Program}{Γ:Nat->Option AV}{N:Env}{g0:G}{f0:FuncId}{cs0:List Frame}{g:G}{h:List Ob}{w:World}{f:Fr}{up:List Fr}{tmps:Array Value}{todo:List Item}{ds:List Deferred}{kd:CallKind}{ro:Option Nat}{fs:List Frame}
theorem Of{o:Oper}{ao:AO}(hc:cg P o=some ao){t:List AV}(h1:∀k as,aD P Γ t h ao≠.bK k as)(h2:aD P Γ t h ao≠.bad):∀c,o.op≠.defer c:=by
 intro c hv;unfold cg at hc;rw[hv]at hc;simp only at hc
 split at hc
 ·simp only[an]at hc;subst hc;simp only[aD]at h1 h2
  split at h1
  ·exact h1 _ _ rfl
  ·rename_i hb
   split at h2
   ·rename_i h3;exact hb _ _ _ h3
   ·exact h2 rfl
 ·simp at hc
theorem adR{sz:Nat}{p x:AV}{h':List Ob}(hs:wG h sz p x=some h'):h.length<=h'.length:=by
 revert hs
 simp only[wG]
 repeat' split
 all_goals (first
  |(intro hs;simp only[an]at hs;subst hs;simp)
  |(intro hs;simp at hs))
def sJ(h:List Ob):R->Prop
 |.val _ h'|.skip h'=>h.length<=h'.length
 |_=>True
theorem acV{k:Nat}{E:TypeId}{b:Nat}{x:AV}{ys:List AV}{fl:Bool}:sJ h (ja h k E b x ys fl):=by
 simp only[ja]
 repeat' split
 all_goals simp [sJ]
theorem No:∀{ps hv:List (Nat×AV)}{h h':List Ob},pJ h ps=some (hv,h')->h'.length=h.length
 |[],_,_,_,hp=>by simp only[pJ,an,b9]at hp;rw[hp.2]
 |(i,v)::r,_,h,h',hp=>by
  simp only[pJ]at hp
  split at hp
  ·split at hp
   ·rename_i h2;simp only[an,b9]at hp;obtain⟨_,rfl⟩:=hp;rw[No h2,l6]
   ·simp at hp
  ·simp at hp
theorem afE{ty:TypeId}{name:String}{v:AV}{args:List AV}:sJ h (o7 P Γ h ty name v args):=by
 simp only[o7]
 repeat' split
 all_goals simp [sJ]
theorem RP{t:List AV}{o:AO}:sJ h (aD P Γ t h o):=by
 cases o<;>simp only[aD]
 all_goals (repeat' split)
 all_goals first
  |exact acV
  |exact afE
  |trivial
  |(simp[sJ,l6];done)
  |(simp only[sJ];exact adR (by assumption))
  |(simp only[sJ];have:=No (by assumption);simp;omega)
theorem Ek:V g h (.aH []) Go.undef:=by simp only[V,VL];exact⟨[],rfl,rfl⟩
theorem Pp:∀{ps:List Nat}{as t:List AV}{us:List Value}{tmps:Array Value},VL g h t tmps.toList->VL g h as us->as.length=ps.length->
 VL g h (kf t ps as) ((ps.zip us).foldl (fun(tmps:Array Value) (x:Nat×Value)=>tmps.setIfInBounds x.1 x.2) tmps).toList
 |[],_,_,_,_,ht,_,_=>by simpa[kf]using ht
 |p::ps,[],_,_,_,_,_,hl=>by simp at hl
 |p::ps,a::as,t,us,tmps,ht,ha,hl=>by
  simp only[VL]at ha;obtain⟨u,hv,rfl,h1,h2⟩:=ha;simp only[kf,xH,tv];exact Pp (by rw[LV];exact ra p ht h1) h2 (by simpa using hl)
theorem aez{o:AG}{os:List AG}{k:List It}{ops:Array Oper}{i:Nat}{rest:List Nat}{k':List Item}
 (S:St P Γ N g0 f0 g h w f up tmps (.inRegion ops (i::rest)::k') ds kd ro fs)(hp:f.its=.ops (o::os)::k)(q1:f.md=.run)(hw:dY f.t o.guard=some true):
 ∃m',Steps P (lone (aL f.fn tmps (.inRegion ops (i::rest)::k') ds kd ro) (fs++cs0) w) m'/\dp P Γ N g0 f0 cs0 (gS P f up h o os k (aD P Γ f.t h o.op)) m':=by
 have hI:=S.its;rw[hp]at hI;simp only[IR]at hI;obtain⟨hO,hk⟩:=hI
 cases hO with
 |cons h1 hO=>
 have ht:IR P g h (.ops os::k) (.inRegion ops rest::k'):=⟨hO,hk⟩;obtain⟨op,ih,e1⟩:=h1;obtain⟨hf,hd,hv⟩:=B4 e1 S.t hw;have hs:gv P Γ N g h w (⟨tmps,ds⟩:Act).eval op (aD P Γ f.t h o.op):=Oy (a:=⟨tmps,ds⟩) S.H S.t hd
 have hc:=fun x y=>Of (Γ:=Γ) (h:=h) (t:=f.t) hd x y
 revert hs hc
 cases hr:aD P Γ f.t h o.op with
 |val v h'=>
  intro hs hc;obtain⟨g',w',nx,h2,h3,h4,u,rfl,h6⟩:=hs
  have hlen:h.length<=h'.length:=by have:=RP (P:=P) (Γ:=Γ) (h:=h) (t:=f.t) (o:=o.op);rw[hr]at this;exact this
  refine⟨_,.one (ID ih hf (Or.inr (hc (by simp) (by simp))) h2),?_⟩;have S1:=S.mono h3 h4 hlen;rw[<-hv];refine St.lp (f:={f with its:=.ops os::k,t:=bl f.t o.dst v}) ⟨S1.H,S1.M,?_,oV S1.t h6,S1.ds,S1.kind,S1.is,S1.b,S1.z,S1.s⟩ (by rw[q1];rfl);have:=S1.its;rw[hp]at this;exact⟨hO,this.2⟩
 |skip h'=>
  intro hs hc;obtain⟨g',w',nx,h2,h3,h4,h6⟩:=hs;simp only at h6;subst h6
  have hlen:h.length<=h'.length:=by have:=RP (P:=P) (Γ:=Γ) (h:=h) (t:=f.t) (o:=o.op);rw[hr]at this;exact this
  refine⟨_,.one (adB ih hf (Or.inr (hc (by simp) (by simp))) h2),?_⟩;have S1:=S.mono h3 h4 hlen;rw[<-hv];refine St.lp (f:={f with its:=.ops os::k,t:=bl f.t o.dst (.aH [])}) ⟨S1.H,S1.M,?_,oV S1.t Ek,S1.ds,S1.kind,S1.is,S1.b,S1.z,S1.s⟩ (by rw[q1];rfl);have:=S1.its;rw[hp]at this;exact⟨hO,this.2⟩
 |dF v=>
  intro hs hc;obtain⟨u,h2,h3⟩:=hs;refine⟨_,.one (agu ih hf (Or.inr (hc (by simp) (by simp))) h2),?_⟩;exact St.lp (f:={f with md:=.dF v false}) ⟨S.H,S.M,S.its,S.t,S.ds,S.kind,S.is,S.b,S.z,S.s⟩ ⟨u,rfl,h3⟩
 |call c args=>
  intro hs hc;simp only[gS]
  by_cases hb:dv P c=true
  ·rw[if_pos hb];obtain⟨us,h2,h3⟩:=hs hb;refine⟨_,.one (ahn ih hf (Or.inr (hc (by simp) (by simp))) h2),?_⟩;exact⟨g,w,us.toArray,_::fs,rfl,S.H,S.M,h3,hb,S.sr (by rw[q1];rfl),by simp⟩
  ·rw[if_neg hb];exact⟨_,.refl _ _,by trivial⟩
 |s8=>
  intro hs hc;simp only[gS];have hy:=S.kind
  have S0:∀v up' hq,V g h v (.nilIface)->up'=up->hq=fs->True:=fun _ _ _ _ _ _=>trivial
  cases hj:f.kind with
  |round l=>
   simp only[wR,hj];exact⟨_,.refl _ _,by trivial⟩
  |norm=>
   rw[hj]at hy;obtain⟨rfl,rfl⟩:=hy;simp only[wR,hj];refine⟨_,.one (Hc ih hf hs (Or.inr ⟨by simp[tryRecover,aL],rfl,rfl⟩)),?_⟩;rw[<-hv];exact St.lp (f:=⟨f.md,f.fn,.ops os::k,bl f.t o.dst .fv,f.ds,.norm,f.base⟩) ⟨S.H,S.M,ht,oV S.t (by simp[V]),S.ds,⟨rfl,rfl⟩,S.is,S.b,fun e=>by have:=S.z e;exact⟨this.1,rfl⟩,S.s⟩ (by rw[q1];rfl)
  |bK=>
   rw[hj]at hy;obtain⟨rfl,rfl⟩:=hy;simp only[wR,hj]
   cases up with
   |nil=>have:=(S.z rfl).2;rw[hj]at this;cases this
   |cons c hg=>
    have k2:=S.s;obtain⟨fr,hq,rfl,h1,h2,h3,h4,h5⟩:=k2;simp only
    have hl:∀(e2:tryRecover (aL f.fn tmps (.inRegion ops (i::rest)::k') ds .deferred none) (fr::hq++cs0)=none),
     ∃m',Steps P (lone (aL f.fn tmps (.inRegion ops (i::rest)::k') ds .deferred none) (fr::hq++cs0) w) m'/\
      dp P Γ N g0 f0 cs0 (.fr ⟨f.md,f.fn,.ops os::k,bl f.t o.dst .fv,f.ds,.bK,f.base⟩ (c::hg) h) m':=by
     intro e2;refine⟨_,.one (Hc ih hf hs (Or.inr ⟨e2,rfl,rfl⟩)),?_⟩;rw[<-hv];exact St.lp (f:=⟨f.md,f.fn,.ops os::k,bl f.t o.dst .fv,f.ds,.bK,f.base⟩) ⟨S.H,S.M,ht,oV S.t (by simp[V]),S.ds,⟨rfl,rfl⟩,S.is,S.b,fun e=>by simp at e,S.s⟩ (by rw[q1];rfl)
    have hx:=h1.md
    cases hm:c.md with
    |run=>
     rw[hm]at hx;simp only[MR]at hx;exact hl (by simp[tryRecover,aL,hx])
    |ret=>
     rw[hm]at hx;simp only[MR]at hx;exact hl (by simp[tryRecover,aL,hx])
    |dF v rc=>
     rw[hm]at hx;simp only[MR]at hx;obtain⟨u,hx,hz⟩:=hx
     cases rc with
     |true=>exact hl (by simp[tryRecover,aL,hx])
     |false=>
      simp only;refine⟨_,.one (Hc ih hf hs (Or.inl (by simp only[tryRecover,aL,hx,eH];rfl))),?_⟩;rw[<-hv];refine St.lp (f:=⟨f.md,f.fn,.ops os::k,bl f.t o.dst v,f.ds,.bK,f.base⟩) (fs:={fr with mode:=.panicking [{v:=u,recovered:=true}]}::hq) ⟨S.H,S.M,ht,oV S.t hz,S.ds,⟨rfl,rfl⟩,S.is,S.b,fun e=>by simp at e,?_⟩ (by rw[q1];rfl);refine⟨_,hq,rfl,⟨⟨u,rfl,hz⟩,h1.fn,h1.its,h1.t,h1.ds,h1.kind,h1.is⟩,?_,h3,h4,h5⟩;simp only[lP,hm,sF]at h2⊢;exact h2
 |bK c args=>
  intro hs hc;obtain⟨d,h2,h3⟩:=hs;simp only[gS];have hy:=S.kind
  cases hj:f.kind with
  |round l=>exact⟨_,.refl _ _,by trivial⟩
  |norm=>
   rw[hj]at hy;obtain⟨rfl,rfl⟩:=hy;refine⟨_,.one (P5 ih hf h2),?_⟩;rw[<-hv];exact St.lp (f:=⟨f.md,f.fn,.ops os::k,bl f.t o.dst (.aH []),.call c args::f.ds,.norm,f.base⟩) ⟨S.H,S.M,ht,oV S.t Ek,.cons h3 S.ds,⟨rfl,rfl⟩,S.is,S.b,fun e=>by have:=S.z e;rw[hj]at this;exact this,S.s⟩ (by rw[q1];rfl)
  |bK=>
   rw[hj]at hy;obtain⟨rfl,rfl⟩:=hy;refine⟨_,.one (P5 ih hf h2),?_⟩;rw[<-hv];exact St.lp (f:=⟨f.md,f.fn,.ops os::k,bl f.t o.dst (.aH []),.call c args::f.ds,.bK,f.base⟩) ⟨S.H,S.M,ht,oV S.t Ek,.cons h3 S.ds,⟨rfl,rfl⟩,S.is,S.b,fun e=>by have:=S.z e;rw[hj]at this;exact this,S.s⟩ (by rw[q1];rfl)
 |yield l args=>
  intro hs hc;obtain⟨b,us,h2,h3,h4⟩:=hs;simp only[gS];simp only[V]at h3;obtain⟨⟨st,pj,fn,t,ps,p,q,hi⟩,b',sz,hρ,ys⟩:=h3;simp only[Value.func.injEq,Fn.yield.injEq]at ys;obtain⟨rfl,_⟩:=ys;simp only[hi]
  by_cases q2:args.length=ps.length
  ·rw[if_pos q2];obtain⟨L,fz,e3,zv,h7,ck,q3,gu,gg,k1,_⟩:=Ak S.H hρ hi
   have h9:us.toArray.size=L.params.size:=by
    have:=gX h4;simp only[rU,this,q2,<-q3,xE]
   rw[run_yield fz h9]at h2;refine⟨_,.one (agW ih hf (Or.inr (hc (by simp) (by simp))) h2),?_⟩
   have S2:St P Γ N g0 f0 g h w {md:=.run,fn:=L.fn,its:=[.code p,.beginRound,.code q],t:=kf t ps args,ds:=[],kind:=.round l,base:=h.length} (f::up)
    ((L.params.zip us.toArray).foldl (fun tmps (t,a)=>tmps.setIfInBounds t a) L.tmps) [.code L.assign,.beginRound,.code L.body] [] .normal (some b)
    (aL f.fn tmps (.inRegion ops (i::rest)::k') ds kd ro::fs):=by
    refine⟨S.H,S.M,⟨gu,gg,trivial⟩,?_,.nil,⟨rfl,b,rfl,⟨_,_,_,_,_,_,_,hi⟩,sz,hρ⟩,by rw[h7];exact k1,aT _,by simp,S.sr (by rw[q1];rfl)⟩;have:=Pp (us:=us) (tmps:=L.tmps) ck h4 q2;rw[<-q3]at this⊢;rw[<-Fl,Array.toList_zip];exact this
   subst h7;exact S2.lp (md:=.run) rfl
  ·rw[if_neg q2];exact⟨_,.refl _ _,by trivial⟩
 |either=>intro _ _;exact⟨_,.refl _ _,S.lp (by rw[q1];rfl)⟩
 |bad=>intro _ _;exact⟨_,.refl _ _,by trivial⟩
end
section
variable{P:Program}{Γ:Nat->Option AV}{N:Env}{g0:G}{f0:FuncId}{cs0:List Frame}{g:G}{h:List Ob}{w:World}{f:Fr}{up:List Fr}{tmps:Array Value}{todo:List Item}{ds:List Deferred}{kd:CallKind}{ro:Option Nat}{fs:List Frame}
theorem St.go(S:St P Γ N g0 f0 g h w f up tmps todo ds kd ro fs)(hv:f.md=.run){its:List It}{todo':List Item}{t:List AV}{tmps':Array Value}(h1:IR P g h its todo')(h2:VL g h t tmps'.toList):
 dp P Γ N g0 f0 cs0 (.fr {f with its:=its,t:=t} up h) (lone (aL f.fn tmps' todo' ds kd ro) (fs++cs0) w):=
 St.lp (f:={f with its:=its,t:=t}) ⟨S.H,S.M,h1,h2,S.ds,S.kind,S.is,S.b,S.z,S.s⟩ (by rw[hv];rfl)
theorem Nd{x:Operand}{gg:FuncId}{us vs:List Value}{l:Nat}{a:Act}(hx:a.eval x=.func (.func gg) us.toArray vs.toArray)(hb:dv P gg=true)(w:World):
 ((do let d<-resolve a.eval {callee:=.value x,args:=#[.const (.func (.yield l) #[] #[])],argTypes:=#[]} 0;invoke d.target d.args):Sem Next).run P w=.ok (.enter gg (us++.func (.yield l) #[] #[]::vs).toArray) w:=by
 simp only[resolve,Sem.run_bind,hx,Deferred.ofValue,Sem.run_pure,Result.andThen_ok,invoke,B5 hb];congr 2;apply jv;simp[Act.eval]
theorem aai(S:St P Γ N g0 f0 g h w f up tmps todo ds kd ro fs)(ih:f.md=.run){x:AX}{ps:List Nat}{m:List Bool}{a b:aj}{k:List It}(hl:f.its=.code (.rangeFunc x ps m a b)::k):
 ∃m',Steps P (lone (aL f.fn tmps todo ds kd ro) (fs++cs0) w) m'/\dp P Γ N g0 f0 cs0 (jE P Γ f up h (.code (.rangeFunc x ps m a b)::k)) m':=by
 have hI:=S.its;obtain⟨hd,hc,fits,ft,fds,fk,fb⟩:=f;simp only at hl ih hI;subst hl ih
 cases todo with
 |nil=>simp only[IR]at hI
 |cons im k'=>
 cases im<;>simp only[IR]at hI
 rename_i c;obtain⟨hC,hk⟩:=hI
 cases c<;>simp only[CR]at hC
 rename_i fx qs ca cb;obtain⟨rfl,rfl,hf,hy⟩:=hC;have hx:=Ea (a:=⟨tmps,ds⟩) S.t fx;simp only[jE]
 split
 ·rename_i gg hg q2 hv;rw[hv]at hx;simp only[V]at hx;obtain⟨us,vs,hp,h1,h2⟩:=hx
  by_cases hb:dv P gg=true
  ·rw[if_neg (by simp[hb])];have h5:=S.kind
   cases fk with
   |round l=>
    obtain⟨rfl,b0,rfl,hL⟩:=h5;obtain⟨⟨st,pj,fn,t,e1,p,q,hi⟩,sz,hρ⟩:=hL;obtain⟨L,ht,_⟩:=Ak S.H hρ hi;obtain⟨g',H',x',hj⟩:=OS S.H L.defers (qT m S.t) hf hy S.is;have S1:=S.mono H' x' (by simp);refine⟨_,.one (QP (run_enterLoop_inner ht hc tmps qs ca cb) (Nd hp hb _)),?_⟩;have h4:IR P g' (h++[.loop .ready .none hc (dJ m ft) qs.toList a b]) (.j8 h.length::k) (.inRangeFunc w.heap.size::k'):=⟨hj,mb x' (mO hk) hk⟩;refine⟨g',_,_,_::fs,rfl,H',S1.M,?_,hb,St.sr (f:=⟨_,hc,.j8 h.length::k,ft,fds,_,fb⟩) (ds:=[]++ds) ⟨S1.H,S1.M,h4,S1.t,S1.ds,(by have:=S1.kind;exact this),S1.is,S1.b,S1.z,S1.s⟩ rfl,by simp⟩;refine l7 (cM x' (dM h1) h1) ?_;simp only[VL];exact⟨_,_,rfl,TQ hj,cM x' (dM h2) h2⟩
   |norm|bK=>
    obtain⟨rfl,rfl⟩:=h5;obtain⟨g1,H1,x1,hD⟩:=ag8 S.H;have S1:=S.mono H1 x1 (by simp);obtain⟨g',H',x',hj⟩:=OS S1.H w.heap.size (qT m S1.t) hf hy S1.is;have S2:=S1.mono H' x' (by simp);have q1:Ext h.length g h g' _:=x1.trans (x'.mono (by simp));have hq:DR g' _ (.mark h.length) _:=Jb x' (by simp) hD;refine⟨_,.one (QP (run_enterLoop_outer hc tmps qs ca cb) (Nd hp hb _)),?_⟩;simp only[cR,eH,kF,bC,bL,c_]at H' x' hj S2 q1 hq;have h4:IR P g' (h++[.bK true,.loop .ready .none hc (dJ m ft) qs.toList a b]) (.j8 (h.length+1)::k) (.inRangeFunc (w.heap.size+1)::k'):=⟨by simpa using hj,mb q1 (mO hk) hk⟩
    refine⟨g',_,_,_::fs,rfl,H',S2.M,?_,hb,St.sr (f:=⟨_,hc,.j8 (h.length+1)::k,ft,.mark h.length::fds,_,fb⟩) ⟨S2.H,S2.M,h4,S2.t,.cons hq S2.ds,(by have:=S2.kind;exact this),S2.is,S2.b,S2.z,S2.s⟩ rfl,by simp⟩;refine l7 (cM q1 (dM h1) h1) ?_;simp only[VL];refine⟨_,_,rfl,?_,cM q1 (dM h2) h2⟩;have:=TQ hj;simpa using this
  ·rw[if_pos (by simpa using hb)];exact⟨_,.refl _ _,by trivial⟩
 ·exact⟨_,.refl _ _,by trivial⟩
theorem afZ(S:St P Γ N g0 f0 g h w f up tmps todo ds kd ro fs)(h2:f.md=.run):
 ∃m',Steps P (lone (aL f.fn tmps todo ds kd ro) (fs++cs0) w) m'/\dp P Γ N g0 f0 cs0 (jE P Γ f up h f.its) m':=by
 have hI:=S.its
 cases hb:f.its with
 |nil=>
  rw[hb]at hI
  cases todo with
  |nil=>simp only[jE];exact GV S rfl
  |cons im k'=>simp only[IR]at hI
 |cons it k=>
  rw[hb]at hI
  cases todo with
  |nil=>cases it<;>simp only[IR]at hI
  |cons im k'=>
  cases it with
  |code a=>
   cases im<;>simp only[IR]at hI
   rename_i c;obtain⟨hC,hk⟩:=hI
   cases a with
   |skip=>
    cases c<;>simp only[CR]at hC
    ·exact⟨_,.one ajm,S.go h2 hk S.t⟩
    ·exact⟨_,.one agJ,S.go h2 hk S.t⟩
   |av gs=>
    cases c<;>try (simp only[CR]at hC;done)
    rename_i id ops draw
    cases draw<;>simp only[CR]at hC
    ·exact⟨_,.one aeL,S.go h2 (its:=.ops gs::k) ⟨ajw hC,hk⟩ S.t⟩
   |aR l ws gs=>exact⟨_,.refl _ _,by trivial⟩
   |gM as gs=>exact⟨_,.refl _ _,by trivial⟩
   |seq a b=>
    cases c<;>simp only[CR]at hC
    exact⟨_,.one aj5,S.go h2 (its:=.code a::.code b::k) ⟨hC.1,hC.2,hk⟩ S.t⟩
   |cond x a b=>
    cases c<;>simp only[CR]at hC
    rename_i y ca cb;obtain⟨rfl,ht,hd⟩:=hC;have hx:=Ea (a:=⟨tmps,ds⟩) S.t y;simp only[jE]
    split
    ·rename_i v hv;rw[hv]at hx;refine⟨_,.one (ajq (mP hx)),S.go h2 (its:=.code (if v then a else b)::k) ⟨?_,hk⟩ S.t⟩
     cases v
     ·exact hd
     ·exact ht
    ·exact⟨_,.refl _ _,by trivial⟩
   |block id m a=>
    cases c<;>simp only[CR]at hC
    obtain⟨rfl,hC⟩:=hC;exact⟨_,.one agK,S.go h2 (its:=.code a::.inBlock _ m::k) ⟨hC,rfl,hk⟩ S.t⟩
   |loop m a=>
    cases c<;>simp only[CR]at hC
    exact⟨_,.one ah2,S.go h2 (its:=.code a::.inLoop m a::k) ⟨hC,hC,hk⟩ (qT m S.t)⟩
   |rangeFunc x ps m a b=>exact aai S h2 hb
   |exit id=>
    cases c<;>simp only[CR]at hC
    subst hC;rename_i id;have he:=sk (id:=id) hk;simp only[jE]
    split
    ·rename_i q m hq;rw[hq]at he;obtain⟨q',hg,q2⟩:=he;exact⟨_,.one (aiD hg),S.go h2 q2 (qT m S.t)⟩
    ·rename_i hq;rw[hq]at he;exact GV S ⟨k',rfl,he⟩
   |ret=>
    cases c<;>simp only[CR]at hC
    simp only[jE];exact GV S ⟨k',rfl⟩
   |bad=>exact⟨_,.refl _ _,by trivial⟩
  |inBlock i m=>
   cases im<;>simp only[IR]at hI
   exact⟨_,.one acZ,S.go h2 hI.2 (qT m S.t)⟩
  |inLoop m a=>
   cases im<;>simp only[IR]at hI
   exact⟨_,.one ae5,S.go h2 (its:=.code a::.inLoop m a::k) ⟨hI.1,hI.1,hI.2⟩ (qT m S.t)⟩
  |ops os=>
   cases im<;>simp only[IR]at hI
   rename_i ops todo
   cases os with
   |nil=>
    cases hI.1
    exact⟨_,.one abR,S.go h2 hI.2 S.t⟩
   |cons o os=>
    cases todo with
    |nil=>cases hI.1
    |cons i rest=>
     simp only[jE]
     split
     ·rename_i hw;exact aez S hb h2 hw
     ·rename_i hw
      cases hI.1 with
      |cons h1 hO=>
      obtain⟨op,e1,h4⟩:=h1;obtain⟨e2,h6,ih⟩:=B4 h4 S.t hw;refine⟨_,.one (aeb e1 e2),?_⟩;rw[<-ih];exact S.go h2 (its:=.ops os::k) ⟨hO,hI.2⟩ (oV S.t Ek)
     ·exact⟨_,.refl _ _,by trivial⟩
  |j8 l=>exact⟨_,.refl _ _,by trivial⟩
  |wb l=>
   cases im<;>simp only[IR]at hI
   rename_i b;obtain⟨⟨hl,sz,hρ⟩,hk⟩:=hI;simp only[jE]
   split
   ·rename_i st j fn t ps p q hi;obtain⟨L,hf,hy,hc,hz,ys,h7,q3,k2,fz,hj⟩:=Ak S.H hρ hi
    by_cases hp:st=.busy
    ·rw[if_pos hp];exact⟨_,.refl _ _,by trivial⟩
    ·rw[if_neg hp];obtain⟨H',x⟩:=hj .exhausted j L.pending hc;have S1:=S.mono H' x (by simp);have q1:=mb x (mO hk) hk;refine⟨_,.one (acA (run_endLoop hf (by rw[hy];exact hp))),S1.go h2 ?_ S1.t⟩
     cases j with
     |none=>simp only[JR]at hc;rw[hc];exact q1
     |ret=>simp only[JR]at hc;rw[hc];exact⟨trivial,q1⟩
     |exit id=>simp only[JR]at hc;rw[hc];exact⟨rfl,q1⟩
   ·exact⟨_,.refl _ _,by trivial⟩
  |beginRound=>
   cases im<;>simp only[IR]at hI
   simp only[jE]
   split
   ·rename_i l ck;have h5:=S.kind;rw[ck]at h5;obtain⟨rfl,b,rfl,hl,sz,hρ⟩:=h5
    split
    ·rename_i j fn t ps p q hi;obtain⟨L,hf,hy,hc,hz,ys,h7,q3,k2,fz,hj⟩:=Ak S.H hρ hi;obtain⟨H',x⟩:=hj .busy j L.pending hc;have S1:=S.mono H' x (by simp);have q1:=mb x (mO hI) hI;exact⟨_,.one (aaV (run_beginRound hf hy)),S1.go h2 q1 S1.t⟩
    ·exact⟨_,.refl _ _,by trivial⟩
   ·exact⟨_,.refl _ _,by trivial⟩
end
section
variable{P:Program}{Γ:Nat->Option AV}{N:Env}{g0:G}{f0:FuncId}{cs0:List Frame}{g:G}{h:List Ob}{w:World}{f:Fr}{up:List Fr}{tmps:Array Value}{todo:List Item}{ds:List Deferred}{kd:CallKind}{ro:Option Nat}{fs:List Frame}
theorem abw(H:Inv P Γ N g h w){t:List AV}(ht:VL g h t tmps.toList){r:ResultVar}{a:rE}(hc:pW P r=some a){v:AV}(hv:wj Γ t h a=some v):
 ∃u,(match r with|.tmp t=>pure (tmps.getD t undef)|.cell a t=>do loadVar t (<-asAddr (tmps.getD a undef)):Sem Value).run P w=.ok u w/\V g h v u:=by
 cases r with
 |tmp i=>
  simp only[pW,an]at hc;subst hc;simp only[wj,an]at hv;subst hv;exact⟨_,rfl,by have:=uy i ht;simpa using this⟩
 |cell i ty=>
  simp only[pW,qz]at hc
  cases ha:iu P ty with
  |none=>simp[ha]at hc
  |some ag=>
   cases hs:bH P ty with
   |none=>simp[ha,hs]at hc
   |some sz=>
    simp[ha,hs]at hc;subst hc;simp only[wj]at hv;have hp:=uy i ht;obtain⟨ad,u,h1,h2,h3⟩:=GU H ha hs hp hv;refine⟨u,?_,h3⟩
    have h4:tmps.getD i undef=.pointer (some ad):=by rw[<-h1];simp
    have has:(asAddr (.pointer (some ad))).run P w=.ok ad w:=rfl;simp only[h4,Sem.run_bind,has,Result.andThen_ok,h2]
theorem MJ(H:Inv P Γ N g h w){t:List AV}(ht:VL g h t tmps.toList):∀{rs:List ResultVar}{as:List rE},rs.mapM (pW P)=some as->∀{vs:List AV},uh Γ t h as=some vs->
 ∃us,(rs.mapM (m:=Sem) fun|.tmp t=>pure (tmps.getD t undef)|.cell a t=>do loadVar t (<-asAddr (tmps.getD a undef))).run P w=.ok us w/\VL g h vs us
 |[],as,hc,vs,hv=>by
  simp at hc;subst hc
  simp only[uh,an]at hv;subst hv;exact⟨[],by simp,by simp[VL]⟩
 |r::rs,as,hc,vs,hv=>by
  rw[tx]at hc
  cases ha:pW P r with
  |none=>simp[ha]at hc
  |some a=>
   cases hl:rs.mapM (pW P)with
   |none=>simp[ha,hl]at hc
   |some hb=>
    simp[ha,hl]at hc;subst hc;simp only[uh]at hv
    split at hv
    ·rename_i v vs' h1 h2;simp only[an]at hv;subst hv;obtain⟨u,h3,h4⟩:=abw H ht ha h1;obtain⟨us,h5,h6⟩:=MJ H ht hl h2;refine⟨u::us,?_,by simp only[VL];exact⟨_,_,rfl,h4,h6⟩⟩;simp only[tx,Sem.run_bind,h3,h5,Result.andThen_ok,Sem.run_pure]
    ·simp at hv
theorem aa9(H:Inv P Γ N g h w){t:List AV}(ht:VL g h t tmps.toList){fn:Func}{as:List rE}(hc:fn.results.toList.mapM (pW P)=some as){v:AV}(hv:C7 Γ t h as=some v):
 ∃u,(results fn tmps).run P w=.ok u w/\V g h v u:=by
 unfold C7 at hv
 cases hl:uh Γ t h as with
 |none=>simp[hl]at hv
 |some vs=>
  obtain⟨us,h1,h2⟩:=MJ H ht hc hl;rw[hl]at hv
  have h3:∀x,(if hx:us.toArray.size=1 then us.toArray[0]else .tuple us.toArray)=x->(results fn tmps).run P w=.ok x w:=by
   intro x hx;subst hx;simp only[results,Array.mapM_eq_mapM_toList,Sem.run_bind,Sem.run_map,Sem.run_pure];exact congrArg (fun(r:Result (List Value))=>(r.andThen fun a w'=>Result.ok a.toArray w').andThen fun a w'=>Result.ok (if h:a.size=1 then a[0]else Value.tuple a) w') h1
  cases vs with
  |nil=>
   simp only[an]at hv;subst hv;simp only[VL]at h2;subst h2;exact⟨_,h3 _ rfl,by simp only[V,VL];exact⟨[],rfl,rfl⟩⟩
  |cons a vs=>
   cases vs with
   |nil=>
    simp only[an]at hv;subst hv;simp only[VL]at h2;obtain⟨u,_,rfl,h4,rfl⟩:=h2;exact⟨u,h3 _ rfl,h4⟩
   |cons b vs=>
    simp only[an]at hv;subst hv;have hlen:=gX h2;refine⟨.tuple us.toArray,h3 _ ?_,by simp only[V];exact⟨us,rfl,h2⟩⟩;rw[dif_neg (by simp[hlen])]
theorem OX{c:FuncId}{F:aF}(hc:nb P c=some F):∃fn b,P.funcs[c]? =some fn/\fn.body=some b/\CR P b F.body/\F.nt=fn.ntmps/\fn.results.toList.mapM (pW P)=some F.res:=by
 simp only[nb,qz]at hc
 cases hf:P.funcs[c]? with
 |none=>simp[hf]at hc
 |some fn=>
  cases hb:fn.body with
  |none=>simp[hf,hb]at hc
  |some b=>
   cases hr:fn.results.toList.mapM (pW P)with
   |none=>simp[hf,hb,hr]at hc
   |some rs=>
    simp[hf,hb,hr]at hc;subst hc;exact⟨fn,b,rfl,hb,qO P _ _ _ _ _ _ (qM P b),rfl,hr⟩
theorem ajz{as:List AV}{us:Array Value}{n:Nat}(h1:VL g h as us.toList):VL g h (as++List.replicate (n-as.length) .undef) (us++Array.replicate (n-us.size) undef).toList:=by
 have:=gX h1;simp only[xE]at this;rw[Array.toList_append,Array.toList_replicate,this];exact l7 h1 (QY _ _ (by simp))
theorem aed{c:FuncId}{fn:Func}{b:Code}(hf:P.funcs[c]? =some fn)(hb:fn.body=some b)(us:Array Value)(k:CallKind):
 Frame.enter P c us k=aL c (us++Array.replicate (fn.ntmps-us.size) undef) [.code b] [] k none:=by
 simp[Frame.enter,aL,hf,hb]
theorem QW(H:Inv P Γ N g h w)(hM:∀b o v,g0.M b o=some v->g.M b o=some v){c:FuncId}{F:aF}(hc:nb P c=some F){as:List AV}{us:Array Value}(ha:VL g h as us.toList){kind:FK}{k:CallKind}(hk:KR g h kind k none)
 (hz:up=[]->c=f0/\kind=.norm)(hs:SR P g h f0 h.length up fs):dp P Γ N g0 f0 cs0 (.fr (enter c F as kind h) up h) (lone (Frame.enter P c us k) (fs++cs0) w):=by
 obtain⟨fn,b,hf,hb,hC,hn,_⟩:=OX hc;rw[aed hf hb];have hI:IR P g h [.code F.body] [.code b]:=⟨hC,trivial⟩;refine St.lp (f:=enter c F as kind h) ⟨H,hM,hI,?_,.nil,hk,⟨fn,hf⟩,aT _,hz,hs⟩ rfl;simp only[enter,hn];exact ajz ha
theorem Ot(S:St P Γ N g0 f0 g h w f up tmps todo ds kd ro fs){md:FrameMode}(hm:MR g h f.md md)(ih:f.md≠.run):
 ∃m',Steps P (lone (aL f.fn tmps todo ds kd ro md) (fs++cs0) w) m'/\dp P Γ N g0 f0 cs0 (oL P Γ f up h) m':=by
 obtain⟨hj,q1,fits,ft,fds,fk,fb⟩:=f;simp only at hm ih
 have hd:md≠.run:=by
  cases hj<;>simp only[MR]at hm
  ·exact absurd rfl ih
  ·rw[hm];simp
  ·obtain⟨_,hm,_⟩:=hm;rw[hm];simp
 have hg:=S.ds;simp only at hg
 cases hg with
 |cons h1 h2=>
  rename_i d d' fds ds
  cases d with
  |mark i=>
   simp only[oL]
   split
   ·rename_i hi;obtain⟨_,b,sz,hρ,rfl⟩:=h1;have hb:=S.H.ob i _ hi b sz 0 hρ;simp only[cE]at hb;have hk:sameKind (.bK true) (.bK false):=trivial;have hE:=Ext.v_ (g:=g) hi hk
    have H':Inv P Γ N g (h.set i (.bK false)) (w.putObj b (.deferred none)):=Inv.A5 S.H hi hρ hk (by
     intro b' q3 ps hf;rw[hρ]at hf;simp only[an,b9]at hf;obtain⟨rfl,_⟩:=hf
     exact zG _ (S.H.own i b _ hρ).2)
    have S1:=S.mono H' hE (by simp);refine⟨_,.one (ais hd (run_takeDeferred hb)),?_⟩;have qh:=S1.ds
    cases qh with
    |cons _ e1=>
    refine St.lp (f:=⟨hj,q1,fits,ft,fds,fk,fb⟩) ⟨S1.H,S1.M,S1.its,S1.t,e1,S1.kind,S1.is,S1.b,S1.z,S1.s⟩ (RL hE ?_ hm)
    cases hj<;>simp only[MR,sF]at hm⊢
    obtain⟨_,_,hm⟩:=hm;exact mj hm
   ·exact⟨_,.refl _ _,by trivial⟩
  |call c args=>
   simp only[oL]
   by_cases hb:dv P c=true
   ·rw[if_neg (by simp[hb])]
    split
    ·rename_i F hF;obtain⟨cap,ht,ha⟩:=h1
     have hinv:(invoke d'.target d'.args).run P w=.ok (.enter c (d'.args++cap)) w:=by
      rw[ht];simp only[invoke,B5 hb]
     refine⟨_,.one (ajG hd (by rw[ht];simp) (by rw[ht];simp) hinv),?_⟩;refine QW (up:=⟨hj,q1,fits,ft,fds,fk,fb⟩::up) (fs:=aL q1 tmps todo ds kd ro md::fs) S.H S.M hF ha (kind:=.bK) ⟨rfl,rfl⟩ (by simp) ?_;exact St.sr (f:=⟨hj,q1,fits,ft,fds,fk,fb⟩) ⟨S.H,S.M,S.its,S.t,h2,S.kind,S.is,S.b,S.z,S.s⟩ hm
    ·exact⟨_,.refl _ _,by trivial⟩
   ·rw[if_pos (by simpa using hb)];exact⟨_,.refl _ _,by trivial⟩
 |nil=>
  simp only[oL];obtain⟨fn,hy⟩:=S.is;simp only at hy
  cases hj with
  |run=>exact absurd rfl ih
  |dF v rc=>
   cases rc with
   |true=>exact⟨_,.refl _ _,by trivial⟩
   |false=>
    simp only[MR]at hm;obtain⟨u,rfl,hp⟩:=hm;simp only[fe,dq]
    cases up with
    |nil=>
     have hs:=S.s;simp only[SR]at hs;subst hs;exact⟨_,.refl _ _,g,w,u,_,rfl,S.H,S.M,hp,(S.z rfl).1,rfl,rfl,fn,hy⟩
    |cons c up=>
     have hs:=S.s;obtain⟨fr,hc,rfl,h1,h2,h3,h4,h5⟩:=hs;refine⟨_,.one (aeS hy),g,w,u,fr,hc,rfl,S.H,S.M,hp,?_⟩;exact iD (Ext.refl _ _ _) S.b ⟨fr,hc,rfl,h1,h2,h3,h4,h5⟩
  |ret=>
   simp only[MR]at hm;subst hm;simp only
   split
   ·rename_i F hF
    split
    ·rename_i v hv;obtain⟨e2,b,hl,hb,hC,hn,hq⟩:=OX hF;obtain⟨u,h1,h2⟩:=aa9 S.H S.t hq hv;have q2:=S.kind
     cases fk with
     |norm=>
      obtain⟨rfl,rfl⟩:=q2
      cases up with
      |nil=>
       have hs:=S.s;simp only[SR]at hs;subst hs;exact⟨_,.refl _ _,g,w,u,_,rfl,S.H,S.M,h2,(S.z rfl).1,rfl,rfl,rfl,e2,hl,h1⟩
      |cons c up=>
       have hs:=S.s;obtain⟨fr,hc,rfl,h3,h4,h5,h6,h7⟩:=hs;refine⟨_,.one (aeJ hl h1),Ix S.H S.M h2 ?_⟩;exact iD (Ext.refl _ _ _) S.b ⟨fr,hc,rfl,h3,h4,h5,h6,h7⟩
     |bK=>
      obtain⟨rfl,rfl⟩:=q2
      cases up with
      |nil=>exact⟨_,.refl _ _,by trivial⟩
      |cons c up=>
       have hs:=S.s;have hz:SR P g h f0 h.length (c::up) fs:=iD (Ext.refl _ _ _) S.b hs;obtain⟨fr,hc,rfl,h3,h4,h5,h6,h7⟩:=hz;simp only;have hx:=h3.md;obtain⟨cmd,k2,ys,ct,fz,ck,cb⟩:=c
       cases cmd with
       |run=>exact⟨_,.refl _ _,by trivial⟩
       |ret=>
        simp only[MR]at hx;exact⟨_,.one (Ht hl h1 (Or.inr ⟨Or.inl hx,rfl⟩)),g,w,_,hc,rfl,S.H,S.M,fr,hc,rfl,h3,h4,h5,h6,h7⟩
       |dF v2 rc=>
        simp only[MR]at hx;obtain⟨u2,hx,hp⟩:=hx
        cases rc with
        |false=>exact⟨_,.one (Ht hl h1 (Or.inr ⟨Or.inr ⟨_,hx⟩,rfl⟩)),g,w,_,hc,rfl,S.H,S.M,fr,hc,rfl,h3,h4,h5,h6,h7⟩
        |true=>
         refine⟨_,.one (Ht hl h1 (Or.inl ⟨_,hx,rfl⟩)),g,w,_,hc,rfl,S.H,S.M,_,hc,rfl,⟨rfl,h3.fn,h3.its,h3.t,h3.ds,h3.kind,h3.is⟩,?_,h5,h6,h7⟩;simp only[lP,sF,aB]at h4⊢;exact⟨h4.1,trivial⟩
     |round l=>exact⟨_,.refl _ _,by trivial⟩
    ·exact⟨_,.refl _ _,by trivial⟩
   ·exact⟨_,.refl _ _,by trivial⟩
theorem aby{c c':Fr}{v:AV}{u:Value}{fr:Frame}(hf:c.finish v=some c')(hr:mr P g h c fr)(hv:V g h v u):mr P g h c' (fr.finish u)/\c'.base=c.base/\c'.fn=c.fn/\c'.kind=c.kind:=by
 obtain⟨cmd,h4,hk,ct,ih,ck,cb⟩:=c;obtain⟨fn,tmps,todo,ds,md,kd,ro⟩:=fr;obtain⟨r1,r2,r3,r4,r5,r6,r7⟩:=hr;simp only at r1 r2 r3 r4 r5 r6 r7;subst r2;unfold Fr.finish at hf;simp only at hf
 split at hf
 ·rename_i o os k;simp only[an]at hf;subst hf
  cases todo with
  |nil=>simp only[IR]at r3
  |cons im k'=>
  cases im<;>simp only[IR]at r3
  rename_i ops todo;obtain⟨hj,hl⟩:=r3
  cases hj with
  |cons h1 hO=>
  rename_i i rest;obtain⟨op,q1,h2⟩:=h1
  have hc:o.dst=op.dst:=by
   unfold pf at h2
   cases hg:DE ops.toList op with
   |none=>simp[hg]at h2
   |some gd=>
    cases hb:cg P op with
    |none=>simp[hg,hb]at h2
    |some ao=>simp[hg,hb]at h2;rw[<-h2]
  have hx:({fn:=fn,tmps:=tmps,todo:=.inRegion ops (i::rest)::k',defers:=ds,mode:=md,kind:=kd,roundOf:=ro}:Frame).finish u=
   {fn:=fn,tmps:=nf tmps op.dst u,todo:=.inRegion ops rest::k',defers:=ds,mode:=md,kind:=kd,roundOf:=ro}:=by
   simp only[Frame.finish,nf,q1,lv]
   cases op.dst<;>rfl
  rw[hx];refine⟨⟨r1,rfl,⟨hO,hl⟩,?_,r5,r6,r7⟩,rfl,rfl,rfl⟩;rw[<-hc];exact oV r4 hv
 ·rename_i l k;simp only[an]at hf;subst hf
  cases todo with
  |nil=>simp only[IR]at r3
  |cons im k'=>
  cases im<;>simp only[IR]at r3
  exact⟨⟨r1,rfl,r3,r4,r5,r6,r7⟩,rfl,rfl,rfl⟩
 ·simp at hf
theorem adb{c:ar}{m:Machine}(hs:dp P Γ N g0 f0 cs0 c m):∃m',Steps P m m'/\dp P Γ N g0 f0 cs0 (iG P Γ c) m':=by
 cases c with
 |fr f up h=>
  obtain⟨g,w,tmps,todo,ds,kd,ro,md,fs,rfl,S,hm⟩:=hs.inv
  cases hc:f.md with
  |run=>
   rw[hc]at hm;simp only[MR]at hm;subst hm;simp only[iG,hc];exact afZ S hc
  |ret=>simp only[iG,hc];exact Ot S hm (by rw[hc];simp)
  |dF v rc=>simp only[iG,hc];exact Ot S hm (by rw[hc];simp)
 |cl c args up h=>
  obtain⟨g,w,vs,fs,rfl,H,hM,ha,hb,hx,hz⟩:=hs;simp only[iG]
  split
  ·rename_i F hF;exact⟨_,.refl _ _,QW H hM hF ha ⟨rfl,rfl⟩ (fun e=>⟨hz e,rfl⟩) hx⟩
  ·exact⟨_,.refl _ _,by trivial⟩
 |back up v h=>
  cases up with
  |nil=>exact⟨_,.refl _ _,hs⟩
  |cons c up=>
   obtain⟨g,w,u,fr,fs,rfl,H,hM,hv,hx⟩:=hs;simp only[iG]
   split
   ·rename_i c' hf;obtain⟨hj,hl,heq,h1,h2,h3,h4,h5⟩:=hx
    cases heq
    obtain⟨r1,r2,r3,r4⟩:=aby hf h1 hv;exact⟨_,.refl _ _,g,w,_,fs,rfl,H,hM,_,fs,rfl,r1,qP r1,by rw[r2];exact h3,by rw[r3,r4];exact h4,by rw[r2];exact h5⟩
   ·exact⟨_,.refl _ _,by trivial⟩
 |die up v h=>
  cases up with
  |nil=>exact⟨_,.refl _ _,hs⟩
  |cons c up=>
   obtain⟨g,w,u,fr,fs,rfl,H,hM,hv,hx⟩:=hs;simp only[iG];obtain⟨cmd,q1,hk,ct,ih,ck,cb⟩:=c
   cases cmd with
   |run=>
    obtain⟨hj,hl,heq,h1,h2,h3,h4,h5⟩:=hx
    cases heq
    have hm:=h1.md;simp only[MR]at hm
    have hy:fr.raise [{v:=u,recovered:=false}]={fr with mode:=.panicking [{v:=u,recovered:=false}]}:=by
     simp only[Frame.raise,hm]
    rw[hy];have hR:mr P g h ⟨.dF v false,q1,hk,ct,ih,ck,cb⟩ {fr with mode:=.panicking [{v:=u,recovered:=false}]}:=⟨⟨u,rfl,hv⟩,h1.fn,h1.its,h1.t,h1.ds,h1.kind,h1.is⟩;exact⟨_,.refl _ _,g,w,_,fs,rfl,H,hM,_,fs,rfl,hR,qP hR,h3,h4,h5⟩
   |ret=>exact⟨_,.refl _ _,by trivial⟩
   |dF v2 rc=>exact⟨_,.refl _ _,by trivial⟩
 |bad=>exact⟨_,.refl _ _,by trivial⟩
end
def rv:AV->Bool
 |.own _ _ es=>aN 0 es
 |a=>aK 0 a
def qZ:List AV->Bool
 |[]=>true
 |a::as=>rv a&&qZ as
def uE:AV->Bool
 |.aH vs=>qZ vs
 |a=>rv a
def aQ(P:Program)(Γ:Nat->Option AV)(f:FuncId)(as:List AV)(r:AV):Prop:=
 dv P f=true/\(aN 0 as=true->∀(N:Env)(g:G)(h:List Ob)(w:World)(us:List Value),Inv P Γ N g h w->VL g h as us->
  Calls P f us.toArray w fun e w'=>∃u g',e=.returned u/\uE r=true/\Inv P Γ N g' (h++(er h.length r).2) w'/\V g' (h++(er h.length r).2) (er h.length r).1 u/\(∀i,i<h.length->g'.ρ i=g.ρ i)/\
   (∀b o v,g.M b o=some v->g'.M b o=some v)/\(∀b,b<w.heap.size->w'.heap[b]? =w.heap[b]?))
theorem Ext.app{g g':G}{h:List Ob}(os:List Ob)(hρ:∀i,i<h.length->g'.ρ i=g.ρ i)(hM:∀b o v,g.M b o=some v->g'.M b o=some v)(hb:g'.MM=g.MM):Ext h.length g h g' (h++os):=by
 have h2:∀{i x},h[i]? =some x->(h++os)[i]? =some x:=fun{i x} hx=>by rw[cF (bd hx)];exact hx
 have hv:∀{i},i<h.length->∀x,g.ρ i=some x->g'.ρ i=some x:=fun hi x hx=>by rw[hρ _ hi];exact hx
 exact⟨hM,fun _ _ x=>by rw[hb];exact x,fun i vs hn hi=>⟨⟨_,h2 hi⟩,hv hn⟩,fun i es fl hn hi=>⟨⟨_,_,h2 hi⟩,hv hn⟩,fun i s p hn hi=>⟨⟨_,_,h2 hi⟩,hv hn⟩,
  fun i st j fn t ps a b hn hi=>⟨⟨_,_,h2 hi⟩,hv hn⟩,fun i l hn hi=>⟨⟨_,h2 hi⟩,hv hn⟩,
  fun i k E es gr fl sh hn hi=>⟨_,_,_,_,_,h2 hi,aT _,fun _ _ _ hk=>⟨hk,rfl,hv hn⟩⟩⟩
mutual
theorem uH{g g':G}{h h':List Ob}:∀{a:AV}{v:Value},aK 0 a=true->eS a=true->V g h a v->V g' h' a v
 |.undef,_,_,_,_=>by simp[V]
 |.bool _,_,_,_,hv=>by simpa only [V]using hv
 |.int _ _,_,_,_,hv=>by simpa only [V]using hv
 |.str _,_,_,_,hv=>by simpa only [V]using hv
 |.jn,_,_,_,hv=>by simpa only [V]using hv
 |.dk,_,_,_,hv=>by simpa only [V]using hv
 |.dn,_,_,_,hv=>by simpa only [V]using hv
 |.fv,_,_,_,hv=>by simpa only [V]using hv
 |.eP _ _,_,_,_,hv=>by simpa only [V]using hv
 |.list full k es,v,_,hn,hv=>by
  simp only[eS,List.isEmpty_iff]at hn;subst hn;simp only[V]at hv⊢;obtain⟨hk,a,cap,rfl,hf,hc,_⟩:=hv;exact⟨hk,a,cap,rfl,hf,hc,Or.inl (by simp)⟩
 |.own _ _ _,_,_,_,hv=>by simp only[V]at hv
 |.sl _ _ _,_,hb,_,_|.ptr _ _,_,hb,_,_|.mp _,_,hb,_,_|.it _,_,hb,_,_|.de _,_,hb,_,_=>by simp[aK]at hb
 |.dw a _ _ _,_,hb,hn,hv=>by
  simp only[V]at hv⊢;simp only[aK]at hb;simp only[eS]at hn;obtain⟨u,b,o,h1,h2,h4,rfl⟩:=hv;exact⟨u,b,o,uH hb hn h1,h2,h4,rfl⟩
 |.dG _ _,_,_,hn,_=>by simp[eS]at hn
 |.agg cs,_,hb,hn,hv=>by
  simp only[V]at hv⊢;simp only[aK]at hb;simp only[eS]at hn;obtain⟨vs,rfl,h1⟩:=hv;exact⟨vs,rfl,As hb hn h1⟩
 |.aH cs,_,hb,hn,hv=>by
  simp only[V]at hv⊢;simp only[aK]at hb;simp only[eS]at hn;obtain⟨vs,rfl,h1⟩:=hv;exact⟨vs,rfl,As hb hn h1⟩
 |.fn f a b,_,hb,hn,hv=>by
  simp only[V]at hv⊢;simp only[aK,aB]at hb;simp only[eS,aB]at hn;obtain⟨xs,ys,rfl,h1,h2⟩:=hv;exact⟨xs,ys,rfl,As hb.1 hn.1 h1,As hb.2 hn.2 h2⟩
 |.bW t a,_,hb,hn,hv=>by
  simp only[V]at hv⊢;simp only[aK]at hb;simp only[eS]at hn;obtain⟨y,rfl,h1⟩:=hv;exact⟨y,rfl,uH hb hn h1⟩
theorem As{g g':G}{h h':List Ob}:∀{as:List AV}{vs:List Value},aN 0 as=true->fF as=true->VL g h as vs->VL g' h' as vs
 |[],_,_,_,hv=>by simpa only [VL]using hv
 |a::as,_,hb,hn,hv=>by
  simp only[VL]at hv⊢;simp only[aN,aB]at hb;simp only[fF,aB]at hn;obtain⟨v,vs',rfl,h1,h2⟩:=hv;exact⟨v,vs',rfl,uH hb.1 hn.1 h1,As hb.2 hn.2 h2⟩
end
theorem Sx{g g':G}{h h':List Ob}:∀{as:List AV}{vs:List Value},aN 0 as=true->fF as=true->VE g h as vs->VE g' h' as vs
 |[],_,_,_,hv=>by simpa only [VE]using hv
 |a::as,_,hb,hn,hv=>by
  simp only[VE]at hv⊢;simp only[aN,aB]at hb;simp only[fF,aB]at hn;obtain⟨v,vs',h1,rfl,h2⟩:=hv;exact⟨v,vs',uH hb.1 hn.1 h1,rfl,Sx hb.2 hn.2 h2⟩
theorem Pg(n:Nat)(a:AV):∀o∈(fh n a).2,∃k E es,o=.row k E es none true false:=by
 cases a<;>simp[fh]
theorem Ny:∀(as:List AV)(n:Nat),∀o∈(cu n as).2,∃k E es,o=.row k E es none true false
 |[],_=>by simp[cu]
 |a::as,n=>by
  simp only[cu,a8]
  rintro o (h|h)
  ·exact Pg n a o h
  ·exact Ny as _ o h
theorem adk(n:Nat)(a:AV):∀o∈(er n a).2,∃k E es,o=.row k E es none true false:=by
 cases a
 case aH vs=>exact Ny vs n
 all_goals exact Pg n _
theorem Pf(n:Nat){a:AV}(hn:eS a=true):∀k E es g fl sh,Ob.row k E es g fl sh∈(fh n a).2->fF es=true:=by
 intro k E es g fl sh h
 cases a<;>simp[fh]at h
 obtain⟨_,_,rfl,_⟩:=h;simpa only [eS]using hn
theorem NX:∀{as:List AV}(n:Nat),fF as=true->∀k E es g fl sh,Ob.row k E es g fl sh∈(cu n as).2->fF es=true
 |[],_,_=>by simp[cu]
 |a::as,n,hn=>by
  simp only[fF,aB]at hn;simp only[cu,a8]
  rintro k E es g fl sh (h|h)
  ·exact Pf n hn.1 _ _ _ _ _ _ h
  ·exact NX _ hn.2 _ _ _ _ _ _ h
theorem adG(n:Nat){a:AV}(hn:eS a=true):∀k E es g fl sh,Ob.row k E es g fl sh∈(er n a).2->fF es=true:=by
 cases a
 case aH vs=>exact NX n (by simpa only [eS]using hn)
 all_goals exact Pf n hn
section
variable{P:Program}{Γ:Nat->Option AV}{N:Env}{g:G}{h:List Ob}{w:World}
theorem ajn{g g':G}{h h':List Ob}{n off:Nat}{u:Value}{i:Nat}(hv:V g h (.sl i off n) u)(hi:h'[i]? =h[i]?)(hρ:g'.ρ i=g.ρ i):V g' h' (.sl i off n) u:=by
 simp only[V]at hv⊢;obtain⟨k,E,es,gr,fl,sh,h1,h2⟩:=hv;refine⟨k,E,es,gr,fl,sh,by rw[hi];exact h1,?_⟩;rw[hρ];exact h2
theorem Rr{g g':G}{h1 h os:List Ob}(hl:h1.length=h.length)(hρ:g'.ρ=g.ρ){n:Nat}(hn:h.length<=n){a:AV}(hm:eS a=true)(ht:rv a=true){u:Value}(hv:V g (h1++os) (fh n a).1 u):V g' (h++os) (fh n a).1 u:=by
 by_cases ho:∃k E es,a=.own k E es
 ·obtain⟨k,E,es,rfl⟩:=ho;simp only[fh]at hv⊢;refine ajn hv ?_ (by rw[hρ]);rw[dB (by omega),dB (by omega),hl]
 ·have h2:(fh n a).1=a:=by cases a<;>first|rfl|exact absurd ⟨_,_,_,rfl⟩ ho
  have h3:rv a=aK 0 a:=by cases a<;>first|rfl|exact absurd ⟨_,_,_,rfl⟩ ho
  rw[h2]at hv⊢;rw[h3]at ht;exact uH ht hm hv
theorem QD{g g':G}{h1 h os:List Ob}(hl:h1.length=h.length)(hρ:g'.ρ=g.ρ):∀{as:List AV}{n:Nat}(_:h.length<=n)(_:fF as=true)(_:qZ as=true){us:List Value},VL g (h1++os) (cu n as).1 us->VL g' (h++os) (cu n as).1 us
 |[],_,_,_,_,_,hv=>by simpa only [cu,VL]using hv
 |a::as,n,hn,hm,ht,us,hv=>by
  simp only[fF,aB]at hm;simp only[qZ,aB]at ht;simp only[cu,VL]at hv⊢;obtain⟨u,hb,rfl,h2,h3⟩:=hv;exact⟨u,hb,rfl,Rr hl hρ hn hm.1 ht.1 h2,QD hl hρ (by omega) hm.2 ht.2 h3⟩
theorem agc{g g':G}{h1 h os:List Ob}(hl:h1.length=h.length)(hρ:g'.ρ=g.ρ){a:AV}(hm:eS a=true)(ht:uE a=true){u:Value}(hv:V g (h1++os) (er h.length a).1 u):V g' (h++os) (er h.length a).1 u:=by
 by_cases ho:∃vs,a=.aH vs
 ·obtain⟨vs,rfl⟩:=ho;simp only[er,V]at hv⊢;obtain⟨us,rfl,h2⟩:=hv;exact⟨us,rfl,QD hl hρ (aT _) (by simpa only [eS]using hm) (by simpa only [uE]using ht) h2⟩
 ·have h2:er h.length a=fh h.length a:=by cases a<;>first|rfl|exact absurd ⟨_,rfl⟩ ho
  have h3:uE a=rv a:=by cases a<;>first|rfl|exact absurd ⟨_,rfl⟩ ho
  rw[h2]at hv⊢;rw[h3]at ht;exact Rr hl hρ (aT _) hm ht hv
theorem Inv.RU(H:Inv P Γ N g h w){g':G}{h1 os:List Ob}{w':World}(hl:h1.length=h.length)(hρ:∀i,i<h.length->g'.ρ i=g.ρ i)(H':Inv P Γ N g' (h1++os) w')(hM:∀b o v,g.M b o=some v->g'.M b o=some v)
 (hw:∀b,b<w.heap.size->w'.heap[b]? =w.heap[b]?)(hx:∀o∈os,∃k E es,o=.row k E es none true false/\fF es=true):
 Inv P Γ N {ρ:=g'.ρ,M:=g.M,MM:=g.MM} (h++os) w'/\Ext h.length g h {ρ:=g'.ρ,M:=g.M,MM:=g.MM} (h++os):=by
 have hE:Ext h.length g h {ρ:=g'.ρ,M:=g.M,MM:=g.MM} (h++os):=Ext.app os hρ (fun _ _ _ x=>x) rfl;refine⟨⟨H'.os,H'.tape,H'.output,H'.gp,H'.own,H'.inj,?_,?_,?_,?_,?_,?_,H.mK,H.ky,H.mz⟩,hE⟩
 ·intro i hi;refine H'.ql i ?_;rw[bC]at hi⊢;omega
 ·intro b o v hv;have h0:=H.mem b o v hv;rw[vB (hw b (xx h0))];exact h0
 ·intro b es ck hb;refine H'.mm b es ck ?_;rw[H'.ky,<-H.ky];exact hb
 ·intro i b sz st o v hi hv
  by_cases hc:i<h.length
  ·simp only at hi;rw[hρ i hc]at hi;obtain⟨k,E,es,gr,fl,h3,h4⟩:=H.fo i b sz st o v hi hv;exact⟨k,E,es,gr,fl,by rw[cF hc];exact h3,h4⟩
  ·obtain⟨k,E,es,gr,fl,h3,h4⟩:=H'.fo i b sz st o v hi (hM _ _ _ hv);rw[dB (by omega)]at h3;obtain⟨_,_,_,h5,_⟩:=hx _ (jz h3)
   cases h5
 ·intro i o hi
  by_cases hc:i<h.length
  ·rw[cF hc]at hi;exact oN hE (hρ i hc) (fun b y hb=>hw b (H.own i b y hb).2) (H.ob i o hi)
  ·rw[dB (by omega)]at hi;have h2:=H'.ob i o (by rw[dB (by omega),hl];exact hi);obtain⟨k,E,es,rfl,hn⟩:=hx o (jz hi);simp only[OV]at h2⊢;obtain⟨h3,h4,h5,h6,h7⟩:=h2;refine⟨h3,h4,h5,h6,?_⟩
   cases hr:g'.ρ i with
   |none=>rw[hr]at h7;exact h7
   |some x=>
    rw[hr]at h7;obtain⟨b,sz,st⟩:=x;simp only at h7⊢;obtain⟨h8,c,E',fz,vs,h9,hj,q1,hk,ih⟩:=h7;refine⟨h8,c,E',fz,vs,h9,hj,q1,?_,ih⟩;simp only[vf,fM]at hk⊢;exact Sx (j7 (h5 (by trivial))) hn hk
 ·intro n a hn;obtain⟨h2,vs,h3,h4⟩:=H.mo n a hn;exact⟨h2,vs,cM hE (dM h3) h3,h4⟩
theorem acY{g0:G}{f0:FuncId}{cs0:List Frame}{c:FuncId}{args as:List AV}{r:AV}{up:List Fr}{m:Machine}(hP:aQ P Γ c as r)(hv:cy h args=some as)(hs:dp P Γ N g0 f0 cs0 (.cl c args up h) m):
 ∃m',Steps P m m'/\dp P Γ N g0 f0 cs0 (.back up (er h.length r).1 (eV h args r)) m':=by
 obtain⟨g,w,vs,fs,rfl,H,hM,ha,hb,hj,hz⟩:=hs;obtain⟨g1,hp,h5,hq,H1,x1,ht⟩:=pC (b_ args) H;have hd:=uq H x1 ht ha hv;have hl:=uc H ha hv;have hlen:=l6 (b_ args) h;obtain⟨e,w',fr,hR,hx,hg,hc⟩:=hP.2 hl N g1 (share (b_ args) h) w vs.toList H1 hd (fs++cs0);obtain⟨u,g',rfl,hT,H',q1,h4,ih,q2⟩:=hR
 ·rw[hlen]at H' q1 h4
  have ps:∀i,i<h.length->g'.ρ i=g.ρ i:=fun i hi=>by rw[h4 i hi,hp]
  obtain⟨g2,H2,x2,hf⟩:∃g2,Inv P Γ N g2 (eV h args r) w'/\Ext h.length g h g2 (eV h args r)/\V g2 (eV h args r) (er h.length r).1 u:=by
   unfold eV
   by_cases hn:eS r=true
   ·rw[if_pos hn]
    obtain⟨H2,x2⟩:=Inv.RU H hlen ps H' (fun b o v hv=>ih _ _ _ (hq _ _ _ hv)) q2 (by
     intro o ho;obtain⟨k,E,es,rfl⟩:=adk _ _ o ho
     exact⟨k,E,es,rfl,adG _ hn _ _ _ _ _ _ ho⟩)
    exact⟨_,H2,x2,agc (g:=g') (g':={ρ:=g'.ρ,M:=g.M,MM:=g.MM}) hlen rfl hn hT q1⟩
   ·rw[if_neg hn];refine⟨g',H',?_,q1⟩;refine x1.trans ?_;have:=Ext.app (g:=g1) (g':=g') (h:=share (b_ args) h) (er h.length r).2 (by rw[hlen];exact h4) ih (by rw[H'.ky,H1.ky]);rwa[hlen]at this
  have hk:h.length<=(eV h args r).length:=by
   unfold eV
   split<;>simp[hlen]
  have hy:∀b o v,g0.M b o=some v->g2.M b o=some v:=fun b o v hv=>x2.M _ _ _ (hM _ _ _ hv)
  have h2:Steps P (lone (Frame.enter P c vs .normal) (fs++cs0) w) (lone fr (fs++cs0) w'):=hx
  cases up with
  |nil=>
   simp only[SR]at hj;subst hj;exact⟨_,h2,g2,w',u,fr,rfl,H2,hy,hf,by rw[hg];exact hz rfl,hc⟩
  |cons d up=>
   obtain⟨e1,e2,rfl,h3⟩:=hj;refine⟨_,h2.trans (.one (step_leave_returned hc)),Ix H2 hy hf ?_⟩;exact iD x2 hk ⟨e1,e2,rfl,h3⟩
def mV(P:Program)(Γ:Nat->Option AV)(f:FuncId)(as:List AV)(v:AV):Prop:=
 dv P f=true/\aK 0 v=true/\eS v=true/\(aN 0 as=true->∀(N:Env)(g:G)(h:List Ob)(w:World)(us:List Value),Inv P Γ N g h w->VL g h as us->
  Calls P f us.toArray w fun e w'=>∃u g',e=.panicked [{v:=u,recovered:=false}]/\Inv P Γ N g' h w'/\V g' h v u/\(∀i,i<h.length->g'.ρ i=g.ρ i)/\
   (∀b o v,g.M b o=some v->g'.M b o=some v)/\(∀b,b<w.heap.size->w'.heap[b]? =w.heap[b]?))
theorem aew{g0:G}{f0:FuncId}{cs0:List Frame}{c:FuncId}{args as:List AV}{v:AV}{up:List Fr}{m:Machine}(hP:mV P Γ c as v)(hv:cy h args=some as)(hs:dp P Γ N g0 f0 cs0 (.cl c args up h) m):
 ∃m',Steps P m m'/\dp P Γ N g0 f0 cs0 (.die up v h) m':=by
 obtain⟨g,w,vs,fs,rfl,H,hM,ha,hb,hk,hz⟩:=hs;obtain⟨g1,hy,hp,h5,H1,x1,hq⟩:=pC (b_ args) H;have ht:=uq H x1 hq ha hv;have hj:=uc H ha hv;have hlen:=l6 (b_ args) h;obtain⟨_,hd,hg,hP⟩:=hP;obtain⟨e,w',fr,hR,hx,q2,hc⟩:=hP hj N g1 (share (b_ args) h) w vs.toList H1 ht (fs++cs0);obtain⟨u,g',rfl,H',ps,hl,e1,e2⟩:=hR;rw[hlen]at hl
 have h6:∀i,i<h.length->g'.ρ i=g.ρ i:=fun i hi=>by rw[hl i hi,hy]
 obtain⟨H2,x2⟩:=Inv.RU (os:=[]) H hlen h6 (by simpa using H') (fun b o v hv=>e1 _ _ _ (h5 _ _ _ hv)) e2 (by simp);rw[ey]at H2 x2;have q1:=uH (g':={ρ:=g'.ρ,M:=g.M,MM:=g.MM}) (h':=h) hd hg ps;have h4:∀b o v,g0.M b o=some v->g.M b o=some v:=hM;have h2:Steps P (lone (Frame.enter P c vs .normal) (fs++cs0) w) (lone fr (fs++cs0) w'):=hx
 cases up with
 |nil=>
  simp only[SR]at hk;subst hk;exact⟨_,h2,_,w',u,fr,rfl,H2,h4,q1,by rw[q2];exact hz rfl,hc⟩
 |cons d up=>
  obtain⟨ih,hf,rfl,h3⟩:=hk;exact⟨_,h2.trans (.one (step_leave_panicked hc)),_,w',u,ih,hf,rfl,H2,h4,q1,iD x2 (aT _) ⟨ih,hf,rfl,h3⟩⟩
end
section
variable{P:Program}{Γ:Nat->Option AV}
theorem iC{t t':List AV}{x:AX}(h:∀s∈eW x,t.getD s .undef=t'.getD s .undef):ax t x=ax t' x:=by
 cases x<;>simp only[ax]
 exact h _ (by simp[eW])
theorem tT{t t':List AV}{d:Nat}{x:Option AX}(h:∀s∈(x.map eW).getD [],t.getD s .undef=t'.getD s .undef):bound t d x=bound t' d x:=by
 cases x with
 |none=>rfl
 |some x=>
  simp only[bound];rw[iC (x:=x) (by simpa using h)]
theorem tS{t t':List AV}{xs:List AX}(h:∀s∈xs.flatMap eW,t.getD s .undef=t'.getD s .undef):xs.map (ax t)=xs.map (ax t'):=
 nB fun x hx=>iC fun s hs=>h s (qA.2 ⟨x,hx,hs⟩)
theorem aeQ{t t':List AV}{h:List Ob}{o:AO}(hs:∀s∈l_ o,t.getD s .undef=t'.getD s .undef):aD P Γ t h o=aD P Γ t' h o:=by
 cases o
 case build z ps=>
  have:(ps.map fun p=>(p.1,p.2.1,ax t p.2.2))=ps.map fun p=>(p.1,p.2.1,ax t' p.2.2):=
   nB fun x hx=>by rw[iC fun s h=>hs s (qA.2 ⟨x,hx,h⟩)]
  simp only[aD,this]
 case lit k zs ps=>
  have:(ps.map fun p=>(p.1,ax t p.2))=ps.map fun p=>(p.1,ax t' p.2):=
   nB fun x hx=>by rw[iC fun s h=>hs s (qA.2 ⟨x,hx,h⟩)]
  simp only[aD,this]
 case fO f a b=>
  simp only[l_,a8]at hs;simp only[aD,tS fun s h=>hs s (Or.inl h),tS fun s h=>hs s (Or.inr h)]
 case min xs=>simp only[aD,tS (xs:=xs) hs]
 case max xs=>simp only[aD,tS (xs:=xs) hs]
 case call f xs=>
  simp only[l_,a8]at hs;simp only[aD,iC fun s h=>hs s (Or.inl h),tS fun s h=>hs s (Or.inr h)]
 case defer f xs=>
  simp only[l_,a8]at hs;simp only[aD,iC fun s h=>hs s (Or.inl h),tS fun s h=>hs s (Or.inr h)]
 case invoke x nm xs=>
  simp only[l_,a8]at hs;simp only[aD,iC fun s h=>hs s (Or.inl h),tS fun s h=>hs s (Or.inr h)]
 case CV x lo hi=>
  simp only[l_,a8]at hs
  have e2:=fun d=>tT (d:=d) fun s h=>hs s (Or.inl (Or.inr h))
  have e3:=fun d=>tT (d:=d) fun s h=>hs s (Or.inr h)
  simp only[aD,iC fun s h=>hs s (Or.inl (Or.inl h)),e2,e3]
 case slice k x lo hi=>
  simp only[l_,a8]at hs
  have e2:=fun d=>tT (d:=d) fun s h=>hs s (Or.inl (Or.inr h))
  have e3:=fun d=>tT (d:=d) fun s h=>hs s (Or.inr h)
  simp only[aD,iC fun s h=>hs s (Or.inl (Or.inl h)),e2,e3]
 case slice3 k x lo hi mx=>
  simp only[l_,a8]at hs
  have e1:ax t x=ax t' x:=iC fun s h=>hs s (Or.inl (Or.inl (Or.inl h)))
  have e2:=fun d=>tT (d:=d) fun s h=>hs s (Or.inl (Or.inl (Or.inr h)))
  have e3:ax t hi=ax t' hi:=iC fun s h=>hs s (Or.inl (Or.inr h))
  have e4:ax t mx=ax t' mx:=iC fun s h=>hs s (Or.inr h)
  have e5:=fun d=>tT (t:=t) (t':=t') (d:=d) (x:=some hi) fun s h=>hs s (Or.inl (Or.inr (by simpa using h)))
  have e6:=fun d=>tT (t:=t) (t':=t') (d:=d) (x:=some mx) fun s h=>hs s (Or.inr (by simpa using h))
  simp only[aD,e1,e2,e3,e4,e5,e6]
 case pick c a b=>
  simp only[l_,a8]at hs
  have e1:ax t c=ax t' c:=iC fun s h=>hs s (Or.inl (Or.inl h))
  have e2:ax t a=ax t' a:=iC fun s h=>hs s (Or.inl (Or.inr h))
  have e3:ax t b=ax t' b:=iC fun s h=>hs s (Or.inr h)
  simp only[aD,e1,e2,e3]
 case bP e c a b=>
  simp only[l_,a8]at hs
  have e1:ax t c=ax t' c:=iC fun s h=>hs s (Or.inl (Or.inl h))
  have e2:ax t a=ax t' a:=iC fun s h=>hs s (Or.inl (Or.inr h))
  have e3:ax t b=ax t' b:=iC fun s h=>hs s (Or.inr h)
  simp only[aD,e1,e2,e3]
 all_goals first
  |rfl
  |(simp only[l_]at hs;simp only[aD,iC hs];done)
  |(simp only[l_,a8]at hs
    simp only[aD,iC fun s h=>hs s (Or.inl h),iC fun s h=>hs s (Or.inr h)];done)
theorem abv{t t':List AV}{gd:Option (Nat×Bool)}(hs:∀s∈(gd.map fun x=>[x.1]).getD [],t.getD s .undef=t'.getD s .undef):dY t gd=dY t' gd:=by
 cases gd with
 |none=>rfl
 |some x=>
  obtain⟨j,b⟩:=x;simp only[dY];rw[hs j (by simp)]
def R.on(h:List Ob):R->R
 |.val v _=>.val v h
 |.skip _=>.skip h
 |r=>r
theorem afY{t:List AV}{o:AO}(h0:dK o=0)(h h2:List Ob):aD P Γ t h2 o=(aD P Γ t h o).on h2:=by
 cases o<;>simp only[dK,reduceCtorEq]at h0<;>simp only[aD]
 all_goals (repeat' split)
 all_goals first
  |rfl
  |simp_all [R.on]
theorem Oi{t:List AV}{o:AO}(h1:dK o=1){h h':List Ob}{v:AV}:(aD P Γ t h o=.val v h'->h'=h)/\(aD P Γ t h o≠.skip h')/\∀f as,aD P Γ t h o≠.call f as:=by
 cases o<;>simp[dK]at h1<;>simp only[aD]
 all_goals (repeat' split)
 all_goals simp
 all_goals (intros;simp_all)
end
section
variable{P:Program}{Γ:Nat->Option AV}
def sB(P:Program)(Γ:Nat->Option AV)(obls:List iw)(o:AG)(t:List AV)(h:List Ob)(v:AV)(h':List Ob):Prop:=
 (dY t o.guard=some false/\v=.aH []/\h'=h)\/
 (dY t o.guard=some true/\(aD P Γ t h o.op=.val v h'\/(aD P Γ t h o.op=.skip h'/\v=.aH [])\/∃f as,(aD P Γ t h o.op).E8=some (f,as)/\f.ok P=true/\⟨f,as,h,v,h'⟩∈obls))
theorem sB.mono{obls hv:List iw}{o:AG}{t:List AV}{h h':List Ob}{v:AV}(hs:∀x∈obls,x∈hv):sB P Γ obls o t h v h'->sB P Γ hv o t h v h':=by
 rintro(h1|⟨h1,h2|h2|⟨f,as,h2,h3,h4⟩⟩)
 ·exact Or.inl h1
 ·exact Or.inr ⟨h1,Or.inl h2⟩
 ·exact Or.inr ⟨h1,Or.inr (Or.inl h2)⟩
 ·exact Or.inr ⟨h1,Or.inr (Or.inr ⟨f,as,h2,h3,hs _ h4⟩)⟩
theorem CN{t:List AV}{o:AO}(h2:dK o≠2){h h':List Ob}{v:AV}:(aD P Γ t h o=.val v h'->h'=h)/\(aD P Γ t h o=.skip h'->h'=h)/\∀f as,aD P Γ t h o≠.call f as:=by
 cases o<;>simp[dK]at h2<;>simp only[aD]
 all_goals (repeat' split)
 all_goals simp
 all_goals (intros;simp_all)
theorem Hk{t:List AV}{o:AO}(h2:dK o≠2){h:List Ob}:(aD P Γ t h o).E8=none:=by
 cases o<;>simp[dK]at h2<;>simp only[aD]
 all_goals (repeat' split)
 all_goals simp [R.E8]
def sO(P:Program)(Γ:Nat->Option AV)(obls:List iw)(hs h2:List (List Ob))(l:Bool)(o:AG)(t t':List AV)(h h':List Ob)(v:AV):Prop:=
 t'=bl t o.dst v/\sB P Γ obls o t h v h'/\(lg l o.op≠2->h'=h)/\(h'∈hs\/h'=h)/\
  (l=true->lg l o.op=1->dY t o.guard=some true->∀g∈h2,aD P Γ t g o.op=.val v g\/∃f as,aD P Γ t g o.op=.call f as/\dv P f=true/\⟨.fn f,as,g,v,g⟩∈obls)
theorem sO.mono{obls hv:List iw}{hs hb hc:List (List Ob)}{l:Bool}{o:AG}{t t':List AV}{h h':List Ob}{v:AV}(h1:∀x∈obls,x∈hv)(h2:∀x∈hs,x∈hb)(hk:sO P Γ obls hs hc l o t t' h h' v):
 sO P Γ hv hb hc l o t t' h h' v:=⟨hk.1,hk.2.1.mono h1,hk.2.2.1,hk.2.2.2.1.imp (h2 _) id,fun a b c g hg=>(hk.2.2.2.2 a b c g hg).imp id fun⟨f,as,e1,e2,e3⟩=>⟨f,as,e1,e2,h1 _ e3⟩⟩
theorem shift{ops:List AG}{o:AG}{t:List AV}{h:List Ob}{obls:List iw}{hs HS:List (List Ob)}{l:List Bool}{ws:List Nat}{t1 t':List AV}{h1 h':List Ob}{v0:AV}(hv:sO P Γ obls (h1::hs) (HS.take (ws.headD 0)) (l.getD 0 true) o t t1 h h1 v0)
 (hr:∃(T:Nat->List AV)(H:Nat->List Ob)(v:Nat->AV),T 0=t1/\H 0=h1/\T ops.length=t'/\H ops.length=h'/\(∀c,c<=ops.length->(h1::hs)[c]? =some (H c))/\∀i x,ops[i]? =some x->sO P Γ obls hs (HS.take (ws.tail.getD i 0)) (l.tail.getD i true) x (T i) (T (i+1)) (H i) (H (i+1)) (v i)):
 ∃(T:Nat->List AV)(H:Nat->List Ob)(v:Nat->AV),T 0=t/\H 0=h/\T (o::ops).length=t'/\H (o::ops).length=h'/\(∀c,c<=(o::ops).length->(h::h1::hs)[c]? =some (H c))/\∀i x,(o::ops)[i]? =some x->sO P Γ obls (h1::hs) (HS.take (ws.getD i 0)) (l.getD i true) x (T i) (T (i+1)) (H i) (H (i+1)) (v i):=by
 obtain⟨T,H,v,h2,h3,h4,h5,hb,h6⟩:=hr;refine⟨fun i=>match i with|0=>t|i+1=>T i,fun i=>match i with|0=>h|i+1=>H i,fun i=>match i with|0=>v0|i+1=>v i,rfl,rfl,h4,h5,?_,?_⟩
 ·intro c hc
  cases c with
  |zero=>rfl
  |succ c=>simpa using hb c (by simpa using hc)
 ·intro i x hx
  cases i with
  |zero=>
   simp at hx;subst hx;simp only[h2,h3]
   have hw:ws.getD 0 0=ws.headD 0:=by cases ws<;>rfl
   rw[hw];exact hv
  |succ i=>
   have:=h6 i x (by simpa using hx)
   have hl:l.tail.getD i true=l.getD (i+1) true:=by cases l<;>simp
   have hw:ws.tail.getD i 0=ws.getD (i+1) 0:=by cases ws<;>simp
   rw[hl,hw]at this;exact this.mono (fun _ h=>h) (fun _ h=>dH _ h)
theorem O1{t:List AV}{o:AO}(hc:g_ o=true){h h':List Ob}{v:AV}:aD P Γ t h o≠.val v h'/\aD P Γ t h o≠.skip h':=by
 cases o<;>simp[g_]at hc<;>simp only[aD,o7]
 all_goals constructor
 all_goals (repeat' split)
 all_goals simp
theorem ac0{t:List AV}{o:AO}{h:List Ob}{f:FuncId}{as:List AV}(ha:aD P Γ t h o=.call f as):g_ o=true:=by
 by_cases h2:dK o=2
 ·cases hq:g_ o with
  |true=>rfl
  |false=>
   exfalso
   revert ha
   cases o<;>simp[dK]at h2<;>simp[g_]at hq<;>simp only[aD,ja]
   all_goals (repeat' split)
   all_goals simp
 ·exact absurd ha ((CN (v:=.undef) (h':=[]) h2).2.2 _ _)
theorem aeE{t:List AV}{o:AO}{h:List Ob}{l:Nat}{as:List AV}(ha:aD P Γ t h o=.yield l as):g_ o=true:=by
 by_cases h2:dK o=2
 ·cases hq:g_ o with
  |true=>rfl
  |false=>
   exfalso
   revert ha
   cases o<;>simp[dK]at h2<;>simp[g_]at hq<;>simp only[aD,ja]
   all_goals (repeat' split)
   all_goals simp
 ·have:=Hk (P:=P) (Γ:=Γ) (t:=t) (h:=h) h2;rw[ha]at this
  cases this
theorem sC{q:Bool}{o:AO}(h:g_ o=false):lg q o=dK o:=by simp[lg,h]
theorem wc{HS:List (List Ob)}{hj:List iw}:∀{ops:List AG}{h4:List (AV×List Ob)}{l:List Bool}{ws:List Nat}{t:List AV}{h:List Ob}{t':List AV}{h':List Ob}{obls:List iw}{hs:List (List Ob)},
 jm P Γ h4 ops t h=some (t',h',obls,hs)->(∀x∈obls,x∈hj)->calm P Γ hj HS l ws h4 ops t h->
 ∃(T:Nat->List AV)(H:Nat->List Ob)(v:Nat->AV),T 0=t/\H 0=h/\T ops.length=t'/\H ops.length=h'/\(∀c,c<=ops.length->(h::hs)[c]? =some (H c))/\∀i x,ops[i]? =some x->sO P Γ hj hs (HS.take (ws.getD i 0)) (l.getD i true) x (T i) (T (i+1)) (H i) (H (i+1)) (v i)
 |[],h4,l,ws,t,h,t',h',obls,hs,hr,ih,hc=>by
  simp only[jm,an,b9]at hr;obtain⟨rfl,rfl,rfl,rfl⟩:=hr;refine⟨fun _=>t,fun _=>h,fun _=>.undef,rfl,rfl,rfl,rfl,fun c hc=>?_,by simp⟩
  have h0:c=0:=by simpa using hc
  subst h0;rfl
 |o::ops,h4,l,ws,t,h,t',h',obls,hs,hr,ih,hc=>by
  have hv:l.headD true=l.getD 0 true:=by cases l<;>rfl
  simp only[jm]at hr;simp only[calm]at hc
  cases hw:dY t o.guard with
  |none=>simp[hw]at hr
  |some b=>
   cases b with
   |false=>
    simp only[hw,cm]at hr hc;obtain⟨⟨t2,h2,hy,hp⟩,q1,hk⟩:=hr;simp only[b9]at hk;obtain⟨rfl,rfl,rfl,rfl⟩:=hk;exact shift ⟨rfl,Or.inl ⟨hw,rfl,rfl⟩,fun _=>rfl,Or.inr rfl,fun _ _ h=>by rw[hw]at h;cases h⟩ (wc q1 ih hc)
   |true=>
    simp only[hw]at hr hc
    cases ha:aD P Γ t h o.op with
    |val v h1=>
     simp only[ha,cm]at hr hc;obtain⟨⟨t2,h2,hy,hp⟩,q1,hk⟩:=hr;simp only[b9]at hk;obtain⟨rfl,rfl,rfl,rfl⟩:=hk
     have hf:g_ o.op=false:=by
      cases hq:g_ o.op with
      |false=>rfl
      |true=>exact absurd ha (O1 hq).1
     exact shift (t1:=bl t o.dst v) (h1:=h1) ⟨rfl,Or.inr ⟨hw,Or.inl ha⟩,fun h2=>(CN (by rwa[sC hf]at h2)).1 ha,Or.inl (by simp),fun hl h5 _ g hg=>Or.inl (hc.1 (by rw[hv];exact hl) (by rwa[sC hf]at h5) g hg)⟩ (wc q1 ih hc.2)
    |skip h1=>
     simp only[ha,cm]at hr hc;obtain⟨⟨t2,h2,hy,hp⟩,q1,hk⟩:=hr;simp only[b9]at hk;obtain⟨rfl,rfl,rfl,rfl⟩:=hk
     have hf:g_ o.op=false:=by
      cases hq:g_ o.op with
      |false=>rfl
      |true=>exact absurd ha (O1 (v:=.undef) hq).2
     exact shift (t1:=bl t o.dst (.aH [])) (h1:=h1) ⟨rfl,Or.inr ⟨hw,Or.inr (Or.inl ⟨ha,rfl⟩)⟩,fun h2=>(CN (v:=.undef) (by rwa[sC hf]at h2)).2.1 ha,Or.inl (by simp),fun _ h5=>absurd ha (Oi (v:=.undef) (by rwa[sC hf]at h5)).2.1⟩ (wc q1 ih hc)
    |call f as=>
     simp only[ha]at hr hc
     by_cases hb:dv P f=true
     ·rw[if_neg (by simp[hb])]at hr
      cases h4 with
      |nil=>simp at hr
      |cons q h4=>
       obtain⟨v,h1⟩:=q;simp only[cm]at hr hc;obtain⟨⟨t2,h2,hy,hp⟩,q1,hk⟩:=hr;simp only[b9]at hk;obtain⟨rfl,rfl,rfl,rfl⟩:=hk;have ht:=ac0 ha
       refine shift (t1:=bl t o.dst v) (h1:=h1) ⟨rfl,Or.inr ⟨hw,Or.inr (Or.inr ⟨.fn f,as,by rw[ha];rfl,hb,ih _ (by simp)⟩)⟩,fun h2=>?_,Or.inl (by simp),fun hl _ _ g hg=>Or.inr ⟨f,as,((hc.1 (by rw[hv];exact hl)).2 g hg).1,hb,((hc.1 (by rw[hv];exact hl)).2 g hg).2⟩⟩
        (wc q1 (fun x hx=>ih x (dH _ hx)) hc.2)
       cases hq:l.getD 0 true with
       |true=>exact(hc.1 (by rw[hv];exact hq)).1
       |false=>
        exfalso;apply h2;rw[hq]
        revert ht
        cases o.op<;>simp[g_,lg,dK]
     ·rw[if_pos (by simpa using hb)]at hr;simp at hr
    |dF v=>simp[ha]at hr
    |s8=>simp[ha]at hr
    |bK f as=>simp[ha]at hr
    |yield y as=>
     simp only[ha]at hr hc
     cases h4 with
     |nil=>simp at hr
     |cons q h4=>
      obtain⟨v,h1⟩:=q;simp only[cm]at hr hc;obtain⟨⟨t2,h2,hy,hp⟩,q1,hk⟩:=hr;simp only[b9]at hk;obtain⟨rfl,rfl,rfl,rfl⟩:=hk;have ht:=aeE ha
      have hq:l.getD 0 true=false:=by rw[<-hv];exact hc.1
      refine shift (t1:=bl t o.dst v) (h1:=h1) ⟨rfl,Or.inr ⟨hw,Or.inr (Or.inr ⟨.yl y,as,by rw[ha];rfl,rfl,ih _ (by simp)⟩)⟩,fun h2=>?_,Or.inl (by simp),fun hl _ _ g hg=>by rw[hq]at hl;cases hl⟩
       (wc q1 (fun x hx=>ih x (dH _ hx)) hc.2)
      exfalso;apply h2;rw[hq]
      revert ht
      cases o.op<;>simp[g_,lg,dK]
    |either=>simp[ha]at hr
    |bad=>simp[ha]at hr
end
theorem N9{α:Type}(p:α->Bool)(on:α->Nat)(g:α->Nat):∀(l:List α)(s j:Nat),(l.foldl (fun s e=>if p e then s|||2^on e|||g e else s) s).testBit j=true->
 s.testBit j=true\/∃e∈l,p e=true/\(on e=j\/(g e).testBit j=true)
 |[],s,j,h=>Or.inl h
 |e::l,s,j,h=>by
  rw[tv]at h
  rcases N9 p on g l _ j h with h1|⟨e',he,h1⟩
  ·by_cases hp:p e=true
   ·rw[if_pos hp]at h1;simp only[Nat.testBit_or,fL]at h1
    rcases h1 with(h1|h1)|h1
    ·exact Or.inl h1
    ·rw[Nat.testBit_two_pow]at h1;exact Or.inr ⟨e,by simp,hp,Or.inl (by simpa using h1)⟩
    ·exact Or.inr ⟨e,by simp,hp,Or.inr h1⟩
   ·rw[if_neg hp]at h1;exact Or.inl h1
  ·exact Or.inr ⟨e',dH _ he,h1⟩
def nW(acc:Array Nat)(o:Oper):Array Nat:=acc.push (o.after.foldl (fun s e=>if Region.binds .any e then s|||2^e.on|||acc.getD e.on 0 else s) 0)
theorem NC(j:Nat):∀(os:List Oper)(acc:Array Nat),acc.size<=(os.foldl nW acc).size/\(∀i,i<acc.size->(os.foldl nW acc).getD i 0=acc.getD i 0)/\
 ∀k o,os[k]? =some o->((os.foldl nW acc).getD (acc.size+k) 0).testBit j=true->∃e∈o.after.toList,Region.binds .any e=true/\(e.on=j\/(e.on<acc.size+k/\((os.foldl nW acc).getD e.on 0).testBit j=true))
 |[],acc=>⟨aT _,fun _ _=>rfl,by simp⟩
 |o::os,acc=>by
  obtain⟨h1,h2,h3⟩:=NC j os (nW acc o)
  have hc:(nW acc o).size=acc.size+1:=by simp[nW]
  rw[tv];rw[hc]at h1 h2 h3;refine⟨by omega,?_,?_⟩
  ·intro i hi;rw[h2 i (by omega)];simp only[nW,iY];rw[Array.getElem?_push_lt hi];simp[hi]
  ·intro k x hx hb
   cases k with
   |zero=>
    simp at hx;subst hx;rw[iz,h2 _ (by omega)]at hb
    have he:(nW acc o).getD acc.size 0=o.after.foldl (fun s e=>if Region.binds .any e then s|||2^e.on|||acc.getD e.on 0 else s) 0:=by
     simp[nW,iY]
    rw[he,<-Fl]at hb
    rcases N9 (Region.binds .any) (·.on) (fun e=>acc.getD e.on 0) _ _ _ hb with hb|⟨e,he,hp,hb⟩
    ·simp at hb
    ·refine⟨e,he,hp,hb.imp id fun hb=>?_⟩
     have hv:e.on<acc.size:=by
      rcases mF e.on acc.size with h4|h4
      ·exact h4
      ·simp[iY,pn h4]at hb
     refine⟨by omega,?_⟩;rw[h2 _ (by omega)];simp only[nW,iY];rw[Array.getElem?_push_lt hv];simpa[iY,hv]using hb
   |succ k=>
    have:=h3 k x (by simpa using hx) (by rw[show acc.size+1+k=acc.size+(k+1) by omega];exact hb);obtain⟨e,he,hp,hb⟩:=this;exact⟨e,he,hp,hb.imp id fun hb=>⟨by omega,hb.2⟩⟩
theorem Na{ops:Array Oper}{i j:Nat}{o:Oper}(ho:ops[i]? =some o)(hb:((Region.before ops).getD i 0).testBit j=true):
 ∃e∈o.after.toList,Region.binds .any e=true/\(e.on=j\/(e.on<i/\((Region.before ops).getD e.on 0).testBit j=true)):=by
 have h2:Region.before ops=ops.toList.foldl nW #[]:=by
  rw[Fl];rfl
 obtain⟨_,_,h3⟩:=NC j ops.toList #[];rw[h2]at hb⊢;have:=h3 i o (by simpa using ho) (by simpa using hb);simpa using this
theorem C5{t:List AV}{d:Option Nat}{v:AV}(s:Nat):(bl t d v).getD s .undef=if d=some s/\s<t.length then v else t.getD s .undef:=by
 cases d with
 |none=>simp[bl]
 |some d=>
  simp only[bl,bz,qy,an]
  by_cases h:d=s
  ·subst h
   by_cases h2:d<t.length
   ·simp[h2]
   ·simp[h2]
  ·simp[h]
theorem QR{t:List AV}{d:Option Nat}{v:AV}:(bl t d v).length=t.length:=by cases d<;>simp[bl]
theorem ahL{t t':List AV}(hl:t.length=t'.length)(h:∀s,t.getD s .undef=t'.getD s .undef):t=t':=by
 refine List.ext_getElem hl fun i h1 h2=>?_
 have:=h i;rw[bz,bz,aW h1,aW h2]at this;simpa using this
def left(n:Nat)(listed:Array Bool):Nat:=((List.range n).filter fun i=>!listed.getD i true).length
theorem Ij{n:Nat}{listed:Array Bool}{i:Nat}(hi:i<n)(hn:listed.getD i true=false):left n (listed.setIfInBounds i true)+1=left n listed:=by
 have h2:i<listed.size:=by
  rcases mF i listed.size with h|h
  ·exact h
  ·simp[iY,pn h]at hn
 have h1:((List.range n).filter fun j=>!(listed.setIfInBounds i true).getD j true)=((List.range n).filter fun j=>!listed.getD j true).erase i:=by
  rw[List.Nodup.erase_eq_filter (List.Pairwise.filter _ LZ),List.filter_filter];congr 1
  funext j
  simp only[iY,vg]
  by_cases hj:i=j
  ·subst hj;simp[h2]
  ·simp[hj,Ne.symm hj,bne_iff_ne]
 have hm:i∈(List.range n).filter fun j=>!listed.getD j true:=by simp only[dX,dS,hn,xC,qo];exact hi
 unfold left;rw[h1,Ya hm];have:=Ft hm;omega
theorem mem_left{n i:Nat}{listed:Array Bool}(hi:i<n)(hn:listed.getD i true=false):i∈(List.range n).filter fun j=>!listed.getD j true:=by
 simp only[dX,dS,hn,xC,qo];exact hi
theorem aff{n:Nat}{listed:Array Bool}(h:left n listed=0):∀i,i<n->listed.getD i true=true:=by
 intro i hi;have h1:=lq.1 h
 cases hb:listed.getD i true with
 |true=>rfl
 |false=>
  have:=mem_left hi hb;rw[h1]at this;simp at this
section
variable{P:Program}{Γ:Nat->Option AV}
structure rK(P:Program)(Γ:Nat->Option AV)(ops:Array Oper)(gs:List AG)(obls:List iw)(h0:List Ob)(hs:List (List Ob))(T:Nat->List AV)(H:Nat->List Ob)(v:Nat->AV):Prop where
 len:gs.length=ops.size
 ok:wi ops gs=true
 ed:pI ops=true
 H0:H 0=h0
 at_:∀c,c<=gs.length->(h0::hs)[c]? =some (H c)
 k:∀i x,gs[i]? =some x->sO P Γ obls hs ((h0::hs).take ((wX ops gs).getD i 0)) ((nT ops gs).getD i true) x (T i) (T (i+1)) (H i) (H (i+1)) (v i)
variable{ops:Array Oper}{gs:List AG}{obls:List iw}{h0:List Ob}{hs:List (List Ob)}{T:Nat->List AV}{H:Nat->List Ob}{v:Nat->AV}
def mA(ops:Array Oper)(j i:Nat):Bool:=((Region.before ops).getD i 0).testBit j
def lN(ops:Array Oper)(gs:List AG)(i:Nat)(x:AG):Nat:=lg ((nT ops gs).getD i true) x.op
theorem wC{i:Nat}{x:AG}(hx:gs[i]? =some x):lN ops gs i x=lg (quietAt (Region.before ops) gs i) x.op:=by
 have hl:(nT ops gs).getD i true=looseAt (Region.before ops) gs i:=by simp[nT,bz,bd hx]
 unfold lN;rw[hl]
 cases hc:g_ x.op with
 |false=>rw[sC hc,sC hc]
 |true=>simp[looseAt,hx,hc]
theorem rK.pair(R:rK P Γ ops gs obls h0 hs T H v){i j:Nat}{gi gj:AG}(hi:gs[i]? =some gi)(hj:gs[j]? =some gj)(hv:j<i):nU (quietAt (Region.before ops) gs i) (quietAt (Region.before ops) gs j) gi gj (mA ops j i)=true:=by
 have h1:=R.ok;simp only[wi,eh,dS]at h1;have h2:=h1 i (bd hi);rw[hi]at h2;simp only[aB,eh,dS]at h2;have h3:=h2.2 j hv;rw[hj]at h3;exact h3
def DF(ops:Array Oper)(listed:Array Bool):Prop:=∀i o,ops[i]? =some o->listed.getD i true=true->∀e∈o.after.toList,Region.binds .any e=true->listed.getD e.on false=true
theorem Hd{listed:Array Bool}(hc:DF ops listed):∀(n i j:Nat),i<=n->(∃o,ops[i]? =some o/\∀e∈o.after.toList,Region.binds .any e=true->listed.getD e.on false=true)->mA ops j i=true->listed.getD j false=true:=by
 intro n
 induction n with
 |zero=>
  intro i j hi ⟨o,ho,hl⟩ ha;obtain⟨e,he,hp,hb⟩:=Na ho ha
  rcases hb with rfl|⟨hv,_⟩
  ·exact hl e he hp
  ·omega
 |succ n ih=>
  intro i j hi ⟨o,ho,hl⟩ ha;obtain⟨e,he,hp,hb⟩:=Na ho ha
  rcases hb with rfl|⟨hv,hb⟩
  ·exact hl e he hp
  ·have hle:=hl e he hp
   have hx:e.on<ops.size:=by
    have:=bd (l:=ops.toList) (i:=i) (a:=o) (by simpa using ho);simp at this;omega
   obtain⟨o2,h2⟩:∃o2,ops[e.on]? =some o2:=⟨_,kJ hx⟩;refine ih e.on j (by omega) ⟨o2,h2,?_⟩ hb;refine hc e.on o2 h2 ?_;rw[iY]at hle⊢
   cases hq:listed[e.on]? with
   |none=>rfl
   |some b=>rw[hq]at hle;simpa using hle
theorem rK.JI(R:rK P Γ ops gs obls h0 hs T H v):∀i,i<=gs.length->(T i).length=(T 0).length/\
 (∀j x s,j<i->gs[j]? =some x->x.dst=some s->s<(T 0).length->(T i).getD s .undef=v j)/\
 (∀s,(∀j x,j<i->gs[j]? =some x->x.dst≠some s)->(T i).getD s .undef=(T 0).getD s .undef)
 |0,_=>⟨rfl,fun _ _ _ h=>by omega,fun _ _=>rfl⟩
 |i+1,hi=>by
  obtain⟨h1,h2,h3⟩:=R.JI i (by omega);obtain⟨x,hx⟩:∃x,gs[i]? =some x:=⟨_,aW (by omega)⟩;have hT:=(R.k i x hx).1;refine⟨by rw[hT,QR,h1],?_,?_⟩
  ·intro j y s hj hy hd hs;rw[hT,C5]
   by_cases hb:j=i
   ·subst hb;rw[hx]at hy
    cases hy
    rw[if_pos ⟨hd,by omega⟩]
   ·have hp:=R.pair hx hy (by omega);simp only[nU,aB,fL]at hp
    have hc:x.dst≠some s:=by
     intro hv
     rcases hp.1 with h4|h4
     ·rw[hv]at h4;simp at h4
     ·rw[hv,hd]at h4;simp at h4
    rw[if_neg (fun h=>hc h.1)];exact h2 j y s (by omega) hy hd hs
  ·intro s hn;rw[hT,C5,if_neg (fun h=>hn i x (by omega) hx h.1)]
   exact h3 s fun j y hj=>hn j y (by omega)
theorem rK.zN(R:rK P Γ ops gs obls h0 hs T H v){a:Nat}:∀n,a+n<=gs.length->(∀j x,a<=j->j<a+n->gs[j]? =some x->lN ops gs j x≠2)->H (a+n)=H a
 |0,_,_=>rfl
 |n+1,hl,hn=>by
  obtain⟨x,hx⟩:∃x,gs[a+n]? =some x:=⟨_,aW (by omega)⟩;rw[show a+(n+1)=a+n+1 by omega,(R.k _ x hx).2.2.1 (hn _ x (by omega) (by omega) hx)]
  exact R.zN n (by omega) fun j y h1 h2=>hn j y h1 (by omega)
structure Bd(ops:Array Oper)(gs:List AG)(T:Nat->List AV)(H:Nat->List Ob)(v:Nat->AV)(listed:Array Bool)(tD:List AV)(hD:List Ob):Prop where
 sz:listed.size=ops.size
 cl:DF ops listed
 tl:tD.length=(T 0).length
 w:∀j x s,gs[j]? =some x->listed.getD j true=true->x.dst=some s->s<(T 0).length->tD.getD s .undef=v j
 n:∀s,(∀j x,gs[j]? =some x->listed.getD j true=true->x.dst≠some s)->tD.getD s .undef=(T 0).getD s .undef
 h:∃c,c<=gs.length/\hD=H c/\(∀j x,j<c->gs[j]? =some x->lN ops gs j x=2->listed.getD j true=true)/\(∀j x,c<=j->gs[j]? =some x->lN ops gs j x=2->listed.getD j true=false)
theorem wo{listed:Array Bool}{i:Nat}(hi:i<listed.size)(d d':Bool):listed.getD i d=listed.getD i d':=by
 simp[iY,hi]
theorem adF(R:rK P Γ ops gs obls h0 hs T H v){listed:Array Bool}{tD:List AV}{hD:List Ob}(F:Bd ops gs T H v listed tD hD){i:Nat}{op:Oper}{x:AG}(hi:i<ops.size)(hn:listed.getD i true=false)(ho:ops[i]? =some op)
 (hr:∀e∈op.after.toList,Region.binds .any e=true->listed.getD e.on false=true)(hx:gs[i]? =some x):
 ∃gu,Bd ops gs T H v (listed.setIfInBounds i true) (bl tD x.dst (v i)) gu/\sB P Γ obls x tD hD (v i) gu:=by
 have b3:i<gs.length:=bd hx;have hk:=R.k i x hx
 have hv:∀j,mA ops j i=true->listed.getD j false=true:=fun j=>Hd F.cl i i j (aT _) ⟨op,ho,hr⟩
 have q1:∀j,listed.getD j false=true->listed.getD j true=true:=by
  intro j hj;rw[iY]at hj⊢
  cases hq:listed[j]? with
  |none=>rfl
  |some b=>rw[hq]at hj;simpa using hj
 have k2:∀j,listed.getD j true=false->listed.getD j false=true->False:=fun j h1 h2=>by
  have:=q1 j h2;rw[h1]at this
  cases this
 have hb:∀j,j<ops.size->mA ops i j=true->listed.getD j true=false:=by
  intro j hj ha
  cases hq:listed.getD j true with
  |false=>rfl
  |true=>
   exfalso;have q4:ops[j]? =some ops[j]:=kJ hj;exact k2 i hn (Hd F.cl j j i (aT _) ⟨_,q4,F.cl j _ q4 hq⟩ ha)
 have hlen:=R.len;obtain⟨bk,xc,e4⟩:=R.JI i (by omega)
 have hg:∀s∈uk x,tD.getD s .undef=(T i).getD s .undef:=by
  intro s hs
  by_cases ad:s<(T 0).length
  ·by_cases hw:∃(j:Nat)(y:AG),gs[j]? =some y/\y.dst=some s
   ·obtain⟨j,y,hy,fz⟩:=hw;have q5:j<gs.length:=bd hy
    have hf:∀j2 y2,gs[j2]? =some y2->y2.dst=some s->j2=j:=by
     intro j2 y2 ps q2
     rcases LU j2 j with h1|h1|h1
     ·have hp:=R.pair hy ps h1;simp only[nU,aB,fL]at hp
      rcases hp.1 with h4|h4
      ·rw[fz]at h4;simp at h4
      ·rw[fz,q2]at h4;simp at h4
     ·exact h1
     ·have hp:=R.pair ps hy h1;simp only[nU,aB,fL]at hp
      rcases hp.1 with h4|h4
      ·rw[q2]at h4;simp at h4
      ·rw[fz,q2]at h4;simp at h4
    rcases LU j i with h1|h1|h1
    ·have hp:=R.pair hx hy h1;simp only[nU,aB,fL]at hp
     have ha:mA ops j i=true:=by
      rcases hp.2 with h4|h4
      ·exact h4
      ·rw[fz]at h4;simp only[j4,xI,jB]at h4;exact absurd hs h4.1.1
     rw[F.w j y s hy (q1 j (hv j ha)) fz ad,xc j y s h1 hy fz ad]
    ·subst h1;rw[e4 s (fun j2 y2 lo ps q2=>by have:=hf j2 y2 ps q2;omega),F.n s];intro j2 y2 ps gg q2;have:=hf j2 y2 ps q2;subst this;rw[hn]at gg
     cases gg
    ·have hp:=R.pair hy hx h1;simp only[nU,aB,fL]at hp
     have ha:mA ops i j=true:=by
      rcases hp.2 with h4|h4
      ·exact h4
      ·rw[fz]at h4;simp only[j4,xI,jB]at h4;exact absurd hs h4.1.2
     rw[e4 s (fun j2 y2 lo ps q2=>by have:=hf j2 y2 ps q2;omega),F.n s];intro j2 y2 ps gg q2;have:=hf j2 y2 ps q2;subst this;rw[hb j2 (by omega) ha]at gg
     cases gg
   ·have o1:∀(j:Nat)(y:AG),gs[j]? =some y->y.dst≠some s:=fun j y hy hd=>hw ⟨j,y,hy,hd⟩
    rw[e4 s fun j y _ hy=>o1 j y hy,F.n s fun j y hy _=>o1 j y hy]
  ·rw[bz,bz,gy (by rw[F.tl];omega),gy (by omega)]
 have e2:dY tD x.guard=dY (T i) x.guard:=abv fun s hs=>hg s (by simp only[uk,a8];exact Or.inl hs)
 have k1:∀h,aD P Γ tD h x.op=aD P Γ (T i) h x.op:=fun h=>aeQ fun s hs=>hg s (by simp only[uk,a8];exact Or.inr hs)
 have e3:∀j y,j<i->gs[j]? =some y->lN ops gs j y=2->lN ops gs i x=2->mA ops j i=true:=by
  intro j y h1 hy hz ck;have hp:=R.pair hx hy h1;simp only[nU,aB,fL]at hp
  rcases hp.2 with h4|h4
  ·exact h4
  ·have h5:=h4.2;rw[<-wC hx,<-wC hy,hz,ck]at h5;simp at h5
 have zv:∀j y,i<j->gs[j]? =some y->lN ops gs j y=2->lN ops gs i x=2->mA ops i j=true:=by
  intro j y h1 hy hz ck;have hp:=R.pair hy hx h1;simp only[nU,aB,fL]at hp
  rcases hp.2 with h4|h4
  ·exact h4
  ·have h5:=h4.2;rw[<-wC hx,<-wC hy,hz,ck]at h5;simp at h5
 obtain⟨c,ss,x5,hz,ck⟩:=F.h
 have ih:∀j,(listed.setIfInBounds i true).getD j true=if j=i then true else listed.getD j true:=by
  intro j;simp only[iY,vg]
  by_cases hj:j=i
  ·subst hj;simp;split<;>simp
  ·rw[if_neg (fun e=>hj e.symm),if_neg hj]
 have ys:∀j,listed.getD j false=true->(listed.setIfInBounds i true).getD j false=true:=by
  intro j h;simp only[iY,vg]at h⊢
  by_cases hj:i=j
  ·subst hj
   by_cases h2:i<listed.size
   ·simp[h2]
   ·rw[pn (by omega)]at h;simp at h
  ·rw[if_neg hj];exact h
 have x0:∀gu,(∃c,c<=gs.length/\gu=H c/\(∀j x,j<c->gs[j]? =some x->lN ops gs j x=2->(listed.setIfInBounds i true).getD j true=true)/\(∀j x,c<=j->gs[j]? =some x->lN ops gs j x=2->(listed.setIfInBounds i true).getD j true=false))->
  Bd ops gs T H v (listed.setIfInBounds i true) (bl tD x.dst (v i)) gu:=by
  intro gu hh;refine⟨by simp[F.sz],?_,by rw[QR,F.tl],?_,?_,hh⟩
  ·intro j o hj hl e he hp;rw[ih]at hl
   by_cases e1:j=i
   ·subst e1;rw[ho]at hj
    cases hj
    exact ys _ (hr e he hp)
   ·rw[if_neg e1]at hl;exact ys _ (F.cl j o hj hl e he hp)
  ·intro j y s hy hl hd hs;rw[ih]at hl;rw[C5]
   by_cases e1:j=i
   ·subst e1;rw[hx]at hy
    cases hy
    rw[if_pos ⟨hd,by rw[F.tl];exact hs⟩]
   ·rw[if_neg e1]at hl
    have k0:x.dst≠some s:=by
     intro l1
     rcases Nat.lt_or_gt_of_ne e1 with h1|h1
     ·have hp:=R.pair hx hy h1;simp only[nU,aB,fL]at hp
      rcases hp.1 with h4|h4
      ·rw[l1]at h4;simp at h4
      ·rw[l1,hd]at h4;simp at h4
     ·have hp:=R.pair hy hx h1;simp only[nU,aB,fL]at hp
      rcases hp.1 with h4|h4
      ·rw[hd]at h4;simp at h4
      ·rw[l1,hd]at h4;simp at h4
    rw[if_neg (fun h=>k0 h.1)];exact F.w j y s hy hl hd hs
  ·intro s x7;rw[C5,if_neg (fun h=>x7 i x hx (by rw[ih,if_pos rfl]) h.1)]
   refine F.n s fun j y hy hl=>x7 j y hy ?_
   rw[ih];split
   ·rfl
   ·exact hl
 by_cases h2:lN ops gs i x=2
 ·
  have r2:c<=i:=by
   rcases mF i c with h1|h1
   ·have:=hz i x h1 hx h2;rw[hn]at this
    cases this
   ·exact h1
  have hH:H i=H c:=by
   have:=R.zN (a:=c) (i-c) (by omega) (by
    intro j y h3 h4 hy hc;have h5:=q1 j (hv j (e3 j y (by omega) hy hc h2));rw[ck j y h3 hy hc]at h5
    cases h5)
   rwa[show c+(i-c)=i by omega]at this
  refine⟨H (i+1),x0 _ ⟨i+1,by omega,rfl,?_,?_⟩,?_⟩
  ·intro j y h3 hy hc;rw[ih]
   by_cases e1:j=i
   ·rw[if_pos e1]
   ·rw[if_neg e1];exact q1 j (hv j (e3 j y (by omega) hy hc h2))
  ·intro j y h3 hy hc;rw[ih,if_neg (by omega)];have q5:=bd hy;exact hb j (by omega) (zv j y (by omega) hy hc h2)
  ·have ht:=hk.2.1;rw[x5,<-hH];unfold sB at ht⊢;rw[e2,k1];exact ht
 ·
  have q3:hD∈(h0::hs).take ((wX ops gs).getD i 0):=by
   have q0:(wX ops gs).getD i 0=DV (Region.before ops) gs i:=by simp[wX,bz,b3]
   have r1:c<DV (Region.before ops) gs i:=by
    unfold DV
    cases ao:(List.range gs.length).find? fun j=>decide (i<j)&&(match gs[j]? with
     |none=>false
     |some gj=>lg (quietAt (Region.before ops) gs j) gj.op==2&&((Region.before ops).getD j 0).testBit i)with
    |none=>simp;omega
    |some j=>
     have e5:=List.find?_some ao;have lo:=List.mem_of_find?_eq_some ao;simp only[dS]at lo;simp only[aB,bj]at e5;obtain⟨q7,ts⟩:=e5;have l2:gs[j]? =some gs[j]:=aW lo;rw[l2]at ts;simp only[aB,nA]at ts;simp only[kH]
     rcases mF j c with h5|h5
     ·exfalso;have h6:=hz j gs[j] h5 l2 (by rw[wC l2];exact ts.1);have h7:=hb j (by omega) ts.2;rw[h7]at h6
      cases h6
     ·omega
   rw[q0,x5];refine jz (i:=c) ?_;rw[rS,if_pos r1];exact R.at_ c ss
  refine⟨hD,x0 _ ⟨c,ss,x5,?_,?_⟩,?_⟩
  ·intro j y h3 hy hc
   rw[ih];split
   ·rfl
   ·exact hz j y h3 hy hc
  ·intro j y h3 hy hc;rw[ih,if_neg]
   ·exact ck j y h3 hy hc
   ·rintro rfl
    rw[hx]at hy
    cases hy
    exact h2 hc
  ·have j1:=hk.2.2.1 h2;have ht:=hk.2.1;rw[j1]at ht;unfold sB at ht⊢;rw[e2,k1]
   rcases ht with⟨h3,h4,_⟩|⟨h3,h4⟩
   ·exact Or.inl ⟨h3,h4,rfl⟩
   ·refine Or.inr ⟨h3,?_⟩
    cases bs:g_ x.op with
    |true=>
    have hq:(nT ops gs).getD i true=true:=by
     cases hq:(nT ops gs).getD i true with
     |true=>rfl
     |false=>
      exfalso;apply h2;unfold lN;rw[hq]
      revert bs
      cases x.op<;>simp[g_,lg,dK]
    have h1:lg ((nT ops gs).getD i true) x.op=1:=by rw[hq];simp[lg,bs]
    rcases hk.2.2.2.2 hq h1 h3 hD q3 with h5|⟨f,as,h5,h6,h7⟩
    ·exact Or.inl h5
    ·exact Or.inr (Or.inr ⟨.fn f,as,by rw[h5];rfl,h6,h7⟩)
    |false=>
    have k3:dK x.op≠2:=by unfold lN at h2;rwa[sC bs]at h2
    have x8:dK x.op=0\/dK x.op=1:=by
     have h5:=R.ok;simp only[wi,eh,dS]at h5;have h6:=h5 i b3;rw[hx]at h6;simp only[aB,bne_iff_ne,ne_eq]at h6;have h7:=h6.1
     revert k3 h7
     cases x.op<;>simp[dK]
    rcases x8 with h0|h1
    ·have hp:=afY (P:=P) (Γ:=Γ) (t:=T i) h0 (H i) hD
     rcases h4 with h4|⟨h4,h5⟩|⟨f,as,h4,h5,h6⟩
     ·rw[h4]at hp;exact Or.inl hp
     ·rw[h4]at hp;exact Or.inr (Or.inl ⟨hp,h5⟩)
     ·rw[Hk k3]at h4;cases h4
    ·rcases h4 with h4|⟨h4,h5⟩|⟨f,as,h4,h5,h6⟩
     ·by_cases hl:(nT ops gs).getD i true=true
      ·rcases hk.2.2.2.2 hl (by rw[sC bs];exact h1) h3 hD q3 with h5|⟨f,as,h5,h6,h7⟩
       ·exact Or.inl h5
       ·exact Or.inr (Or.inr ⟨.fn f,as,by rw[h5];rfl,h6,h7⟩)
      ·have ix:looseAt (Region.before ops) gs i=false:=by
        have:(nT ops gs).getD i true=looseAt (Region.before ops) gs i:=by
         simp[nT,bz,b3]
        rw[this]at hl;simpa using hl
       simp only[looseAt,hx,bs,fe,dq,h1,LY,tA,List.any_eq_false,dS]at ix
       have b2:∀j y,gs[j]? =some y->lN ops gs j y=2->(if j<i then mA ops j i else mA ops i j)=true:=by
        intro j y hy hc;have h5:=ix j (bd hy);rw[hy]at h5;rw[wC hy]at hc;simp only[hc,LY,tA,j4,Bw]at h5;exact h5
       have hH:hD=H i:=by
        rw[x5]
        rcases Nat.le_total c i with h5|h5
        ·have:=R.zN (a:=c) (i-c) (by omega) (by
          intro j y h6 h7 hy hc;have h8:=b2 j y hy hc;rw[if_pos (by omega)]at h8;have h9:=q1 j (hv j h8);rw[ck j y h6 hy hc]at h9
          cases h9)
         rw[show c+(i-c)=i by omega]at this;exact this.symm
        ·have:=R.zN (a:=i) (c-i) (by omega) (by
          intro j y h6 h7 hy hc;have h8:=b2 j y hy hc;rw[if_neg (by omega)]at h8;have q5:=bd hy;have h9:=hb j (by omega) h8;rw[hz j y (by omega) hy hc]at h9
          cases h9)
         rw[show i+(c-i)=c by omega]at this;exact this
       left;rw[hH];exact h4
     ·exact absurd h4 (Oi (v:=.undef) h1).2.1
     ·rw[Hk k3]at h4;cases h4
variable{Rl:ar->ar->Prop}
def wQ(gs:List AG)(t0 t:List AV):Prop:=∀s,(∀x∈gs,x.dst≠some s)->t.getD s .undef=t0.getD s .undef
theorem ahO(hb:∀a b c,Rl a b->Rl b c->Rl a c)(hc:∀c,Rl c (iG P Γ c)){f:Fr}{up:List Fr}{t:List AV}(hk:∀o∈obls,∀its,Rl (o.f.cfg o.args ({f with its:=its,t:=t}::up) o.h) (.back ({f with its:=its,t:=t}::up) o.v o.h'))(hx:f.md=.run){k:List It}{x:AG}{os:List AG}{h h':List Ob}{u:AV}
 (ho:sB P Γ obls x t h u h'):Rl (.fr {f with its:=.ops (x::os)::k,t:=t} up h) (.fr {f with its:=.ops os::k,t:=bl t x.dst u} up h'):=by
 obtain⟨hl,hv,fits,ft,fds,fk,fb⟩:=f;simp only at hx;subst hx;have h0:=hc (.fr {md:=.run,fn:=hv,its:=.ops (x::os)::k,t:=t,ds:=fds,kind:=fk,base:=fb} up h);simp only[iG,jE]at h0
 rcases ho with⟨h1,rfl,rfl⟩|⟨h1,h2|⟨h2,rfl⟩|⟨c,as,h2,h3,h4⟩⟩
 ·rw[h1]at h0;exact h0
 ·rw[h1]at h0;simp only[h2,gS]at h0;exact h0
 ·rw[h1]at h0;simp only[h2,gS]at h0;exact h0
 ·rw[h1]at h0
  have hj:Rl (.fr {md:=.run,fn:=hv,its:=.ops (x::os)::k,t:=t,ds:=fds,kind:=fk,base:=fb} up h) (c.cfg as ({md:=.run,fn:=hv,its:=.ops (x::os)::k,t:=t,ds:=fds,kind:=fk,base:=fb}::up) h):=by
   cases ha:aD P Γ t h x.op<;>rw[ha]at h2 h0<;>simp only[R.E8]at h2
   all_goals first|(cases h2;done)|skip
   ·cases h2
    simp only[jM.ok]at h3;simp only[gS,h3,cE]at h0;exact h0
   ·cases h2
    exact h0
  refine hb _ _ _ hj (hb _ _ _ (hk _ h4 _) ?_);have h5:=hc (.back ({md:=.run,fn:=hv,its:=.ops (x::os)::k,t:=t,ds:=fds,kind:=fk,base:=fb}::up) u h');simp only[iG,Fr.finish]at h5;exact h5
theorem agH(R:rK P Γ ops gs obls h0 hs T H v)(hp:∀a b c,Rl a b->Rl b c->Rl a c)(hg:∀c,Rl c (iG P Γ c)){f:Fr}{up:List Fr}(ys:∀o∈obls,∀its t,wQ gs (T 0) t->Rl (o.f.cfg o.args ({f with its:=its,t:=t}::up) o.h) (.back ({f with its:=its,t:=t}::up) o.v o.h'))(hc:f.md=.run){k:List It}:
 ∀(fuel n:Nat)(listed:Array Bool)(tD:List AV)(hD:List Ob),Bd ops gs T H v listed tD hD->left ops.size listed=fuel->
  Rl (.fr {f with its:=.ops ((Region.linearise.go .any ops fuel n listed []).map fun i=>gs.getD i default)::k,t:=tD} up hD) (.fr {f with its:=k,t:=T gs.length} up (H gs.length)):=by
 intro fuel
 induction fuel with
 |zero=>
  intro n listed tD hD F hl;have hv:=aff hl;have hlen:=R.len;obtain⟨q3,k2,fz⟩:=R.JI gs.length (aT _)
  have ht:tD=T gs.length:=by
   refine ahL (by rw[F.tl,q3]) fun s=>?_
   by_cases hw:∃(j:Nat)(y:AG),gs[j]? =some y/\y.dst=some s
   ·obtain⟨j,y,hy,hd⟩:=hw;have ck:=bd hy
    by_cases q2:s<(T 0).length
    ·rw[F.w j y s hy (hv j (by omega)) hd q2,k2 j y s ck hy hd q2]
    ·rw[bz,bz,gy (by rw[F.tl];omega),gy (by omega)]
   ·have ps:∀(j:Nat)(y:AG),gs[j]? =some y->y.dst≠some s:=fun j y hy hd=>hw ⟨j,y,hy,hd⟩
    rw[fz s fun j y _ hy=>ps j y hy,F.n s fun j y hy _=>ps j y hy]
  obtain⟨c,bs,gu,b2,gg⟩:=F.h
  have hh:hD=H gs.length:=by
   rw[gu]
   have:=R.zN (a:=c) (gs.length-c) (by omega) (by
    intro j y h3 h4 hy k1;have h5:=gg j y h3 hy k1;rw[hv j (by omega)]at h5
    cases h5)
   rw[show c+(gs.length-c)=gs.length by omega]at this;exact this.symm
  subst ht hh;obtain⟨lo,h9,fits,ft,fds,fk,fb⟩:=f;simp only at hc;subst hc;have h0:=hg (.fr {md:=.run,fn:=h9,its:=.ops []::k,t:=T gs.length,ds:=fds,kind:=fk,base:=fb} up (H gs.length));simp only[iG,jE]at h0;simp only[Region.linearise.go,List.reverse_nil,jO];exact h0
 |succ fuel ih=>
  intro n listed tD hD F hl;have hlen:=R.len
  have e1:0<((List.range ops.size).filter fun i=>!listed.getD i true&&((ops[i]?).map (·.after.all fun e=>!Region.binds .any e||listed.getD e.on false)).getD false).length:=by
   have hex:∃i,i<ops.size/\listed.getD i true=false:=by
    unfold left at hl;obtain⟨i,hi⟩:=Fu (l:=(List.range ops.size).filter fun i=>!listed.getD i true) (by omega);simp only[dX,dS,j4]at hi;exact⟨i,hi⟩
   have hk:∀m i,i<=m->i<ops.size->listed.getD i true=false->∃i,i<ops.size/\listed.getD i true=false/\∀j,j<i->listed.getD j true=true:=by
    intro m
    induction m with
    |zero=>intro i h1 h2 h3;exact⟨i,h2,h3,fun j hj=>by omega⟩
    |succ m e3=>
     intro i h1 h2 h3
     by_cases h4:∃j,j<i/\listed.getD j true=false
     ·obtain⟨j,h5,h6⟩:=h4;exact e3 j (by omega) (by omega) h6
     ·refine⟨i,h2,h3,fun j hj=>?_⟩
      cases hq:listed.getD j true with
      |true=>rfl
      |false=>exact absurd ⟨j,hj,hq⟩ h4
   obtain⟨i0,h1,h2⟩:=hex;obtain⟨i,h3,h4,h5⟩:=hk i0 i0 (aT _) h1 h2;refine Ft (a:=i) ?_;simp only[dX,dS,h4,xC,tA,kJ h3,dC,kH];refine⟨h3,?_⟩;rw[<-tB,eh];intro e he
   cases hb:Region.binds .any e with
   |false=>rfl
   |true=>
    simp only[rT,pr];have e2:=R.ed;simp only[pI,eh]at e2;have h6:=e2 (ops[i],i) (by rw[Yb];simp[h3]);rw[<-tB,eh]at h6;have h7:=h6 e he;rw[hb]at h7;simp only[rT,pr,bj]at h7;rw[wo (by rw[F.sz];omega) false true];exact h5 _ h7
  simp only[Region.linearise.go];generalize zv:((List.range ops.size).filter fun i=>!listed.getD i true&&((ops[i]?).map (·.after.all fun e=>!Region.binds .any e||listed.getD e.on false)).getD false)=rs at e1⊢;have hz:n%rs.length<rs.length:=Nat.mod_lt _ e1;rw[aW hz];generalize x0:rs[n%rs.length]=i
  have q1:i∈rs:=by rw[<-x0];exact bA hz
  rw[<-zv]at q1;simp only[dX,dS,aB,j4]at q1;obtain⟨h1,h2,h3⟩:=q1;rw[kJ h1]at h3;simp only[dC,kH]at h3;rw[<-tB,eh]at h3;obtain⟨x,hx⟩:∃x,gs[i]? =some x:=⟨_,aW (by omega)⟩
  obtain⟨x5,F',hf⟩:=adF R F h1 h2 (kJ h1) (fun e he hb=>by
   have:=h3 e he;rw[hb]at this
   simpa using this) hx
  simp only;rw[linearise_go_acc,Yc,tz,bX];rw[show gs.getD i default=x by rw[bz,hx];rfl];refine hp _ _ _ (ahO hp hg (fun o ho its=>ys o ho its _ fun s hs=>F.n s fun j y hy _=>hs y (jz hy)) hc hf) (ih _ _ _ _ F' ?_);have:=Ij h1 h2;omega
end
section
variable{P:Program}{Γ:Nat->Option AV}{N:Env}{g:G}{h:List Ob}{w:World}
theorem Od{n:Nat}:∀{es:List (AV×AV)},fC n es=true->aN n (es.map (·.1))=true/\aN n (es.map (·.2))=true
 |[],_=>⟨rfl,rfl⟩
 |(a,b)::es,h=>by
  simp only[fC,aB]at h;obtain⟨h1,h2⟩:=Od h.2;simp only[bX,aN,aB];exact⟨⟨h.1.1,h1⟩,⟨h.1.2,h2⟩⟩
theorem CB{n:Nat}:∀{es:List AV}(k:Nat),aN n es=true->aN n (es.drop k)=true
 |[],_,_=>by simp[aN]
 |a::es,0,h=>by simpa using h
 |a::es,k+1,h=>by
  simp only[aN,aB]at h;simpa using CB k h.2
theorem ahZ{n k:Nat}{es:List AV}{fl:Bool}(h2:fl=true->cG es k=true)(hb:(fl||aN n es)=true):aN n es=true:=by
 cases fl with
 |true=>exact j7 (h2 rfl)
 |false=>simpa using hb
theorem aiX{n:Nat}{g':G}{h':List Ob}(x:Ext n g h g' h'){i:Nat}{o:Ob}(hρ:g'.ρ i=g.ρ i)(hb:iL n o=true)(ho:OV P g h w i o):OV P g' h' w i o:=by
 cases o with
 |gone=>trivial
 |cells vs=>
  intro b sz st hv;rw[hρ]at hv;obtain⟨c,E,fz,h1,h2,h3⟩:=ho b sz st hv;exact⟨c,E,fz,h1,h2,cM x (by simpa only [iL]using hb) h3⟩
 |row k E es gr fl sh=>
  simp only[OV]at ho⊢;obtain⟨h1,h2,h3,h4,h5⟩:=ho;refine⟨h1,h2,h3,h4,?_⟩;rw[hρ]
  cases hr:g.ρ i with
  |none=>rw[hr]at h5;exact h5
  |some y=>
   obtain⟨b,sz,st⟩:=y;rw[hr]at h5;simp only at h5⊢;obtain⟨h6,c,E',fz,vs,h7,h8,h9,hc,hx⟩:=h5;exact⟨h6,c,E',fz,vs,h7,h8,h9,gY x (CB _ (ahZ h3 (by simpa only [iL]using hb))) hc,hx⟩
 |map es fl=>
  obtain⟨h1,h3⟩:=ho;refine⟨h1,fun b sz st hv=>?_⟩;rw[hρ]at hv;obtain⟨bn,ck,h4,h5,h6⟩:=h3 b sz st hv;obtain⟨q1,q2⟩:=Od (by simpa only [iL]using hb);exact⟨bn,ck,h4,cM x q1 h5,cM x q2 h6⟩
 |jf s p=>
  intro b sz st hv;rw[hρ]at hv;exact ho b sz st hv
 |loop st j fn t ps a b=>
  intro bk sz hk hv;rw[hρ]at hv;obtain⟨L,h1,h2,h3,h4,h5,h6⟩:=ho bk sz hk hv;exact⟨L,h1,h2,h3,h4,cM x (by simpa only [iL]using hb) h5,h6⟩
 |bK live=>
  intro b sz st hv;rw[hρ]at hv;exact ho b sz st hv
theorem QJ{n:Nat}:∀{h:List Ob}{i:Nat}{o:Ob},cz n h=true->h[i]? =some o->iL n o=true
 |[],_,_,_,hi=>by simp at hi
 |a::h,0,o,hb,hi=>by
  simp only[cz,aB]at hb
  simp at hi;subst hi;exact hb.1
 |a::h,i+1,o,hb,hi=>by
  simp only[cz,aB]at hb;exact QJ hb.2 (by simpa using hi)
theorem Inv.drop(H:Inv P Γ N g h w){n:Nat}(hb:cz n (h.take n)=true):
 Inv P Γ N {g with ρ:=fun i=>if i<n then g.ρ i else none} (h.take n) w/\Ext n g h {g with ρ:=fun i=>if i<n then g.ρ i else none} (h.take n):=by
 have hc:∀{i x},i<n->h[i]? =some x->(h.take n)[i]? =some x:=fun{i x} hi hx=>by rw[nC hi];exact hx
 have hρ:∀{i},i<n->∀x,g.ρ i=some x->(if i<n then g.ρ i else none)=some x:=fun hi x hx=>by rw[if_pos hi];exact hx
 have hE:Ext n g h {g with ρ:=fun i=>if i<n then g.ρ i else none} (h.take n):=
  ⟨fun _ _ _ x=>x,fun _ _ x=>x,fun i vs hn hi=>⟨⟨_,hc hn hi⟩,hρ hn⟩,fun i es fl hn hi=>⟨⟨_,_,hc hn hi⟩,hρ hn⟩,fun i s p hn hi=>⟨⟨_,_,hc hn hi⟩,hρ hn⟩,
  fun i st j fn t ps a b hn hi=>⟨⟨_,_,hc hn hi⟩,hρ hn⟩,fun i l hn hi=>⟨⟨_,hc hn hi⟩,hρ hn⟩,
  fun i k E es gr fl sh hn hi=>⟨_,_,_,_,_,hc hn hi,aT _,fun _ _ _ hk=>⟨hk,rfl,hρ hn⟩⟩⟩
 have hl:∀{i b x},(if i<n then g.ρ i else none)=some (b,x)->i<n/\g.ρ i=some (b,x):=by
  intro i b x hi
  by_cases h1:i<n
  ·rw[if_pos h1]at hi;exact⟨h1,hi⟩
  ·rw[if_neg h1]at hi;cases hi
 refine⟨⟨H.os,H.tape,H.output,H.gp,fun i b x hi=>H.own i b x (hl hi).2,fun i j b x y hi hj=>H.inj i j b x y (hl hi).2 (hl hj).2,?_,H.mem,?_,?_,?_,?_,H.mK,H.ky,H.mz⟩,hE⟩
 ·intro i hi;simp only
  by_cases h1:i<n
  ·rw[if_pos h1];refine H.ql i ?_;rw[fw]at hi;omega
  ·rw[if_neg h1]
 ·intro b es ck hb;obtain⟨h1,h2⟩:=H.mm b es ck hb;exact⟨h1,fun i x hi=>h2 i x (hl hi).2⟩
 ·intro i b sz st o v hi hv;obtain⟨h1,h2⟩:=hl hi;obtain⟨k,E,es,gr,fl,h3,h4⟩:=H.fo i b sz st o v h2 hv;exact⟨k,E,es,gr,fl,hc h1 h3,h4⟩
 ·intro i o hi
  have q1:i<n:=by
   have:=bd hi;rw[fw]at this;omega
  have ih:h[i]? =some o:=by rw[nC q1]at hi;exact hi
  exact aiX hE (by simp only;rw[if_pos q1]) (QJ hb hi) (H.ob i o ih)
 ·intro m a hm;obtain⟨h1,vs,h2,h3⟩:=H.mo m a hm;exact⟨h1,vs,cM (hE.mono (xu _)) h1 h2,h3⟩
variable{i:Nat}{k:Nat}{E:TypeId}{es:List AV}{fl sh:Bool}
theorem Ext.zero{g g':G}{h h':List Ob}(hM:∀b o v,g.M b o=some v->g'.M b o=some v)(h2:∀b x,g.MM b=some x->g'.MM b=some x):Ext 0 g h g' h':=
 ⟨hM,h2,fun _ _ h=>by omega,fun _ _ _ h=>by omega,fun _ _ _ h=>by omega,fun _ _ _ _ _ _ _ _ h=>by omega,fun _ _ h=>by omega,fun _ _ _ _ _ _ _ h=>by omega⟩
mutual
theorem wx(hi:h[i]? =some (.row k E es (some 0) fl sh)):∀{a:AV}{v:Value},j0 i es.length a=true->V g h a v->V g (h.set i (.row k E es none fl sh)) a v
 |.undef,_,_,_=>by simp[V]
 |.bool _,_,_,hv|.int _ _,_,_,hv|.str _,_,_,hv|.jn,_,_,hv|.dk,_,_,hv|.dn,_,_,hv|.fv,_,_,hv|.eP _ _,_,_,hv=>by simpa only [V]using hv
 |.own _ _ _,_,_,hv=>by simp only[V]at hv
 |.list full k es,v,_,hv=>by
  have h0:aK 0 (.list full k es)=true:=by
   simp only[V]at hv;simp only[aK];exact j7 hv.1
  exact gZ (Ext.zero (fun _ _ _ x=>x) (fun _ _ x=>x)) h0 hv
 |.dG ks us,v,hb,hv=>gZ (Ext.zero (fun _ _ _ x=>x) (fun _ _ x=>x)) (by simpa only [aK,j0]using hb) hv
 |.sl j off n,v,hb,hv=>by
  simp only[V]at hv⊢
  by_cases hc:j=i
  ·subst hc;simp only[j0,LY,rT,pr,nA]at hb;obtain⟨k',E',es',gr',fl',sh',h1,h2,a,cap,h3,h4,h5,h6⟩:=hv;rw[hi]at h1;simp only[an,Ob.row.injEq]at h1;obtain⟨rfl,rfl,rfl,rfl,rfl,rfl⟩:=h1;exact⟨_,_,_,none,_,_,ff (bd hi),h2,a,cap,h3,h4,h5,fun _=>h6 (by simp[cW,hb])⟩
  ·obtain⟨k',E',es',gr',fl',sh',h1,h2⟩:=hv;exact⟨k',E',es',gr',fl',sh',by rw[dW (fun e=>hc e.symm)];exact h1,h2⟩
 |.dw a _ _ _,v,hb,hv=>by
  simp only[V]at hv⊢;simp only[j0]at hb;obtain⟨u,b,o,h1,h2,h4,rfl⟩:=hv;exact⟨u,b,o,wx hi hb h1,h2,h4,rfl⟩
 |.ptr j off,v,_,hv=>by
  simp only[V]at hv⊢;obtain⟨⟨vs,hj⟩,h2⟩:=hv;exact⟨⟨vs,by rw[dW (by rintro rfl;rw[hi]at hj;cases hj)];exact hj⟩,h2⟩
 |.mp j,v,_,hv=>by
  simp only[V]at hv⊢;obtain⟨⟨x,y,hj⟩,h2⟩:=hv;exact⟨⟨x,y,by rw[dW (by rintro rfl;rw[hi]at hj;cases hj)];exact hj⟩,h2⟩
 |.it j,v,_,hv=>by
  simp only[V]at hv⊢;obtain⟨⟨x,y,hj⟩,h2⟩:=hv;exact⟨⟨x,y,by rw[dW (by rintro rfl;rw[hi]at hj;cases hj)];exact hj⟩,h2⟩
 |.de j,v,_,hv=>by
  simp only[V]at hv⊢;obtain⟨⟨x1,x2,x3,x4,x5,x6,x7,hj⟩,h2⟩:=hv;exact⟨⟨x1,x2,x3,x4,x5,x6,x7,by rw[dW (by rintro rfl;rw[hi]at hj;cases hj)];exact hj⟩,h2⟩
 |.agg cs,v,hb,hv=>by
  simp only[V]at hv⊢;simp only[j0]at hb;obtain⟨vs,rfl,h1⟩:=hv;exact⟨vs,rfl,mL hi hb h1⟩
 |.aH cs,v,hb,hv=>by
  simp only[V]at hv⊢;simp only[j0]at hb;obtain⟨vs,rfl,h1⟩:=hv;exact⟨vs,rfl,mL hi hb h1⟩
 |.fn f a b,v,hb,hv=>by
  simp only[V]at hv⊢;simp only[j0,aB]at hb;obtain⟨xs,ys,rfl,h1,h2⟩:=hv;exact⟨xs,ys,rfl,mL hi hb.1 h1,mL hi hb.2 h2⟩
 |.bW t a,v,hb,hv=>by
  simp only[V]at hv⊢;simp only[j0]at hb;obtain⟨y,rfl,h1⟩:=hv;exact⟨y,rfl,wx hi hb h1⟩
theorem mL(hi:h[i]? =some (.row k E es (some 0) fl sh)):∀{as:List AV}{vs:List Value},dx i es.length as=true->VL g h as vs->VL g (h.set i (.row k E es none fl sh)) as vs
 |[],_,_,hv=>by simpa only [VL]using hv
 |a::as,_,hb,hv=>by
  simp only[VL]at hv⊢;simp only[dx,aB]at hb;obtain⟨v,vs',rfl,h1,h2⟩:=hv;exact⟨v,vs',rfl,wx hi hb.1 h1,mL hi hb.2 h2⟩
end
theorem H9(hi:h[i]? =some (.row k E es (some 0) fl sh)):∀{as:List AV}{vs:List Value},dx i es.length as=true->VE g h as vs->VE g (h.set i (.row k E es none fl sh)) as vs
 |[],_,_,hv=>by simpa only [VE]using hv
 |a::as,_,hb,hv=>by
  simp only[VE]at hv⊢;simp only[dx,aB]at hb;obtain⟨v,vs',h1,rfl,h2⟩:=hv;exact⟨v,vs',wx hi hb.1 h1,rfl,H9 hi hb.2 h2⟩
theorem OJ{m:Nat}:∀{es:List AV}(k:Nat),dx i m es=true->dx i m (es.drop k)=true
 |[],_,_=>by simp[dx]
 |a::es,0,h=>by simpa using h
 |a::es,k+1,h=>by
  simp only[dx,aB]at h;simpa using OJ k h.2
theorem OW{m:Nat}:∀{es:List (AV×AV)},o_ i m es=true->dx i m (es.map (·.1))=true/\dx i m (es.map (·.2))=true
 |[],_=>⟨rfl,rfl⟩
 |(a,b)::es,h=>by
  simp only[o_,aB]at h;obtain⟨h1,h2⟩:=OW h.2;simp only[bX,dx,aB];exact⟨⟨h.1.1,h1⟩,⟨h.1.2,h2⟩⟩
theorem Iv{m:Nat}:∀{h:List Ob}{j:Nat}{o:Ob},c8 i m h=true->h[j]? =some o->nh i m o=true
 |[],_,_,_,hi=>by simp at hi
 |a::h,0,o,hb,hi=>by
  simp only[c8,aB]at hb
  simp at hi;subst hi;exact hb.1
 |a::h,j+1,o,hb,hi=>by
  simp only[c8,aB]at hb;exact Iv hb.2 (by simpa using hi)
theorem Inv.reset(H:Inv P Γ N g h w)(hi:h[i]? =some (.row k E es (some 0) fl sh))(hv:c8 i es.length h=true):Inv P Γ N g (h.set i (.row k E es none fl sh)) w:=by
 have hl:Ext 0 g h g (h.set i (.row k E es none fl sh)):=Ext.zero (fun _ _ _ x=>x) (fun _ _ x=>x);refine⟨H.os,H.tape,H.output,H.gp,H.own,H.inj,fun j hj=>H.ql j (by simpa using hj),H.mem,H.mm,?_,?_,?_,H.mK,H.ky,H.mz⟩
 ·intro j b sz st o v hj hM;obtain⟨k',E',es',gr,fl',h3,h4⟩:=H.fo j b sz st o v hj hM
  by_cases hx:j=i
  ·subst hx;rw[hi]at h3;simp only[an,Ob.row.injEq]at h3;obtain⟨rfl,rfl,rfl,rfl,rfl,rfl⟩:=h3;exact⟨_,_,_,none,_,ff (bd hi),h4⟩
  ·exact⟨k',E',es',gr,fl',by rw[dW (fun e=>hx e.symm)];exact h3,h4⟩
 ·intro j o hj
  by_cases hx:j=i
  ·subst hx;rw[ff (bd hi)]at hj;simp only[an]at hj;subst hj;have ho:=H.ob j _ hi;have hb:=Iv hv hi;simp only[nh]at hb;simp only[OV]at ho⊢;obtain⟨h1,h2,h3,h4,h5⟩:=ho;refine⟨h1,h2,h3,by simp,?_⟩
   cases hr:g.ρ j with
   |none=>rw[hr]at h5;exact h5
   |some y=>
    obtain⟨b,sz,st⟩:=y;rw[hr]at h5;simp only at h5⊢;obtain⟨h6,c,E',fz,vs,h7,h8,h9,hc,ih⟩:=h5;refine⟨h6,c,E',fz,vs,h7,h8,h9,?_,ih⟩;simp only[kH,vf,fM]at hc⊢
    cases fl with
    |true=>exact gY hl (j7 (h3 rfl)) hc
    |false=>exact H9 hi (by simpa using hb) hc
  ·rw[dW (fun e=>hx e.symm)]at hj;have ho:=H.ob j o hj;have hb:=Iv hv hj
   cases o with
   |gone=>trivial
   |cells vs=>
    intro b sz st hk;obtain⟨c,E,fz,h1,h2,h3⟩:=ho b sz st hk;exact⟨c,E,fz,h1,h2,mL hi (by simpa only [nh]using hb) h3⟩
   |row k2 E2 hp hq hf ht=>
    simp only[nh]at hb;simp only[OV]at ho⊢;obtain⟨h1,h2,h3,h4,h5⟩:=ho;refine⟨h1,h2,h3,h4,?_⟩
    cases hr:g.ρ j with
    |none=>rw[hr]at h5;exact h5
    |some y=>
     obtain⟨b,sz,st⟩:=y;rw[hr]at h5;simp only at h5⊢;obtain⟨h6,c,E',fz,vs,h7,h8,h9,hc,ih⟩:=h5;refine⟨h6,c,E',fz,vs,h7,h8,h9,?_,ih⟩
     cases hf with
     |true=>exact gY hl (CB _ (j7 (h3 rfl))) hc
     |false=>exact H9 hi (OJ _ (by simpa using hb)) hc
   |map es fl=>
    obtain⟨h1,h3⟩:=ho;refine⟨h1,fun b sz st hk=>?_⟩;obtain⟨bn,ck,h4,h5,h6⟩:=h3 b sz st hk;obtain⟨q1,q2⟩:=OW (by simpa only [nh]using hb);exact⟨bn,ck,h4,mL hi q1 h5,mL hi q2 h6⟩
   |jf s p=>exact ho
   |loop st q fn t ps a b=>
    intro bk sz hy hk;obtain⟨L,h1,h2,h3,h4,h5,h6⟩:=ho bk sz hy hk;exact⟨L,h1,h2,h3,h4,mL hi (by simpa only [nh]using hb) h5,h6⟩
   |bK live=>exact ho
 ·intro n a hn;obtain⟨h1,vs,h2,h3⟩:=H.mo n a hn;exact⟨h1,vs,cM hl h1 h2,h3⟩
theorem Ext.reset{n:Nat}(hn:n<=i)(o:Ob):Ext n g h g (h.set i o):=by
 have h2:∀{j x},j<n->h[j]? =some x->(h.set i o)[j]? =some x:=fun{j x} hj hx=>by rw[dW (by omega)];exact hx
 exact⟨fun _ _ _ x=>x,fun _ _ x=>x,fun i vs hn hi=>⟨⟨_,h2 hn hi⟩,fun _ x=>x⟩,fun i es fl hn hi=>⟨⟨_,_,h2 hn hi⟩,fun _ x=>x⟩,fun i s p hn hi=>⟨⟨_,_,h2 hn hi⟩,fun _ x=>x⟩,
  fun i st j fn t ps a b hn hi=>⟨⟨_,_,h2 hn hi⟩,fun _ x=>x⟩,fun i l hn hi=>⟨⟨_,h2 hn hi⟩,fun _ x=>x⟩,
  fun i k E es gr fl sh hn hi=>⟨_,_,_,_,_,h2 hn hi,aT _,fun _ _ _ hk=>⟨hk,rfl,fun _ x=>x⟩⟩⟩
end
end Go.AM
