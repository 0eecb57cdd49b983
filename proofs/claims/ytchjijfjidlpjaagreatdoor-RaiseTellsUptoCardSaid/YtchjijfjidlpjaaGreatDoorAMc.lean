/- The abstract machine: each step of a frame that runs. -/
import Derived.Test.YtchjijfjidlpjaaGreatDoorAMb
import Derived.Orders
set_option linter.unusedSimpArgs false
set_option linter.unusedVariables false
namespace Go.AM
open Go.RowKit
section
variable{P:Program}{Γ:Nat->Option AV}{N:Env}{g0:G}{f0:FuncId}{cs0:List Frame}{g:G}{h:List Ob}{w:World}{f:Fr}{up:List Fr}{tmps:Array Value}{todo:List Item}{ds:List Deferred}{kd:CallKind}{ro:Option Nat}{fs:List Frame}
theorem Ky{o:Oper}{ao:AO}(hc:bL P o=some ao){t:List AV}(h1:∀k as,aA P Γ t h ao≠.bB k as)(h2:aA P Γ t h ao≠.bad):∀c,o.op≠.defer c:=by
 intro c hoc;unfold bL at hc;rw[hoc]at hc;simp only at hc
 split at hc
 ·simp only[al]at hc;subst hc;simp only[aA]at h1 h2
  split at h1
  ·exact h1 _ _ rfl
  ·rename_i hne
   split at h2
   ·rename_i h3;exact hne _ _ _ h3
   ·exact h2 rfl
 ·simp at hc
theorem Vo{sz:Nat}{p x:AV}{h':List Ob}(hs:uc h sz p x=some h'):h.length<=h'.length:=by
 revert hs
 simp only[uc]
 repeat' split
 all_goals (first
  |(intro hs;simp only[al]at hs;subst hs;simp)
  |(intro hs;simp at hs))
def qw(h:List Ob):R->Prop
 |.val _ h'|.skip h'=>h.length<=h'.length
 |_=>True
theorem TQ{k:Nat}{E:TypeId}{b:Nat}{x:AV}{ys:List AV}{fl:Bool}:qw h (fU h k E b x ys fl):=by
 simp only[fU]
 repeat' split
 all_goals simp [qw]
theorem IM:∀{ps ps':List (Nat×AV)}{h h':List Ob},nC h ps=some (ps',h')->h'.length=h.length
 |[],_,_,_,hp=>by simp only[nC,al,bH]at hp;rw[hp.2]
 |(i,v)::r,_,h,h',hp=>by
  simp only[nC]at hp
  split at hp
  ·split at hp
   ·rename_i h2;simp only[al,bH]at hp;obtain⟨_,rfl⟩:=hp;rw[IM h2,jL]
   ·simp at hp
  ·simp at hp
theorem V4{ty:TypeId}{name:String}{v:AV}{args:List AV}:qw h (mR P Γ h ty name v args):=by
 simp only[mR]
 repeat' split
 all_goals simp [qw]
theorem Mc{t:List AV}{o:AO}:qw h (aA P Γ t h o):=by
 cases o<;>simp only[aA]
 all_goals (repeat' split)
 all_goals first
  |exact TQ
  |exact V4
  |trivial
  |(simp[qw,jL];done)
  |(simp only[qw];exact Vo (by assumption))
  |(simp only[qw];have:=IM (by assumption);simp;omega)
theorem AU:V g h (.aL []) Go.undef:=by simp only[V,VL];exact⟨[],rfl,rfl⟩
theorem Ku:∀{ps:List Nat}{as t:List AV}{us:List Value}{tmps:Array Value},VL g h t tmps.toList->VL g h as us->as.length=ps.length->
 VL g h (kF t ps as) ((ps.zip us).foldl (fun(tmps:Array Value) (x:Nat×Value)=>tmps.setIfInBounds x.1 x.2) tmps).toList
 |[],_,_,_,_,ht,_,_=>by simpa[kF]using ht
 |p::ps,[],_,_,_,_,_,hl=>by simp at hl
 |p::ps,a::as,t,us,tmps,ht,ha,hl=>by
  simp only[VL]at ha;obtain⟨u,us',rfl,h1,h2⟩:=ha;simp only[kF,B_,sw];exact Ku (by rw[HI];exact oN p ht h1) h2 (by simpa using hl)
theorem WB{o:AG}{os:List AG}{k:List It}{ops:Array Oper}{i:Nat}{rest:List Nat}{k':List Item}
 (S:St P Γ N g0 f0 g h w f up tmps (.inRegion ops (i::rest)::k') ds kd ro fs)(hits:f.its=.ops (o::os)::k)(hmd:f.md=.run)(hw:dn f.t o.guard=some true):
 ∃m',Steps P (lone (aF f.fn tmps (.inRegion ops (i::rest)::k') ds kd ro) (fs++cs0) w) m'/\bn P Γ N g0 f0 cs0 (eX P f up h o os k (aA P Γ f.t h o.op)) m':=by
 have hI:=S.its;rw[hits]at hI;simp only[IR]at hI;obtain⟨hO,hk⟩:=hI
 cases hO with
 |cons h1 hO=>
 have hI2:IR P g h (.ops os::k) (.inRegion ops rest::k'):=⟨hO,hk⟩;obtain⟨op,hop,hcag⟩:=h1;obtain⟨hw1,hcop,hdst⟩:=xZ hcag S.t hw;have hs:eJ P Γ N g h w (⟨tmps,ds⟩:Act).eval op (aA P Γ f.t h o.op):=Kj (a:=⟨tmps,ds⟩) S.H S.t hcop
 have hnd:=fun x y=>Ky (Γ:=Γ) (h:=h) (t:=f.t) hcop x y
 revert hs hnd
 cases hr:aA P Γ f.t h o.op with
 |val v h'=>
  intro hs hnd;obtain⟨g',w',nx,h2,h3,h4,u,rfl,h6⟩:=hs
  have hlen:h.length<=h'.length:=by have:=Mc (P:=P) (Γ:=Γ) (h:=h) (t:=f.t) (o:=o.op);rw[hr]at this;exact this
  refine⟨_,.one (DX hop hw1 (Or.inr (hnd (by simp) (by simp))) h2),?_⟩;have S1:=S.mono h3 h4 hlen;rw[<-hdst];refine St.i_ (f:={f with its:=.ops os::k,t:=aW f.t o.dst v}) ⟨S1.H,S1.M,?_,mL S1.t h6,S1.ds,S1.kind,S1.is,S1.b,S1.z,S1.s⟩ (by rw[hmd];rfl);have:=S1.its;rw[hits]at this;exact⟨hO,this.2⟩
 |skip h'=>
  intro hs hnd;obtain⟨g',w',nx,h2,h3,h4,h6⟩:=hs;simp only at h6;subst h6
  have hlen:h.length<=h'.length:=by have:=Mc (P:=P) (Γ:=Γ) (h:=h) (t:=f.t) (o:=o.op);rw[hr]at this;exact this
  refine⟨_,.one (U7 hop hw1 (Or.inr (hnd (by simp) (by simp))) h2),?_⟩;have S1:=S.mono h3 h4 hlen;rw[<-hdst];refine St.i_ (f:={f with its:=.ops os::k,t:=aW f.t o.dst (.aL [])}) ⟨S1.H,S1.M,?_,mL S1.t AU,S1.ds,S1.kind,S1.is,S1.b,S1.z,S1.s⟩ (by rw[hmd];rfl);have:=S1.its;rw[hits]at this;exact⟨hO,this.2⟩
 |cM v=>
  intro hs hnd;obtain⟨u,h2,h3⟩:=hs;refine⟨_,.one (XE hop hw1 (Or.inr (hnd (by simp) (by simp))) h2),?_⟩;exact St.i_ (f:={f with md:=.cM v false}) ⟨S.H,S.M,S.its,S.t,S.ds,S.kind,S.is,S.b,S.z,S.s⟩ ⟨u,rfl,h3⟩
 |call c args=>
  intro hs hnd;simp only[eX]
  by_cases hb:aD P c=true
  ·rw[if_pos hb];obtain⟨us,h2,h3⟩:=hs hb;refine⟨_,.one (X9 hop hw1 (Or.inr (hnd (by simp) (by simp))) h2),?_⟩;exact⟨g,w,us.toArray,_::fs,rfl,S.H,S.M,h3,hb,S.sr (by rw[hmd];rfl),by simp⟩
  ·rw[if_neg hb];exact⟨_,.refl _ _,by trivial⟩
 |qI=>
  intro hs hnd;simp only[eX];have hk0:=S.kind
  have S0:∀v up' fs',V g h v (.nilIface)->up'=up->fs'=fs->True:=fun _ _ _ _ _ _=>trivial
  cases hkd:f.kind with
  |round l=>
   simp only[um,hkd];exact⟨_,.refl _ _,by trivial⟩
  |norm=>
   rw[hkd]at hk0;obtain⟨rfl,rfl⟩:=hk0;simp only[um,hkd];refine⟨_,.one (De hop hw1 hs (Or.inr ⟨by simp[tryRecover,aF],rfl,rfl⟩)),?_⟩;rw[<-hdst];exact St.i_ (f:=⟨f.md,f.fn,.ops os::k,aW f.t o.dst .dZ,f.ds,.norm,f.base⟩) ⟨S.H,S.M,hI2,mL S.t (by simp[V]),S.ds,⟨rfl,rfl⟩,S.is,S.b,fun e=>by have:=S.z e;exact⟨this.1,rfl⟩,S.s⟩ (by rw[hmd];rfl)
  |bB=>
   rw[hkd]at hk0;obtain⟨rfl,rfl⟩:=hk0;simp only[um,hkd]
   cases up with
   |nil=>have:=(S.z rfl).2;rw[hkd]at this;cases this
   |cons c rest2=>
    have hs0:=S.s;obtain⟨fr,fs',rfl,h1,h2,h3,h4,h5⟩:=hs0;simp only
    have hdone:∀(hno:tryRecover (aF f.fn tmps (.inRegion ops (i::rest)::k') ds .deferred none) (fr::fs'++cs0)=none),
     ∃m',Steps P (lone (aF f.fn tmps (.inRegion ops (i::rest)::k') ds .deferred none) (fr::fs'++cs0) w) m'/\
      bn P Γ N g0 f0 cs0 (.fr ⟨f.md,f.fn,.ops os::k,aW f.t o.dst .dZ,f.ds,.bB,f.base⟩ (c::rest2) h) m':=by
     intro hno;refine⟨_,.one (De hop hw1 hs (Or.inr ⟨hno,rfl,rfl⟩)),?_⟩;rw[<-hdst];exact St.i_ (f:=⟨f.md,f.fn,.ops os::k,aW f.t o.dst .dZ,f.ds,.bB,f.base⟩) ⟨S.H,S.M,hI2,mL S.t (by simp[V]),S.ds,⟨rfl,rfl⟩,S.is,S.b,fun e=>by simp at e,S.s⟩ (by rw[hmd];rfl)
    have hcm:=h1.md
    cases hm:c.md with
    |run=>
     rw[hm]at hcm;simp only[MR]at hcm;exact hdone (by simp[tryRecover,aF,hcm])
    |ret=>
     rw[hm]at hcm;simp only[MR]at hcm;exact hdone (by simp[tryRecover,aF,hcm])
    |cM v rc=>
     rw[hm]at hcm;simp only[MR]at hcm;obtain⟨u,hcm,hvu⟩:=hcm
     cases rc with
     |true=>exact hdone (by simp[tryRecover,aF,hcm])
     |false=>
      simp only;refine⟨_,.one (De hop hw1 hs (Or.inl (by simp only[tryRecover,aF,hcm,ek];rfl))),?_⟩;rw[<-hdst];refine St.i_ (f:=⟨f.md,f.fn,.ops os::k,aW f.t o.dst v,f.ds,.bB,f.base⟩) (fs:={fr with mode:=.panicking [{v:=u,recovered:=true}]}::fs') ⟨S.H,S.M,hI2,mL S.t hvu,S.ds,⟨rfl,rfl⟩,S.is,S.b,fun e=>by simp at e,?_⟩ (by rw[hmd];rfl);refine⟨_,fs',rfl,⟨⟨u,rfl,hvu⟩,h1.fn,h1.its,h1.t,h1.ds,h1.kind,h1.is⟩,?_,h3,h4,h5⟩;simp only[j3,hm,qx]at h2⊢;exact h2
 |bB c args=>
  intro hs hnd;obtain⟨d,h2,h3⟩:=hs;simp only[eX];have hk0:=S.kind
  cases hkd:f.kind with
  |round l=>exact⟨_,.refl _ _,by trivial⟩
  |norm=>
   rw[hkd]at hk0;obtain⟨rfl,rfl⟩:=hk0;refine⟨_,.one (Lw hop hw1 h2),?_⟩;rw[<-hdst];exact St.i_ (f:=⟨f.md,f.fn,.ops os::k,aW f.t o.dst (.aL []),.call c args::f.ds,.norm,f.base⟩) ⟨S.H,S.M,hI2,mL S.t AU,.cons h3 S.ds,⟨rfl,rfl⟩,S.is,S.b,fun e=>by have:=S.z e;rw[hkd]at this;exact this,S.s⟩ (by rw[hmd];rfl)
  |bB=>
   rw[hkd]at hk0;obtain⟨rfl,rfl⟩:=hk0;refine⟨_,.one (Lw hop hw1 h2),?_⟩;rw[<-hdst];exact St.i_ (f:=⟨f.md,f.fn,.ops os::k,aW f.t o.dst (.aL []),.call c args::f.ds,.bB,f.base⟩) ⟨S.H,S.M,hI2,mL S.t AU,.cons h3 S.ds,⟨rfl,rfl⟩,S.is,S.b,fun e=>by have:=S.z e;rw[hkd]at this;exact this,S.s⟩ (by rw[hmd];rfl)
 |yield l args=>
  intro hs hnd;obtain⟨b,us,h2,h3,h4⟩:=hs;simp only[eX];simp only[V]at h3;obtain⟨⟨st,pj,fn,t,ps,p,q,hi⟩,b',sz,hρ,hbb⟩:=h3;simp only[Value.func.injEq,Fn.yield.injEq]at hbb;obtain⟨rfl,_⟩:=hbb;simp only[hi]
  by_cases hal:args.length=ps.length
  ·rw[if_pos hal];obtain⟨L,hL1,hL2,hL3,hL4,hL5,hL6,hL7,hL8,hL9,_⟩:=v_ S.H hρ hi
   have hsz:us.toArray.size=L.params.size:=by
    have:=fe h4;simp only[pG,this,hal,<-hL6,uV]
   rw[run_yield hL1 hsz]at h2;refine⟨_,.one (YE hop hw1 (Or.inr (hnd (by simp) (by simp))) h2),?_⟩
   have S2:St P Γ N g0 f0 g h w {md:=.run,fn:=L.fn,its:=[.code p,.beginRound,.code q],t:=kF t ps args,ds:=[],kind:=.round l,base:=h.length} (f::up)
    ((L.params.zip us.toArray).foldl (fun tmps (t,a)=>tmps.setIfInBounds t a) L.tmps) [.code L.assign,.beginRound,.code L.body] [] .normal (some b)
    (aF f.fn tmps (.inRegion ops (i::rest)::k') ds kd ro::fs):=by
    refine⟨S.H,S.M,⟨hL7,hL8,trivial⟩,?_,.nil,⟨rfl,b,rfl,⟨_,_,_,_,_,_,_,hi⟩,sz,hρ⟩,by rw[hL4];exact hL9,aU _,by simp,S.sr (by rw[hmd];rfl)⟩;have:=Ku (us:=us) (tmps:=L.tmps) hL5 h4 hal;rw[<-hL6]at this⊢;rw[<-B8,Array.toList_zip];exact this
   subst hL4;exact S2.i_ (md:=.run) rfl
  ·rw[if_neg hal];exact⟨_,.refl _ _,by trivial⟩
 |either=>intro _ _;exact⟨_,.refl _ _,S.i_ (by rw[hmd];rfl)⟩
 |bad=>intro _ _;exact⟨_,.refl _ _,by trivial⟩
end
section
variable{P:Program}{Γ:Nat->Option AV}{N:Env}{g0:G}{f0:FuncId}{cs0:List Frame}{g:G}{h:List Ob}{w:World}{f:Fr}{up:List Fr}{tmps:Array Value}{todo:List Item}{ds:List Deferred}{kd:CallKind}{ro:Option Nat}{fs:List Frame}
theorem St.go(S:St P Γ N g0 f0 g h w f up tmps todo ds kd ro fs)(hmd:f.md=.run){its:List It}{todo':List Item}{t:List AV}{tmps':Array Value}(h1:IR P g h its todo')(h2:VL g h t tmps'.toList):
 bn P Γ N g0 f0 cs0 (.fr {f with its:=its,t:=t} up h) (lone (aF f.fn tmps' todo' ds kd ro) (fs++cs0) w):=
 St.i_ (f:={f with its:=its,t:=t}) ⟨S.H,S.M,h1,h2,S.ds,S.kind,S.is,S.b,S.z,S.s⟩ (by rw[hmd];rfl)
theorem IF{x:Operand}{gg:FuncId}{us vs:List Value}{l:Nat}{a:Act}(hx:a.eval x=.func (.func gg) us.toArray vs.toArray)(hb:aD P gg=true)(w:World):
 ((do let d<-resolve a.eval {callee:=.value x,args:=#[.const (.func (.yield l) #[] #[])],argTypes:=#[]} 0;invoke d.target d.args):Sem Next).run P w=.ok (.enter gg (us++.func (.yield l) #[] #[]::vs).toArray) w:=by
 simp only[resolve,Sem.run_bind,hx,Deferred.ofValue,Sem.run_pure,Result.andThen_ok,invoke,xX hb];congr 2;apply gp;simp[Act.eval]
theorem Sm(S:St P Γ N g0 f0 g h w f up tmps todo ds kd ro fs)(hmd:f.md=.run){x:AX}{ps:List Nat}{m:List Bool}{a b:an}{k:List It}(hits:f.its=.code (.rangeFunc x ps m a b)::k):
 ∃m',Steps P (lone (aF f.fn tmps todo ds kd ro) (fs++cs0) w) m'/\bn P Γ N g0 f0 cs0 (gz P Γ f up h (.code (.rangeFunc x ps m a b)::k)) m':=by
 have hI:=S.its;obtain⟨fmd,ffn,fits,ft,fds,fk,fb⟩:=f;simp only at hits hmd hI;subst hits hmd
 cases todo with
 |nil=>simp only[IR]at hI
 |cons im k'=>
 cases im<;>simp only[IR]at hI
 rename_i c;obtain⟨hC,hk⟩:=hI
 cases c<;>simp only[CR]at hC
 rename_i fx qs ca cb;obtain⟨rfl,rfl,hCa,hCb⟩:=hC;have hx:=AS (a:=⟨tmps,ds⟩) S.t fx;simp only[gz]
 split
 ·rename_i gg fs' cs' hv;rw[hv]at hx;simp only[V]at hx;obtain⟨us,vs,hxe,h1,h2⟩:=hx
  by_cases hb:aD P gg=true
  ·rw[if_neg (by simp[hb])];have hk0:=S.kind
   cases fk with
   |round l=>
    obtain⟨rfl,b0,rfl,hL⟩:=hk0;obtain⟨⟨st,pj,fn,t,ps',p,q,hi⟩,sz,hρ⟩:=hL;obtain⟨L,hL1,_⟩:=v_ S.H hρ hi;obtain⟨g',H',x',hLR⟩:=Kb S.H L.defers (oF m S.t) hCa hCb S.is;have S1:=S.mono H' x' (by simp);refine⟨_,.one (K0 (run_enterLoop_inner hL1 ffn tmps qs ca cb) (IF hxe hb _)),?_⟩;have hI3:IR P g' (h++[.loop .ready .none ffn (cW m ft) qs.toList a b]) (.iE h.length::k) (.inRangeFunc w.heap.size::k'):=⟨hLR,jP x' (kE hk) hk⟩;refine⟨g',_,_,_::fs,rfl,H',S1.M,?_,hb,St.sr (f:=⟨_,ffn,.iE h.length::k,ft,fds,_,fb⟩) (ds:=[]++ds) ⟨S1.H,S1.M,hI3,S1.t,S1.ds,(by have:=S1.kind;exact this),S1.is,S1.b,S1.z,S1.s⟩ rfl,by simp⟩;refine jN (b_ x' (cV h1) h1) ?_;simp only[VL];exact⟨_,_,rfl,NP hLR,b_ x' (cV h2) h2⟩
   |norm|bB=>
    obtain⟨rfl,rfl⟩:=hk0;obtain⟨g1,H1,x1,hD⟩:=Xn S.H;have S1:=S.mono H1 x1 (by simp);obtain⟨g',H',x',hLR⟩:=Kb S1.H w.heap.size (oF m S1.t) hCa hCb S1.is;have S2:=S1.mono H' x' (by simp);have hxx:Ext h.length g h g' _:=x1.trans (x'.mono (by simp));have hD':DR g' _ (.mark h.length) _:=EM x' (by simp) hD;refine⟨_,.one (K0 (run_enterLoop_outer ffn tmps qs ca cb) (IF hxe hb _)),?_⟩;simp only[c8,ek,lg,bp,bC,cN]at H' x' hLR S2 hxx hD';have hI3:IR P g' (h++[.bB true,.loop .ready .none ffn (cW m ft) qs.toList a b]) (.iE (h.length+1)::k) (.inRangeFunc (w.heap.size+1)::k'):=⟨by simpa using hLR,jP hxx (kE hk) hk⟩
    refine⟨g',_,_,_::fs,rfl,H',S2.M,?_,hb,St.sr (f:=⟨_,ffn,.iE (h.length+1)::k,ft,.mark h.length::fds,_,fb⟩) ⟨S2.H,S2.M,hI3,S2.t,.cons hD' S2.ds,(by have:=S2.kind;exact this),S2.is,S2.b,S2.z,S2.s⟩ rfl,by simp⟩;refine jN (b_ hxx (cV h1) h1) ?_;simp only[VL];refine⟨_,_,rfl,?_,b_ hxx (cV h2) h2⟩;have:=NP hLR;simpa using this
  ·rw[if_pos (by simpa using hb)];exact⟨_,.refl _ _,by trivial⟩
 ·exact⟨_,.refl _ _,by trivial⟩
theorem Ww(S:St P Γ N g0 f0 g h w f up tmps todo ds kd ro fs)(hmd:f.md=.run):
 ∃m',Steps P (lone (aF f.fn tmps todo ds kd ro) (fs++cs0) w) m'/\bn P Γ N g0 f0 cs0 (gz P Γ f up h f.its) m':=by
 have hI:=S.its
 cases hits:f.its with
 |nil=>
  rw[hits]at hI
  cases todo with
  |nil=>simp only[gz];exact CS S rfl
  |cons im k'=>simp only[IR]at hI
 |cons it k=>
  rw[hits]at hI
  cases todo with
  |nil=>cases it<;>simp only[IR]at hI
  |cons im k'=>
  cases it with
  |code a=>
   cases im<;>simp only[IR]at hI
   rename_i c;obtain⟨hC,hk⟩:=hI
   cases a with
   |skip=>
    cases c<;>simp only[CR]at hC
    ·exact⟨_,.one Zs,S.go hmd hk S.t⟩
    ·exact⟨_,.one Yf,S.go hmd hk S.t⟩
   |ae gs=>
    cases c<;>try (simp only[CR]at hC;done)
    rename_i id ops draw
    cases draw<;>simp only[CR]at hC
    ·exact⟨_,.one Wi,S.go hmd (its:=.ops gs::k) ⟨aab hC,hk⟩ S.t⟩
   |aR l ws gs=>exact⟨_,.refl _ _,by trivial⟩
   |eH as gs=>exact⟨_,.refl _ _,by trivial⟩
   |seq a b=>
    cases c<;>simp only[CR]at hC
    exact⟨_,.one aaG,S.go hmd (its:=.code a::.code b::k) ⟨hC.1,hC.2,hk⟩ S.t⟩
   |cond x a b=>
    cases c<;>simp only[CR]at hC
    rename_i y ca cb;obtain⟨rfl,hCa,hCb⟩:=hC;have hx:=AS (a:=⟨tmps,ds⟩) S.t y;simp only[gz]
    split
    ·rename_i v hv;rw[hv]at hx;refine⟨_,.one (Y9 (kD hx)),S.go hmd (its:=.code (if v then a else b)::k) ⟨?_,hk⟩ S.t⟩
     cases v
     ·exact hCb
     ·exact hCa
    ·exact⟨_,.refl _ _,by trivial⟩
   |block id m a=>
    cases c<;>simp only[CR]at hC
    obtain⟨rfl,hC⟩:=hC;exact⟨_,.one YN,S.go hmd (its:=.code a::.inBlock _ m::k) ⟨hC,rfl,hk⟩ S.t⟩
   |loop m a=>
    cases c<;>simp only[CR]at hC
    exact⟨_,.one aaf,S.go hmd (its:=.code a::.inLoop m a::k) ⟨hC,hC,hk⟩ (oF m S.t)⟩
   |rangeFunc x ps m a b=>exact Sm S hmd hits
   |exit id=>
    cases c<;>simp only[CR]at hC
    subst hC;rename_i id;have he:=pW (id:=id) hk;simp only[gz]
    split
    ·rename_i q m hq;rw[hq]at he;obtain⟨q',hq',hIq⟩:=he;exact⟨_,.one (ZM hq'),S.go hmd hIq (oF m S.t)⟩
    ·rename_i hq;rw[hq]at he;exact CS S ⟨k',rfl,he⟩
   |ret=>
    cases c<;>simp only[CR]at hC
    simp only[gz];exact CS S ⟨k',rfl⟩
   |bad=>exact⟨_,.refl _ _,by trivial⟩
  |inBlock i m=>
   cases im<;>simp only[IR]at hI
   exact⟨_,.one VA,S.go hmd hI.2 (oF m S.t)⟩
  |inLoop m a=>
   cases im<;>simp only[IR]at hI
   exact⟨_,.one WA,S.go hmd (its:=.code a::.inLoop m a::k) ⟨hI.1,hI.1,hI.2⟩ (oF m S.t)⟩
  |ops os=>
   cases im<;>simp only[IR]at hI
   rename_i ops todo
   cases os with
   |nil=>
    cases hI.1
    exact⟨_,.one Te,S.go hmd hI.2 S.t⟩
   |cons o os=>
    cases todo with
    |nil=>cases hI.1
    |cons i rest=>
     simp only[gz]
     split
     ·rename_i hw;exact WB S hits hmd hw
     ·rename_i hw
      cases hI.1 with
      |cons h1 hO=>
      obtain⟨op,hop,hcag⟩:=h1;obtain⟨hw1,hcop,hdst⟩:=xZ hcag S.t hw;refine⟨_,.one (V_ hop hw1),?_⟩;rw[<-hdst];exact S.go hmd (its:=.ops os::k) ⟨hO,hI.2⟩ (mL S.t AU)
     ·exact⟨_,.refl _ _,by trivial⟩
  |iE l=>exact⟨_,.refl _ _,by trivial⟩
  |tz l=>
   cases im<;>simp only[IR]at hI
   rename_i b;obtain⟨⟨hl,sz,hρ⟩,hk⟩:=hI;simp only[gz]
   split
   ·rename_i st j fn t ps p q hi;obtain⟨L,hL1,hL2,hL3,hL4,hL5,hL6,hL7,hL8,hL9,hset⟩:=v_ S.H hρ hi
    by_cases hst:st=.busy
    ·rw[if_pos hst];exact⟨_,.refl _ _,by trivial⟩
    ·rw[if_neg hst];obtain⟨H',x⟩:=hset .exhausted j L.pending hL3;have S1:=S.mono H' x (by simp);have hk1:=jP x (kE hk) hk;refine⟨_,.one (TU (run_endLoop hL1 (by rw[hL2];exact hst))),S1.go hmd ?_ S1.t⟩
     cases j with
     |none=>simp only[JR]at hL3;rw[hL3];exact hk1
     |ret=>simp only[JR]at hL3;rw[hL3];exact⟨trivial,hk1⟩
     |exit id=>simp only[JR]at hL3;rw[hL3];exact⟨rfl,hk1⟩
   ·exact⟨_,.refl _ _,by trivial⟩
  |beginRound=>
   cases im<;>simp only[IR]at hI
   simp only[gz]
   split
   ·rename_i l hkd;have hk0:=S.kind;rw[hkd]at hk0;obtain⟨rfl,b,rfl,hl,sz,hρ⟩:=hk0
    split
    ·rename_i j fn t ps p q hi;obtain⟨L,hL1,hL2,hL3,hL4,hL5,hL6,hL7,hL8,hL9,hset⟩:=v_ S.H hρ hi;obtain⟨H',x⟩:=hset .busy j L.pending hL3;have S1:=S.mono H' x (by simp);have hk1:=jP x (kE hI) hI;exact⟨_,.one (SE (run_beginRound hL1 hL2)),S1.go hmd hk1 S1.t⟩
    ·exact⟨_,.refl _ _,by trivial⟩
   ·exact⟨_,.refl _ _,by trivial⟩
end
section
variable{P:Program}{Γ:Nat->Option AV}{N:Env}{g0:G}{f0:FuncId}{cs0:List Frame}{g:G}{h:List Ob}{w:World}{f:Fr}{up:List Fr}{tmps:Array Value}{todo:List Item}{ds:List Deferred}{kd:CallKind}{ro:Option Nat}{fs:List Frame}
theorem Tf(H:Inv P Γ N g h w){t:List AV}(ht:VL g h t tmps.toList){r:ResultVar}{a:pq}(hc:nT P r=some a){v:AV}(hv:tU Γ t h a=some v):
 ∃u,(match r with|.tmp t=>pure (tmps.getD t undef)|.cell a t=>do loadVar t (<-asAddr (tmps.getD a undef)):Sem Value).run P w=.ok u w/\V g h v u:=by
 cases r with
 |tmp i=>
  simp only[nT,al]at hc;subst hc;simp only[tU,al]at hv;subst hv;exact⟨_,rfl,by have:=rK i ht;simpa using this⟩
 |cell i ty=>
  simp only[nT,pI]at hc
  cases ha:fB P ty with
  |none=>simp[ha]at hc
  |some ag=>
   cases hs:bm P ty with
   |none=>simp[ha,hs]at hc
   |some sz=>
    simp[ha,hs]at hc;subst hc;simp only[tU]at hv;have hp:=rK i ht;obtain⟨ad,u,h1,h2,h3⟩:=CQ H ha hs hp hv;refine⟨u,?_,h3⟩
    have h4:tmps.getD i undef=.pointer (some ad):=by rw[<-h1];simp
    have has:(asAddr (.pointer (some ad))).run P w=.ok ad w:=rfl;simp only[h4,Sem.run_bind,has,Result.andThen_ok,h2]
theorem Il(H:Inv P Γ N g h w){t:List AV}(ht:VL g h t tmps.toList):∀{rs:List ResultVar}{as:List pq},rs.mapM (nT P)=some as->∀{vs:List AV},rD Γ t h as=some vs->
 ∃us,(rs.mapM (m:=Sem) fun|.tmp t=>pure (tmps.getD t undef)|.cell a t=>do loadVar t (<-asAddr (tmps.getD a undef))).run P w=.ok us w/\VL g h vs us
 |[],as,hc,vs,hv=>by
  simp at hc;subst hc
  simp only[rD,al]at hv;subst hv;exact⟨[],by simp,by simp[VL]⟩
 |r::rs,as,hc,vs,hv=>by
  rw[sy]at hc
  cases ha:nT P r with
  |none=>simp[ha]at hc
  |some a=>
   cases hl:rs.mapM (nT P)with
   |none=>simp[ha,hl]at hc
   |some as'=>
    simp[ha,hl]at hc;subst hc;simp only[rD]at hv
    split at hv
    ·rename_i v vs' h1 h2;simp only[al]at hv;subst hv;obtain⟨u,h3,h4⟩:=Tf H ht ha h1;obtain⟨us,h5,h6⟩:=Il H ht hl h2;refine⟨u::us,?_,by simp only[VL];exact⟨_,_,rfl,h4,h6⟩⟩;simp only[sy,Sem.run_bind,h3,h5,Result.andThen_ok,Sem.run_pure]
    ·simp at hv
theorem SV(H:Inv P Γ N g h w){t:List AV}(ht:VL g h t tmps.toList){fn:Func}{as:List pq}(hc:fn.results.toList.mapM (nT P)=some as){v:AV}(hv:zL Γ t h as=some v):
 ∃u,(results fn tmps).run P w=.ok u w/\V g h v u:=by
 unfold zL at hv
 cases hl:rD Γ t h as with
 |none=>simp[hl]at hv
 |some vs=>
  obtain⟨us,h1,h2⟩:=Il H ht hc hl;rw[hl]at hv
  have h3:∀x,(if hx:us.toArray.size=1 then us.toArray[0]else .tuple us.toArray)=x->(results fn tmps).run P w=.ok x w:=by
   intro x hx;subst hx;simp only[results,Array.mapM_eq_mapM_toList,Sem.run_bind,Sem.run_map,Sem.run_pure];exact congrArg (fun(r:Result (List Value))=>(r.andThen fun a w'=>Result.ok a.toArray w').andThen fun a w'=>Result.ok (if h:a.size=1 then a[0]else Value.tuple a) w') h1
  cases vs with
  |nil=>
   simp only[al]at hv;subst hv;simp only[VL]at h2;subst h2;exact⟨_,h3 _ rfl,by simp only[V,VL];exact⟨[],rfl,rfl⟩⟩
  |cons a vs=>
   cases vs with
   |nil=>
    simp only[al]at hv;subst hv;simp only[VL]at h2;obtain⟨u,_,rfl,h4,rfl⟩:=h2;exact⟨u,h3 _ rfl,h4⟩
   |cons b vs=>
    simp only[al]at hv;subst hv;have hlen:=fe h2;refine⟨.tuple us.toArray,h3 _ ?_,by simp only[V];exact⟨us,rfl,h2⟩⟩;rw[dif_neg (by simp[hlen])]
theorem Ka{c:FuncId}{F:aM}(hc:aH P c=some F):∃fn b,P.funcs[c]? =some fn/\fn.body=some b/\CR P b F.body/\F.nt=fn.ntmps/\fn.results.toList.mapM (nT P)=some F.res:=by
 simp only[aH,pI]at hc
 cases hf:P.funcs[c]? with
 |none=>simp[hf]at hc
 |some fn=>
  cases hb:fn.body with
  |none=>simp[hf,hb]at hc
  |some b=>
   cases hr:fn.results.toList.mapM (nT P)with
   |none=>simp[hf,hb,hr]at hc
   |some rs=>
    simp[hf,hb,hr]at hc;subst hc;exact⟨fn,b,rfl,hb,oD P _ _ _ _ _ _ (oC P b),rfl,hr⟩
theorem Z_{as:List AV}{us:Array Value}{n:Nat}(h1:VL g h as us.toList):VL g h (as++List.replicate (n-as.length) .undef) (us++Array.replicate (n-us.size) undef).toList:=by
 have:=fe h1;simp only[uV]at this;rw[Array.toList_append,Array.toList_replicate,this];exact jN h1 (Ly _ _ (by simp))
theorem VU{c:FuncId}{fn:Func}{b:Code}(hf:P.funcs[c]? =some fn)(hb:fn.body=some b)(us:Array Value)(k:CallKind):
 Frame.enter P c us k=aF c (us++Array.replicate (fn.ntmps-us.size) undef) [.code b] [] k none:=by
 simp[Frame.enter,aF,hf,hb]
theorem K1(H:Inv P Γ N g h w)(hM:∀b o v,g0.M b o=some v->g.M b o=some v){c:FuncId}{F:aM}(hc:aH P c=some F){as:List AV}{us:Array Value}(ha:VL g h as us.toList){kind:FK}{k:CallKind}(hk:KR g h kind k none)
 (hz:up=[]->c=f0/\kind=.norm)(hs:SR P g h f0 h.length up fs):bn P Γ N g0 f0 cs0 (.fr (enter c F as kind h) up h) (lone (Frame.enter P c us k) (fs++cs0) w):=by
 obtain⟨fn,b,hf,hb,hC,hn,_⟩:=Ka hc;rw[VU hf hb];have hI:IR P g h [.code F.body] [.code b]:=⟨hC,trivial⟩;refine St.i_ (f:=enter c F as kind h) ⟨H,hM,hI,?_,.nil,hk,⟨fn,hf⟩,aU _,hz,hs⟩ rfl;simp only[enter,hn];exact Z_ ha
theorem JN(S:St P Γ N g0 f0 g h w f up tmps todo ds kd ro fs){md:FrameMode}(hm:MR g h f.md md)(hne:f.md≠.run):
 ∃m',Steps P (lone (aF f.fn tmps todo ds kd ro md) (fs++cs0) w) m'/\bn P Γ N g0 f0 cs0 (mE P Γ f up h) m':=by
 obtain⟨fmd,ffn,fits,ft,fds,fk,fb⟩:=f;simp only at hm hne
 have hmd:md≠.run:=by
  cases fmd<;>simp only[MR]at hm
  ·exact absurd rfl hne
  ·rw[hm];simp
  ·obtain⟨_,hm,_⟩:=hm;rw[hm];simp
 have hds:=S.ds;simp only at hds
 cases hds with
 |cons h1 h2=>
  rename_i d d' fds ds
  cases d with
  |mark i=>
   simp only[mE]
   split
   ·rename_i hi;obtain⟨_,b,sz,hρ,rfl⟩:=h1;have hb:=S.H.ob i _ hi b sz 0 hρ;simp only[bY]at hb;have hk:sameKind (.bB true) (.bB false):=trivial;have hE:=Ext.tA (g:=g) hi hk
    have H':Inv P Γ N g (h.set i (.bB false)) (w.putObj b (.deferred none)):=Inv.wK S.H hi hρ hk (by
     intro b' sz' st'' hb';rw[hρ]at hb';simp only[al,bH]at hb';obtain⟨rfl,_⟩:=hb'
     exact vF _ (S.H.own i b _ hρ).2)
    have S1:=S.mono H' hE (by simp);refine⟨_,.one (ZY hmd (run_takeDeferred hb)),?_⟩;have hd1:=S1.ds
    cases hd1 with
    |cons _ hd2=>
    refine St.i_ (f:=⟨fmd,ffn,fits,ft,fds,fk,fb⟩) ⟨S1.H,S1.M,S1.its,S1.t,hd2,S1.kind,S1.is,S1.b,S1.z,S1.s⟩ (MI hE ?_ hm)
    cases fmd<;>simp only[MR,qx]at hm⊢
    obtain⟨_,_,hm⟩:=hm;exact jU hm
   ·exact⟨_,.refl _ _,by trivial⟩
  |call c args=>
   simp only[mE]
   by_cases hb:aD P c=true
   ·rw[if_neg (by simp[hb])]
    split
    ·rename_i F hF;obtain⟨cap,ht,ha⟩:=h1
     have hinv:(invoke d'.target d'.args).run P w=.ok (.enter c (d'.args++cap)) w:=by
      rw[ht];simp only[invoke,xX hb]
     refine⟨_,.one (ZT hmd (by rw[ht];simp) (by rw[ht];simp) hinv),?_⟩;refine K1 (up:=⟨fmd,ffn,fits,ft,fds,fk,fb⟩::up) (fs:=aF ffn tmps todo ds kd ro md::fs) S.H S.M hF ha (kind:=.bB) ⟨rfl,rfl⟩ (by simp) ?_;exact St.sr (f:=⟨fmd,ffn,fits,ft,fds,fk,fb⟩) ⟨S.H,S.M,S.its,S.t,h2,S.kind,S.is,S.b,S.z,S.s⟩ hm
    ·exact⟨_,.refl _ _,by trivial⟩
   ·rw[if_pos (by simpa using hb)];exact⟨_,.refl _ _,by trivial⟩
 |nil=>
  simp only[mE];obtain⟨fn,hfn⟩:=S.is;simp only at hfn
  cases fmd with
  |run=>exact absurd rfl hne
  |cM v rc=>
   cases rc with
   |true=>exact⟨_,.refl _ _,by trivial⟩
   |false=>
    simp only[MR]at hm;obtain⟨u,rfl,hvu⟩:=hm;simp only[dU,cE]
    cases up with
    |nil=>
     have hs:=S.s;simp only[SR]at hs;subst hs;exact⟨_,.refl _ _,g,w,u,_,rfl,S.H,S.M,hvu,(S.z rfl).1,rfl,rfl,fn,hfn⟩
    |cons c up=>
     have hs:=S.s;obtain⟨fr,fs',rfl,h1,h2,h3,h4,h5⟩:=hs;refine⟨_,.one (Xe hfn),g,w,u,fr,fs',rfl,S.H,S.M,hvu,?_⟩;exact fJ (Ext.refl _ _ _) S.b ⟨fr,fs',rfl,h1,h2,h3,h4,h5⟩
  |ret=>
   simp only[MR]at hm;subst hm;simp only
   split
   ·rename_i F hF
    split
    ·rename_i v hv;obtain⟨fn',b,hf',hb,hC,hn,hres⟩:=Ka hF;obtain⟨u,h1,h2⟩:=SV S.H S.t hres hv;have hk0:=S.kind
     cases fk with
     |norm=>
      obtain⟨rfl,rfl⟩:=hk0
      cases up with
      |nil=>
       have hs:=S.s;simp only[SR]at hs;subst hs;exact⟨_,.refl _ _,g,w,u,_,rfl,S.H,S.M,h2,(S.z rfl).1,rfl,rfl,rfl,fn',hf',h1⟩
      |cons c up=>
       have hs:=S.s;obtain⟨fr,fs',rfl,h3,h4,h5,h6,h7⟩:=hs;refine⟨_,.one (VD hf' h1),Ek S.H S.M h2 ?_⟩;exact fJ (Ext.refl _ _ _) S.b ⟨fr,fs',rfl,h3,h4,h5,h6,h7⟩
     |bB=>
      obtain⟨rfl,rfl⟩:=hk0
      cases up with
      |nil=>exact⟨_,.refl _ _,by trivial⟩
      |cons c up=>
       have hs:=S.s;have hsr:SR P g h f0 h.length (c::up) fs:=fJ (Ext.refl _ _ _) S.b hs;obtain⟨fr,fs',rfl,h3,h4,h5,h6,h7⟩:=hsr;simp only;have hcm:=h3.md;obtain⟨cmd,cfn,cits,ct,cds,ck,cb⟩:=c
       cases cmd with
       |run=>exact⟨_,.refl _ _,by trivial⟩
       |ret=>
        simp only[MR]at hcm;exact⟨_,.one (DK hf' h1 (Or.inr ⟨Or.inl hcm,rfl⟩)),g,w,_,fs',rfl,S.H,S.M,fr,fs',rfl,h3,h4,h5,h6,h7⟩
       |cM v2 rc=>
        simp only[MR]at hcm;obtain⟨u2,hcm,hvu⟩:=hcm
        cases rc with
        |false=>exact⟨_,.one (DK hf' h1 (Or.inr ⟨Or.inr ⟨_,hcm⟩,rfl⟩)),g,w,_,fs',rfl,S.H,S.M,fr,fs',rfl,h3,h4,h5,h6,h7⟩
        |true=>
         refine⟨_,.one (DK hf' h1 (Or.inl ⟨_,hcm,rfl⟩)),g,w,_,fs',rfl,S.H,S.M,_,fs',rfl,⟨rfl,h3.fn,h3.its,h3.t,h3.ds,h3.kind,h3.is⟩,?_,h5,h6,h7⟩;simp only[j3,qx,aC]at h4⊢;exact⟨h4.1,trivial⟩
     |round l=>exact⟨_,.refl _ _,by trivial⟩
    ·exact⟨_,.refl _ _,by trivial⟩
   ·exact⟨_,.refl _ _,by trivial⟩
theorem Tj{c c':Fr}{v:AV}{u:Value}{fr:Frame}(hf:c.finish v=some c')(hr:jY P g h c fr)(hv:V g h v u):jY P g h c' (fr.finish u)/\c'.base=c.base/\c'.fn=c.fn/\c'.kind=c.kind:=by
 obtain⟨cmd,cfn,cits,ct,cds,ck,cb⟩:=c;obtain⟨fn,tmps,todo,ds,md,kd,ro⟩:=fr;obtain⟨r1,r2,r3,r4,r5,r6,r7⟩:=hr;simp only at r1 r2 r3 r4 r5 r6 r7;subst r2;unfold Fr.finish at hf;simp only at hf
 split at hf
 ·rename_i o os k;simp only[al]at hf;subst hf
  cases todo with
  |nil=>simp only[IR]at r3
  |cons im k'=>
  cases im<;>simp only[IR]at r3
  rename_i ops todo;obtain⟨r31,r32⟩:=r3
  cases r31 with
  |cons h1 hO=>
  rename_i i rest;obtain⟨op,hop,hcag⟩:=h1
  have hdst:o.dst=op.dst:=by
   unfold nb at hcag
   cases hg:Aq ops.toList op with
   |none=>simp[hg]at hcag
   |some gd=>
    cases hcop:bL P op with
    |none=>simp[hg,hcop]at hcag
    |some ao=>simp[hg,hcop]at hcag;rw[<-hcag]
  have hfin:({fn:=fn,tmps:=tmps,todo:=.inRegion ops (i::rest)::k',defers:=ds,mode:=md,kind:=kd,roundOf:=ro}:Frame).finish u=
   {fn:=fn,tmps:=kS tmps op.dst u,todo:=.inRegion ops rest::k',defers:=ds,mode:=md,kind:=kd,roundOf:=ro}:=by
   simp only[Frame.finish,kS,hop,jb]
   cases op.dst<;>rfl
  rw[hfin];refine⟨⟨r1,rfl,⟨hO,r32⟩,?_,r5,r6,r7⟩,rfl,rfl,rfl⟩;rw[<-hdst];exact mL r4 hv
 ·rename_i l k;simp only[al]at hf;subst hf
  cases todo with
  |nil=>simp only[IR]at r3
  |cons im k'=>
  cases im<;>simp only[IR]at r3
  exact⟨⟨r1,rfl,r3,r4,r5,r6,r7⟩,rfl,rfl,rfl⟩
 ·simp at hf
theorem UX{c:aw}{m:Machine}(hs:bn P Γ N g0 f0 cs0 c m):∃m',Steps P m m'/\bn P Γ N g0 f0 cs0 (eO P Γ c) m':=by
 cases c with
 |fr f up h=>
  obtain⟨g,w,tmps,todo,ds,kd,ro,md,fs,rfl,S,hm⟩:=hs.inv
  cases hmd:f.md with
  |run=>
   rw[hmd]at hm;simp only[MR]at hm;subst hm;simp only[eO,hmd];exact Ww S hmd
  |ret=>simp only[eO,hmd];exact JN S hm (by rw[hmd];simp)
  |cM v rc=>simp only[eO,hmd];exact JN S hm (by rw[hmd];simp)
 |cl c args up h=>
  obtain⟨g,w,vs,fs,rfl,H,hM,ha,hb,hsr,hz⟩:=hs;simp only[eO]
  split
  ·rename_i F hF;exact⟨_,.refl _ _,K1 H hM hF ha ⟨rfl,rfl⟩ (fun e=>⟨hz e,rfl⟩) hsr⟩
  ·exact⟨_,.refl _ _,by trivial⟩
 |back up v h=>
  cases up with
  |nil=>exact⟨_,.refl _ _,hs⟩
  |cons c up=>
   obtain⟨g,w,u,fr,fs,rfl,H,hM,hv,hsr⟩:=hs;simp only[eO]
   split
   ·rename_i c' hf;obtain⟨fr',fs',heq,h1,h2,h3,h4,h5⟩:=hsr
    cases heq
    obtain⟨r1,r2,r3,r4⟩:=Tj hf h1 hv;exact⟨_,.refl _ _,g,w,_,fs,rfl,H,hM,_,fs,rfl,r1,oB r1,by rw[r2];exact h3,by rw[r3,r4];exact h4,by rw[r2];exact h5⟩
   ·exact⟨_,.refl _ _,by trivial⟩
 |die up v h=>
  cases up with
  |nil=>exact⟨_,.refl _ _,hs⟩
  |cons c up=>
   obtain⟨g,w,u,fr,fs,rfl,H,hM,hv,hsr⟩:=hs;simp only[eO];obtain⟨cmd,cfn,cits,ct,cds,ck,cb⟩:=c
   cases cmd with
   |run=>
    obtain⟨fr',fs',heq,h1,h2,h3,h4,h5⟩:=hsr
    cases heq
    have hm:=h1.md;simp only[MR]at hm
    have hfr:fr.raise [{v:=u,recovered:=false}]={fr with mode:=.panicking [{v:=u,recovered:=false}]}:=by
     simp only[Frame.raise,hm]
    rw[hfr];have hR:jY P g h ⟨.cM v false,cfn,cits,ct,cds,ck,cb⟩ {fr with mode:=.panicking [{v:=u,recovered:=false}]}:=⟨⟨u,rfl,hv⟩,h1.fn,h1.its,h1.t,h1.ds,h1.kind,h1.is⟩;exact⟨_,.refl _ _,g,w,_,fs,rfl,H,hM,_,fs,rfl,hR,oB hR,h3,h4,h5⟩
   |ret=>exact⟨_,.refl _ _,by trivial⟩
   |cM v2 rc=>exact⟨_,.refl _ _,by trivial⟩
 |bad=>exact⟨_,.refl _ _,by trivial⟩
end
def o5:AV->Bool
 |.own _ _ es=>aO 0 es
 |a=>aJ 0 a
def oU:List AV->Bool
 |[]=>true
 |a::as=>o5 a&&oU as
def rU:AV->Bool
 |.aL vs=>oU vs
 |a=>o5 a
def aN(P:Program)(Γ:Nat->Option AV)(f:FuncId)(as:List AV)(r:AV):Prop:=
 aD P f=true/\(aO 0 as=true->∀(N:Env)(g:G)(h:List Ob)(w:World)(us:List Value),Inv P Γ N g h w->VL g h as us->
  Calls P f us.toArray w fun e w'=>∃u g',e=.returned u/\rU r=true/\Inv P Γ N g' (h++(dc h.length r).2) w'/\V g' (h++(dc h.length r).2) (dc h.length r).1 u/\(∀i,i<h.length->g'.ρ i=g.ρ i)/\
   (∀b o v,g.M b o=some v->g'.M b o=some v)/\(∀b,b<w.heap.size->w'.heap[b]? =w.heap[b]?))
theorem Ext.app{g g':G}{h:List Ob}(os:List Ob)(hρ:∀i,i<h.length->g'.ρ i=g.ρ i)(hM:∀b o v,g.M b o=some v->g'.M b o=some v)(hMM:g'.MM=g.MM):Ext h.length g h g' (h++os):=by
 have hget:∀{i x},h[i]? =some x->(h++os)[i]? =some x:=fun{i x} hx=>by rw[dk (bj hx)];exact hx
 have hρ':∀{i},i<h.length->∀x,g.ρ i=some x->g'.ρ i=some x:=fun hi x hx=>by rw[hρ _ hi];exact hx
 exact⟨hM,fun _ _ x=>by rw[hMM];exact x,fun i vs hn hi=>⟨⟨_,hget hi⟩,hρ' hn⟩,fun i es fl hn hi=>⟨⟨_,_,hget hi⟩,hρ' hn⟩,fun i s p hn hi=>⟨⟨_,_,hget hi⟩,hρ' hn⟩,
  fun i st j fn t ps a b hn hi=>⟨⟨_,_,hget hi⟩,hρ' hn⟩,fun i l hn hi=>⟨⟨_,hget hi⟩,hρ' hn⟩,
  fun i k E es gr fl sh hn hi=>⟨_,_,_,_,_,hget hi,aU _,fun _ _ _ hk=>⟨hk,rfl,hρ' hn⟩⟩⟩
mutual
theorem rW{g g':G}{h h':List Ob}:∀{a:AV}{v:Value},aJ 0 a=true->dH a=true->V g h a v->V g' h' a v
 |.undef,_,_,_,_=>by simp[V]
 |.bool _,_,_,_,hv=>by simpa only [V]using hv
 |.int _ _,_,_,_,hv=>by simpa only [V]using hv
 |.str _,_,_,_,hv=>by simpa only [V]using hv
 |.iq,_,_,_,hv=>by simpa only [V]using hv
 |.eu,_,_,_,hv=>by simpa only [V]using hv
 |.ei,_,_,_,hv=>by simpa only [V]using hv
 |.dZ,_,_,_,hv=>by simpa only [V]using hv
 |.dF _ _,_,_,_,hv=>by simpa only [V]using hv
 |.list full k es,v,_,hn,hv=>by
  simp only[dH,List.isEmpty_iff]at hn;subst hn;simp only[V]at hv⊢;obtain⟨hk,a,cap,rfl,hf,hc,_⟩:=hv;exact⟨hk,a,cap,rfl,hf,hc,Or.inl (by simp)⟩
 |.own _ _ _,_,_,_,hv=>by simp only[V]at hv
 |.sl _ _ _,_,hb,_,_|.ptr _ _,_,hb,_,_|.mp _,_,hb,_,_|.it _,_,hb,_,_|.dA _,_,hb,_,_=>by simp[aJ]at hb
 |.cL a _ _ _,_,hb,hn,hv=>by
  simp only[V]at hv⊢;simp only[aJ]at hb;simp only[dH]at hn;obtain⟨u,b,o,h1,h2,h4,rfl⟩:=hv;exact⟨u,b,o,rW hb hn h1,h2,h4,rfl⟩
 |.de _ _,_,_,hn,_=>by simp[dH]at hn
 |.agg cs,_,hb,hn,hv=>by
  simp only[V]at hv⊢;simp only[aJ]at hb;simp only[dH]at hn;obtain⟨vs,rfl,h1⟩:=hv;exact⟨vs,rfl,wk hb hn h1⟩
 |.aL cs,_,hb,hn,hv=>by
  simp only[V]at hv⊢;simp only[aJ]at hb;simp only[dH]at hn;obtain⟨vs,rfl,h1⟩:=hv;exact⟨vs,rfl,wk hb hn h1⟩
 |.fn f a b,_,hb,hn,hv=>by
  simp only[V]at hv⊢;simp only[aJ,aC]at hb;simp only[dH,aC]at hn;obtain⟨xs,ys,rfl,h1,h2⟩:=hv;exact⟨xs,ys,rfl,wk hb.1 hn.1 h1,wk hb.2 hn.2 h2⟩
 |.bX t a,_,hb,hn,hv=>by
  simp only[V]at hv⊢;simp only[aJ]at hb;simp only[dH]at hn;obtain⟨y,rfl,h1⟩:=hv;exact⟨y,rfl,rW hb hn h1⟩
theorem wk{g g':G}{h h':List Ob}:∀{as:List AV}{vs:List Value},aO 0 as=true->eh as=true->VL g h as vs->VL g' h' as vs
 |[],_,_,_,hv=>by simpa only [VL]using hv
 |a::as,_,hb,hn,hv=>by
  simp only[VL]at hv⊢;simp only[aO,aC]at hb;simp only[eh,aC]at hn;obtain⟨v,vs',rfl,h1,h2⟩:=hv;exact⟨v,vs',rfl,rW hb.1 hn.1 h1,wk hb.2 hn.2 h2⟩
end
theorem Nf{g g':G}{h h':List Ob}:∀{as:List AV}{vs:List Value},aO 0 as=true->eh as=true->VE g h as vs->VE g' h' as vs
 |[],_,_,_,hv=>by simpa only [VE]using hv
 |a::as,_,hb,hn,hv=>by
  simp only[VE]at hv⊢;simp only[aO,aC]at hb;simp only[eh,aC]at hn;obtain⟨v,vs',h1,rfl,h2⟩:=hv;exact⟨v,vs',rW hb.1 hn.1 h1,rfl,Nf hb.2 hn.2 h2⟩
theorem Ko(n:Nat)(a:AV):∀o∈(dW n a).2,∃k E es,o=.row k E es none true false:=by
 cases a<;>simp[dW]
theorem Ja:∀(as:List AV)(n:Nat),∀o∈(bP n as).2,∃k E es,o=.row k E es none true false
 |[],_=>by simp[bP]
 |a::as,n=>by
  simp only[bP,ba]
  rintro o (h|h)
  ·exact Ko n a o h
  ·exact Ja as _ o h
theorem VB(n:Nat)(a:AV):∀o∈(dc n a).2,∃k E es,o=.row k E es none true false:=by
 cases a
 case aL vs=>exact Ja vs n
 all_goals exact Ko n _
theorem KD(n:Nat){a:AV}(hn:dH a=true):∀k E es g fl sh,Ob.row k E es g fl sh∈(dW n a).2->eh es=true:=by
 intro k E es g fl sh h
 cases a<;>simp[dW]at h
 obtain⟨_,_,rfl,_⟩:=h;simpa only [dH]using hn
theorem Jp:∀{as:List AV}(n:Nat),eh as=true->∀k E es g fl sh,Ob.row k E es g fl sh∈(bP n as).2->eh es=true
 |[],_,_=>by simp[bP]
 |a::as,n,hn=>by
  simp only[eh,aC]at hn;simp only[bP,ba]
  rintro k E es g fl sh (h|h)
  ·exact KD n hn.1 _ _ _ _ _ _ h
  ·exact Jp _ hn.2 _ _ _ _ _ _ h
theorem U5(n:Nat){a:AV}(hn:dH a=true):∀k E es g fl sh,Ob.row k E es g fl sh∈(dc n a).2->eh es=true:=by
 cases a
 case aL vs=>exact Jp n (by simpa only [dH]using hn)
 all_goals exact KD n hn
section
variable{P:Program}{Γ:Nat->Option AV}{N:Env}{g:G}{h:List Ob}{w:World}
theorem ZK{g g':G}{h h':List Ob}{n off:Nat}{u:Value}{i:Nat}(hv:V g h (.sl i off n) u)(hi:h'[i]? =h[i]?)(hρ:g'.ρ i=g.ρ i):V g' h' (.sl i off n) u:=by
 simp only[V]at hv⊢;obtain⟨k,E,es,gr,fl,sh,h1,h2⟩:=hv;refine⟨k,E,es,gr,fl,sh,by rw[hi];exact h1,?_⟩;rw[hρ];exact h2
theorem MQ{g g':G}{h1 h os:List Ob}(hl:h1.length=h.length)(hρ:g'.ρ=g.ρ){n:Nat}(hn:h.length<=n){a:AV}(hm:dH a=true)(ht:o5 a=true){u:Value}(hv:V g (h1++os) (dW n a).1 u):V g' (h++os) (dW n a).1 u:=by
 by_cases ho:∃k E es,a=.own k E es
 ·obtain⟨k,E,es,rfl⟩:=ho;simp only[dW]at hv⊢;refine ZK hv ?_ (by rw[hρ]);rw[e_ (by omega),e_ (by omega),hl]
 ·have h2:(dW n a).1=a:=by cases a<;>first|rfl|exact absurd ⟨_,_,_,rfl⟩ ho
  have h3:o5 a=aJ 0 a:=by cases a<;>first|rfl|exact absurd ⟨_,_,_,rfl⟩ ho
  rw[h2]at hv⊢;rw[h3]at ht;exact rW ht hm hv
theorem LH{g g':G}{h1 h os:List Ob}(hl:h1.length=h.length)(hρ:g'.ρ=g.ρ):∀{as:List AV}{n:Nat}(_:h.length<=n)(_:eh as=true)(_:oU as=true){us:List Value},VL g (h1++os) (bP n as).1 us->VL g' (h++os) (bP n as).1 us
 |[],_,_,_,_,_,hv=>by simpa only [bP,VL]using hv
 |a::as,n,hn,hm,ht,us,hv=>by
  simp only[eh,aC]at hm;simp only[oU,aC]at ht;simp only[bP,VL]at hv⊢;obtain⟨u,us',rfl,h2,h3⟩:=hv;exact⟨u,us',rfl,MQ hl hρ hn hm.1 ht.1 h2,LH hl hρ (by omega) hm.2 ht.2 h3⟩
theorem Yl{g g':G}{h1 h os:List Ob}(hl:h1.length=h.length)(hρ:g'.ρ=g.ρ){a:AV}(hm:dH a=true)(ht:rU a=true){u:Value}(hv:V g (h1++os) (dc h.length a).1 u):V g' (h++os) (dc h.length a).1 u:=by
 by_cases ho:∃vs,a=.aL vs
 ·obtain⟨vs,rfl⟩:=ho;simp only[dc,V]at hv⊢;obtain⟨us,rfl,h2⟩:=hv;exact⟨us,rfl,LH hl hρ (aU _) (by simpa only [dH]using hm) (by simpa only [rU]using ht) h2⟩
 ·have h2:dc h.length a=dW h.length a:=by cases a<;>first|rfl|exact absurd ⟨_,rfl⟩ ho
  have h3:rU a=o5 a:=by cases a<;>first|rfl|exact absurd ⟨_,rfl⟩ ho
  rw[h2]at hv⊢;rw[h3]at ht;exact MQ hl hρ (aU _) hm ht hv
theorem Inv.MC(H:Inv P Γ N g h w){g':G}{h1 os:List Ob}{w':World}(hl:h1.length=h.length)(hρ:∀i,i<h.length->g'.ρ i=g.ρ i)(H':Inv P Γ N g' (h1++os) w')(hM:∀b o v,g.M b o=some v->g'.M b o=some v)
 (hw:∀b,b<w.heap.size->w'.heap[b]? =w.heap[b]?)(hos:∀o∈os,∃k E es,o=.row k E es none true false/\eh es=true):
 Inv P Γ N {ρ:=g'.ρ,M:=g.M,MM:=g.MM} (h++os) w'/\Ext h.length g h {ρ:=g'.ρ,M:=g.M,MM:=g.MM} (h++os):=by
 have hE:Ext h.length g h {ρ:=g'.ρ,M:=g.M,MM:=g.MM} (h++os):=Ext.app os hρ (fun _ _ _ x=>x) rfl;refine⟨⟨H'.os,H'.tape,H'.output,H'.eG,H'.own,H'.inj,?_,?_,?_,?_,?_,?_,H.mK,H.iz,H.km⟩,hE⟩
 ·intro i hi;refine H'.n7 i ?_;rw[bp]at hi⊢;omega
 ·intro b o v hv;have h0:=H.mem b o v hv;rw[sX (hw b (uQ h0))];exact h0
 ·intro b es ck hb;refine H'.mm b es ck ?_;rw[H'.iz,<-H.iz];exact hb
 ·intro i b sz st o v hi hv
  by_cases hil:i<h.length
  ·simp only at hi;rw[hρ i hil]at hi;obtain⟨k,E,es,gr,fl,h3,h4⟩:=H.dX i b sz st o v hi hv;exact⟨k,E,es,gr,fl,by rw[dk hil];exact h3,h4⟩
  ·obtain⟨k,E,es,gr,fl,h3,h4⟩:=H'.dX i b sz st o v hi (hM _ _ _ hv);rw[e_ (by omega)]at h3;obtain⟨_,_,_,h5,_⟩:=hos _ (fQ h3)
   cases h5
 ·intro i o hi
  by_cases hil:i<h.length
  ·rw[dk hil]at hi;exact mF hE (hρ i hil) (fun b y hb=>hw b (H.own i b y hb).2) (H.ob i o hi)
  ·rw[e_ (by omega)]at hi;have h2:=H'.ob i o (by rw[e_ (by omega),hl];exact hi);obtain⟨k,E,es,rfl,hn⟩:=hos o (fQ hi);simp only[OV]at h2⊢;obtain⟨h3,h4,h5,h6,h7⟩:=h2;refine⟨h3,h4,h5,h6,?_⟩
   cases hr:g'.ρ i with
   |none=>rw[hr]at h7;exact h7
   |some x=>
    rw[hr]at h7;obtain⟨b,sz,st⟩:=x;simp only at h7⊢;obtain⟨h8,c,E',fz,vs,h9,h10,h11,h12,h13⟩:=h7;refine⟨h8,c,E',fz,vs,h9,h10,h11,?_,h13⟩;simp only[sB,dV]at h12⊢;exact Nf (h_ (h5 (by trivial))) hn h12
 ·intro n a hn;obtain⟨h2,vs,h3,h4⟩:=H.j5 n a hn;exact⟨h2,vs,b_ hE (cV h3) h3,h4⟩
theorem UO{g0:G}{f0:FuncId}{cs0:List Frame}{c:FuncId}{args as:List AV}{r:AV}{up:List Fr}{m:Machine}(hP:aN P Γ c as r)(hv:bK h args=some as)(hs:bn P Γ N g0 f0 cs0 (.cl c args up h) m):
 ∃m',Steps P m m'/\bn P Γ N g0 f0 cs0 (.back up (dc h.length r).1 (dx h args r)) m':=by
 obtain⟨g,w,vs,fs,rfl,H,hM,ha,hb,hsr,hz⟩:=hs;obtain⟨g1,hρ1,hMM1,hM1,H1,x1,hc1⟩:=nr (bF args) H;have hV1:=rG H x1 hc1 ha hv;have hbel:=rr H ha hv;have hlen:=jL (bF args) h;obtain⟨e,w',fr,hR,hsteps,hfn,hleave⟩:=hP.2 hbel N g1 (share (bF args) h) w vs.toList H1 hV1 (fs++cs0);obtain⟨u,g',rfl,hT,H',hV',hρ',hM',hw'⟩:=hR
 ·rw[hlen]at H' hV' hρ'
  have hρ2:∀i,i<h.length->g'.ρ i=g.ρ i:=fun i hi=>by rw[hρ' i hi,hρ1]
  obtain⟨g2,H2,x2,hV2⟩:∃g2,Inv P Γ N g2 (dx h args r) w'/\Ext h.length g h g2 (dx h args r)/\V g2 (dx h args r) (dc h.length r).1 u:=by
   unfold dx
   by_cases hn:dH r=true
   ·rw[if_pos hn]
    obtain⟨H2,x2⟩:=Inv.MC H hlen hρ2 H' (fun b o v hv=>hM' _ _ _ (hM1 _ _ _ hv)) hw' (by
     intro o ho;obtain⟨k,E,es,rfl⟩:=VB _ _ o ho
     exact⟨k,E,es,rfl,U5 _ hn _ _ _ _ _ _ ho⟩)
    exact⟨_,H2,x2,Yl (g:=g') (g':={ρ:=g'.ρ,M:=g.M,MM:=g.MM}) hlen rfl hn hT hV'⟩
   ·rw[if_neg hn];refine⟨g',H',?_,hV'⟩;refine x1.trans ?_;have:=Ext.app (g:=g1) (g':=g') (h:=share (bF args) h) (dc h.length r).2 (by rw[hlen];exact hρ') hM' (by rw[H'.iz,H1.iz]);rwa[hlen]at this
  have hlen2:h.length<=(dx h args r).length:=by
   unfold dx
   split<;>simp[hlen]
  have hM2:∀b o v,g0.M b o=some v->g2.M b o=some v:=fun b o v hv=>x2.M _ _ _ (hM _ _ _ hv)
  have hsteps':Steps P (lone (Frame.enter P c vs .normal) (fs++cs0) w) (lone fr (fs++cs0) w'):=hsteps
  cases up with
  |nil=>
   simp only[SR]at hsr;subst hsr;exact⟨_,hsteps',g2,w',u,fr,rfl,H2,hM2,hV2,by rw[hfn];exact hz rfl,hleave⟩
  |cons d up=>
   obtain⟨fr',fs',rfl,h3⟩:=hsr;refine⟨_,hsteps'.trans (.one (step_leave_returned hleave)),Ek H2 hM2 hV2 ?_⟩;exact fJ x2 hlen2 ⟨fr',fs',rfl,h3⟩
def kH(P:Program)(Γ:Nat->Option AV)(f:FuncId)(as:List AV)(v:AV):Prop:=
 aD P f=true/\aJ 0 v=true/\dH v=true/\(aO 0 as=true->∀(N:Env)(g:G)(h:List Ob)(w:World)(us:List Value),Inv P Γ N g h w->VL g h as us->
  Calls P f us.toArray w fun e w'=>∃u g',e=.panicked [{v:=u,recovered:=false}]/\Inv P Γ N g' h w'/\V g' h v u/\(∀i,i<h.length->g'.ρ i=g.ρ i)/\
   (∀b o v,g.M b o=some v->g'.M b o=some v)/\(∀b,b<w.heap.size->w'.heap[b]? =w.heap[b]?))
theorem Wt{g0:G}{f0:FuncId}{cs0:List Frame}{c:FuncId}{args as:List AV}{v:AV}{up:List Fr}{m:Machine}(hP:kH P Γ c as v)(hv:bK h args=some as)(hs:bn P Γ N g0 f0 cs0 (.cl c args up h) m):
 ∃m',Steps P m m'/\bn P Γ N g0 f0 cs0 (.die up v h) m':=by
 obtain⟨g,w,vs,fs,rfl,H,hM,ha,hb,hsr,hz⟩:=hs;obtain⟨g1,hρ1,hMM1,hM1,H1,x1,hc1⟩:=nr (bF args) H;have hV1:=rG H x1 hc1 ha hv;have hbel:=rr H ha hv;have hlen:=jL (bF args) h;obtain⟨_,hbv,hnv,hP⟩:=hP;obtain⟨e,w',fr,hR,hsteps,hfn,hleave⟩:=hP hbel N g1 (share (bF args) h) w vs.toList H1 hV1 (fs++cs0);obtain⟨u,g',rfl,H',hV',hρ',hM',hw'⟩:=hR;rw[hlen]at hρ'
 have hρ2:∀i,i<h.length->g'.ρ i=g.ρ i:=fun i hi=>by rw[hρ' i hi,hρ1]
 obtain⟨H2,x2⟩:=Inv.MC (os:=[]) H hlen hρ2 (by simpa using H') (fun b o v hv=>hM' _ _ _ (hM1 _ _ _ hv)) hw' (by simp);rw[eL]at H2 x2;have hV2:=rW (g':={ρ:=g'.ρ,M:=g.M,MM:=g.MM}) (h':=h) hbv hnv hV';have hM2:∀b o v,g0.M b o=some v->g.M b o=some v:=hM;have hsteps':Steps P (lone (Frame.enter P c vs .normal) (fs++cs0) w) (lone fr (fs++cs0) w'):=hsteps
 cases up with
 |nil=>
  simp only[SR]at hsr;subst hsr;exact⟨_,hsteps',_,w',u,fr,rfl,H2,hM2,hV2,by rw[hfn];exact hz rfl,hleave⟩
 |cons d up=>
  obtain⟨fr',fs',rfl,h3⟩:=hsr;exact⟨_,hsteps'.trans (.one (step_leave_panicked hleave)),_,w',u,fr',fs',rfl,H2,hM2,hV2,fJ x2 (aU _) ⟨fr',fs',rfl,h3⟩⟩
end
section
variable{P:Program}{Γ:Nat->Option AV}
theorem fI{t t':List AV}{x:AX}(h:∀s∈dM x,t.getD s .undef=t'.getD s .undef):ax t x=ax t' x:=by
 cases x<;>simp only[ax]
 exact h _ (by simp[dM])
theorem rj{t t':List AV}{d:Nat}{x:Option AX}(h:∀s∈(x.map dM).getD [],t.getD s .undef=t'.getD s .undef):bound t d x=bound t' d x:=by
 cases x with
 |none=>rfl
 |some x=>
  simp only[bound];rw[fI (x:=x) (by simpa using h)]
theorem ra{t t':List AV}{xs:List AX}(h:∀s∈xs.flatMap dM,t.getD s .undef=t'.getD s .undef):xs.map (ax t)=xs.map (ax t'):=
 pK fun x hx=>fI fun s hs=>h s (od.2 ⟨x,hx,hs⟩)
theorem VP{t t':List AV}{h:List Ob}{o:AO}(hs:∀s∈jQ o,t.getD s .undef=t'.getD s .undef):aA P Γ t h o=aA P Γ t' h o:=by
 cases o
 case build z ps=>
  have:(ps.map fun p=>(p.1,p.2.1,ax t p.2.2))=ps.map fun p=>(p.1,p.2.1,ax t' p.2.2):=
   pK fun x hx=>by rw[fI fun s h=>hs s (od.2 ⟨x,hx,h⟩)]
  simp only[aA,this]
 case lit k zs ps=>
  have:(ps.map fun p=>(p.1,ax t p.2))=ps.map fun p=>(p.1,ax t' p.2):=
   pK fun x hx=>by rw[fI fun s h=>hs s (od.2 ⟨x,hx,h⟩)]
  simp only[aA,this]
 case jl f a b=>
  simp only[jQ,ba]at hs;simp only[aA,ra fun s h=>hs s (Or.inl h),ra fun s h=>hs s (Or.inr h)]
 case min xs=>simp only[aA,ra (xs:=xs) hs]
 case max xs=>simp only[aA,ra (xs:=xs) hs]
 case call f xs=>
  simp only[jQ,ba]at hs;simp only[aA,fI fun s h=>hs s (Or.inl h),ra fun s h=>hs s (Or.inr h)]
 case defer f xs=>
  simp only[jQ,ba]at hs;simp only[aA,fI fun s h=>hs s (Or.inl h),ra fun s h=>hs s (Or.inr h)]
 case invoke x nm xs=>
  simp only[jQ,ba]at hs;simp only[aA,fI fun s h=>hs s (Or.inl h),ra fun s h=>hs s (Or.inr h)]
 case zO x lo hi=>
  simp only[jQ,ba]at hs
  have e2:=fun d=>rj (d:=d) fun s h=>hs s (Or.inl (Or.inr h))
  have e3:=fun d=>rj (d:=d) fun s h=>hs s (Or.inr h)
  simp only[aA,fI fun s h=>hs s (Or.inl (Or.inl h)),e2,e3]
 case slice k x lo hi=>
  simp only[jQ,ba]at hs
  have e2:=fun d=>rj (d:=d) fun s h=>hs s (Or.inl (Or.inr h))
  have e3:=fun d=>rj (d:=d) fun s h=>hs s (Or.inr h)
  simp only[aA,fI fun s h=>hs s (Or.inl (Or.inl h)),e2,e3]
 case slice3 k x lo hi mx=>
  simp only[jQ,ba]at hs
  have e1:ax t x=ax t' x:=fI fun s h=>hs s (Or.inl (Or.inl (Or.inl h)))
  have e2:=fun d=>rj (d:=d) fun s h=>hs s (Or.inl (Or.inl (Or.inr h)))
  have e3:ax t hi=ax t' hi:=fI fun s h=>hs s (Or.inl (Or.inr h))
  have e4:ax t mx=ax t' mx:=fI fun s h=>hs s (Or.inr h)
  have e5:=fun d=>rj (t:=t) (t':=t') (d:=d) (x:=some hi) fun s h=>hs s (Or.inl (Or.inr (by simpa using h)))
  have e6:=fun d=>rj (t:=t) (t':=t') (d:=d) (x:=some mx) fun s h=>hs s (Or.inr (by simpa using h))
  simp only[aA,e1,e2,e3,e4,e5,e6]
 case pick c a b=>
  simp only[jQ,ba]at hs
  have e1:ax t c=ax t' c:=fI fun s h=>hs s (Or.inl (Or.inl h))
  have e2:ax t a=ax t' a:=fI fun s h=>hs s (Or.inl (Or.inr h))
  have e3:ax t b=ax t' b:=fI fun s h=>hs s (Or.inr h)
  simp only[aA,e1,e2,e3]
 case bA e c a b=>
  simp only[jQ,ba]at hs
  have e1:ax t c=ax t' c:=fI fun s h=>hs s (Or.inl (Or.inl h))
  have e2:ax t a=ax t' a:=fI fun s h=>hs s (Or.inl (Or.inr h))
  have e3:ax t b=ax t' b:=fI fun s h=>hs s (Or.inr h)
  simp only[aA,e1,e2,e3]
 all_goals first
  |rfl
  |(simp only[jQ]at hs;simp only[aA,fI hs];done)
  |(simp only[jQ,ba]at hs
    simp only[aA,fI fun s h=>hs s (Or.inl h),fI fun s h=>hs s (Or.inr h)];done)
theorem Ti{t t':List AV}{gd:Option (Nat×Bool)}(hs:∀s∈(gd.map fun x=>[x.1]).getD [],t.getD s .undef=t'.getD s .undef):dn t gd=dn t' gd:=by
 cases gd with
 |none=>rfl
 |some x=>
  obtain⟨j,b⟩:=x;simp only[dn];rw[hs j (by simp)]
def R.on(h:List Ob):R->R
 |.val v _=>.val v h
 |.skip _=>.skip h
 |r=>r
theorem Xf{t:List AV}{o:AO}(h0:cU o=0)(h h2:List Ob):aA P Γ t h2 o=(aA P Γ t h o).on h2:=by
 cases o<;>simp only[cU,reduceCtorEq]at h0<;>simp only[aA]
 all_goals (repeat' split)
 all_goals first
  |rfl
  |simp_all [R.on]
theorem JW{t:List AV}{o:AO}(h1:cU o=1){h h':List Ob}{v:AV}:(aA P Γ t h o=.val v h'->h'=h)/\(aA P Γ t h o≠.skip h')/\∀f as,aA P Γ t h o≠.call f as:=by
 cases o<;>simp[cU]at h1<;>simp only[aA]
 all_goals (repeat' split)
 all_goals simp
 all_goals (intros;simp_all)
end
section
variable{P:Program}{Γ:Nat->Option AV}
def qd(P:Program)(Γ:Nat->Option AV)(obls:List fG)(o:AG)(t:List AV)(h:List Ob)(v:AV)(h':List Ob):Prop:=
 (dn t o.guard=some false/\v=.aL []/\h'=h)\/
 (dn t o.guard=some true/\(aA P Γ t h o.op=.val v h'\/(aA P Γ t h o.op=.skip h'/\v=.aL [])\/∃f as,(aA P Γ t h o.op).BU=some (f,as)/\f.ok P=true/\⟨f,as,h,v,h'⟩∈obls))
theorem qd.mono{obls obls':List fG}{o:AG}{t:List AV}{h h':List Ob}{v:AV}(hs:∀x∈obls,x∈obls'):qd P Γ obls o t h v h'->qd P Γ obls' o t h v h':=by
 rintro(h1|⟨h1,h2|h2|⟨f,as,h2,h3,h4⟩⟩)
 ·exact Or.inl h1
 ·exact Or.inr ⟨h1,Or.inl h2⟩
 ·exact Or.inr ⟨h1,Or.inr (Or.inl h2)⟩
 ·exact Or.inr ⟨h1,Or.inr (Or.inr ⟨f,as,h2,h3,hs _ h4⟩)⟩
theorem zu{t:List AV}{o:AO}(h2:cU o≠2){h h':List Ob}{v:AV}:(aA P Γ t h o=.val v h'->h'=h)/\(aA P Γ t h o=.skip h'->h'=h)/\∀f as,aA P Γ t h o≠.call f as:=by
 cases o<;>simp[cU]at h2<;>simp only[aA]
 all_goals (repeat' split)
 all_goals simp
 all_goals (intros;simp_all)
theorem C9{t:List AV}{o:AO}(h2:cU o≠2){h:List Ob}:(aA P Γ t h o).BU=none:=by
 cases o<;>simp[cU]at h2<;>simp only[aA]
 all_goals (repeat' split)
 all_goals simp [R.BU]
def qn(P:Program)(Γ:Nat->Option AV)(obls:List fG)(hs hs0:List (List Ob))(l:Bool)(o:AG)(t t':List AV)(h h':List Ob)(v:AV):Prop:=
 t'=aW t o.dst v/\qd P Γ obls o t h v h'/\(ja l o.op≠2->h'=h)/\(h'∈hs\/h'=h)/\
  (l=true->ja l o.op=1->dn t o.guard=some true->∀g∈hs0,aA P Γ t g o.op=.val v g\/∃f as,aA P Γ t g o.op=.call f as/\aD P f=true/\⟨.fn f,as,g,v,g⟩∈obls)
theorem qn.mono{obls obls':List fG}{hs hs' hs0:List (List Ob)}{l:Bool}{o:AG}{t t':List AV}{h h':List Ob}{v:AV}(h1:∀x∈obls,x∈obls')(h2:∀x∈hs,x∈hs')(hk:qn P Γ obls hs hs0 l o t t' h h' v):
 qn P Γ obls' hs' hs0 l o t t' h h' v:=⟨hk.1,hk.2.1.mono h1,hk.2.2.1,hk.2.2.2.1.imp (h2 _) id,fun a b c g hg=>(hk.2.2.2.2 a b c g hg).imp id fun⟨f,as,e1,e2,e3⟩=>⟨f,as,e1,e2,h1 _ e3⟩⟩
theorem shift{ops:List AG}{o:AG}{t:List AV}{h:List Ob}{obls:List fG}{hs HS:List (List Ob)}{l:List Bool}{ws:List Nat}{t1 t':List AV}{h1 h':List Ob}{v0:AV}(hk0:qn P Γ obls (h1::hs) (HS.take (ws.headD 0)) (l.getD 0 true) o t t1 h h1 v0)
 (hr:∃(T:Nat->List AV)(H:Nat->List Ob)(v:Nat->AV),T 0=t1/\H 0=h1/\T ops.length=t'/\H ops.length=h'/\(∀c,c<=ops.length->(h1::hs)[c]? =some (H c))/\∀i x,ops[i]? =some x->qn P Γ obls hs (HS.take (ws.tail.getD i 0)) (l.tail.getD i true) x (T i) (T (i+1)) (H i) (H (i+1)) (v i)):
 ∃(T:Nat->List AV)(H:Nat->List Ob)(v:Nat->AV),T 0=t/\H 0=h/\T (o::ops).length=t'/\H (o::ops).length=h'/\(∀c,c<=(o::ops).length->(h::h1::hs)[c]? =some (H c))/\∀i x,(o::ops)[i]? =some x->qn P Γ obls (h1::hs) (HS.take (ws.getD i 0)) (l.getD i true) x (T i) (T (i+1)) (H i) (H (i+1)) (v i):=by
 obtain⟨T,H,v,h2,h3,h4,h5,h5c,h6⟩:=hr;refine⟨fun i=>match i with|0=>t|i+1=>T i,fun i=>match i with|0=>h|i+1=>H i,fun i=>match i with|0=>v0|i+1=>v i,rfl,rfl,h4,h5,?_,?_⟩
 ·intro c hc
  cases c with
  |zero=>rfl
  |succ c=>simpa using h5c c (by simpa using hc)
 ·intro i x hx
  cases i with
  |zero=>
   simp at hx;subst hx;simp only[h2,h3]
   have hw:ws.getD 0 0=ws.headD 0:=by cases ws<;>rfl
   rw[hw];exact hk0
  |succ i=>
   have:=h6 i x (by simpa using hx)
   have hl:l.tail.getD i true=l.getD (i+1) true:=by cases l<;>simp
   have hw:ws.tail.getD i 0=ws.getD (i+1) 0:=by cases ws<;>simp
   rw[hl,hw]at this;exact this.mono (fun _ h=>h) (fun _ h=>dm _ h)
theorem JM{t:List AV}{o:AO}(hc:fh o=true){h h':List Ob}{v:AV}:aA P Γ t h o≠.val v h'/\aA P Γ t h o≠.skip h':=by
 cases o<;>simp[fh]at hc<;>simp only[aA,mR]
 all_goals constructor
 all_goals (repeat' split)
 all_goals simp
theorem Vl{t:List AV}{o:AO}{h:List Ob}{f:FuncId}{as:List AV}(ha:aA P Γ t h o=.call f as):fh o=true:=by
 by_cases h2:cU o=2
 ·cases hq:fh o with
  |true=>rfl
  |false=>
   exfalso
   revert ha
   cases o<;>simp[cU]at h2<;>simp[fh]at hq<;>simp only[aA,fU]
   all_goals (repeat' split)
   all_goals simp
 ·exact absurd ha ((zu (v:=.undef) (h':=[]) h2).2.2 _ _)
theorem WT{t:List AV}{o:AO}{h:List Ob}{l:Nat}{as:List AV}(ha:aA P Γ t h o=.yield l as):fh o=true:=by
 by_cases h2:cU o=2
 ·cases hq:fh o with
  |true=>rfl
  |false=>
   exfalso
   revert ha
   cases o<;>simp[cU]at h2<;>simp[fh]at hq<;>simp only[aA,fU]
   all_goals (repeat' split)
   all_goals simp
 ·have:=C9 (P:=P) (Γ:=Γ) (t:=t) (h:=h) h2;rw[ha]at this
  cases this
theorem qg{q:Bool}{o:AO}(h:fh o=false):ja q o=cU o:=by simp[ja,h]
theorem tI{HS:List (List Ob)}{obls0:List fG}:∀{ops:List AG}{orc:List (AV×List Ob)}{l:List Bool}{ws:List Nat}{t:List AV}{h:List Ob}{t':List AV}{h':List Ob}{obls:List fG}{hs:List (List Ob)},
 ga P Γ orc ops t h=some (t',h',obls,hs)->(∀x∈obls,x∈obls0)->calm P Γ obls0 HS l ws orc ops t h->
 ∃(T:Nat->List AV)(H:Nat->List Ob)(v:Nat->AV),T 0=t/\H 0=h/\T ops.length=t'/\H ops.length=h'/\(∀c,c<=ops.length->(h::hs)[c]? =some (H c))/\∀i x,ops[i]? =some x->qn P Γ obls0 hs (HS.take (ws.getD i 0)) (l.getD i true) x (T i) (T (i+1)) (H i) (H (i+1)) (v i)
 |[],orc,l,ws,t,h,t',h',obls,hs,hr,hob,hc=>by
  simp only[ga,al,bH]at hr;obtain⟨rfl,rfl,rfl,rfl⟩:=hr;refine⟨fun _=>t,fun _=>h,fun _=>.undef,rfl,rfl,rfl,rfl,fun c hc=>?_,by simp⟩
  have h0:c=0:=by simpa using hc
  subst h0;rfl
 |o::ops,orc,l,ws,t,h,t',h',obls,hs,hr,hob,hc=>by
  have hhead:l.headD true=l.getD 0 true:=by cases l<;>rfl
  simp only[ga]at hr;simp only[calm]at hc
  cases hw:dn t o.guard with
  |none=>simp[hw]at hr
  |some b=>
   cases b with
   |false=>
    simp only[hw,bN]at hr hc;obtain⟨⟨t2,h2,ob2,hs2⟩,hr1,hr2⟩:=hr;simp only[bH]at hr2;obtain⟨rfl,rfl,rfl,rfl⟩:=hr2;exact shift ⟨rfl,Or.inl ⟨hw,rfl,rfl⟩,fun _=>rfl,Or.inr rfl,fun _ _ h=>by rw[hw]at h;cases h⟩ (tI hr1 hob hc)
   |true=>
    simp only[hw]at hr hc
    cases ha:aA P Γ t h o.op with
    |val v h1=>
     simp only[ha,bN]at hr hc;obtain⟨⟨t2,h2,ob2,hs2⟩,hr1,hr2⟩:=hr;simp only[bH]at hr2;obtain⟨rfl,rfl,rfl,rfl⟩:=hr2
     have hnc:fh o.op=false:=by
      cases hq:fh o.op with
      |false=>rfl
      |true=>exact absurd ha (JM hq).1
     exact shift (t1:=aW t o.dst v) (h1:=h1) ⟨rfl,Or.inr ⟨hw,Or.inl ha⟩,fun h2=>(zu (by rwa[qg hnc]at h2)).1 ha,Or.inl (by simp),fun hl h1c _ g hg=>Or.inl (hc.1 (by rw[hhead];exact hl) (by rwa[qg hnc]at h1c) g hg)⟩ (tI hr1 hob hc.2)
    |skip h1=>
     simp only[ha,bN]at hr hc;obtain⟨⟨t2,h2,ob2,hs2⟩,hr1,hr2⟩:=hr;simp only[bH]at hr2;obtain⟨rfl,rfl,rfl,rfl⟩:=hr2
     have hnc:fh o.op=false:=by
      cases hq:fh o.op with
      |false=>rfl
      |true=>exact absurd ha (JM (v:=.undef) hq).2
     exact shift (t1:=aW t o.dst (.aL [])) (h1:=h1) ⟨rfl,Or.inr ⟨hw,Or.inr (Or.inl ⟨ha,rfl⟩)⟩,fun h2=>(zu (v:=.undef) (by rwa[qg hnc]at h2)).2.1 ha,Or.inl (by simp),fun _ h1c=>absurd ha (JW (v:=.undef) (by rwa[qg hnc]at h1c)).2.1⟩ (tI hr1 hob hc)
    |call f as=>
     simp only[ha]at hr hc
     by_cases hb:aD P f=true
     ·rw[if_neg (by simp[hb])]at hr
      cases orc with
      |nil=>simp at hr
      |cons q orc=>
       obtain⟨v,h1⟩:=q;simp only[bN]at hr hc;obtain⟨⟨t2,h2,ob2,hs2⟩,hr1,hr2⟩:=hr;simp only[bH]at hr2;obtain⟨rfl,rfl,rfl,rfl⟩:=hr2;have hic:=Vl ha
       refine shift (t1:=aW t o.dst v) (h1:=h1) ⟨rfl,Or.inr ⟨hw,Or.inr (Or.inr ⟨.fn f,as,by rw[ha];rfl,hb,hob _ (by simp)⟩)⟩,fun h2=>?_,Or.inl (by simp),fun hl _ _ g hg=>Or.inr ⟨f,as,((hc.1 (by rw[hhead];exact hl)).2 g hg).1,hb,((hc.1 (by rw[hhead];exact hl)).2 g hg).2⟩⟩
        (tI hr1 (fun x hx=>hob x (dm _ hx)) hc.2)
       cases hq:l.getD 0 true with
       |true=>exact(hc.1 (by rw[hhead];exact hq)).1
       |false=>
        exfalso;apply h2;rw[hq]
        revert hic
        cases o.op<;>simp[fh,ja,cU]
     ·rw[if_pos (by simpa using hb)]at hr;simp at hr
    |cM v=>simp[ha]at hr
    |qI=>simp[ha]at hr
    |bB f as=>simp[ha]at hr
    |yield y as=>
     simp only[ha]at hr hc
     cases orc with
     |nil=>simp at hr
     |cons q orc=>
      obtain⟨v,h1⟩:=q;simp only[bN]at hr hc;obtain⟨⟨t2,h2,ob2,hs2⟩,hr1,hr2⟩:=hr;simp only[bH]at hr2;obtain⟨rfl,rfl,rfl,rfl⟩:=hr2;have hic:=WT ha
      have hq:l.getD 0 true=false:=by rw[<-hhead];exact hc.1
      refine shift (t1:=aW t o.dst v) (h1:=h1) ⟨rfl,Or.inr ⟨hw,Or.inr (Or.inr ⟨.yl y,as,by rw[ha];rfl,rfl,hob _ (by simp)⟩)⟩,fun h2=>?_,Or.inl (by simp),fun hl _ _ g hg=>by rw[hq]at hl;cases hl⟩
       (tI hr1 (fun x hx=>hob x (dm _ hx)) hc.2)
      exfalso;apply h2;rw[hq]
      revert hic
      cases o.op<;>simp[fh,ja,cU]
    |either=>simp[ha]at hr
    |bad=>simp[ha]at hr
end
theorem I'{α:Type}(p:α->Bool)(on:α->Nat)(g:α->Nat):∀(l:List α)(s j:Nat),(l.foldl (fun s e=>if p e then s|||2^on e|||g e else s) s).testBit j=true->
 s.testBit j=true\/∃e∈l,p e=true/\(on e=j\/(g e).testBit j=true)
 |[],s,j,h=>Or.inl h
 |e::l,s,j,h=>by
  rw[sw]at h
  rcases I' p on g l _ j h with h1|⟨e',he,h1⟩
  ·by_cases hp:p e=true
   ·rw[if_pos hp]at h1;simp only[Nat.testBit_or,fR]at h1
    rcases h1 with(h1|h1)|h1
    ·exact Or.inl h1
    ·rw[Nat.testBit_two_pow]at h1;exact Or.inr ⟨e,by simp,hp,Or.inl (by simpa using h1)⟩
    ·exact Or.inr ⟨e,by simp,hp,Or.inr h1⟩
   ·rw[if_neg hp]at h1;exact Or.inl h1
  ·exact Or.inr ⟨e',dm _ he,h1⟩
def lF(acc:Array Nat)(o:Oper):Array Nat:=acc.push (o.after.foldl (fun s e=>if Region.binds .any e then s|||2^e.on|||acc.getD e.on 0 else s) 0)
theorem I8(j:Nat):∀(os:List Oper)(acc:Array Nat),acc.size<=(os.foldl lF acc).size/\(∀i,i<acc.size->(os.foldl lF acc).getD i 0=acc.getD i 0)/\
 ∀k o,os[k]? =some o->((os.foldl lF acc).getD (acc.size+k) 0).testBit j=true->∃e∈o.after.toList,Region.binds .any e=true/\(e.on=j\/(e.on<acc.size+k/\((os.foldl lF acc).getD e.on 0).testBit j=true))
 |[],acc=>⟨aU _,fun _ _=>rfl,by simp⟩
 |o::os,acc=>by
  obtain⟨h1,h2,h3⟩:=I8 j os (lF acc o)
  have hsz:(lF acc o).size=acc.size+1:=by simp[lF]
  rw[sw];rw[hsz]at h1 h2 h3;refine⟨by omega,?_,?_⟩
  ·intro i hi;rw[h2 i (by omega)];simp only[lF,fS];rw[Array.getElem?_push_lt hi];simp[hi]
  ·intro k x hx hb
   cases k with
   |zero=>
    simp at hx;subst hx;rw[jd,h2 _ (by omega)]at hb
    have he:(lF acc o).getD acc.size 0=o.after.foldl (fun s e=>if Region.binds .any e then s|||2^e.on|||acc.getD e.on 0 else s) 0:=by
     simp[lF,fS]
    rw[he,<-B8]at hb
    rcases I' (Region.binds .any) (·.on) (fun e=>acc.getD e.on 0) _ _ _ hb with hb|⟨e,he,hp,hb⟩
    ·simp at hb
    ·refine⟨e,he,hp,hb.imp id fun hb=>?_⟩
     have hlt:e.on<acc.size:=by
      rcases jG e.on acc.size with h4|h4
      ·exact h4
      ·simp[fS,n_ h4]at hb
     refine⟨by omega,?_⟩;rw[h2 _ (by omega)];simp only[lF,fS];rw[Array.getElem?_push_lt hlt];simpa[fS,hlt]using hb
   |succ k=>
    have:=h3 k x (by simpa using hx) (by rw[show acc.size+1+k=acc.size+(k+1) by omega];exact hb);obtain⟨e,he,hp,hb⟩:=this;exact⟨e,he,hp,hb.imp id fun hb=>⟨by omega,hb.2⟩⟩
theorem IV{ops:Array Oper}{i j:Nat}{o:Oper}(ho:ops[i]? =some o)(hb:((Region.before ops).getD i 0).testBit j=true):
 ∃e∈o.after.toList,Region.binds .any e=true/\(e.on=j\/(e.on<i/\((Region.before ops).getD e.on 0).testBit j=true)):=by
 have hbe:Region.before ops=ops.toList.foldl lF #[]:=by
  rw[B8];rfl
 obtain⟨_,_,h3⟩:=I8 j ops.toList #[];rw[hbe]at hb⊢;have:=h3 i o (by simpa using ho) (by simpa using hb);simpa using this
theorem zS{t:List AV}{d:Option Nat}{v:AV}(s:Nat):(aW t d v).getD s .undef=if d=some s/\s<t.length then v else t.getD s .undef:=by
 cases d with
 |none=>simp[aW]
 |some d=>
  simp only[aW,bz,mn,al]
  by_cases h:d=s
  ·subst h
   by_cases h2:d<t.length
   ·simp[h2]
   ·simp[h2]
  ·simp[h]
theorem Ln{t:List AV}{d:Option Nat}{v:AV}:(aW t d v).length=t.length:=by cases d<;>simp[aW]
theorem XK{t t':List AV}(hl:t.length=t'.length)(h:∀s,t.getD s .undef=t'.getD s .undef):t=t':=by
 refine List.ext_getElem hl fun i h1 h2=>?_
 have:=h i;rw[bz,bz,a_ h1,a_ h2]at this;simpa using this
def left(n:Nat)(listed:Array Bool):Nat:=((List.range n).filter fun i=>!listed.getD i true).length
theorem DP{n:Nat}{listed:Array Bool}{i:Nat}(hi:i<n)(hn:listed.getD i true=false):left n (listed.setIfInBounds i true)+1=left n listed:=by
 have hsz:i<listed.size:=by
  rcases jG i listed.size with h|h
  ·exact h
  ·simp[fS,n_ h]at hn
 have h1:((List.range n).filter fun j=>!(listed.setIfInBounds i true).getD j true)=((List.range n).filter fun j=>!listed.getD j true).erase i:=by
  rw[List.Nodup.erase_eq_filter (List.Pairwise.filter _ HM),List.filter_filter];congr 1
  funext j
  simp only[fS,sC]
  by_cases hj:i=j
  ·subst hj;simp[hsz]
  ·simp[hj,Ne.symm hj,bne_iff_ne]
 have hm:i∈(List.range n).filter fun j=>!listed.getD j true:=by simp only[dh,dw,hn,uU,pD];exact hi
 unfold left;rw[h1,QZ hm];have:=Ca hm;omega
theorem mem_left{n i:Nat}{listed:Array Bool}(hi:i<n)(hn:listed.getD i true=false):i∈(List.range n).filter fun j=>!listed.getD j true:=by
 simp only[dh,dw,hn,uU,pD];exact hi
theorem V1{n:Nat}{listed:Array Bool}(h:left n listed=0):∀i,i<n->listed.getD i true=true:=by
 intro i hi;have h1:=k_.1 h
 cases hb:listed.getD i true with
 |true=>rfl
 |false=>
  have:=mem_left hi hb;rw[h1]at this;simp at this
section
variable{P:Program}{Γ:Nat->Option AV}
structure pA(P:Program)(Γ:Nat->Option AV)(ops:Array Oper)(gs:List AG)(obls:List fG)(h0:List Ob)(hs:List (List Ob))(T:Nat->List AV)(H:Nat->List Ob)(v:Nat->AV):Prop where
 len:gs.length=ops.size
 ok:tQ ops gs=true
 ed:nB ops=true
 H0:H 0=h0
 at_:∀c,c<=gs.length->(h0::hs)[c]? =some (H c)
 k:∀i x,gs[i]? =some x->qn P Γ obls hs ((h0::hs).take ((ux ops gs).getD i 0)) ((lC ops gs).getD i true) x (T i) (T (i+1)) (H i) (H (i+1)) (v i)
variable{ops:Array Oper}{gs:List AG}{obls:List fG}{h0:List Ob}{hs:List (List Ob)}{T:Nat->List AV}{H:Nat->List Ob}{v:Nat->AV}
def kf(ops:Array Oper)(j i:Nat):Bool:=((Region.before ops).getD i 0).testBit j
def jt(ops:Array Oper)(gs:List AG)(i:Nat)(x:AG):Nat:=ja ((lC ops gs).getD i true) x.op
theorem tT{i:Nat}{x:AG}(hx:gs[i]? =some x):jt ops gs i x=ja (quietAt (Region.before ops) gs i) x.op:=by
 have hl:(lC ops gs).getD i true=looseAt (Region.before ops) gs i:=by simp[lC,bz,bj hx]
 unfold jt;rw[hl]
 cases hc:fh x.op with
 |false=>rw[qg hc,qg hc]
 |true=>simp[looseAt,hx,hc]
theorem pA.pair(R:pA P Γ ops gs obls h0 hs T H v){i j:Nat}{gi gj:AG}(hi:gs[i]? =some gi)(hj:gs[j]? =some gj)(hji:j<i):lB (quietAt (Region.before ops) gs i) (quietAt (Region.before ops) gs j) gi gj (kf ops j i)=true:=by
 have h1:=R.ok;simp only[tQ,dL,dw]at h1;have h2:=h1 i (bj hi);rw[hi]at h2;simp only[aC,dL,dw]at h2;have h3:=h2.2 j hji;rw[hj]at h3;exact h3
def Ar(ops:Array Oper)(listed:Array Bool):Prop:=∀i o,ops[i]? =some o->listed.getD i true=true->∀e∈o.after.toList,Region.binds .any e=true->listed.getD e.on false=true
theorem C7{listed:Array Bool}(hc:Ar ops listed):∀(n i j:Nat),i<=n->(∃o,ops[i]? =some o/\∀e∈o.after.toList,Region.binds .any e=true->listed.getD e.on false=true)->kf ops j i=true->listed.getD j false=true:=by
 intro n
 induction n with
 |zero=>
  intro i j hi ⟨o,ho,hl⟩ ha;obtain⟨e,he,hp,hb⟩:=IV ho ha
  rcases hb with rfl|⟨hlt,_⟩
  ·exact hl e he hp
  ·omega
 |succ n ih=>
  intro i j hi ⟨o,ho,hl⟩ ha;obtain⟨e,he,hp,hb⟩:=IV ho ha
  rcases hb with rfl|⟨hlt,hb⟩
  ·exact hl e he hp
  ·have hle:=hl e he hp
   have hon:e.on<ops.size:=by
    have:=bj (l:=ops.toList) (i:=i) (a:=o) (by simpa using ho);simp at this;omega
   obtain⟨o2,ho2⟩:∃o2,ops[e.on]? =some o2:=⟨_,iD hon⟩;refine ih e.on j (by omega) ⟨o2,ho2,?_⟩ hb;refine hc e.on o2 ho2 ?_;rw[fS]at hle⊢
   cases hq:listed[e.on]? with
   |none=>rfl
   |some b=>rw[hq]at hle;simpa using hle
theorem pA.Fg(R:pA P Γ ops gs obls h0 hs T H v):∀i,i<=gs.length->(T i).length=(T 0).length/\
 (∀j x s,j<i->gs[j]? =some x->x.dst=some s->s<(T 0).length->(T i).getD s .undef=v j)/\
 (∀s,(∀j x,j<i->gs[j]? =some x->x.dst≠some s)->(T i).getD s .undef=(T 0).getD s .undef)
 |0,_=>⟨rfl,fun _ _ _ h=>by omega,fun _ _=>rfl⟩
 |i+1,hi=>by
  obtain⟨h1,h2,h3⟩:=R.Fg i (by omega);obtain⟨x,hx⟩:∃x,gs[i]? =some x:=⟨_,a_ (by omega)⟩;have hT:=(R.k i x hx).1;refine⟨by rw[hT,Ln,h1],?_,?_⟩
  ·intro j y s hj hy hd hs;rw[hT,zS]
   by_cases hji:j=i
   ·subst hji;rw[hx]at hy
    cases hy
    rw[if_pos ⟨hd,by omega⟩]
   ·have hp:=R.pair hx hy (by omega);simp only[lB,aC,fR]at hp
    have hne:x.dst≠some s:=by
     intro hxs
     rcases hp.1 with h4|h4
     ·rw[hxs]at h4;simp at h4
     ·rw[hxs,hd]at h4;simp at h4
    rw[if_neg (fun h=>hne h.1)];exact h2 j y s (by omega) hy hd hs
  ·intro s hn;rw[hT,zS,if_neg (fun h=>hn i x (by omega) hx h.1)]
   exact h3 s fun j y hj=>hn j y (by omega)
theorem pA.vG(R:pA P Γ ops gs obls h0 hs T H v){a:Nat}:∀n,a+n<=gs.length->(∀j x,a<=j->j<a+n->gs[j]? =some x->jt ops gs j x≠2)->H (a+n)=H a
 |0,_,_=>rfl
 |n+1,hl,hn=>by
  obtain⟨x,hx⟩:∃x,gs[a+n]? =some x:=⟨_,a_ (by omega)⟩;rw[show a+(n+1)=a+n+1 by omega,(R.k _ x hx).2.2.1 (hn _ x (by omega) (by omega) hx)]
  exact R.vG n (by omega) fun j y h1 h2=>hn j y h1 (by omega)
structure wN(ops:Array Oper)(gs:List AG)(T:Nat->List AV)(H:Nat->List Ob)(v:Nat->AV)(listed:Array Bool)(tD:List AV)(hD:List Ob):Prop where
 sz:listed.size=ops.size
 cl:Ar ops listed
 tl:tD.length=(T 0).length
 w:∀j x s,gs[j]? =some x->listed.getD j true=true->x.dst=some s->s<(T 0).length->tD.getD s .undef=v j
 n:∀s,(∀j x,gs[j]? =some x->listed.getD j true=true->x.dst≠some s)->tD.getD s .undef=(T 0).getD s .undef
 h:∃c,c<=gs.length/\hD=H c/\(∀j x,j<c->gs[j]? =some x->jt ops gs j x=2->listed.getD j true=true)/\(∀j x,c<=j->gs[j]? =some x->jt ops gs j x=2->listed.getD j true=false)
theorem tM{listed:Array Bool}{i:Nat}(hi:i<listed.size)(d d':Bool):listed.getD i d=listed.getD i d':=by
 simp[fS,hi]
theorem Vg(R:pA P Γ ops gs obls h0 hs T H v){listed:Array Bool}{tD:List AV}{hD:List Ob}(F:wN ops gs T H v listed tD hD){i:Nat}{op:Oper}{x:AG}(hi:i<ops.size)(hn:listed.getD i true=false)(ho:ops[i]? =some op)
 (hr:∀e∈op.after.toList,Region.binds .any e=true->listed.getD e.on false=true)(hx:gs[i]? =some x):
 ∃hD',wN ops gs T H v (listed.setIfInBounds i true) (aW tD x.dst (v i)) hD'/\qd P Γ obls x tD hD (v i) hD':=by
 have hil:i<gs.length:=bj hx;have hk:=R.k i x hx
 have hbefore:∀j,kf ops j i=true->listed.getD j false=true:=fun j=>C7 F.cl i i j (aU _) ⟨op,ho,hr⟩
 have htrue:∀j,listed.getD j false=true->listed.getD j true=true:=by
  intro j hj;rw[fS]at hj⊢
  cases hq:listed[j]? with
  |none=>rfl
  |some b=>rw[hq]at hj;simpa using hj
 have hfalse:∀j,listed.getD j true=false->listed.getD j false=true->False:=fun j h1 h2=>by
  have:=htrue j h2;rw[h1]at this
  cases this
 have hbehind:∀j,j<ops.size->kf ops i j=true->listed.getD j true=false:=by
  intro j hj ha
  cases hq:listed.getD j true with
  |false=>rfl
  |true=>
   exfalso;have ho2:ops[j]? =some ops[j]:=iD hj;exact hfalse i hn (C7 F.cl j j i (aU _) ⟨_,ho2,F.cl j _ ho2 hq⟩ ha)
 have hlen:=R.len;obtain⟨hTl,hTw,hTn⟩:=R.Fg i (by omega)
 have hslots:∀s∈rH x,tD.getD s .undef=(T i).getD s .undef:=by
  intro s hs
  by_cases hsl:s<(T 0).length
  ·by_cases hw:∃(j:Nat)(y:AG),gs[j]? =some y/\y.dst=some s
   ·obtain⟨j,y,hy,hyd⟩:=hw;have hjl:j<gs.length:=bj hy
    have huniq:∀j2 y2,gs[j2]? =some y2->y2.dst=some s->j2=j:=by
     intro j2 y2 hy2 hd2
     rcases HF j2 j with h1|h1|h1
     ·have hp:=R.pair hy hy2 h1;simp only[lB,aC,fR]at hp
      rcases hp.1 with h4|h4
      ·rw[hyd]at h4;simp at h4
      ·rw[hyd,hd2]at h4;simp at h4
     ·exact h1
     ·have hp:=R.pair hy2 hy h1;simp only[lB,aC,fR]at hp
      rcases hp.1 with h4|h4
      ·rw[hd2]at h4;simp at h4
      ·rw[hyd,hd2]at h4;simp at h4
    rcases HF j i with h1|h1|h1
    ·have hp:=R.pair hx hy h1;simp only[lB,aC,fR]at hp
     have ha:kf ops j i=true:=by
      rcases hp.2 with h4|h4
      ·exact h4
      ·rw[hyd]at h4;simp only[je,xv,gK]at h4;exact absurd hs h4.1.1
     rw[F.w j y s hy (htrue j (hbefore j ha)) hyd hsl,hTw j y s h1 hy hyd hsl]
    ·subst h1;rw[hTn s (fun j2 y2 hj2 hy2 hd2=>by have:=huniq j2 y2 hy2 hd2;omega),F.n s];intro j2 y2 hy2 hl2 hd2;have:=huniq j2 y2 hy2 hd2;subst this;rw[hn]at hl2
     cases hl2
    ·have hp:=R.pair hy hx h1;simp only[lB,aC,fR]at hp
     have ha:kf ops i j=true:=by
      rcases hp.2 with h4|h4
      ·exact h4
      ·rw[hyd]at h4;simp only[je,xv,gK]at h4;exact absurd hs h4.1.2
     rw[hTn s (fun j2 y2 hj2 hy2 hd2=>by have:=huniq j2 y2 hy2 hd2;omega),F.n s];intro j2 y2 hy2 hl2 hd2;have:=huniq j2 y2 hy2 hd2;subst this;rw[hbehind j2 (by omega) ha]at hl2
     cases hl2
   ·have hnw:∀(j:Nat)(y:AG),gs[j]? =some y->y.dst≠some s:=fun j y hy hd=>hw ⟨j,y,hy,hd⟩
    rw[hTn s fun j y _ hy=>hnw j y hy,F.n s fun j y hy _=>hnw j y hy]
  ·rw[bz,bz,mh (by rw[F.tl];omega),mh (by omega)]
 have hwant:dn tD x.guard=dn (T i) x.guard:=Ti fun s hs=>hslots s (by simp only[rH,ba];exact Or.inl hs)
 have haop:∀h,aA P Γ tD h x.op=aA P Γ (T i) h x.op:=fun h=>VP fun s hs=>hslots s (by simp only[rH,ba];exact Or.inr hs)
 have hcls:∀j y,j<i->gs[j]? =some y->jt ops gs j y=2->jt ops gs i x=2->kf ops j i=true:=by
  intro j y h1 hy hc1 hc2;have hp:=R.pair hx hy h1;simp only[lB,aC,fR]at hp
  rcases hp.2 with h4|h4
  ·exact h4
  ·have h5:=h4.2;rw[<-tT hx,<-tT hy,hc1,hc2]at h5;simp at h5
 have hcls2:∀j y,i<j->gs[j]? =some y->jt ops gs j y=2->jt ops gs i x=2->kf ops i j=true:=by
  intro j y h1 hy hc1 hc2;have hp:=R.pair hy hx h1;simp only[lB,aC,fR]at hp
  rcases hp.2 with h4|h4
  ·exact h4
  ·have h5:=h4.2;rw[<-tT hx,<-tT hy,hc1,hc2]at h5;simp at h5
 obtain⟨c,hcl,hDc,hc1,hc2⟩:=F.h
 have hset:∀j,(listed.setIfInBounds i true).getD j true=if j=i then true else listed.getD j true:=by
  intro j;simp only[fS,sC]
  by_cases hj:j=i
  ·subst hj;simp;split<;>simp
  ·rw[if_neg (fun e=>hj e.symm),if_neg hj]
 have hsetf:∀j,listed.getD j false=true->(listed.setIfInBounds i true).getD j false=true:=by
  intro j h;simp only[fS,sC]at h⊢
  by_cases hj:i=j
  ·subst hj
   by_cases h2:i<listed.size
   ·simp[h2]
   ·rw[n_ (by omega)]at h;simp at h
  ·rw[if_neg hj];exact h
 have hfar:∀hD',(∃c,c<=gs.length/\hD'=H c/\(∀j x,j<c->gs[j]? =some x->jt ops gs j x=2->(listed.setIfInBounds i true).getD j true=true)/\(∀j x,c<=j->gs[j]? =some x->jt ops gs j x=2->(listed.setIfInBounds i true).getD j true=false))->
  wN ops gs T H v (listed.setIfInBounds i true) (aW tD x.dst (v i)) hD':=by
  intro hD' hh;refine⟨by simp[F.sz],?_,by rw[Ln,F.tl],?_,?_,hh⟩
  ·intro j o hj hl e he hp;rw[hset]at hl
   by_cases hji:j=i
   ·subst hji;rw[ho]at hj
    cases hj
    exact hsetf _ (hr e he hp)
   ·rw[if_neg hji]at hl;exact hsetf _ (F.cl j o hj hl e he hp)
  ·intro j y s hy hl hd hs;rw[hset]at hl;rw[zS]
   by_cases hji:j=i
   ·subst hji;rw[hx]at hy
    cases hy
    rw[if_pos ⟨hd,by rw[F.tl];exact hs⟩]
   ·rw[if_neg hji]at hl
    have hne:x.dst≠some s:=by
     intro hxs
     rcases Nat.lt_or_gt_of_ne hji with h1|h1
     ·have hp:=R.pair hx hy h1;simp only[lB,aC,fR]at hp
      rcases hp.1 with h4|h4
      ·rw[hxs]at h4;simp at h4
      ·rw[hxs,hd]at h4;simp at h4
     ·have hp:=R.pair hy hx h1;simp only[lB,aC,fR]at hp
      rcases hp.1 with h4|h4
      ·rw[hd]at h4;simp at h4
      ·rw[hxs,hd]at h4;simp at h4
    rw[if_neg (fun h=>hne h.1)];exact F.w j y s hy hl hd hs
  ·intro s hns;rw[zS,if_neg (fun h=>hns i x hx (by rw[hset,if_pos rfl]) h.1)]
   refine F.n s fun j y hy hl=>hns j y hy ?_
   rw[hset];split
   ·rfl
   ·exact hl
 by_cases h2:jt ops gs i x=2
 ·
  have hci:c<=i:=by
   rcases jG i c with h1|h1
   ·have:=hc1 i x h1 hx h2;rw[hn]at this
    cases this
   ·exact h1
  have hH:H i=H c:=by
   have:=R.vG (a:=c) (i-c) (by omega) (by
    intro j y h3 h4 hy hc3;have h5:=htrue j (hbefore j (hcls j y (by omega) hy hc3 h2));rw[hc2 j y h3 hy hc3]at h5
    cases h5)
   rwa[show c+(i-c)=i by omega]at this
  refine⟨H (i+1),hfar _ ⟨i+1,by omega,rfl,?_,?_⟩,?_⟩
  ·intro j y h3 hy hc3;rw[hset]
   by_cases hji:j=i
   ·rw[if_pos hji]
   ·rw[if_neg hji];exact htrue j (hbefore j (hcls j y (by omega) hy hc3 h2))
  ·intro j y h3 hy hc3;rw[hset,if_neg (by omega)];have hjl:=bj hy;exact hbehind j (by omega) (hcls2 j y (by omega) hy hc3 h2)
  ·have hone:=hk.2.1;rw[hDc,<-hH];unfold qd at hone⊢;rw[hwant,haop];exact hone
 ·
  have htake:hD∈(h0::hs).take ((ux ops gs).getD i 0):=by
   have hfe:(ux ops gs).getD i 0=AJ (Region.before ops) gs i:=by simp[ux,bz,hil]
   have hcf:c<AJ (Region.before ops) gs i:=by
    unfold AJ
    cases hfd:(List.range gs.length).find? fun j=>decide (i<j)&&(match gs[j]? with
     |none=>false
     |some gj=>ja (quietAt (Region.before ops) gs j) gj.op==2&&((Region.before ops).getD j 0).testBit i)with
    |none=>simp;omega
    |some j=>
     have hj1:=List.find?_some hfd;have hj2:=List.mem_of_find?_eq_some hfd;simp only[dw]at hj2;simp only[aC,a8]at hj1;obtain⟨hij,hj3⟩:=hj1;have hgj:gs[j]? =some gs[j]:=a_ hj2;rw[hgj]at hj3;simp only[aC,ml]at hj3;simp only[gZ]
     rcases jG j c with h5|h5
     ·exfalso;have h6:=hc1 j gs[j] h5 hgj (by rw[tT hgj];exact hj3.1);have h7:=hbehind j (by omega) hj3.2;rw[h7]at h6
      cases h6
     ·omega
   rw[hfe,hDc];refine fQ (i:=c) ?_;rw[pC,if_pos hcf];exact R.at_ c hcl
  refine⟨hD,hfar _ ⟨c,hcl,hDc,?_,?_⟩,?_⟩
  ·intro j y h3 hy hc3
   rw[hset];split
   ·rfl
   ·exact hc1 j y h3 hy hc3
  ·intro j y h3 hy hc3;rw[hset,if_neg]
   ·exact hc2 j y h3 hy hc3
   ·rintro rfl
    rw[hx]at hy
    cases hy
    exact h2 hc3
  ·have hHi:=hk.2.2.1 h2;have hone:=hk.2.1;rw[hHi]at hone;unfold qd at hone⊢;rw[hwant,haop]
   rcases hone with⟨h3,h4,_⟩|⟨h3,h4⟩
   ·exact Or.inl ⟨h3,h4,rfl⟩
   ·refine Or.inr ⟨h3,?_⟩
    cases hic:fh x.op with
    |true=>
    have hq:(lC ops gs).getD i true=true:=by
     cases hq:(lC ops gs).getD i true with
     |true=>rfl
     |false=>
      exfalso;apply h2;unfold jt;rw[hq]
      revert hic
      cases x.op<;>simp[fh,ja,cU]
    have h1:ja ((lC ops gs).getD i true) x.op=1:=by rw[hq];simp[ja,hic]
    rcases hk.2.2.2.2 hq h1 h3 hD htake with h5|⟨f,as,h5,h6,h7⟩
    ·exact Or.inl h5
    ·exact Or.inr (Or.inr ⟨.fn f,as,by rw[h5];rfl,h6,h7⟩)
    |false=>
    have h2':cU x.op≠2:=by unfold jt at h2;rwa[qg hic]at h2
    have hcl3:cU x.op=0\/cU x.op=1:=by
     have h5:=R.ok;simp only[tQ,dL,dw]at h5;have h6:=h5 i hil;rw[hx]at h6;simp only[aC,bne_iff_ne,ne_eq]at h6;have h7:=h6.1
     revert h2' h7
     cases x.op<;>simp[cU]
    rcases hcl3 with h0|h1
    ·have hp:=Xf (P:=P) (Γ:=Γ) (t:=T i) h0 (H i) hD
     rcases h4 with h4|⟨h4,h5⟩|⟨f,as,h4,h5,h6⟩
     ·rw[h4]at hp;exact Or.inl hp
     ·rw[h4]at hp;exact Or.inr (Or.inl ⟨hp,h5⟩)
     ·rw[C9 h2']at h4;cases h4
    ·rcases h4 with h4|⟨h4,h5⟩|⟨f,as,h4,h5,h6⟩
     ·by_cases hl:(lC ops gs).getD i true=true
      ·rcases hk.2.2.2.2 hl (by rw[qg hic];exact h1) h3 hD htake with h5|⟨f,as,h5,h6,h7⟩
       ·exact Or.inl h5
       ·exact Or.inr (Or.inr ⟨.fn f,as,by rw[h5];rfl,h6,h7⟩)
      ·have hll:looseAt (Region.before ops) gs i=false:=by
        have:(lC ops gs).getD i true=looseAt (Region.before ops) gs i:=by
         simp[lC,bz,hil]
        rw[this]at hl;simpa using hl
       simp only[looseAt,hx,hic,dU,cE,h1,HL,Cb,List.any_eq_false,dw]at hll
       have hcmp:∀j y,gs[j]? =some y->jt ops gs j y=2->(if j<i then kf ops j i else kf ops i j)=true:=by
        intro j y hy hc3;have h5:=hll j (bj hy);rw[hy]at h5;rw[tT hy]at hc3;simp only[hc3,HL,Cb,je,xu]at h5;exact h5
       have hH:hD=H i:=by
        rw[hDc]
        rcases Nat.le_total c i with h5|h5
        ·have:=R.vG (a:=c) (i-c) (by omega) (by
          intro j y h6 h7 hy hc3;have h8:=hcmp j y hy hc3;rw[if_pos (by omega)]at h8;have h9:=htrue j (hbefore j h8);rw[hc2 j y h6 hy hc3]at h9
          cases h9)
         rw[show c+(i-c)=i by omega]at this;exact this.symm
        ·have:=R.vG (a:=i) (c-i) (by omega) (by
          intro j y h6 h7 hy hc3;have h8:=hcmp j y hy hc3;rw[if_neg (by omega)]at h8;have hjl:=bj hy;have h9:=hbehind j (by omega) h8;rw[hc1 j y (by omega) hy hc3]at h9
          cases h9)
         rw[show i+(c-i)=c by omega]at this;exact this
       left;rw[hH];exact h4
     ·exact absurd h4 (JW (v:=.undef) h1).2.1
     ·rw[C9 h2']at h4;cases h4
variable{Rl:aw->aw->Prop}
def ue(gs:List AG)(t0 t:List AV):Prop:=∀s,(∀x∈gs,x.dst≠some s)->t.getD s .undef=t0.getD s .undef
theorem aam(htr:∀a b c,Rl a b->Rl b c->Rl a c)(hst:∀c,Rl c (eO P Γ c)){f:Fr}{up:List Fr}{t:List AV}(hob:∀o∈obls,∀its,Rl (o.f.cfg o.args ({f with its:=its,t:=t}::up) o.h) (.back ({f with its:=its,t:=t}::up) o.v o.h'))(hmd:f.md=.run){k:List It}{x:AG}{os:List AG}{h h':List Ob}{u:AV}
 (ho:qd P Γ obls x t h u h'):Rl (.fr {f with its:=.ops (x::os)::k,t:=t} up h) (.fr {f with its:=.ops os::k,t:=aW t x.dst u} up h'):=by
 obtain⟨fmd,ffn,fits,ft,fds,fk,fb⟩:=f;simp only at hmd;subst hmd;have h0:=hst (.fr {md:=.run,fn:=ffn,its:=.ops (x::os)::k,t:=t,ds:=fds,kind:=fk,base:=fb} up h);simp only[eO,gz]at h0
 rcases ho with⟨h1,rfl,rfl⟩|⟨h1,h2|⟨h2,rfl⟩|⟨c,as,h2,h3,h4⟩⟩
 ·rw[h1]at h0;exact h0
 ·rw[h1]at h0;simp only[h2,eX]at h0;exact h0
 ·rw[h1]at h0;simp only[h2,eX]at h0;exact h0
 ·rw[h1]at h0
  have h00:Rl (.fr {md:=.run,fn:=ffn,its:=.ops (x::os)::k,t:=t,ds:=fds,kind:=fk,base:=fb} up h) (c.cfg as ({md:=.run,fn:=ffn,its:=.ops (x::os)::k,t:=t,ds:=fds,kind:=fk,base:=fb}::up) h):=by
   cases ha:aA P Γ t h x.op<;>rw[ha]at h2 h0<;>simp only[R.BU]at h2
   all_goals first|(cases h2;done)|skip
   ·cases h2
    simp only[kj.ok]at h3;simp only[eX,h3,bY]at h0;exact h0
   ·cases h2
    exact h0
  refine htr _ _ _ h00 (htr _ _ _ (hob _ h4 _) ?_);have h5:=hst (.back ({md:=.run,fn:=ffn,its:=.ops (x::os)::k,t:=t,ds:=fds,kind:=fk,base:=fb}::up) u h');simp only[eO,Fr.finish]at h5;exact h5
theorem XD(R:pA P Γ ops gs obls h0 hs T H v)(htr:∀a b c,Rl a b->Rl b c->Rl a c)(hst:∀c,Rl c (eO P Γ c)){f:Fr}{up:List Fr}(hob:∀o∈obls,∀its t,ue gs (T 0) t->Rl (o.f.cfg o.args ({f with its:=its,t:=t}::up) o.h) (.back ({f with its:=its,t:=t}::up) o.v o.h'))(hmd:f.md=.run){k:List It}:
 ∀(fuel n:Nat)(listed:Array Bool)(tD:List AV)(hD:List Ob),wN ops gs T H v listed tD hD->left ops.size listed=fuel->
  Rl (.fr {f with its:=.ops ((Region.linearise.go .any ops fuel n listed []).map fun i=>gs.getD i default)::k,t:=tD} up hD) (.fr {f with its:=k,t:=T gs.length} up (H gs.length)):=by
 intro fuel
 induction fuel with
 |zero=>
  intro n listed tD hD F hl;have hall:=V1 hl;have hlen:=R.len;obtain⟨hTl,hTw,hTn⟩:=R.Fg gs.length (aU _)
  have ht:tD=T gs.length:=by
   refine XK (by rw[F.tl,hTl]) fun s=>?_
   by_cases hw:∃(j:Nat)(y:AG),gs[j]? =some y/\y.dst=some s
   ·obtain⟨j,y,hy,hd⟩:=hw;have hjl:=bj hy
    by_cases hsl:s<(T 0).length
    ·rw[F.w j y s hy (hall j (by omega)) hd hsl,hTw j y s hjl hy hd hsl]
    ·rw[bz,bz,mh (by rw[F.tl];omega),mh (by omega)]
   ·have hnw:∀(j:Nat)(y:AG),gs[j]? =some y->y.dst≠some s:=fun j y hy hd=>hw ⟨j,y,hy,hd⟩
    rw[hTn s fun j y _ hy=>hnw j y hy,F.n s fun j y hy _=>hnw j y hy]
  obtain⟨c,hcl,hDc,hc1,hc2⟩:=F.h
  have hh:hD=H gs.length:=by
   rw[hDc]
   have:=R.vG (a:=c) (gs.length-c) (by omega) (by
    intro j y h3 h4 hy hc3;have h5:=hc2 j y h3 hy hc3;rw[hall j (by omega)]at h5
    cases h5)
   rw[show c+(gs.length-c)=gs.length by omega]at this;exact this.symm
  subst ht hh;obtain⟨fmd,ffn,fits,ft,fds,fk,fb⟩:=f;simp only at hmd;subst hmd;have h0:=hst (.fr {md:=.run,fn:=ffn,its:=.ops []::k,t:=T gs.length,ds:=fds,kind:=fk,base:=fb} up (H gs.length));simp only[eO,gz]at h0;simp only[Region.linearise.go,List.reverse_nil,iC];exact h0
 |succ fuel ih=>
  intro n listed tD hD F hl;have hlen:=R.len
  have hne:0<((List.range ops.size).filter fun i=>!listed.getD i true&&((ops[i]?).map (·.after.all fun e=>!Region.binds .any e||listed.getD e.on false)).getD false).length:=by
   have hex:∃i,i<ops.size/\listed.getD i true=false:=by
    unfold left at hl;obtain⟨i,hi⟩:=HN (l:=(List.range ops.size).filter fun i=>!listed.getD i true) (by omega);simp only[dh,dw,je]at hi;exact⟨i,hi⟩
   have hmin:∀m i,i<=m->i<ops.size->listed.getD i true=false->∃i,i<ops.size/\listed.getD i true=false/\∀j,j<i->listed.getD j true=true:=by
    intro m
    induction m with
    |zero=>intro i h1 h2 h3;exact⟨i,h2,h3,fun j hj=>by omega⟩
    |succ m ihm=>
     intro i h1 h2 h3
     by_cases h4:∃j,j<i/\listed.getD j true=false
     ·obtain⟨j,h5,h6⟩:=h4;exact ihm j (by omega) (by omega) h6
     ·refine⟨i,h2,h3,fun j hj=>?_⟩
      cases hq:listed.getD j true with
      |true=>rfl
      |false=>exact absurd ⟨j,hj,hq⟩ h4
   obtain⟨i0,h1,h2⟩:=hex;obtain⟨i,h3,h4,h5⟩:=hmin i0 i0 (aU _) h1 h2;refine Ca (a:=i) ?_;simp only[dh,dw,h4,uU,Cb,iD h3,eb,gZ];refine⟨h3,?_⟩;rw[<-qR,dL];intro e he
   cases hb:Region.binds .any e with
   |false=>rfl
   |true=>
    simp only[pE,lp];have hed:=R.ed;simp only[nB,dL]at hed;have h6:=hed (ops[i],i) (by rw[Q0];simp[h3]);rw[<-qR,dL]at h6;have h7:=h6 e he;rw[hb]at h7;simp only[pE,lp,a8]at h7;rw[tM (by rw[F.sz];omega) false true];exact h5 _ h7
  simp only[Region.linearise.go];generalize hrs:((List.range ops.size).filter fun i=>!listed.getD i true&&((ops[i]?).map (·.after.all fun e=>!Region.binds .any e||listed.getD e.on false)).getD false)=rs at hne⊢;have hlt:n%rs.length<rs.length:=Nat.mod_lt _ hne;rw[a_ hlt];generalize hri:rs[n%rs.length]=i
  have him:i∈rs:=by rw[<-hri];exact bZ hlt
  rw[<-hrs]at him;simp only[dh,dw,aC,je]at him;obtain⟨h1,h2,h3⟩:=him;rw[iD h1]at h3;simp only[eb,gZ]at h3;rw[<-qR,dL]at h3;obtain⟨x,hx⟩:∃x,gs[i]? =some x:=⟨_,a_ (by omega)⟩
  obtain⟨hD',F',hone⟩:=Vg R F h1 h2 (iD h1) (fun e he hb=>by
   have:=h3 e he;rw[hb]at this
   simpa using this) hx
  simp only;rw[linearise_go_acc,Q1,sA,cv];rw[show gs.getD i default=x by rw[bz,hx];rfl];refine htr _ _ _ (aam htr hst (fun o ho its=>hob o ho its _ fun s hs=>F.n s fun j y hy _=>hs y (fQ hy)) hmd hone) (ih _ _ _ _ F' ?_);have:=DP h1 h2;omega
end
section
variable{P:Program}{Γ:Nat->Option AV}{N:Env}{g:G}{h:List Ob}{w:World}
theorem KC{n:Nat}:∀{es:List (AV×AV)},iw n es=true->aO n (es.map (·.1))=true/\aO n (es.map (·.2))=true
 |[],_=>⟨rfl,rfl⟩
 |(a,b)::es,h=>by
  simp only[iw,aC]at h;obtain⟨h1,h2⟩:=KC h.2;simp only[cv,aO,aC];exact⟨⟨h.1.1,h1⟩,⟨h.1.2,h2⟩⟩
theorem zj{n:Nat}:∀{es:List AV}(k:Nat),aO n es=true->aO n (es.drop k)=true
 |[],_,_=>by simp[aO]
 |a::es,0,h=>by simpa using h
 |a::es,k+1,h=>by
  simp only[aO,aC]at h;simpa using zj k h.2
theorem Zn{n k:Nat}{es:List AV}{fl:Bool}(hfl:fl=true->cj es k=true)(hb:(fl||aO n es)=true):aO n es=true:=by
 cases fl with
 |true=>exact h_ (hfl rfl)
 |false=>simpa using hb
theorem Ze{n:Nat}{g':G}{h':List Ob}(x:Ext n g h g' h'){i:Nat}{o:Ob}(hρ:g'.ρ i=g.ρ i)(hb:mZ n o=true)(ho:OV P g h w i o):OV P g' h' w i o:=by
 cases o with
 |gone=>trivial
 |cells vs=>
  intro b sz st hb';rw[hρ]at hb';obtain⟨c,E,fz,h1,h2,h3⟩:=ho b sz st hb';exact⟨c,E,fz,h1,h2,b_ x (by simpa only [mZ]using hb) h3⟩
 |row k E es gr fl sh=>
  simp only[OV]at ho⊢;obtain⟨h1,h2,h3,h4,h5⟩:=ho;refine⟨h1,h2,h3,h4,?_⟩;rw[hρ]
  cases hr:g.ρ i with
  |none=>rw[hr]at h5;exact h5
  |some y=>
   obtain⟨b,sz,st⟩:=y;rw[hr]at h5;simp only at h5⊢;obtain⟨h6,c,E',fz,vs,h7,h8,h9,h10,h11⟩:=h5;exact⟨h6,c,E',fz,vs,h7,h8,h9,fg x (zj _ (Zn h3 (by simpa only [mZ]using hb))) h10,h11⟩
 |map es fl=>
  obtain⟨h1,h3⟩:=ho;refine⟨h1,fun b sz st hb'=>?_⟩;rw[hρ]at hb';obtain⟨bd,ck,h4,h5,h6⟩:=h3 b sz st hb';obtain⟨q1,q2⟩:=KC (by simpa only [mZ]using hb);exact⟨bd,ck,h4,b_ x q1 h5,b_ x q2 h6⟩
 |gC s p=>
  intro b sz st hb';rw[hρ]at hb';exact ho b sz st hb'
 |loop st j fn t ps a b=>
  intro bk sz sta hb';rw[hρ]at hb';obtain⟨L,h1,h2,h3,h4,h5,h6⟩:=ho bk sz sta hb';exact⟨L,h1,h2,h3,h4,b_ x (by simpa only [mZ]using hb) h5,h6⟩
 |bB live=>
  intro b sz st hb';rw[hρ]at hb';exact ho b sz st hb'
theorem LM{n:Nat}:∀{h:List Ob}{i:Nat}{o:Ob},dS n h=true->h[i]? =some o->mZ n o=true
 |[],_,_,_,hi=>by simp at hi
 |a::h,0,o,hb,hi=>by
  simp only[dS,aC]at hb
  simp at hi;subst hi;exact hb.1
 |a::h,i+1,o,hb,hi=>by
  simp only[dS,aC]at hb;exact LM hb.2 (by simpa using hi)
theorem Inv.drop(H:Inv P Γ N g h w){n:Nat}(hb:dS n (h.take n)=true):
 Inv P Γ N {g with ρ:=fun i=>if i<n then g.ρ i else none} (h.take n) w/\Ext n g h {g with ρ:=fun i=>if i<n then g.ρ i else none} (h.take n):=by
 have hget:∀{i x},i<n->h[i]? =some x->(h.take n)[i]? =some x:=fun{i x} hi hx=>by rw[xw hi];exact hx
 have hρ:∀{i},i<n->∀x,g.ρ i=some x->(if i<n then g.ρ i else none)=some x:=fun hi x hx=>by rw[if_pos hi];exact hx
 have hE:Ext n g h {g with ρ:=fun i=>if i<n then g.ρ i else none} (h.take n):=
  ⟨fun _ _ _ x=>x,fun _ _ x=>x,fun i vs hn hi=>⟨⟨_,hget hn hi⟩,hρ hn⟩,fun i es fl hn hi=>⟨⟨_,_,hget hn hi⟩,hρ hn⟩,fun i s p hn hi=>⟨⟨_,_,hget hn hi⟩,hρ hn⟩,
  fun i st j fn t ps a b hn hi=>⟨⟨_,_,hget hn hi⟩,hρ hn⟩,fun i l hn hi=>⟨⟨_,hget hn hi⟩,hρ hn⟩,
  fun i k E es gr fl sh hn hi=>⟨_,_,_,_,_,hget hn hi,aU _,fun _ _ _ hk=>⟨hk,rfl,hρ hn⟩⟩⟩
 have hsub:∀{i b x},(if i<n then g.ρ i else none)=some (b,x)->i<n/\g.ρ i=some (b,x):=by
  intro i b x hi
  by_cases h1:i<n
  ·rw[if_pos h1]at hi;exact⟨h1,hi⟩
  ·rw[if_neg h1]at hi;cases hi
 refine⟨⟨H.os,H.tape,H.output,H.eG,fun i b x hi=>H.own i b x (hsub hi).2,fun i j b x y hi hj=>H.inj i j b x y (hsub hi).2 (hsub hj).2,?_,H.mem,?_,?_,?_,?_,H.mK,H.iz,H.km⟩,hE⟩
 ·intro i hi;simp only
  by_cases h1:i<n
  ·rw[if_pos h1];refine H.n7 i ?_;rw[fc]at hi;omega
  ·rw[if_neg h1]
 ·intro b es ck hb;obtain⟨h1,h2⟩:=H.mm b es ck hb;exact⟨h1,fun i x hi=>h2 i x (hsub hi).2⟩
 ·intro i b sz st o v hi hv;obtain⟨h1,h2⟩:=hsub hi;obtain⟨k,E,es,gr,fl,h3,h4⟩:=H.dX i b sz st o v h2 hv;exact⟨k,E,es,gr,fl,hget h1 h3,h4⟩
 ·intro i o hi
  have hin:i<n:=by
   have:=bj hi;rw[fc]at this;omega
  have hi2:h[i]? =some o:=by rw[xw hin]at hi;exact hi
  exact Ze hE (by simp only;rw[if_pos hin]) (LM hb hi) (H.ob i o hi2)
 ·intro m a hm;obtain⟨h1,vs,h2,h3⟩:=H.j5 m a hm;exact⟨h1,vs,b_ (hE.mono (xi _)) h1 h2,h3⟩
variable{i:Nat}{k:Nat}{E:TypeId}{es:List AV}{fl sh:Bool}
theorem Ext.zero{g g':G}{h h':List Ob}(hM:∀b o v,g.M b o=some v->g'.M b o=some v)(hMM:∀b x,g.MM b=some x->g'.MM b=some x):Ext 0 g h g' h':=
 ⟨hM,hMM,fun _ _ h=>by omega,fun _ _ _ h=>by omega,fun _ _ _ h=>by omega,fun _ _ _ _ _ _ _ _ h=>by omega,fun _ _ h=>by omega,fun _ _ _ _ _ _ _ h=>by omega⟩
mutual
theorem tK(hi:h[i]? =some (.row k E es (some 0) fl sh)):∀{a:AV}{v:Value},jC i es.length a=true->V g h a v->V g (h.set i (.row k E es none fl sh)) a v
 |.undef,_,_,_=>by simp[V]
 |.bool _,_,_,hv|.int _ _,_,_,hv|.str _,_,_,hv|.iq,_,_,hv|.eu,_,_,hv|.ei,_,_,hv|.dZ,_,_,hv|.dF _ _,_,_,hv=>by simpa only [V]using hv
 |.own _ _ _,_,_,hv=>by simp only[V]at hv
 |.list full k es,v,_,hv=>by
  have h0:aJ 0 (.list full k es)=true:=by
   simp only[V]at hv;simp only[aJ];exact h_ hv.1
  exact fo (Ext.zero (fun _ _ _ x=>x) (fun _ _ x=>x)) h0 hv
 |.de ks us,v,hb,hv=>fo (Ext.zero (fun _ _ _ x=>x) (fun _ _ x=>x)) (by simpa only [aJ,jC]using hb) hv
 |.sl j off n,v,hb,hv=>by
  simp only[V]at hv⊢
  by_cases hji:j=i
  ·subst hji;simp only[jC,HL,pE,lp,ml]at hb;obtain⟨k',E',es',gr',fl',sh',h1,h2,a,cap,h3,h4,h5,h6⟩:=hv;rw[hi]at h1;simp only[al,Ob.row.injEq]at h1;obtain⟨rfl,rfl,rfl,rfl,rfl,rfl⟩:=h1;exact⟨_,_,_,none,_,_,gn (bj hi),h2,a,cap,h3,h4,h5,fun _=>h6 (by simp[cr,hb])⟩
  ·obtain⟨k',E',es',gr',fl',sh',h1,h2⟩:=hv;exact⟨k',E',es',gr',fl',sh',by rw[dK (fun e=>hji e.symm)];exact h1,h2⟩
 |.cL a _ _ _,v,hb,hv=>by
  simp only[V]at hv⊢;simp only[jC]at hb;obtain⟨u,b,o,h1,h2,h4,rfl⟩:=hv;exact⟨u,b,o,tK hi hb h1,h2,h4,rfl⟩
 |.ptr j off,v,_,hv=>by
  simp only[V]at hv⊢;obtain⟨⟨vs,hj⟩,h2⟩:=hv;exact⟨⟨vs,by rw[dK (by rintro rfl;rw[hi]at hj;cases hj)];exact hj⟩,h2⟩
 |.mp j,v,_,hv=>by
  simp only[V]at hv⊢;obtain⟨⟨x,y,hj⟩,h2⟩:=hv;exact⟨⟨x,y,by rw[dK (by rintro rfl;rw[hi]at hj;cases hj)];exact hj⟩,h2⟩
 |.it j,v,_,hv=>by
  simp only[V]at hv⊢;obtain⟨⟨x,y,hj⟩,h2⟩:=hv;exact⟨⟨x,y,by rw[dK (by rintro rfl;rw[hi]at hj;cases hj)];exact hj⟩,h2⟩
 |.dA j,v,_,hv=>by
  simp only[V]at hv⊢;obtain⟨⟨x1,x2,x3,x4,x5,x6,x7,hj⟩,h2⟩:=hv;exact⟨⟨x1,x2,x3,x4,x5,x6,x7,by rw[dK (by rintro rfl;rw[hi]at hj;cases hj)];exact hj⟩,h2⟩
 |.agg cs,v,hb,hv=>by
  simp only[V]at hv⊢;simp only[jC]at hb;obtain⟨vs,rfl,h1⟩:=hv;exact⟨vs,rfl,kz hi hb h1⟩
 |.aL cs,v,hb,hv=>by
  simp only[V]at hv⊢;simp only[jC]at hb;obtain⟨vs,rfl,h1⟩:=hv;exact⟨vs,rfl,kz hi hb h1⟩
 |.fn f a b,v,hb,hv=>by
  simp only[V]at hv⊢;simp only[jC,aC]at hb;obtain⟨xs,ys,rfl,h1,h2⟩:=hv;exact⟨xs,ys,rfl,kz hi hb.1 h1,kz hi hb.2 h2⟩
 |.bX t a,v,hb,hv=>by
  simp only[V]at hv⊢;simp only[jC]at hb;obtain⟨y,rfl,h1⟩:=hv;exact⟨y,rfl,tK hi hb h1⟩
theorem kz(hi:h[i]? =some (.row k E es (some 0) fl sh)):∀{as:List AV}{vs:List Value},dG i es.length as=true->VL g h as vs->VL g (h.set i (.row k E es none fl sh)) as vs
 |[],_,_,hv=>by simpa only [VL]using hv
 |a::as,_,hb,hv=>by
  simp only[VL]at hv⊢;simp only[dG,aC]at hb;obtain⟨v,vs',rfl,h1,h2⟩:=hv;exact⟨v,vs',rfl,tK hi hb.1 h1,kz hi hb.2 h2⟩
end
theorem D'(hi:h[i]? =some (.row k E es (some 0) fl sh)):∀{as:List AV}{vs:List Value},dG i es.length as=true->VE g h as vs->VE g (h.set i (.row k E es none fl sh)) as vs
 |[],_,_,hv=>by simpa only [VE]using hv
 |a::as,_,hb,hv=>by
  simp only[VE]at hv⊢;simp only[dG,aC]at hb;obtain⟨v,vs',h1,rfl,h2⟩:=hv;exact⟨v,vs',tK hi hb.1 h1,rfl,D' hi hb.2 h2⟩
theorem Ks{m:Nat}:∀{es:List AV}(k:Nat),dG i m es=true->dG i m (es.drop k)=true
 |[],_,_=>by simp[dG]
 |a::es,0,h=>by simpa using h
 |a::es,k+1,h=>by
  simp only[dG,aC]at h;simpa using Ks k h.2
theorem J3{m:Nat}:∀{es:List (AV×AV)},pd i m es=true->dG i m (es.map (·.1))=true/\dG i m (es.map (·.2))=true
 |[],_=>⟨rfl,rfl⟩
 |(a,b)::es,h=>by
  simp only[pd,aC]at h;obtain⟨h1,h2⟩:=J3 h.2;simp only[cv,dG,aC];exact⟨⟨h.1.1,h1⟩,⟨h.1.2,h2⟩⟩
theorem DS{m:Nat}:∀{h:List Ob}{j:Nat}{o:Ob},ew i m h=true->h[j]? =some o->mV i m o=true
 |[],_,_,_,hi=>by simp at hi
 |a::h,0,o,hb,hi=>by
  simp only[ew,aC]at hb
  simp at hi;subst hi;exact hb.1
 |a::h,j+1,o,hb,hi=>by
  simp only[ew,aC]at hb;exact DS hb.2 (by simpa using hi)
theorem Inv.reset(H:Inv P Γ N g h w)(hi:h[i]? =some (.row k E es (some 0) fl sh))(hv:ew i es.length h=true):Inv P Γ N g (h.set i (.row k E es none fl sh)) w:=by
 have hE0:Ext 0 g h g (h.set i (.row k E es none fl sh)):=Ext.zero (fun _ _ _ x=>x) (fun _ _ x=>x);refine⟨H.os,H.tape,H.output,H.eG,H.own,H.inj,fun j hj=>H.n7 j (by simpa using hj),H.mem,H.mm,?_,?_,?_,H.mK,H.iz,H.km⟩
 ·intro j b sz st o v hj hM;obtain⟨k',E',es',gr,fl',h3,h4⟩:=H.dX j b sz st o v hj hM
  by_cases hji:j=i
  ·subst hji;rw[hi]at h3;simp only[al,Ob.row.injEq]at h3;obtain⟨rfl,rfl,rfl,rfl,rfl,rfl⟩:=h3;exact⟨_,_,_,none,_,gn (bj hi),h4⟩
  ·exact⟨k',E',es',gr,fl',by rw[dK (fun e=>hji e.symm)];exact h3,h4⟩
 ·intro j o hj
  by_cases hji:j=i
  ·subst hji;rw[gn (bj hi)]at hj;simp only[al]at hj;subst hj;have ho:=H.ob j _ hi;have hvo:=DS hv hi;simp only[mV]at hvo;simp only[OV]at ho⊢;obtain⟨h1,h2,h3,h4,h5⟩:=ho;refine⟨h1,h2,h3,by simp,?_⟩
   cases hr:g.ρ j with
   |none=>rw[hr]at h5;exact h5
   |some y=>
    obtain⟨b,sz,st⟩:=y;rw[hr]at h5;simp only at h5⊢;obtain⟨h6,c,E',fz,vs,h7,h8,h9,h10,h11⟩:=h5;refine⟨h6,c,E',fz,vs,h7,h8,h9,?_,h11⟩;simp only[gZ,sB,dV]at h10⊢
    cases fl with
    |true=>exact fg hE0 (h_ (h3 rfl)) h10
    |false=>exact D' hi (by simpa using hvo) h10
  ·rw[dK (fun e=>hji e.symm)]at hj;have ho:=H.ob j o hj;have hvo:=DS hv hj
   cases o with
   |gone=>trivial
   |cells vs=>
    intro b sz st hb';obtain⟨c,E,fz,h1,h2,h3⟩:=ho b sz st hb';exact⟨c,E,fz,h1,h2,kz hi (by simpa only [mV]using hvo) h3⟩
   |row k2 E2 es2 gr2 fl2 sh2=>
    simp only[mV]at hvo;simp only[OV]at ho⊢;obtain⟨h1,h2,h3,h4,h5⟩:=ho;refine⟨h1,h2,h3,h4,?_⟩
    cases hr:g.ρ j with
    |none=>rw[hr]at h5;exact h5
    |some y=>
     obtain⟨b,sz,st⟩:=y;rw[hr]at h5;simp only at h5⊢;obtain⟨h6,c,E',fz,vs,h7,h8,h9,h10,h11⟩:=h5;refine⟨h6,c,E',fz,vs,h7,h8,h9,?_,h11⟩
     cases fl2 with
     |true=>exact fg hE0 (zj _ (h_ (h3 rfl))) h10
     |false=>exact D' hi (Ks _ (by simpa using hvo)) h10
   |map es fl=>
    obtain⟨h1,h3⟩:=ho;refine⟨h1,fun b sz st hb'=>?_⟩;obtain⟨bd,ck,h4,h5,h6⟩:=h3 b sz st hb';obtain⟨q1,q2⟩:=J3 (by simpa only [mV]using hvo);exact⟨bd,ck,h4,kz hi q1 h5,kz hi q2 h6⟩
   |gC s p=>exact ho
   |loop st q fn t ps a b=>
    intro bk sz sta hb';obtain⟨L,h1,h2,h3,h4,h5,h6⟩:=ho bk sz sta hb';exact⟨L,h1,h2,h3,h4,kz hi (by simpa only [mV]using hvo) h5,h6⟩
   |bB live=>exact ho
 ·intro n a hn;obtain⟨h1,vs,h2,h3⟩:=H.j5 n a hn;exact⟨h1,vs,b_ hE0 h1 h2,h3⟩
theorem Ext.reset{n:Nat}(hn:n<=i)(o:Ob):Ext n g h g (h.set i o):=by
 have hget:∀{j x},j<n->h[j]? =some x->(h.set i o)[j]? =some x:=fun{j x} hj hx=>by rw[dK (by omega)];exact hx
 exact⟨fun _ _ _ x=>x,fun _ _ x=>x,fun i vs hn hi=>⟨⟨_,hget hn hi⟩,fun _ x=>x⟩,fun i es fl hn hi=>⟨⟨_,_,hget hn hi⟩,fun _ x=>x⟩,fun i s p hn hi=>⟨⟨_,_,hget hn hi⟩,fun _ x=>x⟩,
  fun i st j fn t ps a b hn hi=>⟨⟨_,_,hget hn hi⟩,fun _ x=>x⟩,fun i l hn hi=>⟨⟨_,hget hn hi⟩,fun _ x=>x⟩,
  fun i k E es gr fl sh hn hi=>⟨_,_,_,_,_,hget hn hi,aU _,fun _ _ _ hk=>⟨hk,rfl,fun _ x=>x⟩⟩⟩
end
end Go.AM
