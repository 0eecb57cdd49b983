/- The abstract machine: each step of a frame that runs. -/
import Derived.Test.YtihmomicdpkabaaGreatDoorAMb
import Derived.Orders
set_option linter.unusedSimpArgs false
set_option linter.unusedVariables false
namespace Go.AM
open Go.RowKit
section
variable{P:Program}{Γ:Nat->Option AV}{N:Env}{g0:G}{f0:FuncId}{cs0:List Frame}{g:G}{h:List Ob}{w:World}{f:Fr}{up:List Fr}{tmps:Array Value}{todo:List Item}{ds:List Deferred}{kd:CallKind}{ro:Option Nat}{fs:List Frame}
theorem J5{o:Oper}{ao:AO}(hc:bL P o=some ao){t:List AV}(h1:∀k as,ay P Γ t h ao≠.br k as)(h2:ay P Γ t h ao≠.bad):∀c,o.op≠.defer c:=by
 intro c hoc;unfold bL at hc;rw[hoc]at hc;simp only at hc
 split at hc
 ·simp only[aj]at hc;subst hc;simp only[ay]at h1 h2
  split at h1
  ·exact h1 _ _ rfl
  ·rename_i hne
   split at h2
   ·rename_i h3;exact hne _ _ _ h3
   ·exact h2 rfl
 ·simp at hc
theorem Wb{sz:Nat}{p x:AV}{h':List Ob}(hs:tr h sz p x=some h'):h.length<=h'.length:=by
 revert hs
 simp only[tr]
 repeat' split
 all_goals (first
  |(intro hs;simp only[aj]at hs;subst hs;simp)
  |(intro hs;simp at hs))
def pK(h:List Ob):R->Prop
 |.val _ h'|.skip h'=>h.length<=h'.length
 |_=>True
theorem U7{k:Nat}{E:TypeId}{b:Nat}{x:AV}{ys:List AV}{fl:Bool}:pK h (gv h k E b x ys fl):=by
 simp only[gv]
 repeat' split
 all_goals simp [pK]
theorem IX:∀{ps ps':List (Nat×AV)}{h h':List Ob},mX h ps=some (ps',h')->h'.length=h.length
 |[],_,_,_,hp=>by simp only[mX,aj,bN]at hp;rw[hp.2]
 |(i,v)::r,_,h,h',hp=>by
  simp only[mX]at hp
  split at hp
  ·split at hp
   ·rename_i h2;simp only[aj,bN]at hp;obtain⟨_,rfl⟩:=hp;rw[IX h2,jU]
   ·simp at hp
  ·simp at hp
theorem Xf{ty:TypeId}{name:String}{v:AV}{args:List AV}:pK h (mu P Γ h ty name v args):=by
 simp only[mu]
 repeat' split
 all_goals simp [pK]
theorem Ma{t:List AV}{o:AO}:pK h (ay P Γ t h o):=by
 cases o<;>simp only[ay]
 all_goals (repeat' split)
 all_goals first
  |exact U7
  |exact Xf
  |trivial
  |(simp[pK,jU];done)
  |(simp only[pK];exact Wb (by assumption))
  |(simp only[pK];have:=IX (by assumption);simp;omega)
theorem AZ:V g h (.aG []) Go.undef:=by simp only[V,VL];exact⟨[],rfl,rfl⟩
theorem J7:∀{ps:List Nat}{as t:List AV}{us:List Value}{tmps:Array Value},VL g h t tmps.toList->VL g h as us->as.length=ps.length->
 VL g h (jD t ps as) ((ps.zip us).foldl (fun(tmps:Array Value) (x:Nat×Value)=>tmps.setIfInBounds x.1 x.2) tmps).toList
 |[],_,_,_,_,ht,_,_=>by simpa[jD]using ht
 |p::ps,[],_,_,_,_,_,hl=>by simp at hl
 |p::ps,a::as,t,us,tmps,ht,ha,hl=>by
  simp only[VL]at ha;obtain⟨u,us',rfl,h1,h2⟩:=ha;simp only[jD,Rf,wT];exact J7 (by rw[H8];exact oo p ht h1) h2 (by simpa using hl)
theorem WL{o:AG}{os:List AG}{k:List It}{ops:Array Oper}{i:Nat}{rest:List Nat}{k':List Item}
 (S:St P Γ N g0 f0 g h w f up tmps (.inRegion ops (i::rest)::k') ds kd ro fs)(hits:f.its=.ops (o::os)::k)(hmd:f.md=.run)(hw:dt f.t o.guard=some true):
 ∃m',Steps P (lone (aE f.fn tmps (.inRegion ops (i::rest)::k') ds kd ro) (fs++cs0) w) m'/\cR P Γ N g0 f0 cs0 (fg P f up h o os k (ay P Γ f.t h o.op)) m':=by
 have hI:=S.its;rw[hits]at hI;simp only[IR]at hI;obtain⟨hO,hk⟩:=hI
 cases hO with
 |cons h1 hO=>
 have hI2:IR P g h (.ops os::k) (.inRegion ops rest::k'):=⟨hO,hk⟩;obtain⟨op,hop,hcag⟩:=h1;obtain⟨hw1,hcop,hdst⟩:=xP hcag S.t hw;have hs:eP P Γ N g h w (⟨tmps,ds⟩:Act).eval op (ay P Γ f.t h o.op):=J0 (a:=⟨tmps,ds⟩) S.H S.t hcop
 have hnd:=fun x y=>J5 (Γ:=Γ) (h:=h) (t:=f.t) hcop x y
 revert hs hnd
 cases hr:ay P Γ f.t h o.op with
 |val v h'=>
  intro hs hnd;obtain⟨g',w',nx,h2,h3,h4,u,rfl,h6⟩:=hs
  have hlen:h.length<=h'.length:=by have:=Ma (P:=P) (Γ:=Γ) (h:=h) (t:=f.t) (o:=o.op);rw[hr]at this;exact this
  refine⟨_,.one (D5 hop hw1 (Or.inr (hnd (by simp) (by simp))) h2),?_⟩;have S1:=S.mono h3 h4 hlen;rw[<-hdst];refine St.jn (f:={f with its:=.ops os::k,t:=aX f.t o.dst v}) ⟨S1.H,S1.M,?_,mo S1.t h6,S1.ds,S1.kind,S1.is,S1.b,S1.z,S1.s⟩ (by rw[hmd];rfl);have:=S1.its;rw[hits]at this;exact⟨hO,this.2⟩
 |skip h'=>
  intro hs hnd;obtain⟨g',w',nx,h2,h3,h4,h6⟩:=hs;simp only at h6;subst h6
  have hlen:h.length<=h'.length:=by have:=Ma (P:=P) (Γ:=Γ) (h:=h) (t:=f.t) (o:=o.op);rw[hr]at this;exact this
  refine⟨_,.one (V9 hop hw1 (Or.inr (hnd (by simp) (by simp))) h2),?_⟩;have S1:=S.mono h3 h4 hlen;rw[<-hdst];refine St.jn (f:={f with its:=.ops os::k,t:=aX f.t o.dst (.aG [])}) ⟨S1.H,S1.M,?_,mo S1.t AZ,S1.ds,S1.kind,S1.is,S1.b,S1.z,S1.s⟩ (by rw[hmd];rfl);have:=S1.its;rw[hits]at this;exact⟨hO,this.2⟩
 |cX v=>
  intro hs hnd;obtain⟨u,h2,h3⟩:=hs;refine⟨_,.one (ZT hop hw1 (Or.inr (hnd (by simp) (by simp))) h2),?_⟩;exact St.jn (f:={f with md:=.cX v false}) ⟨S.H,S.M,S.its,S.t,S.ds,S.kind,S.is,S.b,S.z,S.s⟩ ⟨u,rfl,h3⟩
 |call c args=>
  intro hs hnd;simp only[fg]
  by_cases hb:au P c=true
  ·rw[if_pos hb];obtain⟨us,h2,h3⟩:=hs hb;refine⟨_,.one (Y4 hop hw1 (Or.inr (hnd (by simp) (by simp))) h2),?_⟩;exact⟨g,w,us.toArray,_::fs,rfl,S.H,S.M,h3,hb,S.sr (by rw[hmd];rfl),by simp⟩
  ·rw[if_neg hb];exact⟨_,.refl _ _,by trivial⟩
 |p_=>
  intro hs hnd;simp only[fg];have hk0:=S.kind
  have S0:∀v up' fs',V g h v (.nilIface)->up'=up->fs'=fs->True:=fun _ _ _ _ _ _=>trivial
  cases hkd:f.kind with
  |round l=>
   simp only[tF,hkd];exact⟨_,.refl _ _,by trivial⟩
  |norm=>
   rw[hkd]at hk0;obtain⟨rfl,rfl⟩:=hk0;simp only[tF,hkd];refine⟨_,.one (Dx hop hw1 hs (Or.inr ⟨by simp[tryRecover,aE],rfl,rfl⟩)),?_⟩;rw[<-hdst];exact St.jn (f:=⟨f.md,f.fn,.ops os::k,aX f.t o.dst .eb,f.ds,.norm,f.base⟩) ⟨S.H,S.M,hI2,mo S.t (by simp[V]),S.ds,⟨rfl,rfl⟩,S.is,S.b,fun e=>by have:=S.z e;exact⟨this.1,rfl⟩,S.s⟩ (by rw[hmd];rfl)
  |br=>
   rw[hkd]at hk0;obtain⟨rfl,rfl⟩:=hk0;simp only[tF,hkd]
   cases up with
   |nil=>have:=(S.z rfl).2;rw[hkd]at this;cases this
   |cons c rest2=>
    have hs0:=S.s;obtain⟨fr,fs',rfl,h1,h2,h3,h4,h5⟩:=hs0;simp only
    have hdone:∀(hno:tryRecover (aE f.fn tmps (.inRegion ops (i::rest)::k') ds .deferred none) (fr::fs'++cs0)=none),
     ∃m',Steps P (lone (aE f.fn tmps (.inRegion ops (i::rest)::k') ds .deferred none) (fr::fs'++cs0) w) m'/\
      cR P Γ N g0 f0 cs0 (.fr ⟨f.md,f.fn,.ops os::k,aX f.t o.dst .eb,f.ds,.br,f.base⟩ (c::rest2) h) m':=by
     intro hno;refine⟨_,.one (Dx hop hw1 hs (Or.inr ⟨hno,rfl,rfl⟩)),?_⟩;rw[<-hdst];exact St.jn (f:=⟨f.md,f.fn,.ops os::k,aX f.t o.dst .eb,f.ds,.br,f.base⟩) ⟨S.H,S.M,hI2,mo S.t (by simp[V]),S.ds,⟨rfl,rfl⟩,S.is,S.b,fun e=>by simp at e,S.s⟩ (by rw[hmd];rfl)
    have hcm:=h1.md
    cases hm:c.md with
    |run=>
     rw[hm]at hcm;simp only[MR]at hcm;exact hdone (by simp[tryRecover,aE,hcm])
    |ret=>
     rw[hm]at hcm;simp only[MR]at hcm;exact hdone (by simp[tryRecover,aE,hcm])
    |cX v rc=>
     rw[hm]at hcm;simp only[MR]at hcm;obtain⟨u,hcm,hvu⟩:=hcm
     cases rc with
     |true=>exact hdone (by simp[tryRecover,aE,hcm])
     |false=>
      simp only;refine⟨_,.one (Dx hop hw1 hs (Or.inl (by simp only[tryRecover,aE,hcm,fh];rfl))),?_⟩;rw[<-hdst];refine St.jn (f:=⟨f.md,f.fn,.ops os::k,aX f.t o.dst v,f.ds,.br,f.base⟩) (fs:={fr with mode:=.panicking [{v:=u,recovered:=true}]}::fs') ⟨S.H,S.M,hI2,mo S.t hvu,S.ds,⟨rfl,rfl⟩,S.is,S.b,fun e=>by simp at e,?_⟩ (by rw[hmd];rfl);refine⟨_,fs',rfl,⟨⟨u,rfl,hvu⟩,h1.fn,h1.its,h1.t,h1.ds,h1.kind,h1.is⟩,?_,h3,h4,h5⟩;simp only[jJ,hm,pP]at h2⊢;exact h2
 |br c args=>
  intro hs hnd;obtain⟨d,h2,h3⟩:=hs;simp only[fg];have hk0:=S.kind
  cases hkd:f.kind with
  |round l=>exact⟨_,.refl _ _,by trivial⟩
  |norm=>
   rw[hkd]at hk0;obtain⟨rfl,rfl⟩:=hk0;refine⟨_,.one (L2 hop hw1 h2),?_⟩;rw[<-hdst];exact St.jn (f:=⟨f.md,f.fn,.ops os::k,aX f.t o.dst (.aG []),.call c args::f.ds,.norm,f.base⟩) ⟨S.H,S.M,hI2,mo S.t AZ,.cons h3 S.ds,⟨rfl,rfl⟩,S.is,S.b,fun e=>by have:=S.z e;rw[hkd]at this;exact this,S.s⟩ (by rw[hmd];rfl)
  |br=>
   rw[hkd]at hk0;obtain⟨rfl,rfl⟩:=hk0;refine⟨_,.one (L2 hop hw1 h2),?_⟩;rw[<-hdst];exact St.jn (f:=⟨f.md,f.fn,.ops os::k,aX f.t o.dst (.aG []),.call c args::f.ds,.br,f.base⟩) ⟨S.H,S.M,hI2,mo S.t AZ,.cons h3 S.ds,⟨rfl,rfl⟩,S.is,S.b,fun e=>by have:=S.z e;rw[hkd]at this;exact this,S.s⟩ (by rw[hmd];rfl)
 |yield l args=>
  intro hs hnd;obtain⟨b,us,h2,h3,h4⟩:=hs;simp only[fg];simp only[V]at h3;obtain⟨⟨st,pj,fn,t,ps,p,q,hi⟩,b',sz,hρ,hbb⟩:=h3;simp only[Value.func.injEq,Fn.yield.injEq]at hbb;obtain⟨rfl,_⟩:=hbb;simp only[hi]
  by_cases hal:args.length=ps.length
  ·rw[if_pos hal];obtain⟨L,hL1,hL2,hL3,hL4,hL5,hL6,hL7,hL8,hL9,_⟩:=vF S.H hρ hi
   have hsz:us.toArray.size=L.params.size:=by
    have:=fm h4;simp only[oZ,this,hal,<-hL6,uk]
   rw[run_yield hL1 hsz]at h2;refine⟨_,.one (ZH hop hw1 (Or.inr (hnd (by simp) (by simp))) h2),?_⟩
   have S2:St P Γ N g0 f0 g h w {md:=.run,fn:=L.fn,its:=[.code p,.beginRound,.code q],t:=jD t ps args,ds:=[],kind:=.round l,base:=h.length} (f::up)
    ((L.params.zip us.toArray).foldl (fun tmps (t,a)=>tmps.setIfInBounds t a) L.tmps) [.code L.assign,.beginRound,.code L.body] [] .normal (some b)
    (aE f.fn tmps (.inRegion ops (i::rest)::k') ds kd ro::fs):=by
    refine⟨S.H,S.M,⟨hL7,hL8,trivial⟩,?_,.nil,⟨rfl,b,rfl,⟨_,_,_,_,_,_,_,hi⟩,sz,hρ⟩,by rw[hL4];exact hL9,aW _,by simp,S.sr (by rw[hmd];rfl)⟩;have:=J7 (us:=us) (tmps:=L.tmps) hL5 h4 hal;rw[<-hL6]at this⊢;rw[<-B9,Array.toList_zip];exact this
   subst hL4;exact S2.jn (md:=.run) rfl
  ·rw[if_neg hal];exact⟨_,.refl _ _,by trivial⟩
 |either=>intro _ _;exact⟨_,.refl _ _,S.jn (by rw[hmd];rfl)⟩
 |bad=>intro _ _;exact⟨_,.refl _ _,by trivial⟩
end
section
variable{P:Program}{Γ:Nat->Option AV}{N:Env}{g0:G}{f0:FuncId}{cs0:List Frame}{g:G}{h:List Ob}{w:World}{f:Fr}{up:List Fr}{tmps:Array Value}{todo:List Item}{ds:List Deferred}{kd:CallKind}{ro:Option Nat}{fs:List Frame}
theorem St.go(S:St P Γ N g0 f0 g h w f up tmps todo ds kd ro fs)(hmd:f.md=.run){its:List It}{todo':List Item}{t:List AV}{tmps':Array Value}(h1:IR P g h its todo')(h2:VL g h t tmps'.toList):
 cR P Γ N g0 f0 cs0 (.fr {f with its:=its,t:=t} up h) (lone (aE f.fn tmps' todo' ds kd ro) (fs++cs0) w):=
 St.jn (f:={f with its:=its,t:=t}) ⟨S.H,S.M,h1,h2,S.ds,S.kind,S.is,S.b,S.z,S.s⟩ (by rw[hmd];rfl)
theorem I5{x:Operand}{gg:FuncId}{us vs:List Value}{l:Nat}{a:Act}(hx:a.eval x=.func (.func gg) us.toArray vs.toArray)(hb:au P gg=true)(w:World):
 ((do let d<-resolve a.eval {callee:=.value x,args:=#[.const (.func (.yield l) #[] #[])],argTypes:=#[]} 0;invoke d.target d.args):Sem Next).run P w=.ok (.enter gg (us++.func (.yield l) #[] #[]::vs).toArray) w:=by
 simp only[resolve,Sem.run_bind,hx,Deferred.ofValue,Sem.run_pure,Result.andThen_ok,invoke,xO hb];congr 2;apply gJ;simp[Act.eval]
theorem Tm(S:St P Γ N g0 f0 g h w f up tmps todo ds kd ro fs)(hmd:f.md=.run){x:AX}{ps:List Nat}{m:List Bool}{a b:ah}{k:List It}(hits:f.its=.code (.rangeFunc x ps m a b)::k):
 ∃m',Steps P (lone (aE f.fn tmps todo ds kd ro) (fs++cs0) w) m'/\cR P Γ N g0 f0 cs0 (gN P Γ f up h (.code (.rangeFunc x ps m a b)::k)) m':=by
 have hI:=S.its;obtain⟨fmd,ffn,fits,ft,fds,fk,fb⟩:=f;simp only at hits hmd hI;subst hits hmd
 cases todo with
 |nil=>simp only[IR]at hI
 |cons im k'=>
 cases im<;>simp only[IR]at hI
 rename_i c;obtain⟨hC,hk⟩:=hI
 cases c<;>simp only[CR]at hC
 rename_i fx qs ca cb;obtain⟨rfl,rfl,hCa,hCb⟩:=hC;have hx:=AT (a:=⟨tmps,ds⟩) S.t fx;simp only[gN]
 split
 ·rename_i gg fs' cs' hv;rw[hv]at hx;simp only[V]at hx;obtain⟨us,vs,hxe,h1,h2⟩:=hx
  by_cases hb:au P gg=true
  ·rw[if_neg (by simp[hb])];have hk0:=S.kind
   cases fk with
   |round l=>
    obtain⟨rfl,b0,rfl,hL⟩:=hk0;obtain⟨⟨st,pj,fn,t,ps',p,q,hi⟩,sz,hρ⟩:=hL;obtain⟨L,hL1,_⟩:=vF S.H hρ hi;obtain⟨g',H',x',hLR⟩:=KP S.H L.defers (oc m S.t) hCa hCb S.is;have S1:=S.mono H' x' (by simp);refine⟨_,.one (Ll (run_enterLoop_inner hL1 ffn tmps qs ca cb) (I5 hxe hb _)),?_⟩;have hI3:IR P g' (h++[.loop .ready .none ffn (c9 m ft) qs.toList a b]) (.iX h.length::k) (.inRangeFunc w.heap.size::k'):=⟨hLR,j0 x' (kQ hk) hk⟩;refine⟨g',_,_,_::fs,rfl,H',S1.M,?_,hb,St.sr (f:=⟨_,ffn,.iX h.length::k,ft,fds,_,fb⟩) (ds:=[]++ds) ⟨S1.H,S1.M,hI3,S1.t,S1.ds,(by have:=S1.kind;exact this),S1.is,S1.b,S1.z,S1.s⟩ rfl,by simp⟩;refine jW (cp x' (dh h1) h1) ?_;simp only[VL];exact⟨_,_,rfl,Ox hLR,cp x' (dh h2) h2⟩
   |norm|br=>
    obtain⟨rfl,rfl⟩:=hk0;obtain⟨g1,H1,x1,hD⟩:=Y9 S.H;have S1:=S.mono H1 x1 (by simp);obtain⟨g',H',x',hLR⟩:=KP S1.H w.heap.size (oc m S1.t) hCa hCb S1.is;have S2:=S1.mono H' x' (by simp);have hxx:Ext h.length g h g' _:=x1.trans (x'.mono (by simp));have hD':DR g' _ (.mark h.length) _:=EP x' (by simp) hD;refine⟨_,.one (Ll (run_enterLoop_outer ffn tmps qs ca cb) (I5 hxe hb _)),?_⟩;simp only[eQ,fh,ld,bM,b9,dq]at H' x' hLR S2 hxx hD';have hI3:IR P g' (h++[.br true,.loop .ready .none ffn (c9 m ft) qs.toList a b]) (.iX (h.length+1)::k) (.inRangeFunc (w.heap.size+1)::k'):=⟨by simpa using hLR,j0 hxx (kQ hk) hk⟩
    refine⟨g',_,_,_::fs,rfl,H',S2.M,?_,hb,St.sr (f:=⟨_,ffn,.iX (h.length+1)::k,ft,.mark h.length::fds,_,fb⟩) ⟨S2.H,S2.M,hI3,S2.t,.cons hD' S2.ds,(by have:=S2.kind;exact this),S2.is,S2.b,S2.z,S2.s⟩ rfl,by simp⟩;refine jW (cp hxx (dh h1) h1) ?_;simp only[VL];refine⟨_,_,rfl,?_,cp hxx (dh h2) h2⟩;have:=Ox hLR;simpa using this
  ·rw[if_pos (by simpa using hb)];exact⟨_,.refl _ _,by trivial⟩
 ·exact⟨_,.refl _ _,by trivial⟩
theorem WQ(S:St P Γ N g0 f0 g h w f up tmps todo ds kd ro fs)(hmd:f.md=.run):
 ∃m',Steps P (lone (aE f.fn tmps todo ds kd ro) (fs++cs0) w) m'/\cR P Γ N g0 f0 cs0 (gN P Γ f up h f.its) m':=by
 have hI:=S.its
 cases hits:f.its with
 |nil=>
  rw[hits]at hI
  cases todo with
  |nil=>simp only[gN];exact Dc S rfl
  |cons im k'=>simp only[IR]at hI
 |cons it k=>
  rw[hits]at hI
  cases todo with
  |nil=>cases it<;>simp only[IR]at hI
  |cons im k'=>
  cases it with
  |code a=>
   cases im<;>simp only[IR]at hI
   rename_i c;obtain⟨hC,hk⟩:=hI
   cases a with
   |skip=>
    cases c<;>simp only[CR]at hC
    ·exact⟨_,.one aaW,S.go hmd hk S.t⟩
    ·exact⟨_,.one Zp,S.go hmd hk S.t⟩
   |ae gs=>
    cases c<;>try (simp only[CR]at hC;done)
    rename_i id ops draw
    cases draw<;>simp only[CR]at hC
    ·exact⟨_,.one WT,S.go hmd (its:=.ops gs::k) ⟨aaL hC,hk⟩ S.t⟩
   |aQ l ws gs=>exact⟨_,.refl _ _,by trivial⟩
   |ea as gs=>exact⟨_,.refl _ _,by trivial⟩
   |seq a b=>
    cases c<;>simp only[CR]at hC
    exact⟨_,.one acx,S.go hmd (its:=.code a::.code b::k) ⟨hC.1,hC.2,hk⟩ S.t⟩
   |cond x a b=>
    cases c<;>simp only[CR]at hC
    rename_i y ca cb;obtain⟨rfl,hCa,hCb⟩:=hC;have hx:=AT (a:=⟨tmps,ds⟩) S.t y;simp only[gN]
    split
    ·rename_i v hv;rw[hv]at hx;refine⟨_,.one (aao (kJ hx)),S.go hmd (its:=.code (if v then a else b)::k) ⟨?_,hk⟩ S.t⟩
     cases v
     ·exact hCb
     ·exact hCa
    ·exact⟨_,.refl _ _,by trivial⟩
   |block id m a=>
    cases c<;>simp only[CR]at hC
    obtain⟨rfl,hC⟩:=hC;exact⟨_,.one ZI,S.go hmd (its:=.code a::.inBlock _ m::k) ⟨hC,rfl,hk⟩ S.t⟩
   |loop m a=>
    cases c<;>simp only[CR]at hC
    exact⟨_,.one aar,S.go hmd (its:=.code a::.inLoop m a::k) ⟨hC,hC,hk⟩ (oc m S.t)⟩
   |rangeFunc x ps m a b=>exact Tm S hmd hits
   |exit id=>
    cases c<;>simp only[CR]at hC
    subst hC;rename_i id;have he:=pk (id:=id) hk;simp only[gN]
    split
    ·rename_i q m hq;rw[hq]at he;obtain⟨q',hq',hIq⟩:=he;exact⟨_,.one (Z7 hq'),S.go hmd hIq (oc m S.t)⟩
    ·rename_i hq;rw[hq]at he;exact Dc S ⟨k',rfl,he⟩
   |ret=>
    cases c<;>simp only[CR]at hC
    simp only[gN];exact Dc S ⟨k',rfl⟩
   |bad=>exact⟨_,.refl _ _,by trivial⟩
  |inBlock i m=>
   cases im<;>simp only[IR]at hI
   exact⟨_,.one Wj,S.go hmd hI.2 (oc m S.t)⟩
  |inLoop m a=>
   cases im<;>simp only[IR]at hI
   exact⟨_,.one Xi,S.go hmd (its:=.code a::.inLoop m a::k) ⟨hI.1,hI.1,hI.2⟩ (oc m S.t)⟩
  |ops os=>
   cases im<;>simp only[IR]at hI
   rename_i ops todo
   cases os with
   |nil=>
    cases hI.1
    exact⟨_,.one UG,S.go hmd hI.2 S.t⟩
   |cons o os=>
    cases todo with
    |nil=>cases hI.1
    |cons i rest=>
     simp only[gN]
     split
     ·rename_i hw;exact WL S hits hmd hw
     ·rename_i hw
      cases hI.1 with
      |cons h1 hO=>
      obtain⟨op,hop,hcag⟩:=h1;obtain⟨hw1,hcop,hdst⟩:=xP hcag S.t hw;refine⟨_,.one (XI hop hw1),?_⟩;rw[<-hdst];exact S.go hmd (its:=.ops os::k) ⟨hO,hI.2⟩ (mo S.t AZ)
     ·exact⟨_,.refl _ _,by trivial⟩
  |iX l=>exact⟨_,.refl _ _,by trivial⟩
  |sX l=>
   cases im<;>simp only[IR]at hI
   rename_i b;obtain⟨⟨hl,sz,hρ⟩,hk⟩:=hI;simp only[gN]
   split
   ·rename_i st j fn t ps p q hi;obtain⟨L,hL1,hL2,hL3,hL4,hL5,hL6,hL7,hL8,hL9,hset⟩:=vF S.H hρ hi
    by_cases hst:st=.busy
    ·rw[if_pos hst];exact⟨_,.refl _ _,by trivial⟩
    ·rw[if_neg hst];obtain⟨H',x⟩:=hset .exhausted j L.pending hL3;have S1:=S.mono H' x (by simp);have hk1:=j0 x (kQ hk) hk;refine⟨_,.one (Vk (run_endLoop hL1 (by rw[hL2];exact hst))),S1.go hmd ?_ S1.t⟩
     cases j with
     |none=>simp only[JR]at hL3;rw[hL3];exact hk1
     |ret=>simp only[JR]at hL3;rw[hL3];exact⟨trivial,hk1⟩
     |exit id=>simp only[JR]at hL3;rw[hL3];exact⟨rfl,hk1⟩
   ·exact⟨_,.refl _ _,by trivial⟩
  |beginRound=>
   cases im<;>simp only[IR]at hI
   simp only[gN]
   split
   ·rename_i l hkd;have hk0:=S.kind;rw[hkd]at hk0;obtain⟨rfl,b,rfl,hl,sz,hρ⟩:=hk0
    split
    ·rename_i j fn t ps p q hi;obtain⟨L,hL1,hL2,hL3,hL4,hL5,hL6,hL7,hL8,hL9,hset⟩:=vF S.H hρ hi;obtain⟨H',x⟩:=hset .busy j L.pending hL3;have S1:=S.mono H' x (by simp);have hk1:=j0 x (kQ hI) hI;exact⟨_,.one (TX (run_beginRound hL1 hL2)),S1.go hmd hk1 S1.t⟩
    ·exact⟨_,.refl _ _,by trivial⟩
   ·exact⟨_,.refl _ _,by trivial⟩
end
section
variable{P:Program}{Γ:Nat->Option AV}{N:Env}{g0:G}{f0:FuncId}{cs0:List Frame}{g:G}{h:List Ob}{w:World}{f:Fr}{up:List Fr}{tmps:Array Value}{todo:List Item}{ds:List Deferred}{kd:CallKind}{ro:Option Nat}{fs:List Frame}
theorem Uw(H:Inv P Γ N g h w){t:List AV}(ht:VL g h t tmps.toList){r:ResultVar}{a:oF}(hc:nn P r=some a){v:AV}(hv:ta Γ t h a=some v):
 ∃u,(match r with|.tmp t=>pure (tmps.getD t undef)|.cell a t=>do loadVar t (<-asAddr (tmps.getD a undef)):Sem Value).run P w=.ok u w/\V g h v u:=by
 cases r with
 |tmp i=>
  simp only[nn,aj]at hc;subst hc;simp only[ta,aj]at hv;subst hv;exact⟨_,rfl,by have:=q9 i ht;simpa using this⟩
 |cell i ty=>
  simp only[nn,nN]at hc
  cases ha:fG P ty with
  |none=>simp[ha]at hc
  |some ag=>
   cases hs:bp P ty with
   |none=>simp[ha,hs]at hc
   |some sz=>
    simp[ha,hs]at hc;subst hc;simp only[ta]at hv;have hp:=q9 i ht;obtain⟨ad,u,h1,h2,h3⟩:=CV H ha hs hp hv;refine⟨u,?_,h3⟩
    have h4:tmps.getD i undef=.pointer (some ad):=by rw[<-h1];simp
    have has:(asAddr (.pointer (some ad))).run P w=.ok ad w:=rfl;simp only[h4,Sem.run_bind,has,Result.andThen_ok,h2]
theorem II(H:Inv P Γ N g h w){t:List AV}(ht:VL g h t tmps.toList):∀{rs:List ResultVar}{as:List oF},rs.mapM (nn P)=some as->∀{vs:List AV},qR Γ t h as=some vs->
 ∃us,(rs.mapM (m:=Sem) fun|.tmp t=>pure (tmps.getD t undef)|.cell a t=>do loadVar t (<-asAddr (tmps.getD a undef))).run P w=.ok us w/\VL g h vs us
 |[],as,hc,vs,hv=>by
  simp at hc;subst hc
  simp only[qR,aj]at hv;subst hv;exact⟨[],by simp,by simp[VL]⟩
 |r::rs,as,hc,vs,hv=>by
  rw[qg]at hc
  cases ha:nn P r with
  |none=>simp[ha]at hc
  |some a=>
   cases hl:rs.mapM (nn P)with
   |none=>simp[ha,hl]at hc
   |some as'=>
    simp[ha,hl]at hc;subst hc;simp only[qR]at hv
    split at hv
    ·rename_i v vs' h1 h2;simp only[aj]at hv;subst hv;obtain⟨u,h3,h4⟩:=Uw H ht ha h1;obtain⟨us,h5,h6⟩:=II H ht hl h2;refine⟨u::us,?_,by simp only[VL];exact⟨_,_,rfl,h4,h6⟩⟩;simp only[qg,Sem.run_bind,h3,h5,Result.andThen_ok,Sem.run_pure]
    ·simp at hv
theorem TV(H:Inv P Γ N g h w){t:List AV}(ht:VL g h t tmps.toList){fn:Func}{as:List oF}(hc:fn.results.toList.mapM (nn P)=some as){v:AV}(hv:zC Γ t h as=some v):
 ∃u,(results fn tmps).run P w=.ok u w/\V g h v u:=by
 unfold zC at hv
 cases hl:qR Γ t h as with
 |none=>simp[hl]at hv
 |some vs=>
  obtain⟨us,h1,h2⟩:=II H ht hc hl;rw[hl]at hv
  have h3:∀x,(if hx:us.toArray.size=1 then us.toArray[0]else .tuple us.toArray)=x->(results fn tmps).run P w=.ok x w:=by
   intro x hx;subst hx;simp only[results,Array.mapM_eq_mapM_toList,Sem.run_bind,Sem.run_map,Sem.run_pure];exact congrArg (fun(r:Result (List Value))=>(r.andThen fun a w'=>Result.ok a.toArray w').andThen fun a w'=>Result.ok (if h:a.size=1 then a[0]else Value.tuple a) w') h1
  cases vs with
  |nil=>
   simp only[aj]at hv;subst hv;simp only[VL]at h2;subst h2;exact⟨_,h3 _ rfl,by simp only[V,VL];exact⟨[],rfl,rfl⟩⟩
  |cons a vs=>
   cases vs with
   |nil=>
    simp only[aj]at hv;subst hv;simp only[VL]at h2;obtain⟨u,_,rfl,h4,rfl⟩:=h2;exact⟨u,h3 _ rfl,h4⟩
   |cons b vs=>
    simp only[aj]at hv;subst hv;have hlen:=fm h2;refine⟨.tuple us.toArray,h3 _ ?_,by simp only[V];exact⟨us,rfl,h2⟩⟩;rw[dif_neg (by simp[hlen])]
theorem J6{c:FuncId}{F:aB}(hc:aA P c=some F):∃fn b,P.funcs[c]? =some fn/\fn.body=some b/\CR P b F.body/\F.nt=fn.ntmps/\fn.results.toList.mapM (nn P)=some F.res:=by
 simp only[aA,nN]at hc
 cases hf:P.funcs[c]? with
 |none=>simp[hf]at hc
 |some fn=>
  cases hb:fn.body with
  |none=>simp[hf,hb]at hc
  |some b=>
   cases hr:fn.results.toList.mapM (nn P)with
   |none=>simp[hf,hb,hr]at hc
   |some rs=>
    simp[hf,hb,hr]at hc;subst hc;exact⟨fn,b,rfl,hb,n6 P _ _ _ _ _ _ (n7 P b),rfl,hr⟩
theorem aaK{as:List AV}{us:Array Value}{n:Nat}(h1:VL g h as us.toList):VL g h (as++List.replicate (n-as.length) .undef) (us++Array.replicate (n-us.size) undef).toList:=by
 have:=fm h1;simp only[uk]at this;rw[Array.toList_append,Array.toList_replicate,this];exact jW h1 (Lw _ _ (by simp))
theorem X8{c:FuncId}{fn:Func}{b:Code}(hf:P.funcs[c]? =some fn)(hb:fn.body=some b)(us:Array Value)(k:CallKind):
 Frame.enter P c us k=aE c (us++Array.replicate (fn.ntmps-us.size) undef) [.code b] [] k none:=by
 simp[Frame.enter,aE,hf,hb]
theorem LY(H:Inv P Γ N g h w)(hM:∀b o v,g0.M b o=some v->g.M b o=some v){c:FuncId}{F:aB}(hc:aA P c=some F){as:List AV}{us:Array Value}(ha:VL g h as us.toList){kind:FK}{k:CallKind}(hk:KR g h kind k none)
 (hz:up=[]->c=f0/\kind=.norm)(hs:SR P g h f0 h.length up fs):cR P Γ N g0 f0 cs0 (.fr (enter c F as kind h) up h) (lone (Frame.enter P c us k) (fs++cs0) w):=by
 obtain⟨fn,b,hf,hb,hC,hn,_⟩:=J6 hc;rw[X8 hf hb];have hI:IR P g h [.code F.body] [.code b]:=⟨hC,trivial⟩;refine St.jn (f:=enter c F as kind h) ⟨H,hM,hI,?_,.nil,hk,⟨fn,hf⟩,aW _,hz,hs⟩ rfl;simp only[enter,hn];exact aaK ha
theorem KS(S:St P Γ N g0 f0 g h w f up tmps todo ds kd ro fs){md:FrameMode}(hm:MR g h f.md md)(hne:f.md≠.run):
 ∃m',Steps P (lone (aE f.fn tmps todo ds kd ro md) (fs++cs0) w) m'/\cR P Γ N g0 f0 cs0 (mj P Γ f up h) m':=by
 obtain⟨fmd,ffn,fits,ft,fds,fk,fb⟩:=f;simp only at hm hne
 have hmd:md≠.run:=by
  cases fmd<;>simp only[MR]at hm
  ·exact absurd rfl hne
  ·rw[hm];simp
  ·obtain⟨_,hm,_⟩:=hm;rw[hm];simp
 have hds:=S.ds;simp only at hds
 cases hds with
 |cons h1 h2=>
  rename_i d d' fds ds
  cases d with
  |mark i=>
   simp only[mj]
   split
   ·rename_i hi;obtain⟨_,b,sz,hρ,rfl⟩:=h1;have hb:=S.H.ob i _ hi b sz 0 hρ;simp only[cu]at hb;have hk:sameKind (.br true) (.br false):=trivial;have hE:=Ext.sS (g:=g) hi hk
    have H':Inv P Γ N g (h.set i (.br false)) (w.putObj b (.deferred none)):=Inv.wq S.H hi hρ hk (by
     intro b' sz' st'' hb';rw[hρ]at hb';simp only[aj,bN]at hb';obtain⟨rfl,_⟩:=hb'
     exact vp _ (S.H.own i b _ hρ).2)
    have S1:=S.mono H' hE (by simp);refine⟨_,.one (aaM hmd (run_takeDeferred hb)),?_⟩;have tT:=S1.ds
    cases tT with
    |cons _ hd2=>
    refine St.jn (f:=⟨fmd,ffn,fits,ft,fds,fk,fb⟩) ⟨S1.H,S1.M,S1.its,S1.t,hd2,S1.kind,S1.is,S1.b,S1.z,S1.s⟩ (MF hE ?_ hm)
    cases fmd<;>simp only[MR,pP]at hm⊢
    obtain⟨_,_,hm⟩:=hm;exact j9 hm
   ·exact⟨_,.refl _ _,by trivial⟩
  |call c args=>
   simp only[mj]
   by_cases hb:au P c=true
   ·rw[if_neg (by simp[hb])]
    split
    ·rename_i F hF;obtain⟨cap,ht,ha⟩:=h1
     have hinv:(invoke d'.target d'.args).run P w=.ok (.enter c (d'.args++cap)) w:=by
      rw[ht];simp only[invoke,xO hb]
     refine⟨_,.one (aas hmd (by rw[ht];simp) (by rw[ht];simp) hinv),?_⟩;refine LY (up:=⟨fmd,ffn,fits,ft,fds,fk,fb⟩::up) (fs:=aE ffn tmps todo ds kd ro md::fs) S.H S.M hF ha (kind:=.br) ⟨rfl,rfl⟩ (by simp) ?_;exact St.sr (f:=⟨fmd,ffn,fits,ft,fds,fk,fb⟩) ⟨S.H,S.M,S.its,S.t,h2,S.kind,S.is,S.b,S.z,S.s⟩ hm
    ·exact⟨_,.refl _ _,by trivial⟩
   ·rw[if_pos (by simpa using hb)];exact⟨_,.refl _ _,by trivial⟩
 |nil=>
  simp only[mj];obtain⟨fn,hfn⟩:=S.is;simp only at hfn
  cases fmd with
  |run=>exact absurd rfl hne
  |cX v rc=>
   cases rc with
   |true=>exact⟨_,.refl _ _,by trivial⟩
   |false=>
    simp only[MR]at hm;obtain⟨u,rfl,hvu⟩:=hm;simp only[dX,de]
    cases up with
    |nil=>
     have hs:=S.s;simp only[SR]at hs;subst hs;exact⟨_,.refl _ _,g,w,u,_,rfl,S.H,S.M,hvu,(S.z rfl).1,rfl,rfl,fn,hfn⟩
    |cons c up=>
     have hs:=S.s;obtain⟨fr,fs',rfl,h1,h2,h3,h4,h5⟩:=hs;refine⟨_,.one (Xj hfn),g,w,u,fr,fs',rfl,S.H,S.M,hvu,?_⟩;exact fR (Ext.refl _ _ _) S.b ⟨fr,fs',rfl,h1,h2,h3,h4,h5⟩
  |ret=>
   simp only[MR]at hm;subst hm;simp only
   split
   ·rename_i F hF
    split
    ·rename_i v hv;obtain⟨fn',b,hf',hb,hC,hn,hres⟩:=J6 hF;obtain⟨u,h1,h2⟩:=TV S.H S.t hres hv;have hk0:=S.kind
     cases fk with
     |norm=>
      obtain⟨rfl,rfl⟩:=hk0
      cases up with
      |nil=>
       have hs:=S.s;simp only[SR]at hs;subst hs;exact⟨_,.refl _ _,g,w,u,_,rfl,S.H,S.M,h2,(S.z rfl).1,rfl,rfl,rfl,fn',hf',h1⟩
      |cons c up=>
       have hs:=S.s;obtain⟨fr,fs',rfl,h3,h4,h5,h6,h7⟩:=hs;refine⟨_,.one (X6 hf' h1),Eo S.H S.M h2 ?_⟩;exact fR (Ext.refl _ _ _) S.b ⟨fr,fs',rfl,h3,h4,h5,h6,h7⟩
     |br=>
      obtain⟨rfl,rfl⟩:=hk0
      cases up with
      |nil=>exact⟨_,.refl _ _,by trivial⟩
      |cons c up=>
       have hs:=S.s;have hsr:SR P g h f0 h.length (c::up) fs:=fR (Ext.refl _ _ _) S.b hs;obtain⟨fr,fs',rfl,h3,h4,h5,h6,h7⟩:=hsr;simp only;have hcm:=h3.md;obtain⟨cmd,cfn,cits,ct,cds,ck,cb⟩:=c
       cases cmd with
       |run=>exact⟨_,.refl _ _,by trivial⟩
       |ret=>
        simp only[MR]at hcm;exact⟨_,.one (DC hf' h1 (Or.inr ⟨Or.inl hcm,rfl⟩)),g,w,_,fs',rfl,S.H,S.M,fr,fs',rfl,h3,h4,h5,h6,h7⟩
       |cX v2 rc=>
        simp only[MR]at hcm;obtain⟨u2,hcm,hvu⟩:=hcm
        cases rc with
        |false=>exact⟨_,.one (DC hf' h1 (Or.inr ⟨Or.inr ⟨_,hcm⟩,rfl⟩)),g,w,_,fs',rfl,S.H,S.M,fr,fs',rfl,h3,h4,h5,h6,h7⟩
        |true=>
         refine⟨_,.one (DC hf' h1 (Or.inl ⟨_,hcm,rfl⟩)),g,w,_,fs',rfl,S.H,S.M,_,fs',rfl,⟨rfl,h3.fn,h3.its,h3.t,h3.ds,h3.kind,h3.is⟩,?_,h5,h6,h7⟩;simp only[jJ,pP,aw]at h4⊢;exact⟨h4.1,trivial⟩
     |round l=>exact⟨_,.refl _ _,by trivial⟩
    ·exact⟨_,.refl _ _,by trivial⟩
   ·exact⟨_,.refl _ _,by trivial⟩
theorem Us{c c':Fr}{v:AV}{u:Value}{fr:Frame}(hf:c.finish v=some c')(hr:kc P g h c fr)(hv:V g h v u):kc P g h c' (fr.finish u)/\c'.base=c.base/\c'.fn=c.fn/\c'.kind=c.kind:=by
 obtain⟨cmd,cfn,cits,ct,cds,ck,cb⟩:=c;obtain⟨fn,tmps,todo,ds,md,kd,ro⟩:=fr;obtain⟨r1,r2,r3,r4,r5,r6,r7⟩:=hr;simp only at r1 r2 r3 r4 r5 r6 r7;subst r2;unfold Fr.finish at hf;simp only at hf
 split at hf
 ·rename_i o os k;simp only[aj]at hf;subst hf
  cases todo with
  |nil=>simp only[IR]at r3
  |cons im k'=>
  cases im<;>simp only[IR]at r3
  rename_i ops todo;obtain⟨r31,r32⟩:=r3
  cases r31 with
  |cons h1 hO=>
  rename_i i rest;obtain⟨op,hop,hcag⟩:=h1
  have hdst:o.dst=op.dst:=by
   unfold mI at hcag
   cases hg:Ap ops.toList op with
   |none=>simp[hg]at hcag
   |some gd=>
    cases hcop:bL P op with
    |none=>simp[hg,hcop]at hcag
    |some ao=>simp[hg,hcop]at hcag;rw[<-hcag]
  have hfin:({fn:=fn,tmps:=tmps,todo:=.inRegion ops (i::rest)::k',defers:=ds,mode:=md,kind:=kd,roundOf:=ro}:Frame).finish u=
   {fn:=fn,tmps:=k5 tmps op.dst u,todo:=.inRegion ops rest::k',defers:=ds,mode:=md,kind:=kd,roundOf:=ro}:=by
   simp only[Frame.finish,k5,hop,jQ]
   cases op.dst<;>rfl
  rw[hfin];refine⟨⟨r1,rfl,⟨hO,r32⟩,?_,r5,r6,r7⟩,rfl,rfl,rfl⟩;rw[<-hdst];exact mo r4 hv
 ·rename_i l k;simp only[aj]at hf;subst hf
  cases todo with
  |nil=>simp only[IR]at r3
  |cons im k'=>
  cases im<;>simp only[IR]at r3
  exact⟨⟨r1,rfl,r3,r4,r5,r6,r7⟩,rfl,rfl,rfl⟩
 ·simp at hf
theorem Wf{c:ar}{m:Machine}(hs:cR P Γ N g0 f0 cs0 c m):∃m',Steps P m m'/\cR P Γ N g0 f0 cs0 (eS P Γ c) m':=by
 cases c with
 |fr f up h=>
  obtain⟨g,w,tmps,todo,ds,kd,ro,md,fs,rfl,S,hm⟩:=hs.inv
  cases hmd:f.md with
  |run=>
   rw[hmd]at hm;simp only[MR]at hm;subst hm;simp only[eS,hmd];exact WQ S hmd
  |ret=>simp only[eS,hmd];exact KS S hm (by rw[hmd];simp)
  |cX v rc=>simp only[eS,hmd];exact KS S hm (by rw[hmd];simp)
 |cl c args up h=>
  obtain⟨g,w,vs,fs,rfl,H,hM,ha,hb,hsr,hz⟩:=hs;simp only[eS]
  split
  ·rename_i F hF;exact⟨_,.refl _ _,LY H hM hF ha ⟨rfl,rfl⟩ (fun e=>⟨hz e,rfl⟩) hsr⟩
  ·exact⟨_,.refl _ _,by trivial⟩
 |back up v h=>
  cases up with
  |nil=>exact⟨_,.refl _ _,hs⟩
  |cons c up=>
   obtain⟨g,w,u,fr,fs,rfl,H,hM,hv,hsr⟩:=hs;simp only[eS]
   split
   ·rename_i c' hf;obtain⟨fr',fs',heq,h1,h2,h3,h4,h5⟩:=hsr
    cases heq
    obtain⟨r1,r2,r3,r4⟩:=Us hf h1 hv;exact⟨_,.refl _ _,g,w,_,fs,rfl,H,hM,_,fs,rfl,r1,n8 r1,by rw[r2];exact h3,by rw[r3,r4];exact h4,by rw[r2];exact h5⟩
   ·exact⟨_,.refl _ _,by trivial⟩
 |die up v h=>
  cases up with
  |nil=>exact⟨_,.refl _ _,hs⟩
  |cons c up=>
   obtain⟨g,w,u,fr,fs,rfl,H,hM,hv,hsr⟩:=hs;simp only[eS];obtain⟨cmd,cfn,cits,ct,cds,ck,cb⟩:=c
   cases cmd with
   |run=>
    obtain⟨fr',fs',heq,h1,h2,h3,h4,h5⟩:=hsr
    cases heq
    have hm:=h1.md;simp only[MR]at hm
    have hfr:fr.raise [{v:=u,recovered:=false}]={fr with mode:=.panicking [{v:=u,recovered:=false}]}:=by
     simp only[Frame.raise,hm]
    rw[hfr];have hR:kc P g h ⟨.cX v false,cfn,cits,ct,cds,ck,cb⟩ {fr with mode:=.panicking [{v:=u,recovered:=false}]}:=⟨⟨u,rfl,hv⟩,h1.fn,h1.its,h1.t,h1.ds,h1.kind,h1.is⟩;exact⟨_,.refl _ _,g,w,_,fs,rfl,H,hM,_,fs,rfl,hR,n8 hR,h3,h4,h5⟩
   |ret=>exact⟨_,.refl _ _,by trivial⟩
   |cX v2 rc=>exact⟨_,.refl _ _,by trivial⟩
 |bad=>exact⟨_,.refl _ _,by trivial⟩
end
def ox:AV->Bool
 |.own _ _ es=>aI 0 es
 |a=>aF 0 a
def oi:List AV->Bool
 |[]=>true
 |a::as=>ox a&&oi as
def rn:AV->Bool
 |.aG vs=>oi vs
 |a=>ox a
def aS(P:Program)(Γ:Nat->Option AV)(f:FuncId)(as:List AV)(r:AV):Prop:=
 au P f=true/\(aI 0 as=true->∀(N:Env)(g:G)(h:List Ob)(w:World)(us:List Value),Inv P Γ N g h w->VL g h as us->
  Calls P f us.toArray w fun e w'=>∃u g',e=.returned u/\rn r=true/\Inv P Γ N g' (h++(dE h.length r).2) w'/\V g' (h++(dE h.length r).2) (dE h.length r).1 u/\(∀i,i<h.length->g'.ρ i=g.ρ i)/\
   (∀b o v,g.M b o=some v->g'.M b o=some v)/\(∀b,b<w.heap.size->w'.heap[b]? =w.heap[b]?))
theorem Ext.app{g g':G}{h:List Ob}(os:List Ob)(hρ:∀i,i<h.length->g'.ρ i=g.ρ i)(hM:∀b o v,g.M b o=some v->g'.M b o=some v)(hMM:g'.MM=g.MM):Ext h.length g h g' (h++os):=by
 have hget:∀{i x},h[i]? =some x->(h++os)[i]? =some x:=fun{i x} hx=>by rw[dz (aV hx)];exact hx
 have hρ':∀{i},i<h.length->∀x,g.ρ i=some x->g'.ρ i=some x:=fun hi x hx=>by rw[hρ _ hi];exact hx
 exact⟨hM,fun _ _ x=>by rw[hMM];exact x,fun i vs hn hi=>⟨⟨_,hget hi⟩,hρ' hn⟩,fun i es fl hn hi=>⟨⟨_,_,hget hi⟩,hρ' hn⟩,fun i s p hn hi=>⟨⟨_,_,hget hi⟩,hρ' hn⟩,
  fun i st j fn t ps a b hn hi=>⟨⟨_,_,hget hi⟩,hρ' hn⟩,fun i l hn hi=>⟨⟨_,hget hi⟩,hρ' hn⟩,
  fun i k E es gr fl sh hn hi=>⟨_,_,_,_,_,hget hi,aW _,fun _ _ _ hk=>⟨hk,rfl,hρ' hn⟩⟩⟩
mutual
theorem rq{g g':G}{h h':List Ob}:∀{a:AV}{v:Value},aF 0 a=true->dS a=true->V g h a v->V g' h' a v
 |.undef,_,_,_,_=>by simp[V]
 |.bool _,_,_,_,hv=>by simpa only [V]using hv
 |.int _ _,_,_,_,hv=>by simpa only [V]using hv
 |.str _,_,_,_,hv=>by simpa only [V]using hv
 |.iM,_,_,_,hv=>by simpa only [V]using hv
 |.cY,_,_,_,hv=>by simpa only [V]using hv
 |.db,_,_,_,hv=>by simpa only [V]using hv
 |.eb,_,_,_,hv=>by simpa only [V]using hv
 |.dR _ _,_,_,_,hv=>by simpa only [V]using hv
 |.list full k es,v,_,hn,hv=>by
  simp only[dS,List.isEmpty_iff]at hn;subst hn;simp only[V]at hv⊢;obtain⟨hk,a,cap,rfl,hf,hc,_⟩:=hv;exact⟨hk,a,cap,rfl,hf,hc,Or.inl (by simp)⟩
 |.own _ _ _,_,_,_,hv=>by simp only[V]at hv
 |.sl _ _ _,_,hb,_,_|.ptr _ _,_,hb,_,_|.mp _,_,hb,_,_|.it _,_,hb,_,_|.cQ _,_,hb,_,_=>by simp[aF]at hb
 |.cV a _ _ _,_,hb,hn,hv=>by
  simp only[V]at hv⊢;simp only[aF]at hb;simp only[dS]at hn;obtain⟨u,b,o,h1,h2,h4,rfl⟩:=hv;exact⟨u,b,o,rq hb hn h1,h2,h4,rfl⟩
 |.c8 _ _,_,_,hn,_=>by simp[dS]at hn
 |.agg cs,_,hb,hn,hv=>by
  simp only[V]at hv⊢;simp only[aF]at hb;simp only[dS]at hn;obtain⟨vs,rfl,h1⟩:=hv;exact⟨vs,rfl,vV hb hn h1⟩
 |.aG cs,_,hb,hn,hv=>by
  simp only[V]at hv⊢;simp only[aF]at hb;simp only[dS]at hn;obtain⟨vs,rfl,h1⟩:=hv;exact⟨vs,rfl,vV hb hn h1⟩
 |.fn f a b,_,hb,hn,hv=>by
  simp only[V]at hv⊢;simp only[aF,aw]at hb;simp only[dS,aw]at hn;obtain⟨xs,ys,rfl,h1,h2⟩:=hv;exact⟨xs,ys,rfl,vV hb.1 hn.1 h1,vV hb.2 hn.2 h2⟩
 |.bS t a,_,hb,hn,hv=>by
  simp only[V]at hv⊢;simp only[aF]at hb;simp only[dS]at hn;obtain⟨y,rfl,h1⟩:=hv;exact⟨y,rfl,rq hb hn h1⟩
theorem vV{g g':G}{h h':List Ob}:∀{as:List AV}{vs:List Value},aI 0 as=true->ei as=true->VL g h as vs->VL g' h' as vs
 |[],_,_,_,hv=>by simpa only [VL]using hv
 |a::as,_,hb,hn,hv=>by
  simp only[VL]at hv⊢;simp only[aI,aw]at hb;simp only[ei,aw]at hn;obtain⟨v,vs',rfl,h1,h2⟩:=hv;exact⟨v,vs',rfl,rq hb.1 hn.1 h1,vV hb.2 hn.2 h2⟩
end
theorem Nx{g g':G}{h h':List Ob}:∀{as:List AV}{vs:List Value},aI 0 as=true->ei as=true->VE g h as vs->VE g' h' as vs
 |[],_,_,_,hv=>by simpa only [VE]using hv
 |a::as,_,hb,hn,hv=>by
  simp only[VE]at hv⊢;simp only[aI,aw]at hb;simp only[ei,aw]at hn;obtain⟨v,vs',h1,rfl,h2⟩:=hv;exact⟨v,vs',rq hb.1 hn.1 h1,rfl,Nx hb.2 hn.2 h2⟩
theorem KG(n:Nat)(a:AV):∀o∈(dZ n a).2,∃k E es,o=.row k E es none true false:=by
 cases a<;>simp[dZ]
theorem JD:∀(as:List AV)(n:Nat),∀o∈(bU n as).2,∃k E es,o=.row k E es none true false
 |[],_=>by simp[bU]
 |a::as,n=>by
  simp only[bU,bF]
  rintro o (h|h)
  ·exact KG n a o h
  ·exact JD as _ o h
theorem Wq(n:Nat)(a:AV):∀o∈(dE n a).2,∃k E es,o=.row k E es none true false:=by
 cases a
 case aG vs=>exact JD vs n
 all_goals exact KG n _
theorem Ks(n:Nat){a:AV}(hn:dS a=true):∀k E es g fl sh,Ob.row k E es g fl sh∈(dZ n a).2->ei es=true:=by
 intro k E es g fl sh h
 cases a<;>simp[dZ]at h
 obtain⟨_,_,rfl,_⟩:=h;simpa only [dS]using hn
theorem Jy:∀{as:List AV}(n:Nat),ei as=true->∀k E es g fl sh,Ob.row k E es g fl sh∈(bU n as).2->ei es=true
 |[],_,_=>by simp[bU]
 |a::as,n,hn=>by
  simp only[ei,aw]at hn;simp only[bU,bF]
  rintro k E es g fl sh (h|h)
  ·exact Ks n hn.1 _ _ _ _ _ _ h
  ·exact Jy _ hn.2 _ _ _ _ _ _ h
theorem Wx(n:Nat){a:AV}(hn:dS a=true):∀k E es g fl sh,Ob.row k E es g fl sh∈(dE n a).2->ei es=true:=by
 cases a
 case aG vs=>exact Jy n (by simpa only [dS]using hn)
 all_goals exact Ks n hn
section
variable{P:Program}{Γ:Nat->Option AV}{N:Env}{g:G}{h:List Ob}{w:World}
theorem aaX{g g':G}{h h':List Ob}{n off:Nat}{u:Value}{i:Nat}(hv:V g h (.sl i off n) u)(hi:h'[i]? =h[i]?)(hρ:g'.ρ i=g.ρ i):V g' h' (.sl i off n) u:=by
 simp only[V]at hv⊢;obtain⟨k,E,es,gr,fl,sh,h1,h2⟩:=hv;refine⟨k,E,es,gr,fl,sh,by rw[hi];exact h1,?_⟩;rw[hρ];exact h2
theorem M4{g g':G}{h1 h os:List Ob}(hl:h1.length=h.length)(hρ:g'.ρ=g.ρ){n:Nat}(hn:h.length<=n){a:AV}(hm:dS a=true)(ht:ox a=true){u:Value}(hv:V g (h1++os) (dZ n a).1 u):V g' (h++os) (dZ n a).1 u:=by
 by_cases ho:∃k E es,a=.own k E es
 ·obtain⟨k,E,es,rfl⟩:=ho;simp only[dZ]at hv⊢;refine aaX hv ?_ (by rw[hρ]);rw[dL (by omega),dL (by omega),hl]
 ·have h2:(dZ n a).1=a:=by cases a<;>first|rfl|exact absurd ⟨_,_,_,rfl⟩ ho
  have h3:ox a=aF 0 a:=by cases a<;>first|rfl|exact absurd ⟨_,_,_,rfl⟩ ho
  rw[h2]at hv⊢;rw[h3]at ht;exact rq ht hm hv
theorem LH{g g':G}{h1 h os:List Ob}(hl:h1.length=h.length)(hρ:g'.ρ=g.ρ):∀{as:List AV}{n:Nat}(_:h.length<=n)(_:ei as=true)(_:oi as=true){us:List Value},VL g (h1++os) (bU n as).1 us->VL g' (h++os) (bU n as).1 us
 |[],_,_,_,_,_,hv=>by simpa only [bU,VL]using hv
 |a::as,n,hn,hm,ht,us,hv=>by
  simp only[ei,aw]at hm;simp only[oi,aw]at ht;simp only[bU,VL]at hv⊢;obtain⟨u,us',rfl,h2,h3⟩:=hv;exact⟨u,us',rfl,M4 hl hρ hn hm.1 ht.1 h2,LH hl hρ (by omega) hm.2 ht.2 h3⟩
theorem Zm{g g':G}{h1 h os:List Ob}(hl:h1.length=h.length)(hρ:g'.ρ=g.ρ){a:AV}(hm:dS a=true)(ht:rn a=true){u:Value}(hv:V g (h1++os) (dE h.length a).1 u):V g' (h++os) (dE h.length a).1 u:=by
 by_cases ho:∃vs,a=.aG vs
 ·obtain⟨vs,rfl⟩:=ho;simp only[dE,V]at hv⊢;obtain⟨us,rfl,h2⟩:=hv;exact⟨us,rfl,LH hl hρ (aW _) (by simpa only [dS]using hm) (by simpa only [rn]using ht) h2⟩
 ·have h2:dE h.length a=dZ h.length a:=by cases a<;>first|rfl|exact absurd ⟨_,rfl⟩ ho
  have h3:rn a=ox a:=by cases a<;>first|rfl|exact absurd ⟨_,rfl⟩ ho
  rw[h2]at hv⊢;rw[h3]at ht;exact M4 hl hρ (aW _) hm ht hv
theorem Inv.Me(H:Inv P Γ N g h w){g':G}{h1 os:List Ob}{w':World}(hl:h1.length=h.length)(hρ:∀i,i<h.length->g'.ρ i=g.ρ i)(H':Inv P Γ N g' (h1++os) w')(hM:∀b o v,g.M b o=some v->g'.M b o=some v)
 (hw:∀b,b<w.heap.size->w'.heap[b]? =w.heap[b]?)(hos:∀o∈os,∃k E es,o=.row k E es none true false/\ei es=true):
 Inv P Γ N {ρ:=g'.ρ,M:=g.M,MM:=g.MM} (h++os) w'/\Ext h.length g h {ρ:=g'.ρ,M:=g.M,MM:=g.MM} (h++os):=by
 have hE:Ext h.length g h {ρ:=g'.ρ,M:=g.M,MM:=g.MM} (h++os):=Ext.app os hρ (fun _ _ _ x=>x) rfl;refine⟨⟨H'.os,H'.tape,H'.output,H'.fU,H'.own,H'.inj,?_,?_,?_,?_,?_,?_,H.mK,H.iQ⟩,hE⟩
 ·intro i hi;refine H'.nC i ?_;rw[bM]at hi⊢;omega
 ·intro b o v hv;have h0:=H.mem b o v hv;rw[sB (hw b (uf h0))];exact h0
 ·intro b es ck hb;refine H'.mm b es ck ?_;rw[H'.iQ,<-H.iQ];exact hb
 ·intro i b sz st o v hi hv
  by_cases hil:i<h.length
  ·simp only at hi;rw[hρ i hil]at hi;obtain⟨k,E,es,gr,fl,h3,h4⟩:=H.d_ i b sz st o v hi hv;exact⟨k,E,es,gr,fl,by rw[dz hil];exact h3,h4⟩
  ·obtain⟨k,E,es,gr,fl,h3,h4⟩:=H'.d_ i b sz st o v hi (hM _ _ _ hv);rw[dL (by omega)]at h3;obtain⟨_,_,_,h5,_⟩:=hos _ (gX h3)
   cases h5
 ·intro i o hi
  by_cases hil:i<h.length
  ·rw[dz hil]at hi;exact mf hE (hρ i hil) (fun b y hb=>hw b (H.own i b y hb).2) (H.ob i o hi)
  ·rw[dL (by omega)]at hi;have h2:=H'.ob i o (by rw[dL (by omega),hl];exact hi);obtain⟨k,E,es,rfl,hn⟩:=hos o (gX hi);simp only[OV]at h2⊢;obtain⟨h3,h4,h5,h6,h7⟩:=h2;refine⟨h3,h4,h5,h6,?_⟩
   cases hr:g'.ρ i with
   |none=>rw[hr]at h7;exact h7
   |some x=>
    rw[hr]at h7;obtain⟨b,sz,st⟩:=x;simp only at h7⊢;obtain⟨h8,c,E',fz,vs,h9,h10,h11,h12,h13⟩:=h7;refine⟨h8,c,E',fz,vs,h9,h10,h11,?_,h13⟩;simp only[rV,iu]at h12⊢;exact Nx (iw (h5 (by trivial))) hn h12
 ·intro n a hn;obtain⟨h2,vs,h3,h4⟩:=H.ke n a hn;exact⟨h2,vs,cp hE (dh h3) h3,h4⟩
theorem V_{g0:G}{f0:FuncId}{cs0:List Frame}{c:FuncId}{args as:List AV}{r:AV}{up:List Fr}{m:Machine}(hP:aS P Γ c as r)(hv:bP h args=some as)(hs:cR P Γ N g0 f0 cs0 (.cl c args up h) m):
 ∃m',Steps P m m'/\cR P Γ N g0 f0 cs0 (.back up (dE h.length r).1 (fP h args r)) m':=by
 obtain⟨g,w,vs,fs,rfl,H,hM,ha,hb,hsr,hz⟩:=hs;obtain⟨g1,hρ1,hMM1,hM1,H1,x1,hc1⟩:=mU (bJ args) H;have hV1:=qV H x1 hc1 ha hv;have hbel:=qN H ha hv;have hlen:=jU (bJ args) h;obtain⟨e,w',fr,hR,hsteps,hfn,hleave⟩:=hP.2 hbel N g1 (share (bJ args) h) w vs.toList H1 hV1 (fs++cs0);obtain⟨u,g',rfl,hT,H',hV',hρ',hM',hw'⟩:=hR
 ·rw[hlen]at H' hV' hρ'
  have hρ2:∀i,i<h.length->g'.ρ i=g.ρ i:=fun i hi=>by rw[hρ' i hi,hρ1]
  obtain⟨g2,H2,x2,hV2⟩:∃g2,Inv P Γ N g2 (fP h args r) w'/\Ext h.length g h g2 (fP h args r)/\V g2 (fP h args r) (dE h.length r).1 u:=by
   unfold fP
   by_cases hn:dS r=true
   ·rw[if_pos hn]
    obtain⟨H2,x2⟩:=Inv.Me H hlen hρ2 H' (fun b o v hv=>hM' _ _ _ (hM1 _ _ _ hv)) hw' (by
     intro o ho;obtain⟨k,E,es,rfl⟩:=Wq _ _ o ho
     exact⟨k,E,es,rfl,Wx _ hn _ _ _ _ _ _ ho⟩)
    exact⟨_,H2,x2,Zm (g:=g') (g':={ρ:=g'.ρ,M:=g.M,MM:=g.MM}) hlen rfl hn hT hV'⟩
   ·rw[if_neg hn];refine⟨g',H',?_,hV'⟩;refine x1.trans ?_;have:=Ext.app (g:=g1) (g':=g') (h:=share (bJ args) h) (dE h.length r).2 (by rw[hlen];exact hρ') hM' (by rw[H'.iQ,H1.iQ]);rwa[hlen]at this
  have hlen2:h.length<=(fP h args r).length:=by
   unfold fP
   split<;>simp[hlen]
  have hM2:∀b o v,g0.M b o=some v->g2.M b o=some v:=fun b o v hv=>x2.M _ _ _ (hM _ _ _ hv)
  have hsteps':Steps P (lone (Frame.enter P c vs .normal) (fs++cs0) w) (lone fr (fs++cs0) w'):=hsteps
  cases up with
  |nil=>
   simp only[SR]at hsr;subst hsr;exact⟨_,hsteps',g2,w',u,fr,rfl,H2,hM2,hV2,by rw[hfn];exact hz rfl,hleave⟩
  |cons d up=>
   obtain⟨fr',fs',rfl,h3⟩:=hsr;refine⟨_,hsteps'.trans (.one (step_leave_returned hleave)),Eo H2 hM2 hV2 ?_⟩;exact fR x2 hlen2 ⟨fr',fs',rfl,h3⟩
def kM(P:Program)(Γ:Nat->Option AV)(f:FuncId)(as:List AV)(v:AV):Prop:=
 au P f=true/\aF 0 v=true/\dS v=true/\(aI 0 as=true->∀(N:Env)(g:G)(h:List Ob)(w:World)(us:List Value),Inv P Γ N g h w->VL g h as us->
  Calls P f us.toArray w fun e w'=>∃u g',e=.panicked [{v:=u,recovered:=false}]/\Inv P Γ N g' h w'/\V g' h v u/\(∀i,i<h.length->g'.ρ i=g.ρ i)/\
   (∀b o v,g.M b o=some v->g'.M b o=some v)/\(∀b,b<w.heap.size->w'.heap[b]? =w.heap[b]?))
theorem Yk{g0:G}{f0:FuncId}{cs0:List Frame}{c:FuncId}{args as:List AV}{v:AV}{up:List Fr}{m:Machine}(hP:kM P Γ c as v)(hv:bP h args=some as)(hs:cR P Γ N g0 f0 cs0 (.cl c args up h) m):
 ∃m',Steps P m m'/\cR P Γ N g0 f0 cs0 (.die up v h) m':=by
 obtain⟨g,w,vs,fs,rfl,H,hM,ha,hb,hsr,hz⟩:=hs;obtain⟨g1,hρ1,hMM1,hM1,H1,x1,hc1⟩:=mU (bJ args) H;have hV1:=qV H x1 hc1 ha hv;have hbel:=qN H ha hv;have hlen:=jU (bJ args) h;obtain⟨_,hbv,hnv,hP⟩:=hP;obtain⟨e,w',fr,hR,hsteps,hfn,hleave⟩:=hP hbel N g1 (share (bJ args) h) w vs.toList H1 hV1 (fs++cs0);obtain⟨u,g',rfl,H',hV',hρ',hM',hw'⟩:=hR;rw[hlen]at hρ'
 have hρ2:∀i,i<h.length->g'.ρ i=g.ρ i:=fun i hi=>by rw[hρ' i hi,hρ1]
 obtain⟨H2,x2⟩:=Inv.Me (os:=[]) H hlen hρ2 (by simpa using H') (fun b o v hv=>hM' _ _ _ (hM1 _ _ _ hv)) hw' (by simp);rw[fM]at H2 x2;have hV2:=rq (g':={ρ:=g'.ρ,M:=g.M,MM:=g.MM}) (h':=h) hbv hnv hV';have hM2:∀b o v,g0.M b o=some v->g.M b o=some v:=hM;have hsteps':Steps P (lone (Frame.enter P c vs .normal) (fs++cs0) w) (lone fr (fs++cs0) w'):=hsteps
 cases up with
 |nil=>
  simp only[SR]at hsr;subst hsr;exact⟨_,hsteps',_,w',u,fr,rfl,H2,hM2,hV2,by rw[hfn];exact hz rfl,hleave⟩
 |cons d up=>
  obtain⟨fr',fs',rfl,h3⟩:=hsr;exact⟨_,hsteps'.trans (.one (step_leave_panicked hleave)),_,w',u,fr',fs',rfl,H2,hM2,hV2,fR x2 (aW _) ⟨fr',fs',rfl,h3⟩⟩
end
section
variable{P:Program}{Γ:Nat->Option AV}
theorem fQ{t t':List AV}{x:AX}(h:∀s∈dT x,t.getD s .undef=t'.getD s .undef):ax t x=ax t' x:=by
 cases x<;>simp only[ax]
 exact h _ (by simp[dT])
theorem qF{t t':List AV}{d:Nat}{x:Option AX}(h:∀s∈(x.map dT).getD [],t.getD s .undef=t'.getD s .undef):bound t d x=bound t' d x:=by
 cases x with
 |none=>rfl
 |some x=>
  simp only[bound];rw[fQ (x:=x) (by simpa using h)]
theorem qB{t t':List AV}{xs:List AX}(h:∀s∈xs.flatMap dT,t.getD s .undef=t'.getD s .undef):xs.map (ax t)=xs.map (ax t'):=
 wZ fun x hx=>fQ fun s hs=>h s (uo.2 ⟨x,hx,hs⟩)
theorem Xh{t t':List AV}{h:List Ob}{o:AO}(hs:∀s∈jY o,t.getD s .undef=t'.getD s .undef):ay P Γ t h o=ay P Γ t' h o:=by
 cases o
 case build z ps=>
  have:(ps.map fun p=>(p.1,p.2.1,ax t p.2.2))=ps.map fun p=>(p.1,p.2.1,ax t' p.2.2):=
   wZ fun x hx=>by rw[fQ fun s h=>hs s (uo.2 ⟨x,hx,h⟩)]
  simp only[ay,this]
 case lit k zs ps=>
  have:(ps.map fun p=>(p.1,ax t p.2))=ps.map fun p=>(p.1,ax t' p.2):=
   wZ fun x hx=>by rw[fQ fun s h=>hs s (uo.2 ⟨x,hx,h⟩)]
  simp only[ay,this]
 case fA f a b=>
  simp only[jY,bF]at hs;simp only[ay,qB fun s h=>hs s (Or.inl h),qB fun s h=>hs s (Or.inr h)]
 case min xs=>simp only[ay,qB (xs:=xs) hs]
 case max xs=>simp only[ay,qB (xs:=xs) hs]
 case call f xs=>
  simp only[jY,bF]at hs;simp only[ay,fQ fun s h=>hs s (Or.inl h),qB fun s h=>hs s (Or.inr h)]
 case defer f xs=>
  simp only[jY,bF]at hs;simp only[ay,fQ fun s h=>hs s (Or.inl h),qB fun s h=>hs s (Or.inr h)]
 case invoke x nm xs=>
  simp only[jY,bF]at hs;simp only[ay,fQ fun s h=>hs s (Or.inl h),qB fun s h=>hs s (Or.inr h)]
 case zL x lo hi=>
  simp only[jY,bF]at hs
  have e2:=fun d=>qF (d:=d) fun s h=>hs s (Or.inl (Or.inr h))
  have e3:=fun d=>qF (d:=d) fun s h=>hs s (Or.inr h)
  simp only[ay,fQ fun s h=>hs s (Or.inl (Or.inl h)),e2,e3]
 case slice k x lo hi=>
  simp only[jY,bF]at hs
  have e2:=fun d=>qF (d:=d) fun s h=>hs s (Or.inl (Or.inr h))
  have e3:=fun d=>qF (d:=d) fun s h=>hs s (Or.inr h)
  simp only[ay,fQ fun s h=>hs s (Or.inl (Or.inl h)),e2,e3]
 case slice3 k x lo hi mx=>
  simp only[jY,bF]at hs
  have e1:ax t x=ax t' x:=fQ fun s h=>hs s (Or.inl (Or.inl (Or.inl h)))
  have e2:=fun d=>qF (d:=d) fun s h=>hs s (Or.inl (Or.inl (Or.inr h)))
  have e3:ax t hi=ax t' hi:=fQ fun s h=>hs s (Or.inl (Or.inr h))
  have e4:ax t mx=ax t' mx:=fQ fun s h=>hs s (Or.inr h)
  have e5:=fun d=>qF (t:=t) (t':=t') (d:=d) (x:=some hi) fun s h=>hs s (Or.inl (Or.inr (by simpa using h)))
  have e6:=fun d=>qF (t:=t) (t':=t') (d:=d) (x:=some mx) fun s h=>hs s (Or.inr (by simpa using h))
  simp only[ay,e1,e2,e3,e4,e5,e6]
 case pick c a b=>
  simp only[jY,bF]at hs
  have e1:ax t c=ax t' c:=fQ fun s h=>hs s (Or.inl (Or.inl h))
  have e2:ax t a=ax t' a:=fQ fun s h=>hs s (Or.inl (Or.inr h))
  have e3:ax t b=ax t' b:=fQ fun s h=>hs s (Or.inr h)
  simp only[ay,e1,e2,e3]
 case bE e c a b=>
  simp only[jY,bF]at hs
  have e1:ax t c=ax t' c:=fQ fun s h=>hs s (Or.inl (Or.inl h))
  have e2:ax t a=ax t' a:=fQ fun s h=>hs s (Or.inl (Or.inr h))
  have e3:ax t b=ax t' b:=fQ fun s h=>hs s (Or.inr h)
  simp only[ay,e1,e2,e3]
 all_goals first
  |rfl
  |(simp only[jY]at hs;simp only[ay,fQ hs];done)
  |(simp only[jY,bF]at hs
    simp only[ay,fQ fun s h=>hs s (Or.inl h),fQ fun s h=>hs s (Or.inr h)];done)
theorem Up{t t':List AV}{gd:Option (Nat×Bool)}(hs:∀s∈(gd.map fun x=>[x.1]).getD [],t.getD s .undef=t'.getD s .undef):dt t gd=dt t' gd:=by
 cases gd with
 |none=>rfl
 |some x=>
  obtain⟨j,b⟩:=x;simp only[dt];rw[hs j (by simp)]
def R.on(h:List Ob):R->R
 |.val v _=>.val v h
 |.skip _=>.skip h
 |r=>r
theorem Xl{t:List AV}{o:AO}(h0:df o=0)(h h2:List Ob):ay P Γ t h2 o=(ay P Γ t h o).on h2:=by
 cases o<;>simp only[df,reduceCtorEq]at h0<;>simp only[ay]
 all_goals (repeat' split)
 all_goals first
  |rfl
  |simp_all [R.on]
theorem Ke{t:List AV}{o:AO}(h1:df o=1){h h':List Ob}{v:AV}:(ay P Γ t h o=.val v h'->h'=h)/\(ay P Γ t h o≠.skip h')/\∀f as,ay P Γ t h o≠.call f as:=by
 cases o<;>simp[df]at h1<;>simp only[ay]
 all_goals (repeat' split)
 all_goals simp
 all_goals (intros;simp_all)
end
section
variable{P:Program}{Γ:Nat->Option AV}
def py(P:Program)(Γ:Nat->Option AV)(obls:List fJ)(o:AG)(t:List AV)(h:List Ob)(v:AV)(h':List Ob):Prop:=
 (dt t o.guard=some false/\v=.aG []/\h'=h)\/
 (dt t o.guard=some true/\(ay P Γ t h o.op=.val v h'\/(ay P Γ t h o.op=.skip h'/\v=.aG [])\/∃f as,(ay P Γ t h o.op).Br=some (f,as)/\f.ok P=true/\⟨f,as,h,v,h'⟩∈obls))
theorem py.mono{obls obls':List fJ}{o:AG}{t:List AV}{h h':List Ob}{v:AV}(hs:∀x∈obls,x∈obls'):py P Γ obls o t h v h'->py P Γ obls' o t h v h':=by
 rintro(h1|⟨h1,h2|h2|⟨f,as,h2,h3,h4⟩⟩)
 ·exact Or.inl h1
 ·exact Or.inr ⟨h1,Or.inl h2⟩
 ·exact Or.inr ⟨h1,Or.inr (Or.inl h2)⟩
 ·exact Or.inr ⟨h1,Or.inr (Or.inr ⟨f,as,h2,h3,hs _ h4⟩)⟩
theorem zq{t:List AV}{o:AO}(h2:df o≠2){h h':List Ob}{v:AV}:(ay P Γ t h o=.val v h'->h'=h)/\(ay P Γ t h o=.skip h'->h'=h)/\∀f as,ay P Γ t h o≠.call f as:=by
 cases o<;>simp[df]at h2<;>simp only[ay]
 all_goals (repeat' split)
 all_goals simp
 all_goals (intros;simp_all)
theorem Dn{t:List AV}{o:AO}(h2:df o≠2){h:List Ob}:(ay P Γ t h o).Br=none:=by
 cases o<;>simp[df]at h2<;>simp only[ay]
 all_goals (repeat' split)
 all_goals simp [R.Br]
def pS(P:Program)(Γ:Nat->Option AV)(obls:List fJ)(hs hs0:List (List Ob))(l:Bool)(o:AG)(t t':List AV)(h h':List Ob)(v:AV):Prop:=
 t'=aX t o.dst v/\py P Γ obls o t h v h'/\(jl l o.op≠2->h'=h)/\(h'∈hs\/h'=h)/\
  (l=true->jl l o.op=1->dt t o.guard=some true->∀g∈hs0,ay P Γ t g o.op=.val v g\/∃f as,ay P Γ t g o.op=.call f as/\au P f=true/\⟨.fn f,as,g,v,g⟩∈obls)
theorem pS.mono{obls obls':List fJ}{hs hs' hs0:List (List Ob)}{l:Bool}{o:AG}{t t':List AV}{h h':List Ob}{v:AV}(h1:∀x∈obls,x∈obls')(h2:∀x∈hs,x∈hs')(hk:pS P Γ obls hs hs0 l o t t' h h' v):
 pS P Γ obls' hs' hs0 l o t t' h h' v:=⟨hk.1,hk.2.1.mono h1,hk.2.2.1,hk.2.2.2.1.imp (h2 _) id,fun a b c g hg=>(hk.2.2.2.2 a b c g hg).imp id fun⟨f,as,e1,e2,e3⟩=>⟨f,as,e1,e2,h1 _ e3⟩⟩
theorem shift{ops:List AG}{o:AG}{t:List AV}{h:List Ob}{obls:List fJ}{hs HS:List (List Ob)}{l:List Bool}{ws:List Nat}{t1 t':List AV}{h1 h':List Ob}{v0:AV}(hk0:pS P Γ obls (h1::hs) (HS.take (ws.headD 0)) (l.getD 0 true) o t t1 h h1 v0)
 (hr:∃(T:Nat->List AV)(H:Nat->List Ob)(v:Nat->AV),T 0=t1/\H 0=h1/\T ops.length=t'/\H ops.length=h'/\(∀c,c<=ops.length->(h1::hs)[c]? =some (H c))/\∀i x,ops[i]? =some x->pS P Γ obls hs (HS.take (ws.tail.getD i 0)) (l.tail.getD i true) x (T i) (T (i+1)) (H i) (H (i+1)) (v i)):
 ∃(T:Nat->List AV)(H:Nat->List Ob)(v:Nat->AV),T 0=t/\H 0=h/\T (o::ops).length=t'/\H (o::ops).length=h'/\(∀c,c<=(o::ops).length->(h::h1::hs)[c]? =some (H c))/\∀i x,(o::ops)[i]? =some x->pS P Γ obls (h1::hs) (HS.take (ws.getD i 0)) (l.getD i true) x (T i) (T (i+1)) (H i) (H (i+1)) (v i):=by
 obtain⟨T,H,v,h2,h3,h4,h5,h5c,h6⟩:=hr;refine⟨fun i=>match i with|0=>t|i+1=>T i,fun i=>match i with|0=>h|i+1=>H i,fun i=>match i with|0=>v0|i+1=>v i,rfl,rfl,h4,h5,?_,?_⟩
 ·intro c hc
  cases c with
  |zero=>rfl
  |succ c=>simpa using h5c c (by simpa using hc)
 ·intro i x hx
  cases i with
  |zero=>
   simp at hx;subst hx;simp only[h2,h3]
   have hw:ws.getD 0 0=ws.headD 0:=by cases ws<;>rfl
   rw[hw];exact hk0
  |succ i=>
   have:=h6 i x (by simpa using hx)
   have hl:l.tail.getD i true=l.getD (i+1) true:=by cases l<;>simp
   have hw:ws.tail.getD i 0=ws.getD (i+1) 0:=by cases ws<;>simp
   rw[hl,hw]at this;exact this.mono (fun _ h=>h) (fun _ h=>dY _ h)
theorem J9{t:List AV}{o:AO}(hc:fw o=true){h h':List Ob}{v:AV}:ay P Γ t h o≠.val v h'/\ay P Γ t h o≠.skip h':=by
 cases o<;>simp[fw]at hc<;>simp only[ay,mu]
 all_goals constructor
 all_goals (repeat' split)
 all_goals simp
theorem VF{t:List AV}{o:AO}{h:List Ob}{f:FuncId}{as:List AV}(ha:ay P Γ t h o=.call f as):fw o=true:=by
 by_cases h2:df o=2
 ·cases hq:fw o with
  |true=>rfl
  |false=>
   exfalso
   revert ha
   cases o<;>simp[df]at h2<;>simp[fw]at hq<;>simp only[ay,gv]
   all_goals (repeat' split)
   all_goals simp
 ·exact absurd ha ((zq (v:=.undef) (h':=[]) h2).2.2 _ _)
theorem Yf{t:List AV}{o:AO}{h:List Ob}{l:Nat}{as:List AV}(ha:ay P Γ t h o=.yield l as):fw o=true:=by
 by_cases h2:df o=2
 ·cases hq:fw o with
  |true=>rfl
  |false=>
   exfalso
   revert ha
   cases o<;>simp[df]at h2<;>simp[fw]at hq<;>simp only[ay,gv]
   all_goals (repeat' split)
   all_goals simp
 ·have:=Dn (P:=P) (Γ:=Γ) (t:=t) (h:=h) h2;rw[ha]at this
  cases this
theorem pI{q:Bool}{o:AO}(h:fw o=false):jl q o=df o:=by simp[jl,h]
theorem sV{HS:List (List Ob)}{obls0:List fJ}:∀{ops:List AG}{orc:List (AV×List Ob)}{l:List Bool}{ws:List Nat}{t:List AV}{h:List Ob}{t':List AV}{h':List Ob}{obls:List fJ}{hs:List (List Ob)},
 gE P Γ orc ops t h=some (t',h',obls,hs)->(∀x∈obls,x∈obls0)->calm P Γ obls0 HS l ws orc ops t h->
 ∃(T:Nat->List AV)(H:Nat->List Ob)(v:Nat->AV),T 0=t/\H 0=h/\T ops.length=t'/\H ops.length=h'/\(∀c,c<=ops.length->(h::hs)[c]? =some (H c))/\∀i x,ops[i]? =some x->pS P Γ obls0 hs (HS.take (ws.getD i 0)) (l.getD i true) x (T i) (T (i+1)) (H i) (H (i+1)) (v i)
 |[],orc,l,ws,t,h,t',h',obls,hs,hr,hob,hc=>by
  simp only[gE,aj,bN]at hr;obtain⟨rfl,rfl,rfl,rfl⟩:=hr;refine⟨fun _=>t,fun _=>h,fun _=>.undef,rfl,rfl,rfl,rfl,fun c hc=>?_,by simp⟩
  have h0:c=0:=by simpa using hc
  subst h0;rfl
 |o::ops,orc,l,ws,t,h,t',h',obls,hs,hr,hob,hc=>by
  have hhead:l.headD true=l.getD 0 true:=by cases l<;>rfl
  simp only[gE]at hr;simp only[calm]at hc
  cases hw:dt t o.guard with
  |none=>simp[hw]at hr
  |some b=>
   cases b with
   |false=>
    simp only[hw,bO]at hr hc;obtain⟨⟨t2,h2,ob2,hs2⟩,hr1,hr2⟩:=hr;simp only[bN]at hr2;obtain⟨rfl,rfl,rfl,rfl⟩:=hr2;exact shift ⟨rfl,Or.inl ⟨hw,rfl,rfl⟩,fun _=>rfl,Or.inr rfl,fun _ _ h=>by rw[hw]at h;cases h⟩ (sV hr1 hob hc)
   |true=>
    simp only[hw]at hr hc
    cases ha:ay P Γ t h o.op with
    |val v h1=>
     simp only[ha,bO]at hr hc;obtain⟨⟨t2,h2,ob2,hs2⟩,hr1,hr2⟩:=hr;simp only[bN]at hr2;obtain⟨rfl,rfl,rfl,rfl⟩:=hr2
     have hnc:fw o.op=false:=by
      cases hq:fw o.op with
      |false=>rfl
      |true=>exact absurd ha (J9 hq).1
     exact shift (t1:=aX t o.dst v) (h1:=h1) ⟨rfl,Or.inr ⟨hw,Or.inl ha⟩,fun h2=>(zq (by rwa[pI hnc]at h2)).1 ha,Or.inl (by simp),fun hl h1c _ g hg=>Or.inl (hc.1 (by rw[hhead];exact hl) (by rwa[pI hnc]at h1c) g hg)⟩ (sV hr1 hob hc.2)
    |skip h1=>
     simp only[ha,bO]at hr hc;obtain⟨⟨t2,h2,ob2,hs2⟩,hr1,hr2⟩:=hr;simp only[bN]at hr2;obtain⟨rfl,rfl,rfl,rfl⟩:=hr2
     have hnc:fw o.op=false:=by
      cases hq:fw o.op with
      |false=>rfl
      |true=>exact absurd ha (J9 (v:=.undef) hq).2
     exact shift (t1:=aX t o.dst (.aG [])) (h1:=h1) ⟨rfl,Or.inr ⟨hw,Or.inr (Or.inl ⟨ha,rfl⟩)⟩,fun h2=>(zq (v:=.undef) (by rwa[pI hnc]at h2)).2.1 ha,Or.inl (by simp),fun _ h1c=>absurd ha (Ke (v:=.undef) (by rwa[pI hnc]at h1c)).2.1⟩ (sV hr1 hob hc)
    |call f as=>
     simp only[ha]at hr hc
     by_cases hb:au P f=true
     ·rw[if_neg (by simp[hb])]at hr
      cases orc with
      |nil=>simp at hr
      |cons q orc=>
       obtain⟨v,h1⟩:=q;simp only[bO]at hr hc;obtain⟨⟨t2,h2,ob2,hs2⟩,hr1,hr2⟩:=hr;simp only[bN]at hr2;obtain⟨rfl,rfl,rfl,rfl⟩:=hr2;have hic:=VF ha
       refine shift (t1:=aX t o.dst v) (h1:=h1) ⟨rfl,Or.inr ⟨hw,Or.inr (Or.inr ⟨.fn f,as,by rw[ha];rfl,hb,hob _ (by simp)⟩)⟩,fun h2=>?_,Or.inl (by simp),fun hl _ _ g hg=>Or.inr ⟨f,as,((hc.1 (by rw[hhead];exact hl)).2 g hg).1,hb,((hc.1 (by rw[hhead];exact hl)).2 g hg).2⟩⟩
        (sV hr1 (fun x hx=>hob x (dY _ hx)) hc.2)
       cases hq:l.getD 0 true with
       |true=>exact(hc.1 (by rw[hhead];exact hq)).1
       |false=>
        exfalso;apply h2;rw[hq]
        revert hic
        cases o.op<;>simp[fw,jl,df]
     ·rw[if_pos (by simpa using hb)]at hr;simp at hr
    |cX v=>simp[ha]at hr
    |p_=>simp[ha]at hr
    |br f as=>simp[ha]at hr
    |yield y as=>
     simp only[ha]at hr hc
     cases orc with
     |nil=>simp at hr
     |cons q orc=>
      obtain⟨v,h1⟩:=q;simp only[bO]at hr hc;obtain⟨⟨t2,h2,ob2,hs2⟩,hr1,hr2⟩:=hr;simp only[bN]at hr2;obtain⟨rfl,rfl,rfl,rfl⟩:=hr2;have hic:=Yf ha
      have hq:l.getD 0 true=false:=by rw[<-hhead];exact hc.1
      refine shift (t1:=aX t o.dst v) (h1:=h1) ⟨rfl,Or.inr ⟨hw,Or.inr (Or.inr ⟨.yl y,as,by rw[ha];rfl,rfl,hob _ (by simp)⟩)⟩,fun h2=>?_,Or.inl (by simp),fun hl _ _ g hg=>by rw[hq]at hl;cases hl⟩
       (sV hr1 (fun x hx=>hob x (dY _ hx)) hc.2)
      exfalso;apply h2;rw[hq]
      revert hic
      cases o.op<;>simp[fw,jl,df]
    |either=>simp[ha]at hr
    |bad=>simp[ha]at hr
end
theorem Jo{α:Type}(p:α->Bool)(on:α->Nat)(g:α->Nat):∀(l:List α)(s j:Nat),(l.foldl (fun s e=>if p e then s|||2^on e|||g e else s) s).testBit j=true->
 s.testBit j=true\/∃e∈l,p e=true/\(on e=j\/(g e).testBit j=true)
 |[],s,j,h=>Or.inl h
 |e::l,s,j,h=>by
  rw[wT]at h
  rcases Jo p on g l _ j h with h1|⟨e',he,h1⟩
  ·by_cases hp:p e=true
   ·rw[if_pos hp]at h1;simp only[Nat.testBit_or,eH]at h1
    rcases h1 with(h1|h1)|h1
    ·exact Or.inl h1
    ·rw[Nat.testBit_two_pow]at h1;exact Or.inr ⟨e,by simp,hp,Or.inl (by simpa using h1)⟩
    ·exact Or.inr ⟨e,by simp,hp,Or.inr h1⟩
   ·rw[if_neg hp]at h1;exact Or.inl h1
  ·exact Or.inr ⟨e',dY _ he,h1⟩
def lG(acc:Array Nat)(o:Oper):Array Nat:=acc.push (o.after.foldl (fun s e=>if Region.binds .any e then s|||2^e.on|||acc.getD e.on 0 else s) 0)
theorem JF(j:Nat):∀(os:List Oper)(acc:Array Nat),acc.size<=(os.foldl lG acc).size/\(∀i,i<acc.size->(os.foldl lG acc).getD i 0=acc.getD i 0)/\
 ∀k o,os[k]? =some o->((os.foldl lG acc).getD (acc.size+k) 0).testBit j=true->∃e∈o.after.toList,Region.binds .any e=true/\(e.on=j\/(e.on<acc.size+k/\((os.foldl lG acc).getD e.on 0).testBit j=true))
 |[],acc=>⟨aW _,fun _ _=>rfl,by simp⟩
 |o::os,acc=>by
  obtain⟨h1,h2,h3⟩:=JF j os (lG acc o)
  have hsz:(lG acc o).size=acc.size+1:=by simp[lG]
  rw[wT];rw[hsz]at h1 h2 h3;refine⟨by omega,?_,?_⟩
  ·intro i hi;rw[h2 i (by omega)];simp only[lG,gn];rw[Array.getElem?_push_lt hi];simp[hi]
  ·intro k x hx hb
   cases k with
   |zero=>
    simp at hx;subst hx;rw[ir,h2 _ (by omega)]at hb
    have he:(lG acc o).getD acc.size 0=o.after.foldl (fun s e=>if Region.binds .any e then s|||2^e.on|||acc.getD e.on 0 else s) 0:=by
     simp[lG,gn]
    rw[he,<-B9]at hb
    rcases Jo (Region.binds .any) (·.on) (fun e=>acc.getD e.on 0) _ _ _ hb with hb|⟨e,he,hp,hb⟩
    ·simp at hb
    ·refine⟨e,he,hp,hb.imp id fun hb=>?_⟩
     have hlt:e.on<acc.size:=by
      rcases kv e.on acc.size with h4|h4
      ·exact h4
      ·simp[gn,mJ h4]at hb
     refine⟨by omega,?_⟩;rw[h2 _ (by omega)];simp only[lG,gn];rw[Array.getElem?_push_lt hlt];simpa[gn,hlt]using hb
   |succ k=>
    have:=h3 k x (by simpa using hx) (by rw[show acc.size+1+k=acc.size+(k+1) by omega];exact hb);obtain⟨e,he,hp,hb⟩:=this;exact⟨e,he,hp,hb.imp id fun hb=>⟨by omega,hb.2⟩⟩
theorem I8{ops:Array Oper}{i j:Nat}{o:Oper}(ho:ops[i]? =some o)(hb:((Region.before ops).getD i 0).testBit j=true):
 ∃e∈o.after.toList,Region.binds .any e=true/\(e.on=j\/(e.on<i/\((Region.before ops).getD e.on 0).testBit j=true)):=by
 have hbe:Region.before ops=ops.toList.foldl lG #[]:=by
  rw[B9];rfl
 obtain⟨_,_,h3⟩:=JF j ops.toList #[];rw[hbe]at hb⊢;have:=h3 i o (by simpa using ho) (by simpa using hb);simpa using this
theorem zH{t:List AV}{d:Option Nat}{v:AV}(s:Nat):(aX t d v).getD s .undef=if d=some s/\s<t.length then v else t.getD s .undef:=by
 cases d with
 |none=>simp[aX]
 |some d=>
  simp only[aX,bG,nM,aj]
  by_cases h:d=s
  ·subst h
   by_cases h2:d<t.length
   ·simp[h2]
   ·simp[h2]
  ·simp[h]
theorem L4{t:List AV}{d:Option Nat}{v:AV}:(aX t d v).length=t.length:=by cases d<;>simp[aX]
theorem Zj{t t':List AV}(hl:t.length=t'.length)(h:∀s,t.getD s .undef=t'.getD s .undef):t=t':=by
 refine List.ext_getElem hl fun i h1 h2=>?_
 have:=h i;rw[bG,bG,bn h1,bn h2]at this;simpa using this
def left(n:Nat)(listed:Array Bool):Nat:=((List.range n).filter fun i=>!listed.getD i true).length
theorem Ek{n:Nat}{listed:Array Bool}{i:Nat}(hi:i<n)(hn:listed.getD i true=false):left n (listed.setIfInBounds i true)+1=left n listed:=by
 have hsz:i<listed.size:=by
  rcases kv i listed.size with h|h
  ·exact h
  ·simp[gn,mJ h]at hn
 have h1:((List.range n).filter fun j=>!(listed.setIfInBounds i true).getD j true)=((List.range n).filter fun j=>!listed.getD j true).erase i:=by
  rw[List.Nodup.erase_eq_filter (List.Pairwise.filter _ List.nodup_range),List.filter_filter];congr 1
  funext j
  simp only[gn,rX]
  by_cases hj:i=j
  ·subst hj;simp[hsz]
  ·simp[hj,Ne.symm hj,bne_iff_ne]
 have hm:i∈(List.range n).filter fun j=>!listed.getD j true:=by simp only[dM,eu,hn,uj,nI];exact hi
 unfold left;rw[h1,List.length_erase_of_mem hm];have:=Ie hm;omega
theorem mem_left{n i:Nat}{listed:Array Bool}(hi:i<n)(hn:listed.getD i true=false):i∈(List.range n).filter fun j=>!listed.getD j true:=by
 simp only[dM,eu,hn,uj,nI];exact hi
theorem WV{n:Nat}{listed:Array Bool}(h:left n listed=0):∀i,i<n->listed.getD i true=true:=by
 intro i hi;have h1:=kq.1 h
 cases hb:listed.getD i true with
 |true=>rfl
 |false=>
  have:=mem_left hi hb;rw[h1]at this;simp at this
section
variable{P:Program}{Γ:Nat->Option AV}
structure oU(P:Program)(Γ:Nat->Option AV)(ops:Array Oper)(gs:List AG)(obls:List fJ)(h0:List Ob)(hs:List (List Ob))(T:Nat->List AV)(H:Nat->List Ob)(v:Nat->AV):Prop where
 len:gs.length=ops.size
 ok:th ops gs=true
 ed:mY ops=true
 H0:H 0=h0
 at_:∀c,c<=gs.length->(h0::hs)[c]? =some (H c)
 k:∀i x,gs[i]? =some x->pS P Γ obls hs ((h0::hs).take ((tL ops gs).getD i 0)) ((lu ops gs).getD i true) x (T i) (T (i+1)) (H i) (H (i+1)) (v i)
variable{ops:Array Oper}{gs:List AG}{obls:List fJ}{h0:List Ob}{hs:List (List Ob)}{T:Nat->List AV}{H:Nat->List Ob}{v:Nat->AV}
def km(ops:Array Oper)(j i:Nat):Bool:=((Region.before ops).getD i 0).testBit j
def jK(ops:Array Oper)(gs:List AG)(i:Nat)(x:AG):Nat:=jl ((lu ops gs).getD i true) x.op
theorem td{i:Nat}{x:AG}(hx:gs[i]? =some x):jK ops gs i x=jl (quietAt (Region.before ops) gs i) x.op:=by
 have hl:(lu ops gs).getD i true=looseAt (Region.before ops) gs i:=by simp[lu,bG,aV hx]
 unfold jK;rw[hl]
 cases hc:fw x.op with
 |false=>rw[pI hc,pI hc]
 |true=>simp[looseAt,hx,hc]
theorem oU.pair(R:oU P Γ ops gs obls h0 hs T H v){i j:Nat}{gi gj:AG}(hi:gs[i]? =some gi)(hj:gs[j]? =some gj)(hji:j<i):lz (quietAt (Region.before ops) gs i) (quietAt (Region.before ops) gs j) gi gj (km ops j i)=true:=by
 have h1:=R.ok;simp only[th,dy,eu]at h1;have h2:=h1 i (aV hi);rw[hi]at h2;simp only[aw,dy,eu]at h2;have h3:=h2.2 j hji;rw[hj]at h3;exact h3
def At(ops:Array Oper)(listed:Array Bool):Prop:=∀i o,ops[i]? =some o->listed.getD i true=true->∀e∈o.after.toList,Region.binds .any e=true->listed.getD e.on false=true
theorem Dm{listed:Array Bool}(hc:At ops listed):∀(n i j:Nat),i<=n->(∃o,ops[i]? =some o/\∀e∈o.after.toList,Region.binds .any e=true->listed.getD e.on false=true)->km ops j i=true->listed.getD j false=true:=by
 intro n
 induction n with
 |zero=>
  intro i j hi ⟨o,ho,hl⟩ ha;obtain⟨e,he,hp,hb⟩:=I8 ho ha
  rcases hb with rfl|⟨hlt,_⟩
  ·exact hl e he hp
  ·omega
 |succ n ih=>
  intro i j hi ⟨o,ho,hl⟩ ha;obtain⟨e,he,hp,hb⟩:=I8 ho ha
  rcases hb with rfl|⟨hlt,hb⟩
  ·exact hl e he hp
  ·have hle:=hl e he hp
   have hon:e.on<ops.size:=by
    have:=aV (l:=ops.toList) (i:=i) (a:=o) (by simpa using ho);simp at this;omega
   obtain⟨o2,ho2⟩:∃o2,ops[e.on]? =some o2:=⟨_,iW hon⟩;refine ih e.on j (by omega) ⟨o2,ho2,?_⟩ hb;refine hc e.on o2 ho2 ?_;rw[gn]at hle⊢
   cases hq:listed[e.on]? with
   |none=>rfl
   |some b=>rw[hq]at hle;simpa using hle
theorem oU.Fp(R:oU P Γ ops gs obls h0 hs T H v):∀i,i<=gs.length->(T i).length=(T 0).length/\
 (∀j x s,j<i->gs[j]? =some x->x.dst=some s->s<(T 0).length->(T i).getD s .undef=v j)/\
 (∀s,(∀j x,j<i->gs[j]? =some x->x.dst≠some s)->(T i).getD s .undef=(T 0).getD s .undef)
 |0,_=>⟨rfl,fun _ _ _ h=>by omega,fun _ _=>rfl⟩
 |i+1,hi=>by
  obtain⟨h1,h2,h3⟩:=R.Fp i (by omega);obtain⟨x,hx⟩:∃x,gs[i]? =some x:=⟨_,bn (by omega)⟩;have hT:=(R.k i x hx).1;refine⟨by rw[hT,L4,h1],?_,?_⟩
  ·intro j y s hj hy hd hs;rw[hT,zH]
   by_cases hji:j=i
   ·subst hji;rw[hx]at hy
    cases hy
    rw[if_pos ⟨hd,by omega⟩]
   ·have hp:=R.pair hx hy (by omega);simp only[lz,aw,eH]at hp
    have hne:x.dst≠some s:=by
     intro hxs
     rcases hp.1 with h4|h4
     ·rw[hxs]at h4;simp at h4
     ·rw[hxs,hd]at h4;simp at h4
    rw[if_neg (fun h=>hne h.1)];exact h2 j y s (by omega) hy hd hs
  ·intro s hn;rw[hT,zH,if_neg (fun h=>hn i x (by omega) hx h.1)]
   exact h3 s fun j y hj=>hn j y (by omega)
theorem oU.vl(R:oU P Γ ops gs obls h0 hs T H v){a:Nat}:∀n,a+n<=gs.length->(∀j x,a<=j->j<a+n->gs[j]? =some x->jK ops gs j x≠2)->H (a+n)=H a
 |0,_,_=>rfl
 |n+1,hl,hn=>by
  obtain⟨x,hx⟩:∃x,gs[a+n]? =some x:=⟨_,bn (by omega)⟩;rw[show a+(n+1)=a+n+1 by omega,(R.k _ x hx).2.2.1 (hn _ x (by omega) (by omega) hx)]
  exact R.vl n (by omega) fun j y h1 h2=>hn j y h1 (by omega)
structure wy(ops:Array Oper)(gs:List AG)(T:Nat->List AV)(H:Nat->List Ob)(v:Nat->AV)(listed:Array Bool)(tD:List AV)(hD:List Ob):Prop where
 sz:listed.size=ops.size
 cl:At ops listed
 tl:tD.length=(T 0).length
 w:∀j x s,gs[j]? =some x->listed.getD j true=true->x.dst=some s->s<(T 0).length->tD.getD s .undef=v j
 n:∀s,(∀j x,gs[j]? =some x->listed.getD j true=true->x.dst≠some s)->tD.getD s .undef=(T 0).getD s .undef
 h:∃c,c<=gs.length/\hD=H c/\(∀j x,j<c->gs[j]? =some x->jK ops gs j x=2->listed.getD j true=true)/\(∀j x,c<=j->gs[j]? =some x->jK ops gs j x=2->listed.getD j true=false)
theorem te{listed:Array Bool}{i:Nat}(hi:i<listed.size)(d d':Bool):listed.getD i d=listed.getD i d':=by
 simp[gn,hi]
theorem Ws(R:oU P Γ ops gs obls h0 hs T H v){listed:Array Bool}{tD:List AV}{hD:List Ob}(F:wy ops gs T H v listed tD hD){i:Nat}{op:Oper}{x:AG}(hi:i<ops.size)(hn:listed.getD i true=false)(ho:ops[i]? =some op)
 (hr:∀e∈op.after.toList,Region.binds .any e=true->listed.getD e.on false=true)(hx:gs[i]? =some x):
 ∃hD',wy ops gs T H v (listed.setIfInBounds i true) (aX tD x.dst (v i)) hD'/\py P Γ obls x tD hD (v i) hD':=by
 have hil:i<gs.length:=aV hx;have hk:=R.k i x hx
 have hbefore:∀j,km ops j i=true->listed.getD j false=true:=fun j=>Dm F.cl i i j (aW _) ⟨op,ho,hr⟩
 have htrue:∀j,listed.getD j false=true->listed.getD j true=true:=by
  intro j hj;rw[gn]at hj⊢
  cases hq:listed[j]? with
  |none=>rfl
  |some b=>rw[hq]at hj;simpa using hj
 have hfalse:∀j,listed.getD j true=false->listed.getD j false=true->False:=fun j h1 h2=>by
  have:=htrue j h2;rw[h1]at this
  cases this
 have hbehind:∀j,j<ops.size->km ops i j=true->listed.getD j true=false:=by
  intro j hj ha
  cases hq:listed.getD j true with
  |false=>rfl
  |true=>
   exfalso;have ho2:ops[j]? =some ops[j]:=iW hj;exact hfalse i hn (Dm F.cl j j i (aW _) ⟨_,ho2,F.cl j _ ho2 hq⟩ ha)
 have hlen:=R.len;obtain⟨hTl,hTw,hTn⟩:=R.Fp i (by omega)
 have hslots:∀s∈qX x,tD.getD s .undef=(T i).getD s .undef:=by
  intro s hs
  by_cases hsl:s<(T 0).length
  ·by_cases hw:∃(j:Nat)(y:AG),gs[j]? =some y/\y.dst=some s
   ·obtain⟨j,y,hy,hyd⟩:=hw;have hjl:j<gs.length:=aV hy
    have huniq:∀j2 y2,gs[j2]? =some y2->y2.dst=some s->j2=j:=by
     intro j2 y2 hy2 hd2
     rcases Nat.lt_trichotomy j2 j with h1|h1|h1
     ·have hp:=R.pair hy hy2 h1;simp only[lz,aw,eH]at hp
      rcases hp.1 with h4|h4
      ·rw[hyd]at h4;simp at h4
      ·rw[hyd,hd2]at h4;simp at h4
     ·exact h1
     ·have hp:=R.pair hy2 hy h1;simp only[lz,aw,eH]at hp
      rcases hp.1 with h4|h4
      ·rw[hd2]at h4;simp at h4
      ·rw[hyd,hd2]at h4;simp at h4
    rcases Nat.lt_trichotomy j i with h1|h1|h1
    ·have hp:=R.pair hx hy h1;simp only[lz,aw,eH]at hp
     have ha:km ops j i=true:=by
      rcases hp.2 with h4|h4
      ·exact h4
      ·rw[hyd]at h4;simp only[jR,w6,iV]at h4;exact absurd hs h4.1.1
     rw[F.w j y s hy (htrue j (hbefore j ha)) hyd hsl,hTw j y s h1 hy hyd hsl]
    ·subst h1;rw[hTn s (fun j2 y2 hj2 hy2 hd2=>by have:=huniq j2 y2 hy2 hd2;omega),F.n s];intro j2 y2 hy2 hl2 hd2;have:=huniq j2 y2 hy2 hd2;subst this;rw[hn]at hl2
     cases hl2
    ·have hp:=R.pair hy hx h1;simp only[lz,aw,eH]at hp
     have ha:km ops i j=true:=by
      rcases hp.2 with h4|h4
      ·exact h4
      ·rw[hyd]at h4;simp only[jR,w6,iV]at h4;exact absurd hs h4.1.2
     rw[hTn s (fun j2 y2 hj2 hy2 hd2=>by have:=huniq j2 y2 hy2 hd2;omega),F.n s];intro j2 y2 hy2 hl2 hd2;have:=huniq j2 y2 hy2 hd2;subst this;rw[hbehind j2 (by omega) ha]at hl2
     cases hl2
   ·have hnw:∀(j:Nat)(y:AG),gs[j]? =some y->y.dst≠some s:=fun j y hy hd=>hw ⟨j,y,hy,hd⟩
    rw[hTn s fun j y _ hy=>hnw j y hy,F.n s fun j y hy _=>hnw j y hy]
  ·rw[bG,bG,jq (by rw[F.tl];omega),jq (by omega)]
 have hwant:dt tD x.guard=dt (T i) x.guard:=Up fun s hs=>hslots s (by simp only[qX,bF];exact Or.inl hs)
 have haop:∀h,ay P Γ tD h x.op=ay P Γ (T i) h x.op:=fun h=>Xh fun s hs=>hslots s (by simp only[qX,bF];exact Or.inr hs)
 have hcls:∀j y,j<i->gs[j]? =some y->jK ops gs j y=2->jK ops gs i x=2->km ops j i=true:=by
  intro j y h1 hy hc1 hc2;have hp:=R.pair hx hy h1;simp only[lz,aw,eH]at hp
  rcases hp.2 with h4|h4
  ·exact h4
  ·have h5:=h4.2;rw[<-td hx,<-td hy,hc1,hc2]at h5;simp at h5
 have hcls2:∀j y,i<j->gs[j]? =some y->jK ops gs j y=2->jK ops gs i x=2->km ops i j=true:=by
  intro j y h1 hy hc1 hc2;have hp:=R.pair hy hx h1;simp only[lz,aw,eH]at hp
  rcases hp.2 with h4|h4
  ·exact h4
  ·have h5:=h4.2;rw[<-td hx,<-td hy,hc1,hc2]at h5;simp at h5
 obtain⟨c,hcl,hDc,hc1,hc2⟩:=F.h
 have hset:∀j,(listed.setIfInBounds i true).getD j true=if j=i then true else listed.getD j true:=by
  intro j;simp only[gn,rX]
  by_cases hj:j=i
  ·subst hj;simp;split<;>simp
  ·rw[if_neg (fun e=>hj e.symm),if_neg hj]
 have hsetf:∀j,listed.getD j false=true->(listed.setIfInBounds i true).getD j false=true:=by
  intro j h;simp only[gn,rX]at h⊢
  by_cases hj:i=j
  ·subst hj
   by_cases h2:i<listed.size
   ·simp[h2]
   ·rw[mJ (by omega)]at h;simp at h
  ·rw[if_neg hj];exact h
 have hfar:∀hD',(∃c,c<=gs.length/\hD'=H c/\(∀j x,j<c->gs[j]? =some x->jK ops gs j x=2->(listed.setIfInBounds i true).getD j true=true)/\(∀j x,c<=j->gs[j]? =some x->jK ops gs j x=2->(listed.setIfInBounds i true).getD j true=false))->
  wy ops gs T H v (listed.setIfInBounds i true) (aX tD x.dst (v i)) hD':=by
  intro hD' hh;refine⟨by simp[F.sz],?_,by rw[L4,F.tl],?_,?_,hh⟩
  ·intro j o hj hl e he hp;rw[hset]at hl
   by_cases hji:j=i
   ·subst hji;rw[ho]at hj
    cases hj
    exact hsetf _ (hr e he hp)
   ·rw[if_neg hji]at hl;exact hsetf _ (F.cl j o hj hl e he hp)
  ·intro j y s hy hl hd hs;rw[hset]at hl;rw[zH]
   by_cases hji:j=i
   ·subst hji;rw[hx]at hy
    cases hy
    rw[if_pos ⟨hd,by rw[F.tl];exact hs⟩]
   ·rw[if_neg hji]at hl
    have hne:x.dst≠some s:=by
     intro hxs
     rcases Nat.lt_or_gt_of_ne hji with h1|h1
     ·have hp:=R.pair hx hy h1;simp only[lz,aw,eH]at hp
      rcases hp.1 with h4|h4
      ·rw[hxs]at h4;simp at h4
      ·rw[hxs,hd]at h4;simp at h4
     ·have hp:=R.pair hy hx h1;simp only[lz,aw,eH]at hp
      rcases hp.1 with h4|h4
      ·rw[hd]at h4;simp at h4
      ·rw[hxs,hd]at h4;simp at h4
    rw[if_neg (fun h=>hne h.1)];exact F.w j y s hy hl hd hs
  ·intro s hns;rw[zH,if_neg (fun h=>hns i x hx (by rw[hset,if_pos rfl]) h.1)]
   refine F.n s fun j y hy hl=>hns j y hy ?_
   rw[hset];split
   ·rfl
   ·exact hl
 by_cases h2:jK ops gs i x=2
 ·
  have hci:c<=i:=by
   rcases kv i c with h1|h1
   ·have:=hc1 i x h1 hx h2;rw[hn]at this
    cases this
   ·exact h1
  have hH:H i=H c:=by
   have:=R.vl (a:=c) (i-c) (by omega) (by
    intro j y h3 h4 hy hc3;have h5:=htrue j (hbefore j (hcls j y (by omega) hy hc3 h2));rw[hc2 j y h3 hy hc3]at h5
    cases h5)
   rwa[show c+(i-c)=i by omega]at this
  refine⟨H (i+1),hfar _ ⟨i+1,by omega,rfl,?_,?_⟩,?_⟩
  ·intro j y h3 hy hc3;rw[hset]
   by_cases hji:j=i
   ·rw[if_pos hji]
   ·rw[if_neg hji];exact htrue j (hbefore j (hcls j y (by omega) hy hc3 h2))
  ·intro j y h3 hy hc3;rw[hset,if_neg (by omega)];have hjl:=aV hy;exact hbehind j (by omega) (hcls2 j y (by omega) hy hc3 h2)
  ·have hone:=hk.2.1;rw[hDc,<-hH];unfold py at hone⊢;rw[hwant,haop];exact hone
 ·
  have htake:hD∈(h0::hs).take ((tL ops gs).getD i 0):=by
   have hfe:(tL ops gs).getD i 0=AB (Region.before ops) gs i:=by simp[tL,bG,hil]
   have hcf:c<AB (Region.before ops) gs i:=by
    unfold AB
    cases hfd:(List.range gs.length).find? fun j=>decide (i<j)&&(match gs[j]? with
     |none=>false
     |some gj=>jl (quietAt (Region.before ops) gs j) gj.op==2&&((Region.before ops).getD j 0).testBit i)with
    |none=>simp;omega
    |some j=>
     have hj1:=List.find?_some hfd;have hj2:=List.mem_of_find?_eq_some hfd;simp only[eu]at hj2;simp only[aw,bd]at hj1;obtain⟨hij,hj3⟩:=hj1;have hgj:gs[j]? =some gs[j]:=bn hj2;rw[hgj]at hj3;simp only[aw,lb]at hj3;simp only[jt]
     rcases kv j c with h5|h5
     ·exfalso;have h6:=hc1 j gs[j] h5 hgj (by rw[td hgj];exact hj3.1);have h7:=hbehind j (by omega) hj3.2;rw[h7]at h6
      cases h6
     ·omega
   rw[hfe,hDc];refine gX (i:=c) ?_;rw[oX,if_pos hcf];exact R.at_ c hcl
  refine⟨hD,hfar _ ⟨c,hcl,hDc,?_,?_⟩,?_⟩
  ·intro j y h3 hy hc3
   rw[hset];split
   ·rfl
   ·exact hc1 j y h3 hy hc3
  ·intro j y h3 hy hc3;rw[hset,if_neg]
   ·exact hc2 j y h3 hy hc3
   ·rintro rfl
    rw[hx]at hy
    cases hy
    exact h2 hc3
  ·have hHi:=hk.2.2.1 h2;have hone:=hk.2.1;rw[hHi]at hone;unfold py at hone⊢;rw[hwant,haop]
   rcases hone with⟨h3,h4,_⟩|⟨h3,h4⟩
   ·exact Or.inl ⟨h3,h4,rfl⟩
   ·refine Or.inr ⟨h3,?_⟩
    cases hic:fw x.op with
    |true=>
    have hq:(lu ops gs).getD i true=true:=by
     cases hq:(lu ops gs).getD i true with
     |true=>rfl
     |false=>
      exfalso;apply h2;unfold jK;rw[hq]
      revert hic
      cases x.op<;>simp[fw,jl,df]
    have h1:jl ((lu ops gs).getD i true) x.op=1:=by rw[hq];simp[jl,hic]
    rcases hk.2.2.2.2 hq h1 h3 hD htake with h5|⟨f,as,h5,h6,h7⟩
    ·exact Or.inl h5
    ·exact Or.inr (Or.inr ⟨.fn f,as,by rw[h5];rfl,h6,h7⟩)
    |false=>
    have h2':df x.op≠2:=by unfold jK at h2;rwa[pI hic]at h2
    have hcl3:df x.op=0\/df x.op=1:=by
     have h5:=R.ok;simp only[th,dy,eu]at h5;have h6:=h5 i hil;rw[hx]at h6;simp only[aw,bne_iff_ne,ne_eq]at h6;have h7:=h6.1
     revert h2' h7
     cases x.op<;>simp[df]
    rcases hcl3 with h0|h1
    ·have hp:=Xl (P:=P) (Γ:=Γ) (t:=T i) h0 (H i) hD
     rcases h4 with h4|⟨h4,h5⟩|⟨f,as,h4,h5,h6⟩
     ·rw[h4]at hp;exact Or.inl hp
     ·rw[h4]at hp;exact Or.inr (Or.inl ⟨hp,h5⟩)
     ·rw[Dn h2']at h4;cases h4
    ·rcases h4 with h4|⟨h4,h5⟩|⟨f,as,h4,h5,h6⟩
     ·by_cases hl:(lu ops gs).getD i true=true
      ·rcases hk.2.2.2.2 hl (by rw[pI hic];exact h1) h3 hD htake with h5|⟨f,as,h5,h6,h7⟩
       ·exact Or.inl h5
       ·exact Or.inr (Or.inr ⟨.fn f,as,by rw[h5];rfl,h6,h7⟩)
      ·have hll:looseAt (Region.before ops) gs i=false:=by
        have:(lu ops gs).getD i true=looseAt (Region.before ops) gs i:=by
         simp[lu,bG,hil]
        rw[this]at hl;simpa using hl
       simp only[looseAt,hx,hic,dX,de,h1,Ic,uq,List.any_eq_false,eu]at hll
       have hcmp:∀j y,gs[j]? =some y->jK ops gs j y=2->(if j<i then km ops j i else km ops i j)=true:=by
        intro j y hy hc3;have h5:=hll j (aV hy);rw[hy]at h5;rw[td hy]at hc3;simp only[hc3,Ic,uq,jR,wY]at h5;exact h5
       have hH:hD=H i:=by
        rw[hDc]
        rcases Nat.le_total c i with h5|h5
        ·have:=R.vl (a:=c) (i-c) (by omega) (by
          intro j y h6 h7 hy hc3;have h8:=hcmp j y hy hc3;rw[if_pos (by omega)]at h8;have h9:=htrue j (hbefore j h8);rw[hc2 j y h6 hy hc3]at h9
          cases h9)
         rw[show c+(i-c)=i by omega]at this;exact this.symm
        ·have:=R.vl (a:=i) (c-i) (by omega) (by
          intro j y h6 h7 hy hc3;have h8:=hcmp j y hy hc3;rw[if_neg (by omega)]at h8;have hjl:=aV hy;have h9:=hbehind j (by omega) h8;rw[hc1 j y (by omega) hy hc3]at h9
          cases h9)
         rw[show i+(c-i)=c by omega]at this;exact this
       left;rw[hH];exact h4
     ·exact absurd h4 (Ke (v:=.undef) h1).2.1
     ·rw[Dn h2']at h4;cases h4
variable{Rl:ar->ar->Prop}
def tG(gs:List AG)(t0 t:List AV):Prop:=∀s,(∀x∈gs,x.dst≠some s)->t.getD s .undef=t0.getD s .undef
theorem aa9(htr:∀a b c,Rl a b->Rl b c->Rl a c)(hst:∀c,Rl c (eS P Γ c)){f:Fr}{up:List Fr}{t:List AV}(hob:∀o∈obls,∀its,Rl (o.f.cfg o.args ({f with its:=its,t:=t}::up) o.h) (.back ({f with its:=its,t:=t}::up) o.v o.h'))(hmd:f.md=.run){k:List It}{x:AG}{os:List AG}{h h':List Ob}{u:AV}
 (ho:py P Γ obls x t h u h'):Rl (.fr {f with its:=.ops (x::os)::k,t:=t} up h) (.fr {f with its:=.ops os::k,t:=aX t x.dst u} up h'):=by
 obtain⟨fmd,ffn,fits,ft,fds,fk,fb⟩:=f;simp only at hmd;subst hmd;have h0:=hst (.fr {md:=.run,fn:=ffn,its:=.ops (x::os)::k,t:=t,ds:=fds,kind:=fk,base:=fb} up h);simp only[eS,gN]at h0
 rcases ho with⟨h1,rfl,rfl⟩|⟨h1,h2|⟨h2,rfl⟩|⟨c,as,h2,h3,h4⟩⟩
 ·rw[h1]at h0;exact h0
 ·rw[h1]at h0;simp only[h2,fg]at h0;exact h0
 ·rw[h1]at h0;simp only[h2,fg]at h0;exact h0
 ·rw[h1]at h0
  have h00:Rl (.fr {md:=.run,fn:=ffn,its:=.ops (x::os)::k,t:=t,ds:=fds,kind:=fk,base:=fb} up h) (c.cfg as ({md:=.run,fn:=ffn,its:=.ops (x::os)::k,t:=t,ds:=fds,kind:=fk,base:=fb}::up) h):=by
   cases ha:ay P Γ t h x.op<;>rw[ha]at h2 h0<;>simp only[R.Br]at h2
   all_goals first|(cases h2;done)|skip
   ·cases h2
    simp only[iR.ok]at h3;simp only[fg,h3,cu]at h0;exact h0
   ·cases h2
    exact h0
  refine htr _ _ _ h00 (htr _ _ _ (hob _ h4 _) ?_);have h5:=hst (.back ({md:=.run,fn:=ffn,its:=.ops (x::os)::k,t:=t,ds:=fds,kind:=fk,base:=fb}::up) u h');simp only[eS,Fr.finish]at h5;exact h5
theorem Zk(R:oU P Γ ops gs obls h0 hs T H v)(htr:∀a b c,Rl a b->Rl b c->Rl a c)(hst:∀c,Rl c (eS P Γ c)){f:Fr}{up:List Fr}(hob:∀o∈obls,∀its t,tG gs (T 0) t->Rl (o.f.cfg o.args ({f with its:=its,t:=t}::up) o.h) (.back ({f with its:=its,t:=t}::up) o.v o.h'))(hmd:f.md=.run){k:List It}:
 ∀(fuel n:Nat)(listed:Array Bool)(tD:List AV)(hD:List Ob),wy ops gs T H v listed tD hD->left ops.size listed=fuel->
  Rl (.fr {f with its:=.ops ((Region.linearise.go .any ops fuel n listed []).map fun i=>gs.getD i default)::k,t:=tD} up hD) (.fr {f with its:=k,t:=T gs.length} up (H gs.length)):=by
 intro fuel
 induction fuel with
 |zero=>
  intro n listed tD hD F hl;have hall:=WV hl;have hlen:=R.len;obtain⟨hTl,hTw,hTn⟩:=R.Fp gs.length (aW _)
  have ht:tD=T gs.length:=by
   refine Zj (by rw[F.tl,hTl]) fun s=>?_
   by_cases hw:∃(j:Nat)(y:AG),gs[j]? =some y/\y.dst=some s
   ·obtain⟨j,y,hy,hd⟩:=hw;have hjl:=aV hy
    by_cases hsl:s<(T 0).length
    ·rw[F.w j y s hy (hall j (by omega)) hd hsl,hTw j y s hjl hy hd hsl]
    ·rw[bG,bG,jq (by rw[F.tl];omega),jq (by omega)]
   ·have hnw:∀(j:Nat)(y:AG),gs[j]? =some y->y.dst≠some s:=fun j y hy hd=>hw ⟨j,y,hy,hd⟩
    rw[hTn s fun j y _ hy=>hnw j y hy,F.n s fun j y hy _=>hnw j y hy]
  obtain⟨c,hcl,hDc,hc1,hc2⟩:=F.h
  have hh:hD=H gs.length:=by
   rw[hDc]
   have:=R.vl (a:=c) (gs.length-c) (by omega) (by
    intro j y h3 h4 hy hc3;have h5:=hc2 j y h3 hy hc3;rw[hall j (by omega)]at h5
    cases h5)
   rw[show c+(gs.length-c)=gs.length by omega]at this;exact this.symm
  subst ht hh;obtain⟨fmd,ffn,fits,ft,fds,fk,fb⟩:=f;simp only at hmd;subst hmd;have h0:=hst (.fr {md:=.run,fn:=ffn,its:=.ops []::k,t:=T gs.length,ds:=fds,kind:=fk,base:=fb} up (H gs.length));simp only[eS,gN]at h0;simp only[Region.linearise.go,List.reverse_nil,lZ];exact h0
 |succ fuel ih=>
  intro n listed tD hD F hl;have hlen:=R.len
  have hne:0<((List.range ops.size).filter fun i=>!listed.getD i true&&((ops[i]?).map (·.after.all fun e=>!Region.binds .any e||listed.getD e.on false)).getD false).length:=by
   have hex:∃i,i<ops.size/\listed.getD i true=false:=by
    unfold left at hl;obtain⟨i,hi⟩:=Cb (l:=(List.range ops.size).filter fun i=>!listed.getD i true) (by omega);simp only[dM,eu,jR]at hi;exact⟨i,hi⟩
   have hmin:∀m i,i<=m->i<ops.size->listed.getD i true=false->∃i,i<ops.size/\listed.getD i true=false/\∀j,j<i->listed.getD j true=true:=by
    intro m
    induction m with
    |zero=>intro i h1 h2 h3;exact⟨i,h2,h3,fun j hj=>by omega⟩
    |succ m ihm=>
     intro i h1 h2 h3
     by_cases h4:∃j,j<i/\listed.getD j true=false
     ·obtain⟨j,h5,h6⟩:=h4;exact ihm j (by omega) (by omega) h6
     ·refine⟨i,h2,h3,fun j hj=>?_⟩
      cases hq:listed.getD j true with
      |true=>rfl
      |false=>exact absurd ⟨j,hj,hq⟩ h4
   obtain⟨i0,h1,h2⟩:=hex;obtain⟨i,h3,h4,h5⟩:=hmin i0 i0 (aW _) h1 h2;refine Ie (a:=i) ?_;simp only[dM,eu,h4,uj,uq,iW h3,dp,jt];refine⟨h3,?_⟩;rw[<-ql,dy];intro e he
   cases hb:Region.binds .any e with
   |false=>rfl
   |true=>
    simp only[oY,mN];have hed:=R.ed;simp only[mY,dy]at hed;have h6:=hed (ops[i],i) (by rw[Rg];simp[h3]);rw[<-ql,dy]at h6;have h7:=h6 e he;rw[hb]at h7;simp only[oY,mN,bd]at h7;rw[te (by rw[F.sz];omega) false true];exact h5 _ h7
  simp only[Region.linearise.go];generalize hrs:((List.range ops.size).filter fun i=>!listed.getD i true&&((ops[i]?).map (·.after.all fun e=>!Region.binds .any e||listed.getD e.on false)).getD false)=rs at hne⊢;have hlt:n%rs.length<rs.length:=w7 _ hne;rw[bn hlt];generalize hri:rs[n%rs.length]=i
  have him:i∈rs:=by rw[<-hri];exact bC hlt
  rw[<-hrs]at him;simp only[dM,eu,aw,jR]at him;obtain⟨h1,h2,h3⟩:=him;rw[iW h1]at h3;simp only[dp,jt]at h3;rw[<-ql,dy]at h3;obtain⟨x,hx⟩:∃x,gs[i]? =some x:=⟨_,bn (by omega)⟩
  obtain⟨hD',F',hone⟩:=Ws R F h1 h2 (iW h1) (fun e he hb=>by
   have:=h3 e he;rw[hb]at this
   simpa using this) hx
  simp only;rw[linearise_go_acc,Rh,qh,cn];rw[show gs.getD i default=x by rw[bG,hx];rfl];refine htr _ _ _ (aa9 htr hst (fun o ho its=>hob o ho its _ fun s hs=>F.n s fun j y hy _=>hs y (gX hy)) hmd hone) (ih _ _ _ _ F' ?_);have:=Ek h1 h2;omega
end
section
variable{P:Program}{Γ:Nat->Option AV}{N:Env}{g:G}{h:List Ob}{w:World}
theorem Kg{n:Nat}:∀{es:List (AV×AV)},fE n es=true->aI n (es.map (·.1))=true/\aI n (es.map (·.2))=true
 |[],_=>⟨rfl,rfl⟩
 |(a,b)::es,h=>by
  simp only[fE,aw]at h;obtain⟨h1,h2⟩:=Kg h.2;simp only[cn,aI,aw];exact⟨⟨h.1.1,h1⟩,⟨h.1.2,h2⟩⟩
theorem zg{n:Nat}:∀{es:List AV}(k:Nat),aI n es=true->aI n (es.drop k)=true
 |[],_,_=>by simp[aI]
 |a::es,0,h=>by simpa using h
 |a::es,k+1,h=>by
  simp only[aI,aw]at h;simpa using zg k h.2
theorem abt{n k:Nat}{es:List AV}{fl:Bool}(hfl:fl=true->cd es k=true)(hb:(fl||aI n es)=true):aI n es=true:=by
 cases fl with
 |true=>exact iw (hfl rfl)
 |false=>simpa using hb
theorem abl{n:Nat}{g':G}{h':List Ob}(x:Ext n g h g' h'){i:Nat}{o:Ob}(hρ:g'.ρ i=g.ρ i)(hb:fW n o=true)(ho:OV P g h w i o):OV P g' h' w i o:=by
 cases o with
 |gone=>trivial
 |cells vs=>
  intro b sz st hb';rw[hρ]at hb';obtain⟨c,E,fz,h1,h2,h3⟩:=ho b sz st hb';exact⟨c,E,fz,h1,h2,cp x (by simpa only [fW]using hb) h3⟩
 |row k E es gr fl sh=>
  simp only[OV]at ho⊢;obtain⟨h1,h2,h3,h4,h5⟩:=ho;refine⟨h1,h2,h3,h4,?_⟩;rw[hρ]
  cases hr:g.ρ i with
  |none=>rw[hr]at h5;exact h5
  |some y=>
   obtain⟨b,sz,st⟩:=y;rw[hr]at h5;simp only at h5⊢;obtain⟨h6,c,E',fz,vs,h7,h8,h9,h10,h11⟩:=h5;exact⟨h6,c,E',fz,vs,h7,h8,h9,fo x (zg _ (abt h3 (by simpa only [fW]using hb))) h10,h11⟩
 |map es fl=>
  obtain⟨h1,h3⟩:=ho;refine⟨h1,fun b sz st hb'=>?_⟩;rw[hρ]at hb';obtain⟨a8,ck,h4,h5,h6⟩:=h3 b sz st hb';obtain⟨q1,q2⟩:=Kg (by simpa only [fW]using hb);exact⟨a8,ck,h4,cp x q1 h5,cp x q2 h6⟩
 |gB s p=>
  intro b sz st hb';rw[hρ]at hb';exact ho b sz st hb'
 |loop st j fn t ps a b=>
  intro bk sz sta hb';rw[hρ]at hb';obtain⟨L,h1,h2,h3,h4,h5,h6⟩:=ho bk sz sta hb';exact⟨L,h1,h2,h3,h4,cp x (by simpa only [fW]using hb) h5,h6⟩
 |br live=>
  intro b sz st hb';rw[hρ]at hb';exact ho b sz st hb'
theorem Lb{n:Nat}:∀{h:List Ob}{i:Nat}{o:Ob},cw n h=true->h[i]? =some o->fW n o=true
 |[],_,_,_,hi=>by simp at hi
 |a::h,0,o,hb,hi=>by
  simp only[cw,aw]at hb
  simp at hi;subst hi;exact hb.1
 |a::h,i+1,o,hb,hi=>by
  simp only[cw,aw]at hb;exact Lb hb.2 (by simpa using hi)
theorem Inv.drop(H:Inv P Γ N g h w){n:Nat}(hb:cw n (h.take n)=true):
 Inv P Γ N {g with ρ:=fun i=>if i<n then g.ρ i else none} (h.take n) w/\Ext n g h {g with ρ:=fun i=>if i<n then g.ρ i else none} (h.take n):=by
 have hget:∀{i x},i<n->h[i]? =some x->(h.take n)[i]? =some x:=fun{i x} hi hx=>by rw[w8 hi];exact hx
 have hρ:∀{i},i<n->∀x,g.ρ i=some x->(if i<n then g.ρ i else none)=some x:=fun hi x hx=>by rw[if_pos hi];exact hx
 have hE:Ext n g h {g with ρ:=fun i=>if i<n then g.ρ i else none} (h.take n):=
  ⟨fun _ _ _ x=>x,fun _ _ x=>x,fun i vs hn hi=>⟨⟨_,hget hn hi⟩,hρ hn⟩,fun i es fl hn hi=>⟨⟨_,_,hget hn hi⟩,hρ hn⟩,fun i s p hn hi=>⟨⟨_,_,hget hn hi⟩,hρ hn⟩,
  fun i st j fn t ps a b hn hi=>⟨⟨_,_,hget hn hi⟩,hρ hn⟩,fun i l hn hi=>⟨⟨_,hget hn hi⟩,hρ hn⟩,
  fun i k E es gr fl sh hn hi=>⟨_,_,_,_,_,hget hn hi,aW _,fun _ _ _ hk=>⟨hk,rfl,hρ hn⟩⟩⟩
 have hsub:∀{i b x},(if i<n then g.ρ i else none)=some (b,x)->i<n/\g.ρ i=some (b,x):=by
  intro i b x hi
  by_cases h1:i<n
  ·rw[if_pos h1]at hi;exact⟨h1,hi⟩
  ·rw[if_neg h1]at hi;cases hi
 refine⟨⟨H.os,H.tape,H.output,H.fU,fun i b x hi=>H.own i b x (hsub hi).2,fun i j b x y hi hj=>H.inj i j b x y (hsub hi).2 (hsub hj).2,?_,H.mem,?_,?_,?_,?_,H.mK,H.iQ⟩,hE⟩
 ·intro i hi;simp only
  by_cases h1:i<n
  ·rw[if_pos h1];refine H.nC i ?_;rw[gK]at hi;omega
  ·rw[if_neg h1]
 ·intro b es ck hb;obtain⟨h1,h2⟩:=H.mm b es ck hb;exact⟨h1,fun i x hi=>h2 i x (hsub hi).2⟩
 ·intro i b sz st o v hi hv;obtain⟨h1,h2⟩:=hsub hi;obtain⟨k,E,es,gr,fl,h3,h4⟩:=H.d_ i b sz st o v h2 hv;exact⟨k,E,es,gr,fl,hget h1 h3,h4⟩
 ·intro i o hi
  have hin:i<n:=by
   have:=aV hi;rw[gK]at this;omega
  have hi2:h[i]? =some o:=by rw[w8 hin]at hi;exact hi
  exact abl hE (by simp only;rw[if_pos hin]) (Lb hb hi) (H.ob i o hi2)
 ·intro m a hm;obtain⟨h1,vs,h2,h3⟩:=H.ke m a hm;exact⟨h1,vs,cp (hE.mono (wS _)) h1 h2,h3⟩
variable{i:Nat}{k:Nat}{E:TypeId}{es:List AV}{fl sh:Bool}
theorem Ext.zero{g g':G}{h h':List Ob}(hM:∀b o v,g.M b o=some v->g'.M b o=some v)(hMM:∀b x,g.MM b=some x->g'.MM b=some x):Ext 0 g h g' h':=
 ⟨hM,hMM,fun _ _ h=>by omega,fun _ _ _ h=>by omega,fun _ _ _ h=>by omega,fun _ _ _ _ _ _ _ _ h=>by omega,fun _ _ h=>by omega,fun _ _ _ _ _ _ _ h=>by omega⟩
mutual
theorem tp(hi:h[i]? =some (.row k E es (some 0) fl sh)):∀{a:AV}{v:Value},ik i es.length a=true->V g h a v->V g (h.set i (.row k E es none fl sh)) a v
 |.undef,_,_,_=>by simp[V]
 |.bool _,_,_,hv|.int _ _,_,_,hv|.str _,_,_,hv|.iM,_,_,hv|.cY,_,_,hv|.db,_,_,hv|.eb,_,_,hv|.dR _ _,_,_,hv=>by simpa only [V]using hv
 |.own _ _ _,_,_,hv=>by simp only[V]at hv
 |.list full k es,v,_,hv=>by
  have h0:aF 0 (.list full k es)=true:=by
   simp only[V]at hv;simp only[aF];exact iw hv.1
  exact fv (Ext.zero (fun _ _ _ x=>x) (fun _ _ x=>x)) h0 hv
 |.c8 ks us,v,hb,hv=>fv (Ext.zero (fun _ _ _ x=>x) (fun _ _ x=>x)) (by simpa only [aF,ik]using hb) hv
 |.sl j off n,v,hb,hv=>by
  simp only[V]at hv⊢
  by_cases hji:j=i
  ·subst hji;simp only[ik,Ic,oY,mN,lb]at hb;obtain⟨k',E',es',gr',fl',sh',h1,h2,a,cap,h3,h4,h5,h6⟩:=hv;rw[hi]at h1;simp only[aj,Ob.row.injEq]at h1;obtain⟨rfl,rfl,rfl,rfl,rfl,rfl⟩:=h1;exact⟨_,_,_,none,_,_,ef (aV hi),h2,a,cap,h3,h4,h5,fun _=>h6 (by simp[cy,hb])⟩
  ·obtain⟨k',E',es',gr',fl',sh',h1,h2⟩:=hv;exact⟨k',E',es',gr',fl',sh',by rw[dx (fun e=>hji e.symm)];exact h1,h2⟩
 |.cV a _ _ _,v,hb,hv=>by
  simp only[V]at hv⊢;simp only[ik]at hb;obtain⟨u,b,o,h1,h2,h4,rfl⟩:=hv;exact⟨u,b,o,tp hi hb h1,h2,h4,rfl⟩
 |.ptr j off,v,_,hv=>by
  simp only[V]at hv⊢;obtain⟨⟨vs,hj⟩,h2⟩:=hv;exact⟨⟨vs,by rw[dx (by rintro rfl;rw[hi]at hj;cases hj)];exact hj⟩,h2⟩
 |.mp j,v,_,hv=>by
  simp only[V]at hv⊢;obtain⟨⟨x,y,hj⟩,h2⟩:=hv;exact⟨⟨x,y,by rw[dx (by rintro rfl;rw[hi]at hj;cases hj)];exact hj⟩,h2⟩
 |.it j,v,_,hv=>by
  simp only[V]at hv⊢;obtain⟨⟨x,y,hj⟩,h2⟩:=hv;exact⟨⟨x,y,by rw[dx (by rintro rfl;rw[hi]at hj;cases hj)];exact hj⟩,h2⟩
 |.cQ j,v,_,hv=>by
  simp only[V]at hv⊢;obtain⟨⟨x1,x2,x3,x4,x5,x6,x7,hj⟩,h2⟩:=hv;exact⟨⟨x1,x2,x3,x4,x5,x6,x7,by rw[dx (by rintro rfl;rw[hi]at hj;cases hj)];exact hj⟩,h2⟩
 |.agg cs,v,hb,hv=>by
  simp only[V]at hv⊢;simp only[ik]at hb;obtain⟨vs,rfl,h1⟩:=hv;exact⟨vs,rfl,kF hi hb h1⟩
 |.aG cs,v,hb,hv=>by
  simp only[V]at hv⊢;simp only[ik]at hb;obtain⟨vs,rfl,h1⟩:=hv;exact⟨vs,rfl,kF hi hb h1⟩
 |.fn f a b,v,hb,hv=>by
  simp only[V]at hv⊢;simp only[ik,aw]at hb;obtain⟨xs,ys,rfl,h1,h2⟩:=hv;exact⟨xs,ys,rfl,kF hi hb.1 h1,kF hi hb.2 h2⟩
 |.bS t a,v,hb,hv=>by
  simp only[V]at hv⊢;simp only[ik]at hb;obtain⟨y,rfl,h1⟩:=hv;exact⟨y,rfl,tp hi hb h1⟩
theorem kF(hi:h[i]? =some (.row k E es (some 0) fl sh)):∀{as:List AV}{vs:List Value},cW i es.length as=true->VL g h as vs->VL g (h.set i (.row k E es none fl sh)) as vs
 |[],_,_,hv=>by simpa only [VL]using hv
 |a::as,_,hb,hv=>by
  simp only[VL]at hv⊢;simp only[cW,aw]at hb;obtain⟨v,vs',rfl,h1,h2⟩:=hv;exact⟨v,vs',rfl,tp hi hb.1 h1,kF hi hb.2 h2⟩
end
theorem D4(hi:h[i]? =some (.row k E es (some 0) fl sh)):∀{as:List AV}{vs:List Value},cW i es.length as=true->VE g h as vs->VE g (h.set i (.row k E es none fl sh)) as vs
 |[],_,_,hv=>by simpa only [VE]using hv
 |a::as,_,hb,hv=>by
  simp only[VE]at hv⊢;simp only[cW,aw]at hb;obtain⟨v,vs',h1,rfl,h2⟩:=hv;exact⟨v,vs',tp hi hb.1 h1,rfl,D4 hi hb.2 h2⟩
theorem Kq{m:Nat}:∀{es:List AV}(k:Nat),cW i m es=true->cW i m (es.drop k)=true
 |[],_,_=>by simp[cW]
 |a::es,0,h=>by simpa using h
 |a::es,k+1,h=>by
  simp only[cW,aw]at h;simpa using Kq k h.2
theorem JO{m:Nat}:∀{es:List (AV×AV)},mE i m es=true->cW i m (es.map (·.1))=true/\cW i m (es.map (·.2))=true
 |[],_=>⟨rfl,rfl⟩
 |(a,b)::es,h=>by
  simp only[mE,aw]at h;obtain⟨h1,h2⟩:=JO h.2;simp only[cn,cW,aw];exact⟨⟨h.1.1,h1⟩,⟨h.1.2,h2⟩⟩
theorem Ex{m:Nat}:∀{h:List Ob}{j:Nat}{o:Ob},cD i m h=true->h[j]? =some o->k6 i m o=true
 |[],_,_,_,hi=>by simp at hi
 |a::h,0,o,hb,hi=>by
  simp only[cD,aw]at hb
  simp at hi;subst hi;exact hb.1
 |a::h,j+1,o,hb,hi=>by
  simp only[cD,aw]at hb;exact Ex hb.2 (by simpa using hi)
theorem Inv.reset(H:Inv P Γ N g h w)(hi:h[i]? =some (.row k E es (some 0) fl sh))(hv:cD i es.length h=true):Inv P Γ N g (h.set i (.row k E es none fl sh)) w:=by
 have hE0:Ext 0 g h g (h.set i (.row k E es none fl sh)):=Ext.zero (fun _ _ _ x=>x) (fun _ _ x=>x);refine⟨H.os,H.tape,H.output,H.fU,H.own,H.inj,fun j hj=>H.nC j (by simpa using hj),H.mem,H.mm,?_,?_,?_,H.mK,H.iQ⟩
 ·intro j b sz st o v hj hM;obtain⟨k',E',es',gr,fl',h3,h4⟩:=H.d_ j b sz st o v hj hM
  by_cases hji:j=i
  ·subst hji;rw[hi]at h3;simp only[aj,Ob.row.injEq]at h3;obtain⟨rfl,rfl,rfl,rfl,rfl,rfl⟩:=h3;exact⟨_,_,_,none,_,ef (aV hi),h4⟩
  ·exact⟨k',E',es',gr,fl',by rw[dx (fun e=>hji e.symm)];exact h3,h4⟩
 ·intro j o hj
  by_cases hji:j=i
  ·subst hji;rw[ef (aV hi)]at hj;simp only[aj]at hj;subst hj;have ho:=H.ob j _ hi;have hvo:=Ex hv hi;simp only[k6]at hvo;simp only[OV]at ho⊢;obtain⟨h1,h2,h3,h4,h5⟩:=ho;refine⟨h1,h2,h3,by simp,?_⟩
   cases hr:g.ρ j with
   |none=>rw[hr]at h5;exact h5
   |some y=>
    obtain⟨b,sz,st⟩:=y;rw[hr]at h5;simp only at h5⊢;obtain⟨h6,c,E',fz,vs,h7,h8,h9,h10,h11⟩:=h5;refine⟨h6,c,E',fz,vs,h7,h8,h9,?_,h11⟩;simp only[jt,rV,iu]at h10⊢
    cases fl with
    |true=>exact fo hE0 (iw (h3 rfl)) h10
    |false=>exact D4 hi (by simpa using hvo) h10
  ·rw[dx (fun e=>hji e.symm)]at hj;have ho:=H.ob j o hj;have hvo:=Ex hv hj
   cases o with
   |gone=>trivial
   |cells vs=>
    intro b sz st hb';obtain⟨c,E,fz,h1,h2,h3⟩:=ho b sz st hb';exact⟨c,E,fz,h1,h2,kF hi (by simpa only [k6]using hvo) h3⟩
   |row k2 E2 es2 gr2 fl2 sh2=>
    simp only[k6]at hvo;simp only[OV]at ho⊢;obtain⟨h1,h2,h3,h4,h5⟩:=ho;refine⟨h1,h2,h3,h4,?_⟩
    cases hr:g.ρ j with
    |none=>rw[hr]at h5;exact h5
    |some y=>
     obtain⟨b,sz,st⟩:=y;rw[hr]at h5;simp only at h5⊢;obtain⟨h6,c,E',fz,vs,h7,h8,h9,h10,h11⟩:=h5;refine⟨h6,c,E',fz,vs,h7,h8,h9,?_,h11⟩
     cases fl2 with
     |true=>exact fo hE0 (zg _ (iw (h3 rfl))) h10
     |false=>exact D4 hi (Kq _ (by simpa using hvo)) h10
   |map es fl=>
    obtain⟨h1,h3⟩:=ho;refine⟨h1,fun b sz st hb'=>?_⟩;obtain⟨a8,ck,h4,h5,h6⟩:=h3 b sz st hb';obtain⟨q1,q2⟩:=JO (by simpa only [k6]using hvo);exact⟨a8,ck,h4,kF hi q1 h5,kF hi q2 h6⟩
   |gB s p=>exact ho
   |loop st q fn t ps a b=>
    intro bk sz sta hb';obtain⟨L,h1,h2,h3,h4,h5,h6⟩:=ho bk sz sta hb';exact⟨L,h1,h2,h3,h4,kF hi (by simpa only [k6]using hvo) h5,h6⟩
   |br live=>exact ho
 ·intro n a hn;obtain⟨h1,vs,h2,h3⟩:=H.ke n a hn;exact⟨h1,vs,cp hE0 h1 h2,h3⟩
theorem Ext.reset{n:Nat}(hn:n<=i)(o:Ob):Ext n g h g (h.set i o):=by
 have hget:∀{j x},j<n->h[j]? =some x->(h.set i o)[j]? =some x:=fun{j x} hj hx=>by rw[dx (by omega)];exact hx
 exact⟨fun _ _ _ x=>x,fun _ _ x=>x,fun i vs hn hi=>⟨⟨_,hget hn hi⟩,fun _ x=>x⟩,fun i es fl hn hi=>⟨⟨_,_,hget hn hi⟩,fun _ x=>x⟩,fun i s p hn hi=>⟨⟨_,_,hget hn hi⟩,fun _ x=>x⟩,
  fun i st j fn t ps a b hn hi=>⟨⟨_,_,hget hn hi⟩,fun _ x=>x⟩,fun i l hn hi=>⟨⟨_,hget hn hi⟩,fun _ x=>x⟩,
  fun i k E es gr fl sh hn hi=>⟨_,_,_,_,_,hget hn hi,aW _,fun _ _ _ hk=>⟨hk,rfl,fun _ x=>x⟩⟩⟩
end
end Go.AM
