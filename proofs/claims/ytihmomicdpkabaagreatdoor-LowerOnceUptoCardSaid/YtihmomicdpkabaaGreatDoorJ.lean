/- OrderRises: gates that stand in an order in which they may come come just so. -/
import Derived.Test.YtihmomicdpkabaaGreatDoorI
import Derived.Test.YtihmomicdpkabaaGreatDoorH
import Derived.Test.YtihmomicdpkabaaGreatDoorG
import Derived.Test.YtihmomicdpkabaaGreatDoorF
import Derived.Test.YtihmomicdpkabaaGreatDoorCode
import Derived.Test.YtihmomicdpkabaaGreatDoorAMd
set_option linter.unusedSimpArgs false
set_option linter.unusedVariables false
namespace Go.Proofs.YtihmomicdpkabaaGreatDoor
open Go.AM Go.Proofs
variable{Γ:Nat->Option AV}
theorem L9(N:List Bs):∀l:List Bs,(∀s∈l,s∈N)->gO N l=(0,[])
 |[],_=>rfl
 |a::l,h=>by rw[gO,if_pos (h a (by simp)),L9 N l fun s hs=>h s (by simp[hs])]
theorem K7(r:Int×Bs):∀l:List Gt,(∀g∈l,kR g=true)->jd r l=r
 |[],_=>rfl
 |a::l,h=>by rw[jd,if_pos (h a (by simp)),K7 r l fun s hs=>h s (by simp[hs])]
theorem LP(r:Int×Bs):∀l:List Lt,(∀g∈l,lr g=true)->j_ r l=r
 |[],_=>rfl
 |a::l,h=>by rw[j_,if_pos (h a (by simp)),LP r l fun s hs=>h s (by simp[hs])]
theorem Lo(r:Int×Bs):∀l:List Bs,(∀g∈l,iK g=true)->m8 r l=r
 |[],_=>rfl
 |a::l,h=>by rw[m8,if_pos (h a (by simp)),Lo r l fun s hs=>h s (by simp[hs])]
theorem Lp{c:Ct}(h:gU c):h_ c=(0,[]):=by
 unfold h_;rw[h.k9,if_neg (by simp),Lo _ _ h.names,h.rE,h.outs,LP _ _ h.init,K7 _ _ h.af,L9 _ _ h.used];rfl
theorem Y2{c:Ct}(h:gU c):j5 c=true:=by rw[j5,Lp h];rfl
theorem tA.mono{c:Ct}{a b:List Bs}(h:∀s∈a,s∈b){s:Bs}(h1:tA c a s):tA c b s:=by
 induction h1 with
 |base h2=>exact .base (h _ h2)
 |step _ h3 ih=>exact .step ih h3
def s_(c:Ct):Bool:=tK c&&(decide (c.af.length<=24)&&(decide (c.aM.length<=24)&&decide (c.an.length<=24)))
theorem Zc(c:Ct):aS Tryz.prog Γ xQ [bR c] (.bool (s_ c)):=by
 have hF:=acL (Γ:=Γ) c;refine .run 60 Uy (by simp) ?_;unfold s_;simp;refine .call 60 (by simp) hF ?_
 cases tK c with
 |false=>
  simp;exact .back (by simp)
 |true=>
  have e0:((c.af.length:Int)<=24)=(c.af.length<=24):=propext (by omega);have e1:((c.aM.length:Int)<=24)=(c.aM.length<=24):=propext (by omega);have e2:((c.an.length:Int)<=24)=(c.an.length<=24):=propext (by omega)
  by_cases h1:c.af.length<=24
  ·by_cases h2:c.aM.length<=24
   ·simp[e0,e1,e2,h1,h2];exact .back (by simp)
   ·simp[e0,e1,e2,h1,h2];exact .back (by simp)
  ·simp[e0,e1,e2,h1];exact .back (by simp)
def Q_(m:List (Bs×Bool))(s:Bs):Bool:=match getM s m with
 |some v=>v
 |none=>false
def N5(m:List (Bs×Bool))(l:List Bs):List Bool:=l.map (Q_ m)
def AL(c:Ct):List Bs:=c.aM++c.an.map (·.name)
def adz(c:Ct)(ins state:List Bool):List (Bs×Bool):=(AL c).zip (ins++state)
def adR(c:Ct)(m:List (Bs×Bool))(a:Nat):List (Bs×Bool):=match c.af[a]? with
 |some g=>m++[(g.name,ada g (N5 m g.ins))]
 |none=>m
def adN(c:Ct)(ins state:List Bool)(p:List Nat):List (Bs×Bool):=p.foldl (adR c) (adz c ins state)
def Ol(c:Ct)(ins state:List Bool):List (Bs×Bool):=adN c ins state (aT c)
theorem VN{c:Ct}(ok:gU c):(AL c++c.af.map (·.name)).Nodup:=by
 have:=ok.nodup;simpa[aK,AL]using this
def adf(c:Ct)(ins state:List Bool):List Bool:=N5 (Ol c ins state) c.bg
def adw(c:Ct)(ins state:List Bool):List Bool:=c.an.map fun q=>Q_ (Ol c ins state) q.next
theorem Yt{c:Ct}(ok:gU c)(hall:∀i<c.af.length,i∈aT c):mr c=[]:=by
 rw[mr,if_pos (Y2 ok),Ci];intro s hs;rw[y4]at hs;obtain⟨t,ht,_,h2⟩:=hs;rw[il]at h2;exact h2 (hall t ht)
theorem sU{c:Ct}(ok:gU c)(hall:∀i<c.af.length,i∈aT c):kP c=(0,[]):=by
 unfold kP
 rw[Lp ok,Yt ok hall];rfl
def ud(c:Ct):Bool:=decide ((kP c).1=0)
theorem ML{c:Ct}(h:ud c=true):j5 c=true/\mr c=[]/\kP c=(0,[]):=Xc (Cj h)
abbrev Bf(x:Bs×Bool):AV×AV:=(.str x.1,.bool x.2)
@[simp] theorem MJ(n:Nat):∀l:List (Bs×Bool),fE n (l.map Bf)=true
 |[]=>rfl
 |x::r=>by simp[MJ n r]
@[simp] theorem aae(n m:Nat):∀l:List (Bs×Bool),mE n m (l.map Bf)=true
 |[]=>rfl
 |x::r=>by simp[aae n m r]
@[simp] theorem ayr(n:Nat)(τ:List Nat)(l:List (Bs×Bool)):lY n τ (l.map Bf)=l.map Bf:=EO (MJ n l)
theorem NY{h os:List Ob}{a b:Ob}:(h++a::b::os)[h.length+1]? =some b:=by simp
def A3(c:Ct)(N:List Bs)(l:List Nat):Ob:=.cells [.list false c.kI (c.aM.map .str),.list false c.kO (c.bg.map .str),.list false c.kL (c.an.map oP),.list false c.kG (c.af.map cZ),.list false 1 (N.map .str),.list false 1 (l.map iN)]
structure Md where
 g:Gr
 aM:List Bs
 an:List Bs
 bg:List Bs
 kI:Nat
 kL:Nat
 kO:Nat
 hI:Kd 1 kI aM
 hL:Kd 1 kL an
 hO:Kd 1 kO bg
abbrev p8(m:Md):AV:=.agg [.int .i64 m.g.ins,.list false m.g.kn (m.g.next.map i64),.list false m.g.ki (m.g.init.map i64),.list false m.g.ka (m.g.al.map dm),.list false m.g.ko (m.g.outs.map i64),
 .list false m.kI (m.aM.map .str),.list false m.kL (m.an.map .str),.list false m.kO (m.bg.map .str)]
def qb:Md:=⟨gm,[],[],[],0,0,0,.nil,.nil,.nil⟩
def rM(m:List (Bs×Nat))(s:Bs):Nat:=match getM s m with
 |some v=>v
 |none=>0
def cU(m:List (Bs×Nat))(l:List Bs):List Nat:=l.map (rM m)
def gy(n:Nat):List Nat:=(List.range n).map fun i=>2*(i+1)
def dQ(c:Ct):Gr:=⟨c.aM.length,List.replicate c.an.length 0,c.an.map (·.init),[],[],1,1,0,0,.self,.self,.nil,.nil⟩
def lQ(c:Ct):List Nat->Gr->List Nat->Gr×Option (List Nat)
 |[],x,v=>(x,some v)
 |a::r,x,v=>match c.af[a]? with
  |none=>(x,none)
  |some g=>eD (iE x g (cU ((aK c).zip v) g.ins)) fun y d=>lQ c r y (v.set (c.aM.length+c.an.length+a) d)
def oM(c:Ct):Gr×Option (List Nat):=lQ c (aT c) (dQ c) (gy (aK c).length)
def gF(c:Ct)(y:Gr)(v:List Nat):Gr:={y with
 next:=(cU ((aK c).zip v) (c.an.map (·.next))).map fun n:Nat=>(n:Int),kn:=1,hn:=.self
 outs:=(cU ((aK c).zip v) c.bg).map fun n:Nat=>(n:Int),ko:=1,ho:=.self}
def rh(c:Ct)(y:Gr)(v:List Nat):Md:=⟨(gF c y v).normal,c.aM,c.an.map (·.name),c.bg,1,1,1,.self,.self,.self⟩
def m5(c:Ct):Md×Int×Bs:=
 if(kP c).1=0 then(match(oM c).2 with
  |none=>(qb,8,[])
  |some v=>(rh c (oM c).1 v,0,[]))else(qb,kP c)
abbrev tJ(r:Md×Int×Bs):AV:=.aG [p8 r.1,.int .i64 r.2.1,.str r.2.2]
theorem _root_.Go.AM.Reach.aaS{P:Program}{f:FuncId}{args:List AV}{up:List Fr}{h:List Ob}{v:AV}(J:List Ob)(hw:cI h)(hv:aF h.length v=true)(h1:AM.Reach P Γ (.cl f args up h) (.back up v (h++J))):AM.Reach P Γ (.cl f args up h) (.back up v h):=by
 have:=AM.Reach.leave h1 hv (by rw[uz rfl];exact hw _ (aW _));rwa[uz rfl]at this
def Ot(m:List (Bs×Nat)):Ob:=.map (m.map gH) true
theorem aaI(s:Bs)(m:List (Bs×Nat)):ew (.sc .str) (.str s) (m.map gH)=some ((getM s m).map iN):=y5 pH iN s m
theorem ab6{h os:List Ob}{a b:Ob}{f:Ob->Ob}:(h++a::b::os).modify (h.length+1) f=h++a::f b::os:=by
 induction h with
 |nil=>rfl
 |cons x h ih=>simpa using ih
set_option maxRecDepth 8000 in
theorem E7(m:List (Bs×Nat))(l:List Bs){fl:Bool}{k:Nat}(hk:Kd 1 k l)(hl:l.length<2^40){j q:Nat}{h:List Ob}(hj:h[j]? =some (.cells [.mp q]))(hq:h[q]? =some (Ot m))(hw:cI h)(hv:fL h):
 ∀up,AM.Reach Tryz.prog Γ (.cl nR [.list fl k (l.map .str),.ptr j 0] up h) (.back up (.list false 1 ((cU m l).map iN)) h):=by
 intro up;have hb:=hw h.length (aW _)
 have hget:=fun os=>fq hj os
 have hget2:=fun os=>fq hq os
 unfold Ot at hget2
 have hvv:=fun m=>hv (h.length+1) m (by omega)
 have key:∀n i:Nat,i+n=l.length->AM.Reach Tryz.prog Γ (ygm (.ptr j 0) (.sl (h.length+1) 0 i) (.list fl k (l.map .str)) (.int .i64 l.length) (.int .i64 i) (h++[.row 1 aq [] none true false,.row 1 aq ((cU m (l.take i)).map iN) none true false]) ⟨[],.norm,h.length,up⟩)
  (.back up (.list false 1 ((cU m l).map iN)) (h++[.row 1 aq [] none true false,.row 1 aq ((cU m l).map iN) none true true])):=by
  intro n
  induction n with
  |zero=>
   intro i hi
   have q1:¬i<l.length:=by omega
   have he:i=l.length:=by omega
   subst he;rw[cL (by omega)]
   have hlen:(cU m l).length=l.length:=by simp[cU]
   have htk:((cU m l).map iN).take l.length=(cU m l).map iN:=cL (by simp[hlen]);generalize cU m l=P at*;refine .dK 60 ?_;simp[q1];refine .trans (.exit rfl rfl) ?_;refine .trees [4] ?_;simp[ab6,iz];refine .ba 60 ?_;simp[htk,hlen]
  |succ n ih=>
   intro i hi
   have q1:i<l.length:=by omega
   have q2:=cF (hk.of q1);have hh:=ih (i+1) (by omega)
   have e1:cU m (l.take (i+1))=cU m (l.take i)++[rM m l[i]]:=by
    rw[kz q1,cU,l0];rfl
   have hlen:(cU m (l.take i)).length=i:=by simp[cU];omega
   rw[e1]at hh;have hf:=aaI l[i] m;have hlk:rM m l[i]=(match getM l[i] m with|some v=>v|none=>0):=rfl
   have hle:((i:Int)+1)<=140737488355328:=by omega
   generalize cU m (l.take i)=P at*;refine .ba 60 ?_
   cases hg:getM l[i] m with
   |none=>
    rw[hg]at hf hlk;simp at hf hlk;rw[hlk]at hh;simp(disch:=omega) [q1,q2,hget,hget2,hf,isKey,b_,cM,hle,hlen];refine .aN ?_;simp;refine .pF (i:=h.length+1) NY (by simp) (by simp[hlen]) (by simp[hvv]) ?_;simp at hh⊢;exact hh
   |some v=>
    rw[hg]at hf hlk;simp at hf hlk;rw[hlk]at hh;simp(disch:=omega) [q1,q2,hget,hget2,hf,isKey,b_,cM,hle,hlen];refine .aN ?_;simp;refine .pF (i:=h.length+1) NY (by simp) (by simp[hlen]) (by simp[hvv]) ?_;simp at hh⊢;exact hh
 refine .aaS [.row 1 aq [] none true false,.row 1 aq ((cU m l).map iN) none true true] hw (by simp) ?_;refine .bB 60 Tt ?_;simp;refine .inLoop ?_;have hh:=key l.length 0 (by omega);simp[cU]at hh⊢;exact hh
abbrev mdC(c:Ct)(L:AV):Ob:=.cells [.int .i64 0,.list true 0 [],.list true 0 [],.list true 0 [],.list true 0 [],.list false 1 (c.aM.map .str),L,.list false 1 (c.bg.map .str)]
abbrev hA(c:Ct)(L:AV)(B:Ob)(m:List (Bs×Nat)):List Ob:=[.cells (AV.cells (bR c)),mdC c L,.row 1 aq [] none true false,.row 1 aq [] none true false,.row 2 cH [] none true false,.row 1 aq [] none true false,.row 1 aD [] none true false,.row 1 aD [] none true false,.row 1 aD [] none true false,
 .cells [.int .i64 0],.cells [.str []],B,.map (m.map gH) true,.cells [.mp 12]]
abbrev rL:Cx:=⟨[.call xF [.ptr 1 0,.ptr 9 0,.ptr 10 0]],.norm,0,[]⟩
@[simp] theorem awX(n k:Nat)(z:Int):aI n (List.replicate k (.int .i64 z))=true:=by
 induction k with
 |zero=>rfl
 |succ k ih=>simp[ku,ih]
@[simp] theorem aw7(i m k:Nat)(z:Int):cW i m (List.replicate k (.int .i64 z))=true:=by
 induction k with
 |zero=>rfl
 |succ k ih=>simp[ku,ih]
theorem vn(n:Nat):(gy n).length=n:=by simp[gy]
theorem TR(N:List Bs)(v:List Nat){i:Nat}(hi:i<N.length)(h2:i<v.length):(N.take (i+1)).zip (v.take (i+1))=(N.take i).zip (v.take i)++[(N[i],v[i])]:=by
 rw[kz hi,kz h2,List.zip_append (by simp;omega)];rfl
theorem TY{N:List Bs}(hn:N.Nodup)(v:List Nat){i:Nat}(hi:i<N.length):getM N[i] ((N.take i).zip (v.take i))=none:=by
 rw[getM_none];intro x hx he;have:=(List.of_mem_zip (a:=x.1) (b:=x.2) hx).1;obtain⟨j,hj,hje⟩:=o7 this;rw[rS]at hje;have h1:=(Cg (xs:=N) (i:=j) (j:=i) (h₀:=by simp at hj;omega) (h₁:=hi) hn).1 (hje.trans he)
 simp at hj;omega
set_option maxRecDepth 8000 in
theorem ac0(c:Ct)(N:List Bs)(hN:N.Nodup)(hNl:N.length<2^20)(L:AV)(B:Ob)(hB:fW 14 B=true)(hL:aF 14 L=true){o:Out}
 (hc:az Tryz.prog Γ (ycl (.ptr 0 0) (.ptr 1 0) (.ptr 9 0) (.ptr 10 0) (.ptr 11 0) (.ptr 13 0) (hA c L B (N.zip (gy N.length))) rL) o):∀n i:Nat,i+n=N.length->
 az Tryz.prog Γ (yck (.ptr 0 0) (.ptr 1 0) (.ptr 9 0) (.ptr 10 0) (.ptr 11 0) (.ptr 13 0) (.list false 1 (N.map .str)) (.int .i64 N.length) (.int .i64 i) (hA c L B ((N.take i).zip ((gy N.length).take i))) rL) o:=by
 intro n
 induction n with
 |zero=>
  intro i hi
  have q1:¬i<N.length:=by omega
  rw[cL (by omega),cL (by rw[vn];omega)];refine .dK 60 ?_;simp[q1];exact .reach (.exit rfl rfl) hc
 |succ n ih=>
  intro i hi
  have q1:i<N.length:=by omega
  have hh:=ih (i+1) (by omega)
  have hv:(gy N.length)[i]'(by rw[vn];exact q1)=2*(i+1):=by simp[gy]
  rw[TR N _ q1 (by rw[vn];exact q1),hv]at hh
  have hput:gR (.sc .str) (.str N[i]) (.int .i64 (2*((i:Int)+1))) (((N.take i).zip ((gy N.length).take i)).map gH)=some (((N.take i).zip ((gy N.length).take i)).map gH++[(.str N[i],.int .i64 (2*((i:Int)+1)))]):=by
   have:=D3 (E:=.sc .str) (e:=AV.str) pH iN (2*(i+1)) (TY hN (gy N.length) q1);rw[l0]at this;rw[show AV.int .i64 (2*((i:Int)+1))=iN (2*(i+1)) by simp[iN]];exact this
  generalize(N.take i).zip ((gy N.length).take i)=m at*;refine .dK 60 ?_;simp(disch:=omega) [q1,hput,isKey,b_,cM];refine .aN ?_;simp[hA]at hh⊢;exact hh
abbrev hB(c:Ct)(m:List (Bs×Nat))(i:Nat):List Ob:=hA c (.sl 15 0 i) (.cells [.int .i64 c.aM.length,.list false 1 (List.replicate c.an.length (.int .i64 0)),.sl 16 0 i,.list false 0 [],.list false 0 []]) m++
 [.row 1 aD ((c.an.take i).map fun q=>.str q.next) none true false,.row 1 aD ((c.an.take i).map fun q=>.str q.name) none true false,.row 1 aq ((c.an.take i).map fun q=>.int .i64 q.init) none true false]
set_option maxRecDepth 8000 in
theorem ac4(c:Ct)(hcf:bY c)(m:List (Bs×Nat)){o:Out}
 (hc:az Tryz.prog Γ (yci (.ptr 0 0) (.ptr 1 0) (.ptr 9 0) (.ptr 10 0) (.ptr 11 0) (.ptr 13 0) (.fn (.func nR) [] [.ptr 13 0]) (.sl 14 0 c.an.length) (hB c m c.an.length) rL) o):∀n i:Nat,i+n=c.an.length->
 az Tryz.prog Γ (ych (.ptr 0 0) (.ptr 1 0) (.ptr 9 0) (.ptr 10 0) (.ptr 11 0) (.ptr 13 0) (.fn (.func nR) [] [.ptr 13 0]) (.sl 14 0 i) (.list false c.kL (c.an.map oP)) (.int .i64 c.an.length) (.int .i64 i) (hB c m i) rL) o:=by
 have b2:=hcf.2.2.1;intro n
 induction n with
 |zero=>
  intro i hi
  have q1:¬i<c.an.length:=by omega
  have he:i=c.an.length:=by omega
  subst he;refine .dK 60 ?_;simp[q1]at hc⊢;exact .reach (.exit rfl rfl) hc
 |succ n ih=>
  intro i hi
  have q1:i<c.an.length:=by omega
  have q2:=cF (c.hL.of q1);have hh:=ih (i+1) (by omega)
  have hle:((i:Int)+1)<=140737488355328:=by omega
  have e:c.an.take (i+1)=c.an.take i++[c.an[i]]:=kz q1;simp only[hB,e,l0]at hh⊢
  have hlen:(c.an.take i).length=i:=by simp;omega
  generalize c.an.take i=P at*;refine .dK 60 ?_;simp(disch:=omega) [q1,q2,hlen,hle];refine .dr 60 ?_;simp(disch:=omega) [q1,q2,hlen,hle];refine .aN ?_;simp;have hbm:=m6 17 m
  have hvm:=fun i k=>ot i k m
  refine .drop 17 rfl (by simp) (by simp) (by simp[hbm]) ?_;refine .reset (i:=14) rfl (by simp) (by simp[hlen]) (by simp[hvm]) ?_;refine .reset (i:=15) rfl (by simp) (by simp[hlen]) (by simp[hlen,hvm]) ?_;refine .reset (i:=16) rfl (by simp) (by simp[hlen]) (by simp[hlen,hvm]) ?_;simp[hA]at hh⊢;exact hh
theorem Lg(d:Nat):∀(N:List Bs)(v:List Nat)(j:Nat)(hn:N.Nodup)(hj:j<N.length),v.length=N.length->gR (.sc .str) (.str N[j]) (iN d) ((N.zip v).map gH)=some ((N.zip (v.set j d)).map gH)
 |[],v,j,hn,hj,hv=>by simp at hj
 |s::N,[],j,hn,hj,hv=>by simp at hv
 |s::N,a::v,0,hn,hj,hv=>by simp[gR,pH]
 |s::N,a::v,j+1,hn,hj,hv=>by
  rw[l8]at hn
  have hj':j<N.length:=by simpa using hj
  have ih:=Lg d N v j hn.2 hj' (by simpa using hv)
  have hne:¬N[j]=s:=fun e=>hn.1 (by rw[<-e];exact bC hj')
  simp only[Cc,Rf,cn,gR,pH,hne,l6,ih,dp,oW]
def pY(c:Ct)(p:List Nat)(k:Nat):Prop:=k<c.aM.length+c.an.length\/∃j∈p,k=c.aM.length+c.an.length+j
def rH(c:Ct)(x:Gr)(v:List Nat)(p:List Nat):Prop:=∀k(hk:k<v.length),pY c p k->v[k]<x.lits
theorem v_:∀(N:List Bs)(v:List Nat)(k:Nat)(hn:N.Nodup)(hk:k<N.length)(hv:v.length=N.length),rM (N.zip v) N[k]=v[k]'(by omega)
 |[],v,k,hn,hk,hv=>by simp at hk
 |s::N,[],k,hn,hk,hv=>by simp at hv
 |s::N,a::v,0,hn,hk,hv=>by simp[rM,getM]
 |s::N,a::v,k+1,hn,hk,hv=>by
  rw[l8]at hn
  have hk':k<N.length:=by simpa using hk
  have ih:=v_ N v k hn.2 hk' (by simpa using hv)
  have hne:¬N[k]=s:=fun e=>hn.1 (by rw[<-e];exact bC hk')
  simp only[rM,Rf,Cc,getM,hne,de]at ih⊢;exact ih
theorem Nw(c:Ct){a:Nat}(ha:a<c.af.length):∃h:c.aM.length+c.an.length+a<(aK c).length,(aK c)[c.aM.length+c.an.length+a]=c.af[a].name:=by
 have h:c.aM.length+c.an.length+a<(aK c).length:=by simp[aK];try omega
 refine⟨h,?_⟩
 have:(aK c)[c.aM.length+c.an.length+a]? =some c.af[a].name:=by
  rw[aK,dL (by simp),wV]
  rw[show c.aM.length+c.an.length+a-(c.aM++c.an.map (·.name)).length=a by simp,bn ha];rfl
 exact(dB.1 this).2
theorem K0(c:Ct):(aK c).length=c.aM.length+c.an.length+c.af.length:=by simp[aK,mL]
theorem Ep{c:Ct}(ok:gU c){i:Nat}(hi:i<(aT c).length){s:Bs}(hs:s∈(c.af[(aT c)[i]]'(me c _ (bC hi))).ins):∃k,∃hk:k<(aK c).length,(aK c)[k]=s/\pY c ((aT c).take i) k:=by
 have ha:=me c _ (bC hi)
 have hu:s∈gz c:=by
  simp only[gz,nb,bF,uo];exact .inr ⟨_,bC ha,hs⟩
 obtain⟨k,hk,he⟩:=o7 (ok.used s hu);refine⟨k,hk,he,?_⟩
 by_cases h1:k<c.aM.length+c.an.length
 ·exact .inl h1
 ·have hl:=K0 c
  have hj:k-(c.aM.length+c.an.length)<c.af.length:=by omega
  obtain⟨h2,h3⟩:=Nw c hj;refine .inr ⟨k-(c.aM.length+c.an.length),ZN c hi ((Fi ha hj).2 ?_),by omega⟩;rw[<-h3]
  have e:c.aM.length+c.an.length+(k-(c.aM.length+c.an.length))=k:=by omega
  simp only[e,he];exact hs
theorem vL{c:Ct}{x:Gr}{v p:List Nat}(hn:(aK c).Nodup)(hv:v.length=(aK c).length)(h:rH c x v p){l:List Bs}(hl:∀s∈l,∃k,∃hk:k<(aK c).length,(aK c)[k]=s/\pY c p k):∀a∈cU ((aK c).zip v) l,a<x.lits:=by
 intro a ha;obtain⟨s,hs,rfl⟩:=dn.1 ha;obtain⟨k,hk,rfl,hc⟩:=hl s hs;rw[v_ _ _ k hn hk hv];exact h k (by omega) hc
theorem rH.step{c:Ct}{x y:Gr}{v p:List Nat}(h:rH c x v p)(hxy:x.lits<=y.lits){a d:Nat}(hd:d<y.lits):rH c y (v.set (c.aM.length+c.an.length+a) d) (p++[a]):=by
 intro k hk hc;rw[List.getElem_set]
 split
 ·exact hd
 ·rename_i hne;refine jO (h k (by simpa using hk) ?_) hxy
  rcases hc with hc|⟨j,hj,rfl⟩
  ·exact .inl hc
  ·rcases bF.1 hj with hj|hj
   ·exact .inr ⟨j,hj,rfl⟩
   ·simp only[dA]at hj;subst hj;exact absurd rfl hne
theorem pn(m:List (Bs×Nat))(l:List Bs):(cU m l).length=l.length:=by simp[cU]
abbrev Nr(c:Ct):AV:=.list false 1 ((c.an.map (·.name)).map .str)
abbrev hM(c:Ct)(x:Gr)(v:List Nat):List Ob:=hA c (Nr c) (cv x) ((aK c).zip v)
theorem NP(c:Ct)(x:Gr)(v:List Nat)(os:List Ob)(hos:∀m,14+os.length<=m->cw m os=true):cI (hM c x v++os):=fun m hm=>by
 have h1:=m6 m ((aK c).zip v);simp at hm;have h2:=hos m (by omega);simp[h1,h2];omega
theorem NN(c:Ct)(x:Gr)(v:List Nat)(os:List Ob)(hos:∀i m,14+os.length<=i->cD i m os=true):fL (hM c x v++os):=fun i m hi=>by
 have h1:=ot i m ((aK c).zip v);simp at hi;have h2:=hos i m (by omega);simp[h1,h2]
 try omega
def A_(c:Ct)(r:Gr×Option (List Nat)):Md×Int×Bs:=match r.2 with
 |none=>(qb,8,[])
 |some v=>(rh c r.1 v,0,[])
theorem YF{c:Ct}(hc:bY c){y:Gr}(ok:y.Ok)(v:List Nat):(gF c y v).k_:=by
 have f:=ok.k_;have b1:=hc.2.1;have b2:=hc.2.2.1;refine⟨?_,f.2.1,f.2.2.1,?_⟩
 ·simp[gF,pn];omega
 ·simp[gF,pn];omega
set_option maxRecDepth 8000 in
theorem adP(c:Ct)(hc:bY c)(y:Gr)(ok:y.Ok)(v:List Nat):
 az Tryz.prog Γ (ycf (.ptr 0 0) (.ptr 1 0) (.ptr 9 0) (.ptr 10 0) (.ptr 11 0) (.fn (.func nR) [] [.ptr 13 0]) (.list false 1 ((c.an.map (·.next)).map .str)) (hM c y v) rL) (.ret (tJ (rh c y v,0,[]))):=by
 have b1:=hc.2.1;have b2:=hc.2.2.1;have hw:=NP c y v [] (by simp);have hv:=NN c y v [] (by simp);rw[fM]at hw hv;have h1:=E7 (Γ:=Γ) ((aK c).zip v) (c.an.map (·.next)) (fl:=false) (k:=1) .self (by simp;omega) (j:=13) (q:=12) (h:=hM c y v) rfl rfl hw hv;have h2:=E7 (Γ:=Γ) ((aK c).zip v) c.bg (fl:=false) c.hO (by omega) (j:=13) (q:=12) (h:=hM c y v) rfl rfl hw hv;have hN:=Ut (Γ:=Γ) (gF c y v) (YF hc ok v)
 have hG:e_ (gF c y v)=.agg [.int .i64 y.ins,.list false 1 ((cU ((aK c).zip v) (c.an.map (·.next))).map iN),.list false y.ki (y.init.map i64),.list false y.ka (y.al.map dm),.list false 1 ((cU ((aK c).zip v) c.bg).map iN)]:=by
  simp[gF,e_,xe]
 rw[hG]at hN;unfold rh;generalize(gF c y v).normal=NG at*;generalize(gF c y v).check=CH at*;clear hG;generalize cU ((aK c).zip v) (c.an.map (·.next))=A1 at*;generalize cU ((aK c).zip v) c.bg=A2 at*;simp only[la]at h1;refine .go 9 ?_;simp;refine .dr 60 ?_;simp;refine f_.reach (by simp) h1 ?_;simp;refine f_.reach (by simp) h2 ?_;simp;refine .call 60 (by simp) hN ?_;simp;exact .back (by simp)
theorem DG(c:Ct){a:Nat}(ha:a<c.af.length)(r:List Nat)(x:Gr)(v:List Nat):lQ c (a::r) x v=eD (iE x c.af[a] (cU ((aK c).zip v) c.af[a].ins)) fun y d=>lQ c r y (v.set (c.aM.length+c.an.length+a) d):=by
 rw[lQ,bn ha]
abbrev HF(c:Ct)(x:Gr)(v:List Nat)(g:Gt):List Ob:=hM c x v++[.cells (AV.cells (cZ g)),.row 1 aD [] none true false,.row 1 aD [] none true false]
set_option maxRecDepth 8000 in
theorem adW(hΩ:tN Γ)(c:Ct)(hc:bY c)(okc:gU c)(hN:(aK c).Nodup):∀n i:Nat,i+n=(aT c).length->∀(x:Gr)(v:List Nat),x.Ok->v.length=(aK c).length->rH c x v ((aT c).take i)->
 az Tryz.prog Γ (yce (.ptr 0 0) (.ptr 1 0) (.ptr 9 0) (.ptr 10 0) (.ptr 11 0) (.ptr 13 0) (.fn (.func nR) [] [.ptr 13 0]) (.list false 1 ((c.an.map (·.next)).map .str)) (.list false 1 ((aT c).map iN)) (.int .i64 (aT c).length) (.int .i64 i) (hM c x v) rL) (.ret (tJ (A_ c (lQ c ((aT c).drop i) x v)))):=by
 have hll:=Jp hc;intro n
 induction n with
 |zero=>
  intro i hi x v ok hv hvl
  have q1:¬i<(aT c).length:=by omega
  have hE:=adP (Γ:=Γ) c hc x ok v;rw[bu (by omega),lQ,A_];simp only[la]at hE⊢;refine .dK 60 ?_;simp[q1];exact .reach (.exit rfl rfl) hE
 |succ n ih=>
  intro i hi x v ok hv hvl
  have q1:i<(aT c).length:=by omega
  have ha:=me c _ (bC q1);have q2:=cF (c.hG.of ha);have hgf:=hc.2.2.2.2.1 _ (bC ha);have hgb:=okc.af _ (bC ha);have ih:=ih (i+1) (by omega);have hlt:=vL hN hv hvl (l:=c.af[(aT c)[i]].ins) (fun s hs=>Ep okc q1 hs);have hst:(aT c).take (i+1)=(aT c).take i++[(aT c)[i]]:=kz q1;rw[bT q1,DG c ha];obtain⟨hna,hnm⟩:=Nw c ha
  have hput:=fun d=>Lg d (aK c) v _ hN hna hv
  rw[hnm]at hput
  have gl:((aT c).map iN)[i]? =some (.int .i64 (aT c)[i]):=by simp[q1]
  obtain⟨gl1,gl2⟩:=dB.1 gl
  have hEl:((aT c).map iN).length=(aT c).length:=by simp
  generalize(aT c)[i]=a at*;have hw:=NP c x v [.cells (AV.cells (cZ c.af[a])),.row 1 aD [] none true false,.row 1 aD [] none true false] (by intro m hm;simp);have hwv:=NN c x v [.cells (AV.cells (cZ c.af[a])),.row 1 aD [] none true false,.row 1 aD [] none true false] (by intro m k hm;simp);have h1:=E7 (Γ:=Γ) ((aK c).zip v) c.af[a].ins (fl:=false) c.af[a].hi (by have:=hgf.2.1;omega) (j:=13) (q:=12) (h:=HF c x v c.af[a]) rfl rfl hw hwv;have hll2:=pn ((aK c).zip v) c.af[a].ins;have hg:=abx (Γ:=Γ) hΩ c.af[a] hgb hgf (cU ((aK c).zip v) c.af[a].ins) hll2 (ki:=1) .self x (i:=11) (h:=HF c x v c.af[a]) rfl hw hwv ok hlt;have hfi:=Jk ok c.af[a] hlt;generalize cU ((aK c).zip v) c.af[a].ins=K at*;simp only[la]at ih h1 hg⊢;refine .dK 60 ?_
  simp(disch:=omega) [q1,q2,gl,gl2,hEl,ha]
  cases h9:iE x c.af[a] K with
  |mk y r=>
   rw[h9]at hg hfi
   cases r with
   |none=>
    simp only[cG,eD,A_]at hg⊢
    obtain⟨D,hD1,hD2⟩:∃D,(∀its t,slot t 2=.ptr 1 0->slot t 3=.ptr 9 0->slot t 4=.ptr 10 0->AM.Reach Tryz.prog Γ (.cl uK [.ptr 11 0,cZ c.af[a],.list false 1 (K.map iN)] (⟨.run,jT,its,t,rL.ds,.norm,0⟩::[]) (HF c x v c.af[a])) D)/\az Tryz.prog Γ D (.ret (tJ (qb,8,[]))):=by
     refine⟨?_,fun its t t2 t3 t4=>.jG 90 hg ?_,?_⟩
     rotate_left
     ·simp[t2,t3,t4];exact .refl _
     ·exact .back (by simp[qb,gm])
    refine .reach (.NL (D:=D) ?_) hD2;simp;refine f_.reach (by simp) h1 ?_;simp;refine f_.die (.int .i64 0) (by simp) (fun its t hk=>hD1 its t (hk 2 (by simp)) (hk 3 (by simp)) (hk 4 (by simp))) ?_;have hput0:gR (.sc .str) (.str c.af[a].name) (.int .i64 0) _=_:=hput 0;simp[hput0,isKey,b_,cM];exact .of (by simp)
   |some d=>
    have hd:=hfi.2 d rfl;have hh:=ih y (v.set (c.aM.length+c.an.length+a) d) hfi.1.ok (by simpa using hv) (by rw[hst];exact hvl.step hfi.1.lits hd);simp only[cG,eD]at hg⊢;refine .dr 60 ?_;simp;refine f_.reach (by simp) h1 ?_;simp;refine f_.reach (by simp) hg ?_;simp(disch:=omega) [hput,isKey,b_,cM];refine .aN ?_;simp;have hbm:=m6 14 ((aK c).zip (v.set (c.aM.length+c.an.length+a) d));refine .drop 14 rfl (by simp) (by simp) (by simp[hbm]) ?_;simp at hh⊢;exact hh
theorem MU{c:Ct}(hc:bY c)(ok:gU c):(dQ c).Ok:=by
 have h0:=ok.k9;simp only[iO,ju,iV]at h0;refine⟨⟨by simp[dQ],by simp[dQ];omega⟩,by simp[dQ];omega,by simp[dQ],by simp[dQ],fun a ha=>?_,fun a ha=>?_,fun a ha=>by simp[dQ]at ha,fun i hi=>by simp[dQ]at hi⟩
 ·simp only[dQ,dn]at ha;obtain⟨q,hq,rfl⟩:=ha;have:=ok.init q hq;simpa[lr]using this
 ·simp only[dQ,Rw]at ha;obtain⟨_,rfl⟩:=ha;have:=vE (dQ c);omega
theorem Lq{c:Ct}(hc:bY c):rH c (dQ c) (gy (aK c).length) []:=by
 intro k hk h
 rcases h with h|⟨j,hj,_⟩
 ·have e:(gy (aK c).length)[k]=2*(k+1):=by simp[gy]
  rw[e];simp only[Gr.lits,Gr.all,Gr.first,dQ,jr,rW,dq];omega
 ·cases hj
set_option maxRecDepth 8000 in
theorem EZ(hΓ:jh Γ)(hΩ:tN Γ)(c:Ct)(hb:jo c):aS Tryz.prog Γ jT [bR c] (tJ (m5 c)):=by
 have hC:=Yn hΓ c hb;refine .run 60 TT (by simp) ?_;unfold m5
 by_cases h0:(kP c).1=0
 ·rw[if_pos h0];simp;refine .call 60 (by simp) hC ?_;simp[h0]
  have hok:ud c=true:=by unfold ud;simp[h0]
  obtain⟨hr,hn,_⟩:=ML hok;obtain⟨ok,_⟩:=zz hr;have hc:=zw hb hr;have b0:=hc.1;have b1:=hc.2.1;have b2:=hc.2.2.1;have hCI:=r9 (Γ:=Γ) c.aM c.hI (by omega);have hCO:=r9 (Γ:=Γ) c.bg c.hO (by omega);have hN:=Fg (Γ:=Γ) c hc;have hS:=MH hΓ c hb
  have hSo:AA c=aT c:=by simp[AA,hr]
  rw[hSo]at hS;have hnl:=ME hc
  have hnd:(aK c).Nodup:=by
   have:=VN ok;simpa[aK,AL]using this
  have h3:=adW (Γ:=Γ) hΩ c hc ok hnd (aT c).length 0 (by omega) (dQ c) (gy (aK c).length) (MU hc ok) (vn _) (Lq hc);refine .dr 60 ?_;simp(disch:=omega);refine .dr 60 ?_;simp(disch:=omega);refine f_.call (by simp) hCI ?_;simp(disch:=omega);refine f_.call (by simp) hCO ?_;simp(disch:=omega);refine .call 60 (by simp) hN ?_;simp;refine .trees [50] ?_;simp[iz];refine .inLoop ?_;simp;refine .lA 5 (i:=1) rfl ?_;simp;refine .lA 7 (i:=1) rfl ?_;simp;refine .lA 1 (i:=12) rfl ?_;simp;refine .gc 11 [1,4,5] (by simp) (by decide) ?_;simp;refine ac0 c (aK c) hnd (by omega) (.list true 0 []) (.cells [.int .i64 c.aM.length,.list false 1 (List.replicate c.an.length (.int .i64 0)),.list true 0 [],.list true 0 [],.list true 0 []]) (by simp) (by simp) ?_ (aK c).length 0 (by omega);refine .go 12 ?_;simp
  refine .pB 1 6 1 aD rfl rfl (by omega) ?_;simp;refine .pB 11 2 1 aq rfl rfl (by omega) ?_;simp;refine .lA 3 (i:=11) rfl ?_;simp;refine .lA 4 (i:=11) rfl ?_;simp;refine .go 60 ?_;simp;refine .inLoop ?_;simp;refine ac4 c hc ((aK c).zip (gy (aK c).length)) ?_ c.an.length 0 (by omega);refine .go 60 ?_;simp;refine .call 60 (by simp) hS ?_;simp;refine .trees [12,102] ?_;simp[iz];refine .lA 6 (i:=1) rfl ?_;simp[iz];refine .lA 2 (i:=11) rfl ?_;simp[iz];refine .inLoop ?_;simp;have hbm:=m6 14 ((aK c).zip (gy (aK c).length));refine .drop 14 rfl (by simp) (by simp) (by simp[hbm]) ?_;unfold oM;rw[iu]at h3;generalize lQ c (aT c) (dQ c) (gy (aK c).length)=R at h3⊢;simp[dQ,xe,A_,Nr,hM,hA,cv]at h3⊢;exact h3
 ·rw[if_neg h0];simp;refine .call 60 (by simp) hC ?_;simp[h0];exact .back (by simp[qb,gm])
theorem JH(a b:List Bs){ka kb:Nat}(ha:Kd 1 ka a)(hb:Kd 1 kb b)(hl:a.length+b.length<2^40):aS Tryz.prog Γ l9 [.list false 1 [.list false ka (a.map .str),.list false kb (b.map .str)]] (.own 1 aD ((a++b).map .str)):=by
 by_cases h:a++b=[]
 ·rw[Rs]at h;have:=Ik (Γ:=Γ) [(ka,a),(kb,b)] (by simp[h]) (by simp);simpa[h,mz]using this
 ·have h2:0<(a++b).length:=qk.2 h;have:=Ip (Γ:=Γ) [(ka,a),(kb,b)] (by simp[ha,hb]) (by simp) (by simp[bZ];omega) (by simpa[bZ]using h2);simpa[bZ,mz]using this
theorem abQ(l:List Bs):ic Tryz.prog Γ (fun _=>True) xM [] AV.str (fun s=>!iK s) l:=by
 refine⟨by simp,fun s hs up h _=>?_⟩;refine .bB 60 T7 ?_;simp;refine .na 60 (by simp) (NF s) ?_;simp
theorem Fj(l:List Bs){k:Nat}(hk:Kd 1 k l)(hl:l.length<2^40):aS Tryz.prog Γ sE [.list false k (l.map .str)] (.bool (bo (fun s=>!iK s) l)):=by
 refine .run 60 Vo (by simp) ?_;simp;refine .a_ 60 (xy (Γ:=Γ) (fl:=false) (abQ l) hk (by omega) (h:=[]) trivial) ?_;simp;exact .back (by simp)
def tZ(l:List Bs):Bool:=(iD l).isSome
theorem ac1(l:List Bs){k:Nat}(hk:Kd 1 k l)(hl:l.length<2^40):∀n i:Nat,i+n=l.length->∀seen:List Bs,
 az Tryz.prog Γ (yjA (.mp 0) (.list false k (l.map .str)) (.int .i64 l.length) (.int .i64 i) [.map (seen.map je) true]) (.ret (.bool (mn seen (l.drop i)).isSome)):=by
 intro n
 induction n with
 |zero=>
  intro i hi seen
  have q1:¬i<l.length:=by omega
  rw[bu (by omega),mn];refine .go 60 ?_;simp[q1];exact .back (by simp)
 |succ n ih=>
  intro i hi seen
  have q1:i<l.length:=by omega
  have q2:=cF (hk.of q1);have hf:=u9 l[i] seen;rw[bT q1,mn];refine .go 60 ?_
  by_cases hm:l[i]∈seen
  ·simp[hm]at hf;simp[q1,q2,hf,hm,isKey,b_,cM];exact .back (by simp)
  ·have hh:=ih (i+1) (by omega) (seen++[l[i]]);have hput:=y_ (v:=.bool true) hm;simp[hm]at hf;simp(disch:=omega) [q1,q2,hf,hm,hput,isKey,b_,cM];refine .aN ?_;simp at hh⊢;exact hh
theorem L5(l:List Bs){k:Nat}(hk:Kd 1 k l)(hl:l.length<2^40):aS Tryz.prog Γ so [.list false k (l.map .str)] (.bool (tZ l)):=by
 refine .run 60 Ua (by simp) ?_;simp;refine .inLoop ?_;have hh:=ac1 (Γ:=Γ) l hk hl l.length 0 (by omega) [];simp[tZ,iD]at hh⊢;exact hh
def m4(m:Md)(s:Bs):Int:=if ie s (m.aM++m.an) 0<0 then-1 else ie s (m.aM++m.an) 0+1
theorem Ez(s:Bs):∀(l:List Bs)(i:Nat),ie s l i<(i+l.length:Nat)
 |[],i=>by simp[ie];omega
 |a::l,i=>by
  rw[ie];have:=Ez s l (i+1)
  split
  ·simp;omega
  ·simp at this⊢;omega
theorem EL(s:Bs):∀(l:List Bs)(i:Nat),-1<=ie s l i
 |[],i=>by simp[ie]
 |a::l,i=>by
  rw[ie];have:=EL s l (i+1)
  split<;>omega
theorem Eh(m:Md)(s:Bs)(hI:m.aM.length<2^30)(hL:m.an.length<2^30):aS Tryz.prog Γ sw [p8 m,.str s] (.int .i64 (m4 m s)):=by
 have h1:=JH (Γ:=Γ) m.aM m.an m.hI m.hL (by omega);have h2:=En (Γ:=Γ) (m.aM++m.an) s (k:=1) .self (by simp;omega);have h3:=Ez s (m.aM++m.an) 0;have h4:=EL s (m.aM++m.an) 0;simp only[bM]at h3;unfold m4;generalize ie s (m.aM++m.an) 0=n at*;refine .run 60 Uh (by simp) ?_;simp;refine .call 60 (by simp) h1 ?_;simp;have htk:(m.aM.map AV.str++m.an.map AV.str).take (m.aM.length+m.an.length)=m.aM.map AV.str++m.an.map AV.str:=cL (by simp);refine .call 60 (by simp[htk]) h2 ?_
 by_cases h:n<0
 ·simp[h];exact .back (by simp)
 ·simp(disch:=omega) [h];exact .back (by simp)
def AD(a b:Md):Bool:=vU a.g b.g&&(decide (a.aM=b.aM)&&(decide (a.an=b.an)&&decide (a.bg=b.bg)))
def BV(m:Md):Prop:=m.g.k_/\m.aM.length<2^30/\m.an.length<2^30/\m.bg.length<2^30
theorem Mh(a b:Md)(ha:BV a):aS Tryz.prog Γ uW [p8 a,p8 b] (.bool (AD a b)):=by
 obtain⟨f,f1,f2,f3⟩:=ha;have h0:=JE (Γ:=Γ) a.g b.g f;have h1:=Cm (Γ:=Γ) a.aM b.aM a.hI b.hI (by omega);have h2:=Cm (Γ:=Γ) a.an b.an a.hL b.hL (by omega);have h3:=Cm (Γ:=Γ) a.bg b.bg a.hO b.hO (by omega);unfold AD;generalize vU a.g b.g=s0 at*;refine .run 60 Ux (by simp) ?_;simp;refine .call 60 (by simp) h0 ?_
 cases s0
 ·simp;exact .back (by simp)
 ·simp;refine .call 60 (by simp) h1 ?_
  by_cases c1:a.aM=b.aM
  ·simp[c1];refine .call 60 (by simp) h2 ?_
   by_cases c2:a.an=b.an
   ·simp[c2];refine .call 60 (by simp) h3 ?_;simp;exact .back (by simp)
   ·simp[c2];exact .back (by simp)
  ·simp[c1];exact .back (by simp)
def wm(m:Md):List Bs->List Int->Bool
 |s::l,a::r=>(decide (0<=m4 m s)&&!decide (a=2*m4 m s))||wm m l r
 |_,_=>false
def oH(m:Md):Bool:=!decide ((m.aM.length:Int)=m.g.ins)||(!decide (m.an.length=m.g.next.length)||!decide (m.bg.length=m.g.outs.length))
def Ov(m:Md):Bool:=bo (fun s=>!iK s) m.aM||(bo (fun s=>!iK s) m.an||bo (fun s=>!iK s) m.bg)
def Ar(m:Md):Int:=if m.g.check≠0 then m.g.check else if oH m=true then 1 else if Ov m=true then 4 else if(tZ (m.aM++m.an)||tZ m.bg)=true then 5 else if wm m m.bg m.g.outs=true then 5 else 0
theorem UY(m:Md)(s:Bs):-1<=m4 m s/\m4 m s<=m.aM.length+m.an.length:=by
 have h3:=Ez s (m.aM++m.an) 0;have h4:=EL s (m.aM++m.an) 0;simp only[bM]at h3;unfold m4
 split<;>omega
set_option maxRecDepth 8000 in
theorem ado(m:Md)(hI:m.aM.length<2^30)(hL:m.an.length<2^30)(hO:m.bg.length=m.g.outs.length)(hl:m.g.outs.length<2^30):∀n i:Nat,i+n=m.bg.length->
 az Tryz.prog Γ (ydA (.ptr 0 0) (.list false m.kO (m.bg.map .str)) (.int .i64 m.bg.length) (.int .i64 i) [.cells (AV.cells (p8 m))]) (.ret (.int .i64 (if wm m (m.bg.drop i) (m.g.outs.drop i)=true then 5 else 0))):=by
 intro n
 induction n with
 |zero=>
  intro i hi
  have q1:¬i<m.bg.length:=by omega
  rw[bu (by omega),wm]
  ·refine .go 60 ?_;simp[q1];exact .back (by simp)
  ·intro s l a r h;cases h
 |succ n ih=>
  intro i hi
  have q1:i<m.bg.length:=by omega
  have q3:i<m.g.outs.length:=by omega
  have q2:=cF (m.hO.of q1);have q4:=cF (m.g.ho.of q3);have hh:=ih (i+1) (by omega);have hP:=Eh (Γ:=Γ) m m.bg[i] hI hL;obtain⟨hp1,hp2⟩:=UY m m.bg[i];rw[bT q1,bT q3,wm];generalize m4 m m.bg[i]=p at*;refine .go 60 ?_;simp[q1,q2];refine .call 60 (by simp) hP ?_
  by_cases c1:0<=p
  ·by_cases c2:m.g.outs[i]=2*p
   ·simp(disch:=omega) [c1,c2,q3,q4];refine .aN ?_;simp[c1,c2]at hh⊢;refine .drop 1 rfl (by simp) (by simp) (by simp) ?_;exact hh
   ·simp(disch:=omega) [c1,c2,q3,q4];exact .back (by simp)
  ·simp(disch:=omega) [c1];refine .aN ?_;simp[c1]at hh⊢;refine .drop 1 rfl (by simp) (by simp) (by simp) ?_;exact hh
set_option maxRecDepth 8000 in
theorem L3(m:Md)(hb:BV m):aS Tryz.prog Γ sq [p8 m] (.int .i64 (Ar m)):=by
 obtain⟨f,f1,f2,f3⟩:=hb;obtain⟨g1,g2,g3,g4⟩:=f;have h0:=sA (Γ:=Γ) m.g ⟨g1,g2,g3,g4⟩;have o1:=Fj (Γ:=Γ) m.aM m.hI (by omega);have o2:=Fj (Γ:=Γ) m.an m.hL (by omega);have o3:=Fj (Γ:=Γ) m.bg m.hO (by omega);have cc:=JH (Γ:=Γ) m.aM m.an m.hI m.hL (by omega);have t1:=L5 (Γ:=Γ) (m.aM++m.an) (k:=1) .self (by simp;omega);have t2:=L5 (Γ:=Γ) m.bg m.hO (by omega);unfold Ar;refine .run 60 Ud (by simp) ?_;simp;refine .call 60 (by simp) h0 ?_
 by_cases c0:m.g.check=0
 ·by_cases l1:(m.aM.length:Int)=m.g.ins
  ·by_cases l2:m.an.length=m.g.next.length
   ·by_cases l3:m.bg.length=m.g.outs.length
    ·have hf:=ado (Γ:=Γ) m f1 f2 l3 (by omega) m.bg.length 0 (by omega)
     have hlm:oH m=false:=by simp[oH,l1,l2,l3]
     simp[c0,l1,l2,l3,hlm];refine .call 60 (by simp) o1 ?_;unfold Ov
     cases bo (fun s=>!iK s) m.aM
     ·simp;refine .call 60 (by simp) o2 ?_
      cases bo (fun s=>!iK s) m.an
      ·simp;refine .call 60 (by simp) o3 ?_
       cases bo (fun s=>!iK s) m.bg
       ·simp;refine .call 60 (by simp) cc ?_;have htk:(m.aM.map AV.str++m.an.map AV.str).take (m.aM.length+m.an.length)=m.aM.map AV.str++m.an.map AV.str:=cL (by simp);simp;refine .call 60 (by simp[htk]) t1 ?_
        cases tZ (m.aM++m.an)
        ·simp;refine .call 60 (by simp) t2 ?_
         cases tZ m.bg
         ·simp;refine .inLoop ?_;simp at hf⊢;refine .drop 1 rfl (by simp) (by simp) (by simp) ?_;exact hf
         ·simp;exact .back (by simp)
        ·simp;exact .back (by simp)
       ·simp;exact .back (by simp)
      ·simp;exact .back (by simp)
     ·simp;exact .back (by simp)
    ·have hlm:oH m=true:=by simp[oH,l3]
     simp[c0,l1,l2,l3,hlm];exact .back (by simp)
   ·have hlm:oH m=true:=by simp[oH,l2]
    simp[c0,l1,l2,hlm];exact .back (by simp)
  ·have hlm:oH m=true:=by simp[oH,l1]
   simp[c0,l1,hlm];exact .back (by simp)
 ·simp[c0];exact .back (by simp)
end Go.Proofs.YtihmomicdpkabaaGreatDoor
namespace Go.Proofs.YtihmomicdpkabaaGreatDoor
open Go.AM Go.Proofs
theorem sR{to:List Nat}{c n:Nat}(h:n<to.length):(to++[c]).getD n 0=to.getD n 0:=by
 rw[bG,bG,dz h]
theorem KX{to:List Nat}{c a:Nat}(h:a/2<to.length):bH (to++[c]) a=bH to a:=by
 unfold bH;rw[sR h]
section
variable(first:Nat)(dd:List Bool)(al:List (Int×Int))
def Live(n:Nat):Prop:=n<first\/dd.getD n false=true
abbrev Om(to:List Nat)(p:Int×Int):Int×Int:=((bH to p.1.toNat:Nat),(bH to p.2.toNat:Nat))
structure we(i:Nat)(l:List (Int×Int))(to:List Nat):Prop where
 len:to.length=first+i
 low:∀n,n<first->to.getD n 0=2*n
 at_:∀k(hk:k<al.length),k<i->dd.getD (first+k) false=true->∃j,j<l.length/\to.getD (first+k) 0=2*(first+j)/\l[j]? =some (Om to al[k])
 adV:∀j,j<l.length->∃k,k<i/\dd.getD (first+k) false=true/\to.getD (first+k) 0=2*(first+j)
 mono:∀m n,m<n->n<first+i->Live first dd m->Live first dd n->to.getD m 0<to.getD n 0
variable{first dd al}
structure adt(first:Nat)(dd:List Bool)(al:List (Int×Int)):Prop where
 h1:1<=first
 s:ou first al
 c:∀i(hi:i<al.length),dd.getD (first+i) false=true->dd.getD (al[i].1.toNat/2) false=true/\dd.getD (al[i].2.toNat/2) false=true
theorem we.skip{i:Nat}{l:List (Int×Int)}{to:List Nat}(L:adt first dd al)(h:we first dd al i l to)(hi:i<al.length)(hl:¬dd.getD (first+i) false=true)(c:Nat):we first dd al (i+1) l (to++[c]):=by
 have hlen:=h.len;refine⟨by simp;omega,fun n hn=>by rw[sR (by omega)];exact h.low n hn,fun k hk hki lk=>?_,fun j hj=>?_,fun m n hmn hn lm ln=>?_⟩
 ·have hk2:k<i:=by
   rcases kv k i with h3|h3
   ·exact h3
   ·have e:k=i:=by omega
    subst e;exact absurd lk hl
  obtain⟨j,hj,e1,e2⟩:=h.at_ k hk hk2 lk;obtain⟨p2,q2,e',t1,t2,t3,t4⟩:=L.s.at_ k hk;refine⟨j,hj,by rw[sR (by omega)];exact e1,?_⟩;rw[e2];unfold Om;rw[e'];simp only[jr];rw[KX (by omega),KX (by omega)]
 ·obtain⟨k,hk,lk,e⟩:=h.adV j hj;exact⟨k,by omega,lk,by rw[sR (by omega)];exact e⟩
 ·have hn2:n<first+i:=by
   rcases kv n (first+i)with h3|h3
   ·exact h3
   ·have e:n=first+i:=by omega
    subst e
    rcases ln with h4|h4
    ·omega
    ·exact absurd h4 hl
  rw[sR (n:=m) (by omega),sR (by omega)];exact h.mono m n hmn hn2 lm ln
theorem we.zero:we first dd al 0 [] (ids first):=by
 have hg:∀n,n<first->(ids first).getD n 0=2*n:=fun n hn=>by
  rw[bG,bn (by simpa using hn)];simp[ids]
 refine⟨by simp,hg,fun k hk h=>by omega,fun j hj=>by simp at hj,fun m n hmn hn _ _=>?_⟩
 rw[hg m (by omega),hg n (by omega)];omega
end
theorem WU(g:Gr)(r:List (Int×Int)×List Nat):(g.gf r).first=g.first:=by simp[Gr.first,Gr.gf]
end Go.Proofs.YtihmomicdpkabaaGreatDoor
namespace Go.Proofs.YtihmomicdpkabaaGreatDoor
open Go.AM Go.Proofs
variable{Γ:Nat->Option AV}
theorem KF(ins:List Bool):∀(s:Bs)(i:Nat),s.all kZ=true->s.length=(ins.drop i).length->(bj s i).all (fun x=>oL ins (dO x).lit)=tx s (ins.drop i)
 |[],i,_,_=>by simp[bj,tx]
 |c::s,i,hg,hl=>by
  have hi:i<ins.length:=by
   refine uv fun hn=>?_
   rw[bu (by omega)]at hl;simp at hl
  rw[bT hi]at hl⊢;rw[qf,aw]at hg;have ih:=KF ins s (i+1) hg.2 (by simp at hl⊢;omega);rw[tx,<-ih,bj]
  by_cases a:c=45
  ·rw[if_pos a];simp[a]
  ·rw[if_neg a,qf];congr 1;have hc:=hg.1;simp only[kZ,eH,bd]at hc
   rcases hc with b|b|b
   ·subst b
    have e1:((2*(i:Int)+1)/2).toNat=i:=by omega
    have e2:(2*(i:Int)+1)%2=1:=by omega
    simp[dO,oL,e1,e2,bG,bn hi]
   ·subst b
    have e1:((2*(i:Int))/2).toNat=i:=by omega
    have e2:¬(2*(i:Int))%2=1:=by omega
    simp[dO,oL,e1,e2,bG,bn hi]
   ·exact absurd b a
def acT(c:Ct)(ins state:List Bool):Bool:=decide (ins.length=c.aM.length)&&decide (state.length=c.an.length)
def pL(c:Ct)(ins state:List Bool):List Bool×List Bool×Int:=if acT c ins state=true then(adf c ins state,adw c ins state,0)else([],[],11)
end Go.Proofs.YtihmomicdpkabaaGreatDoor
