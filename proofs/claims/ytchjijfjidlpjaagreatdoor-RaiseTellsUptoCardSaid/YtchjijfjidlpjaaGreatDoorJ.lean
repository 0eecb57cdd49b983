/- Steps: the values of nets (plain law). -/
import Derived.Test.YtchjijfjidlpjaaGreatDoorH
import Derived.Test.YtchjijfjidlpjaaGreatDoorI
import Derived.Test.YtchjijfjidlpjaaGreatDoorG
import Derived.Test.YtchjijfjidlpjaaGreatDoorF
import Derived.Test.YtchjijfjidlpjaaGreatDoorShelf
import Derived.Test.YtchjijfjidlpjaaGreatDoorAMd
import Derived.Below
import Derived.Sort.Grow
set_option linter.unusedSimpArgs false
set_option linter.unusedVariables false
namespace Go.Proofs.YtchjijfjidlpjaaGreatDoor
open Go.AM Go.Proofs
variable{Γ:Nat->Option AV}
def P2(m:List (Bs×Bool))(s:Bs):Bool:=match getM s m with
 |some v=>v
 |none=>false
def Nt(m:List (Bs×Bool))(l:List Bs):List Bool:=l.map (P2 m)
def ab5(c:Ct):List Bs:=c.ak++c.ai.map (·.name)
def aci(c:Ct)(ins state:List Bool):List (Bs×Bool):=(ab5 c).zip (ins++state)
def acg(c:Ct)(m:List (Bs×Bool))(a:Nat):List (Bs×Bool):=match c.af[a]? with
 |some g=>m++[(g.name,abI g (Nt m g.ins))]
 |none=>m
def acB(c:Ct)(ins state:List Bool)(p:List Nat):List (Bs×Bool):=p.foldl (acg c) (aci c ins state)
def NW(c:Ct)(ins state:List Bool):List (Bs×Bool):=acB c ins state (cH c)
def ab2(c:Ct)(ins state:List Bool):List Bool:=Nt (NW c ins state) c.aq
def abY(c:Ct)(ins state:List Bool):List Bool:=c.ai.map fun q=>P2 (NW c ins state) q.next
theorem YT{c:Ct}(ok:pa c)(hall:∀i<c.af.length,i∈cH c):wc c=[]:=by
 rw[wc,if_pos (LS ok),Q9];intro s hs;rw[CY]at hs;obtain⟨t,ht,_,h2⟩:=hs;rw[gY]at h2;exact h2 (hall t ht)
theorem rC{c:Ct}(ok:pa c)(hall:∀i<c.af.length,i∈cH c):As c=(0,[]):=by
 unfold As
 rw[zV ok,YT ok hall];rfl
def GO(c:Ct):Bool:=decide ((As c).1=0)
abbrev A'(x:Bs×Bool):AV×AV:=(.str x.1,.bool x.2)
@[simp] theorem MJ(n:Nat):∀l:List (Bs×Bool),iw n (l.map A')=true
 |[]=>rfl
 |x::r=>by simp[MJ n r]
@[simp] theorem ZZ(n m:Nat):∀l:List (Bs×Bool),pd n m (l.map A')=true
 |[]=>rfl
 |x::r=>by simp[ZZ n m r]
@[simp] theorem asb(n:Nat)(τ:List Nat)(l:List (Bs×Bool)):l9 n τ (l.map A')=l.map A':=Ms (MJ n l)
def AT(c:Ct)(N:List Bs)(l:List Nat):Ob:=.cells [.list false c.kI (c.ak.map .str),.list false c.kO (c.aq.map .str),.list false c.kL (c.ai.map na),.list false c.kG (c.af.map ez),.list false 1 (N.map .str),.list false 1 (l.map iN)]
structure Md where
 g:Gr
 ak:List Bs
 ai:List Bs
 aq:List Bs
 kI:Nat
 kL:Nat
 kO:Nat
 hI:Kd 1 kI ak
 hL:Kd 1 kL ai
 hO:Kd 1 kO aq
abbrev cp(m:Md):AV:=.agg [.int .i64 m.g.ins,.list false m.g.kn (m.g.next.map i64),.list false m.g.ki (m.g.init.map i64),.list false m.g.ka (m.g.ands.map cy),.list false m.g.ko (m.g.outs.map i64),
 .list false m.kI (m.ak.map .str),.list false m.kL (m.ai.map .str),.list false m.kO (m.aq.map .str)]
def j_:Md:=⟨kW,[],[],[],0,0,0,.nil,.nil,.nil⟩
def BX(m:List (Bs×Nat))(s:Bs):Nat:=match getM s m with
 |some v=>v
 |none=>0
def rN(m:List (Bs×Nat))(l:List Bs):List Nat:=l.map (BX m)
def wu(c:Ct):Gr:=⟨c.ak.length,List.replicate c.ai.length 0,c.ai.map (·.init),[],[],1,1,0,0,.self,.self,.nil,.nil⟩
theorem _root_.Go.AM.Reach.zY{P:Program}{f:FuncId}{args:List AV}{up:List Fr}{h:List Ob}{v:AV}(J:List Ob)(hw:eZ h)(hv:aJ h.length v=true)(h1:AM.Reach P Γ (.cl f args up h) (.back up v (h++J))):AM.Reach P Γ (.cl f args up h) (.back up v h):=by
 have:=AM.Reach.leave h1 hv (by rw[HY rfl];exact hw _ (aU _));rwa[HY rfl]at this
abbrev mdC(c:Ct)(L:AV):Ob:=.cells [.int .i64 0,.list true 0 [],.list true 0 [],.list true 0 [],.list true 0 [],.list false 1 (c.ak.map .str),L,.list false 1 (c.aq.map .str)]
abbrev hA(c:Ct)(L:AV)(B:Ob)(m:List (Bs×Nat)):List Ob:=[.cells (AV.cells (dT c)),mdC c L,.row 1 az [] none true false,.row 1 az [] none true false,.row 2 bI [] none true false,.row 1 az [] none true false,.row 1 au [] none true false,.row 1 au [] none true false,.row 1 au [] none true false,
 .cells [.int .i64 0],.cells [.str []],B,.map (m.map Qz) true,.cells [.mp 12]]
@[simp] theorem aqS(n k:Nat)(z:Int):aO n (List.replicate k (.int .i64 z))=true:=by
 induction k with
 |zero=>rfl
 |succ k ih=>simp[qN,ih]
@[simp] theorem aqx(i m k:Nat)(z:Int):dG i m (List.replicate k (.int .i64 z))=true:=by
 induction k with
 |zero=>rfl
 |succ k ih=>simp[qN,ih]
abbrev hB(c:Ct)(m:List (Bs×Nat))(i:Nat):List Ob:=hA c (.sl 15 0 i) (.cells [.int .i64 c.ak.length,.list false 1 (List.replicate c.ai.length (.int .i64 0)),.sl 16 0 i,.list false 0 [],.list false 0 []]) m++
 [.row 1 au ((c.ai.take i).map fun q=>.str q.next) none true false,.row 1 au ((c.ai.take i).map fun q=>.str q.name) none true false,.row 1 az ((c.ai.take i).map fun q=>.int .i64 q.init) none true false]
def r_(c:Ct)(p:List Nat)(k:Nat):Prop:=k<c.ak.length+c.ai.length\/∃j∈p,k=c.ak.length+c.ai.length+j
def wJ(c:Ct)(x:Gr)(v:List Nat)(p:List Nat):Prop:=∀k(hk:k<v.length),r_ c p k->v[k]<x.lits
theorem AK:∀(N:List Bs)(v:List Nat)(k:Nat)(hn:N.Nodup)(hk:k<N.length)(hv:v.length=N.length),BX (N.zip v) N[k]=v[k]'(by omega)
 |[],v,k,hn,hk,hv=>by simp at hk
 |s::N,[],k,hn,hk,hv=>by simp at hv
 |s::N,a::v,0,hn,hk,hv=>by simp[BX,getM]
 |s::N,a::v,k+1,hn,hk,hv=>by
  rw[oo]at hn
  have hk':k<N.length:=by simpa using hk
  have ih:=AK N v k hn.2 hk' (by simpa using hv)
  have hne:¬N[k]=s:=fun e=>hn.1 (by rw[<-e];exact bZ hk')
  simp only[BX,B_,u0,getM,hne,cE]at ih⊢;exact ih
theorem Nn(c:Ct){a:Nat}(ha:a<c.af.length):∃h:c.ak.length+c.ai.length+a<(bt c).length,(bt c)[c.ak.length+c.ai.length+a]=c.af[a].name:=by
 have h:c.ak.length+c.ai.length+a<(bt c).length:=by simp[bt];try omega
 refine⟨h,?_⟩
 have:(bt c)[c.ak.length+c.ai.length+a]? =some c.af[a].name:=by
  rw[bt,e_ (by simp),jc]
  rw[show c.ak.length+c.ai.length+a-(c.ak++c.ai.map (·.name)).length=a by simp,a_ ha];rfl
 exact(pJ.1 this).2
theorem YQ(c:Ct):(bt c).length=c.ak.length+c.ai.length+c.af.length:=by simp[bt,mj]
theorem YS{c:Ct}(ok:pa c){i:Nat}(hi:i<(cH c).length){s:Bs}(hs:s∈(c.af[(cH c)[i]]'(tu c _ (bZ hi))).ins):∃k,∃hk:k<(bt c).length,(bt c)[k]=s/\r_ c ((cH c).take i) k:=by
 have ha:=tu c _ (bZ hi)
 have hu:s∈kQ c:=by
  simp only[kQ,mO,ba,od];exact .inr ⟨_,bZ ha,hs⟩
 obtain⟨k,hk,he⟩:=jK (ok.used s hu);refine⟨k,hk,he,?_⟩
 by_cases h1:k<c.ak.length+c.ai.length
 ·exact .inl h1
 ·have hl:=YQ c
  have hj:k-(c.ak.length+c.ai.length)<c.af.length:=by omega
  obtain⟨h2,h3⟩:=Nn c hj;refine .inr ⟨k-(c.ak.length+c.ai.length),Yr c hi ((EU ha hj).2 ?_),by omega⟩;rw[<-h3]
  have e:c.ak.length+c.ai.length+(k-(c.ak.length+c.ai.length))=k:=by omega
  simp only[e,he];exact hs
theorem MH{c:Ct}{x:Gr}{v p:List Nat}(hn:(bt c).Nodup)(hv:v.length=(bt c).length)(h:wJ c x v p){l:List Bs}(hl:∀s∈l,∃k,∃hk:k<(bt c).length,(bt c)[k]=s/\r_ c p k):∀a∈rN ((bt c).zip v) l,a<x.lits:=by
 intro a ha;obtain⟨s,hs,rfl⟩:=db.1 ha;obtain⟨k,hk,rfl,hc⟩:=hl s hs;rw[AK _ _ k hn hk hv];exact h k (by omega) hc
theorem wJ.step{c:Ct}{x y:Gr}{v p:List Nat}(h:wJ c x v p)(hxy:x.lits<=y.lits){a d:Nat}(hd:d<y.lits):wJ c y (v.set (c.ak.length+c.ai.length+a) d) (p++[a]):=by
 intro k hk hc;rw[List.getElem_set]
 split
 ·exact hd
 ·rename_i hne;refine nh (h k (by simpa using hk) ?_) hxy
  rcases hc with hc|⟨j,hj,rfl⟩
  ·exact .inl hc
  ·rcases ba.1 hj with hj|hj
   ·exact .inr ⟨j,hj,rfl⟩
   ·simp only[cG]at hj;subst hj;exact absurd rfl hne
theorem Vv(m:List (Bs×Nat))(l:List Bs):(rN m l).length=l.length:=by simp[rN]
abbrev aaU(c:Ct):AV:=.list false 1 ((c.ai.map (·.name)).map .str)
abbrev hM(c:Ct)(x:Gr)(v:List Nat):List Ob:=hA c (aaU c) (jo x) ((bt c).zip v)
theorem Jh(a b:List Bs){ka kb:Nat}(ha:Kd 1 ka a)(hb:Kd 1 kb b)(hl:a.length+b.length<2^40):aN Tryz.prog Γ mu [.list false 1 [.list false ka (a.map .str),.list false kb (b.map .str)]] (.own 1 au ((a++b).map .str)):=by
 by_cases h:a++b=[]
 ·rw[Q8]at h;have:=H3 (Γ:=Γ) [(ka,a),(kb,b)] (by simp[h]) (by simp);simpa[h,mQ]using this
 ·have h2:0<(a++b).length:=uW.2 h;have:=H4 (Γ:=Γ) [(ka,a),(kb,b)] (by simp[ha,hb]) (by simp) (by simp[bQ];omega) (by simpa[bQ]using h2);simpa[bQ,mQ]using this
theorem abr(l:List Bs):mU Tryz.prog Γ (fun _=>True) xS [] AV.str (fun s=>!dd s) l:=by
 refine⟨by simp,fun s hs up h _=>?_⟩;refine .dq 60 S7 ?_;simp;refine .nI 60 (by simp) (Nj s) ?_;simp
theorem ER(l:List Bs){k:Nat}(hk:Kd 1 k l)(hl:l.length<2^40):aN Tryz.prog Γ sS [.list false k (l.map .str)] (.bool (aZ (fun s=>!dd s) l)):=by
 refine .run 60 T7 (by simp) ?_;simp;refine .dE 60 (Ib (Γ:=Γ) (fl:=false) (abr l) hk (by omega) (h:=[]) trivial) ?_;simp;exact .back (by simp)
def mc(l:List Bs):Bool:=(jn l).isSome
theorem abz(l:List Bs){k:Nat}(hk:Kd 1 k l)(hl:l.length<2^40):∀n i:Nat,i+n=l.length->∀seen:List Bs,
 aB Tryz.prog Γ (yqq (.mp 0) (.list false k (l.map .str)) (.int .i64 l.length) (.int .i64 i) [.map (seen.map iH) true]) (.ret (.bool (iG seen (l.drop i)).isSome)):=by
 intro n
 induction n with
 |zero=>
  intro i hi seen
  have q1:¬i<l.length:=by omega
  rw[bq (by omega),iG];refine .go 60 ?_;simp[q1];exact .back (by simp)
 |succ n ih=>
  intro i hi seen
  have q1:i<l.length:=by omega
  have q2:=bl (hk.of q1);have hf:=vv l[i] seen;rw[br q1,iG];refine .go 60 ?_
  by_cases hm:l[i]∈seen
  ·simp[hm]at hf;simp[q1,q2,hf,hm,isKey,cz,c9];exact .back (by simp)
  ·have hh:=ih (i+1) (by omega) (seen++[l[i]]);have hput:=y8 (v:=.bool true) hm;simp[hm]at hf;simp(disch:=omega) [q1,q2,hf,hm,hput,isKey,cz,c9];refine .aT ?_;simp at hh⊢;exact hh
theorem KX(l:List Bs){k:Nat}(hk:Kd 1 k l)(hl:l.length<2^40):aN Tryz.prog Γ sL [.list false k (l.map .str)] (.bool (mc l)):=by
 refine .run 60 SS (by simp) ?_;simp;refine .inLoop ?_;have hh:=abz (Γ:=Γ) l hk hl l.length 0 (by omega) [];simp[mc,jn]at hh⊢;exact hh
def cA(m:Md)(s:Bs):Int:=if ee s (m.ak++m.ai) 0<0 then-1 else ee s (m.ak++m.ai) 0+1
theorem EL(s:Bs):∀(l:List Bs)(i:Nat),ee s l i<(i+l.length:Nat)
 |[],i=>by simp[ee];omega
 |a::l,i=>by
  rw[ee];have:=EL s l (i+1)
  split
  ·simp;omega
  ·simp at this⊢;omega
theorem z6(s:Bs):∀(l:List Bs)(i:Nat),-1<=ee s l i
 |[],i=>by simp[ee]
 |a::l,i=>by
  rw[ee];have:=z6 s l (i+1)
  split<;>omega
theorem KZ(m:Md)(s:Bs)(hI:m.ak.length<2^30)(hL:m.ai.length<2^30):aN Tryz.prog Γ vl [cp m,.str s] (.int .i64 (cA m s)):=by
 have h1:=Jh (Γ:=Γ) m.ak m.ai m.hI m.hL (by omega);have h2:=LV (Γ:=Γ) (m.ak++m.ai) s (k:=1) .self (by simp;omega);have h3:=EL s (m.ak++m.ai) 0;have h4:=z6 s (m.ak++m.ai) 0;simp only[bp]at h3;unfold cA;generalize ee s (m.ak++m.ai) 0=n at*;refine .run 60 S8 (by simp) ?_;simp;refine .call 60 (by simp) h1 ?_;simp;have htk:(m.ak.map AV.str++m.ai.map AV.str).take (m.ak.length+m.ai.length)=m.ak.map AV.str++m.ai.map AV.str:=cF (by simp);refine .call 60 (by simp[htk]) h2 ?_
 by_cases h:n<0
 ·simp[h];exact .back (by simp)
 ·simp(disch:=omega) [h];exact .back (by simp)
def oW(a b:Md):Bool:=dN a.g b.g&&(decide (a.ak=b.ak)&&(decide (a.ai=b.ai)&&decide (a.aq=b.aq)))
def mb(m:Md):Prop:=m.g.dJ/\m.ak.length<2^30/\m.ai.length<2^30/\m.aq.length<2^30
def nZ(m:Md):List Bs->List Int->Bool
 |s::l,a::r=>(decide (0<=cA m s)&&!decide (a=2*cA m s))||nZ m l r
 |_,_=>false
def gT(m:Md):Bool:=!decide ((m.ak.length:Int)=m.g.ins)||(!decide (m.ai.length=m.g.next.length)||!decide (m.aq.length=m.g.outs.length))
def A4(m:Md):Bool:=aZ (fun s=>!dd s) m.ak||(aZ (fun s=>!dd s) m.ai||aZ (fun s=>!dd s) m.aq)
def cO(m:Md):Int:=if m.g.check≠0 then m.g.check else if gT m=true then 1 else if A4 m=true then 4 else if(mc (m.ak++m.ai)||mc m.aq)=true then 5 else if nZ m m.aq m.g.outs=true then 5 else 0
theorem CB(m:Md)(s:Bs):-1<=cA m s/\cA m s<=m.ak.length+m.ai.length:=by
 have h3:=EL s (m.ak++m.ai) 0;have h4:=z6 s (m.ak++m.ai) 0;simp only[bp]at h3;unfold cA
 split<;>omega
set_option maxRecDepth 8000 in
theorem abM(m:Md)(hI:m.ak.length<2^30)(hL:m.ai.length<2^30)(hO:m.aq.length=m.g.outs.length)(hl:m.g.outs.length<2^30):∀n i:Nat,i+n=m.aq.length->
 aB Tryz.prog Γ (yjB (.ptr 0 0) (.list false m.kO (m.aq.map .str)) (.int .i64 m.aq.length) (.int .i64 i) [.cells (AV.cells (cp m))]) (.ret (.int .i64 (if nZ m (m.aq.drop i) (m.g.outs.drop i)=true then 5 else 0))):=by
 intro n
 induction n with
 |zero=>
  intro i hi
  have q1:¬i<m.aq.length:=by omega
  rw[bq (by omega),nZ]
  ·refine .go 60 ?_;simp[q1];exact .back (by simp)
  ·intro s l a r h;cases h
 |succ n ih=>
  intro i hi
  have q1:i<m.aq.length:=by omega
  have q3:i<m.g.outs.length:=by omega
  have q2:=bl (m.hO.of q1);have q4:=bl (m.g.ho.of q3);have hh:=ih (i+1) (by omega);have hP:=KZ (Γ:=Γ) m m.aq[i] hI hL;obtain⟨hp1,hp2⟩:=CB m m.aq[i];rw[br q1,br q3,nZ];generalize cA m m.aq[i]=p at*;refine .go 60 ?_;simp[q1,q2];refine .call 60 (by simp) hP ?_
  by_cases c1:0<=p
  ·by_cases c2:m.g.outs[i]=2*p
   ·simp(disch:=omega) [c1,c2,q3,q4];refine .aT ?_;simp[c1,c2]at hh⊢;refine .drop 1 rfl (by simp) (by simp) (by simp) ?_;exact hh
   ·simp(disch:=omega) [c1,c2,q3,q4];exact .back (by simp)
  ·simp(disch:=omega) [c1];refine .aT ?_;simp[c1]at hh⊢;refine .drop 1 rfl (by simp) (by simp) (by simp) ?_;exact hh
set_option maxRecDepth 8000 in
theorem YJ(m:Md)(hb:mb m):aN Tryz.prog Γ vj [cp m] (.int .i64 (cO m)):=by
 obtain⟨f,f1,f2,f3⟩:=hb;obtain⟨g1,g2,g3,g4⟩:=f;have h0:=IK (Γ:=Γ) m.g ⟨g1,g2,g3,g4⟩;have o1:=ER (Γ:=Γ) m.ak m.hI (by omega);have o2:=ER (Γ:=Γ) m.ai m.hL (by omega);have o3:=ER (Γ:=Γ) m.aq m.hO (by omega);have cc:=Jh (Γ:=Γ) m.ak m.ai m.hI m.hL (by omega);have t1:=KX (Γ:=Γ) (m.ak++m.ai) (k:=1) .self (by simp;omega);have t2:=KX (Γ:=Γ) m.aq m.hO (by omega);unfold cO;refine .run 60 S5 (by simp) ?_;simp;refine .call 60 (by simp) h0 ?_
 by_cases c0:m.g.check=0
 ·by_cases l1:(m.ak.length:Int)=m.g.ins
  ·by_cases l2:m.ai.length=m.g.next.length
   ·by_cases l3:m.aq.length=m.g.outs.length
    ·have hf:=abM (Γ:=Γ) m f1 f2 l3 (by omega) m.aq.length 0 (by omega)
     have hlm:gT m=false:=by simp[gT,l1,l2,l3]
     simp[c0,l1,l2,l3,hlm];refine .call 60 (by simp) o1 ?_;unfold A4
     cases aZ (fun s=>!dd s) m.ak
     ·simp;refine .call 60 (by simp) o2 ?_
      cases aZ (fun s=>!dd s) m.ai
      ·simp;refine .call 60 (by simp) o3 ?_
       cases aZ (fun s=>!dd s) m.aq
       ·simp;refine .call 60 (by simp) cc ?_;have htk:(m.ak.map AV.str++m.ai.map AV.str).take (m.ak.length+m.ai.length)=m.ak.map AV.str++m.ai.map AV.str:=cF (by simp);simp;refine .call 60 (by simp[htk]) t1 ?_
        cases mc (m.ak++m.ai)
        ·simp;refine .call 60 (by simp) t2 ?_
         cases mc m.aq
         ·simp;refine .inLoop ?_;simp at hf⊢;refine .drop 1 rfl (by simp) (by simp) (by simp) ?_;exact hf
         ·simp;exact .back (by simp)
        ·simp;exact .back (by simp)
       ·simp;exact .back (by simp)
      ·simp;exact .back (by simp)
     ·simp;exact .back (by simp)
    ·have hlm:gT m=true:=by simp[gT,l3]
     simp[c0,l1,l2,l3,hlm];exact .back (by simp)
   ·have hlm:gT m=true:=by simp[gT,l2]
    simp[c0,l1,l2,hlm];exact .back (by simp)
  ·have hlm:gT m=true:=by simp[gT,l1]
   simp[c0,l1,hlm];exact .back (by simp)
 ·simp[c0];exact .back (by simp)
end Go.Proofs.YtchjijfjidlpjaaGreatDoor
namespace Go.Proofs.YtchjijfjidlpjaaGreatDoor
open Go.AM Go.Proofs
theorem Z'{n:Nat}(h:¬n<10):Lib.decDigits n=Lib.decDigits (n/10)++[UInt8.ofNat (48+n%10)]:=by rw[Lib.decDigits,dif_neg h]
theorem DF{n:Nat}(h:n<10):Lib.decDigits n=[UInt8.ofNat (48+n)]:=by rw[Lib.decDigits,dif_pos h]
def j4(m:Nat):UInt8:=UInt8.ofNat (48+m)
theorem mD{n:Nat}(h:¬n<10):Lib.decDigits n=Lib.decDigits (n/10)++[j4 (n%10)]:=Z' h
theorem jg{n:Nat}(h:n<10):Lib.decDigits n=[j4 n]:=DF h
theorem Za:∀(m a b:Nat),a<=m->Lib.decDigits a=Lib.decDigits b->a=b:=by
 have hd:∀x y:Nat,x<10->y<10->j4 x=j4 y->x=y:=by
  intro x y hx hy h
  have:∀x y:Fin 10,j4 x.val=j4 y.val->x.val=y.val:=by decide+kernel
  exact this ⟨x,hx⟩ ⟨y,hy⟩ h
 intro m
 induction m with
 |zero=>
  intro a b ha h
  obtain rfl:a=0:=by omega
  by_cases hb:b<10
  ·rw[jg (by omega),jg hb]at h;exact hd _ _ (by omega) hb (by simpa using h)
  ·rw[jg (by omega),mD hb]at h;have:=congrArg List.length h
   have h2:1<=(Lib.decDigits (b/10)).length:=by
    by_cases h3:b/10<10
    ·rw[jg h3];simp
    ·rw[mD h3];simp
   simp only[bp,bC,cN]at this;omega
 |succ m ih=>
  have hne:∀n,1<=(Lib.decDigits n).length:=by
   intro n
   by_cases h3:n<10
   ·rw[jg h3];simp
   ·rw[mD h3];simp
  intro a b ha h
  by_cases h1:a<10
  ·by_cases hb:b<10
   ·rw[jg h1,jg hb]at h;exact hd _ _ h1 hb (by simpa using h)
   ·rw[jg h1,mD hb]at h;have:=congrArg List.length h;have:=hne (b/10)
    simp only[bp,bC,cN]at*;omega
  ·by_cases hb:b<10
   ·rw[jg hb,mD h1]at h;have:=congrArg List.length h;have:=hne (a/10)
    simp only[bp,bC,cN]at*;omega
   ·rw[mD h1,mD hb]at h;have h2:=List.append_inj' h rfl;have h3:=ih (a/10) (b/10) (by omega) h2.1;have h4:=hd _ _ (by omega) (by omega) (List.cons.inj h2.2).1;omega
theorem DJ{α:Type}[DecidableEq α]:∀(l m:List α),l.Nodup->(∀x∈l,x∈m)->l.length<=m.length
 |[],m,_,_=>xi _
 |x::l,m,hn,hs=>by
  have hx:=hs x (oh ..);rw[oo]at hn;have:=DJ l (m.erase x) hn.2 (fun y hy=>(List.mem_erase_of_ne (by rintro rfl;exact hn.1 hy)).2 (hs y (dm _ hy)));rw[QZ hx]at this;have hp:=Ca hx
  rw[bC];omega
def j9(used:List (List UInt8))(stem:List UInt8):Nat->Nat->List UInt8
 |0,k=>stem++Lib.decDigits k
 |n+1,k=>if used.contains (stem++Lib.decDigits k)=true then j9 used stem n (k+1)else stem++Lib.decDigits k
def dt(used:List (List UInt8))(stem:List UInt8):List UInt8:=j9 used stem used.length 1
theorem Mt{used:List (List UInt8)}{stem:List UInt8}:∀(n k:Nat),j9 used stem n k∈used->∀j,k<=j->j<=k+n->stem++Lib.decDigits j∈used
 |0,k,h,j,h1,h2=>by obtain rfl:j=k:=by omega
                    exact h
 |n+1,k,h,j,h1,h2=>by
  rw[j9]at h
  split at h
  ·rename_i hc
   by_cases hj:j=k
   ·subst hj;simpa using hc
   ·exact Mt n (k+1) h j (by omega) (by omega)
  ·rename_i hc;exact absurd (by simpa using h) hc
theorem JL(used:List (List UInt8))(stem:List UInt8):dt used stem∉used:=by
 intro h;have h1:=Mt used.length 1 h
 have h2:=DJ ((List.range (used.length+1)).map fun j=>stem++Lib.decDigits (j+1)) used (by
  rw[Ce,List.pairwise_map];refine List.Pairwise.imp ?_ (Ce.1 HM);intro a b hab he
  exact hab (by have:=Za _ (a+1) (b+1) (aU _) (List.append_cancel_left he);omega)) (by
  intro x hx;obtain⟨j,hj,rfl⟩:=db.1 hx;have:=dw.1 hj
  exact h1 (j+1) (by omega) (by omega))
 simp only[iB,qQ]at h2;omega
theorem Ed{used:List (List UInt8)}{stem:List UInt8}:∀(n k:Nat),∃j,k<=j/\j<=k+n/\j9 used stem n k=stem++Lib.decDigits j
 |0,k=>⟨k,by omega,by omega,rfl⟩
 |n+1,k=>by
  rw[j9]
  split
  ·obtain⟨j,h1,h2,h3⟩:=Ed (used:=used) (stem:=stem) n (k+1);exact⟨j,by omega,by omega,h3⟩
  ·exact⟨k,by omega,by omega,rfl⟩
theorem Kr:∀(m n:Nat),n<10^(m+1)->(Lib.decDigits n).length<=m+1
 |0,n,h=>by rw[jg (by simpa using h)];simp
 |m+1,n,h=>by
  by_cases h3:n<10
  ·rw[jg h3];simp
  ·rw[mD h3]
   have:n/10<10^(m+1):=by
    rw[Nat.pow_succ]at h;omega
   have:=Kr m (n/10) this
   simp;omega
theorem LY{n:Nat}(h:n<10^7):(Lib.decDigits n).length<=7:=Kr 6 n h
def nK(s:Bs)(op:Int):Gt:=⟨s,op,[],[],false,0,0,.nil,.nil⟩
def dP(s:Bs)(op:Int)(l:List Bs):Gt:=⟨s,op,l,[],false,1,0,.self,.nil⟩
def cC(m:List (Nat×Bs))(a:Nat):Bs:=match getM a m with
 |some s=>s
 |none=>[]
inductive By where
 |one (b:Bool)
 |qk (a:Nat)
 |both (p q:Nat)
def By.gate(m:List (Nat×Bs))(s:Bs):By->Gt
 |.one b=>nK s (if b then 1 else 0)
 |.qk a=>dP s 3 [cC m (a^^^1)]
 |.both p q=>dP s 4 [cC m p,cC m q]
def dY(a:Nat):By:=if a<2 then .one (decide (a=1))else .qk a
structure Ra where
 af:List Gt
 used:List Bs
 ar:List (Nat×Bs)
abbrev dD:Bs:=[110]
def Ra.make(x:Ra)(a:Nat)(b:By):Ra:=⟨x.af++[b.gate x.ar (dt x.used dD)],x.used++[dt x.used dD],x.ar++[(a,dt x.used dD)]⟩
def Ra.aP(x:Ra)(a:Nat):Ra:=match getM a x.ar with
 |some _=>x
 |none=>x.make a (dY a)
def jq(first:Nat):List (Int×Int)->Nat->Ra->Ra
 |[],_,x=>x
 |p::ps,i,x=>jq first ps (i+1) (((x.aP p.1.toNat).aP p.2.toNat).make (2*(first+i)) (.both p.1.toNat p.2.toNat))
def ec:List Bs->List Int->List Int->Ra->Ra×List Lt
 |s::l,a::n,v::i,x=>((ec l n i (x.aP a.toNat)).1,⟨s,cC (x.aP a.toNat).ar a.toNat,v⟩::(ec l n i (x.aP a.toNat)).2)
 |_,_,_,x=>(x,[])
def iV(m:List (Nat×Bs))(s:Bs)(a:Nat):Gt:=if 2<=a/\a%2=0 then dP s 2 [cC m a]else(dY a).gate m s
def ep(d:Md)(m:List (Nat×Bs)):List Bs->List Int->List Gt
 |s::l,a::r=>if cA d s<0 then iV m s a.toNat::ep d m l r else ep d m l r
 |_,_=>[]
def eR:Nat->List Bs->List (Nat×Bs)
 |_,[]=>[]
 |k,s::l=>(2*(k+1),s)::eR (k+1) l
def fF(m:Md):Ra:=⟨[],m.ak++m.ai++m.aq,eR 0 (m.ak++m.ai)⟩
def cB(m:Md):Md:={m with g:=m.g.normal}
def fL(m:Md):Md×Int:=if cO m=0 then(cB m,0)else(j_,cO m)
def eY:Ct:=⟨[],[],[],[],0,0,0,0,.nil,.nil,.nil,.nil⟩
def l0(n:Md):Ra:=jq n.g.first n.g.ands 0 (fF n)
def cR(n:Md):Ra×List Lt:=ec n.ai n.g.next n.g.init (l0 n)
def aY(n:Md):Ct:=⟨n.ak,n.aq,(cR n).2,(cR n).1.af++ep n (cR n).1.ar n.aq n.g.outs,1,1,3,5,.self,.self,.self,.self⟩
def ig(m:Md):Ct×Int:=if cO m=0 then(if(fY (aY (cB m))).1=0 then(aY (cB m),0)else(eY,8))else(eY,cO m)
end Go.Proofs.YtchjijfjidlpjaaGreatDoor
namespace Go.Proofs.YtchjijfjidlpjaaGreatDoor
open Go.AM Go.Proofs Go.RowKit Go.Sort
variable{Γ:Nat->Option AV}
theorem KL(c:UInt8):nD [AV.int .u8 (c.toNat:Int)]=some [c]:=IT [c]
theorem Ld(n:Nat):IntKind.u8.wrap (48+(n:Int)%10)=((j4 (n%10)).toNat:Int):=by
 have h:∀m:Fin 10,IntKind.u8.wrap (48+(m.val:Int))=((j4 m.val).toNat:Int):=by decide+kernel
 have:=h ⟨n%10,by omega⟩;simpa using this
set_option maxRecDepth 8000 in
theorem Kx(n:Nat)(hn:n<=2147483647):aN Tryz.prog Γ te [.int .i64 n] (.aL [.str (Lib.decDigits n),.int .i64 0]):=by
 have key:∀m n:Nat,n<=m->n<=2147483647->∀s:List UInt8,s.length+n<2^40->aB Tryz.prog Γ (yvv (.int .i64 n) (.str s) []) (.ret (.aL [.str ((if n=0 then[]else Lib.decDigits n)++s),.int .i64 0])):=by
  intro m
  induction m with
  |zero=>
   intro n h1 h2 s hs
   obtain rfl:n=0:=by omega
   refine .go 60 ?_;simp;exact .back (by simp)
  |succ m ih=>
   intro n h1 h2 s hs
   by_cases h0:n=0
   ·subst h0;refine .go 60 ?_;simp;exact .back (by simp)
   ·have q0:0<n:=by omega
    have e:=Ld n;have hh:=ih (n/10) (by omega) (by omega) (j4 (n%10)::s) (by simp;omega)
    have e2:(if n=0 then[]else Lib.decDigits n)++s=(if n/10=0 then[]else Lib.decDigits (n/10))++j4 (n%10)::s:=by
     rw[if_neg h0]
     by_cases h9:n<10
     ·rw[jg h9,if_pos (by omega),show n%10=n by omega];rfl
     ·rw[mD h9,if_neg (by omega)];simp
    rw[e2];refine .go 60 ?_;simp(disch:=omega) [q0,e,KL,show(n:Int).tmod 10=(n:Int)%10 from Int.tmod_eq_emod_of_nonneg (by omega),show(n:Int).tdiv 10=(n:Int)/10 from Int.tdiv_eq_ediv_of_nonneg (by omega)];refine .aT ?_;simp at hh⊢;exact hh
 have q1:¬(n:Int)<0:=by omega
 have q2:((2147483647:Int)<n)=False:=gq (by omega);have e:=Ld n;refine .run 60 VW (by simp) ?_;simp(disch:=omega) [q1,q2,e,KL,show(n:Int).tmod 10=(n:Int)%10 from Int.tmod_eq_emod_of_nonneg (by omega),show(n:Int).tdiv 10=(n:Int)/10 from Int.tdiv_eq_ediv_of_nonneg (by omega)];refine .inLoop ?_;have hh:=key (n/10) (n/10) (aU _) (by omega) [j4 (n%10)] (by simp;omega)
 have e2:(if n/10=0 then[]else Lib.decDigits (n/10))++[j4 (n%10)]=Lib.decDigits n:=by
  by_cases h9:n<10
  ·rw[jg h9,if_pos (by omega),show n%10=n by omega];rfl
  ·rw[mD h9,if_neg (by omega)]
 rw[e2]at hh;simp at hh⊢;exact hh
def mY(Γ:Nat->Option AV):Prop:=Γ FD=some (.agg (Lib.pow10Tab.map fun z=>.int .u64 z))
theorem UN(w:World)(k:Nat)(os:Array Obj):Below w.heap.size w (grow (w.drewN k) os):=by
 refine⟨rfl,rfl,rfl,by simp[grow,World.drewN],fun b hb=>?_⟩
 show(w.heap++os)[b]? =w.heap[b]?
 rw[Array.getElem?_append_left hb]
theorem abe{w:World}{t q}(h:w.heap[FD]? =some (.cells (Lib.pow10Tab.map fun z=>Value.int .u64 z).toArray t q)):Lib.TabIs Tryz.prog w "internal/strconv.uint64pow10" .u64 Lib.pow10Tab:=by
 unfold Lib.TabIs World.var?;rw[Ex];simp[h]
theorem M6(hΓ:mY Γ)(k:Nat)(hk:k<2^21):aN Tryz.prog Γ Cq [.int .i64 k] (.str (Lib.decDigits k)):=by
 refine aN.NU (by simp) (fun _=>rfl) rfl fun N g h w us H hV=>?_
 obtain⟨us,rfl,h2⟩:=aa9 hV;obtain rfl:=MG h2;obtain⟨t,q,hp⟩:=H.km _ _ (by decide) hΓ;refine(Tryz.strconv_Itoa k (by omega) (by omega) w (abe (H.eG _ _ hp))).mono ?_
 rintro e w' ⟨rfl,n,os,rfl⟩
 have e:Lib.itoa (k:Int)=Lib.decDigits k:=by unfold Lib.itoa;rw[if_neg (by omega)];simp
 refine⟨⟨_,rfl,fun _ _=>?_⟩,UN w n os⟩;rw[e];simp[V]
theorem zT{n:Nat}(h:n<2^21):(Lib.decDigits n).length<=7:=LY (by omega)
set_option maxRecDepth 8000 in
theorem Ut(used:List (List UInt8))(stem:List UInt8){kd:Nat}(hk:Kd 1 kd used)(hl:used.length<2^20)(hs:stem.length<2^40):aN Tryz.prog Γ vt [.list false kd (used.map .str),.str stem] (.str (dt used stem)):=by
 have key:∀n k:Nat,k+n=used.length+1->1<=k->aB Tryz.prog Γ (ypu (.list false kd (used.map .str)) (.str stem) (.int .i64 k) []) (.ret (.str (j9 used stem n k))):=by
  intro n
  induction n with
  |zero=>
   intro k hn h1
   have q1:¬k<=used.length:=by omega
   have hp:=Kx (Γ:=Γ) k (by omega);have hd:=zT (n:=k) (by omega);rw[show(k:Int)=(used.length:Int)+1 by omega]at hp;refine .go 60 ?_;simp(disch:=omega) [q1];refine .call 60 (by simp) hp ?_;simp(disch:=omega);exact .back (by simp[j9])
  |succ n ih=>
   intro k hn h1
   have q1:k<=used.length:=by omega
   have hp:=Kx (Γ:=Γ) k (by omega);have hd:=zT (n:=k) (by omega);have hh:=ih (k+1) (by omega) (by omega);have hc:=Ke (Γ:=Γ) used (stem++Lib.decDigits k) hk (by omega);rw[j9];refine .go 60 ?_;simp(disch:=omega) [q1];refine .call 60 (by simp) hp ?_;simp(disch:=omega);refine .call 60 (by simp) hc ?_
   by_cases h:stem++Lib.decDigits k∈used
   ·simp(disch:=omega) [h];refine .aT ?_;simp at hh⊢;exact hh
   ·simp(disch:=omega) [h];exact .back (by simp[h])
 refine .run 60 Uu (by simp) ?_;simp;refine .inLoop ?_;have hh:=key used.length 1 (by omega) (by omega);unfold dt;simp at hh⊢;exact hh
abbrev NR(used:List (List UInt8))(kd:Nat)(stem:List UInt8):List Fr:=[⟨.run,sO,[It.iE 4,It.inBlock 0 [],It.code ((an.ae PH).seq an.ret)],
 [.list false kd (used.map .str),.str stem,.ptr 0 0,U,.str [],.ptr 1 0,U,.str stem,.str stem,.fn (.func vh) [] [.ptr 2 0],U,U,U,U,U,U,U],[.mark 3],.norm,0⟩]
abbrev uM(used:List (List UInt8))(kd:Nat)(fresh stem:List UInt8)(st:LoopState)(j:Jump):List Ob:=[.cells [.list false kd (used.map .str)],.cells [.str fresh],.cells [.str stem],.bB true,
 .loop st j sO [U,U,.ptr 0 0,U,.str [],.ptr 1 0,U,U,U,U,U,U,U,U,U,U,U] [10] (.ae Qh) O']
theorem ZQ(used:List (List UInt8)){kd:Nat}(hk:Kd 1 kd used)(hl:used.length<2^20)(stem s:List UInt8)(h:s∈used):∀up,AM.Reach Tryz.prog Γ ((kj.yl 4).cfg [.str s] up (uM used kd stem stem .ready .none)) (.back up (.bool true) (uM used kd stem stem .ready .none)):=by
 intro up;have hc:=I5 (Γ:=Γ) used s hk (by omega);simp[kF];refine .du 60 ?_;simp;refine .nI 60 (by simp) hc ?_;simp[h]
theorem aaZ(used:List (List UInt8)){kd:Nat}(hk:Kd 1 kd used)(hl:used.length<2^20)(stem s:List UInt8)(h:¬s∈used):∀up,AM.Reach Tryz.prog Γ ((kj.yl 4).cfg [.str s] up (uM used kd stem stem .ready .none)) (.back up (.bool false) (uM used kd s stem .done (.exit 0))):=by
 intro up;have hc:=I5 (Γ:=Γ) used s hk (by omega);simp[kF];refine .du 60 ?_;simp;refine .nI 60 (by simp) hc ?_;simp[h];exact .refl _
set_option maxRecDepth 8000 in
theorem aaj(hΓ:mY Γ)(used:List (List UInt8))(stem:List UInt8){kd:Nat}(hk:Kd 1 kd used)(hl:used.length<2^20)(hs:stem.length<2^40):aN Tryz.prog Γ sO [.list false kd (used.map .str),.str stem] (.str (dt used stem)):=by
 have stop:∀k:Nat,k<2^21->¬(stem++Lib.decDigits k∈used)->aB Tryz.prog Γ (QO (.dA 4) (.ptr 2 0) (.int .i64 k) (uM used kd stem stem .ready .none) ⟨[],.norm,5,NR used kd stem⟩) (.ret (.str (stem++Lib.decDigits k))):=by
  intro k hk1 h;have hp:=M6 hΓ k hk1;have hd:=zT hk1;refine .go 60 ?_;simp;refine .dr 60 ?_;simp;refine .call (by simp) hp ?_;simp(disch:=omega);refine .go (.bool false) _ (aaZ used hk hl stem _ h) ?_;simp;exact .back (by simp)
 have key:∀n k:Nat,k+n<2^21->¬(j9 used stem n k∈used)->aB Tryz.prog Γ (QO (.dA 4) (.ptr 2 0) (.int .i64 k) (uM used kd stem stem .ready .none) ⟨[],.norm,5,NR used kd stem⟩) (.ret (.str (j9 used stem n k))):=by
  intro n
  induction n with
  |zero=>
   intro k hn h;exact stop k (by omega) h
  |succ n ih=>
   intro k hn h;rw[j9]at h⊢
   by_cases h1:stem++Lib.decDigits k∈used
   ·have h2:used.contains (stem++Lib.decDigits k)=true:=by simpa using h1
    rw[if_pos h2]at h⊢;have hh:=ih (k+1) (by omega) h;have hp:=M6 hΓ k (by omega);have hd:=zT (n:=k) (by omega);refine .go 60 ?_;simp;refine .dr 60 ?_;simp;refine .call (by simp) hp ?_;simp(disch:=omega);refine .go (.bool true) _ (ZQ used hk hl stem _ h1) ?_;simp(disch:=omega);refine .aT ?_;simp at hh⊢;exact hh
   ·have h2:¬used.contains (stem++Lib.decDigits k)=true:=by simpa using h1
    rw[if_neg h2];exact stop k (by omega) h1
 refine .run 60 S6 (by simp) ?_;simp;refine .enter 60 SQ ?_;simp;refine .enter 60 Sr ?_;simp;refine .inLoop ?_;have hh:=key used.length 1 (by omega) (JL used stem);unfold dt;simp at hh⊢;exact hh
end Go.Proofs.YtchjijfjidlpjaaGreatDoor
namespace Go.Proofs.YtchjijfjidlpjaaGreatDoor
open Go.AM Go.Proofs
variable{Γ:Nat->Option AV}
theorem _root_.Go.AM.Reach.EE{P:Program}{f:FuncId}{args:List AV}{up:List Fr}{h h':List Ob}{v:AV}(J:List Ob)(hl:h'.length=h.length)(hw:eZ h')(hv:aJ h.length v=true)(h1:AM.Reach P Γ (.cl f args up h) (.back up v (h'++J))):AM.Reach P Γ (.cl f args up h) (.back up v h'):=by
 have e:(h'++J).take h.length=h':=by rw[<-hl,HY rfl]
 have:=AM.Reach.leave h1 hv (by rw[e];exact hw _ (by omega));rwa[e]at this
abbrev jz(x:Nat×Bs):AV×AV:=(iN x.1,.str x.2)
theorem tJ(a:Nat)(m:List (Nat×Bs)):fm (.sc .int) (.int .i64 (a:Int)) (m.map jz)=some ((getM a m).map .str):=Jl EP .str a m
theorem M'{a:Nat}{m:List (Nat×Bs)}(s:Bs)(h:getM a m=none):iK (.sc .int) (.int .i64 (a:Int)) (.str s) (m.map jz)=some ((m++[(a,s)]).map jz):=KI EP .str s h
abbrev lT(s:Bs)(op:Int)(l:AV):AV:=.agg [.str s,.int .i64 op,l,.list true 0 [],.bool false]
def By.raw(m:List (Nat×Bs))(s:Bs):By->AV
 |.one b=>lT s (if b then 1 else 0) (.list true 0 [])
 |.qk a=>lT s 3 (.list true 1 [.str (cC m (a^^^1))])
 |.both p q=>lT s 4 (.list true 1 [.str (cC m p),.str (cC m q)])
abbrev BM:By->AV
 |.one b=>.bX Cp (.agg [.bool b])
 |.qk a=>.bX Cu (.agg [iN a])
 |.both p q=>.bX CA (.agg [iN p,iN q])
theorem Nh(b:Bool)(v:AV){h:List Ob}(hw:eZ h):∀up,AM.Reach Tryz.prog Γ (.cl xF [.agg [.bool b],v] up h) (.back up (lT [] (if b then 1 else 0) (.list true 0 [])) h):=by
 intro up;refine .zY [.cells [.bool b],.cells [.str [],.int .i64 (if b then 1 else 0),.list true 0 [],.list true 0 [],.bool false],.row 1 au [] none true false,.row 1 au [] none true false] hw (by simp) ?_;refine .dq 60 RM ?_
 cases b
 ·simp
 ·simp
theorem KE(a:Nat)(ha:(a:Int)<2^60)(m:List (Nat×Bs)){q:Nat}{h:List Ob}(hq:h[q]? =some (.map (m.map jz) true))(hw:eZ h):∀up,AM.Reach Tryz.prog Γ (.cl xH [.agg [iN a],.mp q] up h) (.back up (lT [] 3 (.list true 1 [.str (cC m (a^^^1))])) h):=by
 intro up
 have hget:=fun os=>rF hq os
 have hf:=tJ (a^^^1) m;refine .zY [.cells [iN a],.cells [.str [],.int .i64 3,.list true 1 [.str (cC m (a^^^1))],.list true 0 [],.bool false],.row 1 au [] none true false,.row 1 au [] none true false] hw (by simp) ?_;refine .dq 60 RV ?_;unfold cC
 cases hg:getM (a^^^1) m with
 |none=>
  rw[hg]at hf;simp at hf;simp(disch:=omega) [hget,hf,isKey,cz,c9]
 |some s=>
  rw[hg]at hf;simp at hf;simp(disch:=omega) [hget,hf,isKey,cz,c9]
theorem Zb(p p2:Nat)(m:List (Nat×Bs)){q:Nat}{h:List Ob}(hq:h[q]? =some (.map (m.map jz) true))(hw:eZ h):∀up,AM.Reach Tryz.prog Γ (.cl xJ [.agg [iN p,iN p2],.mp q] up h) (.back up (lT [] 4 (.list true 1 [.str (cC m p),.str (cC m p2)])) h):=by
 intro up
 have hget:=fun os=>rF hq os
 have hf:=tJ p m;have hf2:=tJ p2 m;refine .zY [.cells [iN p,iN p2],.cells [.str [],.int .i64 4,.list true 1 [.str (cC m p),.str (cC m p2)],.list true 0 [],.bool false],.row 1 au [] none true false,.row 1 au [] none true false] hw (by simp) ?_;refine .dq 60 R4 ?_;unfold cC
 cases hg:getM p m<;>cases hg2:getM p2 m<;>rw[hg]at hf<;>rw[hg2]at hf2<;>simp at hf hf2<;>simp[hget,hf,hf2,isKey,cz,c9]<;>exact .refl _
theorem NZ(a:Nat):aN Tryz.prog Γ vi [iN a] (BM (dY a)):=by
 refine .run 60 Sn (by simp) ?_;unfold dY
 by_cases h:a<2
 ·have h2:((a:Int)<2)=True:=bl (by omega)
  by_cases h1:a=1
  ·subst h1;simp;exact .back (by simp)
  ·obtain rfl:a=0:=by omega
   simp;exact .back (by simp)
 ·have h2:((a:Int)<2)=False:=gq (by omega);simp[h,h2];exact .back (by simp)
abbrev A2(I O:AV)(nl ng nu:Nat):Ob:=.cells [I,O,.sl 11 0 nl,.sl 10 0 ng,.sl 9 0 nu,.mp 8,.fn (.func qW) [] [.ptr 7 0],.fn (.func vi) [] []]
abbrev dj(a0 a1 a2 a3 a4 a5:Ob)(I O:AV)(nl:Nat)(x:Ra)(gu gg:Option Nat)(rL:Ob)(tl:List Ob):List Ob:=
 a0::a1::a2::a3::a4::a5::A2 I O nl x.af.length x.used.length::.cells [.ptr 6 0]::.map (x.ar.map jz) true::.row 1 au (x.used.map .str) gu true true::.row 5 dB (x.af.map ez) gg true false::rL::tl
structure fZ(a0 a1 a2 a3 a4 a5:Ob)(I O:AV)(rL:Ob)(tl:List Ob):Prop where
 a:∀n,12<=n->dS n [a0,a1,a2,a3,a4,a5,rL]=true
 i:∀n,12<=n->aJ n I=true/\aJ n O=true
 t:∀n,12<=n->dS n tl=true
theorem Nd(n:Nat)(m:List (Nat×Bs)):iw n (m.map jz)=true:=by
 induction m with
 |nil=>rfl
 |cons x m ih=>simpa[iw]using ih
theorem KA(n:Nat)(l:List Bs):aO n (l.map AV.str)=true:=by
 induction l with
 |nil=>rfl
 |cons x m _=>simp[aO]
theorem Xr(n:Nat)(l:List Gt):aO n (l.map ez)=true:=by
 induction l with
 |nil=>rfl
 |cons x m ih=>simp[ih,KA]
section
variable{a0 a1 a2 a3 a4 a5 rL:Ob}{I O:AV}{tl:List Ob}
theorem fZ.wf(H:fZ a0 a1 a2 a3 a4 a5 I O rL tl)(nl:Nat)(x:Ra)(gu gg:Option Nat):eZ (dj a0 a1 a2 a3 a4 a5 I O nl x gu gg rL tl):=by
 intro n hn;simp only[bC]at hn;have h1:=H.a n (by omega);have h2:=H.i n (by omega);have h3:=H.t n (by omega)
 have q:∀k,k<12->k<n:=fun k hk=>by omega
 have b1:=Nd n x.ar;have b2:=KA n x.used;have b3:=Xr n x.af;simp at h1;simp[h1,h2,h3,q,b1,b2,b3]
theorem Nb(H:fZ a0 a1 a2 a3 a4 a5 I O rL tl)(nl:Nat)(x:Ra)(gu gg:Option Nat)(hg:gg=none\/gg=some 0)(hl:x.af.length<2^30)(M:List (Nat×Bs))(b:By)(s:Bs):∀up,AM.Reach Tryz.prog Γ (.cl qW [b.raw M s,.ptr 7 0] up (dj a0 a1 a2 a3 a4 a5 I O nl x gu gg rL tl))
 (.back up (.aL []) (dj a0 a1 a2 a3 a4 a5 I O nl ⟨x.af++[b.gate M s],x.used,x.ar⟩ gu (some 0) rL tl)):=by
 intro up;have hw:=H.wf nl ⟨x.af++[b.gate M s],x.used,x.ar⟩ gu (some 0)
 have hle:((x.af.length:Int)+1)<=2^40:=by omega
 refine .EE [.cells (AV.cells (b.raw M s))] (by simp) hw rfl ?_
 rcases hg with rfl|rfl<;>cases b<;>(
  refine .dq 60 Ii ?_;simp[By.raw];refine .eW 60 ?_;simp(disch:=omega) [By.gate,nK,dP,hle]
  exact .refl _)
end
theorem Yp{a:Nat}{m:List (Nat×Bs)}{s:Bs}(h:getM a m=none):getM a (m++[(a,s)])=some s:=by
 induction m with
 |nil=>simp[getM]
 |cons x m ih=>
  rw[ek];rw[getM]at h⊢
  split at h
  ·cases h
  ·rename_i hx;rw[if_neg hx];exact ih h
theorem _root_.Go.AM.gm.rP{P:Program}{K:kT}{l:List Bool}{w:Nat}{ws:List Nat}{i:Nat}{d:Option Nat}{a:AO}{os:List AG}{t:List AV}{h:List Ob}{hs:List (List Ob)}{Cs:List (Nat×(List Ob->Prop))}{f:FuncId}{args:List AV}{v:AV}(Q:List Ob->Prop)(hb:aD P f=true)
 (hq:∀g,Q g->∀up,AM.Reach P Γ (.cl f args up g) (.back up v g))(h1:∀g∈hs,aA P Γ t g a=.call f args/\Q g)
 (h3:bV P Γ K l ws (i+1) os (aW t d v) h hs ((w,fun g=>aA P Γ t g a=.call f args/\Q g)::Cs)):gm P Γ K true l w ws i d a os t h hs Cs f args:=
 ⟨hb,by
  rw[if_pos rfl]
  exact⟨v,_,fun g hg=>⟨hg.1,hq g hg.2⟩,h1,h3⟩⟩
def By.dJ:By->Prop
 |.one _=>True
 |.qk a=>(a:Int)<2^60
 |.both _ _=>True
section
variable{a0 a1 a2 a3 a4 a5 rL:Ob}{I O:AV}{tl:List Ob}
theorem fZ.more(H:fZ a0 a1 a2 a3 a4 a5 I O rL tl){J:List Ob}(hJ:∀n,12<=n->dS n J=true):fZ a0 a1 a2 a3 a4 a5 I O rL (tl++J):=
 ⟨H.a,H.i,fun n hn=>by simp[H.t n hn,hJ n hn]⟩
theorem eZ.app{h J:List Ob}(hw:eZ h)(hJ:∀n,h.length+J.length<=n->dS n J=true):eZ (h++J):=fun n hn=>by
 rw[bp]at hn;simp[hw n (by omega),hJ n hn]
theorem fZ.nc(H:fZ a0 a1 a2 a3 a4 a5 I O rL tl)(nl:Nat)(x:Ra)(gu gg:Option Nat)(J:List Ob)(hJ:∀n,tl.length+12+J.length<=n->dS n J=true):eZ (dj a0 a1 a2 a3 a4 a5 I O nl x gu gg rL (tl++J)):=
 (H.wf nl x gu gg).app (J:=J) fun n hn=>hJ n (by simp only[bC]at hn;omega)
set_option maxRecDepth 8000 in
theorem Nk(hΓ:mY Γ)(H:fZ a0 a1 a2 a3 a4 a5 I O rL tl)(nl:Nat)(x:Ra)(gu gg:Option Nat)(hu:gu=none\/gu=some 0)(hg:gg=none\/gg=some 0)(hl:x.af.length<2^30)(hl2:x.used.length<2^20)(a:Nat)(hn:getM a x.ar=none)(b:By)(hb:b.dJ):
 ∀up,AM.Reach Tryz.prog Γ (.cl vf [.ptr 6 0,iN a,BM b] up (dj a0 a1 a2 a3 a4 a5 I O nl x gu gg rL tl)) (.back up (.aL []) (dj a0 a1 a2 a3 a4 a5 I O nl (x.make a b) (some 0) (some 0) rL tl)):=by
 intro up;have hw:=H.wf nl x gu gg;have hw2:=H.wf nl (x.make a b) (some 0) (some 0);have hF:=aaj hΓ x.used dD (kd:=1) .self hl2 (by simp);have hput:=M' (dt x.used dD) hn;refine .EE [.cells (AV.cells (By.raw x.ar (dt x.used dD) b)),.row 1 au [] none true false,.row 1 au [] none true false] (by simp) hw2 rfl ?_
 have hA:=fun(J:List Ob) hJ up=>Nb (Γ:=Γ) (H.more (J:=J) hJ) nl ⟨x.af,x.used++[dt x.used dD],x.ar++[(a,dt x.used dD)]⟩ (some 0) gg hg hl x.ar b (dt x.used dD) up
 generalize hs:dt x.used dD=s at*
 have hle2:(x.used.length+1)*16<=140737488355328:=by omega
 rcases hu with rfl|rfl
 all_goals
  cases b with
  |one b=>
  have hG:=fun g hg=>Nh (Γ:=Γ) b (.mp 8) (h:=g) hg
  refine .dq 60 Ci ?_;simp;refine .eW 60 ?_;simp;refine .rP eZ (by simp) hG (by simp[hw]) ?_;simp;refine⟨H.nc nl x _ gg _ (by intro n hn;simp at hn;simp;omega),?_⟩;refine .nI 60 (by simp) hF ?_;simp;refine .eW 60 ?_;simp[hle2,hput,isKey,cz,c9];refine .eW 60 ?_;simp;have hA1:=hA [.cells (AV.cells (By.raw x.ar s (.one b))),.row 1 au [] none true false,.row 1 au [] none true false] (by intro n hn;simp[By.raw]);simp[By.raw,dj,A2]at hA1;refine .reach (by simp) hA1 ?_;simp[Ra.make,hs,By.raw]
  |qk c=>
  have hG:=fun g (hg:eZ g/\g[8]? =some (.map (x.ar.map jz) true))=>KE (Γ:=Γ) c hb x.ar (q:=8) (h:=g) hg.2 hg.1
  refine .dq 60 Ci ?_;simp;refine .eW 60 ?_;simp;refine .rP (fun g=>eZ g/\g[8]? =some (.map (x.ar.map jz) true)) (by simp) hG (by simp[hw]) ?_;simp;refine⟨H.nc nl x _ gg _ (by intro n hn;simp at hn;simp;omega),?_⟩;refine .nI 60 (by simp) hF ?_;simp;refine .eW 60 ?_;simp[hle2,hput,isKey,cz,c9];refine .eW 60 ?_;simp;have hA1:=hA [.cells (AV.cells (By.raw x.ar s (.qk c))),.row 1 au [] none true false,.row 1 au [] none true false] (by intro n hn;simp[By.raw]);simp[By.raw,dj,A2]at hA1;refine .reach (by simp) hA1 ?_;simp[Ra.make,hs,By.raw]
  |both p q=>
  have hG:=fun g (hg:eZ g/\g[8]? =some (.map (x.ar.map jz) true))=>Zb (Γ:=Γ) p q x.ar (q:=8) (h:=g) hg.2 hg.1
  refine .dq 60 Ci ?_;simp;refine .eW 60 ?_;simp;refine .rP (fun g=>eZ g/\g[8]? =some (.map (x.ar.map jz) true)) (by simp) hG (by simp[hw]) ?_;simp;refine⟨H.nc nl x _ gg _ (by intro n hn;simp at hn;simp;omega),?_⟩;refine .nI 60 (by simp) hF ?_;simp;refine .eW 60 ?_;simp[hle2,hput,isKey,cz,c9];refine .eW 60 ?_;simp;have hA1:=hA [.cells (AV.cells (By.raw x.ar s (.both p q))),.row 1 au [] none true false,.row 1 au [] none true false] (by intro n hn;simp[By.raw]);simp[By.raw,dj,A2]at hA1;refine .reach (by simp) hA1 ?_;simp[Ra.make,hs,By.raw]
def uL(x:Ra)(a:Nat)(g:Option Nat):Option Nat:=match getM a x.ar with
 |some _=>g
 |none=>some 0
theorem Yh{a:Nat}(ha:(a:Int)<2^60):(dY a).dJ:=by
 unfold dY
 split
 ·trivial
 ·exact ha
theorem uq(b:By)(n:Nat):dc n (BM b)=(BM b,[]):=by cases b<;>rfl
set_option maxRecDepth 8000 in
theorem Fc(hΓ:mY Γ)(H:fZ a0 a1 a2 a3 a4 a5 I O rL tl)(nl:Nat)(x:Ra)(gu gg:Option Nat)(hu:gu=none\/gu=some 0)(hg:gg=none\/gg=some 0)(hl:x.af.length<2^30)(hl2:x.used.length<2^20)(a:Nat)(ha:(a:Int)<2^60):
 ∀up,AM.Reach Tryz.prog Γ (.cl sG [.ptr 6 0,iN a] up (dj a0 a1 a2 a3 a4 a5 I O nl x gu gg rL tl)) (.back up (.str (cC (x.aP a).ar a)) (dj a0 a1 a2 a3 a4 a5 I O nl (x.aP a) (uL x a gu) (uL x a gg) rL tl)):=by
 intro up;have hf:=tJ a x.ar;refine .dq 60 RZ ?_;unfold Ra.aP uL cC
 cases hg1:getM a x.ar with
 |some s=>
  rw[hg1]at hf;simp at hf;simp[hf,hg1,isKey,cz,c9]
 |none=>
  rw[hg1]at hf;simp at hf;have hM:=Nk hΓ H nl x gu gg hu hg hl hl2 a hg1 (dY a) (Yh ha);have hf2:=tJ a (x.make a (dY a)).ar;have hg2:getM a (x.make a (dY a)).ar=some (dt x.used dD):=Yp hg1;rw[hg2]at hf2;simp at hf2;simp[hf,isKey,cz,c9];refine .dE 60 (AM.Reach.NY (by simp) (NZ a) (uq _) (by simp[dx,uq,-dc])) ?_;simp;refine .dE 60 hM ?_;simp[hf2,hg2,isKey,cz,c9]
end
end Go.Proofs.YtchjijfjidlpjaaGreatDoor
namespace Go.Proofs.YtchjijfjidlpjaaGreatDoor
open Go.AM Go.Proofs
def cX(used:List Bs):Nat->List Bs
 |0=>[]
 |n+1=>cX used n++[dt (used++cX used n) dD]
@[simp] theorem MS(used:List Bs):∀n,(cX used n).length=n
 |0=>rfl
 |n+1=>by simp[cX,MS used n]
theorem MX(used:List Bs):∀n,(cX used n).Nodup/\∀s∈cX used n,s∉used
 |0=>⟨by simp[cX],fun s h=>by simp[cX]at h⟩
 |n+1=>by
  obtain⟨h1,h2⟩:=MX used n;have h3:=JL (used++cX used n) dD;simp only[ba,not_or]at h3;refine⟨?_,fun s hs=>?_⟩
  ·rw[cX,om];refine⟨h1,by simp,fun a ha b hb=>?_⟩;simp only[cG]at hb;subst hb
   rintro rfl
   exact h3.2 ha
  ·rw[cX]at hs
   rcases ba.1 hs with hs|hs
   ·exact h2 s hs
   ·simp only[cG]at hs;subst hs;exact h3.1
theorem L9(used:List Bs):∀n,∀s∈cX used n,∃j,j<=used.length+n+1/\s=dD++Lib.decDigits j
 |0,s,h=>by simp[cX]at h
 |n+1,s,h=>by
  rw[cX]at h
  rcases ba.1 h with h|h
  ·obtain⟨j,h1,h2⟩:=L9 used n s h;exact⟨j,by omega,h2⟩
  ·simp only[cG]at h;subst h;obtain⟨j,h1,h2,h3⟩:=Ed (used:=used++cX used n) (stem:=dD) (used++cX used n).length 1;simp only[bp,MS]at h2;exact⟨j,by omega,h3⟩
theorem ZW:∀(n m:Nat),n<=m->∀c∈Lib.decDigits n,∃d,d<10/\c=j4 d:=by
 intro n m
 induction m generalizing n with
 |zero=>
  intro h c hc
  obtain rfl:n=0:=by omega
  rw[jg (by omega)]at hc;simp only[cG]at hc;exact⟨0,by omega,hc⟩
 |succ m ih=>
  intro h c hc
  by_cases h3:n<10
  ·rw[jg h3]at hc;simp only[cG]at hc;exact⟨n,h3,hc⟩
  ·rw[mD h3]at hc
   rcases ba.1 hc with hc|hc
   ·exact ih (n/10) (by omega) c hc
   ·simp only[cG]at hc;exact⟨n%10,by omega,hc⟩
theorem Jj{j:Nat}(h:j<10^7):dd (dD++Lib.decDigits j)=true:=by
 have h1:=LY h;unfold dd;simp only[aC,je,a8];refine⟨ji.2 fun c hc=>?_,?_⟩
 ·rcases ba.1 hc with hc|hc
  ·simp only[cG]at hc
   subst hc;decide
  ·obtain⟨d,hd,rfl⟩:=ZW j j (aU _) c hc
   have:∀d:Fin 10,iv (j4 d.val)=false:=by decide+kernel
   exact this ⟨d,hd⟩
 ·simp;omega
theorem zH{α:Type}{p:List α->Prop}(h0:p [])(h1:∀l a,p l->p (l++[a])):∀l,p l:=fun l=>by
 have:∀l:List α,p l.reverse:=by
  intro l
  induction l with
  |nil=>simpa using h0
  |cons a l ih=>simpa using h1 _ a ih
 simpa using this l.reverse
def cu(m:Md)(L:List (Nat×By)):Ra:=L.foldl (fun x e=>x.make e.1 e.2) (fF m)
theorem rB(m:Md)(L:List (Nat×By))(e:Nat×By):cu m (L++[e])=(cu m L).make e.1 e.2:=by simp[cu]
abbrev gA(m:Md):List Bs:=m.ak++m.ai++m.aq
def iO(n:Nat):List Nat:=(List.range n).map fun k=>2*(k+1)
def bD(m:Md)(L:List (Nat×By)):List Nat:=iO (m.ak++m.ai).length++L.map (·.1)
def eV(m:Md)(n:Nat):List Bs:=(m.ak++m.ai)++cX (gA m) n
theorem Kh:∀(l:List Bs)(k:Nat),eR k l=((List.range' k l.length).map fun k=>2*(k+1)).zip l
 |[],k=>rfl
 |s::l,k=>by
  rw[eR,bC,List.range'_succ,cv,B_,Kh l (k+1)]
theorem tn(m:Md)(L:List (Nat×By)):(cu m L).used=gA m++cX (gA m) L.length/\(cu m L).ar=(bD m L).zip (eV m L.length):=by
 induction L using zH with
 |h0=>
  refine⟨by simp[cu,fF,cX],?_⟩;simp only[cu,List.foldl_nil,fF,Kh,bD,iO,eV,cX,cN,iC,eL,List.range_eq_range']
 |h1 L e ih=>
  obtain⟨h1,h2⟩:=ih;rw[rB];refine⟨?_,?_⟩
  ·simp only[Ra.make,h1,bp,bC,cN,cX,c8]
  ·simp only[Ra.make,h1,h2,bD,eV,nk,cv,iC,bp,bC,cN,cX];rw[<-c8,<-c8,List.zip_append (l₁:=iO _++_)]
   ·rfl
   ·simp[iO];omega
theorem Ji(m:Md)(L:List (Nat×By)):(cu m L).af.length=L.length:=by
 induction L using zH with
 |h0=>rfl
 |h1 L e ih=>rw[rB];simp[Ra.make,ih]
theorem z8:∀(K:List Nat)(N:List Bs)(k:Nat),K.Nodup->(hk:k<K.length)->(hn:K.length=N.length)->getM K[k] (K.zip N)=some (N[k]'(by omega))
 |[],N,k,_,hk,_=>by simp at hk
 |a::K,[],k,_,hk,hn=>by simp at hn
 |a::K,s::N,0,_,hk,hn=>by simp[getM]
 |a::K,s::N,k+1,h,hk,hn=>by
  rw[oo]at h
  have hk':k<K.length:=by simpa using hk
  have ih:=z8 K N k h.2 hk' (by simpa using hn)
  have hne:¬K[k]=a:=fun e=>h.1 (by rw[<-e];exact bZ hk')
  simp only[u0,B_,getM,hne,cE];exact ih
theorem Le{K:List Nat}{N:List Bs}(hn:K.length=N.length){a:Nat}:getM a (K.zip N)=none↔a∉K:=by
 rw[getM_none];constructor
 ·intro h hm;obtain⟨k,hk,rfl⟩:=jK hm
  have hkz:k<(K.zip N).length:=by simp;omega
  have:=h (K.zip N)[k] (bZ hkz);simp at this
 ·rintro h ⟨x,s⟩ hx rfl
  exact h (List.of_mem_zip hx).1
theorem lz(m:Md)(L:List (Nat×By)):(bD m L).length=(eV m L.length).length:=by simp[bD,eV,iO];omega
def oP:Nat×By->Bool
 |(_,.both _ _)=>true
 |_=>false
theorem DQ(a:Nat):oP (a,dY a)=false:=by unfold dY;split<;>rfl
inductive Tr(m:Md)(first:Nat)(ands:List (Int×Int)):List (Nat×By)->Nat->Prop
 |nil:Tr m first ands [] 0
 |aP {L:List (Nat×By)} {t:Nat} (a:Nat):Tr m first ands L t->(a<2\/(a%2=1/\a-1∈bD m L))->a∉bD m L->Tr m first ands (L++[(a,dY a)]) t
 |both {L:List (Nat×By)} {t:Nat} (p q:Nat):Tr m first ands L t->ands[t]? =some ((p:Int),(q:Int))->p∈bD m L->q∈bD m L->Tr m first ands (L++[(2*(first+t),.both p q)]) (t+1)
theorem ru(m:Md)(L:List (Nat×By))(e:Nat×By):bD m (L++[e])=bD m L++[e.1]:=by simp[bD]
theorem tF(m:Md)(L L2:List (Nat×By)):bD m (L++L2)=bD m L++L2.map (·.1):=by simp[bD]
structure TrF(m:Md)(first:Nat)(L:List (Nat×By))(t:Nat):Prop where
 nodup:(bD m L).Nodup
 lt:∀a∈bD m L,a<2*(first+t)
 even:∀n,1<=n->n<first+t->2*n∈bD m L
theorem Tr.facts{m:Md}{first:Nat}{ands:List (Int×Int)}(hf:first=1+(m.ak++m.ai).length){L:List (Nat×By)}{t:Nat}(h:Tr m first ands L t):TrF m first L t:=by
 induction h with
 |nil=>
  refine⟨?_,fun a ha=>?_,fun n h1 h2=>?_⟩
  ·simp only[bD,iO,iC,eL];rw[Ce,List.pairwise_map];exact List.Pairwise.imp (fun hab he=>hab (by omega)) (Ce.1 HM)
  ·simp only[bD,iO,iC,eL,db,dw]at ha;obtain⟨k,hk,rfl⟩:=ha;omega
  ·simp only[bD,iO,iC,eL,db,dw];exact⟨n-1,by omega,by omega⟩
 |aP a _ ha hn ih=>
  refine⟨?_,fun x hx=>?_,fun n h1 h2=>?_⟩
  ·rw[ru,om];refine⟨ih.nodup,by simp,fun x hx y hy=>?_⟩;simp only[cG]at hy;subst hy
   rintro rfl
   exact hn hx
  ·rw[ru]at hx
   rcases ba.1 hx with hx|hx
   ·exact ih.lt x hx
   ·simp only[cG]at hx;subst hx
    rcases ha with ha|⟨ha,hb⟩
    ·omega
    ·have:=ih.lt _ hb;omega
  ·rw[ru];exact jJ _ (ih.even n h1 h2)
 |both p q _ hp h1 h2 ih=>
  refine⟨?_,fun x hx=>?_,fun n h3 h4=>?_⟩
  ·rw[ru,om];refine⟨ih.nodup,by simp,fun x hx y hy=>?_⟩;simp only[cG]at hy;subst hy
   rintro rfl
   have:=ih.lt _ hx;omega
  ·rw[ru]at hx
   rcases ba.1 hx with hx|hx
   ·have:=ih.lt x hx;omega
   ·simp only[cG]at hx;subst hx;omega
  ·rw[ru];rename_i L t _
   by_cases h:n<first+t
   ·exact jJ _ (ih.even n h3 h)
   ·refine sD _ ?_;simp only[cG];omega
theorem EJ{m:Md}{first:Nat}{ands:List (Int×Int)}(hf:first=1+(m.ak++m.ai).length){L:List (Nat×By)}{t:Nat}(h:Tr m first ands L t){a:Nat}(ha:a<2*(first+t)):
 ∃L2,Tr m first ands (L++L2) t/\(cu m L).aP a=cu m (L++L2)/\a∈bD m (L++L2)/\∀e∈L2,e=(a,dY a):=by
 have F:=h.facts hf;obtain⟨u1,u2⟩:=tn m L;unfold Ra.aP
 cases hg:getM a (cu m L).ar with
 |some s=>
  refine⟨[],by simpa using h,by simp,?_,by simp⟩;rw[eL]
  refine HW fun hn=>?_
  rw[u2,(Le (lz m L)).2 hn]at hg
  cases hg
 |none=>
  rw[u2,Le (lz m L)]at hg;refine⟨[(a,dY a)],.aP a h ?_ hg,by rw[rB],by rw[ru];simp,by simp⟩
  by_cases h2:a<2
  ·exact .inl h2
  ·refine .inr ?_
   have h3:a%2=1:=by
    refine HW fun hn=>hg ?_
    have:=F.even (a/2) (by omega) (by omega);rwa[show 2*(a/2)=a by omega]at this
   have:=F.even (a/2) (by omega) (by omega);exact⟨h3,by rwa[show 2*(a/2)=a-1 by omega]at this⟩
theorem XY{m:Md}{first:Nat}{ands:List (Int×Int)}(hf:first=1+(m.ak++m.ai).length)(hw:∀i(hi:i<ands.length),(0<=ands[i].1/\ands[i].1<2*(first+i))/\0<=ands[i].2/\ands[i].2<2*(first+i)):∀n i,i+n=ands.length->∀L,Tr m first ands L i->
 ∃L2,Tr m first ands (L++L2) ands.length/\jq first (ands.drop i) i (cu m L)=cu m (L++L2)/\∀e∈L2,oP e=false->∃p∈ands,e.1=p.1.toNat\/e.1=p.2.toNat:=by
 intro n
 induction n with
 |zero=>
  intro i hi L h
  obtain rfl:i=ands.length:=by omega
  exact⟨[],by simpa using h,by rw[uR];simp[jq],by simp⟩
 |succ n ih=>
  intro i hi L h
  have q1:i<ands.length:=by omega
  obtain⟨⟨a1,a2⟩,a3,a4⟩:=hw i q1;obtain⟨p,hp⟩:=cS a1;obtain⟨q,hq⟩:=cS a3
  have e:ands[i]? =some ((p:Int),(q:Int)):=by
   rw[a_ q1];congr 1;exact Prod.ext hp hq
  rw[br q1,jq,hp,hq];simp only[cZ];obtain⟨L1,t1,e1,k1,s1⟩:=EJ hf h (a:=p) (by omega);rw[e1];obtain⟨L2,t2,e2,k2,s2⟩:=EJ hf t1 (a:=q) (by omega);rw[e2]
  have k1':p∈bD m (L++L1++L2):=by rw[tF m (L++L1)];exact jJ _ k1
  obtain⟨L3,t3,e3,s3⟩:=ih (i+1) (by omega) _ (.both p q t2 e k1' k2);rw[rB]at e3
  have hm:((p:Int),(q:Int))∈ands:=by
   have:=bZ q1;rwa[show ands[i]=((p:Int),(q:Int))from Prod.ext hp hq]at this
  refine⟨L1++L2++[(2*(first+i),By.both p q)]++L3,by simpa[c8]using t3,by rw[e3];simp[c8],fun x hx hb=>?_⟩;simp only[ba,cG]at hx
  rcases hx with((hx|hx)|rfl)|hx
  ·rw[s1 x hx];exact⟨_,hm,.inl (by simp)⟩
  ·rw[s2 x hx];exact⟨_,hm,.inr (by simp)⟩
  ·cases hb
  ·exact s3 x hx hb
theorem ZA{m:Md}{L L2:List (Nat×By)}{a:Nat}(ha:a∈bD m L)(hd:(bD m (L++L2)).Nodup):cC (cu m (L++L2)).ar a=cC (cu m L).ar a:=by
 obtain⟨k,hk,rfl⟩:=jK ha
 have hd1:(bD m L).Nodup:=by
  rw[tF,om]at hd;exact hd.1
 have hk2:k<(bD m (L++L2)).length:=by rw[tF];simp;omega
 have e1:(bD m (L++L2))[k]=(bD m L)[k]:=by
  simp only[tF];rw[xq hk]
 have e2:(eV m (L++L2).length)[k]'(by rw[<-lz];exact hk2)=(eV m L.length)[k]'(by rw[<-lz];exact hk):=by
  have hpre:∀n k:Nat,∃e,cX (gA m) (n+k)=cX (gA m) n++e:=by
   intro n k
   induction k with
   |zero=>exact⟨[],by simp⟩
   |succ k ih=>
    obtain⟨e,he⟩:=ih;exact⟨e++[dt (gA m++cX (gA m) (n+k)) dD],by rw[<-mj,cX,he,c8]⟩
  obtain⟨e,he⟩:=hpre L.length L2.length
  have hn:eV m (L++L2).length=eV m L.length++e:=by rw[bp,eV,he,eV,<-c8]
  simp only[hn];rw[xq]
 unfold cC;rw[(tn m L).2,(tn m (L++L2)).2];rw[z8 _ _ k hd1 hk (lz m L)]
 conv=>lhs;rw[<-e1]
 rw[z8 _ _ k hd hk2 (lz m _)];simp only[e2]
theorem abx{m:Md}{L:List (Nat×By)}(hd:(bD m L).Nodup){k:Nat}(hk:k<(bD m L).length):cC (cu m L).ar (bD m L)[k]=(eV m L.length)[k]'(by rw[<-lz];exact hk):=by
 unfold cC;rw[(tn m L).2,z8 _ _ k hd hk (lz m L)]
theorem Lh{m:Md}{first:Nat}{ands:List (Int×Int)}(hf:first=1+(m.ak++m.ai).length):∀(l:List Bs)(n v:List Int),l.length=n.length->v.length=n.length->(∀a∈n,0<=a/\a<2*(first+ands.length))->∀L,Tr m first ands L ands.length->
 ∃L2,Tr m first ands (L++L2) ands.length/\(ec l n v (cu m L)).1=cu m (L++L2)/\(∀a∈n,a.toNat∈bD m (L++L2))/\(ec l n v (cu m L)).2.map (·.name)=l/\(ec l n v (cu m L)).2.map (·.init)=v/\(ec l n v (cu m L)).2.map (·.next)=n.map (fun a=>cC (cu m (L++L2)).ar a.toNat)/\∀e∈L2,oP e=false/\∃a∈n,e.1=a.toNat
 |[],[],[],_,_,_,L,h=>⟨[],by simpa using h,by simp[ec],by simp,by simp[ec],by simp[ec],by simp[ec],by simp⟩
 |s::l,a::n,v::i,h1,h2,h3,L,h=>by
  obtain⟨b1,b2⟩:=h3 a (by simp);obtain⟨L1,t1,e1,k1,s1⟩:=EJ hf h (a:=a.toNat) (by omega);obtain⟨L2,t2,e2,k2,e3,e4,e5,s2⟩:=Lh hf l n i (by simpa using h1) (by simpa using h2) (fun b hb=>h3 b (by simp[hb])) (L++L1) t1;have F:=t2.facts hf
  have k1':a.toNat∈bD m (L++L1++L2):=by rw[tF m (L++L1)];exact jJ _ k1
  refine⟨L1++L2,by simpa[c8]using t2,?_,?_,?_,?_,?_,fun x hx=>?_⟩
  ·rw[ec,e1,e2,c8]
  ·intro b hb;rw[<-c8]
   rcases bw.1 hb with rfl|hb
   ·exact k1'
   ·exact k2 b hb
  ·rw[ec,e1];simp[e3]
  ·rw[ec,e1];simp[e4]
  ·rw[ec,e1,<-c8];simp only[cv,e5];rw[ZA k1 F.nodup]
  ·rcases ba.1 hx with hx|hx
   ·rw[s1 x hx];exact⟨DQ _,a,by simp,rfl⟩
   ·obtain⟨q1,b,q2,q3⟩:=s2 x hx;exact⟨q1,b,by simp[q2],q3⟩
theorem V8(m:Md)(L:List (Nat×By)):∀L2,∃G,(cu m (L++L2)).af=(cu m L).af++G/\G.length=L2.length:=by
 intro L2
 induction L2 using zH with
 |h0=>exact⟨[],by simp,rfl⟩
 |h1 L2 e ih=>
  obtain⟨G,h1,h2⟩:=ih;refine⟨G++[e.2.gate (cu m (L++L2)).ar (dt (cu m (L++L2)).used dD)],?_,by simp[h2]⟩;rw[<-c8,rB];simp only[Ra.make,h1,c8]
theorem ZS(m:Md)(L:List (Nat×By))(e:Nat×By)(L2:List (Nat×By)):(cu m (L++e::L2)).af[L.length]? =some (e.2.gate (cu m L).ar (dt (gA m++cX (gA m) L.length) dD)):=by
 obtain⟨G,h1,h2⟩:=V8 m (L++[e]) L2;rw[show L++e::L2=L++[e]++L2 by simp,h1,rB];have hl:=Ji m L;simp only[Ra.make,(tn m L).1];rw[c8,e_ (by omega),hl];simp
@[simp] theorem aaq(b:By)(m:List (Nat×Bs))(s:Bs):(b.gate m s).name=s:=by cases b<;>rfl
theorem Vy(m:Md)(L:List (Nat×By)):(cu m L).af.map (·.name)=cX (gA m) L.length:=by
 induction L using zH with
 |h0=>rfl
 |h1 L e ih=>
  rw[rB];simp only[Ra.make,nk,ih,cv,iC,aaq,(tn m L).1,bp,bC,cN,cX]
def po(L:List (Nat×By)):Nat:=(L.filter oP).length
theorem DY(L:List (Nat×By))(e:Nat×By):po (L++[e])=po L+if oP e=true then 1 else 0:=by
 unfold po;rw[List.filter_append,bp]
 cases h:oP e<;>simp[h]
def AI(m:Md)(first:Nat)(ands:List (Int×Int))(P:List (Nat×By))(e:Nat×By):Prop:=
 (∃a,e=(a,dY a)/\(a<2\/(a%2=1/\a-1∈bD m P)))\/(∃p q:Nat,e=(2*(first+po P),.both p q)/\ands[po P]? =some ((p:Int),(q:Int))/\p∈bD m P/\q∈bD m P)
theorem Tr.at{m:Md}{first:Nat}{ands:List (Int×Int)}{L:List (Nat×By)}{t:Nat}(h:Tr m first ands L t):t=po L/\∀i(hi:i<L.length),AI m first ands (L.take i) L[i]:=by
 have step:∀(L:List (Nat×By))(e:Nat×By),(∀i(hi:i<L.length),AI m first ands (L.take i) L[i])->AI m first ands L e->∀i(hi:i<(L++[e]).length),AI m first ands ((L++[e]).take i) (L++[e])[i]:=by
  intro L e h1 h2 i hi
  by_cases h:i<L.length
  ·rw[List.take_append_of_le_length (by omega),xq h];exact h1 i h
  ·obtain rfl:i=L.length:=by simp at hi;omega
   rw[HY rfl];simpa using h2
 induction h with
 |nil=>exact⟨rfl,fun i hi=>by simp at hi⟩
 |aP a _ ha hn ih=>
  obtain⟨rfl,h2⟩:=ih;refine⟨by rw[DY,DQ];simp,step _ _ h2 (.inl ⟨a,rfl,ha⟩)⟩
 |both p q _ hp h1 h2 ih=>
  obtain⟨rfl,h3⟩:=ih;refine⟨by rw[DY];simp[oP],step _ _ h3 (.inr ⟨p,q,rfl,hp,h1,h2⟩)⟩
theorem eQ.take{first:Nat}{l:List (Int×Int)}(h:eQ first l)(i:Nat):eQ first (l.take i):=by
 refine⟨fun j hj=>?_,h.nd.sublist (List.take_sublist i l)⟩
 have hj2:j<l.length:=by rw[fc]at hj;omega
 rw[xk];exact h.at_ j hj2
theorem L0{first:Nat}{l:List (Int×Int)}{p q:Nat}(h1:2<=q)(h2:q<p)(h3:p/2≠q/2)(h4:(((p:Nat):Int),((q:Nat):Int))∉l):
 bo first l p q=(l++[((p:Int),(q:Int))],2*(first+l.length)):=by
 unfold bo;rw[Nat.max_eq_left (by omega),HP (by omega)]
 have hk:iu p q=none:=by
  unfold iu;have hx:=ky p;rw[if_neg,if_neg]
  ·omega
  ·rw[not_or];refine⟨by omega,?_⟩
   rw[hx];split<;>omega
 rw[hk,DE.2 h4]
theorem Df{α:Type}{l:List α}(h:l.Nodup){i:Nat}(hi:i<l.length):l[i]∉l.take i:=by
 intro hm
 have h2:(l.take i++l.drop i).Nodup:=by rw[oa];exact h
 exact(om.1 h2).2.2 _ hm _ (by rw[br hi];exact oh) rfl
theorem pZ{a b:Gr}(h:dN a b=true):a.ins=b.ins/\a.next=b.next/\a.init=b.init/\a.ands=b.ands/\a.outs=b.outs:=by
 simpa[dN,and_assoc]using h
theorem vy{a b:Gr}(h:dN a b=true):a.aE=b.aE/\a.check=b.check/\a.first=b.first/\a.all=b.all/\a.strict=b.strict/\dN a.dR b.dR=true:=by
 obtain⟨i1,n1,j1,s1,o1,k1,k2,k3,k4,p1,p2,p3,p4⟩:=a;obtain⟨i2,n2,j2,s2,o2,k5,k6,k7,k8,p5,p6,p7,p8⟩:=b;obtain⟨rfl,rfl,rfl,rfl,rfl⟩:=pZ h;exact⟨rfl,rfl,rfl,rfl,rfl,CJ _⟩
theorem Iu{a b c:Gr}(h:dN a b=true)(h2:dN b c=true):dN a c=true:=by
 obtain⟨h1,h3,h4,h5,h6⟩:=pZ h;simp only[dN,h1,h3,h4,h5,h6];exact h2
theorem pX{g:Gr}(h:g.strict=true):g.Ok/\eQ g.first g.ands/\∀i,i<g.ands.length->g.aE.getD (g.first+i) false=true:=by
 simp only[Gr.strict,aC,a8,je]at h;obtain⟨hc,hb⟩:=h;have ok:=Gr.lH hc
 have key:∀i,i<g.ands.length->g.A1 i=false:=fun i hi=>ji.1 hb i (dw.2 hi)
 have key2:∀i(hi:i<g.ands.length),g.ands[i].2<g.ands[i].1/\1<g.ands[i].2/\g.ands[i].1.toNat/2≠g.ands[i].2.toNat/2/\g.aE.getD (g.first+i) false=true/\g.ands[i]∉g.ands.take i:=by
  intro i hi;have:=key i hi;unfold Gr.A1 at this;rw[bz,a_ hi,gZ]at this;simp only[jI,gK,Q7]at this;obtain⟨⟨⟨⟨t1,t2⟩,t3⟩,t4⟩,t5⟩:=this;exact⟨by omega,by omega,t3,t4,t5⟩
 refine⟨ok,⟨fun i hi=>?_,?_⟩,fun i hi=>(key2 i hi).2.2.2.1⟩
 ·obtain⟨k1,k2,k3,k4,k5⟩:=key2 i hi;have:=ok.ands i hi;refine⟨g.ands[i].1.toNat,g.ands[i].2.toNat,?_,by omega,by omega,k3,by omega⟩
  refine Prod.ext ?_ ?_<;>simp only<;>omega
 ·rw[Ce,List.pairwise_iff_getElem];intro i j hi hj hij he;apply(key2 j hj).2.2.2.2;rw[<-he];exact Q_.2 ⟨i,by rw[fc];omega,by rw[xk]⟩
theorem ny(v:List Bool)(k n:Nat):(v.set k true).getD n false=true↔v.getD n false=true\/(n=k/\k<v.length):=by
 rw[bz,bz,mn]
 by_cases h:k=n
 ·subst h
  by_cases h2:k<v.length
  ·simp[h2]
  ·simp[h2]
 ·have h3:¬n=k:=fun e=>h e.symm
  simp[h,h3]
theorem DB:∀(l:List Int)(v:List Bool)(n:Nat),(eC l v).getD n false=true↔v.getD n false=true\/(n<v.length/\∃a∈l,a.toNat/2=n)
 |[],v,n=>by simp[eC]
 |a::l,v,n=>by
  rw[eC,DB l,ny,kp];constructor
  ·rintro((h|⟨rfl,h⟩)|⟨h,b,hb,e⟩)
   ·exact .inl h
   ·exact .inr ⟨h,a,by simp,rfl⟩
   ·exact .inr ⟨h,b,by simp[hb],e⟩
  ·rintro(h|⟨h,b,hb,e⟩)
   ·exact .inl (.inl h)
   ·rcases bw.1 hb with rfl|hb
    ·exact .inl (.inr ⟨e.symm,by omega⟩)
    ·exact .inr ⟨h,b,hb,e⟩
theorem Mw{ands:List (Int×Int)}{first:Nat}(P:Nat->Prop):∀(i:Nat)(v:List Bool),(∀n,v.getD n false=true->P n)->
 (∀j,j<i->P (first+j)->P ((ands.getD j (0,0)).1.toNat/2)/\P ((ands.getD j (0,0)).2.toNat/2))->∀n,(fv ands first i v).getD n false=true->P n
 |0,v,hv,_=>hv
 |i+1,v,hv,hs=>by
  rw[fv];refine Mw P i _ (fun n hn=>?_) (fun j hj=>hs j (by omega))
  split at hn
  ·rename_i h;have:=hs i (by omega) (hv _ h);rw[ny,ny]at hn
   rcases hn with(hn|⟨rfl,_⟩)|⟨rfl,_⟩
   ·exact hv n hn
   ·exact this.1
   ·exact this.2
  ·exact hv n hn
theorem zf{ands:List (Int×Int)}{first:Nat}:∀(i:Nat)(v:List Bool)(n:Nat),v.getD n false=true->(fv ands first i v).getD n false=true
 |0,v,n,h=>h
 |i+1,v,n,h=>by
  rw[fv];refine zf i _ n ?_
  split
  ·rw[ny,ny];exact .inl (.inl h)
  ·exact h
theorem Js{ands:List (Int×Int)}{first:Nat}:∀(i:Nat)(v:List Bool)(n:Nat),first+i<=n+1->(∀j,j<i->(ands.getD j (0,0)).1.toNat/2<first+j/\(ands.getD j (0,0)).2.toNat/2<first+j)->
 ((fv ands first i v).getD n false=true↔v.getD n false=true)
 |0,v,n,_,_=>mo
 |i+1,v,n,h,hw=>by
  have h0:=hw i (by omega);rw[fv,Js i _ n (by omega) (fun j hj=>hw j (by omega))]
  split
  ·rw[ny,ny];constructor
   ·rintro((h2|⟨e,_⟩)|⟨e,_⟩)
    ·exact h2
    ·omega
    ·omega
   ·exact fun h2=>.inl (.inl h2)
  ·exact mo
theorem Is{ands:List (Int×Int)}{first:Nat}:∀(i:Nat)(v:List Bool),(∀j,j<i->(ands.getD j (0,0)).1.toNat/2<first+j/\(ands.getD j (0,0)).2.toNat/2<first+j)->first+i<=v.length->
 ∀j,j<i->(fv ands first i v).getD (first+j) false=true->(fv ands first i v).getD ((ands.getD j (0,0)).1.toNat/2) false=true/\(fv ands first i v).getD ((ands.getD j (0,0)).2.toNat/2) false=true
 |0,v,_,_=>fun j hj=>by omega
 |i+1,v,hw,hl=>by
  intro j hj;have h0:=hw i (by omega);rw[fv]
  by_cases hji:j<i
  ·exact Is i _ (fun j hj=>hw j (by omega)) (by split<;>(try simp only[kp])<;>omega) j hji
  ·have e:j=i:=by omega
   subst e;rw[Js j _ (first+j) (by omega) (fun j hj=>hw j (by omega))];intro h
   split at h
   ·rename_i h2;rw[if_pos h2];refine⟨zf _ _ _ ?_,zf _ _ _ ?_⟩
    ·rw[ny,ny];exact .inl (.inr ⟨rfl,by omega⟩)
    ·rw[ny];exact .inr ⟨rfl,by rw[kp];omega⟩
   ·rename_i h2;exact absurd h h2
theorem getD_at{l:List (Int×Int)}{i:Nat}(h:i<l.length):l.getD i (0,0)=l[i]:=by
 rw[bz,a_ h];rfl
theorem Gr.Ok.half{g:Gr}(ok:g.Ok):∀j,j<g.ands.length->(g.ands.getD j (0,0)).1.toNat/2<g.first+j/\(g.ands.getD j (0,0)).2.toNat/2<g.first+j:=by
 intro j hj;have:=ok.ands j hj;rw[getD_at hj];omega
theorem Ec{g:Gr}(ok:g.Ok){a:Int}(h:a∈g.next++g.outs):g.aE.getD (a.toNat/2) false=true:=by
 unfold Gr.aE;refine zf _ _ _ ((DB _ _ _).2 (.inr ⟨?_,a,h,rfl⟩));have hl:g.lits=2*g.all:=rfl;rw[ku]
 rcases ba.1 h with h|h
 ·have:=ok.next a h;omega
 ·have:=ok.outs a h;omega
theorem Dc{g:Gr}(ok:g.Ok){i:Nat}(hi:i<g.ands.length)(h:g.aE.getD (g.first+i) false=true):g.aE.getD (g.ands[i].1.toNat/2) false=true/\g.aE.getD (g.ands[i].2.toNat/2) false=true:=by
 have:=Is (ands:=g.ands) (first:=g.first) g.ands.length (eC (g.next++g.outs) (List.replicate g.all false)) ok.half (by rw[nz,ku];exact aU _) i hi h;rw[getD_at hi]at this;exact this
theorem Zy{g:Gr}(P:Nat->Prop)(h1:∀a∈g.next++g.outs,P (a.toNat/2))(h2:∀i(hi:i<g.ands.length),P (g.first+i)->P (g.ands[i].1.toNat/2)/\P (g.ands[i].2.toNat/2)):
 ∀n,g.aE.getD n false=true->P n:=by
 refine Mw P _ _ (fun n hn=>?_) (fun j hj=>?_)
 ·rcases(DB _ _ _).1 hn with h|⟨_,a,ha,rfl⟩
  ·rw[bz,HR]at h
   split at h<;>simp at h
  ·exact h1 a ha
 ·rw[getD_at hj];exact h2 j hj
theorem Ap{to:List Nat}{a:Nat}(h:to.getD (a/2) 0%2=0):aX to a=to.getD (a/2) 0+a%2:=by
 unfold aX
 rcases(show a%2=0\/a%2=1 by omega)with h2|h2
 ·rw[h2,Cd];rfl
 ·rw[h2,ky,if_pos h]
theorem K6(to:List Nat)(a:Nat):aX to a/2=to.getD (a/2) 0/2:=by
 unfold aX
 rcases(show a%2=0\/a%2=1 by omega)with h2|h2
 ·rw[h2,Cd]
 ·rw[h2,ky];split<;>omega
theorem kv{to:List Nat}{c n:Nat}(h:n<to.length):(to++[c]).getD n 0=to.getD n 0:=by
 rw[bz,bz,dk h]
theorem vU{to:List Nat}{c n:Nat}(h:n=to.length):(to++[c]).getD n 0=c:=by
 subst h
 rw[bz];simp
theorem qa{to:List Nat}{c a:Nat}(h:a/2<to.length):aX (to++[c]) a=aX to a:=by
 unfold aX;rw[kv h]
section
variable(first:Nat)(aE:List Bool)(ands:List (Int×Int))
def Live(n:Nat):Prop:=n<first\/aE.getD n false=true
abbrev gI(to:List Nat)(p:Int×Int):Int×Int:=((aX to p.1.toNat:Nat),(aX to p.2.toNat:Nat))
structure gb(i:Nat)(l:List (Int×Int))(to:List Nat):Prop where
 len:to.length=first+i
 low:∀n,n<first->to.getD n 0=2*n
 at_:∀k(hk:k<ands.length),k<i->aE.getD (first+k) false=true->∃j,j<l.length/\to.getD (first+k) 0=2*(first+j)/\l[j]? =some (gI to ands[k])
 A0:∀j,j<l.length->∃k,k<i/\aE.getD (first+k) false=true/\to.getD (first+k) 0=2*(first+j)
 mono:∀m n,m<n->n<first+i->Live first aE m->Live first aE n->to.getD m 0<to.getD n 0
variable{first aE ands}
theorem gb.ev{i:Nat}{l:List (Int×Int)}{to:List Nat}(h:gb first aE ands i l to)(hi:i<=ands.length){n:Nat}(hn:n<first+i)(hl:Live first aE n):to.getD n 0%2=0/\to.getD n 0<2*(first+l.length):=by
 by_cases h1:n<first
 ·rw[h.low n h1];omega
 ·rcases hl with h2|h2
  ·omega
  ·obtain⟨j,hj,e,_⟩:=h.at_ (n-first) (by omega) (by omega) (by rw[show first+(n-first)=n by omega];exact h2);rw[show first+(n-first)=n by omega]at e;omega
theorem gb.inj{i:Nat}{l:List (Int×Int)}{to:List Nat}(h:gb first aE ands i l to)(hi:i<=ands.length){a b:Nat}(ha:a/2<first+i)(hb:b/2<first+i)(la:Live first aE (a/2))(lb:Live first aE (b/2))(e:aX to a=aX to b):a=b:=by
 have e1:=h.ev hi ha la;have e2:=h.ev hi hb lb;rw[Ap e1.1,Ap e2.1]at e
 rcases HF (a/2) (b/2)with h1|h1|h1
 ·have:=h.mono _ _ h1 hb la lb;omega
 ·omega
 ·have:=h.mono _ _ h1 ha lb la;omega
structure uh(first:Nat)(aE:List Bool)(ands:List (Int×Int)):Prop where
 h1:1<=first
 s:eQ first ands
 c:∀i(hi:i<ands.length),aE.getD (first+i) false=true->aE.getD (ands[i].1.toNat/2) false=true/\aE.getD (ands[i].2.toNat/2) false=true
theorem gb.new{i:Nat}{l:List (Int×Int)}{to:List Nat}(L:uh first aE ands)(h:gb first aE ands i l to)(hi:i<ands.length)(hl:aE.getD (first+i) false=true):
 bo first l (aX to ands[i].1.toNat) (aX to ands[i].2.toNat)=(l++[gI to ands[i]],2*(first+l.length))/\ands[i].1.toNat/2<first+i/\ands[i].2.toNat/2<first+i:=by
 obtain⟨p,q,e,s1,s2,s3,s4⟩:=L.s.at_ i hi;obtain⟨c1,c2⟩:=L.c i hi hl
 have hp:ands[i].1.toNat=p:=by rw[e];rfl
 have hq:ands[i].2.toNat=q:=by rw[e];rfl
 unfold gI
 rw[hp]at c1;rw[hq]at c2;rw[hp,hq]
 have e1:=h.ev (by omega) (n:=p/2) (by omega) (.inr c1);have e2:=h.ev (by omega) (n:=q/2) (by omega) (.inr c2);have m1:=h.mono (q/2) (p/2) (by omega) (by omega) (.inr c2) (.inr c1);have m0:=h.mono 0 (q/2) (by omega) (by omega) (.inl (by have:=L.h1;omega)) (.inr c2);have b1:=Ap e1.1;have b2:=Ap e2.1;refine⟨L0 (by omega) (by omega) (by omega) ?_,by omega,by omega⟩;intro hm;obtain⟨j,hj,ej⟩:=Q_.1 hm;obtain⟨k,hk,lk,tk⟩:=h.A0 j hj;obtain⟨j2,hj2,tj2,ej2⟩:=h.at_ k (by omega) hk lk
 have hjj:j2=j:=by omega
 subst hjj;rw[a_ hj2,ej]at ej2;simp only[gI,al,bH]at ej2;obtain⟨p2,q2,e',t1,t2,t3,t4⟩:=L.s.at_ k (by omega);obtain⟨d1,d2⟩:=L.c k (by omega) lk;rw[e']at ej2 d1 d2;simp only[cZ]at ej2 d1 d2;have x1:=h.inj (by omega) (a:=p) (b:=p2) (by omega) (by omega) (.inr c1) (.inr d1) (by omega);have x2:=h.inj (by omega) (a:=q) (b:=q2) (by omega) (by omega) (.inr c2) (.inr d2) (by omega);subst x1 x2;exact Df L.s.nd hi (Q_.2 ⟨k,by rw[fc];omega,by rw[xk,e',e]⟩)
theorem gb.push{i:Nat}{l:List (Int×Int)}{to:List Nat}(L:uh first aE ands)(h:gb first aE ands i l to)(hi:i<ands.length)(hl:aE.getD (first+i) false=true):
 gb first aE ands (i+1) (l++[gI to ands[i]]) (to++[2*(first+l.length)]):=by
 obtain⟨_,n1,n2⟩:=h.new L hi hl;have hlen:=h.len;refine⟨by simp;omega,fun n hn=>by rw[kv (by omega)];exact h.low n hn,fun k hk hki lk=>?_,fun j hj=>?_,fun m n hmn hn lm ln=>?_⟩
 ·by_cases hk2:k<i
  ·obtain⟨j,hj,e1,e2⟩:=h.at_ k hk hk2 lk;obtain⟨p2,q2,e',t1,t2,t3,t4⟩:=L.s.at_ k hk;refine⟨j,by simp;omega,by rw[kv (by omega)];exact e1,?_⟩;rw[dk hj,e2];unfold gI;rw[e'];simp only[cZ];rw[qa (by omega),qa (by omega)]
  ·have e:k=i:=by omega
   subst e;refine⟨l.length,by simp,vU (by omega),?_⟩;unfold gI;rw[qa (by omega),qa (by omega)];simp
 ·by_cases hj2:j<l.length
  ·obtain⟨k,hk,lk,e⟩:=h.A0 j hj2;exact⟨k,by omega,lk,by rw[kv (by omega)];exact e⟩
  ·have e:j=l.length:=by simp at hj;omega
   subst e;exact⟨i,by omega,hl,vU (by omega)⟩
 ·rw[kv (n:=m) (by omega)]
  by_cases hn2:n<first+i
  ·rw[kv (by omega)];exact h.mono m n hmn hn2 lm ln
  ·rw[vU (by omega)];exact(h.ev (by omega) (by omega) lm).2
theorem gb.skip{i:Nat}{l:List (Int×Int)}{to:List Nat}(L:uh first aE ands)(h:gb first aE ands i l to)(hi:i<ands.length)(hl:¬aE.getD (first+i) false=true)(c:Nat):gb first aE ands (i+1) l (to++[c]):=by
 have hlen:=h.len;refine⟨by simp;omega,fun n hn=>by rw[kv (by omega)];exact h.low n hn,fun k hk hki lk=>?_,fun j hj=>?_,fun m n hmn hn lm ln=>?_⟩
 ·have hk2:k<i:=by
   rcases jG k i with h3|h3
   ·exact h3
   ·have e:k=i:=by omega
    subst e;exact absurd lk hl
  obtain⟨j,hj,e1,e2⟩:=h.at_ k hk hk2 lk;obtain⟨p2,q2,e',t1,t2,t3,t4⟩:=L.s.at_ k hk;refine⟨j,hj,by rw[kv (by omega)];exact e1,?_⟩;rw[e2];unfold gI;rw[e'];simp only[cZ];rw[qa (by omega),qa (by omega)]
 ·obtain⟨k,hk,lk,e⟩:=h.A0 j hj;exact⟨k,by omega,lk,by rw[kv (by omega)];exact e⟩
 ·have hn2:n<first+i:=by
   rcases jG n (first+i)with h3|h3
   ·exact h3
   ·have e:n=first+i:=by omega
    subst e
    rcases ln with h4|h4
    ·omega
    ·exact absurd h4 hl
  rw[kv (n:=m) (by omega),kv (by omega)];exact h.mono m n hmn hn2 lm ln
theorem gb.zero:gb first aE ands 0 [] (ids first):=by
 have hg:∀n,n<first->(ids first).getD n 0=2*n:=fun n hn=>by
  rw[bz,a_ (by simpa using hn)];simp[ids]
 refine⟨by simp,hg,fun k hk h=>by omega,fun j hj=>by simp at hj,fun m n hmn hn _ _=>?_⟩
 rw[hg m (by omega),hg n (by omega)];omega
theorem DC(L:uh first aE ands):∀n i l to,i+n=ands.length->gb first aE ands i l to->gb first aE ands ands.length (c_ first aE (ands.drop i) i l to).1 (c_ first aE (ands.drop i) i l to).2
 |0,i,l,to,hi,h=>by
  have:i=ands.length:=by omega
  subst this
  rw[uR,c_];exact h
 |n+1,i,l,to,hi,h=>by
  have h1:i<ands.length:=by omega
  rw[br h1,c_]
  split
  ·rename_i hl;rw[(h.new L h1 hl).1];exact DC L n (i+1) _ _ (by omega) (h.push L h1 hl)
  ·rename_i hl;exact DC L n (i+1) _ _ (by omega) (h.skip L h1 hl 0)
end
theorem Gr.Ns{x:Gr}(ok:x.Ok)(s:eQ x.first x.ands):uh x.first x.aE x.ands:=⟨by unfold Gr.first;omega,s,fun i hi h=>Dc ok hi h⟩
theorem Gr.NX{x:Gr}(ok:x.Ok)(s:eQ x.first x.ands):gb x.first x.aE x.ands x.ands.length (c_ x.first x.aE x.ands 0 [] (ids x.first)).1 (c_ x.first x.aE x.ands 0 [] (ids x.first)).2:=by
 have:=DC (Gr.Ns ok s) x.ands.length 0 [] (ids x.first) (by omega) gb.zero;rw[dV]at this;exact this
theorem vL(g:Gr)(r:List (Int×Int)×List Nat):(g.dv r).first=g.first:=by simp[Gr.first,Gr.dv]
theorem ZF{g:Gr}{r:List (Int×Int)×List Nat}{a:Int}(h:a∈g.next++g.outs):((aX r.2 a.toNat:Nat):Int)∈(g.dv r).next++(g.dv r).outs:=by
 simp only[Gr.dv,ba,db,cd]at h⊢
 rcases h with h|h
 ·exact .inl ⟨_,⟨a,h,rfl⟩,rfl⟩
 ·exact .inr ⟨_,⟨a,h,rfl⟩,rfl⟩
theorem Yy{x:Gr}(ok:x.Ok)(s:eQ x.first x.ands):∀j,j<x.dR.ands.length->x.dR.aE.getD (x.first+j) false=true:=by
 have I:=Gr.NX ok s;have wT:=(Mh ok).1
 have key:∀n,x.aE.getD n false=true->x.aE.getD n false=true/\x.dR.aE.getD ((c_ x.first x.aE x.ands 0 [] (ids x.first)).2.getD n 0/2) false=true:=by
  refine Zy _ (fun a ha=>⟨Ec ok ha,?_⟩) (fun i hi h=>?_)
  ·have:=Ec wT (ZF (r:=c_ x.first x.aE x.ands 0 [] (ids x.first)) ha);rw[cZ,K6]at this;exact this
  ·obtain⟨h1,h2⟩:=h;obtain⟨j,hj,e1,e2⟩:=I.at_ i hi hi h1;have hc:=Dc ok hi h1;have hj2:j<x.dR.ands.length:=hj
   have e3:x.dR.ands[j]=gI (c_ x.first x.aE x.ands 0 [] (ids x.first)).2 x.ands[i]:=by
    have:x.dR.ands[j]? =some (gI (c_ x.first x.aE x.ands 0 [] (ids x.first)).2 x.ands[i]):=e2;rw[a_ hj2]at this;exact Option.some.inj this
   rw[e1,show 2*(x.first+j)/2=x.first+j by omega]at h2;have h4:=Dc wT hj2 (by rw[show x.dR.first=x.first from vL _ _];exact h2);rw[e3]at h4;simp only[gI,cZ,K6]at h4;exact⟨⟨hc.1,h4.1⟩,hc.2,h4.2⟩
 intro j hj;obtain⟨k,hk,lk,e⟩:=I.A0 j hj;have:=(key _ lk).2;rw[e,show 2*(x.first+j)/2=x.first+j by omega]at this;exact this
theorem WG{g:Gr}(ok:g.Ok)(s:eQ g.first g.ands)(h:∀i,i<g.ands.length->g.aE.getD (g.first+i) false=true):g.strict=true:=by
 simp only[Gr.strict,aC,a8,je];refine⟨Gr.rC ok,ji.2 fun i hi=>?_⟩;have hi:=dw.1 hi;obtain⟨p,q,e,s1,s2,s3,s4⟩:=s.at_ i hi;have hn:=Df s.nd hi;have hh:=h i hi;unfold Gr.A1;rw[getD_at hi,hh];rw[e]at hn⊢;simp[hn];omega
theorem xO{g:Gr}(h:g.check=0):g.normal.strict=true/\g.normal.check=0/\g.normal.ands.length<=g.ands.length:=by
 have ok:=Gr.lH h;obtain⟨o1,s1,l1⟩:=Ae ok
 have hf:g.cI.first=g.first:=vL _ _
 obtain⟨o2,s2,l2⟩:=Mh o1
 have e:g.normal=g.cI.dR:=by unfold Gr.normal;rw[if_pos h]
 rw[e]
 have hf2:g.cI.dR.first=g.cI.first:=vL _ _
 refine⟨WG o2 (by rw[hf2];exact s2) ?_,Gr.rC o2,by omega⟩;rw[hf2];exact Yy o1 (by rw[hf];exact s1)
end Go.Proofs.YtchjijfjidlpjaaGreatDoor
