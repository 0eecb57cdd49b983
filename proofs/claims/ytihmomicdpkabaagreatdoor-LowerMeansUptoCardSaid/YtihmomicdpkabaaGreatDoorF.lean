/- A list's elements' size. -/
import Derived.Test.YtihmomicdpkabaaGreatDoorAMd
import Derived.Test.YtihmomicdpkabaaGreatDoorCode
set_option linter.unusedSimpArgs false
set_option linter.unusedVariables false
namespace Go.Proofs.YtihmomicdpkabaaGreatDoor
open Go.AM Go.Proofs
def Kd(n k:Nat){α:Type}(l:List α):Prop:=k=n\/l=[]
theorem Kd.of{n k:Nat}{α:Type}{l:List α}(h:Kd n k l){i:Nat}(hi:i<l.length):k=n:=by
 rcases h with h|h
 ·exact h
 ·subst h;simp at hi
theorem Kd.self{n:Nat}{α:Type}{l:List α}:Kd n n l:=.inl rfl
theorem Kd.nil{n k:Nat}{α:Type}:Kd n k ([]:List α):=.inr rfl
@[simp] abbrev i64(n:Int):AV:=.int .i64 n
abbrev iN(n:Nat):AV:=.int .i64 (n:Int)
end Go.Proofs.YtihmomicdpkabaaGreatDoor
namespace Go.Proofs.YtihmomicdpkabaaGreatDoor
open Go.AM Go.Proofs
variable{Γ:Nat->Option AV}
theorem Kf(a b:List Bool){ka kb:Nat}(ha:Kd 1 ka a)(hb:Kd 1 kb b)(hs:a.length<2^60):aL Tryz.prog Γ tt [.list false ka (a.map .bool),.list false kb (b.map .bool)] (.bool (decide (a=b))):=by
 refine .run 60 Xl (by simp) ?_
 by_cases hl:a.length=b.length
 ·have key:∀n i:Nat,i+n=a.length->aw Tryz.prog Γ (ydK (.list false ka (a.map .bool)) (.list false kb (b.map .bool)) (.int .i64 i) []) (.ret (.bool (decide (a.drop i=b.drop i)))):=by
   intro n
   induction n with
   |zero=>
    intro i hi;refine .go 60 ?_
    have h1:¬i<a.length:=by omega
    have h2:a.drop i=b.drop i:=by rw[bw (by omega),bw (by omega)]
    simp[h1,h2];exact .back (by simp)
   |succ n ih=>
    intro i hi
    have h1:i<a.length:=by omega
    have h2:i<b.length:=by omega
    obtain rfl:=ha.of h1;obtain rfl:=hb.of h2;have h4:=drop_eq h1 h2;refine .go 60 ?_
    by_cases h3:a[i]=b[i]
    ·simp(disch:=omega) [h1,h2,h3,h4];refine .aH ?_;simpa using ih (i+1) (by omega)
    ·simp(disch:=omega) [h1,h2,h3,h4];exact .back (by simp)
  simp[hl];refine .inLoop ?_;simpa[hl]using key a.length 0 (by omega)
 ·have h2:¬a=b:=fun e=>hl (by rw[e])
  simp[hl,h2];exact .back (by simp)
theorem Dm(a b:List Int){ka kb:Nat}(ha:Kd 1 ka a)(hb:Kd 1 kb b)(hs:a.length<2^60):aL Tryz.prog Γ qY [.list false ka (a.map i64),.list false kb (b.map i64)] (.bool (decide (a=b))):=by
 refine .run 60 Ud (by simp) ?_
 by_cases hl:a.length=b.length
 ·have key:∀n i:Nat,i+n=a.length->aw Tryz.prog Γ (ylI (.list false ka (a.map i64)) (.list false kb (b.map i64)) (.int .i64 a.length) (.int .i64 i) []) (.ret (.bool (decide (a.drop i=b.drop i)))):=by
   intro n
   induction n with
   |zero=>
    intro i hi;refine .go 60 ?_
    have h1:¬i<a.length:=by omega
    have h2:a.drop i=b.drop i:=by rw[bw (by omega),bw (by omega)]
    simp[h1,h2];exact .back (by simp)
   |succ n ih=>
    intro i hi
    have h1:i<a.length:=by omega
    have h2:i<b.length:=by omega
    obtain rfl:=ha.of h1;obtain rfl:=hb.of h2;have h4:=drop_eq h1 h2;refine .go 60 ?_
    by_cases h3:a[i]=b[i]
    ·simp(disch:=omega) [h1,h2,h3,h4];refine .aH ?_;simpa using ih (i+1) (by omega)
    ·simp(disch:=omega) [h1,h2,h3,h4];exact .back (by simp)
  simp[hl];refine .inLoop ?_;simpa[hl]using key a.length 0 (by omega)
 ·have h2:¬a=b:=fun e=>hl (by rw[e])
  simp[hl,h2];exact .back (by simp)
theorem Vk{φ:List Ob->Prop}{f:FuncId}{caps:List AV}{p:Int->Bool}{l:List Int}{k:Nat}{fl:Bool}(ha:ij Tryz.prog Γ φ f caps i64 p l)(hk:Kd 1 k l)(hs:l.length<2^60){h:List Ob}(hφ:φ h):
 ∀up,AM.Reach Tryz.prog Γ (.cl vv [.list fl k (l.map i64),.fn (.func f) [] caps] up h) (.back up (.int .i64 (eB p l 0)) h):=by
 intro up
 have key:∀n i:Nat,i+n=l.length->AM.Reach Tryz.prog Γ (ywT (.list fl k (l.map i64)) (.fn (.func f) [] caps) (.int .i64 l.length) (.int .i64 i) h ⟨[],.norm,h.length,up⟩) (.back up (.int .i64 (eB p (l.drop i) i)) h):=by
  intro n
  induction n with
  |zero=>
   intro i hi
   have h1:¬i<l.length:=by omega
   refine .aU 60 ?_;rw[bw (by omega)];simp[h1,eB]
  |succ n ih=>
   intro i hi
   have h1:i<l.length:=by omega
   obtain rfl:=hk.of h1;have h2:=ha.2 l[i] (bz h1);rw[bQ h1,eB];have hh:=ih (i+1) (by omega);refine .aU 60 ?_;simp[h1,ha.1];refine .aX 60 (fun up=>h2 up h hφ) ?_
   cases hp:p l[i]with
   |true=>simp(disch:=omega) [hp]
   |false=>
    simp(disch:=omega) [hp];refine .aH ?_;simp at hh⊢;exact hh
 refine .br 60 T5 ?_;simp;refine .inLoop ?_;have hh:=key l.length 0 (by omega);simp at hh⊢;exact hh
theorem Du{φ:List Ob->Prop}{f:FuncId}{caps:List AV}{p:Int->Bool}{l:List Int}{k:Nat}{fl:Bool}(ha:ij Tryz.prog Γ φ f caps i64 p l)(hk:Kd 1 k l)(hs:l.length<2^60){h:List Ob}(hφ:φ h):
 ∀up,AM.Reach Tryz.prog Γ (.cl sP [.list fl k (l.map i64),.fn (.func f) [] caps] up h) (.back up (.bool (bt p l)) h):=by
 intro up;refine .br 60 TN ?_;simp;refine .aX 60 (Vk ha hk hs hφ) ?_;have h1:=A4 p l 0
 cases hp:bt p l with
 |true=>rw[hp]at h1;simp at h1;simp[h1]
 |false=>
  rw[hp]at h1
  have h2:¬0<=eB p l 0:=by rw[h1];simp
  simp[h2]
structure Gr where
 ins:Int
 next:List Int
 init:List Int
 ands:List (Int×Int)
 outs:List Int
 kn:Nat
 ki:Nat
 ka:Nat
 ko:Nat
 hn:Kd 1 kn next
 hi:Kd 1 ki init
 ha:Kd 2 ka ands
 ho:Kd 1 ko outs
abbrev df(p:Int×Int):AV:=.agg [.int .i64 p.1,.int .i64 p.2]
abbrev eN(g:Gr):AV:=.agg [.int .i64 g.ins,.list false g.kn (g.next.map i64),.list false g.ki (g.init.map i64),.list false g.ka (g.ands.map df),.list false g.ko (g.outs.map i64)]
def Gr.iK(g:Gr):Prop:=g.next.length<2^40/\g.init.length<2^40/\g.ands.length<2^40/\g.outs.length<2^40
def eo(n:Int)(a:Int):Bool:=decide (a<0)||decide (n<=a)
def sm(a:Int):Bool:=decide (a<0)||decide (2<a)
def ng:List (Int×Int)->Nat->Bool
 |[],_=>false
 |p::ps,n=>eo (2*n) p.1||eo (2*n) p.2||ng ps (n+1)
def Gr.first(g:Gr):Nat:=1+g.ins.toNat+g.next.length
def Gr.all(g:Gr):Nat:=g.first+g.ands.length
def Gr.lits(g:Gr):Nat:=2*g.all
def Gr.lR(g:Gr):Bool:=decide (g.ins<0)||decide (4000<g.ins)||decide (4000<g.ins+g.next.length+g.ands.length)||decide (4000<g.outs.length)
def Gr.check(g:Gr):Int:=
 if g.lR=true then 8 else if(!decide (g.init.length=g.next.length)||bt sm g.init||bt (eo g.lits) g.next||bt (eo g.lits) g.outs||ng g.ands g.first)=true then 1 else 0
theorem OR{g:Gr}(h:g.lR=false):0<=g.ins/\g.ins<=4000/\g.ins+g.next.length+g.ands.length<=4000/\g.outs.length<=4000:=by
 simp only[Gr.lR,jQ,jn]at h;omega
theorem p1(g:Gr)(h0:0<=g.ins)(h1:g.ins<=4000)(h2:g.next.length<=4000):aL Tryz.prog Γ lj [eN g] (.int .i64 g.first):=by
 refine .run 60 J6 (by simp) ?_
 have e1:1+g.ins+(g.next.length:Int)=(g.first:Int):=by unfold Gr.first;omega
 simp(disch:=omega) [e1];exact .back (by simp)
theorem Pu(i:Nat)(all:Nat)(l:List Int):ij Tryz.prog Γ (fun h=>h[i]? =some (.cells [.int .i64 all])) zE [.ptr i 0] i64 (eo all) l:=by
 refine⟨by simp,fun x _ up h hφ=>?_⟩;refine .br 60 VY ?_;unfold eo
 by_cases h1:x<0
 ·simp[hφ,h1]
 ·simp[hφ,h1]
theorem ad3(l:List Int):ij Tryz.prog Γ (fun _=>True) zJ [] i64 sm l:=by
 refine⟨by simp,fun x _ up h hφ=>?_⟩;refine .br 60 VU ?_;unfold sm
 by_cases h1:x<0
 ·simp[h1]
 ·simp[h1]
theorem XY{l:List (Int×Int)}{i:Nat}(h:i<l.length)(n:Nat):ng (l.drop i) n=(eo (2*n) l[i].1||eo (2*n) l[i].2||ng (l.drop (i+1)) (n+1)):=by
 rw[bQ h,ng]
set_option maxRecDepth 8000 in
theorem rk(g:Gr)(hf:g.iK):aL Tryz.prog Γ oD [eN g] (.int .i64 g.check):=by
 obtain⟨f1,f2,f3,f4⟩:=hf;refine .run 60 Xw (by simp) ?_;unfold Gr.check
 cases hl:g.lR with
 |true=>
  simp only[cy];unfold Gr.lR at hl
  by_cases c1:g.ins<0
  ·simp[c1];exact .back (by simp)
  by_cases c2:4000<g.ins
  ·simp[c1,c2];exact .back (by simp)
  by_cases c3:4000<g.ins+g.next.length+g.ands.length
  ·simp(disch:=omega) [c1,c2,c3];exact .back (by simp)
  have c4:(4000:Int)<g.outs.length:=by
   simp only[c1,c2,c3,mR,nz,bf]at hl;omega
  simp(disch:=omega) [c1,c2,c3,c4];exact .back (by simp)
 |false=>
  obtain⟨l1,l2,l3,l4⟩:=OR hl
  have c1:¬g.ins<0:=by omega
  have c2:¬4000<g.ins:=by omega
  have c3:¬4000<g.ins+g.next.length+g.ands.length:=by omega
  have c4:¬(4000:Int)<g.outs.length:=by omega
  have hpf:=p1 (Γ:=Γ) g l1 l2 (by omega)
  have e1:(g.first:Int)+g.ands.length=g.all:=by unfold Gr.all;omega
  have e2:2*(g.all:Int)=g.lits:=by unfold Gr.lits;omega
  have hfl:g.first<=8001:=by unfold Gr.first;omega
  have hal:g.all<=12001:=by unfold Gr.all;omega
  simp(disch:=omega) [c1,c2,c3,c4];refine .dr 60 ?_;simp;refine .quiet hpf (fun _=>rfl) (by simp) ?_;simp(disch:=omega) [e1,e2]
  by_cases d1:g.init.length=g.next.length
  ·simp[d1];refine .aX 60 (Du (ad3 g.init) g.hi (by omega) (by trivial)) ?_
   cases d2:bt sm g.init with
   |true=>simp;exact .back (by simp)
   |false=>
    simp;refine .aX 60 (Du (Pu 1 g.lits g.next) g.hn (by omega) (by simp)) ?_
    cases d3:bt (eo g.lits) g.next with
    |true=>simp;exact .back (by simp)
    |false=>
     simp;refine .aX 60 (Du (Pu 1 g.lits g.outs) g.ho (by omega) (by simp)) ?_
     cases d4:bt (eo g.lits) g.outs with
     |true=>simp;exact .back (by simp)
     |false=>
      simp;refine .inLoop ?_;simp
      have key:∀n i:Nat,i+n=g.ands.length->aw Tryz.prog Γ (yiQ (.ptr 0 0) (.list false g.ka (g.ands.map df)) (.int .i64 g.ands.length) (.int .i64 i)
       [.cells [.int .i64 g.ins,.list false g.kn (g.next.map i64),.list false g.ki (g.init.map i64),.list false g.ka (g.ands.map df),.list false g.ko (g.outs.map i64)],.cells [.int .i64 g.lits]]) (.ret (.int .i64 (if ng (g.ands.drop i) (g.first+i)=true then 1 else 0))):=by
       intro n
       induction n with
       |zero=>
        intro i hi
        have q1:¬i<g.ands.length:=by omega
        refine .go 60 ?_;rw[bw (by omega)];simp[q1,ng];exact .back (by simp)
       |succ n ih=>
        intro i hi
        have q1:i<g.ands.length:=by omega
        have q2:=bY (g.ha.of q1);have hh:=ih (i+1) (by omega)
        have q3:2*((g.first:Int)+i)=((2*(g.first+i):Nat):Int):=by omega
        rw[XY q1];unfold eo;refine .go 60 ?_;simp(disch:=omega) [q1,q2];refine .call 60 (by simp) hpf ?_
        by_cases r1:g.ands[i].1<0
        ·simp(disch:=omega) [r1];exact .back (by simp)
        by_cases r2:g.ands[i].2<0
        ·simp(disch:=omega) [r1,r2];exact .back (by simp)
        by_cases r3:2*((g.first:Int)+i)<=g.ands[i].1
        ·simp(disch:=omega) [r1,r2,r3];exact .back (by simp)
        by_cases r4:2*((g.first:Int)+i)<=g.ands[i].2
        ·simp(disch:=omega) [r1,r2,r3,r4];exact .back (by simp)
        simp(disch:=omega) [r1,r2,r3,r4];refine .aH ?_;simp;refine .drop 2 rfl (by simp) (by simp) (by simp) ?_;simp at hh⊢;rw[show g.first+(i+1)=g.first+i+1 by omega]at hh;exact hh
      have hh:=key g.ands.length 0 (by omega);simp at hh⊢;exact hh
  ·simp[d1];exact .back (by simp)
def bF(v:List Bool)(a:Nat):Bool:=v.getD (a/2) false !=decide (a%2=1)
theorem acE{v:List Bool}{a:Nat}(h:a/2<v.length):bF v a=!decide (v[a/2]=decide (a%2=1)):=by
 unfold bF;rw[bp,bl h]
 cases v[a/2]<;>by_cases h1:a%2=1<;>simp[h1]
theorem DX(v:List Bool)(a:Nat)(h:a/2<v.length)(ha:a<2^40):aL Tryz.prog Γ tu [.list false 1 (v.map .bool),.int .i64 a] (.bool (bF v a)):=by
 refine .run 60 XA (by simp) ?_;rw[acE h]
 have h2:((a%2:Nat):Int)=1↔a%2=1:=by omega
 have h3:((a/2:Nat):Int)<v.length:=by omega
 simp(disch:=omega) [-Int.natCast_ediv,-Int.natCast_emod,h,h2,h3];exact .back (by simp)
abbrev nS(x:Nat×List Bool):AV:=.list false x.1 (x.2.map AV.bool)
def cE:List (Nat×List Bool)->List Bool
 |[]=>[]
 |x::xs=>x.2++cE xs
theorem Kl(a b:List (Nat×List Bool)):cE (a++b)=cE a++cE b:=by
 induction a with
 |nil=>rfl
 |cons x a ih=>simp[cE,ih]
theorem Lm(xs:List (Nat×List Bool))(i:Nat)(h:i<xs.length):cE (xs.take (i+1))=cE (xs.take i)++xs[i].2:=by
 rw[gC h,Kl];simp[cE]
theorem NB(xs:List (Nat×List Bool))(i:Nat):(cE (xs.take i)).length<=(cE xs).length:=by
 conv=>rhs;rw[<-lU i xs,Kl]
 simp
set_option maxRecDepth 8000 in
theorem Jr(xs:List (Nat×List Bool))(hk:∀x∈xs,Kd 1 x.1 x.2)(hn:xs.length<2^40)(hs:(cE xs).length<2^40)(hp:0<(cE xs).length):
 aL Tryz.prog Γ ou [.list false 1 (xs.map nS)] (.own 1 aZ ((cE xs).map AV.bool)):=by
 refine .run 60 Jq (by simp) ?_
 have key2:∀n i:Nat,i+n=xs.length->∀m:Nat,(cE (xs.take i)).length+m=(cE xs).length->
  aw Tryz.prog Γ (SU (.sl 2 0 (cE (xs.take i)).length) (.list false 1 (xs.map nS)) (.int .i64 xs.length) (.int .i64 i) [.row 1 aZ [] none true false,.row 1 aZ [] none true false,.row 1 aZ ((cE (xs.take i)).map AV.bool++List.replicate m (AV.bool false)) none true false])
   (.ret (.own 1 aZ ((cE xs).map AV.bool))):=by
  intro n
  induction n with
  |zero=>
   intro i hi m hm
   have q1:¬i<xs.length:=by omega
   have q2:xs.take i=xs:=cd (by omega);rw[q2]at hm⊢
   have hm0:m=0:=by omega
   subst hm0;refine .go 60 ?_;simp[q1];exact .back (by simp)
  |succ n ih=>
   intro i hi m hm
   have q1:i<xs.length:=by omega
   have q2:=Lm xs i q1;have q3:=NB xs (i+1);rw[q2,bN]at q3;have q4:=hk xs[i] (bz q1);have q5:xs[i].1=1\/xs[i].2=[]:=q4;have hh:=ih (i+1) (by omega) (m-xs[i].2.length) (by rw[q2,bN];omega);rw[q2]at hh
   have hd:(List.replicate m (AV.bool false)).drop xs[i].2.length=List.replicate (m-xs[i].2.length) (AV.bool false):=by simp
   refine .go 60 ?_
   by_cases q6:(cE (xs.take i)).length=(cE xs).length
   ·have q7:xs[i].2=[]:=kh.1 (by omega)
    have hm0:m=0:=by omega
    subst hm0;simp[q7]at hh;simp(disch:=(first|omega|(simp;omega))) [q1,q5,q7];refine .aH ?_;simp;exact hh
   ·simp(disch:=(first|omega|(simp;omega))) [q1,q5]
    by_cases q7:m=0
    ·omega
    ·have c1:¬(cE (List.take i xs)).length=(cE (List.take i xs)).length+m:=by omega
     have c2:(cE (List.take i xs)).length+xs[i].snd.length<=(cE (List.take i xs)).length+m:=by omega
     simp(disch:=(first|omega|(simp;omega))) [q1,q5,c1,c2,q7];refine .aH ?_;have mL:((cE (xs.take i)).map AV.bool).drop ((cE (xs.take i)).length+xs[i].2.length)=[]:=bw (by simp);simp[sE,hd,mL]at hh⊢;exact hh
 have key1:∀n i:Nat,i+n=xs.length->
  aw Tryz.prog Γ (Sr (.list false 1 (xs.map nS)) (.int .i64 (cE (xs.take i)).length) (.list false 1 (xs.map nS)) (.int .i64 xs.length) (.int .i64 i) [.row 1 aZ [] none true false])
   (.ret (.own 1 aZ ((cE xs).map AV.bool))):=by
  intro n
  induction n with
  |zero=>
   intro i hi
   have q1:¬i<xs.length:=by omega
   have q2:xs.take i=xs:=cd (by omega);have q3:0<(cE xs).length:=hp;have hh:=key2 xs.length 0 (by omega) (cE xs).length (by simp[cE]);refine .go 60 ?_;rw[q2];simp[q1];refine .enter 60 Jt ?_
   have q4:¬(cE xs).length=0:=by omega
   have q5:cE xs≠[]:=fun e=>by rw[e]at hp;simp at hp
   obtain⟨m,hm⟩:∃m,(cE xs).length=m+1:=⟨(cE xs).length-1,by omega⟩
   have hrep:List.replicate (cE xs).length (AV.bool false)=(AV.bool false)::List.replicate m (AV.bool false):=by rw[hm];rfl
   simp(disch:=(first|omega|(simp;omega))) [q3,q4,q5,hrep];refine .inLoop ?_;simp[cE,hrep]at hh⊢;exact hh
  |succ n ih=>
   intro i hi
   have q1:i<xs.length:=by omega
   have q2:=Lm xs i q1;have q3:=NB xs (i+1);rw[q2,bN]at q3;have hh:=ih (i+1) (by omega);rw[q2]at hh;refine .go 60 ?_
   have q4:¬((cE (xs.take i)).length:Int)+xs[i].2.length<0:=by omega
   simp(disch:=(first|omega|(simp;omega))) [q1,q4];refine .aH ?_;simp at hh⊢;exact hh
 simp;refine .inLoop ?_;have hh:=key1 xs.length 0 (by omega);simp[cE]at hh⊢;exact hh
set_option maxRecDepth 8000 in
theorem TJ(xs:List (Nat×List Bool))(hx:∀x∈xs,x.2=[])(hn:xs.length<2^40):
 aL Tryz.prog Γ ou [.list false 1 (xs.map nS)] (.own 1 aZ []):=by
 refine .run 60 Jq (by simp) ?_
 have key2:∀n i:Nat,i+n=xs.length->aw Tryz.prog Γ (SU (.list true 0 []) (.list false 1 (xs.map nS)) (.int .i64 xs.length) (.int .i64 i) [.row 1 aZ [] none true false,.row 1 aZ [] none true false])
  (.ret (.own 1 aZ [])):=by
  intro n
  induction n with
  |zero=>
   intro i hi
   have q1:¬i<xs.length:=by omega
   refine .oS 6 1 aZ rfl (by omega) ?_;refine .go 60 ?_;simp[q1];exact .back (by simp)
  |succ n ih=>
   intro i hi
   have q1:i<xs.length:=by omega
   have q7:=hx xs[i] (bz q1);have hh:=ih (i+1) (by omega);refine .go 60 ?_;simp(disch:=(first|omega|(simp;omega))) [q1,q7];refine .aH ?_;simp at hh⊢;exact hh
 have key:∀n i:Nat,i+n=xs.length->aw Tryz.prog Γ (Sr (.list false 1 (xs.map nS)) (.int .i64 0) (.list false 1 (xs.map nS)) (.int .i64 xs.length) (.int .i64 i) [.row 1 aZ [] none true false])
  (.ret (.own 1 aZ [])):=by
  intro n
  induction n with
  |zero=>
   intro i hi
   have q1:¬i<xs.length:=by omega
   refine .go 60 ?_;simp[q1];refine .enter 60 Jt ?_;simp;refine .inLoop ?_;have hh:=key2 xs.length 0 (by omega);simp at hh⊢;exact hh
  |succ n ih=>
   intro i hi
   have q1:i<xs.length:=by omega
   have q7:=hx xs[i] (bz q1);have hh:=ih (i+1) (by omega);refine .go 60 ?_;simp(disch:=(first|omega|(simp;omega))) [q1,q7];refine .aH ?_;simp at hh⊢;exact hh
 simp;refine .inLoop ?_;have hh:=key xs.length 0 (by omega);simp at hh⊢;exact hh
theorem aa1{l:List (Int×Int)}{n:Nat}(h:ng l n=false):∀i(hi:i<l.length),(0<=l[i].1/\l[i].1<2*(n+i))/\0<=l[i].2/\l[i].2<2*(n+i):=by
 induction l generalizing n with
 |nil=>intro i hi;simp at hi
 |cons p l ih=>
  simp only[ng,jQ,eo,jn]at h;intro i hi
  cases i with
  |zero=>simp;omega
  |succ i=>
   have:=ih h.2 i (by simpa using hi);simp at this⊢;omega
structure Gr.Ok(g:Gr):Prop where
 ins:0<=g.ins/\g.ins<=4000
 sum:g.ins+g.next.length+g.ands.length<=4000
 lF:g.outs.length<=4000
 same:g.init.length=g.next.length
 init:∀a∈g.init,0<=a/\a<=2
 next:∀a∈g.next,0<=a/\a<g.lits
 outs:∀a∈g.outs,0<=a/\a<g.lits
 ands:∀i(hi:i<g.ands.length),(0<=g.ands[i].1/\g.ands[i].1<2*(g.first+i))/\0<=g.ands[i].2/\g.ands[i].2<2*(g.first+i)
theorem Gr.qn{g:Gr}(h:g.check=0):g.Ok:=by
 unfold Gr.check at h
 split at h
 ·simp at h
 ·rename_i hl;have hl:=OR (by simpa using hl)
  split at h
  ·simp at h
  ·rename_i hb;simp only[Bool.not_eq_true,jQ,Tn,bf]at hb;obtain⟨⟨⟨⟨b1,b2⟩,b3⟩,b4⟩,b5⟩:=hb;refine⟨⟨hl.1,hl.2.1⟩,hl.2.2.1,hl.2.2.2,b1,?_,?_,?_,aa1 b5⟩
   ·intro a ha;have:=m5.1 b2 a ha;simp[sm]at this;omega
   ·intro a ha;have:=m5.1 b3 a ha;simp[eo]at this;omega
   ·intro a ha;have:=m5.1 b4 a ha;simp[eo]at this;omega
def bK:List (Int×Int)->List Bool->List Bool
 |[],v=>v
 |p::ps,v=>bK ps (v++[bF v p.1.toNat&&bF v p.2.toNat])
theorem rA:∀(l:List (Int×Int))(v:List Bool),(bK l v).length=v.length+l.length
 |[],v=>by simp[bK]
 |p::ps,v=>by rw[bK,rA ps];simp;omega
theorem tg:∀(a b:List (Int×Int))(v:List Bool),bK (a++b) v=bK b (bK a v)
 |[],b,v=>rfl
 |p::ps,b,v=>by rw[eO,bK,bK,tg ps]
def Gr.j_(g:Gr)(state ins:List Bool):List Bool:=bK g.ands (false::(ins++state))
def Gr.fits(g:Gr)(state ins:List Bool):Bool:=decide (state.length=g.next.length)&&decide ((ins.length:Int)=g.ins)
def Gr.eu(g:Gr)(state ins:List Bool):Int:=if g.check≠0 then g.check else if g.fits state ins=true then 0 else 11
def Gr.values(g:Gr)(state ins:List Bool):List Bool:=if g.eu state ins=0 then g.j_ state ins else[]
theorem Yi{g:Gr}{i:Nat}(h:i<g.ands.length)(v:List Bool):bK (g.ands.take (i+1)) v=bK (g.ands.take i) v++[bF (bK (g.ands.take i) v) g.ands[i].1.toNat&&bF (bK (g.ands.take i) v) g.ands[i].2.toNat]:=by
 rw[gC h,tg];rfl
set_option maxRecDepth 8000 in
theorem Wz(g:Gr)(hf:g.iK)(state ins:List Bool){ks ki:Nat}(hs:Kd 1 ks state)(hi:Kd 1 ki ins)(hl1:state.length<2^40)(hl2:ins.length<2^40):
 aL Tryz.prog Γ vO [eN g,.list false ks (state.map .bool),.list false ki (ins.map .bool)] (.aB [.own 1 aZ ((g.values state ins).map .bool),.int .i64 (g.eu state ins)]):=by
 refine .run 60 WM (by simp) ?_;simp;refine .call 60 (by simp) (rk g hf) ?_;unfold Gr.values Gr.eu
 by_cases hc:g.check=0
 ·obtain ok:=Gr.qn hc;obtain⟨o1,o2⟩:=ok.ins;have o3:=ok.sum
  by_cases d1:state.length=g.next.length
  ·by_cases d2:(ins.length:Int)=g.ins
   ·have hcat:cE [(1,[false]),(ki,ins),(ks,state)]=false::(ins++state):=by simp[cE]
    have hcc:=Jr (Γ:=Γ) [(1,[false]),(ki,ins),(ks,state)] (by simp;exact⟨.inl rfl,hi,hs⟩) (by simp) (by rw[hcat];simp;omega) (by rw[hcat];simp);rw[hcat]at hcc
    have hfit:g.fits state ins=true:=by simp[Gr.fits,d1,d2]
    have key:∀n i:Nat,i+n=g.ands.length->∀v:List Bool,v=bK (g.ands.take i) (false::(ins++state))->
     aw Tryz.prog Γ (ykP (.sl 2 0 v.length) (.list false g.ka (g.ands.map df)) (.int .i64 g.ands.length) (.int .i64 i)
      [.cells [.int .i64 g.ins,.list false g.kn (g.next.map i64),.list false g.ki (g.init.map i64),.list false g.ka (g.ands.map df),.list false g.ko (g.outs.map i64)],.row 1 aZ [] none true false,.row 1 aZ (v.map .bool) none true false])
      (.ret (.aB [.own 1 aZ ((g.j_ state ins).map .bool),.int .i64 0])):=by
     intro n
     induction n with
     |zero=>
      intro i hi v hv
      have q1:¬i<g.ands.length:=by omega
      have q2:g.ands.take i=g.ands:=cd (by omega);rw[q2]at hv;have q3:g.j_ state ins=v:=hv.symm;rw[q3];refine .go 60 ?_;simp[q1];exact .back (by simp)
     |succ n ih=>
      intro i hi v hv
      have q1:i<g.ands.length:=by omega
      have q2:=bY (g.ha.of q1)
      have hlen:v.length=g.first+i:=by
       rw[hv,rA,fW];simp[Gr.first];omega
      have hfi:g.first<=4001:=by unfold Gr.first;omega
      obtain⟨⟨a1,a2⟩,a3,a4⟩:=ok.ands i q1;obtain⟨x,hx⟩:=kp a1;obtain⟨y,hy⟩:=kp a3;have hvx:=DX (Γ:=Γ) v x (by omega) (by omega);have hvy:=DX (Γ:=Γ) v y (by omega) (by omega);have hh:=ih (i+1) (by omega) _ rfl;rw[Yi q1,<-hv,hx,hy]at hh;simp only[fV]at hh;refine .go 60 ?_;simp(disch:=omega) [q1,q2,hx,hy];refine .call 60 (by simp) hvx ?_
      cases b1:bF v x with
      |true=>
       simp(disch:=omega) [q1,q2,hx,hy];refine .call 60 (by simp) hvy ?_;simp(disch:=(first|omega|(simp;omega))) [q1,q2,hx,hy];refine .aH ?_;simp;refine .drop 3 rfl (by simp) (by simp) (by simp) ?_;refine .reset (i:=2) rfl (by simp) (by simp) (by simp) ?_;simp[b1]at hh⊢;exact hh
      |false=>
       simp(disch:=(first|omega|(simp;omega))) [q1,q2,hx,hy];refine .aH ?_;simp;refine .drop 3 rfl (by simp) (by simp) (by simp) ?_;refine .reset (i:=2) rfl (by simp) (by simp) (by simp) ?_;simp[b1]at hh⊢;exact hh
    simp[hc,d1,d2,hfit];refine .call 60 (by simp) hcc ?_;simp;refine .inLoop ?_;have hh:=key g.ands.length 0 (by omega) (false::(ins++state)) (by simp[bK]);simp at hh⊢;exact hh
   ·have hfit:g.fits state ins=false:=by simp[Gr.fits,d1,d2]
    simp[hc,d1,d2,hfit];exact .back (by simp)
  ·have hfit:g.fits state ins=false:=by simp[Gr.fits,d1]
   simp[hc,d1,hfit];exact .back (by simp)
 ·simp[hc];exact .back (by simp[hc])
def j4(v:List Bool)(l:List Int):List Bool:=l.map fun a=>bF v a.toNat
@[simp] theorem ayu(v:List Bool)(l:List Int):(j4 v l).length=l.length:=by simp[j4]
theorem Yl{v:List Bool}{l:List Int}{i:Nat}(h:i<l.length):j4 v (l.take (i+1))=j4 v (l.take i)++[bF v l[i].toNat]:=by
 rw[gC h];simp only[j4,iQ,b_,ld]
set_option maxRecDepth 8000 in
theorem JP(v:List Bool)(l:List Int){k:Nat}(hk:Kd 1 k l)(hs:l.length<2^40)(hvl:v.length<2^38)(i r:Nat){h:List Ob}(hi:h[i]? =some (.cells [.sl r 0 v.length]))(hr:h[r]? =some (.row 1 aZ (v.map .bool) none true false))
 (hv:∀m,cH (h.length+1) m h=true)(hl:∀a∈l,0<=a/\a<2*v.length):
 ∀up,AM.Reach Tryz.prog Γ (.cl vQ [.list false k (l.map i64),.ptr i 0] up h) (.back up (.sl (h.length+1) 0 l.length) (h++[.row 1 aZ [] none true false,.row 1 aZ ((j4 v l).map .bool) none true false])):=by
 intro up
 have hi':∀os,(h++os)[i]? =some (.cells [.sl r 0 v.length]):=fun os=>dJ hi os
 have hr':∀os,(h++os)[r]? =some (.row 1 aZ (v.map .bool) none true false):=fun os=>dJ hr os
 have key:∀n j:Nat,j+n=l.length->∀w,w=j4 v (l.take j)->AM.Reach Tryz.prog Γ (yle (.ptr i 0) (.sl (h.length+1) 0 w.length) (.list false k (l.map i64)) (.int .i64 l.length) (.int .i64 j)
  (h++[.row 1 aZ [] none true false,.row 1 aZ (w.map .bool) none true false]) ⟨[],.norm,h.length,up⟩) (.back up (.sl (h.length+1) 0 l.length) (h++[.row 1 aZ [] none true false,.row 1 aZ ((j4 v l).map .bool) none true false])):=by
  intro n
  induction n with
  |zero=>
   intro j hj w hw
   have q1:¬j<l.length:=by omega
   rw[cd (by omega)]at hw;subst hw;refine .aU 60 ?_;simp[q1]
  |succ n ih=>
   intro j hj w hw
   have q1:j<l.length:=by omega
   have q2:=bY (hk.of q1);obtain⟨a1,a2⟩:=hl l[j] (bz q1);obtain⟨x,hx⟩:=kp a1
   have hwl:w.length=j:=by rw[hw];simp;omega
   have hc:=DX (Γ:=Γ) v x (by omega) (by omega);have hh:=ih (j+1) (by omega) _ rfl;rw[Yl q1,<-hw,hx]at hh;simp only[fV]at hh;refine .aU 60 ?_;simp(disch:=omega) [q1,q2,hi',hx];refine .jB 60 (by simp[hr']) hc ?_;simp(disch:=(first|omega|(simp;omega))) [q1,q2,hi',hr'];refine .aH ?_;simp;refine .lq (i:=h.length+1) (by simp;exact⟨rfl,rfl,rfl,rfl,rfl⟩) (by simp) (by simp) (by simp[hv]) ?_;simp at hh⊢;exact hh
 refine .br 60 WO ?_;simp;refine .inLoop ?_;have hh:=key l.length 0 (by omega) [] (by simp[j4]);simp at hh⊢;exact hh
theorem Gr.acb(g:Gr)(state ins:List Bool):(g.j_ state ins).length=1+ins.length+state.length+g.ands.length:=by
 rw[Gr.j_,rA];simp;omega
def Gr.dB(g:Gr)(state ins:List Bool):List Bool:=if g.eu state ins=0 then j4 (g.j_ state ins) g.outs else[]
def Gr.iZ(g:Gr)(state ins:List Bool):List Bool:=if g.eu state ins=0 then j4 (g.j_ state ins) g.next else[]
theorem Gr.PY{g:Gr}{state ins:List Bool}(h:g.eu state ins=0):g.Ok/\state.length=g.next.length/\(ins.length:Int)=g.ins:=by
 unfold Gr.eu at h
 by_cases hc:g.check=0
 ·refine⟨Gr.qn hc,?_⟩;simp only[hc,ne_eq,not_true,db]at h
  by_cases hf:g.fits state ins=true
  ·simp only[Gr.fits,av,bf]at hf;exact hf
  ·simp[hf]at h
 ·simp[hc]at h
set_option maxRecDepth 8000 in
theorem YF(g:Gr)(hf:g.iK)(state ins:List Bool){ks ki:Nat}(hs:Kd 1 ks state)(hi:Kd 1 ki ins)(hl1:state.length<2^40)(hl2:ins.length<2^40):
 aL Tryz.prog Γ z8 [eN g,.list false ks (state.map .bool),.list false ki (ins.map .bool)]
  (.aB [.own 1 aZ ((g.dB state ins).map .bool),.own 1 aZ ((g.iZ state ins).map .bool),.int .i64 (g.eu state ins)]):=by
 refine .run 60 YM (by simp) ?_;simp;refine .call 60 (by simp) (Wz g hf state ins hs hi hl1 hl2) ?_;unfold Gr.dB Gr.iZ Gr.values
 by_cases hE:g.eu state ins=0
 ·obtain⟨ok,d1,d2⟩:=Gr.PY hE;have hvl:=g.acb state ins;obtain⟨o1,o2⟩:=ok.ins;have o3:=ok.sum;have o4:=ok.lF
  have hlit:g.lits=2*(g.j_ state ins).length:=by rw[hvl];simp[Gr.lits,Gr.all,Gr.first];omega
  have hO:∀a∈g.outs,0<=a/\a<2*(g.j_ state ins).length:=fun a ha=>by have:=ok.outs a ha;omega
  have hN:∀a∈g.next,0<=a/\a<2*(g.j_ state ins).length:=fun a ha=>by have:=ok.next a ha;omega
  simp[hE];generalize g.j_ state ins=v at*;refine .dr 60 ?_;simp;refine .reach (by simp) (JP v g.outs g.ho (by omega) (by omega) 4 3 (by simp) (by simp) (by simp) hO) ?_;simp;refine .reach (by simp) (JP v g.next g.hn (by omega) (by omega) 4 3 (by simp) (by simp) (by simp) hN) ?_;simp;exact .back (by simp)
 ·simp[hE];exact .back (by simp[hE])
end Go.Proofs.YtihmomicdpkabaaGreatDoor
namespace Go.Proofs.YtihmomicdpkabaaGreatDoor
open Go.AM Go.Proofs
def gp(p:Int×Int):List (Int×Int)->Nat->Option Nat
 |[],_=>none
 |q::qs,i=>if q=p then some i else gp p qs (i+1)
theorem DN(p:Int×Int):∀(a b:List (Int×Int))(i:Nat),gp p (a++b) i=match gp p a i with|some j=>some j|none=>gp p b (i+a.length)
 |[],b,i=>by simp[gp]
 |q::a,b,i=>by
  rw[eO,gp,gp]
  by_cases h:q=p
  ·simp[h]
  ·rw[if_neg h,if_neg h,DN p a b (i+1),bX,show i+1+a.length=i+(a.length+1) by omega]
theorem En{p:Int×Int}:∀{l:List (Int×Int)}{i k:Nat},gp p l i=some k->i<=k/\∃h:k-i<l.length,l[k-i]=p
 |[],i,k,h=>by simp[gp]at h
 |q::l,i,k,h=>by
  rw[gp]at h
  by_cases hq:q=p
  ·rw[if_pos hq]at h
   cases h
   exact⟨aR _,by simp,by simp[hq]⟩
  ·rw[if_neg hq]at h;obtain⟨h1,h2,h3⟩:=En h;refine⟨by omega,by simp;omega,?_⟩
   have e:k-i=(k-(i+1))+1:=by omega
   simp only[e,sM];exact h3
theorem EA{p:Int×Int}:∀{l:List (Int×Int)}{i:Nat},gp p l i=none↔p∉l
 |[],i=>by simp[gp]
 |q::l,i=>by
  rw[gp]
  by_cases hq:q=p
  ·simp[hq]
  ·rw[if_neg hq,EA (l:=l)];simp[hq,Ne.symm hq]
def kT(p q:Nat):Option Nat:=if q=0\/p^^^1=q then some 0 else if q=1\/p=q then some p else none
def bM(first:Nat)(l:List (Int×Int))(a b:Nat):List (Int×Int)×Nat:=
 match kT (max a b) (min a b)with
 |some c=>(l,c)
 |none=>match gp (((max a b:Nat):Int),((min a b:Nat):Int)) l 0 with
  |some i=>(l,2*(first+i))
  |none=>(l++[(((max a b:Nat):Int),((min a b:Nat):Int))],2*(first+l.length))
def fL(p:Int×Int):List ((Int×Int)×Nat)->Option Nat
 |[]=>none
 |(q,n)::r=>if p=q then some n else fL p r
abbrev gk(x:(Int×Int)×Nat):AV×AV:=(df x.1,.int .i64 x.2)
theorem Ep(p q:Int×Int):cn (.jb [.int,.int]) (df p) (df q)=some (decide (p=q)):=by
 obtain⟨a,b⟩:=p;obtain⟨c,d⟩:=q;simp only[cn,bR,cz,gf,eG,bP]
 cases h1:(a==c)
 ·have:=vn.1 h1;simp[this]
 ·have e1:=eq_of_beq h1
  cases h2:(b==d)
  ·have:=vn.1 h2;simp[this]
  ·have e2:=eq_of_beq h2;simp[e1,e2]
theorem DH(p:Int×Int):∀l:List ((Int×Int)×Nat),ew (.jb [.int,.int]) (df p) (l.map gk)=some ((fL p l).map fun n:Nat=>AV.int .i64 (n:Int))
 |[]=>rfl
 |(q,n)::r=>by
  simp only[b_,ew,Ep,fL]
  by_cases h:p=q
  ·simp[h]
  ·simp only[h,mR,db];exact DH p r
theorem D5{p:Int×Int}{v:AV}:∀{l:List ((Int×Int)×Nat)},fL p l=none->h_ (.jb [.int,.int]) (df p) v (l.map gk)=some (l.map gk++[(df p,v)])
 |[],_=>rfl
 |(q,n)::r,h=>by
  rw[fL]at h
  by_cases hq:p=q
  ·rw[if_pos hq]at h;cases h
  ·rw[if_neg hq]at h;simp only[b_,h_,Ep,hq,mR,D5 h,du,eO]
theorem Kj(n:Nat):∀a b:List (AV×AV),fR n (a++b)=(fR n a&&fR n b)
 |[],b=>by simp[fR]
 |(x,y)::a,b=>by simp[fR,Kj n a b,nC]
@[simp] theorem Zy(n:Nat):∀l:List ((Int×Int)×Nat),fR n (l.map gk)=true
 |[]=>rfl
 |x::r=>by simp[fR,Zy n r]
@[simp] theorem aaC(n:Nat)(τ:List Nat):∀l:List ((Int×Int)×Nat),mO n τ (l.map gk)=l.map gk
 |[]=>rfl
 |x::r=>by simp[aaC n τ r]
@[simp] theorem abD(n:Nat)(τ:List Nat):∀l:List ((Int×Int)×Nat),pD n τ (l.map gk)=true
 |[]=>rfl
 |x::r=>by simp[abD n τ r]
@[simp] theorem YU(n m:Nat):∀l:List ((Int×Int)×Nat),nj n m (l.map gk)=true
 |[]=>rfl
 |x::r=>by simp[YU n m r]
def jF(first:Nat)(l:List (Int×Int))(es:List ((Int×Int)×Nat)):Prop:=∀p,fL p es=(gp p l 0).map fun i=>2*(first+i)
theorem JM(p:Int×Int):∀(a b:List ((Int×Int)×Nat)),fL p (a++b)=match fL p a with|some n=>some n|none=>fL p b
 |[],b=>rfl
 |(q,n)::a,b=>by
  rw[eO,fL,fL]
  by_cases h:p=q
  ·simp[h]
  ·rw[if_neg h,if_neg h,JM p a b]
theorem Fc(first:Nat):jF first [] []:=fun p=>rfl
theorem aaU{first:Nat}{l:List (Int×Int)}{es:List ((Int×Int)×Nat)}(h:jF first l es){p:Int×Int}{n:Nat}(hp:fL p es=some n):jF first (l++[p]) es:=by
 intro q;rw[h q,DN]
 cases hq:gp q l 0 with
 |some j=>rfl
 |none=>
  have h2:=h p;rw[hp]at h2
  have hne:p≠q:=by
   rintro rfl
   rw[hq]at h2
   cases h2
  simp[gp,hne]
theorem Mv{first:Nat}{l:List (Int×Int)}{es:List ((Int×Int)×Nat)}(h:jF first l es){p:Int×Int}(hp:fL p es=none):jF first (l++[p]) (es++[(p,2*(first+l.length))]):=by
 intro q;rw[JM,DN,h q]
 cases hq:gp q l 0 with
 |some j=>rfl
 |none=>
  simp only[sD,fL,gp,iP]
  by_cases he:q=p
  ·simp[he]
  ·rw[if_neg he,if_neg (fun h1=>he h1.symm)];rfl
end Go.Proofs.YtihmomicdpkabaaGreatDoor
namespace Go.Proofs.YtihmomicdpkabaaGreatDoor
open Go.AM Go.Proofs
variable{Γ:Nat->Option AV}
theorem Jp(l:List (Int×Int)){k:Nat}(hk:Kd 2 k l)(hl:l.length<2^40):aL Tryz.prog Γ zk [.list false k (l.map df)] (.own 2 cP (l.map df)):=by
 refine .run 60 TZ (by simp) ?_
 cases l with
 |nil=>
  simp;refine .either 0 (by simp) (fun b=>?_)
  cases b
  ·refine .go 9 ?_;simp;refine .oS 2 2 cP rfl (by omega) ?_;refine .go 60 ?_;simp;exact .back (by simp)
  ·refine .go 60 ?_;simp;exact .back (by simp)
 |cons x xs=>
  have hk0:k=2:=by
   rcases hk with h|h
   ·exact h
   ·cases h
  subst hk0;simp at hl;simp(disch:=(first|omega|(simp;omega)));exact .back (by simp)
def P'(h:List Ob):Prop:=∀m,h.length<=m->cG m h=true
abbrev cD(g:Gr):Ob:=.cells [.int .i64 g.ins,.list false g.kn (g.next.map i64),.list false g.ki (g.init.map i64),.list false g.ka (g.ands.map df),.list false g.ko (g.outs.map i64)]
def qt(first:Nat):List (Int×Int)->Nat->List ((Int×Int)×Nat)->List ((Int×Int)×Nat)
 |[],_,es=>es
 |p::ps,i,es=>qt first ps (i+1) (if(fL p es).isSome=true then es else es++[(p,2*(first+i))])
theorem Nq(first:Nat):∀(ps l:List (Int×Int))(es:List ((Int×Int)×Nat)),jF first l es->jF first (l++ps) (qt first ps l.length es)
 |[],l,es,h=>by simpa[qt]using h
 |p::ps,l,es,h=>by
  rw[qt]
  have e:l++p::ps=(l++[p])++ps:=by simp
  have e2:l.length+1=(l++[p]).length:=by simp
  rw[e,e2]
  refine Nq first ps (l++[p]) _ ?_
  cases hf:fL p es with
  |none=>simpa using Mv h hf
  |some n=>simpa using aaU h hf
def Gr.bd(g:Gr):List ((Int×Int)×Nat):=qt g.first g.ands 0 []
theorem Gr.ND(g:Gr):jF g.first g.ands g.bd:=by
 have:=Nq g.first g.ands [] [] (Fc _)
 rw[lf]at this;exact this
abbrev Gs(g:Gr)(r n m:Nat)(come:AV):Ob:=.cells [.int .i64 g.ins,.list false g.kn (g.next.map i64),.list false g.ki (g.init.map i64),.sl r 0 n,.list false g.ko (g.outs.map i64),.mp m,come]
set_option maxRecDepth 8000 in
theorem aaJ(g:Gr)(ok:g.Ok)(h:List Ob)(hw:P' h)(up:List Fr):∀n i:Nat,i+n=g.ands.length->∀es,AM.Reach Tryz.prog Γ
 (yvL (.ptr h.length 0) (.ptr (h.length+2) 0) (.list false g.ka (g.ands.map df)) (.int .i64 g.ands.length) (.int .i64 i) (h++[cD g,.map (es.map gk) true,Gs g (h.length+3) g.ands.length (h.length+1) (.list true 0 []),.row 2 cP (g.ands.map df) none true false]) ⟨[],.norm,h.length,up⟩)
 (.back up (.ptr (h.length+2) 0) (h++[cD g,.map ((qt g.first (g.ands.drop i) i es).map gk) true,Gs g (h.length+3) g.ands.length (h.length+1) (.list true 0 []),.row 2 cP (g.ands.map df) none true false])):=by
 have o1:=ok.ins;have o3:=ok.sum;have hf:=p1 (Γ:=Γ) g o1.1 o1.2 (by omega)
 have hfb:g.first<=8001:=by unfold Gr.first;omega
 intro n
 induction n with
 |zero=>
  intro i hi es
  have q1:¬i<g.ands.length:=by omega
  rw[bw (by omega)];refine .aU 60 ?_;simp[q1,qt]
 |succ n ih=>
  intro i hi es
  have q1:i<g.ands.length:=by omega
  have q2:=bY (g.ha.of q1);rw[bQ q1,qt];have hfi:=DH g.ands[i] es;have hbw:=hw (h.length+4) (by omega)
  cases hfe:fL g.ands[i] es with
  |some c=>
   rw[hfe]at hfi;have hh:=ih (i+1) (by omega) es;refine .aU 60 ?_;simp(disch:=omega) [q1,q2,hfi,isKey,bR,cz];refine .aH ?_;simp;refine .j0 (h.length+4) (by simp;rfl) (by simp) (by simp) (by simp[hbw]) ?_;simp at hh⊢;exact hh
  |none=>
   rw[hfe]at hfi;have hh:=ih (i+1) (by omega) (es++[(g.ands[i],2*(g.first+i))]);have hput:=D5 (v:=.int .i64 (2*((g.first:Int)+i))) hfe;refine .aU 60 ?_;simp[q1,q2,hfi,isKey,bR,cz];refine .nr 60 ?_;simp[q1,q2];refine .call (by simp) hf ?_;simp(disch:=omega) [hput,isKey,bR,cz];refine .aH ?_;simp;refine .j0 (h.length+4) (by simp;rfl) (by simp) (by simp) (by simp[hbw,Kj]) ?_;simp[hfe]at hh⊢;exact hh
set_option maxRecDepth 8000 in
theorem acp(g:Gr)(ok:g.Ok)(hfew:g.ands.length<2^40)(h:List Ob)(hw:P' h):∀up,AM.Reach Tryz.prog Γ (.cl rm [eN g] up h)
 (.back up (.ptr (h.length+2) 0) (h++[cD g,.map (g.bd.map gk) true,Gs g (h.length+3) g.ands.length (h.length+1) (.list true 0 []),.row 2 cP (g.ands.map df) none true false])):=by
 intro up;refine .br 60 Ka ?_;simp;refine .jB 60 (by simp) (Jp (Γ:=Γ) g.ands g.ha hfew) ?_;simp;refine .inLoop ?_;have hh:=aaJ (Γ:=Γ) g ok h hw up g.ands.length 0 (by omega) [];simp at hh⊢;exact hh
abbrev Gr.jg(g:Gr)(l:List (Int×Int)):Gr:={g with ands:=l,ka:=2,ha:=.self}
@[simp] theorem Gr.ayA(g:Gr)(l:List (Int×Int)):(g.jg l).first=g.first:=rfl
@[simp] theorem ay7(a b:Nat):py (.int .i64 (a:Int)) [.int .i64 (b:Int)]=some (.int .i64 ((max a b:Nat):Int)):=by
 simp only[py,cy];congr 2;split<;>omega
@[simp] theorem ay5(a b:Nat):lL (.int .i64 (a:Int)) [.int .i64 (b:Int)]=some (.int .i64 ((min a b:Nat):Int)):=by
 simp only[lL,cy];congr 2;split<;>omega
abbrev xB(g:Gr)(x1 x2 x4:AV)(r n m:Nat)(come:AV):Ob:=.cells [.int .i64 g.ins,x1,x2,.sl r 0 n,x4,.mp m,come]
section
set_option maxRecDepth 8000 in
theorem OP(a b c:Nat)(ha:a<2^20)(hb:b<2^20)(hk:kT (max a b) (min a b)=some c)(pb:AV)(h:List Ob):∀up,AM.Reach Tryz.prog Γ (.cl pV [pb,.int .i64 a,.int .i64 b] up h) (.back up (.int .i64 c) h):=by
 intro up
 have hle:min a b<=max a b:=by omega
 have hM:max a b<2^20:=by omega
 generalize hM':max a b=M at*;generalize hm':min a b=m at*;refine .br 60 Dv ?_;unfold kT at hk;have hx:=oN M
 by_cases c1:m=0
 ·subst c1;simp at hk;subst hk;simp[hM',hm']
 ·by_cases c2:M^^^1=m
  ·rw[if_pos (Or.inr c2)]at hk
   cases hk
   have c3:((M^^^1:Nat):Int)=m:=by omega
   simp(disch:=omega) [hM',hm',c1,c3,c2]
  ·rw[if_neg (by simp[c1,c2])]at hk
   have c3:¬((M^^^1:Nat):Int)=m:=by omega
   by_cases c4:m=1
   ·rw[if_pos (Or.inl c4)]at hk
    cases hk
    have c5:((m:Int)=1)=True:=bY (by omega);simp(disch:=omega) [hM',hm',c1,c3,c2,c5]
   ·by_cases c6:M=m
    ·rw[if_pos (Or.inr c6)]at hk
     cases hk
     subst c6;have c5:((c:Int)=1)=False:=iu (by omega);simp(disch:=omega) [hM',hm',c1,c3,c2,c5]
    ·rw[if_neg (by simp[c4,c6])]at hk
     cases hk
end
section
variable{p q:List Ob}{x1 x2 x4 come:AV}
theorem LX{p q:Nat}(h:kT p q=none):q≠0/\p^^^1≠q/\q≠1/\p≠q:=by
 unfold kT at h
 split at h
 ·cases h
 ·split at h
  ·cases h
  ·omega
set_option maxRecDepth 8000 in
theorem O8(g:Gr)(hi:0<=g.ins/\g.ins<=4000)(hn:g.next.length<=4000)(l:List (Int×Int))(hl:l.length<2^20)(es:List ((Int×Int)×Nat))(he:jF g.first l es)(a b:Nat)(ha:a<2^20)(hb:b<2^20)(hk:kT (max a b) (min a b)=none)
 (hx1:∀s,view (p++s) x1=some (.list false g.kn (g.next.map i64)))(hx2:∀s,view (p++s) x2=some (.list false g.ki (g.init.map i64)))(hx4:∀s,view (p++s) x4=some (.list false g.ko (g.outs.map i64))):
 ∀up,AM.Reach Tryz.prog Γ (.cl pV [.ptr (p.length+1) 0,.int .i64 a,.int .i64 b] up (p++.map (es.map gk) true::xB g x1 x2 x4 (p.length+2) l.length p.length come::.row 2 cP (l.map df) none true false::q))
  (match fL (((max a b:Nat):Int),((min a b:Nat):Int)) es with
   |some c=>.back up (.int .i64 c) (p++.map (es.map gk) true::xB g x1 x2 x4 (p.length+2) l.length p.length come::.row 2 cP (l.map df) none true false::(q++[.cells [.int .i64 ((max a b:Nat):Int),.int .i64 ((min a b:Nat):Int)]]))
   |none=>.back up (.int .i64 (2*(g.first+l.length):Nat)) (p++.map ((es++[((((max a b:Nat):Int),((min a b:Nat):Int)),2*(g.first+l.length))]).map gk) true::xB g x1 x2 x4 (p.length+2) (l.length+1) p.length come::
    .row 2 cP ((l++[(((max a b:Nat):Int),((min a b:Nat):Int))]).map df) (some 0) true false::(q++[.cells [.int .i64 ((max a b:Nat):Int),.int .i64 ((min a b:Nat):Int)]]))):=by
 intro up;obtain⟨k1,k2,k3,k4⟩:=LX hk
 have hle:min a b<=max a b:=by omega
 have hM:max a b<2^20:=by omega
 generalize hM':max a b=M at*;generalize hm':min a b=m at*;have hx:=oN M
 have c3:¬((M^^^1:Nat):Int)=m:=by omega
 have hfe:=DH ((M:Int),(m:Int)) es;have c5:((m:Int)=1)=False:=iu (by omega);have c7:((M:Int)=m)=False:=iu (by omega)
 cases hf:fL ((M:Int),(m:Int)) es with
 |some c=>
  rw[hf]at hfe;have hfe:ew (.jb [.int,.int]) (.agg [.int .i64 M,.int .i64 m]) (es.map gk)=some (some (.int .i64 (c:Int))):=hfe;simp only;refine .br 60 Dv ?_;simp(disch:=omega) [hM',hm',k1,k2,k3,k4,c3,c5,c7,isKey,bR,cz,hfe];refine .aU 60 ?_;simp[isKey,bR,cz,hfe]
 |none=>
  rw[hf]at hfe;simp only;refine .br 60 Dv ?_;have hfe:ew (.jb [.int,.int]) (.agg [.int .i64 M,.int .i64 m]) (es.map gk)=some none:=hfe;simp(disch:=omega) [hM',hm',k1,k2,k3,k4,c3,c5,c7,isKey,bR,cz,hfe];refine .aU 60 ?_;simp[isKey,bR,cz,hfe];have hf1:=p1 (Γ:=Γ) (g.jg l) hi.1 hi.2 hn
  have hfb:g.first<=8001:=by unfold Gr.first;omega
  have hput:=D5 (v:=.int .i64 (2*((g.first:Int)+l.length))) hf;refine .nr 60 ?_;simp;refine .call (by simp[hx1,hx2,hx4]) hf1 ?_;simp(disch:=omega);refine .nr 60 ?_;simp(disch:=(first|omega|(simp;omega))) [isKey,bR,cz,hput];simp[gk]
end
def fv:Gr:=⟨0,[],[],[],[],0,0,0,0,.nil,.nil,.nil,.nil⟩
def Gr.kU(g:Gr)(a b:Int):Int:=if g.check≠0 then g.check else if eo g.lits a=true\/eo g.lits b=true then 1 else if 4000<g.ins+g.next.length+(bM g.first g.ands a.toNat b.toNat).1.length then 8 else 0
def Gr.eC(g:Gr)(a b:Int):Gr:=if g.kU a b=0 then g.jg (bM g.first g.ands a.toNat b.toNat).1 else fv
def Gr.fq(g:Gr)(a b:Int):Nat:=if g.kU a b=0 then(bM g.first g.ands a.toNat b.toNat).2 else 0
theorem Aw(first:Nat)(l:List (Int×Int))(a b:Nat):(bM first l a b).1.length<=l.length+1:=by
 unfold bM
 split
 ·simp
 ·split<;>simp
theorem LN{first:Nat}{l:List (Int×Int)}{es:List ((Int×Int)×Nat)}(h:jF first l es){a b:Nat}(hk:kT (max a b) (min a b)=none):
 bM first l a b=match fL (((max a b:Nat):Int),((min a b:Nat):Int)) es with
  |some c=>(l,c)
  |none=>(l++[(((max a b:Nat):Int),((min a b:Nat):Int))],2*(first+l.length)):=by
 unfold bM;rw[hk,h]
 cases gp (((max a b:Nat):Int),((min a b:Nat):Int)) l 0<;>rfl
theorem tM{g:Gr}(ok:g.Ok)(l:List (Int×Int))(h1:g.ands.length<=l.length):((g.jg l).check=8)↔4000<g.ins+g.next.length+l.length:=by
 have o1:=ok.ins;have o2:=ok.lF;unfold Gr.check Gr.lR;simp only[Gr.jg]
 by_cases h:4000<g.ins+g.next.length+(l.length:Int)
 ·simp[h]
 ·have h2:(decide (g.ins<0)||decide (4000<g.ins)||decide (4000<g.ins+↑g.next.length+↑l.length)||decide (4000<g.outs.length))=false:=by simp;omega
  rw[if_neg (by rw[h2];simp)];simp only[h,iff_false]
  split<;>omega
theorem Wp(g:Gr):aL Tryz.prog Γ lj [eN g] (.int .i64 (IntKind.i64.wrap (IntKind.i64.wrap (1+g.ins)+g.next.length))):=by
 refine .run 60 J6 (by simp) ?_;simp;exact .back (by simp)
theorem Oi{g:Gr}{a:Int}(h:eo g.lits a=false):0<=a/\a.toNat<g.lits/\(a.toNat:Int)=a:=by
 simp[eo]at h;omega
set_option maxRecDepth 8000 in
theorem aal(g:Gr)(hf:g.iK)(a b:Int):aL Tryz.prog Γ Am [eN g,.int .i64 a,.int .i64 b] (.aB [eN (g.eC a b),.int .i64 (g.fq a b),.int .i64 (g.kU a b)]):=by
 refine .run 60 Z4 (by simp) ?_;simp;refine .call 60 (by simp) (rk g hf) ?_;simp;refine .dr 60 ?_;simp;refine .call (by simp) (Wp g) ?_
 by_cases hc:g.check=0
 ·have ok:=Gr.qn hc;have o1:=ok.ins;have o3:=ok.sum;have o4:=ok.lF
  have e1:IntKind.i64.wrap (IntKind.i64.wrap (1+g.ins)+g.next.length)=(g.first:Int):=by
   rw[wrap64 (n:=1+g.ins) (by omega) (by omega),wrap64 (by omega) (by omega)];unfold Gr.first;omega
  have hfb:g.first<=8001:=by unfold Gr.first;omega
  have hall:g.all<=12001:=by unfold Gr.all;omega
  have e2:(2*((g.first:Int)+g.ands.length))=(g.lits:Int):=by unfold Gr.lits Gr.all;omega
  rw[e1]
  by_cases h1:eo g.lits a=true\/eo g.lits b=true
  ·have k1:g.kU a b=1:=by unfold Gr.kU;rw[if_neg (by simp[hc]),if_pos h1]
   have k2:g.eC a b=fv:=by unfold Gr.eC;rw[k1,if_neg (by omega)]
   have k3:g.fq a b=0:=by unfold Gr.fq;rw[k1,if_neg (by omega)]
   rw[k1,k2,k3];simp only[eo,eX,bf]at h1
   by_cases q1:a<0
   ·simp(disch:=omega) [hc,e2,q1,fv];exact .back (by simp)
   ·by_cases q2:b<0
    ·simp(disch:=omega) [hc,e2,q1,q2,fv];exact .back (by simp)
    ·by_cases q3:(g.lits:Int)<=a
     ·simp(disch:=omega) [hc,e2,q1,q2,q3,fv];exact .back (by simp)
     ·have q4:(g.lits:Int)<=b:=by omega
      simp(disch:=omega) [hc,e2,q1,q2,q3,q4,fv];exact .back (by simp)
  ·rw[not_or]at h1;obtain⟨a1,a2,a3⟩:=Oi (Db.2 h1.1);obtain⟨b1,b2,b3⟩:=Oi (Db.2 h1.2);have hlit:g.lits=2*g.all:=rfl;generalize hx:a.toNat=x at*;generalize hy:b.toNat=y at*;subst a3;subst b3
   have q1:¬((g.lits:Int)<=x):=by omega
   have q2:¬((g.lits:Int)<=y):=by omega
   simp(disch:=omega) [hc,e2,q1,q2];refine .aX 60 (acp g ok hf.2.2.1 _ (by intro m hm;simp at hm⊢;omega)) ?_;simp
   have hE0:g.kU (x:Int) (y:Int)=if 4000<g.ins+g.next.length+(bM g.first g.ands x y).1.length then 8 else 0:=by
    unfold Gr.kU;rw[if_neg (by simp[hc]),if_neg (by rw[not_or];exact h1),fV,fV]
   cases hK:kT (max x y) (min x y)with
   |some c=>
    have hG:bM g.first g.ands x y=(g.ands,c):=by unfold bM;rw[hK]
    have hE:=hE0;rw[hG]at hE;refine .aX 60 (OP x y c (by omega) (by omega) hK _ _) ?_;simp;refine .call 60 (by simp) (rk (Γ:=Γ) (g.jg g.ands) ⟨hf.1,hf.2.1,by first|exact hf.2.2.1|(simp;have:=hf.2.2.1;omega),hf.2.2.2⟩) ?_
    by_cases q8:(g.jg g.ands).check=8
    ·have k1:=hE;rw[if_pos ((tM ok g.ands (by simp)).1 q8)]at k1
     have k2:g.eC (x:Int) (y:Int)=fv:=by unfold Gr.eC;rw[k1,if_neg (by omega)]
     have k3:g.fq (x:Int) (y:Int)=0:=by unfold Gr.fq;rw[k1,if_neg (by omega)]
     rw[k1,k2,k3];simp[q8,fv];exact .back (by simp)
    ·have k1:=hE;rw[if_neg (fun hh=>q8 ((tM ok g.ands (by simp)).2 hh))]at k1
     have k2:g.eC (x:Int) (y:Int)=g.jg g.ands:=by unfold Gr.eC;rw[k1,if_pos rfl];simp[hG]
     have k3:(g.fq (x:Int) (y:Int):Int)=(bM g.first g.ands x y).2:=by unfold Gr.fq;rw[k1,if_pos rfl];simp
     rw[k1,k2,k3,hG];simp[q8];exact .back (by simp)
   |none=>
    have hG:=LN g.ND hK;have hE:=hE0
    have key:=O8 (Γ:=Γ) (p:=[cD g,.cells [.int .i64 0,.sl 2 0 0,.sl 3 0 0,.sl 4 0 0,.sl 5 0 0],.row 1 aq [] none true false,.row 1 aq [] none true false,.row 2 cP [] none true false,.row 1 aq [] none true false,cD g]) (q:=[])
     (x1:=.list false g.kn (g.next.map i64)) (x2:=.list false g.ki (g.init.map i64)) (x4:=.list false g.ko (g.outs.map i64)) (come:=.list true 0 []) g o1 (by omega) g.ands (by omega) g.bd g.ND x y (by omega) (by omega) hK (fun s=>by simp) (fun s=>by simp) (fun s=>by simp)
    cases hF:fL (((max x y:Nat):Int),((min x y:Nat):Int)) g.bd with
    |some c=>
     rw[hF]at hG key;simp only at hG key;rw[hG]at hE;simp at key;refine .aX 60 key ?_;simp;refine .call 60 (by simp) (rk (Γ:=Γ) (g.jg g.ands) ⟨hf.1,hf.2.1,by first|exact hf.2.2.1|(simp;have:=hf.2.2.1;omega),hf.2.2.2⟩) ?_
     by_cases q8:(g.jg g.ands).check=8
     ·have k1:=hE;rw[if_pos ((tM ok g.ands (by simp)).1 q8)]at k1
      have k2:g.eC (x:Int) (y:Int)=fv:=by unfold Gr.eC;rw[k1,if_neg (by omega)]
      have k3:g.fq (x:Int) (y:Int)=0:=by unfold Gr.fq;rw[k1,if_neg (by omega)]
      rw[k1,k2,k3];simp[q8,fv];exact .back (by simp)
     ·have k1:=hE;rw[if_neg (fun hh=>q8 ((tM ok g.ands (by simp)).2 hh))]at k1
      have k2:g.eC (x:Int) (y:Int)=g.jg g.ands:=by unfold Gr.eC;rw[k1,if_pos rfl];simp[hG]
      have k3:(g.fq (x:Int) (y:Int):Int)=(bM g.first g.ands x y).2:=by unfold Gr.fq;rw[k1,if_pos rfl];simp
      rw[k1,k2,k3,hG];simp[q8];exact .back (by simp)
    |none=>
     rw[hF]at hG key;simp only at hG key;rw[hG]at hE;simp at key;refine .aX 60 key ?_;generalize hnew:(((max x y:Nat):Int),((min x y:Nat):Int))=new at*;simp;refine .call 60 (by simp;rw[cd (by simp)]) (rk (Γ:=Γ) (g.jg (g.ands++[new])) ⟨hf.1,hf.2.1,by first|exact hf.2.2.1|(simp;have:=hf.2.2.1;omega),hf.2.2.2⟩) ?_
     by_cases q8:(g.jg (g.ands++[new])).check=8
     ·have k1:=hE;rw[if_pos ((tM ok (g.ands++[new]) (by simp)).1 q8)]at k1
      have k2:g.eC (x:Int) (y:Int)=fv:=by unfold Gr.eC;rw[k1,if_neg (by omega)]
      have k3:g.fq (x:Int) (y:Int)=0:=by unfold Gr.fq;rw[k1,if_neg (by omega)]
      rw[k1,k2,k3];simp[q8,fv];exact .back (by simp)
     ·have k1:=hE;rw[if_neg (fun hh=>q8 ((tM ok (g.ands++[new]) (by simp)).2 hh))]at k1
      have k2:g.eC (x:Int) (y:Int)=g.jg (g.ands++[new]):=by unfold Gr.eC;rw[k1,if_pos rfl];simp[hG]
      have k3:(g.fq (x:Int) (y:Int):Int)=(bM g.first g.ands x y).2:=by unfold Gr.fq;rw[k1,if_pos rfl];simp
      rw[k1,k2,k3,hG];simp[q8];exact .back (by simp;rw[cd (by simp)])
 ·have h1:g.kU a b=g.check:=by unfold Gr.kU;rw[if_pos hc]
  have h2:g.eC a b=fv:=by unfold Gr.eC;rw[h1,if_neg hc]
  have h3:g.fq a b=0:=by unfold Gr.fq;rw[h1,if_neg hc]
  simp[hc,h1,h2,h3,fv];exact .back (by simp)
theorem Ju(l:List Int){k:Nat}(hk:Kd 1 k l)(hl:l.length<2^40):aL Tryz.prog Γ zm [.list false k (l.map i64)] (.own 1 aq (l.map i64)):=by
 refine .run 60 Ub (by simp) ?_
 cases l with
 |nil=>
  simp;refine .either 0 (by simp) (fun b=>?_)
  cases b
  ·refine .go 9 ?_;simp;refine .oS 2 1 aq rfl (by omega) ?_;refine .go 60 ?_;simp;exact .back (by simp)
  ·refine .go 60 ?_;simp;exact .back (by simp)
 |cons x xs=>
  have hk0:k=1:=by
   rcases hk with h|h
   ·exact h
   ·cases h
  subst hk0;simp at hl;simp(disch:=(first|omega|(simp;omega)));exact .back (by simp)
theorem Pl{p q:List Ob}{x1 x2 x4 come:AV}(g:Gr)(hi:0<=g.ins/\g.ins<=4000)(hn:g.next.length<=4000)(l:List (Int×Int))(hl:l.length<2^20)(es:List ((Int×Int)×Nat))(he:jF g.first l es)(a b:Nat)(ha:a<2^20)(hb:b<2^20)
 (hx1:∀s,view (p++s) x1=some (.list false g.kn (g.next.map i64)))(hx2:∀s,view (p++s) x2=some (.list false g.ki (g.init.map i64)))(hx4:∀s,view (p++s) x4=some (.list false g.ko (g.outs.map i64))):
 ∃(es':List ((Int×Int)×Nat))(gr:Option Nat)(junk:List Ob),jF g.first (bM g.first l a b).1 es'/\(gr=none\/gr=some 0)/\(junk=[]\/∃x y:Int,junk=[.cells [.int .i64 x,.int .i64 y]])/\
 ∀up,AM.Reach Tryz.prog Γ (.cl pV [.ptr (p.length+1) 0,.int .i64 a,.int .i64 b] up (p++.map (es.map gk) true::xB g x1 x2 x4 (p.length+2) l.length p.length come::.row 2 cP (l.map df) none true false::q))
  (.back up (.int .i64 ((bM g.first l a b).2:Nat)) (p++.map (es'.map gk) true::xB g x1 x2 x4 (p.length+2) (bM g.first l a b).1.length p.length come::.row 2 cP ((bM g.first l a b).1.map df) gr true false::(q++junk))):=by
 cases hK:kT (max a b) (min a b)with
 |some c=>
  have hG:bM g.first l a b=(l,c):=by unfold bM;rw[hK]
  rw[hG];exact⟨es,none,[],he,.inl rfl,.inl rfl,fun up=>by rw[fX];exact OP a b c ha hb hK _ _ up⟩
 |none=>
  have hG:=LN he hK;have key:=O8 (Γ:=Γ) (p:=p) (q:=q) (come:=come) g hi hn l hl es he a b ha hb hK hx1 hx2 hx4
  cases hF:fL (((max a b:Nat):Int),((min a b:Nat):Int)) es with
  |some c=>
   rw[hF]at hG key;simp only at hG key;rw[hG];exact⟨es,none,_,he,.inl rfl,.inr ⟨((max a b:Nat):Int),((min a b:Nat):Int),rfl⟩,key⟩
  |none=>
   rw[hF]at hG key;simp only at hG key;rw[hG];refine⟨_,some 0,_,Mv he hF,.inr rfl,.inr ⟨((max a b:Nat):Int),((min a b:Nat):Int),rfl⟩,fun up=>?_⟩;have:=key up;simp only[bN,bX,dt,iP];exact this
theorem FL{x a:Nat}(hx:(x:Int)<2^60):gq .xor .i64 (x:Int) ((a%2:Nat):Int)=some ((x^^^(a%2):Nat):Int):=by
 rcases(show a%2=0\/a%2=1 by omega)with h|h
 ·rw[h,Dc]
  have h1:(BitVec.ofInt 64 (x:Int)^^^BitVec.ofInt 64 ((0:Nat):Int)).toNat=x:=by
   have e1:BitVec.ofInt 64 ((0:Nat):Int)=0#64:=by decide
   rw[e1,BitVec.xor_zero,Tl];omega
  show some (IntKind.i64.wrap ((BitVec.ofInt 64 (x:Int)^^^BitVec.ofInt 64 ((0:Nat):Int)).toNat:Int))=_
  rw[h1,BC (by omega)]
 ·rw[h];exact af2 x hx
def bC(to:List Nat)(a:Nat):Nat:=to.getD (a/2) 0^^^(a%2)
def eA(to:List Nat)(l:List Int):List Nat:=l.map fun a=>bC to a.toNat
@[simp] theorem azm(to:List Nat)(l:List Int):(eA to l).length=l.length:=by simp[eA]
theorem LO{to:List Nat}{l:List Int}{i:Nat}(h:i<l.length):eA to (l.take (i+1))=eA to (l.take i)++[bC to l[i].toNat]:=by
 rw[gC h];simp only[eA,iQ,b_,ld]
section
variable{c0 c1 c2 c3 c4 c5:AV}
theorem uv(to:List Nat)(hto:∀x∈to,x<2^40)(a:Nat)(h1:a/2<to.length)(ha:(a:Int)<2^60)(b r:Nat){E:TypeId}{gr:Option Nat}{fl sh:Bool}{h:List Ob}(hb:h[b]? =some (.cells [c0,c1,c2,c3,c4,c5,.sl r 0 to.length]))(hr:h[r]? =some (.row 1 E (to.map iN) gr fl sh))(hok:cF (to.map iN) gr 0 to.length=true):
 ∀up,AM.Reach Tryz.prog Γ (.cl nD [.ptr b 0,.int .i64 a] up h) (.back up (.int .i64 (bC to a)) h):=by
 intro up
 have h3:((a/2:Nat):Int)<to.length:=by omega
 have h4:=hto _ (bz h1)
 have h5:to.getD (a/2) 0=to[a/2]:=by rw[bp,bl h1];rfl
 have h6:=FL (x:=to[a/2]) (a:=a) (by omega);refine .br 60 UE ?_;unfold bC;rw[h5];simp(disch:=omega) [-Int.natCast_ediv,-Int.natCast_emod,-cF,hok,hb,hr,h1,h3,h6]
end
set_option maxRecDepth 8000 in
theorem Pp(to:List Nat)(hto:∀x∈to,x<2^40)(l:List Int){k:Nat}(hk:Kd 1 k l)(hl:l.length<2^40)(hlt:∀a∈l,0<=a/\a<2*to.length)(hbt:to.length<2^40){c0 c1 c2 c3 c4 c5:AV}(b r:Nat){E:TypeId}{h:List Ob}(hb:h[b]? =some (.cells [c0,c1,c2,c3,c4,c5,.sl r 0 to.length]))(hr:h[r]? =some (.row 1 E (to.map iN) none true false))
 (hv:∀m,cH (h.length+1) m h=true):
 ∀up,AM.Reach Tryz.prog Γ (.cl rb [.ptr b 0,.list false k (l.map i64)] up h) (.back up (.sl (h.length+1) 0 l.length) (h++[.row 1 aq [] none true false,.row 1 aq ((eA to l).map iN) none true false])):=by
 intro up
 have hb':∀os,(h++os)[b]? =some (.cells [c0,c1,c2,c3,c4,c5,.sl r 0 to.length]):=fun os=>dJ hb os
 have hr':∀os,(h++os)[r]? =some (.row 1 E (to.map iN) none true false):=fun os=>dJ hr os
 have key:∀n j:Nat,j+n=l.length->∀w,w=eA to (l.take j)->AM.Reach Tryz.prog Γ (P4 (.sl (h.length+1) 0 w.length) (.fn (.func nD) [.ptr b 0] []) (.list false k (l.map i64)) (.int .i64 l.length) (.int .i64 j)
  (h++[.row 1 aq [] none true false,.row 1 aq (w.map iN) none true false]) ⟨[],.norm,h.length,up⟩) (.back up (.sl (h.length+1) 0 l.length) (h++[.row 1 aq [] none true false,.row 1 aq ((eA to l).map iN) none true false])):=by
  intro n
  induction n with
  |zero=>
   intro j hj w hw
   have q1:¬j<l.length:=by omega
   rw[cd (by omega)]at hw;subst hw;refine .aU 60 ?_;simp[q1]
  |succ n ih=>
   intro j hj w hw
   have q1:j<l.length:=by omega
   have q2:=bY (hk.of q1);obtain⟨a1,a2⟩:=hlt l[j] (bz q1);obtain⟨x,hx⟩:=kp a1
   have hwl:w.length=j:=by rw[hw];simp;omega
   have hh:=ih (j+1) (by omega) _ rfl;rw[LO q1,<-hw,hx]at hh;simp only[fV]at hh;have hc:=uv (Γ:=Γ) to hto x (by omega) (by omega) b r (hb' [.row 1 aq [] none true false,.row 1 aq (w.map iN) none true false]) (hr' _) (by simp);refine .aU 60 ?_;simp(disch:=omega) [q1,q2,hx];refine .aX 60 hc ?_;simp(disch:=(first|omega|(simp;omega))) [q1,q2];refine .aH ?_;simp;refine .lq (i:=h.length+1) (by simp;exact⟨rfl,rfl,rfl,rfl,rfl⟩) (by simp) (by simp) (by simp[hv]) ?_;simp at hh⊢;exact hh
 refine .br 60 JC ?_;simp;refine .inLoop ?_;have hh:=key l.length 0 (by omega) [] (by simp[eA]);simp at hh⊢;exact hh
set_option maxRecDepth 8000 in
theorem OF(to:List Nat)(hto:∀x∈to,x<2^40)(l:List Int)(hl:l.length<2^40)(hlt:∀a∈l,0<=a/\a<2*to.length)(hbt:to.length<2^40){c0 c1 c2 c3 c4 c5:AV}(b r qq:Nat){E E2:TypeId}{h:List Ob}(hb:h[b]? =some (.cells [c0,c1,c2,c3,c4,c5,.sl r 0 to.length]))(hr:h[r]? =some (.row 1 E (to.map iN) none true false))
 (hq:h[qq]? =some (.row 1 E2 (l.map i64) none true false))(hv:∀m,cH (h.length+1) m h=true):
 ∀up,AM.Reach Tryz.prog Γ (.cl rb [.ptr b 0,.sl qq 0 l.length] up h) (.back up (.sl (h.length+1) 0 l.length) (h++[.row 1 aq [] none true false,.row 1 aq ((eA to l).map iN) none true false])):=by
 intro up
 have hb':∀os,(h++os)[b]? =some (.cells [c0,c1,c2,c3,c4,c5,.sl r 0 to.length]):=fun os=>dJ hb os
 have hr':∀os,(h++os)[r]? =some (.row 1 E (to.map iN) none true false):=fun os=>dJ hr os
 have hql:¬qq=h.length+1:=by have:=aV hq;omega
 have hq':∀os,(h++os)[qq]? =some (.row 1 E2 (l.map i64) none true false):=fun os=>dJ hq os
 have key:∀n j:Nat,j+n=l.length->∀w,w=eA to (l.take j)->AM.Reach Tryz.prog Γ (P4 (.sl (h.length+1) 0 w.length) (.fn (.func nD) [.ptr b 0] []) (.sl qq 0 l.length) (.int .i64 l.length) (.int .i64 j)
  (h++[.row 1 aq [] none true false,.row 1 aq (w.map iN) none true false]) ⟨[],.norm,h.length,up⟩) (.back up (.sl (h.length+1) 0 l.length) (h++[.row 1 aq [] none true false,.row 1 aq ((eA to l).map iN) none true false])):=by
  intro n
  induction n with
  |zero=>
   intro j hj w hw
   have q1:¬j<l.length:=by omega
   rw[cd (by omega)]at hw;subst hw;refine .aU 60 ?_;simp[q1]
  |succ n ih=>
   intro j hj w hw
   have q1:j<l.length:=by omega
   obtain⟨a1,a2⟩:=hlt l[j] (bz q1);obtain⟨x,hx⟩:=kp a1
   have hwl:w.length=j:=by rw[hw];simp;omega
   have hh:=ih (j+1) (by omega) _ rfl;rw[LO q1,<-hw,hx]at hh;simp only[fV]at hh;have hc:=uv (Γ:=Γ) to hto x (by omega) (by omega) b r (hb' [.row 1 aq [] none true false,.row 1 aq (w.map iN) none true false]) (hr' _) (by simp);refine .aU 60 ?_;simp(disch:=omega) [q1,hq',hx];refine .aX 60 hc ?_;simp(disch:=(first|omega|(simp;omega))) [q1,hq'];refine .aH ?_;simp;refine .lq (i:=h.length+1) (by simp;exact⟨rfl,rfl,rfl,rfl,rfl⟩) (by simp) (by simp[hql]) (by simp[hv]) ?_;simp at hh⊢;exact hh
 refine .br 60 JC ?_;simp;refine .inLoop ?_;have hh:=key l.length 0 (by omega) [] (by simp[eA]);simp at hh⊢;exact hh
abbrev pn(x:Nat×List Int):AV:=.list false x.1 (x.2.map i64)
def cC:List (Nat×List Int)->List Int
 |[]=>[]
 |x::xs=>x.2++cC xs
theorem J2(a b:List (Nat×List Int)):cC (a++b)=cC a++cC b:=by
 induction a with
 |nil=>rfl
 |cons x a ih=>simp[cC,ih]
theorem LG(xs:List (Nat×List Int))(i:Nat)(h:i<xs.length):cC (xs.take (i+1))=cC (xs.take i)++xs[i].2:=by
 rw[gC h,J2];simp[cC]
theorem Om(xs:List (Nat×List Int))(i:Nat):(cC (xs.take i)).length<=(cC xs).length:=by
 conv=>rhs;rw[<-lU i xs,J2]
 simp
set_option maxRecDepth 8000 in
theorem Ua(xs:List (Nat×List Int))(hk:∀x∈xs,Kd 1 x.1 x.2)(hn:xs.length<2^40)(hs:(cC xs).length<2^40)(hp:0<(cC xs).length):
 aL Tryz.prog Γ pU [.list false 1 (xs.map pn)] (.own 1 aq ((cC xs).map i64)):=by
 refine .run 60 Js (by simp) ?_
 have key2:∀n i:Nat,i+n=xs.length->∀m:Nat,(cC (xs.take i)).length+m=(cC xs).length->
  aw Tryz.prog Γ (R8 (.sl 2 0 (cC (xs.take i)).length) (.list false 1 (xs.map pn)) (.int .i64 xs.length) (.int .i64 i) [.row 1 aq [] none true false,.row 1 aq [] none true false,.row 1 aq ((cC (xs.take i)).map i64++List.replicate m (AV.int .i64 0)) none true false])
   (.ret (.own 1 aq ((cC xs).map i64))):=by
  intro n
  induction n with
  |zero=>
   intro i hi m hm
   have q1:¬i<xs.length:=by omega
   have q2:xs.take i=xs:=cd (by omega);rw[q2]at hm⊢
   have hm0:m=0:=by omega
   subst hm0;refine .go 60 ?_;simp[q1];exact .back (by simp)
  |succ n ih=>
   intro i hi m hm
   have q1:i<xs.length:=by omega
   have q2:=LG xs i q1;have q3:=Om xs (i+1);rw[q2,bN]at q3;have q4:=hk xs[i] (bz q1);have q5:xs[i].1=1\/xs[i].2=[]:=q4;have hh:=ih (i+1) (by omega) (m-xs[i].2.length) (by rw[q2,bN];omega);rw[q2]at hh
   have hd:(List.replicate m (AV.int .i64 0)).drop xs[i].2.length=List.replicate (m-xs[i].2.length) (AV.int .i64 0):=by simp
   refine .go 60 ?_
   by_cases q6:(cC (xs.take i)).length=(cC xs).length
   ·have q7:xs[i].2=[]:=kh.1 (by omega)
    have hm0:m=0:=by omega
    subst hm0;simp[q7]at hh;simp(disch:=(first|omega|(simp;omega))) [q1,q5,q7];refine .aH ?_;simp;exact hh
   ·simp(disch:=(first|omega|(simp;omega))) [q1,q5]
    by_cases q7:m=0
    ·omega
    ·have c1:¬(cC (List.take i xs)).length=(cC (List.take i xs)).length+m:=by omega
     have c2:(cC (List.take i xs)).length+xs[i].snd.length<=(cC (List.take i xs)).length+m:=by omega
     simp(disch:=(first|omega|(simp;omega))) [q1,q5,c1,c2,q7];refine .aH ?_;have mL:((cC (xs.take i)).map i64).drop ((cC (xs.take i)).length+xs[i].2.length)=[]:=bw (by simp);simp[sE,hd,mL]at hh⊢;exact hh
 have key1:∀n i:Nat,i+n=xs.length->
  aw Tryz.prog Γ (Sp (.list false 1 (xs.map pn)) (.int .i64 (cC (xs.take i)).length) (.list false 1 (xs.map pn)) (.int .i64 xs.length) (.int .i64 i) [.row 1 aq [] none true false])
   (.ret (.own 1 aq ((cC xs).map i64))):=by
  intro n
  induction n with
  |zero=>
   intro i hi
   have q1:¬i<xs.length:=by omega
   have q2:xs.take i=xs:=cd (by omega);have q3:0<(cC xs).length:=hp;have hh:=key2 xs.length 0 (by omega) (cC xs).length (by simp[cC]);refine .go 60 ?_;rw[q2];simp[q1];refine .enter 60 Jv ?_
   have q4:¬(cC xs).length=0:=by omega
   have q5:cC xs≠[]:=fun e=>by rw[e]at hp;simp at hp
   obtain⟨m,hm⟩:∃m,(cC xs).length=m+1:=⟨(cC xs).length-1,by omega⟩
   have hrep:List.replicate (cC xs).length (AV.int .i64 0)=(AV.int .i64 0)::List.replicate m (AV.int .i64 0):=by rw[hm];rfl
   simp(disch:=(first|omega|(simp;omega))) [q3,q4,q5,hrep];refine .inLoop ?_;simp[cC,hrep]at hh⊢;exact hh
  |succ n ih=>
   intro i hi
   have q1:i<xs.length:=by omega
   have q2:=LG xs i q1;have q3:=Om xs (i+1);rw[q2,bN]at q3;have hh:=ih (i+1) (by omega);rw[q2]at hh;refine .go 60 ?_
   have q4:¬((cC (xs.take i)).length:Int)+xs[i].2.length<0:=by omega
   simp(disch:=(first|omega|(simp;omega))) [q1,q4];refine .aH ?_;simp at hh⊢;exact hh
 simp;refine .inLoop ?_;have hh:=key1 xs.length 0 (by omega);simp[cC]at hh⊢;exact hh
set_option maxRecDepth 8000 in
theorem TU(xs:List (Nat×List Int))(hx:∀x∈xs,x.2=[])(hn:xs.length<2^40):
 aL Tryz.prog Γ pU [.list false 1 (xs.map pn)] (.own 1 aq []):=by
 refine .run 60 Js (by simp) ?_
 have key2:∀n i:Nat,i+n=xs.length->aw Tryz.prog Γ (R8 (.list true 0 []) (.list false 1 (xs.map pn)) (.int .i64 xs.length) (.int .i64 i) [.row 1 aq [] none true false,.row 1 aq [] none true false])
  (.ret (.own 1 aq [])):=by
  intro n
  induction n with
  |zero=>
   intro i hi
   have q1:¬i<xs.length:=by omega
   refine .oS 6 1 aq rfl (by omega) ?_;refine .go 60 ?_;simp[q1];exact .back (by simp)
  |succ n ih=>
   intro i hi
   have q1:i<xs.length:=by omega
   have q7:=hx xs[i] (bz q1);have hh:=ih (i+1) (by omega);refine .go 60 ?_;simp(disch:=(first|omega|(simp;omega))) [q1,q7];refine .aH ?_;simp at hh⊢;exact hh
 have key:∀n i:Nat,i+n=xs.length->aw Tryz.prog Γ (Sp (.list false 1 (xs.map pn)) (.int .i64 0) (.list false 1 (xs.map pn)) (.int .i64 xs.length) (.int .i64 i) [.row 1 aq [] none true false])
  (.ret (.own 1 aq [])):=by
  intro n
  induction n with
  |zero=>
   intro i hi
   have q1:¬i<xs.length:=by omega
   refine .go 60 ?_;simp[q1];refine .enter 60 Jv ?_;simp;refine .inLoop ?_;have hh:=key2 xs.length 0 (by omega);simp at hh⊢;exact hh
  |succ n ih=>
   intro i hi
   have q1:i<xs.length:=by omega
   have q7:=hx xs[i] (bz q1);have hh:=ih (i+1) (by omega);refine .go 60 ?_;simp(disch:=(first|omega|(simp;omega))) [q1,q7];refine .aH ?_;simp at hh⊢;exact hh
 simp;refine .inLoop ?_;have hh:=key xs.length 0 (by omega);simp at hh⊢;exact hh
theorem T'(xs:List (Nat×List Int))(hk:∀x∈xs,Kd 1 x.1 x.2)(hn:xs.length<2^40)(hs:(cC xs).length<2^40):
 aL Tryz.prog Γ pU [.list false 1 (xs.map pn)] (.own 1 aq ((cC xs).map i64)):=by
 rcases Tj (cC xs).length with h|h
 ·have h0:cC xs=[]:=kh.1 h
  have hx:∀x∈xs,x.2=[]:=by
   clear hk hn hs h
   induction xs with
   |nil=>simp
   |cons y ys ih=>
    simp only[cC,Jd]at h0;intro x hx
    rcases bu.1 hx with rfl|hx
    ·exact h0.1
    ·exact ih h0.2 x hx
  rw[h0];exact TU xs hx hn
 ·exact Ua xs hk hn hs h
def g_:List Int->List Bool->List Bool
 |[],v=>v
 |a::l,v=>g_ l (v.set (a.toNat/2) true)
def iD(ands:List (Int×Int))(first:Nat):Nat->List Bool->List Bool
 |0,v=>v
 |i+1,v=>iD ands first i (if v.getD (first+i) false=true then(v.set ((ands.getD i (0,0)).1.toNat/2) true).set ((ands.getD i (0,0)).2.toNat/2) true else v)
def Gr.bj(g:Gr):List Bool:=iD g.ands g.first g.ands.length (g_ (g.next++g.outs) (List.replicate g.all false))
theorem wv:∀(l:List Int)(v:List Bool),(g_ l v).length=v.length
 |[],v=>rfl
 |a::l,v=>by rw[g_,wv l,jk]
theorem Lr(ands:List (Int×Int))(first:Nat):∀(i:Nat)(v:List Bool),(iD ands first i v).length=v.length
 |0,v=>rfl
 |i+1,v=>by rw[iD,Lr ands first i];split<;>simp
theorem JX:∀(a b:List Int)(v:List Bool),g_ (a++b) v=g_ b (g_ a v)
 |[],b,v=>rfl
 |x::a,b,v=>by rw[eO,g_,g_,JX a b]
abbrev af0:List (List Nat):=[[0,1,2,3,4,5,6,7,8],[0,1,2,3,4,5,7,6,8],[0,1,2,3,4,7,5,6,8],[0,1,2,3,7,4,5,6,8],[0,1,2,7,3,4,5,6,8],[0,1,7,2,3,4,5,6,8],[0,2,1,3,4,5,6,7,8],[0,2,1,3,4,5,7,6,8],[0,2,1,3,4,7,5,6,8],[0,2,1,3,7,4,5,6,8],[0,2,1,7,3,4,5,6,8],[0,2,3,1,4,5,6,7,8],[0,2,3,1,4,5,7,6,8],[0,2,3,1,4,7,5,6,8],[0,2,3,1,7,4,5,6,8],[0,2,3,4,1,5,6,7,8],[0,2,3,4,1,5,7,6,8],[0,2,3,4,1,7,5,6,8],[0,2,3,4,7,1,5,6,8],[0,2,3,7,1,4,5,6,8],[0,2,3,7,4,1,5,6,8],[0,2,7,1,3,4,5,6,8],[0,2,7,3,1,4,5,6,8],[0,2,7,3,4,1,5,6,8],[0,7,1,2,3,4,5,6,8],[0,7,2,1,3,4,5,6,8],[0,7,2,3,1,4,5,6,8],[0,7,2,3,4,1,5,6,8],[2,0,1,3,4,5,6,7,8],[2,0,1,3,4,5,7,6,8],[2,0,1,3,4,7,5,6,8],[2,0,1,3,7,4,5,6,8],[2,0,1,7,3,4,5,6,8],[2,0,3,1,4,5,6,7,8],[2,0,3,1,4,5,7,6,8],[2,0,3,1,4,7,5,6,8],[2,0,3,1,7,4,5,6,8],[2,0,3,4,1,5,6,7,8],[2,0,3,4,1,5,7,6,8],[2,0,3,4,1,7,5,6,8],[2,0,3,4,7,1,5,6,8],[2,0,3,7,1,4,5,6,8],[2,0,3,7,4,1,5,6,8],[2,0,7,1,3,4,5,6,8],[2,0,7,3,1,4,5,6,8],[2,0,7,3,4,1,5,6,8],[2,3,0,1,4,5,6,7,8],[2,3,0,1,4,5,7,6,8],[2,3,0,1,4,7,5,6,8],[2,3,0,1,7,4,5,6,8],[2,3,0,4,1,5,6,7,8],[2,3,0,4,1,5,7,6,8],[2,3,0,4,1,7,5,6,8],[2,3,0,4,7,1,5,6,8],[2,3,0,7,1,4,5,6,8],[2,3,0,7,4,1,5,6,8],[2,3,4,0,1,5,6,7,8],[2,3,4,0,1,5,7,6,8],[2,3,4,0,1,7,5,6,8],[2,3,4,0,7,1,5,6,8],[2,3,4,7,0,1,5,6,8],[2,3,7,0,1,4,5,6,8],[2,3,7,0,4,1,5,6,8],[2,3,7,4,0,1,5,6,8],[2,7,0,1,3,4,5,6,8],[2,7,0,3,1,4,5,6,8],[2,7,0,3,4,1,5,6,8],[2,7,3,0,1,4,5,6,8],[2,7,3,0,4,1,5,6,8],[2,7,3,4,0,1,5,6,8],[7,0,1,2,3,4,5,6,8],[7,0,2,1,3,4,5,6,8],[7,0,2,3,1,4,5,6,8],[7,0,2,3,4,1,5,6,8],[7,2,0,1,3,4,5,6,8],[7,2,0,3,1,4,5,6,8],[7,2,0,3,4,1,5,6,8],[7,2,3,0,1,4,5,6,8],[7,2,3,0,4,1,5,6,8],[7,2,3,4,0,1,5,6,8]]
theorem adX:eZ [[],[0],[],[2],[3],[1,4],[5,5],[],[7,6,1,0,1,2,3,4,5,6,7]] 9 []=af0:=by decide+kernel
abbrev xv(g:Gr):List Fr:=[⟨.run,rC,[.jt 6,.inBlock 0 [],.code (.seq (.ae Ho) .ret)],
 [eN g,.ptr 0 0,U,.ptr 2 0,U,U,U,U,U,U,U,U,eN g,.sl 1 0 g.all,.fn (.func ow) [] [.ptr 3 0,.ptr 4 0],U,U,U,U,U,U],[.mark 5],.norm,0⟩]
abbrev uF(g:Gr)(v:List Bool):List Ob:=[cD g,.row 1 aZ (v.map .bool) none true false,.cells [.sl 1 0 g.all],cD g,.cells [.sl 1 0 g.all],.bA true,
 .loop .ready .none rC [U,U,U,.ptr 2 0,U,U,U,U,U,U,U,U,U,U,U,U,U,U,U,U,U] [15] (.ae Rc) Rt,.cells [.cS 6]]
set_option maxRecDepth 8000 in
theorem aeW(g:Gr)(ok:g.Ok)(L:List Int)(hL:∀a∈L,0<=a/\a<g.lits)(hl:L.length<2^40){o:Out}(v0:List Bool)(hv0:v0.length=g.all)
 (hc:aw Tryz.prog Γ (IT (.ptr 3 0) (.ptr 4 0) (.ptr 7 0) (uF g (g_ L v0)++[.row 1 aq (L.map i64) none true false]) ⟨[],.norm,7,xv g⟩) o):
 ∀n i:Nat,i+n=L.length->∀v,v=g_ (L.take i) v0->aw Tryz.prog Γ (yxC (.ptr 3 0) (.ptr 4 0) (.ptr 7 0) (.sl 8 0 L.length) (.int .i64 L.length) (.int .i64 i) (uF g v++[.row 1 aq (L.map i64) none true false]) ⟨[],.norm,7,xv g⟩) o:=by
 intro n
 induction n with
 |zero=>
  intro i hi v hv;rw[cd (by omega)]at hv;subst hv
  have q1:¬i<L.length:=by omega
  refine .reach (.dh 60 (c':=IT (.ptr 3 0) (.ptr 4 0) (.ptr 7 0) (uF g (g_ L v0)++[.row 1 aq (L.map i64) none true false]) ⟨[],.norm,7,xv g⟩) ?_) hc;simp[q1];exact .exit rfl rfl
 |succ n ih=>
  intro i hi v hv
  have q1:i<L.length:=by omega
  obtain⟨b1,b2⟩:=hL L[i] (bz q1);obtain⟨x,hx⟩:=kp b1
  have hvl:v.length=g.all:=by rw[hv,wv,hv0]
  have hh:=ih (i+1) (by omega) (v.set (x/2) true) (by rw[gC q1,JX,<-hv,g_,g_,hx];rfl);have e1:g.lits=2*g.all:=rfl;refine .go 60 ?_
  have q3:x/2<g.all:=by omega
  simp(disch:=omega) [q1,hx,jY,hvl,q3,-Int.natCast_ediv,-Int.natCast_emod];refine .aH ?_
  have e2:(v.map AV.bool).set (x/2) (.bool true)=(v.set (x/2) true).map AV.bool:=by rw[pO]
  rw[e2];simp[-List.map_set]at hh⊢;exact hh
abbrev ad6(g:Gr):List Fr:=⟨.run,ow,[.jt 11,.inBlock 2 []],[U,.ptr 3 0,.ptr 4 0,.ptr 7 0,U,U,U,U,U,U,U,U,U,U,U,U,U,U,U,U,U,U,U,U,
          .ptr 3 3,.list false g.ka (List.map df g.ands),.fn (.func vu) [] [.ptr 9 0],U,U,U,U,U,U,U,U,U,U,U,U,U,U,U,U,U,U,U,U,U,U,U],[.mark 10],.norm,7⟩::xv g
abbrev afl(g:Gr)(v:List Bool)(rest:Ob):List Ob:=uF g v++[rest,.cells [.list false g.ka (List.map df g.ands)],.bA true,
 .loop .ready .none ow [U,.ptr 3 0,.ptr 4 0,.ptr 7 0,U,U,U,U,U,U,U,U,U,U,U,U,U,U,U,U,U,U,U,U,U,U,U,U,U,U,U,U,U,U,U,U,U,U,U,U,U,U,U,U,U,U,U,U,U,U] [27,28] GY GZ]
abbrev BH(g:Gr)(v:List Bool)(rest:Ob)(x y:Nat):List Ob:=uF g v++[rest,.cells [.list false g.ka (List.map df g.ands)],.bA true,
 .loop .busy .none ow [U,.ptr 3 0,.ptr 4 0,.ptr 7 0,U,U,U,U,U,U,U,U,U,U,U,U,U,U,U,U,U,U,U,U,U,U,U,U,U,U,U,U,U,U,U,U,U,U,U,U,U,U,U,U,U,U,U,U,U,U] [27,28] GY GZ,
 .cells [.int .i64 x,.int .i64 y]]
theorem OC(g:Gr)(v:List Bool)(hv:v.length=g.all)(rest:Ob)(x y z:Nat)(hz:z/2<g.all)(hz2:(z:Int)<2^40):∀up,AM.Reach Tryz.prog Γ ((ji.yl 6).cfg [.int .i64 z] up (BH g v rest x y)) (.back up (.bool true) (BH g (v.set (z/2) true) rest x y)):=by
 intro up;simp;refine .aU 60 ?_;simp(disch:=omega) [hv,hz,-Int.natCast_ediv,-Int.natCast_emod,-Int.natCast_add]
set_option maxRecDepth 8000 in
theorem aeZ(g:Gr)(ok:g.Ok)(L:List Int):∀i:Nat,i<=g.ands.length->∀v:List Bool,v.length=g.all->
 aw Tryz.prog Γ (yCF (.cS 11) (.ptr 9 0) (.int .i64 ((i:Int)-1)) (afl g v (.row 1 aq (L.map i64) none true false)) ⟨[],.norm,12,ad6 g⟩) (.ret (.own 1 aZ ((iD g.ands g.first i v).map .bool))):=by
 have o1:=ok.ins;have o3:=ok.sum;have hf:=p1 (Γ:=Γ) g o1.1 o1.2 (by omega);intro i
 induction i with
 |zero=>
  intro hi v hv;refine .go 60 ?_;simp;exact .back (by simp[iD,hv])
 |succ i ih=>
  intro hi v hv
  have q1:i<g.ands.length:=by omega
  have e0:((i+1:Nat):Int)-1=i:=by omega
  rw[e0];obtain⟨⟨b1,b2⟩,b3,b4⟩:=ok.ands i q1;obtain⟨x,hx⟩:=kp b1;obtain⟨y,hy⟩:=kp b3;have q2:=bY (g.ha.of q1);refine .go 60 ?_;simp(disch:=omega) [q1,q2,jY];refine .dr 60 ?_;simp(disch:=omega) [q1,q2];refine .call (by simp) hf ?_
  have e1:(g.first:Int)+i=((g.first+i:Nat):Int):=by omega
  have q3:g.first+i<v.length:=by rw[hv];unfold Gr.all;omega
  have q4:g.first+i<g.all:=by omega
  have hfb:g.first<=8001:=by unfold Gr.first;omega
  have q5:x/2<g.all:=by omega
  have q6:y/2<g.all:=by omega
  rw[iD,bp,bl q3,jP,bp,bl q1,jP,hx,hy];simp only[fV]
  by_cases hb:v[g.first+i]=true
  ·rw[if_pos hb];have hh:=ih (by omega) ((v.set (x/2) true).set (y/2) true) (by simp[hv]);simp(disch:=omega) [e1,q3,q4,hb,hv,hx,hy,q5,-Int.natCast_ediv,-Int.natCast_emod,-Int.natCast_add];have k1:=OC (Γ:=Γ) g v hv (.row 1 aq (L.map i64) none true false) x y x q5 (by omega);have k2:=OC (Γ:=Γ) g (v.set (x/2) true) (by simp[hv]) (.row 1 aq (L.map i64) none true false) x y y q6 (by omega);refine .go (.bool true) (BH g (v.set (x/2) true) (.row 1 aq (L.map i64) none true false) x y) k1 ?_;simp(disch:=omega) [hb,hv,hx,hy,q5,q6,-List.map_set,-Int.natCast_ediv,-Int.natCast_emod,-Int.natCast_add];refine .go (.bool true) (BH g ((v.set (x/2) true).set (y/2) true) (.row 1 aq (L.map i64) none true false) x y) k2 ?_;simp(disch:=omega) [hb,hv,hx,hy,q5,q6,-List.map_set,-Int.natCast_ediv,-Int.natCast_emod,-Int.natCast_add];refine .aH ?_;simp
   refine .drop 12 rfl (by simp) (by simp) (by simp) ?_;simp[e0]at hh⊢;exact hh
  ·rw[if_neg hb];have hh:=ih (by omega) v hv;simp(disch:=omega) [e1,q3,q4,hb,hv,-Int.natCast_add];refine .aH ?_;simp;refine .drop 12 rfl (by simp) (by simp) (by simp) ?_;simp[e0]at hh⊢;exact hh
set_option maxRecDepth 8000 in
theorem ad7(g:Gr)(ok:g.Ok)(v0:List Bool)(hv0:v0.length=g.all)(L:List Int):aw Tryz.prog Γ (IT (.ptr 3 0) (.ptr 4 0) (.ptr 7 0) (uF g v0++[.row 1 aq (L.map i64) none true false]) ⟨[],.norm,7,xv g⟩) (.ret (.own 1 aZ ((iD g.ands g.first g.ands.length v0).map .bool))):=by
 have o3:=ok.sum;have o1:=ok.ins;refine .go 60 ?_;simp;refine .enter 60 TM ?_;simp;refine .enter 60 TE ?_;simp(disch:=omega);refine .inLoop ?_;have hh:=aeZ (Γ:=Γ) g ok L g.ands.length (by omega) v0 hv0;simp at hh⊢;exact hh
set_option maxRecDepth 8000 in
theorem afq(g:Gr)(ok:g.Ok):aw Tryz.prog Γ (.fr ⟨.run,rC,[.ops [],.code (.seq (.seq (.ae Rp) (.block 0 [] Ss)) (.seq (.ae Ho) .ret))],
 [eN g,.ptr 0 0,U,.ptr 2 0,U,U,U,U,U,U,U,U,U,U,U,U,U,U,U,U,U],[],.norm,0⟩ [] [cD g,.row 1 aZ (List.replicate g.all (.bool false)) none true false,.cells [.sl 1 0 g.all]]) (.ret (.own 1 aZ (g.bj.map .bool))):=by
 have o1:=ok.ins;have o3:=ok.sum;refine .go 60 ?_;simp;refine .enter 60 VO ?_;simp;refine .enter 60 Vf ?_;simp
 have hcat:=T' (Γ:=Γ) [(g.kn,g.next),(g.ko,g.outs)] (by
  intro x hx;simp only[bu,pR,pG]at hx
  rcases hx with rfl|rfl
  ·exact g.hn
  ·exact g.ho) (by simp) (by simp[cC];have:=ok.lF;omega)
 simp[cC]at hcat;refine .call 60 (by simp) hcat ?_;simp;refine .inLoop ?_
 have hL:∀a∈g.next++g.outs,0<=a/\a<(g.lits:Int):=by
  intro a ha
  rcases bm.1 ha with ha|ha
  ·exact ok.next a ha
  ·exact ok.outs a ha
 have hh:=aeW (Γ:=Γ) g ok (g.next++g.outs) hL (by simp;have:=ok.lF;omega) (List.replicate g.all false) (by simp)
  (ad7 g ok _ (by rw[wv];simp) _) (g.next++g.outs).length 0 (by omega) _ rfl
 simp[g_]at hh⊢;exact hh
set_option maxRecDepth 20000 in
set_option maxHeartbeats 2000000 in
theorem aaj(g:Gr)(ok:g.Ok):aL Tryz.prog Γ rC [eN g] (.own 1 aZ (g.bj.map .bool)):=by
 have o1:=ok.ins;have o3:=ok.sum;refine .run 60 aad (by simp) ?_;simp;refine .ogO 60 ?_;simp only[bX,dt,iP,Nat.reduceAdd,adX];have hf:=p1 (Γ:=Γ) g o1.1 o1.2 (by omega)
 have e1:(g.first:Int)+g.ands.length=(g.all:Int):=by unfold Gr.all;omega
 have hall:g.all<=12001:=by unfold Gr.all Gr.first;omega
 have hgen:=afq (Γ:=Γ) g ok;intro l hl;simp only[bu,pR,pG]at hl
 rcases hl with rfl|rfl|rfl|rfl|rfl|rfl|rfl|rfl|rfl|rfl|rfl|rfl|rfl|rfl|rfl|rfl|rfl|rfl|rfl|rfl|rfl|rfl|rfl|rfl|rfl|rfl|rfl|rfl|rfl|rfl|rfl|rfl|rfl|rfl|rfl|rfl|rfl|rfl|rfl|rfl|rfl|rfl|rfl|rfl|rfl|rfl|rfl|rfl|rfl|rfl|rfl|rfl|rfl|rfl|rfl|rfl|rfl|rfl|rfl|rfl|rfl|rfl|rfl|rfl|rfl|rfl|rfl|rfl|rfl|rfl|rfl|rfl|rfl|rfl|rfl|rfl|rfl|rfl|rfl|rfl
 all_goals
  simp;refine .xj 60 (by simp) hf ?_;simp(disch:=(first|omega|(simp;omega))) [e1];refine .lK [2,5,6,7,8,9,10,11] ?_;simp
  first
   |(refine .gc 1 [1,2] (by simp) (by decide) ?_;simp;exact hgen)
   |(refine .gc 1 [3,1] (by simp) (by decide) ?_;simp;exact hgen)
end Go.Proofs.YtihmomicdpkabaaGreatDoor
namespace Go.Proofs.YtihmomicdpkabaaGreatDoor
open Go.AM Go.Proofs
def ids(n:Nat):List Nat:=(List.range n).map (2*·)
@[simp] theorem NW(n:Nat):(ids n).length=n:=by simp[ids]
theorem abT(n:Nat):ids (n+1)=ids n++[2*n]:=by simp[ids,List.range_succ]
def iE(first:Nat):List (Int×Int)->List (Int×Int)->List Nat->List (Int×Int)×List Nat
 |[],l,to=>(l,to)
 |p::ps,l,to=>iE first ps (bM first l (bC to p.1.toNat) (bC to p.2.toNat)).1 (to++[(bM first l (bC to p.1.toNat) (bC to p.2.toNat)).2])
def ee(first:Nat)(bj:List Bool):List (Int×Int)->Nat->List (Int×Int)->List Nat->List (Int×Int)×List Nat
 |[],_,l,to=>(l,to)
 |p::ps,i,l,to=>
  if bj.getD (first+i) false=true then ee first bj ps (i+1) (bM first l (bC to p.1.toNat) (bC to p.2.toNat)).1 (to++[(bM first l (bC to p.1.toNat) (bC to p.2.toNat)).2])
  else ee first bj ps (i+1) l (to++[0])
def Gr.dC(g:Gr)(r:List (Int×Int)×List Nat):Gr:=⟨g.ins,(eA r.2 g.next).map fun n:Nat=>(n:Int),g.init,r.1,(eA r.2 g.outs).map fun n:Nat=>(n:Int),1,1,2,1,.self,.self,.self,.self⟩
def Gr.gy(g:Gr):Gr:=g.dC (iE g.first g.ands [] (ids g.first))
def Gr.dN(x:Gr):Gr:=x.dC (ee x.first x.bj x.ands 0 [] (ids x.first))
def Gr.normal(g:Gr):Gr:=if g.check=0 then g.gy.dN else fv
structure mC(first:Nat)(l:List (Int×Int))(to:List Nat):Prop where
 lt:∀x∈to,x<2*(first+l.length)
theorem ui{first:Nat}{l:List (Int×Int)}{a b:Nat}(ha:a<2*(first+l.length))(hb:b<2*(first+l.length))(h1:1<=first):
 (bM first l a b).2<2*(first+(bM first l a b).1.length)/\l.length<=(bM first l a b).1.length:=by
 unfold bM
 split
 ·rename_i c hc;unfold kT at hc;refine⟨?_,aR _⟩;simp only
  split at hc
  ·cases hc;omega
  ·split at hc
   ·cases hc;omega
   ·cases hc
 ·split
  ·rename_i i hi;obtain⟨_,h2,_⟩:=En hi;exact⟨by simp only;omega,aR _⟩
  ·exact⟨by simp only[bN,bX,dt];omega,by simp⟩
theorem m9{to:List Nat}{B a:Nat}(h:∀x∈to,x<2*B)(ha:a/2<to.length):bC to a<2*B:=by
 have h1:=h _ (bz ha);unfold bC;rw[bp,bl ha,jP]
 rcases(show a%2=0\/a%2=1 by omega)with h2|h2
 ·rw[h2,Dc];exact h1
 ·rw[h2,oN];split<;>omega
theorem Od(x:Gr):x.bj.length=x.all:=by unfold Gr.bj;rw[Lr,wv,pN]
structure iB(first:Nat)(l:List (Int×Int)):Prop where
 at_:∀i(h:i<l.length),∃p q:Nat,l[i]=((p:Int),(q:Int))/\2<=q/\q<p/\p/2≠q/2/\p<2*(first+i)
 nd:l.Nodup
theorem L0(first:Nat):iB first []:=⟨fun i h=>by simp at h,List.nodup_nil⟩
theorem iB.push{first:Nat}{l:List (Int×Int)}(h:iB first l){a b:Nat}(ha:a<2*(first+l.length))(hb:b<2*(first+l.length)):iB first (bM first l a b).1:=by
 unfold bM
 split
 ·exact h
 ·rename_i hk
  split
  ·exact h
  ·rename_i hi;obtain⟨k1,k2,k3,k4⟩:=LX hk
   have hle:min a b<=max a b:=by omega
   have hx:=oN (max a b);refine⟨fun i hi2=>?_,?_⟩
   ·by_cases hil:i<l.length
    ·obtain⟨p,q,e,r⟩:=h.at_ i hil;exact⟨p,q,by simp only;rw[I6 hil];exact e,r⟩
    ·have e0:i=l.length:=by simp at hi2;omega
     subst e0;refine⟨max a b,min a b,by simp,by omega,by omega,?_,by omega⟩;intro hd;apply k2;rw[hx]
     split<;>omega
   ·rw[sN];refine⟨h.nd,by simp,?_⟩;intro x hx2 y hy he;subst he;simp at hy;subst hy;exact(EA.1 hi) hx2
theorem Nj(first:Nat)(h1:1<=first):∀(ps l:List (Int×Int))(to:List Nat),iB first l->mC first l to->(∀i(h:i<ps.length),ps[i].1.toNat/2<to.length+i/\ps[i].2.toNat/2<to.length+i)->
 iB first (iE first ps l to).1/\mC first (iE first ps l to).1 (iE first ps l to).2/\(iE first ps l to).2.length=to.length+ps.length/\(iE first ps l to).1.length<=l.length+ps.length
 |[],l,to,hl,ht,_=>⟨hl,ht,rfl,aR _⟩
 |p::ps,l,to,hl,ht,hp=>by
  have h0:=hp 0 (by simp);simp only[Dd,gX]at h0;have ha:=m9 ht.lt h0.1;have hb:=m9 ht.lt h0.2;obtain⟨hlt,hge⟩:=ui ha hb h1
  have hlen:=Aw first l (bC to p.1.toNat) (bC to p.2.toNat)
  rw[iE]
  obtain⟨a1,a2,a3,a4⟩:=Nj first h1 ps (bM first l (bC to p.1.toNat) (bC to p.2.toNat)).1 (to++[(bM first l (bC to p.1.toNat) (bC to p.2.toNat)).2]) (hl.push ha hb) ⟨fun z hz=>by
   rcases bm.1 hz with hz|hz
   ·have:=ht.lt z hz;omega
   ·simp at hz;omega⟩ (fun i hi=>by
   have:=hp (i+1) (by simpa using hi);simp only[sM]at this
   simp;omega)
  refine⟨a1,a2,by rw[a3];simp;omega,by simp only[bX];omega⟩
theorem Fg(first:Nat)(h1:1<=first)(bj:List Bool):∀(ps:List (Int×Int))(i:Nat)(l:List (Int×Int))(to:List Nat),iB first l->mC first l to->(∀i(h:i<ps.length),ps[i].1.toNat/2<to.length+i/\ps[i].2.toNat/2<to.length+i)->
 iB first (ee first bj ps i l to).1/\mC first (ee first bj ps i l to).1 (ee first bj ps i l to).2/\(ee first bj ps i l to).2.length=to.length+ps.length/\(ee first bj ps i l to).1.length<=l.length+ps.length
 |[],i,l,to,hl,ht,_=>⟨hl,ht,rfl,aR _⟩
 |p::ps,i,l,to,hl,ht,hp=>by
  have h0:=hp 0 (by simp);simp only[Dd,gX]at h0;have ha:=m9 ht.lt h0.1;have hb:=m9 ht.lt h0.2;obtain⟨hlt,hge⟩:=ui ha hb h1
  have hlen:=Aw first l (bC to p.1.toNat) (bC to p.2.toNat)
  rw[ee]
  split
  ·obtain⟨a1,a2,a3,a4⟩:=Fg first h1 bj ps (i+1) (bM first l (bC to p.1.toNat) (bC to p.2.toNat)).1 (to++[(bM first l (bC to p.1.toNat) (bC to p.2.toNat)).2]) (hl.push ha hb) ⟨fun z hz=>by
    rcases bm.1 hz with hz|hz
    ·have:=ht.lt z hz;omega
    ·simp at hz;omega⟩ (fun i hi=>by
    have:=hp (i+1) (by simpa using hi);simp only[sM]at this
    simp;omega)
   refine⟨a1,a2,by rw[a3];simp;omega,by simp only[bX];omega⟩
  ·obtain⟨a1,a2,a3,a4⟩:=Fg first h1 bj ps (i+1) l (to++[0]) hl ⟨fun z hz=>by
    rcases bm.1 hz with hz|hz
    ·exact ht.lt z hz
    ·simp at hz;omega⟩ (fun i hi=>by
    have:=hp (i+1) (by simpa using hi);simp only[sM]at this
    simp;omega)
   refine⟨a1,a2,by rw[a3];simp;omega,by simp only[bX];omega⟩
theorem Fv{g:Gr}(ok:g.Ok):∀i(h:i<g.ands.length),g.ands[i].1.toNat/2<(ids g.first).length+i/\g.ands[i].2.toNat/2<(ids g.first).length+i:=by
 intro i h;have:=ok.ands i h
 simp;omega
theorem Bi(first:Nat):mC first [] (ids first):=⟨fun z hz=>by simp[ids]at hz;obtain⟨a,ha,rfl⟩:=hz;simp;omega⟩
theorem OA{g:Gr}(ok:g.Ok){l:List (Int×Int)}{to:List Nat}(hl:iB g.first l)(ht:mC g.first l to)(h1:to.length=g.all)(h2:l.length<=g.ands.length):(g.dC (l,to)).Ok:=by
 have o1:=ok.ins;have o3:=ok.sum
 have hb:∀a:Int,0<=a->a<g.lits->bC to a.toNat<2*(g.first+l.length):=fun a h3 h4=>m9 ht.lt (by have:g.lits=2*g.all:=rfl;omega)
 have hfst:(g.dC (l,to)).first=g.first:=by simp[Gr.first,Gr.dC]
 have hlits:(g.dC (l,to)).lits=2*(g.first+l.length):=by simp only[Gr.lits,Gr.all,hfst];rfl
 refine⟨o1,by simp[Gr.dC];omega,by simp[Gr.dC];exact ok.lF,by simp[Gr.dC];exact ok.same,ok.init,?_,?_,?_⟩
 ·intro a ha;rw[hlits];simp only[Gr.dC,cI,eA]at ha;obtain⟨n,⟨b,hb2,rfl⟩,rfl⟩:=ha;have h3:=ok.next b hb2;have:=hb b h3.1 h3.2;omega
 ·intro a ha;rw[hlits];simp only[Gr.dC,cI,eA]at ha;obtain⟨n,⟨b,hb2,rfl⟩,rfl⟩:=ha;have h3:=ok.outs b hb2;have:=hb b h3.1 h3.2;omega
 ·intro i hi;rw[hfst];obtain⟨p,q,e,r1,r2,r3,r4⟩:=hl.at_ i hi;have e2:(g.dC (l,to)).ands[i]=((p:Int),(q:Int)):=e;rw[e2];simp only;omega
theorem A5{g:Gr}(ok:g.Ok):g.gy.Ok/\iB g.first g.gy.ands/\g.gy.ands.length<=g.ands.length:=by
 have o1:=ok.ins
 obtain⟨a1,a2,a3,a4⟩:=Nj g.first (by unfold Gr.first;omega) g.ands [] (ids g.first) (L0 _) (Bi _) (Fv ok)
 refine⟨OA ok a1 a2 (by rw[a3];simp[Gr.all]) (by simpa using a4),a1,?_⟩;rw[dt,iP]at a4;exact a4
theorem A0{g:Gr}(ok:g.Ok):g.dN.Ok/\iB g.first g.dN.ands/\g.dN.ands.length<=g.ands.length:=by
 have o1:=ok.ins
 obtain⟨a1,a2,a3,a4⟩:=Fg g.first (by unfold Gr.first;omega) g.bj g.ands 0 [] (ids g.first) (L0 _) (Bi _) (Fv ok)
 refine⟨OA ok a1 a2 (by rw[a3];simp[Gr.all]) (by simpa using a4),a1,?_⟩;rw[dt,iP]at a4;exact a4
end Go.Proofs.YtihmomicdpkabaaGreatDoor
namespace Go.Proofs.YtihmomicdpkabaaGreatDoor
open Go.AM Go.Proofs
variable{Γ:Nat->Option AV}
theorem X1(a b c d:Int):cn (.jb [.int,.int]) (.agg [.int .i64 a,.int .i64 b]) (.agg [.int .i64 c,.int .i64 d])=some (decide ((a,b)=(c,d))):=Ep (a,b) (c,d)
theorem TY(a b:List (Int×Int)){ka kb:Nat}(ha:Kd 2 ka a)(hb:Kd 2 kb b)(hs:a.length<2^60):aL Tryz.prog Γ vw [.list false ka (a.map df),.list false kb (b.map df)] (.bool (decide (a=b))):=by
 refine .run 60 T0 (by simp) ?_
 by_cases hl:a.length=b.length
 ·have key:∀n i:Nat,i+n=a.length->aw Tryz.prog Γ (yma (.list false ka (a.map df)) (.list false kb (b.map df)) (.int .i64 a.length) (.int .i64 i) []) (.ret (.bool (decide (a.drop i=b.drop i)))):=by
   intro n
   induction n with
   |zero=>
    intro i hi;refine .go 60 ?_
    have h1:¬i<a.length:=by omega
    have h2:a.drop i=b.drop i:=by rw[bw (by omega),bw (by omega)]
    simp[h1,h2];exact .back (by simp)
   |succ n ih=>
    intro i hi
    have h1:i<a.length:=by omega
    have h2:i<b.length:=by omega
    obtain rfl:=ha.of h1;obtain rfl:=hb.of h2;have h4:=drop_eq h1 h2;have h5:=X1 a[i].1 a[i].2 b[i].1 b[i].2;refine .go 60 ?_
    by_cases h3:a[i]=b[i]
    ·have h6:((a[i].1,a[i].2)=(b[i].1,b[i].2))=True:=bY h3;have h7:(a[i]=b[i])=True:=bY h3;simp(disch:=omega) [h1,h2,h7,h4,h5,h6,-Prod.mk.injEq];refine .aH ?_;have hh:=ih (i+1) (by omega);simp at hh⊢;exact hh
    ·have h6:((a[i].1,a[i].2)=(b[i].1,b[i].2))=False:=iu h3;simp(disch:=omega) [h1,h2,h3,h4,h5,h6,-Prod.mk.injEq];exact .back (by simp)
  simp[hl];refine .inLoop ?_;have hh:=key a.length 0 (by omega);simp[hl]at hh⊢;exact hh
 ·have h2:¬a=b:=fun e=>hl (by rw[e])
  simp[hl,h2];exact .back (by simp)
def w_(a b:Gr):Bool:=decide (a.ins=b.ins)&&decide (a.next=b.next)&&decide (a.init=b.init)&&decide (a.ands=b.ands)&&decide (a.outs=b.outs)
theorem KT(a b:Gr)(ha:a.iK):aL Tryz.prog Γ wc [eN a,eN b] (.bool (w_ a b)):=by
 have f1:=ha.1;have f2:=ha.2.1;have f3:=ha.2.2.1;have f4:=ha.2.2.2
 refine .run 60 Yz (by simp) ?_;unfold w_
 by_cases h1:a.ins=b.ins
 ·simp[h1];refine .call 60 (by simp) (Dm a.next b.next a.hn b.hn (by omega)) ?_
  by_cases h2:a.next=b.next
  ·have h2':=bY h2;simp[h2'];refine .call 60 (by simp) (Dm a.init b.init a.hi b.hi (by omega)) ?_
   by_cases h3:a.init=b.init
   ·have h3':=bY h3;simp[h3'];refine .call 60 (by simp) (TY a.ands b.ands a.ha b.ha (by omega)) ?_
    by_cases h4:a.ands=b.ands
    ·have h4':=bY h4;simp[h4'];refine .call 60 (by simp) (Dm a.outs b.outs a.ho b.ho (by omega)) ?_;simp;exact .back (by simp)
    ·simp[h4];exact .back (by simp)
   ·simp[h3];exact .back (by simp)
  ·simp[h2];exact .back (by simp)
 ·simp[h1];exact .back (by simp)
def Gr.PE(g:Gr)(i:Nat):Bool:=
 decide ((g.ands.getD i (0,0)).1<=(g.ands.getD i (0,0)).2)||decide ((g.ands.getD i (0,0)).2<=1)||decide ((g.ands.getD i (0,0)).1.toNat/2=(g.ands.getD i (0,0)).2.toNat/2)||!g.bj.getD (g.first+i) false||decide (g.ands.getD i (0,0)∈g.ands.take i)
def Gr.strict(g:Gr):Bool:=decide (g.check=0)&&!bt g.PE (List.range g.ands.length)
end Go.Proofs.YtihmomicdpkabaaGreatDoor
namespace Go.Proofs.YtihmomicdpkabaaGreatDoor
open Go.AM Go.Proofs
theorem aa6{l:List (Int×Int)}{n:Nat}(h:∀i(hi:i<l.length),(0<=l[i].1/\l[i].1<2*(n+i))/\0<=l[i].2/\l[i].2<2*(n+i)):ng l n=false:=by
 induction l generalizing n with
 |nil=>rfl
 |cons p l ih=>
  have h0:=h 0 (by simp);simp only[Dd]at h0;simp only[ng,jQ,eo,jn];refine⟨by omega,ih fun i hi=>?_⟩;have:=h (i+1) (by simpa using hi);simp only[sM]at this;omega
theorem Gr.tS{g:Gr}(ok:g.Ok):g.check=0:=by
 obtain⟨h1,h2,h3,h4,h5,h6,h7,h8⟩:=ok;unfold Gr.check
 have e1:g.lR=false:=by simp[Gr.lR];omega
 have e2:bt sm g.init=false:=m5.2 fun a ha=>by have:=h5 a ha;simp[sm];omega
 have e3:bt (eo g.lits) g.next=false:=m5.2 fun a ha=>by have:=h6 a ha;simp[eo];omega
 have e4:bt (eo g.lits) g.outs=false:=m5.2 fun a ha=>by have:=h7 a ha;simp[eo];omega
 simp[e1,e2,e3,e4,h4,aa6 h8]
theorem M5(first:Nat)(l:List (Int×Int))(a b:Nat):∃e,(bM first l a b).1=l++e:=by
 unfold bM
 split
 ·exact⟨[],by simp⟩
 ·split
  ·exact⟨[],by simp⟩
  ·exact⟨_,rfl⟩
theorem E6{v:List Bool}{a:Nat}(h:a/2<v.length)(e:List Bool):bF (v++e) a=bF v a:=by
 unfold bF;rw[bp,bp,cV h]
theorem EM:∀(l:List (Int×Int))(v:List Bool),∃e,bK l v=v++e
 |[],v=>⟨[],by simp[bK]⟩
 |p::ps,v=>by
  obtain⟨e,he⟩:=EM ps (v++[bF v p.1.toNat&&bF v p.2.toNat]);exact⟨[bF v p.1.toNat&&bF v p.2.toNat]++e,by rw[bK,he,fY]⟩
theorem tN(l:List (Int×Int)){v:List Bool}{a:Nat}(h:a/2<v.length):bF (bK l v) a=bF v a:=by
 obtain⟨e,he⟩:=EM l v;rw[he,E6 h]
theorem K1(w:List Bool)(x:Bool){n:Nat}(h:n=2*w.length):bF (w++[x]) n=x:=by
 subst h;unfold bF
 have e1:2*w.length/2=w.length:=by omega
 have e2:¬2*w.length%2=1:=by omega
 rw[e1,bp];simp[e2]
theorem EH{l:List (Int×Int)}{v:List Bool}{i:Nat}(hi:i<l.length)(h1:l[i].1.toNat/2<v.length+i)(h2:l[i].2.toNat/2<v.length+i):
 bF (bK l v) (2*(v.length+i))=(bF (bK l v) l[i].1.toNat&&bF (bK l v) l[i].2.toNat):=by
 have e:l=l.take i++(l[i]::l.drop (i+1)):=by rw[<-bQ hi,lU]
 have hl:(bK (l.take i) v).length=v.length+i:=by rw[rA,fW];omega
 have e2:bK l v=bK (l.drop (i+1)) (bK (l.take i) v++[bF (bK (l.take i) v) l[i].1.toNat&&bF (bK (l.take i) v) l[i].2.toNat]):=by
  conv=>lhs;rw[e,tg,bK]
 generalize bK (l.take i) v=w at*
 have s:∀c,c/2<w.length+1->bF (bK l v) c=bF (w++[bF w l[i].1.toNat&&bF w l[i].2.toNat]) c:=fun c hc=>by
  rw[e2];exact tN _ (by rw[bN];exact hc)
 rw[s (2*(v.length+i)) (by omega),s l[i].1.toNat (by omega),s l[i].2.toNat (by omega),K1 _ _ (by omega),E6 (by omega),E6 (by omega)]
theorem AH{v:List Bool}{a:Nat}:bF v (a^^^1)=!bF v a:=by
 rw[oN];unfold bF
 split
 ·rename_i h
  have e1:(a+1)/2=a/2:=by omega
  have e2:(a+1)%2=1:=by omega
  rw[e1];simp[h,e2]
 ·rename_i h
  have e1:(a-1)/2=a/2:=by omega
  have e2:¬(a-1)%2=1:=by omega
  have e3:a%2=1:=by omega
  rw[e1];simp[e2,e3]
theorem abZ{v:List Bool}(h:bF v 0=false):bF v 1=true:=by
 have:=AH (v:=v) (a:=0)
 rw[h]at this;exact this
def n_(first:Nat)(l:List (Int×Int)):Prop:=∀i(h:i<l.length),(0<=l[i].1/\l[i].1<2*(first+i))/\0<=l[i].2/\l[i].2<2*(first+i)
theorem n_.push{first:Nat}{l:List (Int×Int)}(h:n_ first l){p:Int×Int}(hp:(0<=p.1/\p.1<2*(first+l.length))/\0<=p.2/\p.2<2*(first+l.length)):n_ first (l++[p]):=by
 intro i hi
 by_cases h2:i<l.length
 ·rw[I6 h2];exact h i h2
 ·have e:i=l.length:=by simp at hi;omega
  subst e;simp only[C9 (aR _),C_,Dd];omega
theorem n_.and{first:Nat}{l:List (Int×Int)}(h:n_ first l){a b:Nat}(ha:a<2*(first+l.length))(hb:b<2*(first+l.length)):n_ first (bM first l a b).1:=by
 unfold bM
 split
 ·exact h
 ·split
  ·exact h
  ·refine h.push ?_;have:=Nat.max_lt.2 ⟨ha,hb⟩
   have:min a b<=max a b:=by omega
   simp only;omega
theorem Mo{first:Nat}{l:List (Int×Int)}{v:List Bool}(hv:v.length=first)(hz:bF v 0=false)(h1:1<=first)(wf:n_ first l){a b:Nat}(ha:a<2*(first+l.length))(hb:b<2*(first+l.length)):
 bF (bK (bM first l a b).1 v) (bM first l a b).2=(bF (bK l v) a&&bF (bK l v) b):=by
 have hz2:bF (bK l v) 0=false:=by rw[tN _ (by omega)];exact hz
 have hM:max a b<2*(first+l.length):=Nat.max_lt.2 ⟨ha,hb⟩
 have hm:min a b<2*(first+l.length):=by omega
 have hL:(bK l v).length=first+l.length:=by rw[rA,hv]
 have key:(bF (bK l v) a&&bF (bK l v) b)=(bF (bK l v) (max a b)&&bF (bK l v) (min a b)):=by
  rcases Nat.le_total a b with h|h
  ·rw[Nat.max_eq_right h,qO h,Bool.and_comm]
  ·rw[Nat.max_eq_left h,Nat.min_eq_right h]
 rw[key];unfold bM;generalize max a b=p at*;generalize min a b=q at*
 cases hk:kT p q with
 |some c=>
  simp only;unfold kT at hk
  split at hk
  ·rename_i h2
   cases hk
   rw[hz2]
   rcases h2 with rfl|rfl
   ·rw[hz2,Bool.and_false]
   ·rw[AH];cases bF (bK l v) p<;>rfl
  ·split at hk
   ·rename_i h2
    cases hk
    rcases h2 with rfl|rfl
    ·rw[abZ hz2,oi]
    ·rw[mQ]
   ·cases hk
 |none=>
  simp only
  cases hi:gp ((p:Int),(q:Int)) l 0 with
  |some i=>
   simp only;obtain⟨_,h2,h3⟩:=En hi;simp only[C7]at h2 h3;have hw:=wf i h2;have:=EH (v:=v) h2 (by omega) (by omega);rw[hv,h3]at this;exact this
  |none=>
   simp only;rw[tg,bK,bK];rw[K1 _ _ (by omega)];rfl
theorem aaP{first:Nat}{l:List (Int×Int)}{v:List Bool}(hv:v.length=first){a b c:Nat}(hc:c<2*(first+l.length)):bF (bK (bM first l a b).1 v) c=bF (bK l v) c:=by
 obtain⟨e,he⟩:=M5 first l a b
 rw[he,tg,tN _ (by rw[rA];omega)]
structure ae8(g:Gr)(a b:Int):Prop where
 ok:g.Ok
 a1:0<=a/\a<g.lits
 b1:0<=b/\b<g.lits
 R:g.eC a b=g.jg (bM g.first g.ands a.toNat b.toNat).1
 C:g.fq a b=(bM g.first g.ands a.toNat b.toNat).2
 qH:(g.eC a b).Ok
 lt:g.fq a b<(g.eC a b).lits
 le:g.lits<=(g.eC a b).lits
theorem Pm{g:Gr}{a b:Int}(h:g.kU a b=0):ae8 g a b:=by
 have hR:g.eC a b=g.jg (bM g.first g.ands a.toNat b.toNat).1:=by unfold Gr.eC;rw[if_pos h]
 have hC:g.fq a b=(bM g.first g.ands a.toNat b.toNat).2:=by unfold Gr.fq;rw[if_pos h]
 unfold Gr.kU at h
 split at h
 ·contradiction
 ·rename_i hc;have ok:=Gr.qn (I4.1 hc)
  split at h
  ·cases h
  ·rename_i hl;rw[not_or]at hl;obtain⟨a1,a2⟩:=hl;simp[eo]at a1 a2
   split at h
   ·cases h
   ·rename_i hs;have hlits:g.lits=2*(g.first+g.ands.length):=rfl
    have ha:a.toNat<2*(g.first+g.ands.length):=by omega
    have hb:b.toNat<2*(g.first+g.ands.length):=by omega
    have h1:1<=g.first:=by unfold Gr.first;omega
    obtain⟨l1,l2⟩:=ui ha hb h1
    have wf:n_ g.first (bM g.first g.ands a.toNat b.toNat).1:=n_.and ok.ands ha hb
    have hl2:(g.jg (bM g.first g.ands a.toNat b.toNat).1).lits=2*(g.first+(bM g.first g.ands a.toNat b.toNat).1.length):=rfl;refine⟨ok,by omega,by omega,hR,hC,?_,?_,?_⟩
    ·rw[hR];refine⟨ok.ins,by simp only;omega,ok.lF,ok.same,ok.init,fun x hx=>?_,fun x hx=>?_,wf⟩
     ·rw[hl2];have:=ok.next x hx;omega
     ·rw[hl2];have:=ok.outs x hx;omega
    ·rw[hC,hR,hl2];exact l1
    ·rw[hR,hl2,hlits];omega
end Go.Proofs.YtihmomicdpkabaaGreatDoor
namespace Go.Proofs.YtihmomicdpkabaaGreatDoor
open Go.AM Go.Proofs
variable{Γ:Nat->Option AV}
abbrev Gz(p s:List Ob)(c0 c1 c2 c3 c4 c5:AV)(i:Nat):List Ob:=p++.cells [c0,c1,c2,c3,c4,c5,.sl (p.length+(s.length+1)) 0 i]::(s++[.row 1 aq ((ids i).map iN) none true false])
theorem O6(p s:List Ob)(c0 c1 c2 c3 c4 c5:AV)(f:Nat)(hf:f<2^20)(hp:∀m,cH (p.length+(s.length+1)) m p=true)(hs:∀m,cH (p.length+(s.length+1)) m s=true)
 (hc:∀m,c9 (p.length+(s.length+1)) m [c0,c1,c2,c3,c4,c5]=true)(base:Nat)(hb:base<=p.length+(s.length+1))(up:List Fr)(ds:List dm)(hds:ds=[]):
 ∀n i:Nat,i+n=f->AM.Reach Tryz.prog Γ (yoz (.ptr p.length 0) (.int .i64 f) (.int .i64 i) (Gz p s c0 c1 c2 c3 c4 c5 i) ⟨ds,.norm,base,up⟩)
  (yoA (.ptr p.length 0) (Gz p s c0 c1 c2 c3 c4 c5 f) ⟨ds,.norm,base,up⟩):=by
 subst hds;intro n
 induction n with
 |zero=>
  intro i hi
  obtain rfl:i=f:=by omega
  refine .dh 60 ?_;simp;exact .exit rfl rfl
 |succ n ih=>
  intro i hi
  have q1:(i:Int)<f:=by omega
  have hh:=ih (i+1) (by omega);have h1:=hp (i+1);have h2:=hs (i+1);have h3:=hc (i+1);simp only[c9,av,oi]at h3;obtain⟨w0,w1,w2,w3,w4,w5⟩:=h3;refine .dh 60 ?_;simp(disch:=(first|omega|(simp;omega))) [q1];refine .aH ?_;simp
  have e1:(List.map iN (ids i)++[AV.int .i64 (2*(i:Int))]).length=i+1:=by simp
  refine .lq (i:=p.length+(s.length+1)) (by simp;exact⟨rfl,rfl,rfl,rfl,rfl⟩) (by simpa using hb) (by simp) (by rw[e1];simp[h1,h2,w0,w1,w2,w3,w4,w5]) ?_;rw[Gz,abT]at hh;simp at hh⊢;exact hh
theorem M8(ins:Int)(x1 x2:AV)(h1:(∃f k l,x1=.list f k l)\/∃i o n,x1=.sl i o n)(h2:(∃f k l,x2=.list f k l)\/∃i o n,x2=.sl i o n)(h:List Ob):∀up,AM.Reach Tryz.prog Γ (.cl rm [.agg [.int .i64 ins,x1,x2,.list true 0 [],.list true 0 []]] up h)
 (.back up (.ptr (h.length+2) 0) (h++[.cells [.int .i64 ins,x1,x2,.list true 0 [],.list true 0 []],.map [] true,.cells [.int .i64 ins,x1,x2,.sl (h.length+3) 0 0,.list true 0 [],.mp (h.length+1),.list true 0 []],.row 2 cP [] none true false])):=by
 intro up;have hcl:=Jp (Γ:=Γ) (k:=0) [] .nil (by simp)
 rcases h1 with⟨f1,k1,l1,rfl⟩|⟨i1,o1,n1,rfl⟩<;>rcases h2 with⟨f2,k2,l2,rfl⟩|⟨i2,o2,n2,rfl⟩
 all_goals
  refine .br 60 Ka ?_;simp;refine .jB 60 (by simp) hcl ?_;simp;refine .inLoop ?_;refine .aU 60 ?_;simp
abbrev PM(g:Gr):List Ob:=[cD g,.cells [.int .i64 0,.sl 2 0 0,.sl 3 0 0,.sl 4 0 0,.sl 5 0 0],.row 1 aq [] none true false,.row 1 aq [] none true false,.row 2 cP [] none true false,.row 1 aq [] none true false,
 cD g,.row 1 aq (g.init.map i64) none true false,.cells [.int .i64 g.ins,.list false g.kn (g.next.map i64),.sl 7 0 g.init.length,.list true 0 [],.list true 0 []]]
abbrev qv(g:Gr)(es:List ((Int×Int)×Nat))(l:List (Int×Int))(to:List Nat)(q:List Ob):List Ob:=
 PM g++(.map (es.map gk) true::.cells [.int .i64 g.ins,.list false g.kn (g.next.map i64),.sl 7 0 g.init.length,.sl 11 0 l.length,.list true 0 [],.mp 9,.sl 12 0 to.length]::.row 2 cP (l.map df) none true false::.row 1 aq (to.map iN) none true false::q)
set_option maxRecDepth 8000 in
theorem adw(g:Gr)(ok:g.Ok){o:Out}(l1:List (Int×Int))(to1:List Nat)(hfin:iE g.first g.ands [] (ids g.first)=(l1,to1))
 (hc:∀es,jF g.first l1 es->l1.length<=g.ands.length->to1.length=g.all->mC g.first l1 to1->aw Tryz.prog Γ (Hw (.ptr 0 0) (.ptr 1 0) (.ptr 10 0) (qv g es l1 to1 [])) o):
 ∀n i:Nat,i+n=g.ands.length->∀es l to,jF g.first l es->l.length<=i->to.length=g.first+i->mC g.first l to->iE g.first (g.ands.drop i) l to=(l1,to1)->
  aw Tryz.prog Γ (yhr (.ptr 0 0) (.ptr 1 0) (.ptr 10 0) (.list false g.ka (g.ands.map df)) (.int .i64 g.ands.length) (.int .i64 i) (qv g es l to [])) o:=by
 have o1:=ok.ins;have o3:=ok.sum;have o4:=ok.lF
 have hfb:g.first<=8001:=by unfold Gr.first;omega
 have hf1:1<=g.first:=by unfold Gr.first;omega
 intro n
 induction n with
 |zero=>
  intro i hi es l to he hl ht hok hS
  have q1:¬i<g.ands.length:=by omega
  rw[bw (by omega)]at hS;simp only[iE,bP]at hS;obtain⟨rfl,rfl⟩:=hS;refine .reach (.dh 60 (c':=Hw (.ptr 0 0) (.ptr 1 0) (.ptr 10 0) (qv g es l to [])) ?_) (hc es he (by omega) (by unfold Gr.all;omega) hok);simp[q1];exact .exit rfl rfl
 |succ n ih=>
  intro i hi es l to he hl ht hok hS
  have q1:i<g.ands.length:=by omega
  have q2:=bY (g.ha.of q1);rw[bQ q1,iE]at hS;obtain⟨⟨b1,b2⟩,b3,b4⟩:=ok.ands i q1;obtain⟨x,hx⟩:=kp b1;obtain⟨y,hy⟩:=kp b3;rw[hx,hy]at hS;simp only[fV]at hS
  have hx2:x/2<to.length:=by omega
  have hy2:y/2<to.length:=by omega
  have ha:=m9 hok.lt hx2;have hb:=m9 hok.lt hy2;obtain⟨hlt,hge⟩:=ui ha hb hf1
  have hto:∀z∈to,z<2^40:=fun z hz=>by have:=hok.lt z hz;omega
  have k1:=uv (Γ:=Γ) to hto x hx2 (by omega) 10 12 (h:=qv g es l to [.cells [.int .i64 x,.int .i64 y]]) rfl rfl (by simp);have k2:=uv (Γ:=Γ) to hto y hy2 (by omega) 10 12 (h:=qv g es l to [.cells [.int .i64 x,.int .i64 y]]) rfl rfl (by simp)
  have hgl:=Aw g.first l (bC to x) (bC to y)
  obtain⟨es',gr,junk,he',hgr,hjk,k3⟩:=Pl (Γ:=Γ) (p:=PM g) (q:=[.row 1 aq (to.map iN) none true false,.cells [.int .i64 x,.int .i64 y]]) (x1:=.list false g.kn (g.next.map i64)) (x2:=.sl 7 0 g.init.length) (x4:=.list true 0 []) (come:=.sl 12 0 to.length)
   ⟨g.ins,g.next,g.init,[],[],g.kn,1,2,0,g.hn,.self,.self,.nil⟩ o1 (by simp;omega) l (by omega) es he (bC to x) (bC to y) (by omega) (by omega) (fun s=>by simp) (fun s=>by simp) (fun s=>by simp)
  have hfe:(⟨g.ins,g.next,g.init,[],[],g.kn,1,2,0,g.hn,.self,.self,.nil⟩:Gr).first=g.first:=rfl
  rw[hfe]at k3 he'
  have hh:=ih (i+1) (by omega) es' (bM g.first l (bC to x) (bC to y)).1 (to++[(bM g.first l (bC to x) (bC to y)).2]) he' (by omega) (by simp;omega) ⟨fun z hz=>by
   rcases bm.1 hz with hz|hz
   ·have:=hok.lt z hz;omega
   ·simp at hz;omega⟩ hS
  generalize bM g.first l (bC to x) (bC to y)=r at*
  refine .go 60 ?_;simp[q1,q2];refine .dr 60 ?_;simp(disch:=omega) [hx,hy];refine .reach (by simp) k1 ?_;simp(disch:=omega) [hx,hy];refine .reach (by simp) k2 ?_;simp(disch:=omega) [hx,hy];refine .reach (by simp) k3 ?_
  rcases hjk with rfl|⟨jx,jy,rfl⟩
  ·simp(disch:=(first|omega|(simp;omega))) [hx,hy];refine .aH ?_;simp;refine .drop 13 rfl (by simp) (by simp) (by simp) ?_
   have e1:(to.map iN++[AV.int .i64 (r.2:Int)]).length=to.length+1:=by simp
   refine .mc (i:=11) rfl hgr (by simp) (by simp) (by simp) ?_;refine .mc (i:=12) rfl (.inr rfl) (by simp) (by simp) (by rw[e1];simp) ?_;simp at hh⊢;exact hh
  ·simp(disch:=(first|omega|(simp;omega))) [hx,hy];refine .aH ?_;simp;refine .drop 13 rfl (by simp) (by simp) (by simp) ?_
   have e1:(to.map iN++[AV.int .i64 (r.2:Int)]).length=to.length+1:=by simp
   refine .mc (i:=11) rfl hgr (by simp) (by simp) (by simp) ?_;refine .mc (i:=12) rfl (.inr rfl) (by simp) (by simp) (by rw[e1];simp) ?_;simp at hh⊢;exact hh
abbrev Gi(x:Gr):List Ob:=
 [.cells [.int .i64 0,.sl 1 0 0,.sl 2 0 0,.sl 3 0 0,.sl 4 0 0],.row 1 aq [] none true false,.row 1 aq [] none true false,.row 2 cP [] none true false,.row 1 aq [] none true false,
  .cells [.int .i64 x.ins,.sl 6 0 x.next.length,.sl 7 0 x.init.length,.sl 8 0 x.ands.length,.sl 9 0 x.outs.length],.row 1 aq (x.next.map i64) none true false,.row 1 aq (x.init.map i64) none true false,.row 2 cP (x.ands.map df) none true false,.row 1 aq (x.outs.map i64) none true false,.row 1 aZ (x.bj.map .bool) none true false]
abbrev Gg(x:Gr):List Ob:=Gi x++[.cells [.int .i64 x.ins,.sl 6 0 x.next.length,.sl 7 0 x.init.length,.sl 8 0 x.ands.length,.sl 9 0 x.outs.length],.row 1 aq (x.init.map i64) none true false,.cells [.int .i64 x.ins,.sl 6 0 x.next.length,.sl 12 0 x.init.length,.list true 0 [],.list true 0 []]]
abbrev so(x:Gr)(es:List ((Int×Int)×Nat))(l:List (Int×Int))(to:List Nat)(q:List Ob):List Ob:=
 Gg x++(.map (es.map gk) true::.cells [.int .i64 x.ins,.sl 6 0 x.next.length,.sl 12 0 x.init.length,.sl 16 0 l.length,.list true 0 [],.mp 14,.sl 17 0 to.length]::.row 2 cP (l.map df) none true false::.row 1 aq (to.map iN) none true false::q)
@[simp] theorem ayt(to:List Nat)(l:List Int):(List.map iN (eA to l)).take l.length=List.map iN (eA to l):=by rw[cd];simp
set_option maxRecDepth 8000 in
theorem aex(x:Gr)(hstd:x.kn=1/\x.ki=1/\x.ka=2/\x.ko=1)(ok:x.Ok){o:Out}(l1:List (Int×Int))(to1:List Nat)
 (hc:∀es,jF x.first l1 es->l1.length<=x.ands.length->to1.length=x.all->mC x.first l1 to1->aw Tryz.prog Γ (Sx (.ptr 0 0) (.ptr 5 0) (.ptr 15 0) (so x es l1 to1 [])) o):
 ∀n i:Nat,i+n=x.ands.length->∀es l to,jF x.first l es->l.length<=i->to.length=x.first+i->mC x.first l to->ee x.first x.bj (x.ands.drop i) i l to=(l1,to1)->
  aw Tryz.prog Γ (yho (.ptr 0 0) (.ptr 5 0) (.sl 10 0 x.all) (.ptr 15 0) (.sl 8 0 x.ands.length) (.int .i64 x.ands.length) (.int .i64 i) (so x es l to [])) o:=by
 have o1:=ok.ins;have o3:=ok.sum;have o4:=ok.lF;obtain⟨s1,s2,s3,s4⟩:=hstd;have hfirst:=p1 (Γ:=Γ) x o1.1 o1.2 (by omega);rw[eN,s1,s2,s3,s4]at hfirst
 have hfb:x.first<=8001:=by unfold Gr.first;omega
 have hf1:1<=x.first:=by unfold Gr.first;omega
 have hll:=Od x;intro n
 induction n with
 |zero=>
  intro i hi es l to he hl ht hok hS
  have q1:¬i<x.ands.length:=by omega
  rw[bw (by omega)]at hS;simp only[ee,bP]at hS;obtain⟨rfl,rfl⟩:=hS;refine .reach (.dh 60 (c':=Sx (.ptr 0 0) (.ptr 5 0) (.ptr 15 0) (so x es l to [])) ?_) (hc es he (by omega) (by unfold Gr.all;omega) hok);simp[q1];exact .exit rfl rfl
 |succ n ih=>
  intro i hi es l to he hl ht hok hS
  have q1:i<x.ands.length:=by omega
  rw[bQ q1,ee]at hS;obtain⟨⟨b1,b2⟩,b3,b4⟩:=ok.ands i q1;obtain⟨a,ha⟩:=kp b1;obtain⟨b,hb⟩:=kp b3;rw[ha,hb]at hS;simp only[fV]at hS
  have q3:x.first+i<x.all:=by unfold Gr.all;omega
  have e1:(x.first:Int)+i=((x.first+i:Nat):Int):=by omega
  rw[bp,bl (by omega),jP]at hS;refine .go 60 ?_;simp(disch:=omega) [q1];refine .call 60 (by simp) hfirst ?_
  by_cases hb0:x.bj[x.first+i]=true
  ·rw[if_pos hb0]at hS
   have hx2:a/2<to.length:=by omega
   have hy2:b/2<to.length:=by omega
   have hla:=m9 hok.lt hx2;have hlb:=m9 hok.lt hy2;obtain⟨hlt,hge⟩:=ui hla hlb hf1
   have hto:∀z∈to,z<2^40:=fun z hz=>by have:=hok.lt z hz;omega
   have k1:=uv (Γ:=Γ) to hto a hx2 (by omega) 15 17 (h:=so x es l to [.cells [.int .i64 a,.int .i64 b]]) rfl rfl (by simp);have k2:=uv (Γ:=Γ) to hto b hy2 (by omega) 15 17 (h:=so x es l to [.cells [.int .i64 a,.int .i64 b]]) rfl rfl (by simp)
   have hgl:=Aw x.first l (bC to a) (bC to b)
   obtain⟨es',gr,junk,he',hgr,hjk,k3⟩:=Pl (Γ:=Γ) (p:=Gg x) (q:=[.row 1 aq (to.map iN) none true false,.cells [.int .i64 a,.int .i64 b]]) (x1:=.sl 6 0 x.next.length) (x2:=.sl 12 0 x.init.length) (x4:=.list true 0 []) (come:=.sl 17 0 to.length)
    ⟨x.ins,x.next,x.init,[],[],1,1,2,0,.self,.self,.self,.nil⟩ o1 (by simp;omega) l (by omega) es he (bC to a) (bC to b) (by omega) (by omega) (fun s=>by simp) (fun s=>by simp) (fun s=>by simp)
   have hfe:(⟨x.ins,x.next,x.init,[],[],1,1,2,0,.self,.self,.self,.nil⟩:Gr).first=x.first:=rfl
   rw[hfe]at k3 he'
   have hh:=ih (i+1) (by omega) es' (bM x.first l (bC to a) (bC to b)).1 (to++[(bM x.first l (bC to a) (bC to b)).2]) he' (by omega) (by simp;omega) ⟨fun z hz=>by
    rcases bm.1 hz with hz|hz
    ·have:=hok.lt z hz;omega
    ·simp at hz;omega⟩ hS
   generalize bM x.first l (bC to a) (bC to b)=r at*
   simp(disch:=omega) [e1,q3,hll,hb0,-Int.natCast_add];refine .dr 60 ?_;simp(disch:=omega) [ha,hb];refine .reach (by simp) k1 ?_;simp(disch:=omega) [ha,hb];refine .reach (by simp) k2 ?_;simp(disch:=omega) [ha,hb];refine .reach (by simp) k3 ?_
   rcases hjk with rfl|⟨jx,jy,rfl⟩
   ·simp(disch:=(first|omega|(simp;omega))) [ha,hb];refine .aH ?_;simp;refine .drop 18 rfl (by simp) (by simp) (by simp) ?_
    have e2:(to.map iN++[AV.int .i64 (r.2:Int)]).length=to.length+1:=by simp
    refine .mc (i:=16) rfl hgr (by simp) (by simp) (by simp) ?_;refine .mc (i:=17) rfl (.inr rfl) (by simp) (by simp) (by rw[e2];simp) ?_;simp at hh⊢;exact hh
   ·simp(disch:=(first|omega|(simp;omega))) [ha,hb];refine .aH ?_;simp;refine .drop 18 rfl (by simp) (by simp) (by simp) ?_
    have e2:(to.map iN++[AV.int .i64 (r.2:Int)]).length=to.length+1:=by simp
    refine .mc (i:=16) rfl hgr (by simp) (by simp) (by simp) ?_;refine .mc (i:=17) rfl (.inr rfl) (by simp) (by simp) (by rw[e2];simp) ?_;simp at hh⊢;exact hh
  ·rw[if_neg hb0]at hS
   have hh:=ih (i+1) (by omega) es l (to++[0]) he (by omega) (by simp;omega) ⟨fun z hz=>by
    rcases bm.1 hz with hz|hz
    ·exact hok.lt z hz
    ·simp at hz;omega⟩ hS
   simp(disch:=(first|omega|(simp;omega))) [e1,q3,hll,hb0,-Int.natCast_add];refine .aH ?_;simp;refine .drop 18 rfl (by simp) (by simp) (by simp) ?_
   have e2:(to.map iN++[AV.int .i64 0]).length=to.length+1:=by simp
   refine .mc (i:=17) rfl (.inr rfl) (by simp) (by simp) (by rw[e2];simp) ?_;simp at hh⊢;exact hh
set_option maxRecDepth 8000 in
theorem ae3(x:Gr)(hstd:x.kn=1/\x.ki=1/\x.ka=2/\x.ko=1)(ok:x.Ok):aw Tryz.prog Γ (.fr ⟨.run,oB,[.code (.seq (.ae IV) (.seq (.seq (.ae G8) (.block 2 B_ (.loop Cu xX))) (.seq (.ae CO) .ret)))],
 [U,U,.ptr 0 0,U,U,U,U,U,.ptr 5 0,.sl 10 0 x.bj.length]++List.replicate 85 U,[],.norm,0⟩ [] (Gi x)) (.ret (.aB [eN x.dN,.int .i64 0])):=by
 have o1:=ok.ins;have o3:=ok.sum;have o4:=ok.lF;have hs:=hstd;obtain⟨s1,s2,s3,s4⟩:=hs;have hfirst:=p1 (Γ:=Γ) x o1.1 o1.2 (by omega);rw[eN,s1,s2,s3,s4]at hfirst
 have hfb:x.first<=8001:=by unfold Gr.first;omega
 have hsame:=ok.same;rw[Od];refine .go 60 ?_;simp;refine .enter 60 J9 ?_;simp;refine .dr 60 ?_;simp;refine .call (by simp) (Ju (Γ:=Γ) x.init (k:=1) .self (by omega)) ?_;simp;refine .reach (by simp) (M8 x.ins _ _ (.inr ⟨_,_,_,rfl⟩) (.inr ⟨_,_,_,rfl⟩) _) ?_;simp;refine .call 60 (by simp) hfirst ?_;simp;refine .p8 15 6 1 aq rfl rfl (by omega) ?_;simp;refine .inLoop ?_
 have kb:=fun up=>O6 (Γ:=Γ) (Gg x++[.map [] true]) [.row 2 cP [] none true false]
  (.int .i64 x.ins) (.sl 6 0 x.next.length) (.sl 12 0 x.init.length) (.sl 16 0 0) (.list true 0 []) (.mp 14) x.first (by omega) (by intro m;simp) (by intro m;simp) (by intro m;simp) 11 (by simp) up [] rfl x.first 0 (by omega)
 simp[ids]at kb⊢;refine .reach (kb _) ?_;refine .go 60 ?_;simp;refine .inLoop ?_
 generalize hS:ee x.first x.bj x.ands 0 [] (ids x.first)=r
 obtain⟨l1,to1⟩:=r
 have hL:=aex (Γ:=Γ) x hstd ok (o:=.ret (.aB [eN x.dN,.int .i64 0])) l1 to1 ?_ x.ands.length 0 (by omega) [] [] (ids x.first) (Fc _) (aR _) (by simp) ⟨fun z hz=>by
  simp[ids]at hz;obtain⟨a,ha,rfl⟩:=hz;simp;omega⟩ (by simpa using hS)
 ·simp[ids]at hL⊢;exact hL
 intro es he hl1 ht1 hto
 have hn2:x.dN=x.dC (l1,to1):=by unfold Gr.dN;rw[hS]
 have hall:x.all<=12001:=by unfold Gr.all;omega
 have hlits:x.lits=2*x.all:=rfl
 have ht40:∀z∈to1,z<2^40:=fun z hz=>by have:=hto.lt z hz;omega
 have kA:=fun q=>OF (Γ:=Γ) to1 ht40 x.next (by omega) (fun a ha=>by have:=ok.next a ha;omega) (by omega) 15 17 6 (h:=so x es l1 to1 (.cells [.int .i64 x.ins,.sl 6 0 x.next.length,.sl 7 0 x.init.length,.sl 8 0 x.ands.length,.sl 9 0 x.outs.length]::.cells [.int .i64 0,.sl 20 0 0,.sl 21 0 0,.sl 22 0 0,.sl 23 0 0]::q)) rfl rfl rfl
 have kB:=fun q=>OF (Γ:=Γ) to1 ht40 x.outs (by omega) (fun a ha=>by have:=ok.outs a ha;omega) (by omega) 15 17 9 (h:=so x es l1 to1 (.cells [.int .i64 x.ins,.sl 6 0 x.next.length,.sl 7 0 x.init.length,.sl 8 0 x.ands.length,.sl 9 0 x.outs.length]::.cells [.int .i64 0,.sl 20 0 0,.sl 21 0 0,.sl 22 0 0,.sl 23 0 0]::q)) rfl rfl rfl
 rw[hn2];refine .go 60 ?_;simp;refine .enter 60 JD ?_;simp;refine .dr 60 ?_;simp;refine .reach (by simp) (kA [.row 1 aq [] none true false,.row 1 aq [] none true false,.row 2 cP [] none true false,.row 1 aq [] none true false] (by intro m;simp)) ?_;simp;refine .reach (by simp) (kB [.row 1 aq [] none true false,.row 1 aq [] none true false,.row 2 cP [] none true false,.row 1 aq [] none true false,.row 1 aq [] none true false,.row 1 aq ((eA to1 x.next).map iN) none true false] (by intro m;simp)) ?_;simp[Gr.dC];exact .back (by simp)
set_option maxRecDepth 8000 in
theorem aeP(g:Gr)(ok:g.Ok)(l1:List (Int×Int))(to1:List Nat)(hx:g.gy=g.dC (l1,to1))(okx:g.gy.Ok)(es:List ((Int×Int)×Nat))(hl1:l1.length<=g.ands.length)(ht1:to1.length=g.all)(hto:mC g.first l1 to1):
 aw Tryz.prog Γ (Hw (.ptr 0 0) (.ptr 1 0) (.ptr 10 0) (qv g es l1 to1 [])) (.ret (.aB [eN g.gy.dN,.int .i64 0])):=by
 have o1:=ok.ins;have o3:=ok.sum;have o4:=ok.lF
 have hfb:g.first<=8001:=by unfold Gr.first;omega
 have hall:g.all<=12001:=by unfold Gr.all;omega
 have hlits:g.lits=2*g.all:=rfl
 have ht40:∀z∈to1,z<2^40:=fun z hz=>by have:=hto.lt z hz;omega
 have kA:=fun q=>Pp (Γ:=Γ) to1 ht40 g.next g.hn (by omega) (fun a ha=>by have:=ok.next a ha;omega) (by omega) 10 12 (h:=qv g es l1 to1 (cD g::.cells [.int .i64 0,.sl 15 0 0,.sl 16 0 0,.sl 17 0 0,.sl 18 0 0]::q)) rfl rfl
 have kB:=fun q=>Pp (Γ:=Γ) to1 ht40 g.outs g.ho (by omega) (fun a ha=>by have:=ok.outs a ha;omega) (by omega) 10 12 (h:=qv g es l1 to1 (cD g::.cells [.int .i64 0,.sl 15 0 0,.sl 16 0 0,.sl 17 0 0,.sl 18 0 0]::q)) rfl rfl
 refine .go 60 ?_;simp;refine .enter 60 JD ?_;simp;refine .dr 60 ?_;simp;refine .reach (by simp) (kA [.row 1 aq [] none true false,.row 1 aq [] none true false,.row 2 cP [] none true false,.row 1 aq [] none true false] (by intro m;simp)) ?_;simp;refine .reach (by simp) (kB [.row 1 aq [] none true false,.row 1 aq [] none true false,.row 2 cP [] none true false,.row 1 aq [] none true false,.row 1 aq [] none true false,.row 1 aq ((eA to1 g.next).map iN) none true false] (by intro m;simp)) ?_;simp
 have ex:eN g.gy=.agg [.int .i64 g.ins,.list false 1 ((eA to1 g.next).map iN),.list false 1 (g.init.map i64),.list false 2 (l1.map df),.list false 1 ((eA to1 g.outs).map iN)]:=by
  rw[hx];simp[Gr.dC]
 have hled:=aaj (Γ:=Γ) g.gy okx;rw[ex]at hled;refine .call 3 (by simp) hled ?_;simp;refine .lK [1,5,49,50,51,52,53] ?_;simp;refine .gc 0 [1,2,3,4,5,23,20,7,11,22,28] (by simp) (by decide) ?_;have hh:=ae3 (Γ:=Γ) g.gy ⟨by rw[hx];rfl,by rw[hx];rfl,by rw[hx];rfl,by rw[hx];rfl⟩ okx;simp[Gi,hx,Gr.dC]at hh⊢;exact hh
set_option maxRecDepth 8000 in
theorem Ws(g:Gr)(hf:g.iK):aL Tryz.prog Γ oB [eN g] (.aB [eN g.normal,.int .i64 g.check]):=by
 refine .run 60 WL (by simp) ?_;simp;refine .call 60 (by simp) (rk g hf) ?_
 by_cases hc:g.check=0
 ·have ok:=Gr.qn hc;have o1:=ok.ins;have o3:=ok.sum;have o4:=ok.lF;have hfirst:=p1 (Γ:=Γ) g o1.1 o1.2 (by omega)
  have hn0:g.normal=g.gy.dN:=by unfold Gr.normal;rw[if_pos hc]
  rw[hn0];simp[hc];refine .enter 60 J9 ?_;simp;refine .dr 60 ?_;simp;refine .call (by simp) (Ju (Γ:=Γ) g.init g.hi hf.2.1) ?_;simp;refine .reach (by simp) (M8 g.ins _ _ (.inl ⟨_,_,_,rfl⟩) (.inr ⟨_,_,_,rfl⟩) _) ?_;simp;refine .call 60 (by simp) hfirst ?_;simp;refine .p8 10 6 1 aq rfl rfl (by omega) ?_;simp;refine .inLoop ?_
  have hfb:g.first<=8001:=by unfold Gr.first;omega
  have kb:=fun up=>O6 (Γ:=Γ) [cD g,.cells [.int .i64 0,.sl 2 0 0,.sl 3 0 0,.sl 4 0 0,.sl 5 0 0],.row 1 aq [] none true false,.row 1 aq [] none true false,.row 2 cP [] none true false,.row 1 aq [] none true false,
   cD g,.row 1 aq (g.init.map i64) none true false,.cells [.int .i64 g.ins,.list false g.kn (g.next.map i64),.sl 7 0 g.init.length,.list true 0 [],.list true 0 []],.map [] true] [.row 2 cP [] none true false]
   (.int .i64 g.ins) (.list false g.kn (g.next.map i64)) (.sl 7 0 g.init.length) (.sl 11 0 0) (.list true 0 []) (.mp 9) g.first (by omega) (by intro m;simp) (by intro m;simp) (by intro m;simp) 6 (by simp) up [] rfl g.first 0 (by omega)
  simp[ids]at kb⊢;refine .reach (kb _) ?_;refine .go 60 ?_;simp;refine .inLoop ?_;obtain⟨okx,_,hlen⟩:=A5 ok
  have hS:iE g.first g.ands [] (ids g.first)=((iE g.first g.ands [] (ids g.first)).1,(iE g.first g.ands [] (ids g.first)).2):=rfl
  have hL:=adw (Γ:=Γ) g ok (o:=.ret (.aB [eN g.gy.dN,.int .i64 0])) _ _ hS (fun es he hl1 ht1 hto=>aeP g ok _ _ rfl okx es hl1 ht1 hto) g.ands.length 0 (by omega) [] [] (ids g.first) (Fc _) (aR _) (by simp) (Bi _) (by simp);simp[ids]at hL⊢;exact hL
 ·have hn0:g.normal=fv:=by unfold Gr.normal;rw[if_neg hc]
  rw[hn0];simp[hc,fv];exact .back (by simp)
@[simp] theorem az5(n:Nat):((60:Int)<n)=(60<n):=propext (by omega)
@[simp] theorem aAb(n:Nat):((n:Int)<=60)=(n<=60):=propext (by omega)
@[simp] theorem aAd(n:Nat):((n:Int)<=40)=(n<=40):=propext (by omega)
theorem Gr.Ok.iK{g:Gr}(h:g.Ok):g.iK:=by
 have h1:=h.ins;have h2:=h.sum;have h3:=h.lF;have h4:=h.same
 unfold Gr.iK;omega
theorem Ol:fv.iK:=by unfold Gr.iK fv;decide
abbrev Gu:Ob:=.row 1 aq [] none true false
abbrev af7:Ob:=.row 2 cP [] none true false
end Go.Proofs.YtihmomicdpkabaaGreatDoor
namespace Go.Proofs.YtihmomicdpkabaaGreatDoor
open Go.AM Go.Proofs
def cu(h:List Ob):Prop:=∀m,h.length<=m->cG m h=true
theorem Np{m:Nat}{o:Ob}(ho:gu m o=true):∀{h:List Ob}(i:Nat),cG m h=true->cG m (h.set i o)=true
 |[],i,h1=>h1
 |o'::h,0,h1=>by
  simp only[cG,av,u0]at h1⊢;exact⟨ho,h1.2⟩
 |o'::h,i+1,h1=>by
  simp only[cG,av,pF]at h1⊢;exact⟨h1.1,Np ho i h1.2⟩
theorem cu.set{h:List Ob}(hw:cu h){o:Ob}(hb:∀m,h.length<=m->gu m o=true)(i:Nat):cu (h.set i o):=fun m hm=>by
 rw[jk]at hm;exact Np (hb m hm) i (hw m hm)
def dW(h:List Ob):Prop:=∀i m,h.length<=i->cH i m h=true
end Go.Proofs.YtihmomicdpkabaaGreatDoor
namespace Go.Proofs.YtihmomicdpkabaaGreatDoor
open Go.AM Go.Proofs
variable{Γ:Nat->Option AV}
abbrev afE:AV:=.b9 DF (.agg [])
def cL{α:Type}(ev:α->AV)(i:Nat)(up:List Fr)(h:List Ob)(r:Gr×Option α):AM.an:=
 match r.2 with
 |some a=>.back up (ev a) (h.set i (cD r.1))
 |none=>.die up afE (h.set i (cD r.1))
theorem rH{P:Program}{α:Type}{ev:α->AV}{i:Nat}{up:List Fr}{h:List Ob}(J:List Ob){f:FuncId}{args:List AV}{r:Gr×Option α}(hw:cu h)(hi:i<h.length)(hev:∀a,aI h.length (ev a)=true)
 (h1:AM.Reach P Γ (.cl f args up h) (cL ev i up (h++J) r)):AM.Reach P Γ (.cl f args up h) (cL ev i up h r):=by
 have e:∀o:Ob,((h++J).set i o).take h.length=h.set i o:=fun o=>by rw[kq _ _ hi,vp (by simp)]
 have hb:cG h.length (h.set i (cD r.1))=true:=hw.set (fun m _=>by simp) i h.length (by simp);unfold cL at h1⊢
 cases hr:r.2 with
 |some a=>
  rw[hr]at h1;have:=AM.Reach.leave h1 (hev a) (by rw[e];exact hb);rwa[e]at this
 |none=>
  rw[hr]at h1;have:=AM.Reach.OQ h1 rfl (by rw[e];exact hb);rwa[e]at this
theorem wS{α:Type}{h:List α}{i:Nat}{o:α}(hi:h[i]? =some o):h.set i o=h:=by
 obtain⟨hl,rfl⟩:=cW.1 hi;exact List.set_getElem_self hl
theorem _root_.Go.AM.Reach.j6{P:Program}(n:Nat){f:FuncId}{args:List AV}{up:List Fr}{h h':List Ob}{v:AV}{c:AM.an}(h1:∀up,AM.Reach P Γ (.cl f args up h) (.die up v h'))(h2:AM.Reach P Γ (AM.go P Γ 2 n (AM.pop (.die up v h'))) c):AM.Reach P Γ (.cl f args up h) c:=.trans (h1 up) (.trans (.pop _) (.aU n h2))
def gS(x:Gr)(p q:Nat):Gr×Option Nat:=if x.kU p q=0 then(x.eC p q,some (x.fq p q))else(x,none)
set_option maxRecDepth 8000 in
theorem Bv(x:Gr)(ok:x.Ok)(p q:Nat){i:Nat}{h:List Ob}(hi:h[i]? =some (cD x))(hw:cu h)(up:List Fr):AM.Reach Tryz.prog Γ (.cl q9 [.ptr i 0,iN p,iN q] up h) (cL iN i up h (gS x p q)):=by
 have hA:=aal (Γ:=Γ) x ok.iK p q;have hl:=aV hi
 have hget:=fun os=>dJ hi os
 have hset:∀os:List Ob,(h++os).set i (cD x)=h++os:=fun os=>wS (hget os)
 refine rH [cD (x.eC p q),Gu,Gu,af7,Gu] hw hl (by simp) ?_;unfold gS cL;refine .br 60 Uv ?_;simp[hi];refine .jB 60 (by simp) hA ?_
 by_cases e:x.kU p q=0
 ·simp[e,hget]
 ·simp[e,hget,hset]
def lE(turn:Nat):Gr->Nat->List Nat->Gr×Option Nat
 |x,c,[]=>(x,some c)
 |x,c,a::l=>match gS x c (a^^^turn)with
  |(y,some d)=>lE turn y d l
  |(y,none)=>(y,none)
def jz(turn:Nat)(x:Gr)(l:List Nat):Gr×Option Nat:=match l with
 |[]=>(x,some 0)
 |a::r=>lE turn x (a^^^turn) r
structure gJ(x y:Gr):Prop where
 ok:y.Ok
 ins:y.ins=x.ins
 next:y.next=x.next
 init:y.init=x.init
 outs:y.outs=x.outs
 ands:∃e,y.ands=x.ands++e
theorem gJ.refl{x:Gr}(ok:x.Ok):gJ x x:=⟨ok,rfl,rfl,rfl,rfl,[],by simp⟩
theorem gJ.trans{x y z:Gr}(h:gJ x y)(h2:gJ y z):gJ x z:=by
 obtain⟨e,he⟩:=h.ands;obtain⟨e2,he2⟩:=h2.ands;exact⟨h2.ok,h2.ins.trans h.ins,h2.next.trans h.next,h2.init.trans h.init,h2.outs.trans h.outs,e++e2,by rw[he2,he,fY]⟩
theorem gJ.first{x y:Gr}(h:gJ x y):y.first=x.first:=by unfold Gr.first;rw[h.ins,h.next]
theorem gJ.lits{x y:Gr}(h:gJ x y):x.lits<=y.lits:=by
 obtain⟨e,he⟩:=h.ands;unfold Gr.lits Gr.all
 rw[h.first,he,bN];omega
theorem ZM{x y:Gr}{p q d:Nat}(h:gS x p q=(y,some d)):x.kU p q=0/\y=x.eC p q/\d=x.fq p q:=by
 unfold gS at h
 split at h
 ·rename_i e;cases h;exact⟨e,rfl,rfl⟩
 ·cases h
theorem oF{x:Gr}(ok:x.Ok){p q:Nat}{y:Gr}{r:Option Nat}(h:gS x p q=(y,r)):gJ x y/\∀d,r=some d->d<y.lits:=by
 unfold gS at h
 split at h
 ·rename_i e
  cases h
  have a:=Pm e
  obtain⟨e1,he1⟩:=M5 x.first x.ands p q
  refine⟨⟨a.qH,by rw[a.R],by rw[a.R],by rw[a.R],by rw[a.R],e1,by rw[a.R];simpa using he1⟩,fun d hd=>by cases hd;exact a.lt⟩
 ·cases h
  exact⟨.refl ok,fun d hd=>by cases hd⟩
theorem Kh(turn:Nat):∀(l:List Nat)(x:Gr)(c:Nat),x.Ok->c<x.lits->gJ x (lE turn x c l).1/\∀d,(lE turn x c l).2=some d->d<(lE turn x c l).1.lits
 |[],x,c,ok,hc=>⟨.refl ok,fun d hd=>by cases hd;exact hc⟩
 |a::l,x,c,ok,hc=>by
  rw[lE]
  cases h:gS x c (a^^^turn)with
  |mk y r=>
   obtain⟨g1,g2⟩:=oF ok h
   cases r with
   |none=>exact⟨g1,fun d hd=>by cases hd⟩
   |some d=>
    obtain⟨h1,h2⟩:=Kh turn l y d g1.ok (g2 d rfl);exact⟨g1.trans h1,h2⟩
theorem FI{a n:Nat}(h:a<2*n):a^^^1<2*n:=by
 have h2:(a^^^1)/2=a/2:=by
  have:=Nat.xor_div_two (a:=a) (b:=1);simpa using this
 omega
theorem ua{a t n:Nat}(ht:t<=1)(h:a<2*n):a^^^t<2*n:=by
 obtain rfl|rfl:t=0\/t=1:=by omega
 ·simpa using h
 ·exact FI h
def fO{α β:Type}(f:α->β)(r:Gr×Option α):Gr×Option β:=(r.1,r.2.map f)
def hY{α β:Type}(r:Gr×Option α)(f:Gr->α->Gr×Option β):Gr×Option β:=match r with
 |(y,some a)=>f y a
 |(y,none)=>(y,none)
def BW(x:Gr)(c a:Nat):Gr×Option Nat:=hY (gS x c (a^^^1)) fun y p=>hY (gS y (c^^^1) a) fun z q=>fO (·^^^1) (gS z (p^^^1) (q^^^1))
def pe:Gr->Nat->List Nat->Gr×Option Nat
 |x,c,[]=>(x,some c)
 |x,c,a::l=>hY (BW x c a) fun y d=>pe y d l
def xu(x:Gr)(l:List Nat):Gr×Option Nat:=match l with
 |[]=>(x,some 0)
 |a::r=>pe x a r
def jI(x:Gr)(r:Gr×Option Nat):Prop:=gJ x r.1/\∀d,r.2=some d->d<r.1.lits
theorem ER{x:Gr}(ok:x.Ok)(p q:Nat):jI x (gS x p q):=oF ok (y:=(gS x p q).1) (r:=(gS x p q).2) rfl
theorem jI.BV{x:Gr}{r:Gr×Option Nat}(h:jI x r){t:Nat}(ht:t<=1):jI x (fO (·^^^t) r):=⟨h.1,fun d hd=>by
 simp only[fO,bU]at hd;obtain⟨a,ha,rfl⟩:=hd
 exact ua ht (h.2 a ha)⟩
theorem jI.then{x:Gr}{r:Gr×Option Nat}{f:Gr->Nat->Gr×Option Nat}(h:jI x r)(hf:∀y d,gJ x y->d<y.lits->jI y (f y d)):jI x (hY r f):=by
 obtain⟨y,o⟩:=r
 cases o with
 |none=>exact⟨h.1,fun d hd=>by cases hd⟩
 |some d=>
  have:=hf y d h.1 (h.2 d rfl);exact⟨h.1.trans this.1,this.2⟩
theorem LC{x:Gr}(ok:x.Ok)(c a:Nat):jI x (BW x c a):=
 (ER ok _ _).then fun y p g1 _=>(ER g1.ok _ _).then fun z q g2 _=>(ER g2.ok _ _).BV (aR 1)
theorem KN:∀(l:List Nat)(x:Gr)(c:Nat),x.Ok->c<x.lits->jI x (pe x c l)
 |[],x,c,ok,hc=>⟨.refl ok,fun d hd=>by cases hd;exact hc⟩
 |a::l,x,c,ok,hc=>(LC ok c a).then fun y d g hd=>KN l y d g.ok hd
theorem XP(turn:Nat)(l:List Nat)(x:Gr)(c:Nat)(ok:x.Ok)(hc:c<x.lits):jI x (lE turn x c l):=Kh turn l x c ok hc
theorem wN(x:Gr):0<x.lits:=by unfold Gr.lits Gr.all Gr.first;omega
theorem wa{turn:Nat}(ht:turn<=1){x:Gr}(ok:x.Ok){l:List Nat}(hl:∀a∈l,a<x.lits):jI x (jz turn x l):=by
 cases l with
 |nil=>exact⟨.refl ok,fun d hd=>by cases hd;exact wN x⟩
 |cons a r=>exact XP turn r x _ ok (ua (n:=x.all) ht (hl a (by simp)))
theorem Ya{x:Gr}(ok:x.Ok){l:List Nat}(hl:∀a∈l,a<x.lits):jI x (xu x l):=by
 cases l with
 |nil=>exact⟨.refl ok,fun d hd=>by cases hd;exact wN x⟩
 |cons a r=>exact KN r x _ ok (hl a (by simp))
theorem Ps{a t:Nat}(ht:t<=1)(ha:(a:Int)<2^60):gq .xor .i64 (a:Int) (t:Int)=some ((a^^^t:Nat):Int):=by
 have:=FL (x:=a) (a:=t) ha;rwa[Nat.mod_eq_of_lt (by omega)]at this
theorem mZ{x:Gr}(ok:x.Ok):x.lits<=2^14:=by
 have h1:=ok.ins;have h2:=ok.sum
 unfold Gr.lits Gr.all Gr.first
 omega
theorem MV(a t:Nat)(ht:t<=1)(ha:(a:Int)<2^60){q:Nat}{h:List Ob}(hq:h[q]? =some (.cells [iN t])):∀up,AM.Reach Tryz.prog Γ (.cl vx [iN a,.ptr q 0] up h) (.back up (iN (a^^^t)) h):=by
 intro up;refine .br 60 Ue ?_;simp[hq,Ps ht ha]
set_option maxRecDepth 8000 in
theorem adR(turn:Nat)(ht:turn<=1)(l:List Nat)(hl:l.length<2^40){fl:Bool}{k:Nat}(hk:Kd 1 k l)(i L:Nat)(up:List Fr):∀n j:Nat,j+n=l.length->∀(x:Gr)(c:Nat)(h:List Ob),h.length=L->h[i]? =some (cD x)->cu h->x.Ok->c<x.lits->(∀a∈l,a<x.lits)->
 AM.Reach Tryz.prog Γ (yCf (.ptr i 0) (.fn (.func vx) [] [.ptr L 0]) (iN c) (.list fl k (l.map iN)) (.int .i64 l.length) (.int .i64 j) (h++[.cells [iN turn]]) ⟨[],.norm,L,up⟩) (cL iN i up (h++[.cells [iN turn]]) (lE turn x c (l.drop j))):=by
 intro n
 induction n with
 |zero=>
  intro j hj x c h hL hi hw ok hc hlt
  have q1:¬j<l.length:=by omega
  have hset:(h++[Ob.cells [iN turn]]).set i (cD x)=h++[.cells [iN turn]]:=wS (dJ hi _);rw[bw (by omega),lE];unfold cL;rw[hset];refine .aU 60 ?_;simp[q1]
 |succ n ih=>
  intro j hj x c h hL hi hw ok hc hlt;subst hL
  have q1:j<l.length:=by omega
  have q2:=bY (hk.of q1);have hle:=mZ ok;have ha:=hlt _ (bz q1);have hil:=aV hi;have hT:=MV (Γ:=Γ) l[j] turn ht (by omega) (q:=h.length) (h:=h++[.cells [iN turn]]) (by simp)
  have hA:=fun up=>Bv (Γ:=Γ) x ok c (l[j]^^^turn) (i:=i) (h:=h++[.cells [iN turn]]) (dJ hi _) (by
   intro m hm;simp at hm
   simp[hw m (by omega)]) up
  rw[bQ q1,lE]
  have hset:∀o:Ob,(h++[Ob.cells [iN turn]]).set i o=h.set i o++[.cells [iN turn]]:=fun o=>kq _ _ hil
  have hset2:∀o o2:Ob,(h.set i o++[Ob.cells [iN turn]]).set i o2=h.set i o2++[.cells [iN turn]]:=fun o o2=>by rw[kq _ _ (by simpa using hil),qU]
  refine .aU 60 ?_;simp[q1,q2];refine .aX 60 hT ?_;simp
  cases h9:gS x c (l[j]^^^turn)with
  |mk y r=>
   rw[h9]at hA;obtain⟨g1,g2⟩:=oF ok h9;unfold cL at hA⊢;simp only[hset]at hA⊢
   cases r with
   |none=>
    simp only at hA⊢;refine .j6 60 hA ?_;simp
   |some d=>
    simp only at hA⊢;have hh:=ih (j+1) (by omega) y d (h.set i (cD y)) (by simp) (by simp[hil]) (hw.set (fun m _=>by simp) i) g1.ok (g2 d rfl) (fun a ha=>kj (hlt a ha) g1.lits);unfold cL at hh;simp only[hset2]at hh;refine .aX 60 hA ?_;simp(disch:=omega);refine .aH ?_;simp[q2]at hh⊢;exact hh
set_option maxRecDepth 8000 in
theorem Og(turn:Nat)(ht:turn<=1)(l:List Nat)(h0:l≠[])(hl:l.length<2^40){fl:Bool}{k:Nat}(hk:Kd 1 k l){i:Nat}(x:Gr){h:List Ob}(hi:h[i]? =some (cD x))(hw:cu h)(ok:x.Ok)(hlt:∀a∈l,a<x.lits)(up:List Fr):
 AM.Reach Tryz.prog Γ (.cl sS [.ptr i 0,.list fl k (l.map iN),iN turn] up h) (cL iN i up h (jz turn x l)):=by
 cases l with
 |nil=>exact absurd rfl h0
 |cons a r=>
  have hle:=mZ ok;have hil:=aV hi;have ha:=hlt a (by simp);simp at hl;obtain rfl:k=1:=hk.of (i:=0) (by simp);have hT:=MV (Γ:=Γ) a turn ht (by omega) (q:=h.length) (h:=h++[.cells [iN turn]]) (by simp);have hh:=adR (Γ:=Γ) turn ht r (by omega) (fl:=fl) (k:=1) .self i h.length up r.length 0 (by omega) x (a^^^turn) h rfl hi hw ok (ua (n:=x.all) ht ha) (fun b hb=>hlt b (by simp[hb]));refine rH [.cells [iN turn]] hw hil (by simp) ?_;rw[jz];refine .br 60 Un ?_;simp(disch:=omega);refine .aX 60 hT ?_;simp(disch:=omega);refine .inLoop ?_;simp at hh⊢;exact hh
theorem OZ(l:List Nat)(h0:l≠[])(hl:l.length<2^40){fl:Bool}{k:Nat}(hk:Kd 1 k l){i:Nat}(x:Gr){h:List Ob}(hi:h[i]? =some (cD x))(hw:cu h)(ok:x.Ok)(hlt:∀a∈l,a<x.lits)(up:List Fr):
 AM.Reach Tryz.prog Γ (.cl sV [.ptr i 0,.list fl k (l.map iN)] up h) (cL iN i up h (jz 0 x l)):=by
 have hA:=Og (Γ:=Γ) 0 (by omega) l h0 hl (fl:=fl) hk x hi hw ok hlt;refine .br 60 Uy ?_;simp;unfold cL at hA⊢
 cases h9:(jz 0 x l).2<;>simp only[h9]at hA⊢
 ·refine .j6 60 hA ?_;simp
 ·refine .aX 60 hA ?_;simp
theorem O4(l:List Nat)(h0:l≠[])(hl:l.length<2^40){fl:Bool}{k:Nat}(hk:Kd 1 k l){i:Nat}(x:Gr){h:List Ob}(hi:h[i]? =some (cD x))(hw:cu h)(ok:x.Ok)(hlt:∀a∈l,a<x.lits)(up:List Fr):
 AM.Reach Tryz.prog Γ (.cl sW [.ptr i 0,.list fl k (l.map iN)] up h) (cL iN i up h (fO (·^^^1) (jz 1 x l))):=by
 have hA:=Og (Γ:=Γ) 1 (by omega) l h0 hl (fl:=fl) hk x hi hw ok hlt;have hf:=wa (turn:=1) (by omega) ok hlt;have hle:=mZ hf.1.ok;refine .br 60 Ut ?_;simp;unfold cL at hA⊢;unfold fO
 cases h9:(jz 1 x l).2 with
 |none=>
  simp only[h9,sD]at hA⊢;refine .j6 60 hA ?_;simp
 |some d=>
  have:=hf.2 d h9;simp only[h9,du]at hA⊢;refine .aX 60 hA ?_;simp(disch:=omega) []
theorem acH{i:Nat}{a:AV}{h:List Ob}(up:List Fr):AM.Reach Tryz.prog Γ (.cl vB [.ptr i 0,a] up h) (.back up (.int .i64 0) h):=by
 refine .br 60 Uk ?_;simp
set_option maxRecDepth 8000 in
theorem adO(l:List Nat)(hl:l.length<2^40){fl:Bool}{k:Nat}(hk:Kd 1 k l)(i base:Nat)(up:List Fr):∀n j:Nat,j+n=l.length->∀(x:Gr)(c:Nat)(h:List Ob),h[i]? =some (cD x)->cu h->x.Ok->c<x.lits->(∀a∈l,a<x.lits)->
 AM.Reach Tryz.prog Γ (yGh (.ptr i 0) (iN c) (.list fl k (l.map iN)) (.int .i64 l.length) (.int .i64 j) h ⟨[],.norm,base,up⟩) (cL iN i up h (pe x c (l.drop j))):=by
 intro n
 induction n with
 |zero=>
  intro j hj x c h hi hw ok hc hlt
  have q1:¬j<l.length:=by omega
  rw[bw (by omega),pe];unfold cL;simp only[wS hi];refine .aU 60 ?_;simp[q1]
 |succ n ih=>
  intro j hj x c h hi hw ok hc hlt
  have q1:j<l.length:=by omega
  have q2:=bY (hk.of q1);have hle:=mZ ok;have ha:=hlt _ (bz q1);have hil:=aV hi
  have hW:∀y:Gr,cu (h.set i (cD y)):=fun y=>hw.set (fun m _=>by simp) i
  have hI:∀y:Gr,(h.set i (cD y))[i]? =some (cD y):=fun y=>by simp[hil]
  have hA:=fun up=>Bv (Γ:=Γ) x ok c (l[j]^^^1) hi hw up
  rw[bQ q1,pe,BW];refine .aU 60 ?_;simp(disch:=omega) [q1,q2]
  cases h9:gS x c (l[j]^^^1)with
  |mk y r=>
   rw[h9]at hA;obtain⟨g1,g2⟩:=oF ok h9
   cases r with
   |none=>
    simp only[cL,hY]at hA⊢;refine .j6 60 hA ?_;simp
   |some p=>
    have hp:=g2 p rfl;have hl1:=g1.lits;have hle1:=mZ g1.ok
    have hB:=fun up=>Bv (Γ:=Γ) y g1.ok (c^^^1) l[j] (hI y) (hW y) up
    simp only[cL,hY]at hA⊢;refine .aX 60 hA ?_;simp(disch:=omega) []
    cases h10:gS y (c^^^1) l[j]with
    |mk z r=>
     rw[h10]at hB;obtain⟨g3,g4⟩:=oF g1.ok h10
     cases r with
     |none=>
      simp only[cL,qU]at hB⊢;refine .j6 60 hB ?_;simp
     |some q=>
      have hq:=g4 q rfl;have hl2:=g3.lits;have hle2:=mZ g3.ok
      have hC:=fun up=>Bv (Γ:=Γ) z g3.ok (p^^^1) (q^^^1) (hI z) (hW z) up
      simp only[cL,qU]at hB⊢;refine .aX 60 hB ?_;simp(disch:=omega) []
      cases h11:gS z (p^^^1) (q^^^1)with
      |mk w r=>
       rw[h11]at hC;obtain⟨g5,g6⟩:=oF g3.ok h11
       cases r with
       |none=>
        simp only[cL,qU,fO,sD]at hC⊢;refine .j6 60 hC ?_;simp
       |some d=>
        have hd:=g6 d rfl;have hle3:=mZ g5.ok;simp only[cL,qU,fO,du]at hC⊢;have hh:=ih (j+1) (by omega) w (d^^^1) (h.set i (cD w)) (hI w) (hW w) g5.ok (FI (n:=w.all) hd) (fun a ha=>kj (hlt a ha) ((g1.trans g3).trans g5).lits);simp only[cL,qU]at hh;refine .aX 60 hC ?_;simp(disch:=omega) [];refine .aH ?_;simp[q2]at hh⊢;exact hh
theorem aeL(l:List Nat)(h0:l≠[])(hl:l.length<2^40){fl:Bool}{k:Nat}(hk:Kd 1 k l){i:Nat}(x:Gr){h:List Ob}(hi:h[i]? =some (cD x))(hw:cu h)(ok:x.Ok)(hlt:∀a∈l,a<x.lits)(up:List Fr):
 AM.Reach Tryz.prog Γ (.cl sX [.ptr i 0,.list fl k (l.map iN)] up h) (cL iN i up h (xu x l)):=by
 cases l with
 |nil=>exact absurd rfl h0
 |cons a r=>
  simp at hl;obtain rfl:k=1:=hk.of (i:=0) (by simp);have hh:=adO (Γ:=Γ) r (by omega) (fl:=fl) (k:=1) .self i h.length up r.length 0 (by omega) x a h hi hw ok (hlt a (by simp)) (fun b hb=>hlt b (by simp[hb]));rw[xu];refine .br 60 UA ?_;simp(disch:=omega);refine .inLoop ?_;simp at hh⊢;exact hh
abbrev Bs:=List UInt8
structure Lt where
 name:Bs
 next:Bs
 init:Int
 deriving DecidableEq
abbrev od(q:Lt):AV:=.agg [.str q.name,.str q.next,.int .i64 q.init]
structure Gt where
 name:Bs
 op:Int
 ins:List Bs
 rows:List Bs
 off:Bool
 ki:Nat
 kr:Nat
 hi:Kd 1 ki ins
 hr:Kd 1 kr rows
abbrev cR(g:Gt):AV:=.agg [.str g.name,.int .i64 g.op,.list false g.ki (g.ins.map .str),.list false g.kr (g.rows.map .str),.bool g.off]
structure Ct where
 aE:List Bs
 bg:List Bs
 ak:List Lt
 af:List Gt
 kI:Nat
 kO:Nat
 kL:Nat
 kG:Nat
 hI:Kd 1 kI aE
 hO:Kd 1 kO bg
 hL:Kd 3 kL ak
 hG:Kd 5 kG af
abbrev bL(c:Ct):AV:=.agg [.list false c.kI (c.aE.map .str),.list false c.kO (c.bg.map .str),.list false c.kL (c.ak.map od),.list false c.kG (c.af.map cR)]
def r8(g:Gt):Prop:=g.name.length<2^40/\g.ins.length<2^10/\g.rows.length<2^10/\(∀s∈g.ins,s.length<2^40)/\∀s∈g.rows,s.length<2^40
def bW(c:Ct):Prop:=c.aE.length<2^10/\c.bg.length<2^10/\c.ak.length<2^10/\c.af.length<2^10/\(∀g∈c.af,r8 g)/\
 (∀s∈c.aE,s.length<2^40)/\(∀s∈c.bg,s.length<2^40)/\∀q∈c.ak,q.name.length<2^40/\q.next.length<2^40
theorem Gq{α β:Type}(a:List β)(f:α->β)(l:List α){i:Nat}(h:i<l.length):a++(l.drop i).map f=a++[f l[i]]++(l.drop (i+1)).map f:=by
 rw[bQ h,b_,fY];rfl
def aD(c:Ct):List Bs:=c.aE++c.ak.map (·.name)++c.af.map (·.name)
structure Fm where
 kind:Int
 lit:Int
 kids:Int
 deriving DecidableEq
abbrev a_(f:Fm):AV:=.agg [.int .i64 f.kind,.int .i64 f.lit,.int .i64 f.kids]
end Go.Proofs.YtihmomicdpkabaaGreatDoor
