/- A list's elements' size. -/
import Derived.Test.YtihmomicdpkabaaGreatDoorAMd
import Derived.Test.YtihmomicdpkabaaGreatDoorCode
set_option linter.unusedSimpArgs false
set_option linter.unusedVariables false
namespace Go.Proofs.YtihmomicdpkabaaGreatDoor
open Go.AM Go.Proofs
def Kd(n k:Nat){α:Type}(l:List α):Prop:=k=n\/l=[]
theorem Kd.of{n k:Nat}{α:Type}{l:List α}(h:Kd n k l){i:Nat}(hi:i<l.length):k=n:=by
 rcases h with h|h
 ·exact h
 ·subst h;simp at hi
theorem Kd.self{n:Nat}{α:Type}{l:List α}:Kd n n l:=.inl rfl
theorem Kd.nil{n k:Nat}{α:Type}:Kd n k ([]:List α):=.inr rfl
@[simp] abbrev i64(n:Int):AV:=.int .i64 n
abbrev iN(n:Nat):AV:=.int .i64 (n:Int)
end Go.Proofs.YtihmomicdpkabaaGreatDoor
namespace Go.Proofs.YtihmomicdpkabaaGreatDoor
open Go.AM Go.Proofs
variable{Γ:Nat->Option AV}
theorem Cr(a b:List Int){ka kb:Nat}(ha:Kd 1 ka a)(hb:Kd 1 kb b)(hs:a.length<2^60):aS Tryz.prog Γ qv [.list false ka (a.map i64),.list false kb (b.map i64)] (.bool (decide (a=b))):=by
 refine .run 60 Sg (by simp) ?_
 by_cases hl:a.length=b.length
 ·have key:∀n i:Nat,i+n=a.length->az Tryz.prog Γ (ylS (.list false ka (a.map i64)) (.list false kb (b.map i64)) (.int .i64 a.length) (.int .i64 i) []) (.ret (.bool (decide (a.drop i=b.drop i)))):=by
   intro n
   induction n with
   |zero=>
    intro i hi;refine .go 60 ?_
    have h1:¬i<a.length:=by omega
    have h2:a.drop i=b.drop i:=by rw[bu (by omega),bu (by omega)]
    simp[h1,h2];exact .back (by simp)
   |succ n ih=>
    intro i hi
    have h1:i<a.length:=by omega
    have h2:i<b.length:=by omega
    obtain rfl:=ha.of h1;obtain rfl:=hb.of h2;have h4:=drop_eq h1 h2;refine .go 60 ?_
    by_cases h3:a[i]=b[i]
    ·simp(disch:=omega) [h1,h2,h3,h4];refine .aN ?_;simpa using ih (i+1) (by omega)
    ·simp(disch:=omega) [h1,h2,h3,h4];exact .back (by simp)
  simp[hl];refine .inLoop ?_;simpa[hl]using key a.length 0 (by omega)
 ·have h2:¬a=b:=fun e=>hl (by rw[e])
  simp[hl,h2];exact .back (by simp)
theorem Tq{φ:List Ob->Prop}{f:FuncId}{caps:List AV}{p:Int->Bool}{l:List Int}{k:Nat}{fl:Bool}(ha:ic Tryz.prog Γ φ f caps i64 p l)(hk:Kd 1 k l)(hs:l.length<2^60){h:List Ob}(hφ:φ h):
 ∀up,AM.Reach Tryz.prog Γ (.cl uF [.list fl k (l.map i64),.fn (.func f) [] caps] up h) (.back up (.int .i64 (eh p l 0)) h):=by
 intro up
 have key:∀n i:Nat,i+n=l.length->AM.Reach Tryz.prog Γ (ywR (.list fl k (l.map i64)) (.fn (.func f) [] caps) (.int .i64 l.length) (.int .i64 i) h ⟨[],.norm,h.length,up⟩) (.back up (.int .i64 (eh p (l.drop i) i)) h):=by
  intro n
  induction n with
  |zero=>
   intro i hi
   have h1:¬i<l.length:=by omega
   refine .ba 60 ?_;rw[bu (by omega)];simp[h1,eh]
  |succ n ih=>
   intro i hi
   have h1:i<l.length:=by omega
   obtain rfl:=hk.of h1;have h2:=ha.2 l[i] (bC h1);rw[bT h1,eh];have hh:=ih (i+1) (by omega);refine .ba 60 ?_;simp[h1,ha.1];refine .a_ 60 (fun up=>h2 up h hφ) ?_
   cases hp:p l[i]with
   |true=>simp(disch:=omega) [hp]
   |false=>
    simp(disch:=omega) [hp];refine .aN ?_;simp at hh⊢;exact hh
 refine .bB 60 R4 ?_;simp;refine .inLoop ?_;have hh:=key l.length 0 (by omega);simp at hh⊢;exact hh
theorem CA{φ:List Ob->Prop}{f:FuncId}{caps:List AV}{p:Int->Bool}{l:List Int}{k:Nat}{fl:Bool}(ha:ic Tryz.prog Γ φ f caps i64 p l)(hk:Kd 1 k l)(hs:l.length<2^60){h:List Ob}(hφ:φ h):
 ∀up,AM.Reach Tryz.prog Γ (.cl r8 [.list fl k (l.map i64),.fn (.func f) [] caps] up h) (.back up (.bool (bo p l)) h):=by
 intro up;refine .bB 60 RS ?_;simp;refine .a_ 60 (Tq ha hk hs hφ) ?_;have h1:=z_ p l 0
 cases hp:bo p l with
 |true=>rw[hp]at h1;simp at h1;simp[h1]
 |false=>
  rw[hp]at h1
  have h2:¬0<=eh p l 0:=by rw[h1];simp
  simp[h2]
structure Gr where
 ins:Int
 next:List Int
 init:List Int
 al:List (Int×Int)
 outs:List Int
 kn:Nat
 ki:Nat
 ka:Nat
 ko:Nat
 hn:Kd 1 kn next
 hi:Kd 1 ki init
 ha:Kd 2 ka al
 ho:Kd 1 ko outs
abbrev dm(p:Int×Int):AV:=.agg [.int .i64 p.1,.int .i64 p.2]
abbrev e_(g:Gr):AV:=.agg [.int .i64 g.ins,.list false g.kn (g.next.map i64),.list false g.ki (g.init.map i64),.list false g.ka (g.al.map dm),.list false g.ko (g.outs.map i64)]
def Gr.k_(g:Gr):Prop:=g.next.length<2^40/\g.init.length<2^40/\g.al.length<2^40/\g.outs.length<2^40
def dV(n:Int)(a:Int):Bool:=decide (a<0)||decide (n<=a)
def rA(a:Int):Bool:=decide (a<0)||decide (2<a)
def mB:List (Int×Int)->Nat->Bool
 |[],_=>false
 |p::ps,n=>dV (2*n) p.1||dV (2*n) p.2||mB ps (n+1)
def Gr.first(g:Gr):Nat:=1+g.ins.toNat+g.next.length
def Gr.all(g:Gr):Nat:=g.first+g.al.length
def Gr.lits(g:Gr):Nat:=2*g.all
def Gr.k9(g:Gr):Bool:=decide (g.ins<0)||decide (4000<g.ins)||decide (4000<g.ins+g.next.length+g.al.length)||decide (4000<g.outs.length)
def Gr.check(g:Gr):Int:=
 if g.k9=true then 8 else if(!decide (g.init.length=g.next.length)||bo rA g.init||bo (dV g.lits) g.next||bo (dV g.lits) g.outs||mB g.al g.first)=true then 1 else 0
theorem Nh{g:Gr}(h:g.k9=false):0<=g.ins/\g.ins<=4000/\g.ins+g.next.length+g.al.length<=4000/\g.outs.length<=4000:=by
 simp only[Gr.k9,ju,iV]at h;omega
theorem ph(g:Gr)(h0:0<=g.ins)(h1:g.ins<=4000)(h2:g.next.length<=4000):aS Tryz.prog Γ kD [e_ g] (.int .i64 g.first):=by
 refine .run 60 Jg (by simp) ?_
 have e1:1+g.ins+(g.next.length:Int)=(g.first:Int):=by unfold Gr.first;omega
 simp(disch:=omega) [e1];exact .back (by simp)
theorem N0(i:Nat)(all:Nat)(l:List Int):ic Tryz.prog Γ (fun h=>h[i]? =some (.cells [.int .i64 all])) xK [.ptr i 0] i64 (dV all) l:=by
 refine⟨by simp,fun x _ up h hφ=>?_⟩;refine .bB 60 T9 ?_;unfold dV
 by_cases h1:x<0
 ·simp[hφ,h1]
 ·simp[hφ,h1]
theorem abM(l:List Int):ic Tryz.prog Γ (fun _=>True) xL [] i64 rA l:=by
 refine⟨by simp,fun x _ up h hφ=>?_⟩;refine .bB 60 T' ?_;unfold rA
 by_cases h1:x<0
 ·simp[h1]
 ·simp[h1]
theorem VZ{l:List (Int×Int)}{i:Nat}(h:i<l.length)(n:Nat):mB (l.drop i) n=(dV (2*n) l[i].1||dV (2*n) l[i].2||mB (l.drop (i+1)) (n+1)):=by
 rw[bT h,mB]
set_option maxRecDepth 8000 in
theorem sA(g:Gr)(hf:g.k_):aS Tryz.prog Γ nW [e_ g] (.int .i64 g.check):=by
 obtain⟨f1,f2,f3,f4⟩:=hf;refine .run 60 UZ (by simp) ?_;unfold Gr.check
 cases hl:g.k9 with
 |true=>
  simp only[cu];unfold Gr.k9 at hl
  by_cases c1:g.ins<0
  ·simp[c1];exact .back (by simp)
  by_cases c2:4000<g.ins
  ·simp[c1,c2];exact .back (by simp)
  by_cases c3:4000<g.ins+g.next.length+g.al.length
  ·simp(disch:=omega) [c1,c2,c3];exact .back (by simp)
  have c4:(4000:Int)<g.outs.length:=by
   simp only[c1,c2,c3,l6,mN,bd]at hl;omega
  simp(disch:=omega) [c1,c2,c3,c4];exact .back (by simp)
 |false=>
  obtain⟨l1,l2,l3,l4⟩:=Nh hl
  have c1:¬g.ins<0:=by omega
  have c2:¬4000<g.ins:=by omega
  have c3:¬4000<g.ins+g.next.length+g.al.length:=by omega
  have c4:¬(4000:Int)<g.outs.length:=by omega
  have hpf:=ph (Γ:=Γ) g l1 l2 (by omega)
  have e1:(g.first:Int)+g.al.length=g.all:=by unfold Gr.all;omega
  have e2:2*(g.all:Int)=g.lits:=by unfold Gr.lits;omega
  have hfl:g.first<=8001:=by unfold Gr.first;omega
  have hal:g.all<=12001:=by unfold Gr.all;omega
  simp(disch:=omega) [c1,c2,c3,c4];refine .dr 60 ?_;simp;refine .quiet hpf (fun _=>rfl) (by simp) ?_;simp(disch:=omega) [e1,e2]
  by_cases d1:g.init.length=g.next.length
  ·simp[d1];refine .a_ 60 (CA (abM g.init) g.hi (by omega) (by trivial)) ?_
   cases d2:bo rA g.init with
   |true=>simp;exact .back (by simp)
   |false=>
    simp;refine .a_ 60 (CA (N0 1 g.lits g.next) g.hn (by omega) (by simp)) ?_
    cases d3:bo (dV g.lits) g.next with
    |true=>simp;exact .back (by simp)
    |false=>
     simp;refine .a_ 60 (CA (N0 1 g.lits g.outs) g.ho (by omega) (by simp)) ?_
     cases d4:bo (dV g.lits) g.outs with
     |true=>simp;exact .back (by simp)
     |false=>
      simp;refine .inLoop ?_;simp
      have key:∀n i:Nat,i+n=g.al.length->az Tryz.prog Γ (yjh (.ptr 0 0) (.list false g.ka (g.al.map dm)) (.int .i64 g.al.length) (.int .i64 i)
       [.cells [.int .i64 g.ins,.list false g.kn (g.next.map i64),.list false g.ki (g.init.map i64),.list false g.ka (g.al.map dm),.list false g.ko (g.outs.map i64)],.cells [.int .i64 g.lits]]) (.ret (.int .i64 (if mB (g.al.drop i) (g.first+i)=true then 1 else 0))):=by
       intro n
       induction n with
       |zero=>
        intro i hi
        have q1:¬i<g.al.length:=by omega
        refine .go 60 ?_;rw[bu (by omega)];simp[q1,mB];exact .back (by simp)
       |succ n ih=>
        intro i hi
        have q1:i<g.al.length:=by omega
        have q2:=cF (g.ha.of q1);have hh:=ih (i+1) (by omega)
        have q3:2*((g.first:Int)+i)=((2*(g.first+i):Nat):Int):=by omega
        rw[VZ q1];unfold dV;refine .go 60 ?_;simp(disch:=omega) [q1,q2];refine .call 60 (by simp) hpf ?_
        by_cases r1:g.al[i].1<0
        ·simp(disch:=omega) [r1];exact .back (by simp)
        by_cases r2:g.al[i].2<0
        ·simp(disch:=omega) [r1,r2];exact .back (by simp)
        by_cases r3:2*((g.first:Int)+i)<=g.al[i].1
        ·simp(disch:=omega) [r1,r2,r3];exact .back (by simp)
        by_cases r4:2*((g.first:Int)+i)<=g.al[i].2
        ·simp(disch:=omega) [r1,r2,r3,r4];exact .back (by simp)
        simp(disch:=omega) [r1,r2,r3,r4];refine .aN ?_;simp;refine .drop 2 rfl (by simp) (by simp) (by simp) ?_;simp at hh⊢;rw[show g.first+(i+1)=g.first+i+1 by omega]at hh;exact hh
      have hh:=key g.al.length 0 (by omega);simp at hh⊢;exact hh
  ·simp[d1];exact .back (by simp)
def cO(v:List Bool)(a:Nat):Bool:=v.getD (a/2) false !=decide (a%2=1)
theorem ZB{l:List (Int×Int)}{n:Nat}(h:mB l n=false):∀i(hi:i<l.length),(0<=l[i].1/\l[i].1<2*(n+i))/\0<=l[i].2/\l[i].2<2*(n+i):=by
 induction l generalizing n with
 |nil=>intro i hi;simp at hi
 |cons p l ih=>
  simp only[mB,ju,dV,iV]at h;intro i hi
  cases i with
  |zero=>simp;omega
  |succ i=>
   have:=ih h.2 i (by simpa using hi);simp at this⊢;omega
structure Gr.Ok(g:Gr):Prop where
 ins:0<=g.ins/\g.ins<=4000
 sum:g.ins+g.next.length+g.al.length<=4000
 lC:g.outs.length<=4000
 same:g.init.length=g.next.length
 init:∀a∈g.init,0<=a/\a<=2
 next:∀a∈g.next,0<=a/\a<g.lits
 outs:∀a∈g.outs,0<=a/\a<g.lits
 al:∀i(hi:i<g.al.length),(0<=g.al[i].1/\g.al[i].1<2*(g.first+i))/\0<=g.al[i].2/\g.al[i].2<2*(g.first+i)
theorem Gr.FA{g:Gr}(h:g.check=0):g.Ok:=by
 unfold Gr.check at h
 split at h
 ·simp at h
 ·rename_i hl;have hl:=Nh (by simpa using hl)
  split at h
  ·simp at h
  ·rename_i hb;simp only[Bool.not_eq_true,ju,Bool.not_eq_false',bd]at hb;obtain⟨⟨⟨⟨b1,b2⟩,b3⟩,b4⟩,b5⟩:=hb;refine⟨⟨hl.1,hl.2.1⟩,hl.2.2.1,hl.2.2.2,b1,?_,?_,?_,ZB b5⟩
   ·intro a ha;have:=n9.1 b2 a ha;simp[rA]at this;omega
   ·intro a ha;have:=n9.1 b3 a ha;simp[dV]at this;omega
   ·intro a ha;have:=n9.1 b4 a ha;simp[dV]at this;omega
def cP:List (Int×Int)->List Bool->List Bool
 |[],v=>v
 |p::ps,v=>cP ps (v++[cO v p.1.toNat&&cO v p.2.toNat])
theorem zd:∀(l:List (Int×Int))(v:List Bool),(cP l v).length=v.length+l.length
 |[],v=>by simp[cP]
 |p::ps,v=>by rw[cP,zd ps];simp;omega
theorem xU:∀(a b:List (Int×Int))(v:List Bool),cP (a++b) v=cP b (cP a v)
 |[],b,v=>rfl
 |p::ps,b,v=>by rw[fh,cP,cP,xU ps]
def Gr.AR(g:Gr)(state ins:List Bool):List Bool:=cP g.al (false::(ins++state))
def Gr.fits(g:Gr)(state ins:List Bool):Bool:=decide (state.length=g.next.length)&&decide ((ins.length:Int)=g.ins)
def Gr.tm(g:Gr)(state ins:List Bool):Int:=if g.check≠0 then g.check else if g.fits state ins=true then 0 else 11
def Gr.values(g:Gr)(state ins:List Bool):List Bool:=if g.tm state ins=0 then g.AR state ins else[]
def AI(v:List Bool)(l:List Int):List Bool:=l.map fun a=>cO v a.toNat
@[simp] theorem axa(v:List Bool)(l:List Int):(AI v l).length=l.length:=by simp[AI]
def Gr.pL(g:Gr)(state ins:List Bool):List Bool:=if g.tm state ins=0 then AI (g.AR state ins) g.outs else[]
def Gr.Fv(g:Gr)(state ins:List Bool):List Bool:=if g.tm state ins=0 then AI (g.AR state ins) g.next else[]
end Go.Proofs.YtihmomicdpkabaaGreatDoor
namespace Go.Proofs.YtihmomicdpkabaaGreatDoor
open Go.AM Go.Proofs
def eX(p:Int×Int):List (Int×Int)->Nat->Option Nat
 |[],_=>none
 |q::qs,i=>if q=p then some i else eX p qs (i+1)
theorem u7(p:Int×Int):∀(a b:List (Int×Int))(i:Nat),eX p (a++b) i=match eX p a i with|some j=>some j|none=>eX p b (i+a.length)
 |[],b,i=>by simp[eX]
 |q::a,b,i=>by
  rw[fh,eX,eX]
  by_cases h:q=p
  ·simp[h]
  ·rw[if_neg h,if_neg h,u7 p a b (i+1),b9,show i+1+a.length=i+(a.length+1) by omega]
theorem DP{p:Int×Int}:∀{l:List (Int×Int)}{i k:Nat},eX p l i=some k->i<=k/\∃h:k-i<l.length,l[k-i]=p
 |[],i,k,h=>by simp[eX]at h
 |q::l,i,k,h=>by
  rw[eX]at h
  by_cases hq:q=p
  ·rw[if_pos hq]at h
   cases h
   exact⟨aW _,by simp,by simp[hq]⟩
  ·rw[if_neg hq]at h;obtain⟨h1,h2,h3⟩:=DP h;refine⟨by omega,by simp;omega,?_⟩
   have e:k-i=(k-(i+1))+1:=by omega
   simp only[e,Cc];exact h3
theorem J8{p:Int×Int}:∀{l:List (Int×Int)}{i:Nat},eX p l i=none↔p∉l
 |[],i=>by simp[eX]
 |q::l,i=>by
  rw[eX]
  by_cases hq:q=p
  ·simp[hq]
  ·rw[if_neg hq,J8 (l:=l)];simp[hq,Ne.symm hq]
def kX(p q:Nat):Option Nat:=if q=0\/p^^^1=q then some 0 else if q=1\/p=q then some p else none
def bz(first:Nat)(l:List (Int×Int))(a b:Nat):List (Int×Int)×Nat:=
 match kX (max a b) (min a b)with
 |some c=>(l,c)
 |none=>match eX (((max a b:Nat):Int),((min a b:Nat):Int)) l 0 with
  |some i=>(l,2*(first+i))
  |none=>(l++[(((max a b:Nat):Int),((min a b:Nat):Int))],2*(first+l.length))
def fC(p:Int×Int):List ((Int×Int)×Nat)->Option Nat
 |[]=>none
 |(q,n)::r=>if p=q then some n else fC p r
abbrev fY(x:(Int×Int)×Nat):AV×AV:=(dm x.1,.int .i64 x.2)
theorem DQ(p q:Int×Int):bX (.iG [.int,.int]) (dm p) (dm q)=some (decide (p=q)):=by
 obtain⟨a,b⟩:=p;obtain⟨c,d⟩:=q;simp only[bX,b_,cM,fT,ez,bN]
 cases h1:(a==c)
 ·have:=ux.1 h1;simp[this]
 ·have e1:=eq_of_beq h1
  cases h2:(b==d)
  ·have:=ux.1 h2;simp[this]
  ·have e2:=eq_of_beq h2;simp[e1,e2]
theorem Da(p:Int×Int):∀l:List ((Int×Int)×Nat),ew (.iG [.int,.int]) (dm p) (l.map fY)=some ((fC p l).map fun n:Nat=>AV.int .i64 (n:Int))
 |[]=>rfl
 |(q,n)::r=>by
  simp only[cn,ew,DQ,fC]
  by_cases h:p=q
  ·simp[h]
  ·simp only[h,l6,de];exact Da p r
theorem Dk{p:Int×Int}{v:AV}:∀{l:List ((Int×Int)×Nat)},fC p l=none->gR (.iG [.int,.int]) (dm p) v (l.map fY)=some (l.map fY++[(dm p,v)])
 |[],_=>rfl
 |(q,n)::r,h=>by
  rw[fC]at h
  by_cases hq:p=q
  ·rw[if_pos hq]at h;cases h
  ·rw[if_neg hq]at h;simp only[cn,gR,DQ,hq,l6,Dk h,dp,fh]
theorem I9(n:Nat):∀a b:List (AV×AV),fE n (a++b)=(fE n a&&fE n b)
 |[],b=>by simp[fE]
 |(x,y)::a,b=>by simp[fE,I9 n a b,mQ]
@[simp] theorem W9(n:Nat):∀l:List ((Int×Int)×Nat),fE n (l.map fY)=true
 |[]=>rfl
 |x::r=>by simp[fE,W9 n r]
@[simp] theorem YJ(n:Nat)(τ:List Nat):∀l:List ((Int×Int)×Nat),lY n τ (l.map fY)=l.map fY
 |[]=>rfl
 |x::r=>by simp[YJ n τ r]
@[simp] theorem Y3(n:Nat)(τ:List Nat):∀l:List ((Int×Int)×Nat),oS n τ (l.map fY)=true
 |[]=>rfl
 |x::r=>by simp[Y3 n τ r]
@[simp] theorem WR(n m:Nat):∀l:List ((Int×Int)×Nat),mE n m (l.map fY)=true
 |[]=>rfl
 |x::r=>by simp[WR n m r]
def jg(first:Nat)(l:List (Int×Int))(es:List ((Int×Int)×Nat)):Prop:=∀p,fC p es=(eX p l 0).map fun i=>2*(first+i)
theorem IP(p:Int×Int):∀(a b:List ((Int×Int)×Nat)),fC p (a++b)=match fC p a with|some n=>some n|none=>fC p b
 |[],b=>rfl
 |(q,n)::a,b=>by
  rw[fh,fC,fC]
  by_cases h:p=q
  ·simp[h]
  ·rw[if_neg h,if_neg h,IP p a b]
theorem Ef(first:Nat):jg first [] []:=fun p=>rfl
theorem ZC{first:Nat}{l:List (Int×Int)}{es:List ((Int×Int)×Nat)}(h:jg first l es){p:Int×Int}{n:Nat}(hp:fC p es=some n):jg first (l++[p]) es:=by
 intro q;rw[h q,u7]
 cases hq:eX q l 0 with
 |some j=>rfl
 |none=>
  have h2:=h p;rw[hp]at h2
  have hne:p≠q:=by
   rintro rfl
   rw[hq]at h2
   cases h2
  simp[eX,hne]
theorem Lu{first:Nat}{l:List (Int×Int)}{es:List ((Int×Int)×Nat)}(h:jg first l es){p:Int×Int}(hp:fC p es=none):jg first (l++[p]) (es++[(p,2*(first+l.length))]):=by
 intro q;rw[IP,u7,h q]
 cases hq:eX q l 0 with
 |some j=>rfl
 |none=>
  simp only[rR,fC,eX,il]
  by_cases he:q=p
  ·simp[he]
  ·rw[if_neg he,if_neg (fun h1=>he h1.symm)];rfl
end Go.Proofs.YtihmomicdpkabaaGreatDoor
namespace Go.Proofs.YtihmomicdpkabaaGreatDoor
open Go.AM Go.Proofs
variable{Γ:Nat->Option AV}
theorem Ir(l:List (Int×Int)){k:Nat}(hk:Kd 2 k l)(hl:l.length<2^40):aS Tryz.prog Γ xk [.list false k (l.map dm)] (.own 2 cH (l.map dm)):=by
 refine .run 60 R8 (by simp) ?_
 cases l with
 |nil=>
  simp;refine .either 0 (by simp) (fun b=>?_)
  cases b
  ·refine .go 9 ?_;simp;refine .pz 2 2 cH rfl (by omega) ?_;refine .go 60 ?_;simp;exact .back (by simp)
  ·refine .go 60 ?_;simp;exact .back (by simp)
 |cons x xs=>
  have hk0:k=2:=by
   rcases hk with h|h
   ·exact h
   ·cases h
  subst hk0;simp at hl;simp(disch:=(first|omega|(simp;omega)));exact .back (by simp)
def OQ(h:List Ob):Prop:=∀m,h.length<=m->cw m h=true
abbrev cv(g:Gr):Ob:=.cells [.int .i64 g.ins,.list false g.kn (g.next.map i64),.list false g.ki (g.init.map i64),.list false g.ka (g.al.map dm),.list false g.ko (g.outs.map i64)]
def pN(first:Nat):List (Int×Int)->Nat->List ((Int×Int)×Nat)->List ((Int×Int)×Nat)
 |[],_,es=>es
 |p::ps,i,es=>pN first ps (i+1) (if(fC p es).isSome=true then es else es++[(p,2*(first+i))])
theorem K9(first:Nat):∀(ps l:List (Int×Int))(es:List ((Int×Int)×Nat)),jg first l es->jg first (l++ps) (pN first ps l.length es)
 |[],l,es,h=>by simpa[pN]using h
 |p::ps,l,es,h=>by
  rw[pN]
  have e:l++p::ps=(l++[p])++ps:=by simp
  have e2:l.length+1=(l++[p]).length:=by simp
  rw[e,e2]
  refine K9 first ps (l++[p]) _ ?_
  cases hf:fC p es with
  |none=>simpa using Lu h hf
  |some n=>simpa using ZC h hf
def Gr.a8(g:Gr):List ((Int×Int)×Nat):=pN g.first g.al 0 []
theorem Gr.MK(g:Gr):jg g.first g.al g.a8:=by
 have:=K9 g.first g.al [] [] (Ef _)
 rw[ld]at this;exact this
abbrev FX(g:Gr)(r n m:Nat)(come:AV):Ob:=.cells [.int .i64 g.ins,.list false g.kn (g.next.map i64),.list false g.ki (g.init.map i64),.sl r 0 n,.list false g.ko (g.outs.map i64),.mp m,come]
set_option maxRecDepth 8000 in
theorem ZF(g:Gr)(ok:g.Ok)(h:List Ob)(hw:OQ h)(up:List Fr):∀n i:Nat,i+n=g.al.length->∀es,AM.Reach Tryz.prog Γ
 (yvJ (.ptr h.length 0) (.ptr (h.length+2) 0) (.list false g.ka (g.al.map dm)) (.int .i64 g.al.length) (.int .i64 i) (h++[cv g,.map (es.map fY) true,FX g (h.length+3) g.al.length (h.length+1) (.list true 0 []),.row 2 cH (g.al.map dm) none true false]) ⟨[],.norm,h.length,up⟩)
 (.back up (.ptr (h.length+2) 0) (h++[cv g,.map ((pN g.first (g.al.drop i) i es).map fY) true,FX g (h.length+3) g.al.length (h.length+1) (.list true 0 []),.row 2 cH (g.al.map dm) none true false])):=by
 have o1:=ok.ins;have o3:=ok.sum;have hf:=ph (Γ:=Γ) g o1.1 o1.2 (by omega)
 have hfb:g.first<=8001:=by unfold Gr.first;omega
 intro n
 induction n with
 |zero=>
  intro i hi es
  have q1:¬i<g.al.length:=by omega
  rw[bu (by omega)];refine .ba 60 ?_;simp[q1,pN]
 |succ n ih=>
  intro i hi es
  have q1:i<g.al.length:=by omega
  have q2:=cF (g.ha.of q1);rw[bT q1,pN];have hfi:=Da g.al[i] es;have hbw:=hw (h.length+4) (by omega)
  cases hfe:fC g.al[i] es with
  |some c=>
   rw[hfe]at hfi;have hh:=ih (i+1) (by omega) es;refine .ba 60 ?_;simp(disch:=omega) [q1,q2,hfi,isKey,b_,cM];refine .aN ?_;simp;refine .ml (h.length+4) (by simp;rfl) (by simp) (by simp) (by simp[hbw]) ?_;simp at hh⊢;exact hh
  |none=>
   rw[hfe]at hfi;have hh:=ih (i+1) (by omega) (es++[(g.al[i],2*(g.first+i))]);have hput:=Dk (v:=.int .i64 (2*((g.first:Int)+i))) hfe;refine .ba 60 ?_;simp[q1,q2,hfi,isKey,b_,cM];refine .nw 60 ?_;simp[q1,q2];refine .call (by simp) hf ?_;simp(disch:=omega) [hput,isKey,b_,cM];refine .aN ?_;simp;refine .ml (h.length+4) (by simp;rfl) (by simp) (by simp) (by simp[hbw,I9]) ?_;simp[hfe]at hh⊢;exact hh
set_option maxRecDepth 8000 in
theorem aau(g:Gr)(ok:g.Ok)(hfew:g.al.length<2^40)(h:List Ob)(hw:OQ h):∀up,AM.Reach Tryz.prog Γ (.cl qE [e_ g] up h)
 (.back up (.ptr (h.length+2) 0) (h++[cv g,.map (g.a8.map fY) true,FX g (h.length+3) g.al.length (h.length+1) (.list true 0 []),.row 2 cH (g.al.map dm) none true false])):=by
 intro up;refine .bB 60 Jc ?_;simp;refine .na 60 (by simp) (Ir (Γ:=Γ) g.al g.ha hfew) ?_;simp;refine .inLoop ?_;have hh:=ZF (Γ:=Γ) g ok h hw up g.al.length 0 (by omega) [];simp at hh⊢;exact hh
abbrev Gr.gW(g:Gr)(l:List (Int×Int)):Gr:={g with al:=l,ka:=2,ha:=.self}
@[simp] theorem Gr.aw0(g:Gr)(l:List (Int×Int)):(g.gW l).first=g.first:=rfl
@[simp] theorem ax0(a b:Nat):oJ (.int .i64 (a:Int)) [.int .i64 (b:Int)]=some (.int .i64 ((max a b:Nat):Int)):=by
 simp only[oJ,cu];congr 2;split<;>omega
@[simp] theorem axB(a b:Nat):kW (.int .i64 (a:Int)) [.int .i64 (b:Int)]=some (.int .i64 ((min a b:Nat):Int)):=by
 simp only[kW,cu];congr 2;split<;>omega
abbrev wj(g:Gr)(x1 x2 x4:AV)(r n m:Nat)(come:AV):Ob:=.cells [.int .i64 g.ins,x1,x2,.sl r 0 n,x4,.mp m,come]
section
set_option maxRecDepth 8000 in
theorem Nq(a b c:Nat)(ha:a<2^20)(hb:b<2^20)(hk:kX (max a b) (min a b)=some c)(pb:AV)(h:List Ob):∀up,AM.Reach Tryz.prog Γ (.cl pa [pb,.int .i64 a,.int .i64 b] up h) (.back up (.int .i64 c) h):=by
 intro up
 have hle:min a b<=max a b:=by omega
 have hM:max a b<2^20:=by omega
 generalize hM':max a b=M at*;generalize hm':min a b=m at*;refine .bB 60 CD ?_;unfold kX at hk;have hx:=sW M
 by_cases c1:m=0
 ·subst c1;simp at hk;subst hk;simp[hM',hm']
 ·by_cases c2:M^^^1=m
  ·rw[if_pos (Or.inr c2)]at hk
   cases hk
   have c3:((M^^^1:Nat):Int)=m:=by omega
   simp(disch:=omega) [hM',hm',c1,c3,c2]
  ·rw[if_neg (by simp[c1,c2])]at hk
   have c3:¬((M^^^1:Nat):Int)=m:=by omega
   by_cases c4:m=1
   ·rw[if_pos (Or.inl c4)]at hk
    cases hk
    have c5:((m:Int)=1)=True:=cF (by omega);simp(disch:=omega) [hM',hm',c1,c3,c2,c5]
   ·by_cases c6:M=m
    ·rw[if_pos (Or.inr c6)]at hk
     cases hk
     subst c6;have c5:((c:Int)=1)=False:=lf (by omega);simp(disch:=omega) [hM',hm',c1,c3,c2,c5]
    ·rw[if_neg (by simp[c4,c6])]at hk
     cases hk
end
section
variable{p q:List Ob}{x1 x2 x4 come:AV}
theorem KT{p q:Nat}(h:kX p q=none):q≠0/\p^^^1≠q/\q≠1/\p≠q:=by
 unfold kX at h
 split at h
 ·cases h
 ·split at h
  ·cases h
  ·omega
set_option maxRecDepth 8000 in
theorem ND(g:Gr)(hi:0<=g.ins/\g.ins<=4000)(hn:g.next.length<=4000)(l:List (Int×Int))(hl:l.length<2^20)(es:List ((Int×Int)×Nat))(he:jg g.first l es)(a b:Nat)(ha:a<2^20)(hb:b<2^20)(hk:kX (max a b) (min a b)=none)
 (hx1:∀s,view (p++s) x1=some (.list false g.kn (g.next.map i64)))(hx2:∀s,view (p++s) x2=some (.list false g.ki (g.init.map i64)))(hx4:∀s,view (p++s) x4=some (.list false g.ko (g.outs.map i64))):
 ∀up,AM.Reach Tryz.prog Γ (.cl pa [.ptr (p.length+1) 0,.int .i64 a,.int .i64 b] up (p++.map (es.map fY) true::wj g x1 x2 x4 (p.length+2) l.length p.length come::.row 2 cH (l.map dm) none true false::q))
  (match fC (((max a b:Nat):Int),((min a b:Nat):Int)) es with
   |some c=>.back up (.int .i64 c) (p++.map (es.map fY) true::wj g x1 x2 x4 (p.length+2) l.length p.length come::.row 2 cH (l.map dm) none true false::(q++[.cells [.int .i64 ((max a b:Nat):Int),.int .i64 ((min a b:Nat):Int)]]))
   |none=>.back up (.int .i64 (2*(g.first+l.length):Nat)) (p++.map ((es++[((((max a b:Nat):Int),((min a b:Nat):Int)),2*(g.first+l.length))]).map fY) true::wj g x1 x2 x4 (p.length+2) (l.length+1) p.length come::
    .row 2 cH ((l++[(((max a b:Nat):Int),((min a b:Nat):Int))]).map dm) (some 0) true false::(q++[.cells [.int .i64 ((max a b:Nat):Int),.int .i64 ((min a b:Nat):Int)]]))):=by
 intro up;obtain⟨k1,k2,k3,k4⟩:=KT hk
 have hle:min a b<=max a b:=by omega
 have hM:max a b<2^20:=by omega
 generalize hM':max a b=M at*;generalize hm':min a b=m at*;have hx:=sW M
 have c3:¬((M^^^1:Nat):Int)=m:=by omega
 have hfe:=Da ((M:Int),(m:Int)) es;have c5:((m:Int)=1)=False:=lf (by omega);have c7:((M:Int)=m)=False:=lf (by omega)
 cases hf:fC ((M:Int),(m:Int)) es with
 |some c=>
  rw[hf]at hfe;have hfe:ew (.iG [.int,.int]) (.agg [.int .i64 M,.int .i64 m]) (es.map fY)=some (some (.int .i64 (c:Int))):=hfe;simp only;refine .bB 60 CD ?_;simp(disch:=omega) [hM',hm',k1,k2,k3,k4,c3,c5,c7,isKey,b_,cM,hfe];refine .ba 60 ?_;simp[isKey,b_,cM,hfe]
 |none=>
  rw[hf]at hfe;simp only;refine .bB 60 CD ?_;have hfe:ew (.iG [.int,.int]) (.agg [.int .i64 M,.int .i64 m]) (es.map fY)=some none:=hfe;simp(disch:=omega) [hM',hm',k1,k2,k3,k4,c3,c5,c7,isKey,b_,cM,hfe];refine .ba 60 ?_;simp[isKey,b_,cM,hfe];have hf1:=ph (Γ:=Γ) (g.gW l) hi.1 hi.2 hn
  have hfb:g.first<=8001:=by unfold Gr.first;omega
  have hput:=Dk (v:=.int .i64 (2*((g.first:Int)+l.length))) hf;refine .nw 60 ?_;simp;refine .call (by simp[hx1,hx2,hx4]) hf1 ?_;simp(disch:=omega);refine .nw 60 ?_;simp(disch:=(first|omega|(simp;omega))) [isKey,b_,cM,hput];simp[fY]
end
def gm:Gr:=⟨0,[],[],[],[],0,0,0,0,.nil,.nil,.nil,.nil⟩
def Gr.ji(g:Gr)(a b:Int):Int:=if g.check≠0 then g.check else if dV g.lits a=true\/dV g.lits b=true then 1 else if 4000<g.ins+g.next.length+(bz g.first g.al a.toNat b.toNat).1.length then 8 else 0
def Gr.dF(g:Gr)(a b:Int):Gr:=if g.ji a b=0 then g.gW (bz g.first g.al a.toNat b.toNat).1 else gm
def Gr.ek(g:Gr)(a b:Int):Nat:=if g.ji a b=0 then(bz g.first g.al a.toNat b.toNat).2 else 0
theorem D8(first:Nat)(l:List (Int×Int))(a b:Nat):(bz first l a b).1.length<=l.length+1:=by
 unfold bz
 split
 ·simp
 ·split<;>simp
theorem Kc{first:Nat}{l:List (Int×Int)}{es:List ((Int×Int)×Nat)}(h:jg first l es){a b:Nat}(hk:kX (max a b) (min a b)=none):
 bz first l a b=match fC (((max a b:Nat):Int),((min a b:Nat):Int)) es with
  |some c=>(l,c)
  |none=>(l++[(((max a b:Nat):Int),((min a b:Nat):Int))],2*(first+l.length)):=by
 unfold bz;rw[hk,h]
 cases eX (((max a b:Nat):Int),((min a b:Nat):Int)) l 0<;>rfl
theorem sQ{g:Gr}(ok:g.Ok)(l:List (Int×Int))(h1:g.al.length<=l.length):((g.gW l).check=8)↔4000<g.ins+g.next.length+l.length:=by
 have o1:=ok.ins;have o2:=ok.lC;unfold Gr.check Gr.k9;simp only[Gr.gW]
 by_cases h:4000<g.ins+g.next.length+(l.length:Int)
 ·simp[h]
 ·have h2:(decide (g.ins<0)||decide (4000<g.ins)||decide (4000<g.ins+↑g.next.length+↑l.length)||decide (4000<g.outs.length))=false:=by simp;omega
  rw[if_neg (by rw[h2];simp)];simp only[h,iff_false]
  split<;>omega
theorem UH(g:Gr):aS Tryz.prog Γ kD [e_ g] (.int .i64 (IntKind.i64.wrap (IntKind.i64.wrap (1+g.ins)+g.next.length))):=by
 refine .run 60 Jg (by simp) ?_;simp;exact .back (by simp)
theorem Mw{g:Gr}{a:Int}(h:dV g.lits a=false):0<=a/\a.toNat<g.lits/\(a.toNat:Int)=a:=by
 simp[dV]at h;omega
set_option maxRecDepth 8000 in
theorem W8(g:Gr)(hf:g.k_)(a b:Int):aS Tryz.prog Γ zh [e_ g,.int .i64 a,.int .i64 b] (.aG [e_ (g.dF a b),.int .i64 (g.ek a b),.int .i64 (g.ji a b)]):=by
 refine .run 60 WY (by simp) ?_;simp;refine .call 60 (by simp) (sA g hf) ?_;simp;refine .dr 60 ?_;simp;refine .call (by simp) (UH g) ?_
 by_cases hc:g.check=0
 ·have ok:=Gr.FA hc;have o1:=ok.ins;have o3:=ok.sum;have o4:=ok.lC
  have e1:IntKind.i64.wrap (IntKind.i64.wrap (1+g.ins)+g.next.length)=(g.first:Int):=by
   rw[wrap64 (n:=1+g.ins) (by omega) (by omega),wrap64 (by omega) (by omega)];unfold Gr.first;omega
  have hfb:g.first<=8001:=by unfold Gr.first;omega
  have hall:g.all<=12001:=by unfold Gr.all;omega
  have e2:(2*((g.first:Int)+g.al.length))=(g.lits:Int):=by unfold Gr.lits Gr.all;omega
  rw[e1]
  by_cases h1:dV g.lits a=true\/dV g.lits b=true
  ·have k1:g.ji a b=1:=by unfold Gr.ji;rw[if_neg (by simp[hc]),if_pos h1]
   have k2:g.dF a b=gm:=by unfold Gr.dF;rw[k1,if_neg (by omega)]
   have k3:g.ek a b=0:=by unfold Gr.ek;rw[k1,if_neg (by omega)]
   rw[k1,k2,k3];simp only[dV,eH,bd]at h1
   by_cases q1:a<0
   ·simp(disch:=omega) [hc,e2,q1,gm];exact .back (by simp)
   ·by_cases q2:b<0
    ·simp(disch:=omega) [hc,e2,q1,q2,gm];exact .back (by simp)
    ·by_cases q3:(g.lits:Int)<=a
     ·simp(disch:=omega) [hc,e2,q1,q2,q3,gm];exact .back (by simp)
     ·have q4:(g.lits:Int)<=b:=by omega
      simp(disch:=omega) [hc,e2,q1,q2,q3,q4,gm];exact .back (by simp)
  ·rw[not_or]at h1;obtain⟨a1,a2,a3⟩:=Mw (Cd.2 h1.1);obtain⟨b1,b2,b3⟩:=Mw (Cd.2 h1.2);have hlit:g.lits=2*g.all:=rfl;generalize hx:a.toNat=x at*;generalize hy:b.toNat=y at*;subst a3;subst b3
   have q1:¬((g.lits:Int)<=x):=by omega
   have q2:¬((g.lits:Int)<=y):=by omega
   simp(disch:=omega) [hc,e2,q1,q2];refine .a_ 60 (aau g ok hf.2.2.1 _ (by intro m hm;simp at hm⊢;omega)) ?_;simp
   have hE0:g.ji (x:Int) (y:Int)=if 4000<g.ins+g.next.length+(bz g.first g.al x y).1.length then 8 else 0:=by
    unfold Gr.ji;rw[if_neg (by simp[hc]),if_neg (by rw[not_or];exact h1),jr,jr]
   cases hK:kX (max x y) (min x y)with
   |some c=>
    have hG:bz g.first g.al x y=(g.al,c):=by unfold bz;rw[hK]
    have hE:=hE0;rw[hG]at hE;refine .a_ 60 (Nq x y c (by omega) (by omega) hK _ _) ?_;simp;refine .call 60 (by simp) (sA (Γ:=Γ) (g.gW g.al) ⟨hf.1,hf.2.1,by first|exact hf.2.2.1|(simp;have:=hf.2.2.1;omega),hf.2.2.2⟩) ?_
    by_cases q8:(g.gW g.al).check=8
    ·have k1:=hE;rw[if_pos ((sQ ok g.al (by simp)).1 q8)]at k1
     have k2:g.dF (x:Int) (y:Int)=gm:=by unfold Gr.dF;rw[k1,if_neg (by omega)]
     have k3:g.ek (x:Int) (y:Int)=0:=by unfold Gr.ek;rw[k1,if_neg (by omega)]
     rw[k1,k2,k3];simp[q8,gm];exact .back (by simp)
    ·have k1:=hE;rw[if_neg (fun hh=>q8 ((sQ ok g.al (by simp)).2 hh))]at k1
     have k2:g.dF (x:Int) (y:Int)=g.gW g.al:=by unfold Gr.dF;rw[k1,if_pos rfl];simp[hG]
     have k3:(g.ek (x:Int) (y:Int):Int)=(bz g.first g.al x y).2:=by unfold Gr.ek;rw[k1,if_pos rfl];simp
     rw[k1,k2,k3,hG];simp[q8];exact .back (by simp)
   |none=>
    have hG:=Kc g.MK hK;have hE:=hE0
    have key:=ND (Γ:=Γ) (p:=[cv g,.cells [.int .i64 0,.sl 2 0 0,.sl 3 0 0,.sl 4 0 0,.sl 5 0 0],.row 1 aq [] none true false,.row 1 aq [] none true false,.row 2 cH [] none true false,.row 1 aq [] none true false,cv g]) (q:=[])
     (x1:=.list false g.kn (g.next.map i64)) (x2:=.list false g.ki (g.init.map i64)) (x4:=.list false g.ko (g.outs.map i64)) (come:=.list true 0 []) g o1 (by omega) g.al (by omega) g.a8 g.MK x y (by omega) (by omega) hK (fun s=>by simp) (fun s=>by simp) (fun s=>by simp)
    cases hF:fC (((max x y:Nat):Int),((min x y:Nat):Int)) g.a8 with
    |some c=>
     rw[hF]at hG key;simp only at hG key;rw[hG]at hE;simp at key;refine .a_ 60 key ?_;simp;refine .call 60 (by simp) (sA (Γ:=Γ) (g.gW g.al) ⟨hf.1,hf.2.1,by first|exact hf.2.2.1|(simp;have:=hf.2.2.1;omega),hf.2.2.2⟩) ?_
     by_cases q8:(g.gW g.al).check=8
     ·have k1:=hE;rw[if_pos ((sQ ok g.al (by simp)).1 q8)]at k1
      have k2:g.dF (x:Int) (y:Int)=gm:=by unfold Gr.dF;rw[k1,if_neg (by omega)]
      have k3:g.ek (x:Int) (y:Int)=0:=by unfold Gr.ek;rw[k1,if_neg (by omega)]
      rw[k1,k2,k3];simp[q8,gm];exact .back (by simp)
     ·have k1:=hE;rw[if_neg (fun hh=>q8 ((sQ ok g.al (by simp)).2 hh))]at k1
      have k2:g.dF (x:Int) (y:Int)=g.gW g.al:=by unfold Gr.dF;rw[k1,if_pos rfl];simp[hG]
      have k3:(g.ek (x:Int) (y:Int):Int)=(bz g.first g.al x y).2:=by unfold Gr.ek;rw[k1,if_pos rfl];simp
      rw[k1,k2,k3,hG];simp[q8];exact .back (by simp)
    |none=>
     rw[hF]at hG key;simp only at hG key;rw[hG]at hE;simp at key;refine .a_ 60 key ?_;generalize hnew:(((max x y:Nat):Int),((min x y:Nat):Int))=new at*;simp;refine .call 60 (by simp;rw[cL (by simp)]) (sA (Γ:=Γ) (g.gW (g.al++[new])) ⟨hf.1,hf.2.1,by first|exact hf.2.2.1|(simp;have:=hf.2.2.1;omega),hf.2.2.2⟩) ?_
     by_cases q8:(g.gW (g.al++[new])).check=8
     ·have k1:=hE;rw[if_pos ((sQ ok (g.al++[new]) (by simp)).1 q8)]at k1
      have k2:g.dF (x:Int) (y:Int)=gm:=by unfold Gr.dF;rw[k1,if_neg (by omega)]
      have k3:g.ek (x:Int) (y:Int)=0:=by unfold Gr.ek;rw[k1,if_neg (by omega)]
      rw[k1,k2,k3];simp[q8,gm];exact .back (by simp)
     ·have k1:=hE;rw[if_neg (fun hh=>q8 ((sQ ok (g.al++[new]) (by simp)).2 hh))]at k1
      have k2:g.dF (x:Int) (y:Int)=g.gW (g.al++[new]):=by unfold Gr.dF;rw[k1,if_pos rfl];simp[hG]
      have k3:(g.ek (x:Int) (y:Int):Int)=(bz g.first g.al x y).2:=by unfold Gr.ek;rw[k1,if_pos rfl];simp
      rw[k1,k2,k3,hG];simp[q8];exact .back (by simp;rw[cL (by simp)])
 ·have h1:g.ji a b=g.check:=by unfold Gr.ji;rw[if_pos hc]
  have h2:g.dF a b=gm:=by unfold Gr.dF;rw[h1,if_neg hc]
  have h3:g.ek a b=0:=by unfold Gr.ek;rw[h1,if_neg hc]
  simp[hc,h1,h2,h3,gm];exact .back (by simp)
theorem Iu(l:List Int){k:Nat}(hk:Kd 1 k l)(hl:l.length<2^40):aS Tryz.prog Γ xq [.list false k (l.map i64)] (.own 1 aq (l.map i64)):=by
 refine .run 60 Sk (by simp) ?_
 cases l with
 |nil=>
  simp;refine .either 0 (by simp) (fun b=>?_)
  cases b
  ·refine .go 9 ?_;simp;refine .pz 2 1 aq rfl (by omega) ?_;refine .go 60 ?_;simp;exact .back (by simp)
  ·refine .go 60 ?_;simp;exact .back (by simp)
 |cons x xs=>
  have hk0:k=1:=by
   rcases hk with h|h
   ·exact h
   ·cases h
  subst hk0;simp at hl;simp(disch:=(first|omega|(simp;omega)));exact .back (by simp)
theorem NJ{p q:List Ob}{x1 x2 x4 come:AV}(g:Gr)(hi:0<=g.ins/\g.ins<=4000)(hn:g.next.length<=4000)(l:List (Int×Int))(hl:l.length<2^20)(es:List ((Int×Int)×Nat))(he:jg g.first l es)(a b:Nat)(ha:a<2^20)(hb:b<2^20)
 (hx1:∀s,view (p++s) x1=some (.list false g.kn (g.next.map i64)))(hx2:∀s,view (p++s) x2=some (.list false g.ki (g.init.map i64)))(hx4:∀s,view (p++s) x4=some (.list false g.ko (g.outs.map i64))):
 ∃(es':List ((Int×Int)×Nat))(gr:Option Nat)(junk:List Ob),jg g.first (bz g.first l a b).1 es'/\(gr=none\/gr=some 0)/\(junk=[]\/∃x y:Int,junk=[.cells [.int .i64 x,.int .i64 y]])/\
 ∀up,AM.Reach Tryz.prog Γ (.cl pa [.ptr (p.length+1) 0,.int .i64 a,.int .i64 b] up (p++.map (es.map fY) true::wj g x1 x2 x4 (p.length+2) l.length p.length come::.row 2 cH (l.map dm) none true false::q))
  (.back up (.int .i64 ((bz g.first l a b).2:Nat)) (p++.map (es'.map fY) true::wj g x1 x2 x4 (p.length+2) (bz g.first l a b).1.length p.length come::.row 2 cH ((bz g.first l a b).1.map dm) gr true false::(q++junk))):=by
 cases hK:kX (max a b) (min a b)with
 |some c=>
  have hG:bz g.first l a b=(l,c):=by unfold bz;rw[hK]
  rw[hG];exact⟨es,none,[],he,.inl rfl,.inl rfl,fun up=>by rw[fM];exact Nq a b c ha hb hK _ _ up⟩
 |none=>
  have hG:=Kc he hK;have key:=ND (Γ:=Γ) (p:=p) (q:=q) (come:=come) g hi hn l hl es he a b ha hb hK hx1 hx2 hx4
  cases hF:fC (((max a b:Nat):Int),((min a b:Nat):Int)) es with
  |some c=>
   rw[hF]at hG key;simp only at hG key;rw[hG];exact⟨es,none,_,he,.inl rfl,.inr ⟨((max a b:Nat):Int),((min a b:Nat):Int),rfl⟩,key⟩
  |none=>
   rw[hF]at hG key;simp only at hG key;rw[hG];refine⟨_,some 0,_,Lu he hF,.inr rfl,.inr ⟨((max a b:Nat):Int),((min a b:Nat):Int),rfl⟩,fun up=>?_⟩;have:=key up;simp only[bM,b9,dq,il];exact this
theorem EB{x a:Nat}(hx:(x:Int)<2^60):fV .xor .i64 (x:Int) ((a%2:Nat):Int)=some ((x^^^(a%2):Nat):Int):=by
 rcases(show a%2=0\/a%2=1 by omega)with h|h
 ·rw[h,Nat.xor_zero]
  have h1:(BitVec.ofInt 64 (x:Int)^^^BitVec.ofInt 64 ((0:Nat):Int)).toNat=x:=by
   have e1:BitVec.ofInt 64 ((0:Nat):Int)=0#64:=by decide
   rw[e1,BitVec.xor_zero,Rq];omega
  show some (IntKind.i64.wrap ((BitVec.ofInt 64 (x:Int)^^^BitVec.ofInt 64 ((0:Nat):Int)).toNat:Int))=_
  rw[h1,AP (by omega)]
 ·rw[h];exact adJ x hx
def bH(to:List Nat)(a:Nat):Nat:=to.getD (a/2) 0^^^(a%2)
def eE(to:List Nat)(l:List Int):List Nat:=l.map fun a=>bH to a.toNat
@[simp] theorem axE(to:List Nat)(l:List Int):(eE to l).length=l.length:=by simp[eE]
theorem JX{to:List Nat}{l:List Int}{i:Nat}(h:i<l.length):eE to (l.take (i+1))=eE to (l.take i)++[bH to l[i].toNat]:=by
 rw[kz h];simp only[eE,l0,cn,lZ]
section
variable{c0 c1 c2 c3 c4 c5:AV}
theorem tv(to:List Nat)(hto:∀x∈to,x<2^40)(a:Nat)(h1:a/2<to.length)(ha:(a:Int)<2^60)(b r:Nat){E:TypeId}{gr:Option Nat}{fl sh:Bool}{h:List Ob}(hb:h[b]? =some (.cells [c0,c1,c2,c3,c4,c5,.sl r 0 to.length]))(hr:h[r]? =some (.row 1 E (to.map iN) gr fl sh))(hok:cy (to.map iN) gr 0 to.length=true):
 ∀up,AM.Reach Tryz.prog Γ (.cl mR [.ptr b 0,.int .i64 a] up h) (.back up (.int .i64 (bH to a)) h):=by
 intro up
 have h3:((a/2:Nat):Int)<to.length:=by omega
 have h4:=hto _ (bC h1)
 have h5:to.getD (a/2) 0=to[a/2]:=by rw[bG,bn h1];rfl
 have h6:=EB (x:=to[a/2]) (a:=a) (by omega);refine .bB 60 SM ?_;unfold bH;rw[h5];simp(disch:=omega) [-Int.natCast_ediv,-Int.natCast_emod,-cy,hok,hb,hr,h1,h3,h6]
end
set_option maxRecDepth 8000 in
theorem NS(to:List Nat)(hto:∀x∈to,x<2^40)(l:List Int){k:Nat}(hk:Kd 1 k l)(hl:l.length<2^40)(hlt:∀a∈l,0<=a/\a<2*to.length)(hbt:to.length<2^40){c0 c1 c2 c3 c4 c5:AV}(b r:Nat){E:TypeId}{h:List Ob}(hb:h[b]? =some (.cells [c0,c1,c2,c3,c4,c5,.sl r 0 to.length]))(hr:h[r]? =some (.row 1 E (to.map iN) none true false))
 (hv:∀m,cD (h.length+1) m h=true):
 ∀up,AM.Reach Tryz.prog Γ (.cl qz [.ptr b 0,.list false k (l.map i64)] up h) (.back up (.sl (h.length+1) 0 l.length) (h++[.row 1 aq [] none true false,.row 1 aq ((eE to l).map iN) none true false])):=by
 intro up
 have hb':∀os,(h++os)[b]? =some (.cells [c0,c1,c2,c3,c4,c5,.sl r 0 to.length]):=fun os=>fq hb os
 have hr':∀os,(h++os)[r]? =some (.row 1 E (to.map iN) none true false):=fun os=>fq hr os
 have key:∀n j:Nat,j+n=l.length->∀w,w=eE to (l.take j)->AM.Reach Tryz.prog Γ (OY (.sl (h.length+1) 0 w.length) (.fn (.func mR) [.ptr b 0] []) (.list false k (l.map i64)) (.int .i64 l.length) (.int .i64 j)
  (h++[.row 1 aq [] none true false,.row 1 aq (w.map iN) none true false]) ⟨[],.norm,h.length,up⟩) (.back up (.sl (h.length+1) 0 l.length) (h++[.row 1 aq [] none true false,.row 1 aq ((eE to l).map iN) none true false])):=by
  intro n
  induction n with
  |zero=>
   intro j hj w hw
   have q1:¬j<l.length:=by omega
   rw[cL (by omega)]at hw;subst hw;refine .ba 60 ?_;simp[q1]
  |succ n ih=>
   intro j hj w hw
   have q1:j<l.length:=by omega
   have q2:=cF (hk.of q1);obtain⟨a1,a2⟩:=hlt l[j] (bC q1);obtain⟨x,hx⟩:=l7 a1
   have hwl:w.length=j:=by rw[hw];simp;omega
   have hh:=ih (j+1) (by omega) _ rfl;rw[JX q1,<-hw,hx]at hh;simp only[jr]at hh;have hc:=tv (Γ:=Γ) to hto x (by omega) (by omega) b r (hb' [.row 1 aq [] none true false,.row 1 aq (w.map iN) none true false]) (hr' _) (by simp);refine .ba 60 ?_;simp(disch:=omega) [q1,q2,hx];refine .a_ 60 hc ?_;simp(disch:=(first|omega|(simp;omega))) [q1,q2];refine .aN ?_;simp;refine .pF (i:=h.length+1) (by simp;exact⟨rfl,rfl,rfl,rfl,rfl⟩) (by simp) (by simp) (by simp[hv]) ?_;simp at hh⊢;exact hh
 refine .bB 60 ID ?_;simp;refine .inLoop ?_;have hh:=key l.length 0 (by omega) [] (by simp[eE]);simp at hh⊢;exact hh
set_option maxRecDepth 8000 in
theorem Nv(to:List Nat)(hto:∀x∈to,x<2^40)(l:List Int)(hl:l.length<2^40)(hlt:∀a∈l,0<=a/\a<2*to.length)(hbt:to.length<2^40){c0 c1 c2 c3 c4 c5:AV}(b r qq:Nat){E E2:TypeId}{h:List Ob}(hb:h[b]? =some (.cells [c0,c1,c2,c3,c4,c5,.sl r 0 to.length]))(hr:h[r]? =some (.row 1 E (to.map iN) none true false))
 (hq:h[qq]? =some (.row 1 E2 (l.map i64) none true false))(hv:∀m,cD (h.length+1) m h=true):
 ∀up,AM.Reach Tryz.prog Γ (.cl qz [.ptr b 0,.sl qq 0 l.length] up h) (.back up (.sl (h.length+1) 0 l.length) (h++[.row 1 aq [] none true false,.row 1 aq ((eE to l).map iN) none true false])):=by
 intro up
 have hb':∀os,(h++os)[b]? =some (.cells [c0,c1,c2,c3,c4,c5,.sl r 0 to.length]):=fun os=>fq hb os
 have hr':∀os,(h++os)[r]? =some (.row 1 E (to.map iN) none true false):=fun os=>fq hr os
 have hql:¬qq=h.length+1:=by have:=aV hq;omega
 have hq':∀os,(h++os)[qq]? =some (.row 1 E2 (l.map i64) none true false):=fun os=>fq hq os
 have key:∀n j:Nat,j+n=l.length->∀w,w=eE to (l.take j)->AM.Reach Tryz.prog Γ (OY (.sl (h.length+1) 0 w.length) (.fn (.func mR) [.ptr b 0] []) (.sl qq 0 l.length) (.int .i64 l.length) (.int .i64 j)
  (h++[.row 1 aq [] none true false,.row 1 aq (w.map iN) none true false]) ⟨[],.norm,h.length,up⟩) (.back up (.sl (h.length+1) 0 l.length) (h++[.row 1 aq [] none true false,.row 1 aq ((eE to l).map iN) none true false])):=by
  intro n
  induction n with
  |zero=>
   intro j hj w hw
   have q1:¬j<l.length:=by omega
   rw[cL (by omega)]at hw;subst hw;refine .ba 60 ?_;simp[q1]
  |succ n ih=>
   intro j hj w hw
   have q1:j<l.length:=by omega
   obtain⟨a1,a2⟩:=hlt l[j] (bC q1);obtain⟨x,hx⟩:=l7 a1
   have hwl:w.length=j:=by rw[hw];simp;omega
   have hh:=ih (j+1) (by omega) _ rfl;rw[JX q1,<-hw,hx]at hh;simp only[jr]at hh;have hc:=tv (Γ:=Γ) to hto x (by omega) (by omega) b r (hb' [.row 1 aq [] none true false,.row 1 aq (w.map iN) none true false]) (hr' _) (by simp);refine .ba 60 ?_;simp(disch:=omega) [q1,hq',hx];refine .a_ 60 hc ?_;simp(disch:=(first|omega|(simp;omega))) [q1,hq'];refine .aN ?_;simp;refine .pF (i:=h.length+1) (by simp;exact⟨rfl,rfl,rfl,rfl,rfl⟩) (by simp) (by simp[hql]) (by simp[hv]) ?_;simp at hh⊢;exact hh
 refine .bB 60 ID ?_;simp;refine .inLoop ?_;have hh:=key l.length 0 (by omega) [] (by simp[eE]);simp at hh⊢;exact hh
abbrev oC(x:Nat×List Int):AV:=.list false x.1 (x.2.map i64)
def cr:List (Nat×List Int)->List Int
 |[]=>[]
 |x::xs=>x.2++cr xs
theorem I7(a b:List (Nat×List Int)):cr (a++b)=cr a++cr b:=by
 induction a with
 |nil=>rfl
 |cons x a ih=>simp[cr,ih]
theorem KL(xs:List (Nat×List Int))(i:Nat)(h:i<xs.length):cr (xs.take (i+1))=cr (xs.take i)++xs[i].2:=by
 rw[kz h,I7];simp[cr]
theorem MT(xs:List (Nat×List Int))(i:Nat):(cr (xs.take i)).length<=(cr xs).length:=by
 conv=>rhs;rw[<-nH i xs,I7]
 simp
set_option maxRecDepth 8000 in
theorem Sf(xs:List (Nat×List Int))(hk:∀x∈xs,Kd 1 x.1 x.2)(hn:xs.length<2^40)(hs:(cr xs).length<2^40)(hp:0<(cr xs).length):
 aS Tryz.prog Γ o_ [.list false 1 (xs.map oC)] (.own 1 aq ((cr xs).map i64)):=by
 refine .run 60 Is (by simp) ?_
 have key2:∀n i:Nat,i+n=xs.length->∀m:Nat,(cr (xs.take i)).length+m=(cr xs).length->
  az Tryz.prog Γ (QU (.sl 2 0 (cr (xs.take i)).length) (.list false 1 (xs.map oC)) (.int .i64 xs.length) (.int .i64 i) [.row 1 aq [] none true false,.row 1 aq [] none true false,.row 1 aq ((cr (xs.take i)).map i64++List.replicate m (AV.int .i64 0)) none true false])
   (.ret (.own 1 aq ((cr xs).map i64))):=by
  intro n
  induction n with
  |zero=>
   intro i hi m hm
   have q1:¬i<xs.length:=by omega
   have q2:xs.take i=xs:=cL (by omega);rw[q2]at hm⊢
   have hm0:m=0:=by omega
   subst hm0;refine .go 60 ?_;simp[q1];exact .back (by simp)
  |succ n ih=>
   intro i hi m hm
   have q1:i<xs.length:=by omega
   have q2:=KL xs i q1;have q3:=MT xs (i+1);rw[q2,bM]at q3;have q4:=hk xs[i] (bC q1);have q5:xs[i].1=1\/xs[i].2=[]:=q4;have hh:=ih (i+1) (by omega) (m-xs[i].2.length) (by rw[q2,bM];omega);rw[q2]at hh
   have hd:(List.replicate m (AV.int .i64 0)).drop xs[i].2.length=List.replicate (m-xs[i].2.length) (AV.int .i64 0):=by simp
   refine .go 60 ?_
   by_cases q6:(cr (xs.take i)).length=(cr xs).length
   ·have q7:xs[i].2=[]:=kq.1 (by omega)
    have hm0:m=0:=by omega
    subst hm0;simp[q7]at hh;simp(disch:=(first|omega|(simp;omega))) [q1,q5,q7];refine .aN ?_;simp;exact hh
   ·simp(disch:=(first|omega|(simp;omega))) [q1,q5]
    by_cases q7:m=0
    ·omega
    ·have c1:¬(cr (List.take i xs)).length=(cr (List.take i xs)).length+m:=by omega
     have c2:(cr (List.take i xs)).length+xs[i].snd.length<=(cr (List.take i xs)).length+m:=by omega
     simp(disch:=(first|omega|(simp;omega))) [q1,q5,c1,c2,q7];refine .aN ?_;have nB:((cr (xs.take i)).map i64).drop ((cr (xs.take i)).length+xs[i].2.length)=[]:=bu (by simp);simp[ug,hd,nB]at hh⊢;exact hh
 have key1:∀n i:Nat,i+n=xs.length->
  az Tryz.prog Γ (Qd (.list false 1 (xs.map oC)) (.int .i64 (cr (xs.take i)).length) (.list false 1 (xs.map oC)) (.int .i64 xs.length) (.int .i64 i) [.row 1 aq [] none true false])
   (.ret (.own 1 aq ((cr xs).map i64))):=by
  intro n
  induction n with
  |zero=>
   intro i hi
   have q1:¬i<xs.length:=by omega
   have q2:xs.take i=xs:=cL (by omega);have q3:0<(cr xs).length:=hp;have hh:=key2 xs.length 0 (by omega) (cr xs).length (by simp[cr]);refine .go 60 ?_;rw[q2];simp[q1];refine .enter 60 Iv ?_
   have q4:¬(cr xs).length=0:=by omega
   have q5:cr xs≠[]:=fun e=>by rw[e]at hp;simp at hp
   obtain⟨m,hm⟩:∃m,(cr xs).length=m+1:=⟨(cr xs).length-1,by omega⟩
   have hrep:List.replicate (cr xs).length (AV.int .i64 0)=(AV.int .i64 0)::List.replicate m (AV.int .i64 0):=by rw[hm];rfl
   simp(disch:=(first|omega|(simp;omega))) [q3,q4,q5,hrep];refine .inLoop ?_;simp[cr,hrep]at hh⊢;exact hh
  |succ n ih=>
   intro i hi
   have q1:i<xs.length:=by omega
   have q2:=KL xs i q1;have q3:=MT xs (i+1);rw[q2,bM]at q3;have hh:=ih (i+1) (by omega);rw[q2]at hh;refine .go 60 ?_
   have q4:¬((cr (xs.take i)).length:Int)+xs[i].2.length<0:=by omega
   simp(disch:=(first|omega|(simp;omega))) [q1,q4];refine .aN ?_;simp at hh⊢;exact hh
 simp;refine .inLoop ?_;have hh:=key1 xs.length 0 (by omega);simp[cr]at hh⊢;exact hh
set_option maxRecDepth 8000 in
theorem R3(xs:List (Nat×List Int))(hx:∀x∈xs,x.2=[])(hn:xs.length<2^40):
 aS Tryz.prog Γ o_ [.list false 1 (xs.map oC)] (.own 1 aq []):=by
 refine .run 60 Is (by simp) ?_
 have key2:∀n i:Nat,i+n=xs.length->az Tryz.prog Γ (QU (.list true 0 []) (.list false 1 (xs.map oC)) (.int .i64 xs.length) (.int .i64 i) [.row 1 aq [] none true false,.row 1 aq [] none true false])
  (.ret (.own 1 aq [])):=by
  intro n
  induction n with
  |zero=>
   intro i hi
   have q1:¬i<xs.length:=by omega
   refine .pz 6 1 aq rfl (by omega) ?_;refine .go 60 ?_;simp[q1];exact .back (by simp)
  |succ n ih=>
   intro i hi
   have q1:i<xs.length:=by omega
   have q7:=hx xs[i] (bC q1);have hh:=ih (i+1) (by omega);refine .go 60 ?_;simp(disch:=(first|omega|(simp;omega))) [q1,q7];refine .aN ?_;simp at hh⊢;exact hh
 have key:∀n i:Nat,i+n=xs.length->az Tryz.prog Γ (Qd (.list false 1 (xs.map oC)) (.int .i64 0) (.list false 1 (xs.map oC)) (.int .i64 xs.length) (.int .i64 i) [.row 1 aq [] none true false])
  (.ret (.own 1 aq [])):=by
  intro n
  induction n with
  |zero=>
   intro i hi
   have q1:¬i<xs.length:=by omega
   refine .go 60 ?_;simp[q1];refine .enter 60 Iv ?_;simp;refine .inLoop ?_;have hh:=key2 xs.length 0 (by omega);simp at hh⊢;exact hh
  |succ n ih=>
   intro i hi
   have q1:i<xs.length:=by omega
   have q7:=hx xs[i] (bC q1);have hh:=ih (i+1) (by omega);refine .go 60 ?_;simp(disch:=(first|omega|(simp;omega))) [q1,q7];refine .aN ?_;simp at hh⊢;exact hh
 simp;refine .inLoop ?_;have hh:=key xs.length 0 (by omega);simp at hh⊢;exact hh
theorem Se(xs:List (Nat×List Int))(hk:∀x∈xs,Kd 1 x.1 x.2)(hn:xs.length<2^40)(hs:(cr xs).length<2^40):
 aS Tryz.prog Γ o_ [.list false 1 (xs.map oC)] (.own 1 aq ((cr xs).map i64)):=by
 rcases Rk (cr xs).length with h|h
 ·have h0:cr xs=[]:=kq.1 h
  have hx:∀x∈xs,x.2=[]:=by
   clear hk hn hs h
   induction xs with
   |nil=>simp
   |cons y ys ih=>
    simp only[cr,Rs]at h0;intro x hx
    rcases bq.1 hx with rfl|hx
    ·exact h0.1
    ·exact ih h0.2 x hx
  rw[h0];exact R3 xs hx hn
 ·exact Sf xs hk hn hs h
def jF:List Int->List Bool->List Bool
 |[],v=>v
 |a::l,v=>jF l (v.set (a.toNat/2) true)
def pJ(al:List (Int×Int))(first:Nat):Nat->List Bool->List Bool
 |0,v=>v
 |i+1,v=>pJ al first i (if v.getD (first+i) false=true then(v.set ((al.getD i (0,0)).1.toNat/2) true).set ((al.getD i (0,0)).2.toNat/2) true else v)
def Gr.dd(g:Gr):List Bool:=pJ g.al g.first g.al.length (jF (g.next++g.outs) (List.replicate g.all false))
theorem ze:∀(l:List Int)(v:List Bool),(jF l v).length=v.length
 |[],v=>rfl
 |a::l,v=>by rw[jF,ze l,kx]
theorem JP(al:List (Int×Int))(first:Nat):∀(i:Nat)(v:List Bool),(pJ al first i v).length=v.length
 |0,v=>rfl
 |i+1,v=>by rw[pJ,JP al first i];split<;>simp
theorem IN:∀(a b:List Int)(v:List Bool),jF (a++b) v=jF b (jF a v)
 |[],b,v=>rfl
 |x::a,b,v=>by rw[fh,jF,jF,IN a b]
abbrev adX:List (List Nat):=[[0,1,2,3,4,5,6,7,8],[0,1,2,3,4,5,7,6,8],[0,1,2,3,4,7,5,6,8],[0,1,2,3,7,4,5,6,8],[0,1,2,7,3,4,5,6,8],[0,1,7,2,3,4,5,6,8],[0,2,1,3,4,5,6,7,8],[0,2,1,3,4,5,7,6,8],[0,2,1,3,4,7,5,6,8],[0,2,1,3,7,4,5,6,8],[0,2,1,7,3,4,5,6,8],[0,2,3,1,4,5,6,7,8],[0,2,3,1,4,5,7,6,8],[0,2,3,1,4,7,5,6,8],[0,2,3,1,7,4,5,6,8],[0,2,3,4,1,5,6,7,8],[0,2,3,4,1,5,7,6,8],[0,2,3,4,1,7,5,6,8],[0,2,3,4,7,1,5,6,8],[0,2,3,7,1,4,5,6,8],[0,2,3,7,4,1,5,6,8],[0,2,7,1,3,4,5,6,8],[0,2,7,3,1,4,5,6,8],[0,2,7,3,4,1,5,6,8],[0,7,1,2,3,4,5,6,8],[0,7,2,1,3,4,5,6,8],[0,7,2,3,1,4,5,6,8],[0,7,2,3,4,1,5,6,8],[2,0,1,3,4,5,6,7,8],[2,0,1,3,4,5,7,6,8],[2,0,1,3,4,7,5,6,8],[2,0,1,3,7,4,5,6,8],[2,0,1,7,3,4,5,6,8],[2,0,3,1,4,5,6,7,8],[2,0,3,1,4,5,7,6,8],[2,0,3,1,4,7,5,6,8],[2,0,3,1,7,4,5,6,8],[2,0,3,4,1,5,6,7,8],[2,0,3,4,1,5,7,6,8],[2,0,3,4,1,7,5,6,8],[2,0,3,4,7,1,5,6,8],[2,0,3,7,1,4,5,6,8],[2,0,3,7,4,1,5,6,8],[2,0,7,1,3,4,5,6,8],[2,0,7,3,1,4,5,6,8],[2,0,7,3,4,1,5,6,8],[2,3,0,1,4,5,6,7,8],[2,3,0,1,4,5,7,6,8],[2,3,0,1,4,7,5,6,8],[2,3,0,1,7,4,5,6,8],[2,3,0,4,1,5,6,7,8],[2,3,0,4,1,5,7,6,8],[2,3,0,4,1,7,5,6,8],[2,3,0,4,7,1,5,6,8],[2,3,0,7,1,4,5,6,8],[2,3,0,7,4,1,5,6,8],[2,3,4,0,1,5,6,7,8],[2,3,4,0,1,5,7,6,8],[2,3,4,0,1,7,5,6,8],[2,3,4,0,7,1,5,6,8],[2,3,4,7,0,1,5,6,8],[2,3,7,0,1,4,5,6,8],[2,3,7,0,4,1,5,6,8],[2,3,7,4,0,1,5,6,8],[2,7,0,1,3,4,5,6,8],[2,7,0,3,1,4,5,6,8],[2,7,0,3,4,1,5,6,8],[2,7,3,0,1,4,5,6,8],[2,7,3,0,4,1,5,6,8],[2,7,3,4,0,1,5,6,8],[7,0,1,2,3,4,5,6,8],[7,0,2,1,3,4,5,6,8],[7,0,2,3,1,4,5,6,8],[7,0,2,3,4,1,5,6,8],[7,2,0,1,3,4,5,6,8],[7,2,0,3,1,4,5,6,8],[7,2,0,3,4,1,5,6,8],[7,2,3,0,1,4,5,6,8],[7,2,3,0,4,1,5,6,8],[7,2,3,4,0,1,5,6,8]]
theorem aax:eL [[],[0],[],[2],[3],[1,4],[5,5],[],[7,6,1,0,1,2,3,4,5,6,7]] 9 []=adX:=by decide+kernel
abbrev vY(g:Gr):List Fr:=[⟨.run,qL,[.iX 6,.inBlock 0 [],.code (.seq (.ae HQ) .ret)],
 [e_ g,.ptr 0 0,U,.ptr 2 0,U,U,U,U,U,U,U,U,e_ g,.sl 1 0 g.all,.fn (.func nS) [] [.ptr 3 0,.ptr 4 0],U,U,U,U,U,U],[.mark 5],.norm,0⟩]
abbrev tO(g:Gr)(v:List Bool):List Ob:=[cv g,.row 1 cA (v.map .bool) none true false,.cells [.sl 1 0 g.all],cv g,.cells [.sl 1 0 g.all],.br true,
 .loop .ready .none qL [U,U,U,.ptr 2 0,U,U,U,U,U,U,U,U,U,U,U,U,U,U,U,U,U] [15] (.ae Qn) Pr,.cells [.cQ 6]]
set_option maxRecDepth 8000 in
theorem abH(g:Gr)(ok:g.Ok)(L:List Int)(hL:∀a∈L,0<=a/\a<g.lits)(hl:L.length<2^40){o:Out}(v0:List Bool)(hv0:v0.length=g.all)
 (hc:az Tryz.prog Γ (Ha (.ptr 3 0) (.ptr 4 0) (.ptr 7 0) (tO g (jF L v0)++[.row 1 aq (L.map i64) none true false]) ⟨[],.norm,7,vY g⟩) o):
 ∀n i:Nat,i+n=L.length->∀v,v=jF (L.take i) v0->az Tryz.prog Γ (yxA (.ptr 3 0) (.ptr 4 0) (.ptr 7 0) (.sl 8 0 L.length) (.int .i64 L.length) (.int .i64 i) (tO g v++[.row 1 aq (L.map i64) none true false]) ⟨[],.norm,7,vY g⟩) o:=by
 intro n
 induction n with
 |zero=>
  intro i hi v hv;rw[cL (by omega)]at hv;subst hv
  have q1:¬i<L.length:=by omega
  refine .reach (.dK 60 (c':=Ha (.ptr 3 0) (.ptr 4 0) (.ptr 7 0) (tO g (jF L v0)++[.row 1 aq (L.map i64) none true false]) ⟨[],.norm,7,vY g⟩) ?_) hc;simp[q1];exact .exit rfl rfl
 |succ n ih=>
  intro i hi v hv
  have q1:i<L.length:=by omega
  obtain⟨b1,b2⟩:=hL L[i] (bC q1);obtain⟨x,hx⟩:=l7 b1
  have hvl:v.length=g.all:=by rw[hv,ze,hv0]
  have hh:=ih (i+1) (by omega) (v.set (x/2) true) (by rw[kz q1,IN,<-hv,jF,jF,hx];rfl);have e1:g.lits=2*g.all:=rfl;refine .go 60 ?_
  have q3:x/2<g.all:=by omega
  simp(disch:=omega) [q1,hx,jD,hvl,q3,-Int.natCast_ediv,-Int.natCast_emod];refine .aN ?_
  have e2:(v.map AV.bool).set (x/2) (.bool true)=(v.set (x/2) true).map AV.bool:=by rw[o6]
  rw[e2];simp[-List.map_set]at hh⊢;exact hh
abbrev acD(g:Gr):List Fr:=⟨.run,nS,[.iX 11,.inBlock 2 []],[U,.ptr 3 0,.ptr 4 0,.ptr 7 0,U,U,U,U,U,U,U,U,U,U,U,U,U,U,U,U,U,U,U,U,
          .ptr 3 3,.list false g.ka (List.map dm g.al),.fn (.func uD) [] [.ptr 9 0],U,U,U,U,U,U,U,U,U,U,U,U,U,U,U,U,U,U,U,U,U,U,U],[.mark 10],.norm,7⟩::vY g
abbrev ac7(g:Gr)(v:List Bool)(rest:Ob):List Ob:=tO g v++[rest,.cells [.list false g.ka (List.map dm g.al)],.br true,
 .loop .ready .none nS [U,.ptr 3 0,.ptr 4 0,.ptr 7 0,U,U,U,U,U,U,U,U,U,U,U,U,U,U,U,U,U,U,U,U,U,U,U,U,U,U,U,U,U,U,U,U,U,U,U,U,U,U,U,U,U,U,U,U,U,U] [27,28] F1 Gq]
abbrev AH(g:Gr)(v:List Bool)(rest:Ob)(x y:Nat):List Ob:=tO g v++[rest,.cells [.list false g.ka (List.map dm g.al)],.br true,
 .loop .busy .none nS [U,.ptr 3 0,.ptr 4 0,.ptr 7 0,U,U,U,U,U,U,U,U,U,U,U,U,U,U,U,U,U,U,U,U,U,U,U,U,U,U,U,U,U,U,U,U,U,U,U,U,U,U,U,U,U,U,U,U,U,U] [27,28] F1 Gq,
 .cells [.int .i64 x,.int .i64 y]]
theorem Nc(g:Gr)(v:List Bool)(hv:v.length=g.all)(rest:Ob)(x y z:Nat)(hz:z/2<g.all)(hz2:(z:Int)<2^40):∀up,AM.Reach Tryz.prog Γ ((iR.yl 6).cfg [.int .i64 z] up (AH g v rest x y)) (.back up (.bool true) (AH g (v.set (z/2) true) rest x y)):=by
 intro up;simp;refine .ba 60 ?_;simp(disch:=omega) [hv,hz,-Int.natCast_ediv,-Int.natCast_emod,-Int.natCast_add]
set_option maxRecDepth 8000 in
theorem ab4(g:Gr)(ok:g.Ok)(L:List Int):∀i:Nat,i<=g.al.length->∀v:List Bool,v.length=g.all->
 az Tryz.prog Γ (yCD (.cQ 11) (.ptr 9 0) (.int .i64 ((i:Int)-1)) (ac7 g v (.row 1 aq (L.map i64) none true false)) ⟨[],.norm,12,acD g⟩) (.ret (.own 1 cA ((pJ g.al g.first i v).map .bool))):=by
 have o1:=ok.ins;have o3:=ok.sum;have hf:=ph (Γ:=Γ) g o1.1 o1.2 (by omega);intro i
 induction i with
 |zero=>
  intro hi v hv;refine .go 60 ?_;simp;exact .back (by simp[pJ,hv])
 |succ i ih=>
  intro hi v hv
  have q1:i<g.al.length:=by omega
  have e0:((i+1:Nat):Int)-1=i:=by omega
  rw[e0];obtain⟨⟨b1,b2⟩,b3,b4⟩:=ok.al i q1;obtain⟨x,hx⟩:=l7 b1;obtain⟨y,hy⟩:=l7 b3;have q2:=cF (g.ha.of q1);refine .go 60 ?_;simp(disch:=omega) [q1,q2,jD];refine .dr 60 ?_;simp(disch:=omega) [q1,q2];refine .call (by simp) hf ?_
  have e1:(g.first:Int)+i=((g.first+i:Nat):Int):=by omega
  have q3:g.first+i<v.length:=by rw[hv];unfold Gr.all;omega
  have q4:g.first+i<g.all:=by omega
  have hfb:g.first<=8001:=by unfold Gr.first;omega
  have q5:x/2<g.all:=by omega
  have q6:y/2<g.all:=by omega
  rw[pJ,bG,bn q3,jt,bG,bn q1,jt,hx,hy];simp only[jr]
  by_cases hb:v[g.first+i]=true
  ·rw[if_pos hb];have hh:=ih (by omega) ((v.set (x/2) true).set (y/2) true) (by simp[hv]);simp(disch:=omega) [e1,q3,q4,hb,hv,hx,hy,q5,-Int.natCast_ediv,-Int.natCast_emod,-Int.natCast_add];have k1:=Nc (Γ:=Γ) g v hv (.row 1 aq (L.map i64) none true false) x y x q5 (by omega);have k2:=Nc (Γ:=Γ) g (v.set (x/2) true) (by simp[hv]) (.row 1 aq (L.map i64) none true false) x y y q6 (by omega);refine .go (.bool true) (AH g (v.set (x/2) true) (.row 1 aq (L.map i64) none true false) x y) k1 ?_;simp(disch:=omega) [hb,hv,hx,hy,q5,q6,-List.map_set,-Int.natCast_ediv,-Int.natCast_emod,-Int.natCast_add];refine .go (.bool true) (AH g ((v.set (x/2) true).set (y/2) true) (.row 1 aq (L.map i64) none true false) x y) k2 ?_;simp(disch:=omega) [hb,hv,hx,hy,q5,q6,-List.map_set,-Int.natCast_ediv,-Int.natCast_emod,-Int.natCast_add];refine .aN ?_;simp
   refine .drop 12 rfl (by simp) (by simp) (by simp) ?_;simp[e0]at hh⊢;exact hh
  ·rw[if_neg hb];have hh:=ih (by omega) v hv;simp(disch:=omega) [e1,q3,q4,hb,hv,-Int.natCast_add];refine .aN ?_;simp;refine .drop 12 rfl (by simp) (by simp) (by simp) ?_;simp[e0]at hh⊢;exact hh
set_option maxRecDepth 8000 in
theorem acw(g:Gr)(ok:g.Ok)(v0:List Bool)(hv0:v0.length=g.all)(L:List Int):az Tryz.prog Γ (Ha (.ptr 3 0) (.ptr 4 0) (.ptr 7 0) (tO g v0++[.row 1 aq (L.map i64) none true false]) ⟨[],.norm,7,vY g⟩) (.ret (.own 1 cA ((pJ g.al g.first g.al.length v0).map .bool))):=by
 have o3:=ok.sum;have o1:=ok.ins;refine .go 60 ?_;simp;refine .enter 60 RT ?_;simp;refine .enter 60 RO ?_;simp(disch:=omega);refine .inLoop ?_;have hh:=ab4 (Γ:=Γ) g ok L g.al.length (by omega) v0 hv0;simp at hh⊢;exact hh
set_option maxRecDepth 8000 in
theorem acX(g:Gr)(ok:g.Ok):az Tryz.prog Γ (.fr ⟨.run,qL,[.ops [],.code (.seq (.seq (.ae Ra) (.block 0 [] OM)) (.seq (.ae HQ) .ret))],
 [e_ g,.ptr 0 0,U,.ptr 2 0,U,U,U,U,U,U,U,U,U,U,U,U,U,U,U,U,U],[],.norm,0⟩ [] [cv g,.row 1 cA (List.replicate g.all (.bool false)) none true false,.cells [.sl 1 0 g.all]]) (.ret (.own 1 cA (g.dd.map .bool))):=by
 have o1:=ok.ins;have o3:=ok.sum;refine .go 60 ?_;simp;refine .enter 60 TU ?_;simp;refine .enter 60 TA ?_;simp
 have hcat:=Se (Γ:=Γ) [(g.kn,g.next),(g.ko,g.outs)] (by
  intro x hx;simp only[bq,nP,nG]at hx
  rcases hx with rfl|rfl
  ·exact g.hn
  ·exact g.ho) (by simp) (by simp[cr];have:=ok.lC;omega)
 simp[cr]at hcat;refine .call 60 (by simp) hcat ?_;simp;refine .inLoop ?_
 have hL:∀a∈g.next++g.outs,0<=a/\a<(g.lits:Int):=by
  intro a ha
  rcases bF.1 ha with ha|ha
  ·exact ok.next a ha
  ·exact ok.outs a ha
 have hh:=abH (Γ:=Γ) g ok (g.next++g.outs) hL (by simp;have:=ok.lC;omega) (List.replicate g.all false) (by simp)
  (acw g ok _ (by rw[ze];simp) _) (g.next++g.outs).length 0 (by omega) _ rfl
 simp[jF]at hh⊢;exact hh
set_option maxRecDepth 20000 in
set_option maxHeartbeats 2000000 in
theorem XH(g:Gr)(ok:g.Ok):aS Tryz.prog Γ qL [e_ g] (.own 1 cA (g.dd.map .bool)):=by
 have o1:=ok.ins;have o3:=ok.sum;refine .run 60 X7 (by simp) ?_;simp;refine .ogO 60 ?_;simp only[b9,dq,il,Nat.reduceAdd,aax];have hf:=ph (Γ:=Γ) g o1.1 o1.2 (by omega)
 have e1:(g.first:Int)+g.al.length=(g.all:Int):=by unfold Gr.all;omega
 have hall:g.all<=12001:=by unfold Gr.all Gr.first;omega
 have hgen:=acX (Γ:=Γ) g ok;intro l hl;simp only[bq,nP,nG]at hl
 rcases hl with rfl|rfl|rfl|rfl|rfl|rfl|rfl|rfl|rfl|rfl|rfl|rfl|rfl|rfl|rfl|rfl|rfl|rfl|rfl|rfl|rfl|rfl|rfl|rfl|rfl|rfl|rfl|rfl|rfl|rfl|rfl|rfl|rfl|rfl|rfl|rfl|rfl|rfl|rfl|rfl|rfl|rfl|rfl|rfl|rfl|rfl|rfl|rfl|rfl|rfl|rfl|rfl|rfl|rfl|rfl|rfl|rfl|rfl|rfl|rfl|rfl|rfl|rfl|rfl|rfl|rfl|rfl|rfl|rfl|rfl|rfl|rfl|rfl|rfl|rfl|rfl|rfl|rfl|rfl|rfl
 all_goals
  simp;refine .wb 60 (by simp) hf ?_;simp(disch:=(first|omega|(simp;omega))) [e1];refine .lN [2,5,6,7,8,9,10,11] ?_;simp
  first
   |(refine .gc 1 [1,2] (by simp) (by decide) ?_;simp;exact hgen)
   |(refine .gc 1 [3,1] (by simp) (by decide) ?_;simp;exact hgen)
end Go.Proofs.YtihmomicdpkabaaGreatDoor
namespace Go.Proofs.YtihmomicdpkabaaGreatDoor
open Go.AM Go.Proofs
def ids(n:Nat):List Nat:=(List.range n).map (2*·)
@[simp] theorem ayc(n:Nat):(ids n).length=n:=by simp[ids]
theorem YP(n:Nat):ids (n+1)=ids n++[2*n]:=by simp[ids,List.range_succ]
def gQ(first:Nat):List (Int×Int)->List (Int×Int)->List Nat->List (Int×Int)×List Nat
 |[],l,to=>(l,to)
 |p::ps,l,to=>gQ first ps (bz first l (bH to p.1.toNat) (bH to p.2.toNat)).1 (to++[(bz first l (bH to p.1.toNat) (bH to p.2.toNat)).2])
def mC(first:Nat)(dd:List Bool):List (Int×Int)->Nat->List (Int×Int)->List Nat->List (Int×Int)×List Nat
 |[],_,l,to=>(l,to)
 |p::ps,i,l,to=>
  if dd.getD (first+i) false=true then mC first dd ps (i+1) (bz first l (bH to p.1.toNat) (bH to p.2.toNat)).1 (to++[(bz first l (bH to p.1.toNat) (bH to p.2.toNat)).2])
  else mC first dd ps (i+1) l (to++[0])
def Gr.gf(g:Gr)(r:List (Int×Int)×List Nat):Gr:=⟨g.ins,(eE r.2 g.next).map fun n:Nat=>(n:Int),g.init,r.1,(eE r.2 g.outs).map fun n:Nat=>(n:Int),1,1,2,1,.self,.self,.self,.self⟩
def Gr.eO(g:Gr):Gr:=g.gf (gQ g.first g.al [] (ids g.first))
def Gr.mD(x:Gr):Gr:=x.gf (mC x.first x.dd x.al 0 [] (ids x.first))
def Gr.normal(g:Gr):Gr:=if g.check=0 then g.eO.mD else gm
structure oN(first:Nat)(l:List (Int×Int))(to:List Nat):Prop where
 lt:∀x∈to,x<2*(first+l.length)
theorem Ab{first:Nat}{l:List (Int×Int)}{a b:Nat}(ha:a<2*(first+l.length))(hb:b<2*(first+l.length))(h1:1<=first):
 (bz first l a b).2<2*(first+(bz first l a b).1.length)/\l.length<=(bz first l a b).1.length:=by
 unfold bz
 split
 ·rename_i c hc;unfold kX at hc;refine⟨?_,aW _⟩;simp only
  split at hc
  ·cases hc;omega
  ·split at hc
   ·cases hc;omega
   ·cases hc
 ·split
  ·rename_i i hi;obtain⟨_,h2,_⟩:=DP hi;exact⟨by simp only;omega,aW _⟩
  ·exact⟨by simp only[bM,b9,dq];omega,by simp⟩
theorem ra{to:List Nat}{B a:Nat}(h:∀x∈to,x<2*B)(ha:a/2<to.length):bH to a<2*B:=by
 have h1:=h _ (bC ha);unfold bH;rw[bG,bn ha,jt]
 rcases(show a%2=0\/a%2=1 by omega)with h2|h2
 ·rw[h2,Nat.xor_zero];exact h1
 ·rw[h2,sW];split<;>omega
theorem Ms(x:Gr):x.dd.length=x.all:=by unfold Gr.dd;rw[JP,ze,rW]
structure ou(first:Nat)(l:List (Int×Int)):Prop where
 at_:∀i(h:i<l.length),∃p q:Nat,l[i]=((p:Int),(q:Int))/\2<=q/\q<p/\p/2≠q/2/\p<2*(first+i)
 nd:l.Nodup
theorem Xb(first:Nat):ou first []:=⟨fun i h=>by simp at h,List.nodup_nil⟩
theorem ou.push{first:Nat}{l:List (Int×Int)}(h:ou first l){a b:Nat}(ha:a<2*(first+l.length))(hb:b<2*(first+l.length)):ou first (bz first l a b).1:=by
 unfold bz
 split
 ·exact h
 ·rename_i hk
  split
  ·exact h
  ·rename_i hi;obtain⟨k1,k2,k3,k4⟩:=KT hk
   have hle:min a b<=max a b:=by omega
   have hx:=sW (max a b);refine⟨fun i hi2=>?_,?_⟩
   ·by_cases hil:i<l.length
    ·obtain⟨p,q,e,r⟩:=h.at_ i hil;exact⟨p,q,by simp only;rw[Re hil];exact e,r⟩
    ·have e0:i=l.length:=by simp at hi2;omega
     subst e0;refine⟨max a b,min a b,by simp,by omega,by omega,?_,by omega⟩;intro hd;apply k2;rw[hx]
     split<;>omega
   ·rw[Ce];refine⟨h.nd,by simp,?_⟩;intro x hx2 y hy he;subst he;simp at hy;subst hy;exact(J8.1 hi) hx2
theorem L6(first:Nat)(h1:1<=first):∀(ps l:List (Int×Int))(to:List Nat),ou first l->oN first l to->(∀i(h:i<ps.length),ps[i].1.toNat/2<to.length+i/\ps[i].2.toNat/2<to.length+i)->
 ou first (gQ first ps l to).1/\oN first (gQ first ps l to).1 (gQ first ps l to).2/\(gQ first ps l to).2.length=to.length+ps.length/\(gQ first ps l to).1.length<=l.length+ps.length
 |[],l,to,hl,ht,_=>⟨hl,ht,rfl,aW _⟩
 |p::ps,l,to,hl,ht,hp=>by
  have h0:=hp 0 (by simp);simp only[Rt,ir]at h0;have ha:=ra ht.lt h0.1;have hb:=ra ht.lt h0.2;obtain⟨hlt,hge⟩:=Ab ha hb h1
  have hlen:=D8 first l (bH to p.1.toNat) (bH to p.2.toNat)
  rw[gQ]
  obtain⟨a1,a2,a3,a4⟩:=L6 first h1 ps (bz first l (bH to p.1.toNat) (bH to p.2.toNat)).1 (to++[(bz first l (bH to p.1.toNat) (bH to p.2.toNat)).2]) (hl.push ha hb) ⟨fun z hz=>by
   rcases bF.1 hz with hz|hz
   ·have:=ht.lt z hz;omega
   ·simp at hz;omega⟩ (fun i hi=>by
   have:=hp (i+1) (by simpa using hi);simp only[Cc]at this
   simp;omega)
  refine⟨a1,a2,by rw[a3];simp;omega,by simp only[b9];omega⟩
theorem abo{g:Gr}(ok:g.Ok):∀i(h:i<g.al.length),g.al[i].1.toNat/2<(ids g.first).length+i/\g.al[i].2.toNat/2<(ids g.first).length+i:=by
 intro i h;have:=ok.al i h
 simp;omega
theorem Np(first:Nat):oN first [] (ids first):=⟨fun z hz=>by simp[ids]at hz;obtain⟨a,ha,rfl⟩:=hz;simp;omega⟩
theorem abZ{g:Gr}(ok:g.Ok){l:List (Int×Int)}{to:List Nat}(hl:ou g.first l)(ht:oN g.first l to)(h1:to.length=g.all)(h2:l.length<=g.al.length):(g.gf (l,to)).Ok:=by
 have o1:=ok.ins;have o3:=ok.sum
 have hb:∀a:Int,0<=a->a<g.lits->bH to a.toNat<2*(g.first+l.length):=fun a h3 h4=>ra ht.lt (by have:g.lits=2*g.all:=rfl;omega)
 have hfst:(g.gf (l,to)).first=g.first:=by simp[Gr.first,Gr.gf]
 have hlits:(g.gf (l,to)).lits=2*(g.first+l.length):=by simp only[Gr.lits,Gr.all,hfst];rfl
 refine⟨o1,by simp[Gr.gf];omega,by simp[Gr.gf];exact ok.lC,by simp[Gr.gf];exact ok.same,ok.init,?_,?_,?_⟩
 ·intro a ha;rw[hlits];simp only[Gr.gf,dn,eE]at ha;obtain⟨n,⟨b,hb2,rfl⟩,rfl⟩:=ha;have h3:=ok.next b hb2;have:=hb b h3.1 h3.2;omega
 ·intro a ha;rw[hlits];simp only[Gr.gf,dn,eE]at ha;obtain⟨n,⟨b,hb2,rfl⟩,rfl⟩:=ha;have h3:=ok.outs b hb2;have:=hb b h3.1 h3.2;omega
 ·intro i hi;rw[hfst];obtain⟨p,q,e,r1,r2,r3,r4⟩:=hl.at_ i hi;have e2:(g.gf (l,to)).al[i]=((p:Int),(q:Int)):=e;rw[e2];simp only;omega
theorem aaJ{g:Gr}(ok:g.Ok):g.eO.Ok/\ou g.first g.eO.al/\g.eO.al.length<=g.al.length:=by
 have o1:=ok.ins
 obtain⟨a1,a2,a3,a4⟩:=L6 g.first (by unfold Gr.first;omega) g.al [] (ids g.first) (Xb _) (Np _) (abo ok)
 refine⟨abZ ok a1 a2 (by rw[a3];simp[Gr.all]) (by simpa using a4),a1,?_⟩;rw[dq,il]at a4;exact a4
end Go.Proofs.YtihmomicdpkabaaGreatDoor
namespace Go.Proofs.YtihmomicdpkabaaGreatDoor
open Go.AM Go.Proofs
variable{Γ:Nat->Option AV}
theorem Wv(a b c d:Int):bX (.iG [.int,.int]) (.agg [.int .i64 a,.int .i64 b]) (.agg [.int .i64 c,.int .i64 d])=some (decide ((a,b)=(c,d))):=DQ (a,b) (c,d)
theorem R_(a b:List (Int×Int)){ka kb:Nat}(ha:Kd 2 ka a)(hb:Kd 2 kb b)(hs:a.length<2^60):aS Tryz.prog Γ uE [.list false ka (a.map dm),.list false kb (b.map dm)] (.bool (decide (a=b))):=by
 refine .run 60 R7 (by simp) ?_
 by_cases hl:a.length=b.length
 ·have key:∀n i:Nat,i+n=a.length->az Tryz.prog Γ (ymk (.list false ka (a.map dm)) (.list false kb (b.map dm)) (.int .i64 a.length) (.int .i64 i) []) (.ret (.bool (decide (a.drop i=b.drop i)))):=by
   intro n
   induction n with
   |zero=>
    intro i hi;refine .go 60 ?_
    have h1:¬i<a.length:=by omega
    have h2:a.drop i=b.drop i:=by rw[bu (by omega),bu (by omega)]
    simp[h1,h2];exact .back (by simp)
   |succ n ih=>
    intro i hi
    have h1:i<a.length:=by omega
    have h2:i<b.length:=by omega
    obtain rfl:=ha.of h1;obtain rfl:=hb.of h2;have h4:=drop_eq h1 h2;have h5:=Wv a[i].1 a[i].2 b[i].1 b[i].2;refine .go 60 ?_
    by_cases h3:a[i]=b[i]
    ·have h6:((a[i].1,a[i].2)=(b[i].1,b[i].2))=True:=cF h3;have h7:(a[i]=b[i])=True:=cF h3;simp(disch:=omega) [h1,h2,h7,h4,h5,h6,-Prod.mk.injEq];refine .aN ?_;have hh:=ih (i+1) (by omega);simp at hh⊢;exact hh
    ·have h6:((a[i].1,a[i].2)=(b[i].1,b[i].2))=False:=lf h3;simp(disch:=omega) [h1,h2,h3,h4,h5,h6,-Prod.mk.injEq];exact .back (by simp)
  simp[hl];refine .inLoop ?_;have hh:=key a.length 0 (by omega);simp[hl]at hh⊢;exact hh
 ·have h2:¬a=b:=fun e=>hl (by rw[e])
  simp[hl,h2];exact .back (by simp)
def vU(a b:Gr):Bool:=decide (a.ins=b.ins)&&decide (a.next=b.next)&&decide (a.init=b.init)&&decide (a.al=b.al)&&decide (a.outs=b.outs)
theorem JE(a b:Gr)(ha:a.k_):aS Tryz.prog Γ vd [e_ a,e_ b] (.bool (vU a b)):=by
 have f1:=ha.1;have f2:=ha.2.1;have f3:=ha.2.2.1;have f4:=ha.2.2.2
 refine .run 60 VP (by simp) ?_;unfold vU
 by_cases h1:a.ins=b.ins
 ·simp[h1];refine .call 60 (by simp) (Cr a.next b.next a.hn b.hn (by omega)) ?_
  by_cases h2:a.next=b.next
  ·have h2':=cF h2;simp[h2'];refine .call 60 (by simp) (Cr a.init b.init a.hi b.hi (by omega)) ?_
   by_cases h3:a.init=b.init
   ·have h3':=cF h3;simp[h3'];refine .call 60 (by simp) (R_ a.al b.al a.ha b.ha (by omega)) ?_
    by_cases h4:a.al=b.al
    ·have h4':=cF h4;simp[h4'];refine .call 60 (by simp) (Cr a.outs b.outs a.ho b.ho (by omega)) ?_;simp;exact .back (by simp)
    ·simp[h4];exact .back (by simp)
   ·simp[h3];exact .back (by simp)
  ·simp[h2];exact .back (by simp)
 ·simp[h1];exact .back (by simp)
end Go.Proofs.YtihmomicdpkabaaGreatDoor
namespace Go.Proofs.YtihmomicdpkabaaGreatDoor
open Go.AM Go.Proofs
theorem YS{l:List (Int×Int)}{n:Nat}(h:∀i(hi:i<l.length),(0<=l[i].1/\l[i].1<2*(n+i))/\0<=l[i].2/\l[i].2<2*(n+i)):mB l n=false:=by
 induction l generalizing n with
 |nil=>rfl
 |cons p l ih=>
  have h0:=h 0 (by simp);simp only[Rt]at h0;simp only[mB,ju,dV,iV];refine⟨by omega,ih fun i hi=>?_⟩;have:=h (i+1) (by simpa using hi);simp only[Cc]at this;omega
theorem Gr.sU{g:Gr}(ok:g.Ok):g.check=0:=by
 obtain⟨h1,h2,h3,h4,h5,h6,h7,h8⟩:=ok;unfold Gr.check
 have e1:g.k9=false:=by simp[Gr.k9];omega
 have e2:bo rA g.init=false:=n9.2 fun a ha=>by have:=h5 a ha;simp[rA];omega
 have e3:bo (dV g.lits) g.next=false:=n9.2 fun a ha=>by have:=h6 a ha;simp[dV];omega
 have e4:bo (dV g.lits) g.outs=false:=n9.2 fun a ha=>by have:=h7 a ha;simp[dV];omega
 simp[e1,e2,e3,e4,h4,YS h8]
theorem Yu(first:Nat)(l:List (Int×Int))(a b:Nat):∃e,(bz first l a b).1=l++e:=by
 unfold bz
 split
 ·exact⟨[],by simp⟩
 ·split
  ·exact⟨[],by simp⟩
  ·exact⟨_,rfl⟩
theorem Ei{v:List Bool}{a:Nat}(h:a/2<v.length)(e:List Bool):cO (v++e) a=cO v a:=by
 unfold cO;rw[bG,bG,dz h]
theorem Kj:∀(l:List (Int×Int))(v:List Bool),∃e,cP l v=v++e
 |[],v=>⟨[],by simp[cP]⟩
 |p::ps,v=>by
  obtain⟨e,he⟩:=Kj ps (v++[cO v p.1.toNat&&cO v p.2.toNat]);exact⟨[cO v p.1.toNat&&cO v p.2.toNat]++e,by rw[cP,he,eQ]⟩
theorem zo(l:List (Int×Int)){v:List Bool}{a:Nat}(h:a/2<v.length):cO (cP l v) a=cO v a:=by
 obtain⟨e,he⟩:=Kj l v;rw[he,Ei h]
theorem JW(w:List Bool)(x:Bool){n:Nat}(h:n=2*w.length):cO (w++[x]) n=x:=by
 subst h;unfold cO
 have e1:2*w.length/2=w.length:=by omega
 have e2:¬2*w.length%2=1:=by omega
 rw[e1,bG];simp[e2]
theorem Yg{l:List (Int×Int)}{v:List Bool}{i:Nat}(hi:i<l.length)(h1:l[i].1.toNat/2<v.length+i)(h2:l[i].2.toNat/2<v.length+i):
 cO (cP l v) (2*(v.length+i))=(cO (cP l v) l[i].1.toNat&&cO (cP l v) l[i].2.toNat):=by
 have e:l=l.take i++(l[i]::l.drop (i+1)):=by rw[<-bT hi,nH]
 have hl:(cP (l.take i) v).length=v.length+i:=by rw[zd,gK];omega
 have e2:cP l v=cP (l.drop (i+1)) (cP (l.take i) v++[cO (cP (l.take i) v) l[i].1.toNat&&cO (cP (l.take i) v) l[i].2.toNat]):=by
  conv=>lhs;rw[e,xU,cP]
 generalize cP (l.take i) v=w at*
 have s:∀c,c/2<w.length+1->cO (cP l v) c=cO (w++[cO w l[i].1.toNat&&cO w l[i].2.toNat]) c:=fun c hc=>by
  rw[e2];exact zo _ (by rw[bM];exact hc)
 rw[s (2*(v.length+i)) (by omega),s l[i].1.toNat (by omega),s l[i].2.toNat (by omega),JW _ _ (by omega),Ei (by omega),Ei (by omega)]
theorem Em{v:List Bool}{a:Nat}:cO v (a^^^1)=!cO v a:=by
 rw[sW];unfold cO
 split
 ·rename_i h
  have e1:(a+1)/2=a/2:=by omega
  have e2:(a+1)%2=1:=by omega
  rw[e1];simp[h,e2]
 ·rename_i h
  have e1:(a-1)/2=a/2:=by omega
  have e2:¬(a-1)%2=1:=by omega
  have e3:a%2=1:=by omega
  rw[e1];simp[e2,e3]
theorem Yx{v:List Bool}(h:cO v 0=false):cO v 1=true:=by
 have:=Em (v:=v) (a:=0)
 rw[h]at this;exact this
def oV(first:Nat)(l:List (Int×Int)):Prop:=∀i(h:i<l.length),(0<=l[i].1/\l[i].1<2*(first+i))/\0<=l[i].2/\l[i].2<2*(first+i)
theorem oV.push{first:Nat}{l:List (Int×Int)}(h:oV first l){p:Int×Int}(hp:(0<=p.1/\p.1<2*(first+l.length))/\0<=p.2/\p.2<2*(first+l.length)):oV first (l++[p]):=by
 intro i hi
 by_cases h2:i<l.length
 ·rw[Re h2];exact h i h2
 ·have e:i=l.length:=by simp at hi;omega
  subst e;simp only[Ia (aW _),Ca,Rt];omega
theorem oV.and{first:Nat}{l:List (Int×Int)}(h:oV first l){a b:Nat}(ha:a<2*(first+l.length))(hb:b<2*(first+l.length)):oV first (bz first l a b).1:=by
 unfold bz
 split
 ·exact h
 ·split
  ·exact h
  ·refine h.push ?_;have:=Nat.max_lt.2 ⟨ha,hb⟩
   have:min a b<=max a b:=by omega
   simp only;omega
theorem Yz{first:Nat}{l:List (Int×Int)}{v:List Bool}(hv:v.length=first)(hz:cO v 0=false)(h1:1<=first)(wf:oV first l){a b:Nat}(ha:a<2*(first+l.length))(hb:b<2*(first+l.length)):
 cO (cP (bz first l a b).1 v) (bz first l a b).2=(cO (cP l v) a&&cO (cP l v) b):=by
 have hz2:cO (cP l v) 0=false:=by rw[zo _ (by omega)];exact hz
 have hM:max a b<2*(first+l.length):=Nat.max_lt.2 ⟨ha,hb⟩
 have hm:min a b<2*(first+l.length):=by omega
 have hL:(cP l v).length=first+l.length:=by rw[zd,hv]
 have key:(cO (cP l v) a&&cO (cP l v) b)=(cO (cP l v) (max a b)&&cO (cP l v) (min a b)):=by
  rcases Nat.le_total a b with h|h
  ·rw[Nat.max_eq_right h,qe h,Bool.and_comm]
  ·rw[Nat.max_eq_left h,Nat.min_eq_right h]
 rw[key];unfold bz;generalize max a b=p at*;generalize min a b=q at*
 cases hk:kX p q with
 |some c=>
  simp only;unfold kX at hk
  split at hk
  ·rename_i h2
   cases hk
   rw[hz2]
   rcases h2 with rfl|rfl
   ·rw[hz2,Bool.and_false]
   ·rw[Em];cases cO (cP l v) p<;>rfl
  ·split at hk
   ·rename_i h2
    cases hk
    rcases h2 with rfl|rfl
    ·rw[Yx hz2,nJ]
    ·rw[l5]
   ·cases hk
 |none=>
  simp only
  cases hi:eX ((p:Int),(q:Int)) l 0 with
  |some i=>
   simp only;obtain⟨_,h2,h3⟩:=DP hi;simp only[B_]at h2 h3;have hw:=wf i h2;have:=Yg (v:=v) h2 (by omega) (by omega);rw[hv,h3]at this;exact this
  |none=>
   simp only;rw[xU,cP,cP];rw[JW _ _ (by omega)];rfl
structure Fo(g:Gr)(a b:Int):Prop where
 ok:g.Ok
 a1:0<=a/\a<g.lits
 b1:0<=b/\b<g.lits
 R:g.dF a b=g.gW (bz g.first g.al a.toNat b.toNat).1
 C:g.ek a b=(bz g.first g.al a.toNat b.toNat).2
 Qa:(g.dF a b).Ok
 lt:g.ek a b<(g.dF a b).lits
 le:g.lits<=(g.dF a b).lits
theorem NX{g:Gr}{a b:Int}(h:g.ji a b=0):Fo g a b:=by
 have hR:g.dF a b=g.gW (bz g.first g.al a.toNat b.toNat).1:=by unfold Gr.dF;rw[if_pos h]
 have hC:g.ek a b=(bz g.first g.al a.toNat b.toNat).2:=by unfold Gr.ek;rw[if_pos h]
 unfold Gr.ji at h
 split at h
 ·contradiction
 ·rename_i hc;have ok:=Gr.FA (H9.1 hc)
  split at h
  ·cases h
  ·rename_i hl;rw[not_or]at hl;obtain⟨a1,a2⟩:=hl;simp[dV]at a1 a2
   split at h
   ·cases h
   ·rename_i hs;have hlits:g.lits=2*(g.first+g.al.length):=rfl
    have ha:a.toNat<2*(g.first+g.al.length):=by omega
    have hb:b.toNat<2*(g.first+g.al.length):=by omega
    have h1:1<=g.first:=by unfold Gr.first;omega
    obtain⟨l1,l2⟩:=Ab ha hb h1
    have wf:oV g.first (bz g.first g.al a.toNat b.toNat).1:=oV.and ok.al ha hb
    have hl2:(g.gW (bz g.first g.al a.toNat b.toNat).1).lits=2*(g.first+(bz g.first g.al a.toNat b.toNat).1.length):=rfl;refine⟨ok,by omega,by omega,hR,hC,?_,?_,?_⟩
    ·rw[hR];refine⟨ok.ins,by simp only;omega,ok.lC,ok.same,ok.init,fun x hx=>?_,fun x hx=>?_,wf⟩
     ·rw[hl2];have:=ok.next x hx;omega
     ·rw[hl2];have:=ok.outs x hx;omega
    ·rw[hC,hR,hl2];exact l1
    ·rw[hR,hl2,hlits];omega
theorem Fo.AR{g:Gr}{a b:Int}(h:Fo g a b)(state ins:List Bool):(g.dF a b).tm state ins=g.tm state ins:=by
 unfold Gr.tm;rw[Gr.sU h.ok,Gr.sU h.Qa]
 have e:(g.dF a b).fits state ins=g.fits state ins:=by rw[h.R];rfl
 rw[e]
end Go.Proofs.YtihmomicdpkabaaGreatDoor
namespace Go.Proofs.YtihmomicdpkabaaGreatDoor
open Go.AM Go.Proofs
variable{Γ:Nat->Option AV}
abbrev FM(p s:List Ob)(c0 c1 c2 c3 c4 c5:AV)(i:Nat):List Ob:=p++.cells [c0,c1,c2,c3,c4,c5,.sl (p.length+(s.length+1)) 0 i]::(s++[.row 1 aq ((ids i).map iN) none true false])
theorem Ns(p s:List Ob)(c0 c1 c2 c3 c4 c5:AV)(f:Nat)(hf:f<2^20)(hp:∀m,cD (p.length+(s.length+1)) m p=true)(hs:∀m,cD (p.length+(s.length+1)) m s=true)
 (hc:∀m,cW (p.length+(s.length+1)) m [c0,c1,c2,c3,c4,c5]=true)(base:Nat)(hb:base<=p.length+(s.length+1))(up:List Fr)(ds:List da)(hds:ds=[]):
 ∀n i:Nat,i+n=f->AM.Reach Tryz.prog Γ (yoJ (.ptr p.length 0) (.int .i64 f) (.int .i64 i) (FM p s c0 c1 c2 c3 c4 c5 i) ⟨ds,.norm,base,up⟩)
  (yoK (.ptr p.length 0) (FM p s c0 c1 c2 c3 c4 c5 f) ⟨ds,.norm,base,up⟩):=by
 subst hds;intro n
 induction n with
 |zero=>
  intro i hi
  obtain rfl:i=f:=by omega
  refine .dK 60 ?_;simp;exact .exit rfl rfl
 |succ n ih=>
  intro i hi
  have q1:(i:Int)<f:=by omega
  have hh:=ih (i+1) (by omega);have h1:=hp (i+1);have h2:=hs (i+1);have h3:=hc (i+1);simp only[cW,aw,nJ]at h3;obtain⟨w0,w1,w2,w3,w4,w5⟩:=h3;refine .dK 60 ?_;simp(disch:=(first|omega|(simp;omega))) [q1];refine .aN ?_;simp
  have e1:(List.map iN (ids i)++[AV.int .i64 (2*(i:Int))]).length=i+1:=by simp
  refine .pF (i:=p.length+(s.length+1)) (by simp;exact⟨rfl,rfl,rfl,rfl,rfl⟩) (by simpa using hb) (by simp) (by rw[e1];simp[h1,h2,w0,w1,w2,w3,w4,w5]) ?_;rw[FM,YP]at hh;simp at hh⊢;exact hh
theorem K2(ins:Int)(x1 x2:AV)(h1:(∃f k l,x1=.list f k l)\/∃i o n,x1=.sl i o n)(h2:(∃f k l,x2=.list f k l)\/∃i o n,x2=.sl i o n)(h:List Ob):∀up,AM.Reach Tryz.prog Γ (.cl qE [.agg [.int .i64 ins,x1,x2,.list true 0 [],.list true 0 []]] up h)
 (.back up (.ptr (h.length+2) 0) (h++[.cells [.int .i64 ins,x1,x2,.list true 0 [],.list true 0 []],.map [] true,.cells [.int .i64 ins,x1,x2,.sl (h.length+3) 0 0,.list true 0 [],.mp (h.length+1),.list true 0 []],.row 2 cH [] none true false])):=by
 intro up;have hcl:=Ir (Γ:=Γ) (k:=0) [] .nil (by simp)
 rcases h1 with⟨f1,k1,l1,rfl⟩|⟨i1,o1,n1,rfl⟩<;>rcases h2 with⟨f2,k2,l2,rfl⟩|⟨i2,o2,n2,rfl⟩
 all_goals
  refine .bB 60 Jc ?_;simp;refine .na 60 (by simp) hcl ?_;simp;refine .inLoop ?_;refine .ba 60 ?_;simp
abbrev N6(g:Gr):List Ob:=[cv g,.cells [.int .i64 0,.sl 2 0 0,.sl 3 0 0,.sl 4 0 0,.sl 5 0 0],.row 1 aq [] none true false,.row 1 aq [] none true false,.row 2 cH [] none true false,.row 1 aq [] none true false,
 cv g,.row 1 aq (g.init.map i64) none true false,.cells [.int .i64 g.ins,.list false g.kn (g.next.map i64),.sl 7 0 g.init.length,.list true 0 [],.list true 0 []]]
abbrev pV(g:Gr)(es:List ((Int×Int)×Nat))(l:List (Int×Int))(to:List Nat)(q:List Ob):List Ob:=
 N6 g++(.map (es.map fY) true::.cells [.int .i64 g.ins,.list false g.kn (g.next.map i64),.sl 7 0 g.init.length,.sl 11 0 l.length,.list true 0 [],.mp 9,.sl 12 0 to.length]::.row 2 cH (l.map dm) none true false::.row 1 aq (to.map iN) none true false::q)
set_option maxRecDepth 8000 in
theorem aa5(g:Gr)(ok:g.Ok){o:Out}(l1:List (Int×Int))(to1:List Nat)(hfin:gQ g.first g.al [] (ids g.first)=(l1,to1))
 (hc:∀es,jg g.first l1 es->l1.length<=g.al.length->to1.length=g.all->oN g.first l1 to1->az Tryz.prog Γ (Hq (.ptr 0 0) (.ptr 1 0) (.ptr 10 0) (pV g es l1 to1 [])) o):
 ∀n i:Nat,i+n=g.al.length->∀es l to,jg g.first l es->l.length<=i->to.length=g.first+i->oN g.first l to->gQ g.first (g.al.drop i) l to=(l1,to1)->
  az Tryz.prog Γ (yhI (.ptr 0 0) (.ptr 1 0) (.ptr 10 0) (.list false g.ka (g.al.map dm)) (.int .i64 g.al.length) (.int .i64 i) (pV g es l to [])) o:=by
 have o1:=ok.ins;have o3:=ok.sum;have o4:=ok.lC
 have hfb:g.first<=8001:=by unfold Gr.first;omega
 have hf1:1<=g.first:=by unfold Gr.first;omega
 intro n
 induction n with
 |zero=>
  intro i hi es l to he hl ht hok hS
  have q1:¬i<g.al.length:=by omega
  rw[bu (by omega)]at hS;simp only[gQ,bN]at hS;obtain⟨rfl,rfl⟩:=hS;refine .reach (.dK 60 (c':=Hq (.ptr 0 0) (.ptr 1 0) (.ptr 10 0) (pV g es l to [])) ?_) (hc es he (by omega) (by unfold Gr.all;omega) hok);simp[q1];exact .exit rfl rfl
 |succ n ih=>
  intro i hi es l to he hl ht hok hS
  have q1:i<g.al.length:=by omega
  have q2:=cF (g.ha.of q1);rw[bT q1,gQ]at hS;obtain⟨⟨b1,b2⟩,b3,b4⟩:=ok.al i q1;obtain⟨x,hx⟩:=l7 b1;obtain⟨y,hy⟩:=l7 b3;rw[hx,hy]at hS;simp only[jr]at hS
  have hx2:x/2<to.length:=by omega
  have hy2:y/2<to.length:=by omega
  have ha:=ra hok.lt hx2;have hb:=ra hok.lt hy2;obtain⟨hlt,hge⟩:=Ab ha hb hf1
  have hto:∀z∈to,z<2^40:=fun z hz=>by have:=hok.lt z hz;omega
  have k1:=tv (Γ:=Γ) to hto x hx2 (by omega) 10 12 (h:=pV g es l to [.cells [.int .i64 x,.int .i64 y]]) rfl rfl (by simp);have k2:=tv (Γ:=Γ) to hto y hy2 (by omega) 10 12 (h:=pV g es l to [.cells [.int .i64 x,.int .i64 y]]) rfl rfl (by simp)
  have hgl:=D8 g.first l (bH to x) (bH to y)
  obtain⟨es',gr,junk,he',hgr,hjk,k3⟩:=NJ (Γ:=Γ) (p:=N6 g) (q:=[.row 1 aq (to.map iN) none true false,.cells [.int .i64 x,.int .i64 y]]) (x1:=.list false g.kn (g.next.map i64)) (x2:=.sl 7 0 g.init.length) (x4:=.list true 0 []) (come:=.sl 12 0 to.length)
   ⟨g.ins,g.next,g.init,[],[],g.kn,1,2,0,g.hn,.self,.self,.nil⟩ o1 (by simp;omega) l (by omega) es he (bH to x) (bH to y) (by omega) (by omega) (fun s=>by simp) (fun s=>by simp) (fun s=>by simp)
  have hfe:(⟨g.ins,g.next,g.init,[],[],g.kn,1,2,0,g.hn,.self,.self,.nil⟩:Gr).first=g.first:=rfl
  rw[hfe]at k3 he'
  have hh:=ih (i+1) (by omega) es' (bz g.first l (bH to x) (bH to y)).1 (to++[(bz g.first l (bH to x) (bH to y)).2]) he' (by omega) (by simp;omega) ⟨fun z hz=>by
   rcases bF.1 hz with hz|hz
   ·have:=hok.lt z hz;omega
   ·simp at hz;omega⟩ hS
  generalize bz g.first l (bH to x) (bH to y)=r at*
  refine .go 60 ?_;simp[q1,q2];refine .dr 60 ?_;simp(disch:=omega) [hx,hy];refine .reach (by simp) k1 ?_;simp(disch:=omega) [hx,hy];refine .reach (by simp) k2 ?_;simp(disch:=omega) [hx,hy];refine .reach (by simp) k3 ?_
  rcases hjk with rfl|⟨jx,jy,rfl⟩
  ·simp(disch:=(first|omega|(simp;omega))) [hx,hy];refine .aN ?_;simp;refine .drop 13 rfl (by simp) (by simp) (by simp) ?_
   have e1:(to.map iN++[AV.int .i64 (r.2:Int)]).length=to.length+1:=by simp
   refine .ly (i:=11) rfl hgr (by simp) (by simp) (by simp) ?_;refine .ly (i:=12) rfl (.inr rfl) (by simp) (by simp) (by rw[e1];simp) ?_;simp at hh⊢;exact hh
  ·simp(disch:=(first|omega|(simp;omega))) [hx,hy];refine .aN ?_;simp;refine .drop 13 rfl (by simp) (by simp) (by simp) ?_
   have e1:(to.map iN++[AV.int .i64 (r.2:Int)]).length=to.length+1:=by simp
   refine .ly (i:=11) rfl hgr (by simp) (by simp) (by simp) ?_;refine .ly (i:=12) rfl (.inr rfl) (by simp) (by simp) (by rw[e1];simp) ?_;simp at hh⊢;exact hh
abbrev FD(x:Gr):List Ob:=
 [.cells [.int .i64 0,.sl 1 0 0,.sl 2 0 0,.sl 3 0 0,.sl 4 0 0],.row 1 aq [] none true false,.row 1 aq [] none true false,.row 2 cH [] none true false,.row 1 aq [] none true false,
  .cells [.int .i64 x.ins,.sl 6 0 x.next.length,.sl 7 0 x.init.length,.sl 8 0 x.al.length,.sl 9 0 x.outs.length],.row 1 aq (x.next.map i64) none true false,.row 1 aq (x.init.map i64) none true false,.row 2 cH (x.al.map dm) none true false,.row 1 aq (x.outs.map i64) none true false,.row 1 cA (x.dd.map .bool) none true false]
abbrev Fw(x:Gr):List Ob:=FD x++[.cells [.int .i64 x.ins,.sl 6 0 x.next.length,.sl 7 0 x.init.length,.sl 8 0 x.al.length,.sl 9 0 x.outs.length],.row 1 aq (x.init.map i64) none true false,.cells [.int .i64 x.ins,.sl 6 0 x.next.length,.sl 12 0 x.init.length,.list true 0 [],.list true 0 []]]
abbrev ry(x:Gr)(es:List ((Int×Int)×Nat))(l:List (Int×Int))(to:List Nat)(q:List Ob):List Ob:=
 Fw x++(.map (es.map fY) true::.cells [.int .i64 x.ins,.sl 6 0 x.next.length,.sl 12 0 x.init.length,.sl 16 0 l.length,.list true 0 [],.mp 14,.sl 17 0 to.length]::.row 2 cH (l.map dm) none true false::.row 1 aq (to.map iN) none true false::q)
@[simp] theorem axh(to:List Nat)(l:List Int):(List.map iN (eE to l)).take l.length=List.map iN (eE to l):=by rw[cL];simp
set_option maxRecDepth 8000 in
theorem ack(x:Gr)(hstd:x.kn=1/\x.ki=1/\x.ka=2/\x.ko=1)(ok:x.Ok){o:Out}(l1:List (Int×Int))(to1:List Nat)
 (hc:∀es,jg x.first l1 es->l1.length<=x.al.length->to1.length=x.all->oN x.first l1 to1->az Tryz.prog Γ (PK (.ptr 0 0) (.ptr 5 0) (.ptr 15 0) (ry x es l1 to1 [])) o):
 ∀n i:Nat,i+n=x.al.length->∀es l to,jg x.first l es->l.length<=i->to.length=x.first+i->oN x.first l to->mC x.first x.dd (x.al.drop i) i l to=(l1,to1)->
  az Tryz.prog Γ (yhF (.ptr 0 0) (.ptr 5 0) (.sl 10 0 x.all) (.ptr 15 0) (.sl 8 0 x.al.length) (.int .i64 x.al.length) (.int .i64 i) (ry x es l to [])) o:=by
 have o1:=ok.ins;have o3:=ok.sum;have o4:=ok.lC;obtain⟨s1,s2,s3,s4⟩:=hstd;have hfirst:=ph (Γ:=Γ) x o1.1 o1.2 (by omega);rw[e_,s1,s2,s3,s4]at hfirst
 have hfb:x.first<=8001:=by unfold Gr.first;omega
 have hf1:1<=x.first:=by unfold Gr.first;omega
 have hll:=Ms x;intro n
 induction n with
 |zero=>
  intro i hi es l to he hl ht hok hS
  have q1:¬i<x.al.length:=by omega
  rw[bu (by omega)]at hS;simp only[mC,bN]at hS;obtain⟨rfl,rfl⟩:=hS;refine .reach (.dK 60 (c':=PK (.ptr 0 0) (.ptr 5 0) (.ptr 15 0) (ry x es l to [])) ?_) (hc es he (by omega) (by unfold Gr.all;omega) hok);simp[q1];exact .exit rfl rfl
 |succ n ih=>
  intro i hi es l to he hl ht hok hS
  have q1:i<x.al.length:=by omega
  rw[bT q1,mC]at hS;obtain⟨⟨b1,b2⟩,b3,b4⟩:=ok.al i q1;obtain⟨a,ha⟩:=l7 b1;obtain⟨b,hb⟩:=l7 b3;rw[ha,hb]at hS;simp only[jr]at hS
  have q3:x.first+i<x.all:=by unfold Gr.all;omega
  have e1:(x.first:Int)+i=((x.first+i:Nat):Int):=by omega
  rw[bG,bn (by omega),jt]at hS;refine .go 60 ?_;simp(disch:=omega) [q1];refine .call 60 (by simp) hfirst ?_
  by_cases hb0:x.dd[x.first+i]=true
  ·rw[if_pos hb0]at hS
   have hx2:a/2<to.length:=by omega
   have hy2:b/2<to.length:=by omega
   have hla:=ra hok.lt hx2;have hlb:=ra hok.lt hy2;obtain⟨hlt,hge⟩:=Ab hla hlb hf1
   have hto:∀z∈to,z<2^40:=fun z hz=>by have:=hok.lt z hz;omega
   have k1:=tv (Γ:=Γ) to hto a hx2 (by omega) 15 17 (h:=ry x es l to [.cells [.int .i64 a,.int .i64 b]]) rfl rfl (by simp);have k2:=tv (Γ:=Γ) to hto b hy2 (by omega) 15 17 (h:=ry x es l to [.cells [.int .i64 a,.int .i64 b]]) rfl rfl (by simp)
   have hgl:=D8 x.first l (bH to a) (bH to b)
   obtain⟨es',gr,junk,he',hgr,hjk,k3⟩:=NJ (Γ:=Γ) (p:=Fw x) (q:=[.row 1 aq (to.map iN) none true false,.cells [.int .i64 a,.int .i64 b]]) (x1:=.sl 6 0 x.next.length) (x2:=.sl 12 0 x.init.length) (x4:=.list true 0 []) (come:=.sl 17 0 to.length)
    ⟨x.ins,x.next,x.init,[],[],1,1,2,0,.self,.self,.self,.nil⟩ o1 (by simp;omega) l (by omega) es he (bH to a) (bH to b) (by omega) (by omega) (fun s=>by simp) (fun s=>by simp) (fun s=>by simp)
   have hfe:(⟨x.ins,x.next,x.init,[],[],1,1,2,0,.self,.self,.self,.nil⟩:Gr).first=x.first:=rfl
   rw[hfe]at k3 he'
   have hh:=ih (i+1) (by omega) es' (bz x.first l (bH to a) (bH to b)).1 (to++[(bz x.first l (bH to a) (bH to b)).2]) he' (by omega) (by simp;omega) ⟨fun z hz=>by
    rcases bF.1 hz with hz|hz
    ·have:=hok.lt z hz;omega
    ·simp at hz;omega⟩ hS
   generalize bz x.first l (bH to a) (bH to b)=r at*
   simp(disch:=omega) [e1,q3,hll,hb0,-Int.natCast_add];refine .dr 60 ?_;simp(disch:=omega) [ha,hb];refine .reach (by simp) k1 ?_;simp(disch:=omega) [ha,hb];refine .reach (by simp) k2 ?_;simp(disch:=omega) [ha,hb];refine .reach (by simp) k3 ?_
   rcases hjk with rfl|⟨jx,jy,rfl⟩
   ·simp(disch:=(first|omega|(simp;omega))) [ha,hb];refine .aN ?_;simp;refine .drop 18 rfl (by simp) (by simp) (by simp) ?_
    have e2:(to.map iN++[AV.int .i64 (r.2:Int)]).length=to.length+1:=by simp
    refine .ly (i:=16) rfl hgr (by simp) (by simp) (by simp) ?_;refine .ly (i:=17) rfl (.inr rfl) (by simp) (by simp) (by rw[e2];simp) ?_;simp at hh⊢;exact hh
   ·simp(disch:=(first|omega|(simp;omega))) [ha,hb];refine .aN ?_;simp;refine .drop 18 rfl (by simp) (by simp) (by simp) ?_
    have e2:(to.map iN++[AV.int .i64 (r.2:Int)]).length=to.length+1:=by simp
    refine .ly (i:=16) rfl hgr (by simp) (by simp) (by simp) ?_;refine .ly (i:=17) rfl (.inr rfl) (by simp) (by simp) (by rw[e2];simp) ?_;simp at hh⊢;exact hh
  ·rw[if_neg hb0]at hS
   have hh:=ih (i+1) (by omega) es l (to++[0]) he (by omega) (by simp;omega) ⟨fun z hz=>by
    rcases bF.1 hz with hz|hz
    ·exact hok.lt z hz
    ·simp at hz;omega⟩ hS
   simp(disch:=(first|omega|(simp;omega))) [e1,q3,hll,hb0,-Int.natCast_add];refine .aN ?_;simp;refine .drop 18 rfl (by simp) (by simp) (by simp) ?_
   have e2:(to.map iN++[AV.int .i64 0]).length=to.length+1:=by simp
   refine .ly (i:=17) rfl (.inr rfl) (by simp) (by simp) (by rw[e2];simp) ?_;simp at hh⊢;exact hh
set_option maxRecDepth 8000 in
theorem acB(x:Gr)(hstd:x.kn=1/\x.ki=1/\x.ka=2/\x.ko=1)(ok:x.Ok):az Tryz.prog Γ (.fr ⟨.run,nV,[.code (.seq (.ae G3) (.seq (.seq (.ae HT) (.block 2 Bd (.loop BJ wR))) (.seq (.ae Bo) .ret)))],
 [U,U,.ptr 0 0,U,U,U,U,U,.ptr 5 0,.sl 10 0 x.dd.length]++List.replicate 85 U,[],.norm,0⟩ [] (FD x)) (.ret (.aG [e_ x.mD,.int .i64 0])):=by
 have o1:=ok.ins;have o3:=ok.sum;have o4:=ok.lC;have hs:=hstd;obtain⟨s1,s2,s3,s4⟩:=hs;have hfirst:=ph (Γ:=Γ) x o1.1 o1.2 (by omega);rw[e_,s1,s2,s3,s4]at hfirst
 have hfb:x.first<=8001:=by unfold Gr.first;omega
 have hsame:=ok.same;rw[Ms];refine .go 60 ?_;simp;refine .enter 60 I2 ?_;simp;refine .dr 60 ?_;simp;refine .call (by simp) (Iu (Γ:=Γ) x.init (k:=1) .self (by omega)) ?_;simp;refine .reach (by simp) (K2 x.ins _ _ (.inr ⟨_,_,_,rfl⟩) (.inr ⟨_,_,_,rfl⟩) _) ?_;simp;refine .call 60 (by simp) hfirst ?_;simp;refine .pB 15 6 1 aq rfl rfl (by omega) ?_;simp;refine .inLoop ?_
 have kb:=fun up=>Ns (Γ:=Γ) (Fw x++[.map [] true]) [.row 2 cH [] none true false]
  (.int .i64 x.ins) (.sl 6 0 x.next.length) (.sl 12 0 x.init.length) (.sl 16 0 0) (.list true 0 []) (.mp 14) x.first (by omega) (by intro m;simp) (by intro m;simp) (by intro m;simp) 11 (by simp) up [] rfl x.first 0 (by omega)
 simp[ids]at kb⊢;refine .reach (kb _) ?_;refine .go 60 ?_;simp;refine .inLoop ?_
 generalize hS:mC x.first x.dd x.al 0 [] (ids x.first)=r
 obtain⟨l1,to1⟩:=r
 have hL:=ack (Γ:=Γ) x hstd ok (o:=.ret (.aG [e_ x.mD,.int .i64 0])) l1 to1 ?_ x.al.length 0 (by omega) [] [] (ids x.first) (Ef _) (aW _) (by simp) ⟨fun z hz=>by
  simp[ids]at hz;obtain⟨a,ha,rfl⟩:=hz;simp;omega⟩ (by simpa using hS)
 ·simp[ids]at hL⊢;exact hL
 intro es he hl1 ht1 hto
 have hn2:x.mD=x.gf (l1,to1):=by unfold Gr.mD;rw[hS]
 have hall:x.all<=12001:=by unfold Gr.all;omega
 have hlits:x.lits=2*x.all:=rfl
 have ht40:∀z∈to1,z<2^40:=fun z hz=>by have:=hto.lt z hz;omega
 have kA:=fun q=>Nv (Γ:=Γ) to1 ht40 x.next (by omega) (fun a ha=>by have:=ok.next a ha;omega) (by omega) 15 17 6 (h:=ry x es l1 to1 (.cells [.int .i64 x.ins,.sl 6 0 x.next.length,.sl 7 0 x.init.length,.sl 8 0 x.al.length,.sl 9 0 x.outs.length]::.cells [.int .i64 0,.sl 20 0 0,.sl 21 0 0,.sl 22 0 0,.sl 23 0 0]::q)) rfl rfl rfl
 have kB:=fun q=>Nv (Γ:=Γ) to1 ht40 x.outs (by omega) (fun a ha=>by have:=ok.outs a ha;omega) (by omega) 15 17 9 (h:=ry x es l1 to1 (.cells [.int .i64 x.ins,.sl 6 0 x.next.length,.sl 7 0 x.init.length,.sl 8 0 x.al.length,.sl 9 0 x.outs.length]::.cells [.int .i64 0,.sl 20 0 0,.sl 21 0 0,.sl 22 0 0,.sl 23 0 0]::q)) rfl rfl rfl
 rw[hn2];refine .go 60 ?_;simp;refine .enter 60 IC ?_;simp;refine .dr 60 ?_;simp;refine .reach (by simp) (kA [.row 1 aq [] none true false,.row 1 aq [] none true false,.row 2 cH [] none true false,.row 1 aq [] none true false] (by intro m;simp)) ?_;simp;refine .reach (by simp) (kB [.row 1 aq [] none true false,.row 1 aq [] none true false,.row 2 cH [] none true false,.row 1 aq [] none true false,.row 1 aq [] none true false,.row 1 aq ((eE to1 x.next).map iN) none true false] (by intro m;simp)) ?_;simp[Gr.gf];exact .back (by simp)
set_option maxRecDepth 8000 in
theorem acf(g:Gr)(ok:g.Ok)(l1:List (Int×Int))(to1:List Nat)(hx:g.eO=g.gf (l1,to1))(okx:g.eO.Ok)(es:List ((Int×Int)×Nat))(hl1:l1.length<=g.al.length)(ht1:to1.length=g.all)(hto:oN g.first l1 to1):
 az Tryz.prog Γ (Hq (.ptr 0 0) (.ptr 1 0) (.ptr 10 0) (pV g es l1 to1 [])) (.ret (.aG [e_ g.eO.mD,.int .i64 0])):=by
 have o1:=ok.ins;have o3:=ok.sum;have o4:=ok.lC
 have hfb:g.first<=8001:=by unfold Gr.first;omega
 have hall:g.all<=12001:=by unfold Gr.all;omega
 have hlits:g.lits=2*g.all:=rfl
 have ht40:∀z∈to1,z<2^40:=fun z hz=>by have:=hto.lt z hz;omega
 have kA:=fun q=>NS (Γ:=Γ) to1 ht40 g.next g.hn (by omega) (fun a ha=>by have:=ok.next a ha;omega) (by omega) 10 12 (h:=pV g es l1 to1 (cv g::.cells [.int .i64 0,.sl 15 0 0,.sl 16 0 0,.sl 17 0 0,.sl 18 0 0]::q)) rfl rfl
 have kB:=fun q=>NS (Γ:=Γ) to1 ht40 g.outs g.ho (by omega) (fun a ha=>by have:=ok.outs a ha;omega) (by omega) 10 12 (h:=pV g es l1 to1 (cv g::.cells [.int .i64 0,.sl 15 0 0,.sl 16 0 0,.sl 17 0 0,.sl 18 0 0]::q)) rfl rfl
 refine .go 60 ?_;simp;refine .enter 60 IC ?_;simp;refine .dr 60 ?_;simp;refine .reach (by simp) (kA [.row 1 aq [] none true false,.row 1 aq [] none true false,.row 2 cH [] none true false,.row 1 aq [] none true false] (by intro m;simp)) ?_;simp;refine .reach (by simp) (kB [.row 1 aq [] none true false,.row 1 aq [] none true false,.row 2 cH [] none true false,.row 1 aq [] none true false,.row 1 aq [] none true false,.row 1 aq ((eE to1 g.next).map iN) none true false] (by intro m;simp)) ?_;simp
 have ex:e_ g.eO=.agg [.int .i64 g.ins,.list false 1 ((eE to1 g.next).map iN),.list false 1 (g.init.map i64),.list false 2 (l1.map dm),.list false 1 ((eE to1 g.outs).map iN)]:=by
  rw[hx];simp[Gr.gf]
 have hled:=XH (Γ:=Γ) g.eO okx;rw[ex]at hled;refine .call 3 (by simp) hled ?_;simp;refine .lN [1,5,49,50,51,52,53] ?_;simp;refine .gc 0 [1,2,3,4,5,23,20,7,11,22,28] (by simp) (by decide) ?_;have hh:=acB (Γ:=Γ) g.eO ⟨by rw[hx];rfl,by rw[hx];rfl,by rw[hx];rfl,by rw[hx];rfl⟩ okx;simp[FD,hx,Gr.gf]at hh⊢;exact hh
set_option maxRecDepth 8000 in
theorem Ut(g:Gr)(hf:g.k_):aS Tryz.prog Γ nV [e_ g] (.aG [e_ g.normal,.int .i64 g.check]):=by
 refine .run 60 Un (by simp) ?_;simp;refine .call 60 (by simp) (sA g hf) ?_
 by_cases hc:g.check=0
 ·have ok:=Gr.FA hc;have o1:=ok.ins;have o3:=ok.sum;have o4:=ok.lC;have hfirst:=ph (Γ:=Γ) g o1.1 o1.2 (by omega)
  have hn0:g.normal=g.eO.mD:=by unfold Gr.normal;rw[if_pos hc]
  rw[hn0];simp[hc];refine .enter 60 I2 ?_;simp;refine .dr 60 ?_;simp;refine .call (by simp) (Iu (Γ:=Γ) g.init g.hi hf.2.1) ?_;simp;refine .reach (by simp) (K2 g.ins _ _ (.inl ⟨_,_,_,rfl⟩) (.inr ⟨_,_,_,rfl⟩) _) ?_;simp;refine .call 60 (by simp) hfirst ?_;simp;refine .pB 10 6 1 aq rfl rfl (by omega) ?_;simp;refine .inLoop ?_
  have hfb:g.first<=8001:=by unfold Gr.first;omega
  have kb:=fun up=>Ns (Γ:=Γ) [cv g,.cells [.int .i64 0,.sl 2 0 0,.sl 3 0 0,.sl 4 0 0,.sl 5 0 0],.row 1 aq [] none true false,.row 1 aq [] none true false,.row 2 cH [] none true false,.row 1 aq [] none true false,
   cv g,.row 1 aq (g.init.map i64) none true false,.cells [.int .i64 g.ins,.list false g.kn (g.next.map i64),.sl 7 0 g.init.length,.list true 0 [],.list true 0 []],.map [] true] [.row 2 cH [] none true false]
   (.int .i64 g.ins) (.list false g.kn (g.next.map i64)) (.sl 7 0 g.init.length) (.sl 11 0 0) (.list true 0 []) (.mp 9) g.first (by omega) (by intro m;simp) (by intro m;simp) (by intro m;simp) 6 (by simp) up [] rfl g.first 0 (by omega)
  simp[ids]at kb⊢;refine .reach (kb _) ?_;refine .go 60 ?_;simp;refine .inLoop ?_;obtain⟨okx,_,hlen⟩:=aaJ ok
  have hS:gQ g.first g.al [] (ids g.first)=((gQ g.first g.al [] (ids g.first)).1,(gQ g.first g.al [] (ids g.first)).2):=rfl
  have hL:=aa5 (Γ:=Γ) g ok (o:=.ret (.aG [e_ g.eO.mD,.int .i64 0])) _ _ hS (fun es he hl1 ht1 hto=>acf g ok _ _ rfl okx es hl1 ht1 hto) g.al.length 0 (by omega) [] [] (ids g.first) (Ef _) (aW _) (by simp) (Np _) (by simp);simp[ids]at hL⊢;exact hL
 ·have hn0:g.normal=gm:=by unfold Gr.normal;rw[if_neg hc]
  rw[hn0];simp[hc,gm];exact .back (by simp)
@[simp] theorem ayF(n:Nat):((60:Int)<n)=(60<n):=propext (by omega)
@[simp] theorem ayJ(n:Nat):((n:Int)<=60)=(n<=60):=propext (by omega)
@[simp] theorem ayH(n:Nat):((n:Int)<=40)=(n<=40):=propext (by omega)
theorem Gr.Ok.k_{g:Gr}(h:g.Ok):g.k_:=by
 have h1:=h.ins;have h2:=h.sum;have h3:=h.lC;have h4:=h.same
 unfold Gr.k_;omega
abbrev FR:Ob:=.row 1 aq [] none true false
abbrev adQ:Ob:=.row 2 cH [] none true false
end Go.Proofs.YtihmomicdpkabaaGreatDoor
namespace Go.Proofs.YtihmomicdpkabaaGreatDoor
open Go.AM Go.Proofs
def cI(h:List Ob):Prop:=∀m,h.length<=m->cw m h=true
theorem LV{m:Nat}{o:Ob}(ho:fW m o=true):∀{h:List Ob}(i:Nat),cw m h=true->cw m (h.set i o)=true
 |[],i,h1=>h1
 |o'::h,0,h1=>by
  simp only[cw,aw,ue]at h1⊢;exact⟨ho,h1.2⟩
 |o'::h,i+1,h1=>by
  simp only[cw,aw,oW]at h1⊢;exact⟨h1.1,LV ho i h1.2⟩
theorem cI.set{h:List Ob}(hw:cI h){o:Ob}(hb:∀m,h.length<=m->fW m o=true)(i:Nat):cI (h.set i o):=fun m hm=>by
 rw[kx]at hm;exact LV (hb m hm) i (hw m hm)
def fL(h:List Ob):Prop:=∀i m,h.length<=i->cD i m h=true
end Go.Proofs.YtihmomicdpkabaaGreatDoor
namespace Go.Proofs.YtihmomicdpkabaaGreatDoor
open Go.AM Go.Proofs
variable{Γ:Nat->Option AV}
abbrev acS:AV:=.bS CT (.agg [])
def cG{α:Type}(ev:α->AV)(i:Nat)(up:List Fr)(h:List Ob)(r:Gr×Option α):AM.ar:=
 match r.2 with
 |some a=>.back up (ev a) (h.set i (cv r.1))
 |none=>.die up acS (h.set i (cv r.1))
theorem qS{P:Program}{α:Type}{ev:α->AV}{i:Nat}{up:List Fr}{h:List Ob}(J:List Ob){f:FuncId}{args:List AV}{r:Gr×Option α}(hw:cI h)(hi:i<h.length)(hev:∀a,aF h.length (ev a)=true)
 (h1:AM.Reach P Γ (.cl f args up h) (cG ev i up (h++J) r)):AM.Reach P Γ (.cl f args up h) (cG ev i up h r):=by
 have e:∀o:Ob,((h++J).set i o).take h.length=h.set i o:=fun o=>by rw[jS _ _ hi,uz (by simp)]
 have hb:cw h.length (h.set i (cv r.1))=true:=hw.set (fun m _=>by simp) i h.length (by simp);unfold cG at h1⊢
 cases hr:r.2 with
 |some a=>
  rw[hr]at h1;have:=AM.Reach.leave h1 (hev a) (by rw[e];exact hb);rwa[e]at this
 |none=>
  rw[hr]at h1;have:=AM.Reach.NB h1 rfl (by rw[e];exact hb);rwa[e]at this
theorem vG{α:Type}{h:List α}{i:Nat}{o:α}(hi:h[i]? =some o):h.set i o=h:=by
 obtain⟨hl,rfl⟩:=dB.1 hi;exact List.set_getElem_self hl
theorem _root_.Go.AM.Reach.jG{P:Program}(n:Nat){f:FuncId}{args:List AV}{up:List Fr}{h h':List Ob}{v:AV}{c:AM.ar}(h1:∀up,AM.Reach P Γ (.cl f args up h) (.die up v h'))(h2:AM.Reach P Γ (AM.go P Γ 2 n (AM.pop (.die up v h'))) c):AM.Reach P Γ (.cl f args up h) c:=.trans (h1 up) (.trans (.pop _) (.ba n h2))
def ej(x:Gr)(p q:Nat):Gr×Option Nat:=if x.ji p q=0 then(x.dF p q,some (x.ek p q))else(x,none)
set_option maxRecDepth 8000 in
theorem Al(x:Gr)(ok:x.Ok)(p q:Nat){i:Nat}{h:List Ob}(hi:h[i]? =some (cv x))(hw:cI h)(up:List Fr):AM.Reach Tryz.prog Γ (.cl qx [.ptr i 0,iN p,iN q] up h) (cG iN i up h (ej x p q)):=by
 have hA:=W8 (Γ:=Γ) x ok.k_ p q;have hl:=aV hi
 have hget:=fun os=>fq hi os
 have hset:∀os:List Ob,(h++os).set i (cv x)=h++os:=fun os=>vG (hget os)
 refine qS [cv (x.dF p q),FR,FR,adQ,FR] hw hl (by simp) ?_;unfold ej cG;refine .bB 60 SG ?_;simp[hi];refine .na 60 (by simp) hA ?_
 by_cases e:x.ji p q=0
 ·simp[e,hget]
 ·simp[e,hget,hset]
def gS(turn:Nat):Gr->Nat->List Nat->Gr×Option Nat
 |x,c,[]=>(x,some c)
 |x,c,a::l=>match ej x c (a^^^turn)with
  |(y,some d)=>gS turn y d l
  |(y,none)=>(y,none)
def iJ(turn:Nat)(x:Gr)(l:List Nat):Gr×Option Nat:=match l with
 |[]=>(x,some 0)
 |a::r=>gS turn x (a^^^turn) r
structure eB(x y:Gr):Prop where
 ok:y.Ok
 ins:y.ins=x.ins
 next:y.next=x.next
 init:y.init=x.init
 outs:y.outs=x.outs
 al:∃e,y.al=x.al++e
theorem eB.refl{x:Gr}(ok:x.Ok):eB x x:=⟨ok,rfl,rfl,rfl,rfl,[],by simp⟩
theorem eB.trans{x y z:Gr}(h:eB x y)(h2:eB y z):eB x z:=by
 obtain⟨e,he⟩:=h.al;obtain⟨e2,he2⟩:=h2.al;exact⟨h2.ok,h2.ins.trans h.ins,h2.next.trans h.next,h2.init.trans h.init,h2.outs.trans h.outs,e++e2,by rw[he2,he,eQ]⟩
theorem eB.first{x y:Gr}(h:eB x y):y.first=x.first:=by unfold Gr.first;rw[h.ins,h.next]
theorem eB.lits{x y:Gr}(h:eB x y):x.lits<=y.lits:=by
 obtain⟨e,he⟩:=h.al;unfold Gr.lits Gr.all
 rw[h.first,he,bM];omega
theorem J4{x y:Gr}{p q d:Nat}(h:ej x p q=(y,some d)):x.ji p q=0/\y=x.dF p q/\d=x.ek p q:=by
 unfold ej at h
 split at h
 ·rename_i e;cases h;exact⟨e,rfl,rfl⟩
 ·cases h
theorem mb{x:Gr}(ok:x.Ok){p q:Nat}{y:Gr}{r:Option Nat}(h:ej x p q=(y,r)):eB x y/\∀d,r=some d->d<y.lits:=by
 unfold ej at h
 split at h
 ·rename_i e
  cases h
  have a:=NX e
  obtain⟨e1,he1⟩:=Yu x.first x.al p q
  refine⟨⟨a.Qa,by rw[a.R],by rw[a.R],by rw[a.R],by rw[a.R],e1,by rw[a.R];simpa using he1⟩,fun d hd=>by cases hd;exact a.lt⟩
 ·cases h
  exact⟨.refl ok,fun d hd=>by cases hd⟩
theorem I3(turn:Nat):∀(l:List Nat)(x:Gr)(c:Nat),x.Ok->c<x.lits->eB x (gS turn x c l).1/\∀d,(gS turn x c l).2=some d->d<(gS turn x c l).1.lits
 |[],x,c,ok,hc=>⟨.refl ok,fun d hd=>by cases hd;exact hc⟩
 |a::l,x,c,ok,hc=>by
  rw[gS]
  cases h:ej x c (a^^^turn)with
  |mk y r=>
   obtain⟨g1,g2⟩:=mb ok h
   cases r with
   |none=>exact⟨g1,fun d hd=>by cases hd⟩
   |some d=>
    obtain⟨h1,h2⟩:=I3 turn l y d g1.ok (g2 d rfl);exact⟨g1.trans h1,h2⟩
theorem ES{a n:Nat}(h:a<2*n):a^^^1<2*n:=by
 have h2:(a^^^1)/2=a/2:=by
  have:=Nat.xor_div_two (a:=a) (b:=1);simpa using this
 omega
theorem tg{a t n:Nat}(ht:t<=1)(h:a<2*n):a^^^t<2*n:=by
 obtain rfl|rfl:t=0\/t=1:=by omega
 ·simpa using h
 ·exact ES h
def eo{α β:Type}(f:α->β)(r:Gr×Option α):Gr×Option β:=(r.1,r.2.map f)
def eD{α β:Type}(r:Gr×Option α)(f:Gr->α->Gr×Option β):Gr×Option β:=match r with
 |(y,some a)=>f y a
 |(y,none)=>(y,none)
def wh(x:Gr)(c a:Nat):Gr×Option Nat:=eD (ej x c (a^^^1)) fun y p=>eD (ej y (c^^^1) a) fun z q=>eo (·^^^1) (ej z (p^^^1) (q^^^1))
def nc:Gr->Nat->List Nat->Gr×Option Nat
 |x,c,[]=>(x,some c)
 |x,c,a::l=>eD (wh x c a) fun y d=>nc y d l
def wa(x:Gr)(l:List Nat):Gr×Option Nat:=match l with
 |[]=>(x,some 0)
 |a::r=>nc x a r
def jj(x:Gr)(r:Gr×Option Nat):Prop:=eB x r.1/\∀d,r.2=some d->d<r.1.lits
theorem DF{x:Gr}(ok:x.Ok)(p q:Nat):jj x (ej x p q):=mb ok (y:=(ej x p q).1) (r:=(ej x p q).2) rfl
theorem jj.AS{x:Gr}{r:Gr×Option Nat}(h:jj x r){t:Nat}(ht:t<=1):jj x (eo (·^^^t) r):=⟨h.1,fun d hd=>by
 simp only[eo,bO]at hd;obtain⟨a,ha,rfl⟩:=hd
 exact tg ht (h.2 a ha)⟩
theorem jj.then{x:Gr}{r:Gr×Option Nat}{f:Gr->Nat->Gr×Option Nat}(h:jj x r)(hf:∀y d,eB x y->d<y.lits->jj y (f y d)):jj x (eD r f):=by
 obtain⟨y,o⟩:=r
 cases o with
 |none=>exact⟨h.1,fun d hd=>by cases hd⟩
 |some d=>
  have:=hf y d h.1 (h.2 d rfl);exact⟨h.1.trans this.1,this.2⟩
theorem Kr{x:Gr}(ok:x.Ok)(c a:Nat):jj x (wh x c a):=
 (DF ok _ _).then fun y p g1 _=>(DF g1.ok _ _).then fun z q g2 _=>(DF g2.ok _ _).AS (aW 1)
theorem Jv:∀(l:List Nat)(x:Gr)(c:Nat),x.Ok->c<x.lits->jj x (nc x c l)
 |[],x,c,ok,hc=>⟨.refl ok,fun d hd=>by cases hd;exact hc⟩
 |a::l,x,c,ok,hc=>(Kr ok c a).then fun y d g hd=>Jv l y d g.ok hd
theorem V7(turn:Nat)(l:List Nat)(x:Gr)(c:Nat)(ok:x.Ok)(hc:c<x.lits):jj x (gS turn x c l):=I3 turn l x c ok hc
theorem vE(x:Gr):0<x.lits:=by unfold Gr.lits Gr.all Gr.first;omega
theorem ve{turn:Nat}(ht:turn<=1){x:Gr}(ok:x.Ok){l:List Nat}(hl:∀a∈l,a<x.lits):jj x (iJ turn x l):=by
 cases l with
 |nil=>exact⟨.refl ok,fun d hd=>by cases hd;exact vE x⟩
 |cons a r=>exact V7 turn r x _ ok (tg (n:=x.all) ht (hl a (by simp)))
theorem VY{x:Gr}(ok:x.Ok){l:List Nat}(hl:∀a∈l,a<x.lits):jj x (wa x l):=by
 cases l with
 |nil=>exact⟨.refl ok,fun d hd=>by cases hd;exact vE x⟩
 |cons a r=>exact Jv r x _ ok (hl a (by simp))
theorem NW{a t:Nat}(ht:t<=1)(ha:(a:Int)<2^60):fV .xor .i64 (a:Int) (t:Int)=some ((a^^^t:Nat):Int):=by
 have:=EB (x:=a) (a:=t) ha;rwa[Nat.mod_eq_of_lt (by omega)]at this
theorem mh{x:Gr}(ok:x.Ok):x.lits<=2^14:=by
 have h1:=ok.ins;have h2:=ok.sum
 unfold Gr.lits Gr.all Gr.first
 omega
theorem La(a t:Nat)(ht:t<=1)(ha:(a:Int)<2^60){q:Nat}{h:List Ob}(hq:h[q]? =some (.cells [iN t])):∀up,AM.Reach Tryz.prog Γ (.cl uG [iN a,.ptr q 0] up h) (.back up (iN (a^^^t)) h):=by
 intro up;refine .bB 60 Sj ?_;simp[hq,NW ht ha]
set_option maxRecDepth 8000 in
theorem aaB(turn:Nat)(ht:turn<=1)(l:List Nat)(hl:l.length<2^40){fl:Bool}{k:Nat}(hk:Kd 1 k l)(i L:Nat)(up:List Fr):∀n j:Nat,j+n=l.length->∀(x:Gr)(c:Nat)(h:List Ob),h.length=L->h[i]? =some (cv x)->cI h->x.Ok->c<x.lits->(∀a∈l,a<x.lits)->
 AM.Reach Tryz.prog Γ (yCd (.ptr i 0) (.fn (.func uG) [] [.ptr L 0]) (iN c) (.list fl k (l.map iN)) (.int .i64 l.length) (.int .i64 j) (h++[.cells [iN turn]]) ⟨[],.norm,L,up⟩) (cG iN i up (h++[.cells [iN turn]]) (gS turn x c (l.drop j))):=by
 intro n
 induction n with
 |zero=>
  intro j hj x c h hL hi hw ok hc hlt
  have q1:¬j<l.length:=by omega
  have hset:(h++[Ob.cells [iN turn]]).set i (cv x)=h++[.cells [iN turn]]:=vG (fq hi _);rw[bu (by omega),gS];unfold cG;rw[hset];refine .ba 60 ?_;simp[q1]
 |succ n ih=>
  intro j hj x c h hL hi hw ok hc hlt;subst hL
  have q1:j<l.length:=by omega
  have q2:=cF (hk.of q1);have hle:=mh ok;have ha:=hlt _ (bC q1);have hil:=aV hi;have hT:=La (Γ:=Γ) l[j] turn ht (by omega) (q:=h.length) (h:=h++[.cells [iN turn]]) (by simp)
  have hA:=fun up=>Al (Γ:=Γ) x ok c (l[j]^^^turn) (i:=i) (h:=h++[.cells [iN turn]]) (fq hi _) (by
   intro m hm;simp at hm
   simp[hw m (by omega)]) up
  rw[bT q1,gS]
  have hset:∀o:Ob,(h++[Ob.cells [iN turn]]).set i o=h.set i o++[.cells [iN turn]]:=fun o=>jS _ _ hil
  have hset2:∀o o2:Ob,(h.set i o++[Ob.cells [iN turn]]).set i o2=h.set i o2++[.cells [iN turn]]:=fun o o2=>by rw[jS _ _ (by simpa using hil),qn]
  refine .ba 60 ?_;simp[q1,q2];refine .a_ 60 hT ?_;simp
  cases h9:ej x c (l[j]^^^turn)with
  |mk y r=>
   rw[h9]at hA;obtain⟨g1,g2⟩:=mb ok h9;unfold cG at hA⊢;simp only[hset]at hA⊢
   cases r with
   |none=>
    simp only at hA⊢;refine .jG 60 hA ?_;simp
   |some d=>
    simp only at hA⊢;have hh:=ih (j+1) (by omega) y d (h.set i (cv y)) (by simp) (by simp[hil]) (hw.set (fun m _=>by simp) i) g1.ok (g2 d rfl) (fun a ha=>jO (hlt a ha) g1.lits);unfold cG at hh;simp only[hset2]at hh;refine .a_ 60 hA ?_;simp(disch:=omega);refine .aN ?_;simp[q2]at hh⊢;exact hh
set_option maxRecDepth 8000 in
theorem Mk(turn:Nat)(ht:turn<=1)(l:List Nat)(h0:l≠[])(hl:l.length<2^40){fl:Bool}{k:Nat}(hk:Kd 1 k l){i:Nat}(x:Gr){h:List Ob}(hi:h[i]? =some (cv x))(hw:cI h)(ok:x.Ok)(hlt:∀a∈l,a<x.lits)(up:List Fr):
 AM.Reach Tryz.prog Γ (.cl r_ [.ptr i 0,.list fl k (l.map iN),iN turn] up h) (cG iN i up h (iJ turn x l)):=by
 cases l with
 |nil=>exact absurd rfl h0
 |cons a r=>
  have hle:=mh ok;have hil:=aV hi;have ha:=hlt a (by simp);simp at hl;obtain rfl:k=1:=hk.of (i:=0) (by simp);have hT:=La (Γ:=Γ) a turn ht (by omega) (q:=h.length) (h:=h++[.cells [iN turn]]) (by simp);have hh:=aaB (Γ:=Γ) turn ht r (by omega) (fl:=fl) (k:=1) .self i h.length up r.length 0 (by omega) x (a^^^turn) h rfl hi hw ok (tg (n:=x.all) ht ha) (fun b hb=>hlt b (by simp[hb]));refine qS [.cells [iN turn]] hw hil (by simp) ?_;rw[iJ];refine .bB 60 Su ?_;simp(disch:=omega);refine .a_ 60 hT ?_;simp(disch:=omega);refine .inLoop ?_;simp at hh⊢;exact hh
theorem Nd(l:List Nat)(h0:l≠[])(hl:l.length<2^40){fl:Bool}{k:Nat}(hk:Kd 1 k l){i:Nat}(x:Gr){h:List Ob}(hi:h[i]? =some (cv x))(hw:cI h)(ok:x.Ok)(hlt:∀a∈l,a<x.lits)(up:List Fr):
 AM.Reach Tryz.prog Γ (.cl sb [.ptr i 0,.list fl k (l.map iN)] up h) (cG iN i up h (iJ 0 x l)):=by
 have hA:=Mk (Γ:=Γ) 0 (by omega) l h0 hl (fl:=fl) hk x hi hw ok hlt;refine .bB 60 SJ ?_;simp;unfold cG at hA⊢
 cases h9:(iJ 0 x l).2<;>simp only[h9]at hA⊢
 ·refine .jG 60 hA ?_;simp
 ·refine .a_ 60 hA ?_;simp
theorem NA(l:List Nat)(h0:l≠[])(hl:l.length<2^40){fl:Bool}{k:Nat}(hk:Kd 1 k l){i:Nat}(x:Gr){h:List Ob}(hi:h[i]? =some (cv x))(hw:cI h)(ok:x.Ok)(hlt:∀a∈l,a<x.lits)(up:List Fr):
 AM.Reach Tryz.prog Γ (.cl sd [.ptr i 0,.list fl k (l.map iN)] up h) (cG iN i up h (eo (·^^^1) (iJ 1 x l))):=by
 have hA:=Mk (Γ:=Γ) 1 (by omega) l h0 hl (fl:=fl) hk x hi hw ok hlt;have hf:=ve (turn:=1) (by omega) ok hlt;have hle:=mh hf.1.ok;refine .bB 60 SE ?_;simp;unfold cG at hA⊢;unfold eo
 cases h9:(iJ 1 x l).2 with
 |none=>
  simp only[h9,rR]at hA⊢;refine .jG 60 hA ?_;simp
 |some d=>
  have:=hf.2 d h9;simp only[h9,dp]at hA⊢;refine .a_ 60 hA ?_;simp(disch:=omega) []
theorem aa0{i:Nat}{a:AV}{h:List Ob}(up:List Fr):AM.Reach Tryz.prog Γ (.cl uJ [.ptr i 0,a] up h) (.back up (.int .i64 0) h):=by
 refine .bB 60 Sx ?_;simp
set_option maxRecDepth 8000 in
theorem aaQ(l:List Nat)(hl:l.length<2^40){fl:Bool}{k:Nat}(hk:Kd 1 k l)(i base:Nat)(up:List Fr):∀n j:Nat,j+n=l.length->∀(x:Gr)(c:Nat)(h:List Ob),h[i]? =some (cv x)->cI h->x.Ok->c<x.lits->(∀a∈l,a<x.lits)->
 AM.Reach Tryz.prog Γ (yGb (.ptr i 0) (iN c) (.list fl k (l.map iN)) (.int .i64 l.length) (.int .i64 j) h ⟨[],.norm,base,up⟩) (cG iN i up h (nc x c (l.drop j))):=by
 intro n
 induction n with
 |zero=>
  intro j hj x c h hi hw ok hc hlt
  have q1:¬j<l.length:=by omega
  rw[bu (by omega),nc];unfold cG;simp only[vG hi];refine .ba 60 ?_;simp[q1]
 |succ n ih=>
  intro j hj x c h hi hw ok hc hlt
  have q1:j<l.length:=by omega
  have q2:=cF (hk.of q1);have hle:=mh ok;have ha:=hlt _ (bC q1);have hil:=aV hi
  have hW:∀y:Gr,cI (h.set i (cv y)):=fun y=>hw.set (fun m _=>by simp) i
  have hI:∀y:Gr,(h.set i (cv y))[i]? =some (cv y):=fun y=>by simp[hil]
  have hA:=fun up=>Al (Γ:=Γ) x ok c (l[j]^^^1) hi hw up
  rw[bT q1,nc,wh];refine .ba 60 ?_;simp(disch:=omega) [q1,q2]
  cases h9:ej x c (l[j]^^^1)with
  |mk y r=>
   rw[h9]at hA;obtain⟨g1,g2⟩:=mb ok h9
   cases r with
   |none=>
    simp only[cG,eD]at hA⊢;refine .jG 60 hA ?_;simp
   |some p=>
    have hp:=g2 p rfl;have hl1:=g1.lits;have hle1:=mh g1.ok
    have hB:=fun up=>Al (Γ:=Γ) y g1.ok (c^^^1) l[j] (hI y) (hW y) up
    simp only[cG,eD]at hA⊢;refine .a_ 60 hA ?_;simp(disch:=omega) []
    cases h10:ej y (c^^^1) l[j]with
    |mk z r=>
     rw[h10]at hB;obtain⟨g3,g4⟩:=mb g1.ok h10
     cases r with
     |none=>
      simp only[cG,qn]at hB⊢;refine .jG 60 hB ?_;simp
     |some q=>
      have hq:=g4 q rfl;have hl2:=g3.lits;have hle2:=mh g3.ok
      have hC:=fun up=>Al (Γ:=Γ) z g3.ok (p^^^1) (q^^^1) (hI z) (hW z) up
      simp only[cG,qn]at hB⊢;refine .a_ 60 hB ?_;simp(disch:=omega) []
      cases h11:ej z (p^^^1) (q^^^1)with
      |mk w r=>
       rw[h11]at hC;obtain⟨g5,g6⟩:=mb g3.ok h11
       cases r with
       |none=>
        simp only[cG,qn,eo,rR]at hC⊢;refine .jG 60 hC ?_;simp
       |some d=>
        have hd:=g6 d rfl;have hle3:=mh g5.ok;simp only[cG,qn,eo,dp]at hC⊢;have hh:=ih (j+1) (by omega) w (d^^^1) (h.set i (cv w)) (hI w) (hW w) g5.ok (ES (n:=w.all) hd) (fun a ha=>jO (hlt a ha) ((g1.trans g3).trans g5).lits);simp only[cG,qn]at hh;refine .a_ 60 hC ?_;simp(disch:=omega) [];refine .aN ?_;simp[q2]at hh⊢;exact hh
theorem ab7(l:List Nat)(h0:l≠[])(hl:l.length<2^40){fl:Bool}{k:Nat}(hk:Kd 1 k l){i:Nat}(x:Gr){h:List Ob}(hi:h[i]? =some (cv x))(hw:cI h)(ok:x.Ok)(hlt:∀a∈l,a<x.lits)(up:List Fr):
 AM.Reach Tryz.prog Γ (.cl sf [.ptr i 0,.list fl k (l.map iN)] up h) (cG iN i up h (wa x l)):=by
 cases l with
 |nil=>exact absurd rfl h0
 |cons a r=>
  simp at hl;obtain rfl:k=1:=hk.of (i:=0) (by simp);have hh:=aaQ (Γ:=Γ) r (by omega) (fl:=fl) (k:=1) .self i h.length up r.length 0 (by omega) x a h hi hw ok (hlt a (by simp)) (fun b hb=>hlt b (by simp[hb]));rw[wa];refine .bB 60 SC ?_;simp(disch:=omega);refine .inLoop ?_;simp at hh⊢;exact hh
abbrev Bs:=List UInt8
structure Lt where
 name:Bs
 next:Bs
 init:Int
 deriving DecidableEq
abbrev oP(q:Lt):AV:=.agg [.str q.name,.str q.next,.int .i64 q.init]
structure Gt where
 name:Bs
 op:Int
 ins:List Bs
 rows:List Bs
 off:Bool
 ki:Nat
 kr:Nat
 hi:Kd 1 ki ins
 hr:Kd 1 kr rows
abbrev cZ(g:Gt):AV:=.agg [.str g.name,.int .i64 g.op,.list false g.ki (g.ins.map .str),.list false g.kr (g.rows.map .str),.bool g.off]
structure Ct where
 aM:List Bs
 bg:List Bs
 an:List Lt
 af:List Gt
 kI:Nat
 kO:Nat
 kL:Nat
 kG:Nat
 hI:Kd 1 kI aM
 hO:Kd 1 kO bg
 hL:Kd 3 kL an
 hG:Kd 5 kG af
abbrev bR(c:Ct):AV:=.agg [.list false c.kI (c.aM.map .str),.list false c.kO (c.bg.map .str),.list false c.kL (c.an.map oP),.list false c.kG (c.af.map cZ)]
def wc(g:Gt):Prop:=g.name.length<2^40/\g.ins.length<2^10/\g.rows.length<2^10/\(∀s∈g.ins,s.length<2^40)/\∀s∈g.rows,s.length<2^40
def bY(c:Ct):Prop:=c.aM.length<2^10/\c.bg.length<2^10/\c.an.length<2^10/\c.af.length<2^10/\(∀g∈c.af,wc g)/\
 (∀s∈c.aM,s.length<2^40)/\(∀s∈c.bg,s.length<2^40)/\∀q∈c.an,q.name.length<2^40/\q.next.length<2^40
theorem FB{α β:Type}(a:List β)(f:α->β)(l:List α){i:Nat}(h:i<l.length):a++(l.drop i).map f=a++[f l[i]]++(l.drop (i+1)).map f:=by
 rw[bT h,cn,eQ];rfl
def aK(c:Ct):List Bs:=c.aM++c.an.map (·.name)++c.af.map (·.name)
structure Fm where
 kind:Int
 lit:Int
 kids:Int
 deriving DecidableEq
abbrev aY(f:Fm):AV:=.agg [.int .i64 f.kind,.int .i64 f.lit,.int .i64 f.kids]
end Go.Proofs.YtihmomicdpkabaaGreatDoor
