/- A list's elements' size. -/
import Derived.Test.YtihmomicdpkabaaGreatDoorAMd
import Derived.Test.YtihmomicdpkabaaGreatDoorCode
set_option linter.unusedSimpArgs false
set_option linter.unusedVariables false
namespace Go.Proofs.YtihmomicdpkabaaGreatDoor
open Go.AM Go.Proofs
def Kd(n k:Nat){α:Type}(l:List α):Prop:=k=n\/l=[]
theorem Kd.of{n k:Nat}{α:Type}{l:List α}(h:Kd n k l){i:Nat}(hi:i<l.length):k=n:=by
 rcases h with h|h
 ·exact h
 ·subst h;simp at hi
theorem Kd.self{n:Nat}{α:Type}{l:List α}:Kd n n l:=.inl rfl
theorem Kd.nil{n k:Nat}{α:Type}:Kd n k ([]:List α):=.inr rfl
@[simp] abbrev i64(n:Int):AV:=.int .i64 n
abbrev iN(n:Nat):AV:=.int .i64 (n:Int)
end Go.Proofs.YtihmomicdpkabaaGreatDoor
namespace Go.Proofs.YtihmomicdpkabaaGreatDoor
open Go.AM Go.Proofs
variable{Γ:Nat->Option AV}
theorem Dg(a b:List Int){ka kb:Nat}(ha:Kd 1 ka a)(hb:Kd 1 kb b)(hs:a.length<2^60):aP Tryz.prog Γ re [.list false ka (a.map i64),.list false kb (b.map i64)] (.bool (decide (a=b))):=by
 refine .run 60 TI (by simp) ?_
 by_cases hl:a.length=b.length
 ·have key:∀n i:Nat,i+n=a.length->ay Tryz.prog Γ (ymx (.list false ka (a.map i64)) (.list false kb (b.map i64)) (.int .i64 a.length) (.int .i64 i) []) (.ret (.bool (decide (a.drop i=b.drop i)))):=by
   intro n
   induction n with
   |zero=>
    intro i hi;refine .go 60 ?_
    have h1:¬i<a.length:=by omega
    have h2:a.drop i=b.drop i:=by rw[bw (by omega),bw (by omega)]
    simp[h1,h2];exact .back (by simp)
   |succ n ih=>
    intro i hi
    have h1:i<a.length:=by omega
    have h2:i<b.length:=by omega
    obtain rfl:=ha.of h1;obtain rfl:=hb.of h2;have h4:=drop_eq h1 h2;refine .go 60 ?_
    by_cases h3:a[i]=b[i]
    ·simp(disch:=omega) [h1,h2,h3,h4];refine .aL ?_;simpa using ih (i+1) (by omega)
    ·simp(disch:=omega) [h1,h2,h3,h4];exact .back (by simp)
  simp[hl];refine .inLoop ?_;simpa[hl]using key a.length 0 (by omega)
 ·have h2:¬a=b:=fun e=>hl (by rw[e])
  simp[hl,h2];exact .back (by simp)
theorem UN{φ:List Ob->Prop}{f:FuncId}{caps:List AV}{p:Int->Bool}{l:List Int}{k:Nat}{fl:Bool}(ha:iH Tryz.prog Γ φ f caps i64 p l)(hk:Kd 1 k l)(hs:l.length<2^60){h:List Ob}(hφ:φ h):
 ∀up,AM.Reach Tryz.prog Γ (.cl vt [.list fl k (l.map i64),.fn (.func f) [] caps] up h) (.back up (.int .i64 (ey p l 0)) h):=by
 intro up
 have key:∀n i:Nat,i+n=l.length->AM.Reach Tryz.prog Γ (yxL (.list fl k (l.map i64)) (.fn (.func f) [] caps) (.int .i64 l.length) (.int .i64 i) h ⟨[],.norm,h.length,up⟩) (.back up (.int .i64 (ey p (l.drop i) i)) h):=by
  intro n
  induction n with
  |zero=>
   intro i hi
   have h1:¬i<l.length:=by omega
   refine .bf 60 ?_;rw[bw (by omega)];simp[h1,ey]
  |succ n ih=>
   intro i hi
   have h1:i<l.length:=by omega
   obtain rfl:=hk.of h1;have h2:=ha.2 l[i] (bC h1);rw[bM h1,ey];have hh:=ih (i+1) (by omega);refine .bf 60 ?_;simp[h1,ha.1];refine .bd 60 (fun up=>h2 up h hφ) ?_
   cases hp:p l[i]with
   |true=>simp(disch:=omega) [hp]
   |false=>
    simp(disch:=omega) [hp];refine .aL ?_;simp at hh⊢;exact hh
 refine .bF 60 Tq ?_;simp;refine .inLoop ?_;have hh:=key l.length 0 (by omega);simp at hh⊢;exact hh
theorem Dn{φ:List Ob->Prop}{f:FuncId}{caps:List AV}{p:Int->Bool}{l:List Int}{k:Nat}{fl:Bool}(ha:iH Tryz.prog Γ φ f caps i64 p l)(hk:Kd 1 k l)(hs:l.length<2^60){h:List Ob}(hφ:φ h):
 ∀up,AM.Reach Tryz.prog Γ (.cl sQ [.list fl k (l.map i64),.fn (.func f) [] caps] up h) (.back up (.bool (br p l)) h):=by
 intro up;refine .bF 60 Td ?_;simp;refine .bd 60 (UN ha hk hs hφ) ?_;have h1:=AY p l 0
 cases hp:br p l with
 |true=>rw[hp]at h1;simp at h1;simp[h1]
 |false=>
  rw[hp]at h1
  have h2:¬0<=ey p l 0:=by rw[h1];simp
  simp[h2]
structure Gr where
 ins:Int
 next:List Int
 init:List Int
 ands:List (Int×Int)
 outs:List Int
 kn:Nat
 ki:Nat
 ka:Nat
 ko:Nat
 hn:Kd 1 kn next
 hi:Kd 1 ki init
 ha:Kd 2 ka ands
 ho:Kd 1 ko outs
abbrev cN(p:Int×Int):AV:=.agg [.int .i64 p.1,.int .i64 p.2]
abbrev eW(g:Gr):AV:=.agg [.int .i64 g.ins,.list false g.kn (g.next.map i64),.list false g.ki (g.init.map i64),.list false g.ka (g.ands.map cN),.list false g.ko (g.outs.map i64)]
def Gr.jc(g:Gr):Prop:=g.next.length<2^40/\g.init.length<2^40/\g.ands.length<2^40/\g.outs.length<2^40
def d_(n:Int)(a:Int):Bool:=decide (a<0)||decide (n<=a)
def si(a:Int):Bool:=decide (a<0)||decide (2<a)
def mV:List (Int×Int)->Nat->Bool
 |[],_=>false
 |p::ps,n=>d_ (2*n) p.1||d_ (2*n) p.2||mV ps (n+1)
def Gr.first(g:Gr):Nat:=1+g.ins.toNat+g.next.length
def Gr.all(g:Gr):Nat:=g.first+g.ands.length
def Gr.lits(g:Gr):Nat:=2*g.all
def Gr.lG(g:Gr):Bool:=decide (g.ins<0)||decide (4000<g.ins)||decide (4000<g.ins+g.next.length+g.ands.length)||decide (4000<g.outs.length)
def Gr.check(g:Gr):Int:=
 if g.lG=true then 8 else if(!decide (g.init.length=g.next.length)||br si g.init||br (d_ g.lits) g.next||br (d_ g.lits) g.outs||mV g.ands g.first)=true then 1 else 0
theorem Om{g:Gr}(h:g.lG=false):0<=g.ins/\g.ins<=4000/\g.ins+g.next.length+g.ands.length<=4000/\g.outs.length<=4000:=by
 simp only[Gr.lG,jK,iO]at h;omega
theorem oz(g:Gr)(h0:0<=g.ins)(h1:g.ins<=4000)(h2:g.next.length<=4000):aP Tryz.prog Γ ke [eW g] (.int .i64 g.first):=by
 refine .run 60 J1 (by simp) ?_
 have e1:1+g.ins+(g.next.length:Int)=(g.first:Int):=by unfold Gr.first;omega
 simp(disch:=omega) [e1];exact .back (by simp)
theorem Pf(i:Nat)(all:Nat)(l:List Int):iH Tryz.prog Γ (fun h=>h[i]? =some (.cells [.int .i64 all])) zr [.ptr i 0] i64 (d_ all) l:=by
 refine⟨by simp,fun x _ up h hφ=>?_⟩;refine .bF 60 Vt ?_;unfold d_
 by_cases h1:x<0
 ·simp[hφ,h1]
 ·simp[hφ,h1]
theorem adj(l:List Int):iH Tryz.prog Γ (fun _=>True) zq [] i64 si l:=by
 refine⟨by simp,fun x _ up h hφ=>?_⟩;refine .bF 60 VB ?_;unfold si
 by_cases h1:x<0
 ·simp[h1]
 ·simp[h1]
theorem Xf{l:List (Int×Int)}{i:Nat}(h:i<l.length)(n:Nat):mV (l.drop i) n=(d_ (2*n) l[i].1||d_ (2*n) l[i].2||mV (l.drop (i+1)) (n+1)):=by
 rw[bM h,mV]
set_option maxRecDepth 8000 in
theorem rp(g:Gr)(hf:g.jc):aP Tryz.prog Γ nw [eW g] (.int .i64 g.check):=by
 obtain⟨f1,f2,f3,f4⟩:=hf;refine .run 60 Wi (by simp) ?_;unfold Gr.check
 cases hl:g.lG with
 |true=>
  simp only[cq];unfold Gr.lG at hl
  by_cases c1:g.ins<0
  ·simp[c1];exact .back (by simp)
  by_cases c2:4000<g.ins
  ·simp[c1,c2];exact .back (by simp)
  by_cases c3:4000<g.ins+g.next.length+g.ands.length
  ·simp(disch:=omega) [c1,c2,c3];exact .back (by simp)
  have c4:(4000:Int)<g.outs.length:=by
   simp only[c1,c2,c3,mE,nn,a_]at hl;omega
  simp(disch:=omega) [c1,c2,c3,c4];exact .back (by simp)
 |false=>
  obtain⟨l1,l2,l3,l4⟩:=Om hl
  have c1:¬g.ins<0:=by omega
  have c2:¬4000<g.ins:=by omega
  have c3:¬4000<g.ins+g.next.length+g.ands.length:=by omega
  have c4:¬(4000:Int)<g.outs.length:=by omega
  have hpf:=oz (Γ:=Γ) g l1 l2 (by omega)
  have e1:(g.first:Int)+g.ands.length=g.all:=by unfold Gr.all;omega
  have e2:2*(g.all:Int)=g.lits:=by unfold Gr.lits;omega
  have hfl:g.first<=8001:=by unfold Gr.first;omega
  have hal:g.all<=12001:=by unfold Gr.all;omega
  simp(disch:=omega) [c1,c2,c3,c4];refine .dr 60 ?_;simp;refine .quiet hpf (fun _=>rfl) (by simp) ?_;simp(disch:=omega) [e1,e2]
  by_cases d1:g.init.length=g.next.length
  ·simp[d1];refine .bd 60 (Dn (adj g.init) g.hi (by omega) (by trivial)) ?_
   cases d2:br si g.init with
   |true=>simp;exact .back (by simp)
   |false=>
    simp;refine .bd 60 (Dn (Pf 1 g.lits g.next) g.hn (by omega) (by simp)) ?_
    cases d3:br (d_ g.lits) g.next with
    |true=>simp;exact .back (by simp)
    |false=>
     simp;refine .bd 60 (Dn (Pf 1 g.lits g.outs) g.ho (by omega) (by simp)) ?_
     cases d4:br (d_ g.lits) g.outs with
     |true=>simp;exact .back (by simp)
     |false=>
      simp;refine .inLoop ?_;simp
      have key:∀n i:Nat,i+n=g.ands.length->ay Tryz.prog Γ (yjK (.ptr 0 0) (.list false g.ka (g.ands.map cN)) (.int .i64 g.ands.length) (.int .i64 i)
       [.cells [.int .i64 g.ins,.list false g.kn (g.next.map i64),.list false g.ki (g.init.map i64),.list false g.ka (g.ands.map cN),.list false g.ko (g.outs.map i64)],.cells [.int .i64 g.lits]]) (.ret (.int .i64 (if mV (g.ands.drop i) (g.first+i)=true then 1 else 0))):=by
       intro n
       induction n with
       |zero=>
        intro i hi
        have q1:¬i<g.ands.length:=by omega
        refine .go 60 ?_;rw[bw (by omega)];simp[q1,mV];exact .back (by simp)
       |succ n ih=>
        intro i hi
        have q1:i<g.ands.length:=by omega
        have q2:=cv (g.ha.of q1);have hh:=ih (i+1) (by omega)
        have q3:2*((g.first:Int)+i)=((2*(g.first+i):Nat):Int):=by omega
        rw[Xf q1];unfold d_;refine .go 60 ?_;simp(disch:=omega) [q1,q2];refine .call 60 (by simp) hpf ?_
        by_cases r1:g.ands[i].1<0
        ·simp(disch:=omega) [r1];exact .back (by simp)
        by_cases r2:g.ands[i].2<0
        ·simp(disch:=omega) [r1,r2];exact .back (by simp)
        by_cases r3:2*((g.first:Int)+i)<=g.ands[i].1
        ·simp(disch:=omega) [r1,r2,r3];exact .back (by simp)
        by_cases r4:2*((g.first:Int)+i)<=g.ands[i].2
        ·simp(disch:=omega) [r1,r2,r3,r4];exact .back (by simp)
        simp(disch:=omega) [r1,r2,r3,r4];refine .aL ?_;simp;refine .drop 2 rfl (by simp) (by simp) (by simp) ?_;simp at hh⊢;rw[show g.first+(i+1)=g.first+i+1 by omega]at hh;exact hh
      have hh:=key g.ands.length 0 (by omega);simp at hh⊢;exact hh
  ·simp[d1];exact .back (by simp)
def bK(v:List Bool)(a:Nat):Bool:=v.getD (a/2) false !=decide (a%2=1)
theorem aav{l:List (Int×Int)}{n:Nat}(h:mV l n=false):∀i(hi:i<l.length),(0<=l[i].1/\l[i].1<2*(n+i))/\0<=l[i].2/\l[i].2<2*(n+i):=by
 induction l generalizing n with
 |nil=>intro i hi;simp at hi
 |cons p l ih=>
  simp only[mV,jK,d_,iO]at h;intro i hi
  cases i with
  |zero=>simp;omega
  |succ i=>
   have:=ih h.2 i (by simpa using hi);simp at this⊢;omega
structure Gr.Ok(g:Gr):Prop where
 ins:0<=g.ins/\g.ins<=4000
 sum:g.ins+g.next.length+g.ands.length<=4000
 mc:g.outs.length<=4000
 same:g.init.length=g.next.length
 init:∀a∈g.init,0<=a/\a<=2
 next:∀a∈g.next,0<=a/\a<g.lits
 outs:∀a∈g.outs,0<=a/\a<g.lits
 ands:∀i(hi:i<g.ands.length),(0<=g.ands[i].1/\g.ands[i].1<2*(g.first+i))/\0<=g.ands[i].2/\g.ands[i].2<2*(g.first+i)
theorem Gr.qx{g:Gr}(h:g.check=0):g.Ok:=by
 unfold Gr.check at h
 split at h
 ·simp at h
 ·rename_i hl;have hl:=Om (by simpa using hl)
  split at h
  ·simp at h
  ·rename_i hb;simp only[Bool.not_eq_true,jK,SF,a_]at hb;obtain⟨⟨⟨⟨b1,b2⟩,b3⟩,b4⟩,b5⟩:=hb;refine⟨⟨hl.1,hl.2.1⟩,hl.2.2.1,hl.2.2.2,b1,?_,?_,?_,aav b5⟩
   ·intro a ha;have:=nE.1 b2 a ha;simp[si]at this;omega
   ·intro a ha;have:=nE.1 b3 a ha;simp[d_]at this;omega
   ·intro a ha;have:=nE.1 b4 a ha;simp[d_]at this;omega
def bT:List (Int×Int)->List Bool->List Bool
 |[],v=>v
 |p::ps,v=>bT ps (v++[bK v p.1.toNat&&bK v p.2.toNat])
theorem wi:∀(l:List (Int×Int))(v:List Bool),(bT l v).length=v.length+l.length
 |[],v=>by simp[bT]
 |p::ps,v=>by rw[bT,wi ps];simp;omega
theorem vK:∀(a b:List (Int×Int))(v:List Bool),bT (a++b) v=bT b (bT a v)
 |[],b,v=>rfl
 |p::ps,b,v=>by rw[eP,bT,bT,vK ps]
def Gr.su(g:Gr)(state ins:List Bool):List Bool:=bT g.ands (false::(ins++state))
def Gr.fits(g:Gr)(state ins:List Bool):Bool:=decide (state.length=g.next.length)&&decide ((ins.length:Int)=g.ins)
def Gr.gh(g:Gr)(state ins:List Bool):Int:=if g.check≠0 then g.check else if g.fits state ins=true then 0 else 11
def Gr.values(g:Gr)(state ins:List Bool):List Bool:=if g.gh state ins=0 then g.su state ins else[]
def qo(v:List Bool)(l:List Int):List Bool:=l.map fun a=>bK v a.toNat
@[simp] theorem ay0(v:List Bool)(l:List Int):(qo v l).length=l.length:=by simp[qo]
def Gr.gp(g:Gr)(state ins:List Bool):List Bool:=if g.gh state ins=0 then qo (g.su state ins) g.outs else[]
def Gr.kD(g:Gr)(state ins:List Bool):List Bool:=if g.gh state ins=0 then qo (g.su state ins) g.next else[]
theorem Gr.afd{g:Gr}{state ins:List Bool}(h:g.gh state ins=0):g.Ok/\state.length=g.next.length/\(ins.length:Int)=g.ins:=by
 unfold Gr.gh at h
 by_cases hc:g.check=0
 ·refine⟨Gr.qx hc,?_⟩;simp only[hc,ne_eq,not_true,c9]at h
  by_cases hf:g.fits state ins=true
  ·simp only[Gr.fits,av,a_]at hf;exact hf
  ·simp[hf]at h
 ·simp[hc]at h
end Go.Proofs.YtihmomicdpkabaaGreatDoor
namespace Go.Proofs.YtihmomicdpkabaaGreatDoor
open Go.AM Go.Proofs
def ez(p:Int×Int):List (Int×Int)->Nat->Option Nat
 |[],_=>none
 |q::qs,i=>if q=p then some i else ez p qs (i+1)
theorem DE(p:Int×Int):∀(a b:List (Int×Int))(i:Nat),ez p (a++b) i=match ez p a i with|some j=>some j|none=>ez p b (i+a.length)
 |[],b,i=>by simp[ez]
 |q::a,b,i=>by
  rw[eP,ez,ez]
  by_cases h:q=p
  ·simp[h]
  ·rw[if_neg h,if_neg h,DE p a b (i+1),bP,show i+1+a.length=i+(a.length+1) by omega]
theorem zY{p:Int×Int}:∀{l:List (Int×Int)}{i k:Nat},ez p l i=some k->i<=k/\∃h:k-i<l.length,l[k-i]=p
 |[],i,k,h=>by simp[ez]at h
 |q::l,i,k,h=>by
  rw[ez]at h
  by_cases hq:q=p
  ·rw[if_pos hq]at h
   cases h
   exact⟨aU _,by simp,by simp[hq]⟩
  ·rw[if_neg hq]at h;obtain⟨h1,h2,h3⟩:=zY h;refine⟨by omega,by simp;omega,?_⟩
   have e:k-i=(k-(i+1))+1:=by omega
   simp only[e,sO];exact h3
theorem zU{p:Int×Int}:∀{l:List (Int×Int)}{i:Nat},ez p l i=none↔p∉l
 |[],i=>by simp[ez]
 |q::l,i=>by
  rw[ez]
  by_cases hq:q=p
  ·simp[hq]
  ·rw[if_neg hq,zU (l:=l)];simp[hq,Ne.symm hq]
def kF(p q:Nat):Option Nat:=if q=0\/p^^^1=q then some 0 else if q=1\/p=q then some p else none
def bI(first:Nat)(l:List (Int×Int))(a b:Nat):List (Int×Int)×Nat:=
 match kF (max a b) (min a b)with
 |some c=>(l,c)
 |none=>match ez (((max a b:Nat):Int),((min a b:Nat):Int)) l 0 with
  |some i=>(l,2*(first+i))
  |none=>(l++[(((max a b:Nat):Int),((min a b:Nat):Int))],2*(first+l.length))
def fO(p:Int×Int):List ((Int×Int)×Nat)->Option Nat
 |[]=>none
 |(q,n)::r=>if p=q then some n else fO p r
abbrev gy(x:(Int×Int)×Nat):AV×AV:=(cN x.1,.int .i64 x.2)
theorem EY(p q:Int×Int):b_ (.iE [.int,.int]) (cN p) (cN q)=some (decide (p=q)):=by
 obtain⟨a,b⟩:=p;obtain⟨c,d⟩:=q;simp only[b_,cf,cP,gn,eI,bL]
 cases h1:(a==c)
 ·have:=vm.1 h1;simp[this]
 ·have e1:=eq_of_beq h1
  cases h2:(b==d)
  ·have:=vm.1 h2;simp[this]
  ·have e2:=eq_of_beq h2;simp[e1,e2]
theorem DN(p:Int×Int):∀l:List ((Int×Int)×Nat),eD (.iE [.int,.int]) (cN p) (l.map gy)=some ((fO p l).map fun n:Nat=>AV.int .i64 (n:Int))
 |[]=>rfl
 |(q,n)::r=>by
  simp only[b9,eD,EY,fO]
  by_cases h:p=q
  ·simp[h]
  ·simp only[h,mE,c9];exact DN p r
theorem D3{p:Int×Int}{v:AV}:∀{l:List ((Int×Int)×Nat)},fO p l=none->h_ (.iE [.int,.int]) (cN p) v (l.map gy)=some (l.map gy++[(cN p,v)])
 |[],_=>rfl
 |(q,n)::r,h=>by
  rw[fO]at h
  by_cases hq:p=q
  ·rw[if_pos hq]at h;cases h
  ·rw[if_neg hq]at h;simp only[b9,h_,EY,hq,mE,D3 h,dt,eP]
theorem JZ(n:Nat):∀a b:List (AV×AV),fT n (a++b)=(fT n a&&fT n b)
 |[],b=>by simp[fT]
 |(x,y)::a,b=>by simp[fT,JZ n a b,nr]
@[simp] theorem Yu(n:Nat):∀l:List ((Int×Int)×Nat),fT n (l.map gy)=true
 |[]=>rfl
 |x::r=>by simp[fT,Yu n r]
@[simp] theorem ZO(n:Nat)(τ:List Nat):∀l:List ((Int×Int)×Nat),my n τ (l.map gy)=l.map gy
 |[]=>rfl
 |x::r=>by simp[ZO n τ r]
@[simp] theorem aal(n:Nat)(τ:List Nat):∀l:List ((Int×Int)×Nat),pA n τ (l.map gy)=true
 |[]=>rfl
 |x::r=>by simp[aal n τ r]
@[simp] theorem Y'(n m:Nat):∀l:List ((Int×Int)×Nat),m6 n m (l.map gy)=true
 |[]=>rfl
 |x::r=>by simp[Y' n m r]
def jz(first:Nat)(l:List (Int×Int))(es:List ((Int×Int)×Nat)):Prop:=∀p,fO p es=(ez p l 0).map fun i=>2*(first+i)
theorem JS(p:Int×Int):∀(a b:List ((Int×Int)×Nat)),fO p (a++b)=match fO p a with|some n=>some n|none=>fO p b
 |[],b=>rfl
 |(q,n)::a,b=>by
  rw[eP,fO,fO]
  by_cases h:p=q
  ·simp[h]
  ·rw[if_neg h,if_neg h,JS p a b]
theorem Fy(first:Nat):jz first [] []:=fun p=>rfl
theorem ZT{first:Nat}{l:List (Int×Int)}{es:List ((Int×Int)×Nat)}(h:jz first l es){p:Int×Int}{n:Nat}(hp:fO p es=some n):jz first (l++[p]) es:=by
 intro q;rw[h q,DE]
 cases hq:ez q l 0 with
 |some j=>rfl
 |none=>
  have h2:=h p;rw[hp]at h2
  have hne:p≠q:=by
   rintro rfl
   rw[hq]at h2
   cases h2
  simp[ez,hne]
theorem MP{first:Nat}{l:List (Int×Int)}{es:List ((Int×Int)×Nat)}(h:jz first l es){p:Int×Int}(hp:fO p es=none):jz first (l++[p]) (es++[(p,2*(first+l.length))]):=by
 intro q;rw[JS,DE,h q]
 cases hq:ez q l 0 with
 |some j=>rfl
 |none=>
  simp only[sH,fO,ez,iM]
  by_cases he:q=p
  ·simp[he]
  ·rw[if_neg he,if_neg (fun h1=>he h1.symm)];rfl
end Go.Proofs.YtihmomicdpkabaaGreatDoor
namespace Go.Proofs.YtihmomicdpkabaaGreatDoor
open Go.AM Go.Proofs
variable{Γ:Nat->Option AV}
theorem Js(l:List (Int×Int)){k:Nat}(hk:Kd 2 k l)(hl:l.length<2^40):aP Tryz.prog Γ y5 [.list false k (l.map cN)] (.own 2 cM (l.map cN)):=by
 refine .run 60 Ts (by simp) ?_
 cases l with
 |nil=>
  simp;refine .either 0 (by simp) (fun b=>?_)
  cases b
  ·refine .go 9 ?_;simp;refine .qd 2 2 cM rfl (by omega) ?_;refine .go 60 ?_;simp;exact .back (by simp)
  ·refine .go 60 ?_;simp;exact .back (by simp)
 |cons x xs=>
  have hk0:k=2:=by
   rcases hk with h|h
   ·exact h
   ·cases h
  subst hk0;simp at hl;simp(disch:=(first|omega|(simp;omega)));exact .back (by simp)
def P9(h:List Ob):Prop:=∀m,h.length<=m->cE m h=true
abbrev cz(g:Gr):Ob:=.cells [.int .i64 g.ins,.list false g.kn (g.next.map i64),.list false g.ki (g.init.map i64),.list false g.ka (g.ands.map cN),.list false g.ko (g.outs.map i64)]
def qp(first:Nat):List (Int×Int)->Nat->List ((Int×Int)×Nat)->List ((Int×Int)×Nat)
 |[],_,es=>es
 |p::ps,i,es=>qp first ps (i+1) (if(fO p es).isSome=true then es else es++[(p,2*(first+i))])
theorem MQ(first:Nat):∀(ps l:List (Int×Int))(es:List ((Int×Int)×Nat)),jz first l es->jz first (l++ps) (qp first ps l.length es)
 |[],l,es,h=>by simpa[qp]using h
 |p::ps,l,es,h=>by
  rw[qp]
  have e:l++p::ps=(l++[p])++ps:=by simp
  have e2:l.length+1=(l++[p]).length:=by simp
  rw[e,e2]
  refine MQ first ps (l++[p]) _ ?_
  cases hf:fO p es with
  |none=>simpa using MP h hf
  |some n=>simpa using ZT h hf
def Gr.ba(g:Gr):List ((Int×Int)×Nat):=qp g.first g.ands 0 []
theorem Gr.NO(g:Gr):jz g.first g.ands g.ba:=by
 have:=MQ g.first g.ands [] [] (Fy _)
 rw[kY]at this;exact this
abbrev GW(g:Gr)(r n m:Nat)(come:AV):Ob:=.cells [.int .i64 g.ins,.list false g.kn (g.next.map i64),.list false g.ki (g.init.map i64),.sl r 0 n,.list false g.ko (g.outs.map i64),.mp m,come]
set_option maxRecDepth 8000 in
theorem aaW(g:Gr)(ok:g.Ok)(h:List Ob)(hw:P9 h)(up:List Fr):∀n i:Nat,i+n=g.ands.length->∀es,AM.Reach Tryz.prog Γ
 (ywD (.ptr h.length 0) (.ptr (h.length+2) 0) (.list false g.ka (g.ands.map cN)) (.int .i64 g.ands.length) (.int .i64 i) (h++[cz g,.map (es.map gy) true,GW g (h.length+3) g.ands.length (h.length+1) (.list true 0 []),.row 2 cM (g.ands.map cN) none true false]) ⟨[],.norm,h.length,up⟩)
 (.back up (.ptr (h.length+2) 0) (h++[cz g,.map ((qp g.first (g.ands.drop i) i es).map gy) true,GW g (h.length+3) g.ands.length (h.length+1) (.list true 0 []),.row 2 cM (g.ands.map cN) none true false])):=by
 have o1:=ok.ins;have o3:=ok.sum;have hf:=oz (Γ:=Γ) g o1.1 o1.2 (by omega)
 have hfb:g.first<=8001:=by unfold Gr.first;omega
 intro n
 induction n with
 |zero=>
  intro i hi es
  have q1:¬i<g.ands.length:=by omega
  rw[bw (by omega)];refine .bf 60 ?_;simp[q1,qp]
 |succ n ih=>
  intro i hi es
  have q1:i<g.ands.length:=by omega
  have q2:=cv (g.ha.of q1);rw[bM q1,qp];have hfi:=DN g.ands[i] es;have hbw:=hw (h.length+4) (by omega)
  cases hfe:fO g.ands[i] es with
  |some c=>
   rw[hfe]at hfi;have hh:=ih (i+1) (by omega) es;refine .bf 60 ?_;simp(disch:=omega) [q1,q2,hfi,isKey,cf,cP];refine .aL ?_;simp;refine .mT (h.length+4) (by simp;rfl) (by simp) (by simp) (by simp[hbw]) ?_;simp at hh⊢;exact hh
  |none=>
   rw[hfe]at hfi;have hh:=ih (i+1) (by omega) (es++[(g.ands[i],2*(g.first+i))]);have hput:=D3 (v:=.int .i64 (2*((g.first:Int)+i))) hfe;refine .bf 60 ?_;simp[q1,q2,hfi,isKey,cf,cP];refine .n7 60 ?_;simp[q1,q2];refine .call (by simp) hf ?_;simp(disch:=omega) [hput,isKey,cf,cP];refine .aL ?_;simp;refine .mT (h.length+4) (by simp;rfl) (by simp) (by simp) (by simp[hbw,JZ]) ?_;simp[hfe]at hh⊢;exact hh
set_option maxRecDepth 8000 in
theorem abW(g:Gr)(ok:g.Ok)(hfew:g.ands.length<2^40)(h:List Ob)(hw:P9 h):∀up,AM.Reach Tryz.prog Γ (.cl rv [eW g] up h)
 (.back up (.ptr (h.length+2) 0) (h++[cz g,.map (g.ba.map gy) true,GW g (h.length+3) g.ands.length (h.length+1) (.list true 0 []),.row 2 cM (g.ands.map cN) none true false])):=by
 intro up;refine .bF 60 J_ ?_;simp;refine .nM 60 (by simp) (Js (Γ:=Γ) g.ands g.ha hfew) ?_;simp;refine .inLoop ?_;have hh:=aaW (Γ:=Γ) g ok h hw up g.ands.length 0 (by omega) [];simp at hh⊢;exact hh
abbrev Gr.iI(g:Gr)(l:List (Int×Int)):Gr:={g with ands:=l,ka:=2,ha:=.self}
@[simp] theorem Gr.ayA(g:Gr)(l:List (Int×Int)):(g.iI l).first=g.first:=rfl
@[simp] theorem azf(a b:Nat):pr (.int .i64 (a:Int)) [.int .i64 (b:Int)]=some (.int .i64 ((max a b:Nat):Int)):=by
 simp only[pr,cq];congr 2;split<;>omega
@[simp] theorem azD(a b:Nat):lE (.int .i64 (a:Int)) [.int .i64 (b:Int)]=some (.int .i64 ((min a b:Nat):Int)):=by
 simp only[lE,cq];congr 2;split<;>omega
abbrev xe(g:Gr)(x1 x2 x4:AV)(r n m:Nat)(come:AV):Ob:=.cells [.int .i64 g.ins,x1,x2,.sl r 0 n,x4,.mp m,come]
section
set_option maxRecDepth 8000 in
theorem OA(a b c:Nat)(ha:a<2^20)(hb:b<2^20)(hk:kF (max a b) (min a b)=some c)(pb:AV)(h:List Ob):∀up,AM.Reach Tryz.prog Γ (.cl pS [pb,.int .i64 a,.int .i64 b] up h) (.back up (.int .i64 c) h):=by
 intro up
 have hle:min a b<=max a b:=by omega
 have hM:max a b<2^20:=by omega
 generalize hM':max a b=M at*;generalize hm':min a b=m at*;refine .bF 60 Dq ?_;unfold kF at hk;have hx:=oM M
 by_cases c1:m=0
 ·subst c1;simp at hk;subst hk;simp[hM',hm']
 ·by_cases c2:M^^^1=m
  ·rw[if_pos (Or.inr c2)]at hk
   cases hk
   have c3:((M^^^1:Nat):Int)=m:=by omega
   simp(disch:=omega) [hM',hm',c1,c3,c2]
  ·rw[if_neg (by simp[c1,c2])]at hk
   have c3:¬((M^^^1:Nat):Int)=m:=by omega
   by_cases c4:m=1
   ·rw[if_pos (Or.inl c4)]at hk
    cases hk
    have c5:((m:Int)=1)=True:=cv (by omega);simp(disch:=omega) [hM',hm',c1,c3,c2,c5]
   ·by_cases c6:M=m
    ·rw[if_pos (Or.inr c6)]at hk
     cases hk
     subst c6;have c5:((c:Int)=1)=False:=j7 (by omega);simp(disch:=omega) [hM',hm',c1,c3,c2,c5]
    ·rw[if_neg (by simp[c4,c6])]at hk
     cases hk
end
section
variable{p q:List Ob}{x1 x2 x4 come:AV}
theorem KT{p q:Nat}(h:kF p q=none):q≠0/\p^^^1≠q/\q≠1/\p≠q:=by
 unfold kF at h
 split at h
 ·cases h
 ·split at h
  ·cases h
  ·omega
set_option maxRecDepth 8000 in
theorem OP(g:Gr)(hi:0<=g.ins/\g.ins<=4000)(hn:g.next.length<=4000)(l:List (Int×Int))(hl:l.length<2^20)(es:List ((Int×Int)×Nat))(he:jz g.first l es)(a b:Nat)(ha:a<2^20)(hb:b<2^20)(hk:kF (max a b) (min a b)=none)
 (hx1:∀s,view (p++s) x1=some (.list false g.kn (g.next.map i64)))(hx2:∀s,view (p++s) x2=some (.list false g.ki (g.init.map i64)))(hx4:∀s,view (p++s) x4=some (.list false g.ko (g.outs.map i64))):
 ∀up,AM.Reach Tryz.prog Γ (.cl pS [.ptr (p.length+1) 0,.int .i64 a,.int .i64 b] up (p++.map (es.map gy) true::xe g x1 x2 x4 (p.length+2) l.length p.length come::.row 2 cM (l.map cN) none true false::q))
  (match fO (((max a b:Nat):Int),((min a b:Nat):Int)) es with
   |some c=>.back up (.int .i64 c) (p++.map (es.map gy) true::xe g x1 x2 x4 (p.length+2) l.length p.length come::.row 2 cM (l.map cN) none true false::(q++[.cells [.int .i64 ((max a b:Nat):Int),.int .i64 ((min a b:Nat):Int)]]))
   |none=>.back up (.int .i64 (2*(g.first+l.length):Nat)) (p++.map ((es++[((((max a b:Nat):Int),((min a b:Nat):Int)),2*(g.first+l.length))]).map gy) true::xe g x1 x2 x4 (p.length+2) (l.length+1) p.length come::
    .row 2 cM ((l++[(((max a b:Nat):Int),((min a b:Nat):Int))]).map cN) (some 0) true false::(q++[.cells [.int .i64 ((max a b:Nat):Int),.int .i64 ((min a b:Nat):Int)]]))):=by
 intro up;obtain⟨k1,k2,k3,k4⟩:=KT hk
 have hle:min a b<=max a b:=by omega
 have hM:max a b<2^20:=by omega
 generalize hM':max a b=M at*;generalize hm':min a b=m at*;have hx:=oM M
 have c3:¬((M^^^1:Nat):Int)=m:=by omega
 have hfe:=DN ((M:Int),(m:Int)) es;have c5:((m:Int)=1)=False:=j7 (by omega);have c7:((M:Int)=m)=False:=j7 (by omega)
 cases hf:fO ((M:Int),(m:Int)) es with
 |some c=>
  rw[hf]at hfe;have hfe:eD (.iE [.int,.int]) (.agg [.int .i64 M,.int .i64 m]) (es.map gy)=some (some (.int .i64 (c:Int))):=hfe;simp only;refine .bF 60 Dq ?_;simp(disch:=omega) [hM',hm',k1,k2,k3,k4,c3,c5,c7,isKey,cf,cP,hfe];refine .bf 60 ?_;simp[isKey,cf,cP,hfe]
 |none=>
  rw[hf]at hfe;simp only;refine .bF 60 Dq ?_;have hfe:eD (.iE [.int,.int]) (.agg [.int .i64 M,.int .i64 m]) (es.map gy)=some none:=hfe;simp(disch:=omega) [hM',hm',k1,k2,k3,k4,c3,c5,c7,isKey,cf,cP,hfe];refine .bf 60 ?_;simp[isKey,cf,cP,hfe];have hf1:=oz (Γ:=Γ) (g.iI l) hi.1 hi.2 hn
  have hfb:g.first<=8001:=by unfold Gr.first;omega
  have hput:=D3 (v:=.int .i64 (2*((g.first:Int)+l.length))) hf;refine .n7 60 ?_;simp;refine .call (by simp[hx1,hx2,hx4]) hf1 ?_;simp(disch:=omega);refine .n7 60 ?_;simp(disch:=(first|omega|(simp;omega))) [isKey,cf,cP,hput];simp[gy]
end
def fv:Gr:=⟨0,[],[],[],[],0,0,0,0,.nil,.nil,.nil,.nil⟩
def Gr.jA(g:Gr)(a b:Int):Int:=if g.check≠0 then g.check else if d_ g.lits a=true\/d_ g.lits b=true then 1 else if 4000<g.ins+g.next.length+(bI g.first g.ands a.toNat b.toNat).1.length then 8 else 0
def Gr.eg(g:Gr)(a b:Int):Gr:=if g.jA a b=0 then g.iI (bI g.first g.ands a.toNat b.toNat).1 else fv
def Gr.eV(g:Gr)(a b:Int):Nat:=if g.jA a b=0 then(bI g.first g.ands a.toNat b.toNat).2 else 0
theorem wv(first:Nat)(l:List (Int×Int))(a b:Nat):(bI first l a b).1.length<=l.length+1:=by
 unfold bI
 split
 ·simp
 ·split<;>simp
theorem Lh{first:Nat}{l:List (Int×Int)}{es:List ((Int×Int)×Nat)}(h:jz first l es){a b:Nat}(hk:kF (max a b) (min a b)=none):
 bI first l a b=match fO (((max a b:Nat):Int),((min a b:Nat):Int)) es with
  |some c=>(l,c)
  |none=>(l++[(((max a b:Nat):Int),((min a b:Nat):Int))],2*(first+l.length)):=by
 unfold bI;rw[hk,h]
 cases ez (((max a b:Nat):Int),((min a b:Nat):Int)) l 0<;>rfl
theorem tF{g:Gr}(ok:g.Ok)(l:List (Int×Int))(h1:g.ands.length<=l.length):((g.iI l).check=8)↔4000<g.ins+g.next.length+l.length:=by
 have o1:=ok.ins;have o2:=ok.mc;unfold Gr.check Gr.lG;simp only[Gr.iI]
 by_cases h:4000<g.ins+g.next.length+(l.length:Int)
 ·simp[h]
 ·have h2:(decide (g.ins<0)||decide (4000<g.ins)||decide (4000<g.ins+↑g.next.length+↑l.length)||decide (4000<g.outs.length))=false:=by simp;omega
  rw[if_neg (by rw[h2];simp)];simp only[h,iff_false]
  split<;>omega
theorem V8(g:Gr):aP Tryz.prog Γ ke [eW g] (.int .i64 (IntKind.i64.wrap (IntKind.i64.wrap (1+g.ins)+g.next.length))):=by
 refine .run 60 J1 (by simp) ?_;simp;exact .back (by simp)
theorem N4{g:Gr}{a:Int}(h:d_ g.lits a=false):0<=a/\a.toNat<g.lits/\(a.toNat:Int)=a:=by
 simp[d_]at h;omega
set_option maxRecDepth 8000 in
theorem YA(g:Gr)(hf:g.jc)(a b:Int):aP Tryz.prog Γ Ai [eW g,.int .i64 a,.int .i64 b] (.aH [eW (g.eg a b),.int .i64 (g.eV a b),.int .i64 (g.jA a b)]):=by
 refine .run 60 Yl (by simp) ?_;simp;refine .call 60 (by simp) (rp g hf) ?_;simp;refine .dr 60 ?_;simp;refine .call (by simp) (V8 g) ?_
 by_cases hc:g.check=0
 ·have ok:=Gr.qx hc;have o1:=ok.ins;have o3:=ok.sum;have o4:=ok.mc
  have e1:IntKind.i64.wrap (IntKind.i64.wrap (1+g.ins)+g.next.length)=(g.first:Int):=by
   rw[wrap64 (n:=1+g.ins) (by omega) (by omega),wrap64 (by omega) (by omega)];unfold Gr.first;omega
  have hfb:g.first<=8001:=by unfold Gr.first;omega
  have hall:g.all<=12001:=by unfold Gr.all;omega
  have e2:(2*((g.first:Int)+g.ands.length))=(g.lits:Int):=by unfold Gr.lits Gr.all;omega
  rw[e1]
  by_cases h1:d_ g.lits a=true\/d_ g.lits b=true
  ·have k1:g.jA a b=1:=by unfold Gr.jA;rw[if_neg (by simp[hc]),if_pos h1]
   have k2:g.eg a b=fv:=by unfold Gr.eg;rw[k1,if_neg (by omega)]
   have k3:g.eV a b=0:=by unfold Gr.eV;rw[k1,if_neg (by omega)]
   rw[k1,k2,k3];simp only[d_,eY,a_]at h1
   by_cases q1:a<0
   ·simp(disch:=omega) [hc,e2,q1,fv];exact .back (by simp)
   ·by_cases q2:b<0
    ·simp(disch:=omega) [hc,e2,q1,q2,fv];exact .back (by simp)
    ·by_cases q3:(g.lits:Int)<=a
     ·simp(disch:=omega) [hc,e2,q1,q2,q3,fv];exact .back (by simp)
     ·have q4:(g.lits:Int)<=b:=by omega
      simp(disch:=omega) [hc,e2,q1,q2,q3,q4,fv];exact .back (by simp)
  ·rw[not_or]at h1;obtain⟨a1,a2,a3⟩:=N4 (C4.2 h1.1);obtain⟨b1,b2,b3⟩:=N4 (C4.2 h1.2);have hlit:g.lits=2*g.all:=rfl;generalize hx:a.toNat=x at*;generalize hy:b.toNat=y at*;subst a3;subst b3
   have q1:¬((g.lits:Int)<=x):=by omega
   have q2:¬((g.lits:Int)<=y):=by omega
   simp(disch:=omega) [hc,e2,q1,q2];refine .bd 60 (abW g ok hf.2.2.1 _ (by intro m hm;simp at hm⊢;omega)) ?_;simp
   have hE0:g.jA (x:Int) (y:Int)=if 4000<g.ins+g.next.length+(bI g.first g.ands x y).1.length then 8 else 0:=by
    unfold Gr.jA;rw[if_neg (by simp[hc]),if_neg (by rw[not_or];exact h1),fB,fB]
   cases hK:kF (max x y) (min x y)with
   |some c=>
    have hG:bI g.first g.ands x y=(g.ands,c):=by unfold bI;rw[hK]
    have hE:=hE0;rw[hG]at hE;refine .bd 60 (OA x y c (by omega) (by omega) hK _ _) ?_;simp;refine .call 60 (by simp) (rp (Γ:=Γ) (g.iI g.ands) ⟨hf.1,hf.2.1,by first|exact hf.2.2.1|(simp;have:=hf.2.2.1;omega),hf.2.2.2⟩) ?_
    by_cases q8:(g.iI g.ands).check=8
    ·have k1:=hE;rw[if_pos ((tF ok g.ands (by simp)).1 q8)]at k1
     have k2:g.eg (x:Int) (y:Int)=fv:=by unfold Gr.eg;rw[k1,if_neg (by omega)]
     have k3:g.eV (x:Int) (y:Int)=0:=by unfold Gr.eV;rw[k1,if_neg (by omega)]
     rw[k1,k2,k3];simp[q8,fv];exact .back (by simp)
    ·have k1:=hE;rw[if_neg (fun hh=>q8 ((tF ok g.ands (by simp)).2 hh))]at k1
     have k2:g.eg (x:Int) (y:Int)=g.iI g.ands:=by unfold Gr.eg;rw[k1,if_pos rfl];simp[hG]
     have k3:(g.eV (x:Int) (y:Int):Int)=(bI g.first g.ands x y).2:=by unfold Gr.eV;rw[k1,if_pos rfl];simp
     rw[k1,k2,k3,hG];simp[q8];exact .back (by simp)
   |none=>
    have hG:=Lh g.NO hK;have hE:=hE0
    have key:=OP (Γ:=Γ) (p:=[cz g,.cells [.int .i64 0,.sl 2 0 0,.sl 3 0 0,.sl 4 0 0,.sl 5 0 0],.row 1 an [] none true false,.row 1 an [] none true false,.row 2 cM [] none true false,.row 1 an [] none true false,cz g]) (q:=[])
     (x1:=.list false g.kn (g.next.map i64)) (x2:=.list false g.ki (g.init.map i64)) (x4:=.list false g.ko (g.outs.map i64)) (come:=.list true 0 []) g o1 (by omega) g.ands (by omega) g.ba g.NO x y (by omega) (by omega) hK (fun s=>by simp) (fun s=>by simp) (fun s=>by simp)
    cases hF:fO (((max x y:Nat):Int),((min x y:Nat):Int)) g.ba with
    |some c=>
     rw[hF]at hG key;simp only at hG key;rw[hG]at hE;simp at key;refine .bd 60 key ?_;simp;refine .call 60 (by simp) (rp (Γ:=Γ) (g.iI g.ands) ⟨hf.1,hf.2.1,by first|exact hf.2.2.1|(simp;have:=hf.2.2.1;omega),hf.2.2.2⟩) ?_
     by_cases q8:(g.iI g.ands).check=8
     ·have k1:=hE;rw[if_pos ((tF ok g.ands (by simp)).1 q8)]at k1
      have k2:g.eg (x:Int) (y:Int)=fv:=by unfold Gr.eg;rw[k1,if_neg (by omega)]
      have k3:g.eV (x:Int) (y:Int)=0:=by unfold Gr.eV;rw[k1,if_neg (by omega)]
      rw[k1,k2,k3];simp[q8,fv];exact .back (by simp)
     ·have k1:=hE;rw[if_neg (fun hh=>q8 ((tF ok g.ands (by simp)).2 hh))]at k1
      have k2:g.eg (x:Int) (y:Int)=g.iI g.ands:=by unfold Gr.eg;rw[k1,if_pos rfl];simp[hG]
      have k3:(g.eV (x:Int) (y:Int):Int)=(bI g.first g.ands x y).2:=by unfold Gr.eV;rw[k1,if_pos rfl];simp
      rw[k1,k2,k3,hG];simp[q8];exact .back (by simp)
    |none=>
     rw[hF]at hG key;simp only at hG key;rw[hG]at hE;simp at key;refine .bd 60 key ?_;generalize hnew:(((max x y:Nat):Int),((min x y:Nat):Int))=new at*;simp;refine .call 60 (by simp;rw[cS (by simp)]) (rp (Γ:=Γ) (g.iI (g.ands++[new])) ⟨hf.1,hf.2.1,by first|exact hf.2.2.1|(simp;have:=hf.2.2.1;omega),hf.2.2.2⟩) ?_
     by_cases q8:(g.iI (g.ands++[new])).check=8
     ·have k1:=hE;rw[if_pos ((tF ok (g.ands++[new]) (by simp)).1 q8)]at k1
      have k2:g.eg (x:Int) (y:Int)=fv:=by unfold Gr.eg;rw[k1,if_neg (by omega)]
      have k3:g.eV (x:Int) (y:Int)=0:=by unfold Gr.eV;rw[k1,if_neg (by omega)]
      rw[k1,k2,k3];simp[q8,fv];exact .back (by simp)
     ·have k1:=hE;rw[if_neg (fun hh=>q8 ((tF ok (g.ands++[new]) (by simp)).2 hh))]at k1
      have k2:g.eg (x:Int) (y:Int)=g.iI (g.ands++[new]):=by unfold Gr.eg;rw[k1,if_pos rfl];simp[hG]
      have k3:(g.eV (x:Int) (y:Int):Int)=(bI g.first g.ands x y).2:=by unfold Gr.eV;rw[k1,if_pos rfl];simp
      rw[k1,k2,k3,hG];simp[q8];exact .back (by simp;rw[cS (by simp)])
 ·have h1:g.jA a b=g.check:=by unfold Gr.jA;rw[if_pos hc]
  have h2:g.eg a b=fv:=by unfold Gr.eg;rw[h1,if_neg hc]
  have h3:g.eV a b=0:=by unfold Gr.eV;rw[h1,if_neg hc]
  simp[hc,h1,h2,h3,fv];exact .back (by simp)
theorem Ju(l:List Int){k:Nat}(hk:Kd 1 k l)(hl:l.length<2^40):aP Tryz.prog Γ y7 [.list false k (l.map i64)] (.own 1 an (l.map i64)):=by
 refine .run 60 TH (by simp) ?_
 cases l with
 |nil=>
  simp;refine .either 0 (by simp) (fun b=>?_)
  cases b
  ·refine .go 9 ?_;simp;refine .qd 2 1 an rfl (by omega) ?_;refine .go 60 ?_;simp;exact .back (by simp)
  ·refine .go 60 ?_;simp;exact .back (by simp)
 |cons x xs=>
  have hk0:k=1:=by
   rcases hk with h|h
   ·exact h
   ·cases h
  subst hk0;simp at hl;simp(disch:=(first|omega|(simp;omega)));exact .back (by simp)
theorem O5{p q:List Ob}{x1 x2 x4 come:AV}(g:Gr)(hi:0<=g.ins/\g.ins<=4000)(hn:g.next.length<=4000)(l:List (Int×Int))(hl:l.length<2^20)(es:List ((Int×Int)×Nat))(he:jz g.first l es)(a b:Nat)(ha:a<2^20)(hb:b<2^20)
 (hx1:∀s,view (p++s) x1=some (.list false g.kn (g.next.map i64)))(hx2:∀s,view (p++s) x2=some (.list false g.ki (g.init.map i64)))(hx4:∀s,view (p++s) x4=some (.list false g.ko (g.outs.map i64))):
 ∃(es':List ((Int×Int)×Nat))(gr:Option Nat)(junk:List Ob),jz g.first (bI g.first l a b).1 es'/\(gr=none\/gr=some 0)/\(junk=[]\/∃x y:Int,junk=[.cells [.int .i64 x,.int .i64 y]])/\
 ∀up,AM.Reach Tryz.prog Γ (.cl pS [.ptr (p.length+1) 0,.int .i64 a,.int .i64 b] up (p++.map (es.map gy) true::xe g x1 x2 x4 (p.length+2) l.length p.length come::.row 2 cM (l.map cN) none true false::q))
  (.back up (.int .i64 ((bI g.first l a b).2:Nat)) (p++.map (es'.map gy) true::xe g x1 x2 x4 (p.length+2) (bI g.first l a b).1.length p.length come::.row 2 cM ((bI g.first l a b).1.map cN) gr true false::(q++junk))):=by
 cases hK:kF (max a b) (min a b)with
 |some c=>
  have hG:bI g.first l a b=(l,c):=by unfold bI;rw[hK]
  rw[hG];exact⟨es,none,[],he,.inl rfl,.inl rfl,fun up=>by rw[fZ];exact OA a b c ha hb hK _ _ up⟩
 |none=>
  have hG:=Lh he hK;have key:=OP (Γ:=Γ) (p:=p) (q:=q) (come:=come) g hi hn l hl es he a b ha hb hK hx1 hx2 hx4
  cases hF:fO (((max a b:Nat):Int),((min a b:Nat):Int)) es with
  |some c=>
   rw[hF]at hG key;simp only at hG key;rw[hG];exact⟨es,none,_,he,.inl rfl,.inr ⟨((max a b:Nat):Int),((min a b:Nat):Int),rfl⟩,key⟩
  |none=>
   rw[hF]at hG key;simp only at hG key;rw[hG];refine⟨_,some 0,_,MP he hF,.inr rfl,.inr ⟨((max a b:Nat):Int),((min a b:Nat):Int),rfl⟩,fun up=>?_⟩;have:=key up;simp only[bR,bP,dh,iM];exact this
theorem F0{x a:Nat}(hx:(x:Int)<2^60):gv .xor .i64 (x:Int) ((a%2:Nat):Int)=some ((x^^^(a%2):Nat):Int):=by
 rcases(show a%2=0\/a%2=1 by omega)with h|h
 ·rw[h,C5]
  have h1:(BitVec.ofInt 64 (x:Int)^^^BitVec.ofInt 64 ((0:Nat):Int)).toNat=x:=by
   have e1:BitVec.ofInt 64 ((0:Nat):Int)=0#64:=by decide
   rw[e1,BitVec.xor_zero,SD];omega
  show some (IntKind.i64.wrap ((BitVec.ofInt 64 (x:Int)^^^BitVec.ofInt 64 ((0:Nat):Int)).toNat:Int))=_
  rw[h1,Bn (by omega)]
 ·rw[h];exact afh x hx
def bp(to:List Nat)(a:Nat):Nat:=to.getD (a/2) 0^^^(a%2)
def ea(to:List Nat)(l:List Int):List Nat:=l.map fun a=>bp to a.toNat
@[simp] theorem azg(to:List Nat)(l:List Int):(ea to l).length=l.length:=by simp[ea]
theorem Ly{to:List Nat}{l:List Int}{i:Nat}(h:i<l.length):ea to (l.take (i+1))=ea to (l.take i)++[bp to l[i].toNat]:=by
 rw[k5 h];simp only[ea,kZ,b9,mC]
section
variable{c0 c1 c2 c3 c4 c5:AV}
theorem uw(to:List Nat)(hto:∀x∈to,x<2^40)(a:Nat)(h1:a/2<to.length)(ha:(a:Int)<2^60)(b r:Nat){E:TypeId}{gr:Option Nat}{fl sh:Bool}{h:List Ob}(hb:h[b]? =some (.cells [c0,c1,c2,c3,c4,c5,.sl r 0 to.length]))(hr:h[r]? =some (.row 1 E (to.map iN) gr fl sh))(hok:cF (to.map iN) gr 0 to.length=true):
 ∀up,AM.Reach Tryz.prog Γ (.cl nu [.ptr b 0,.int .i64 a] up h) (.back up (.int .i64 (bp to a)) h):=by
 intro up
 have h3:((a/2:Nat):Int)<to.length:=by omega
 have h4:=hto _ (bC h1)
 have h5:to.getD (a/2) 0=to[a/2]:=by rw[bo,bg h1];rfl
 have h6:=F0 (x:=to[a/2]) (a:=a) (by omega);refine .bF 60 T9 ?_;unfold bp;rw[h5];simp(disch:=omega) [-Int.natCast_ediv,-Int.natCast_emod,-cF,hok,hb,hr,h1,h3,h6]
end
set_option maxRecDepth 8000 in
theorem Pa(to:List Nat)(hto:∀x∈to,x<2^40)(l:List Int){k:Nat}(hk:Kd 1 k l)(hl:l.length<2^40)(hlt:∀a∈l,0<=a/\a<2*to.length)(hbt:to.length<2^40){c0 c1 c2 c3 c4 c5:AV}(b r:Nat){E:TypeId}{h:List Ob}(hb:h[b]? =some (.cells [c0,c1,c2,c3,c4,c5,.sl r 0 to.length]))(hr:h[r]? =some (.row 1 E (to.map iN) none true false))
 (hv:∀m,cH (h.length+1) m h=true):
 ∀up,AM.Reach Tryz.prog Γ (.cl rk [.ptr b 0,.list false k (l.map i64)] up h) (.back up (.sl (h.length+1) 0 l.length) (h++[.row 1 an [] none true false,.row 1 an ((ea to l).map iN) none true false])):=by
 intro up
 have hb':∀os,(h++os)[b]? =some (.cells [c0,c1,c2,c3,c4,c5,.sl r 0 to.length]):=fun os=>fE hb os
 have hr':∀os,(h++os)[r]? =some (.row 1 E (to.map iN) none true false):=fun os=>fE hr os
 have key:∀n j:Nat,j+n=l.length->∀w,w=ea to (l.take j)->AM.Reach Tryz.prog Γ (Rk (.sl (h.length+1) 0 w.length) (.fn (.func nu) [.ptr b 0] []) (.list false k (l.map i64)) (.int .i64 l.length) (.int .i64 j)
  (h++[.row 1 an [] none true false,.row 1 an (w.map iN) none true false]) ⟨[],.norm,h.length,up⟩) (.back up (.sl (h.length+1) 0 l.length) (h++[.row 1 an [] none true false,.row 1 an ((ea to l).map iN) none true false])):=by
  intro n
  induction n with
  |zero=>
   intro j hj w hw
   have q1:¬j<l.length:=by omega
   rw[cS (by omega)]at hw;subst hw;refine .bf 60 ?_;simp[q1]
  |succ n ih=>
   intro j hj w hw
   have q1:j<l.length:=by omega
   have q2:=cv (hk.of q1);obtain⟨a1,a2⟩:=hlt l[j] (bC q1);obtain⟨x,hx⟩:=k6 a1
   have hwl:w.length=j:=by rw[hw];simp;omega
   have hh:=ih (j+1) (by omega) _ rfl;rw[Ly q1,<-hw,hx]at hh;simp only[fB]at hh;have hc:=uw (Γ:=Γ) to hto x (by omega) (by omega) b r (hb' [.row 1 an [] none true false,.row 1 an (w.map iN) none true false]) (hr' _) (by simp);refine .bf 60 ?_;simp(disch:=omega) [q1,q2,hx];refine .bd 60 hc ?_;simp(disch:=(first|omega|(simp;omega))) [q1,q2];refine .aL ?_;simp;refine .qb (i:=h.length+1) (by simp;exact⟨rfl,rfl,rfl,rfl,rfl⟩) (by simp) (by simp) (by simp[hv]) ?_;simp at hh⊢;exact hh
 refine .bF 60 Jy ?_;simp;refine .inLoop ?_;have hh:=key l.length 0 (by omega) [] (by simp[ea]);simp at hh⊢;exact hh
set_option maxRecDepth 8000 in
theorem OD(to:List Nat)(hto:∀x∈to,x<2^40)(l:List Int)(hl:l.length<2^40)(hlt:∀a∈l,0<=a/\a<2*to.length)(hbt:to.length<2^40){c0 c1 c2 c3 c4 c5:AV}(b r qq:Nat){E E2:TypeId}{h:List Ob}(hb:h[b]? =some (.cells [c0,c1,c2,c3,c4,c5,.sl r 0 to.length]))(hr:h[r]? =some (.row 1 E (to.map iN) none true false))
 (hq:h[qq]? =some (.row 1 E2 (l.map i64) none true false))(hv:∀m,cH (h.length+1) m h=true):
 ∀up,AM.Reach Tryz.prog Γ (.cl rk [.ptr b 0,.sl qq 0 l.length] up h) (.back up (.sl (h.length+1) 0 l.length) (h++[.row 1 an [] none true false,.row 1 an ((ea to l).map iN) none true false])):=by
 intro up
 have hb':∀os,(h++os)[b]? =some (.cells [c0,c1,c2,c3,c4,c5,.sl r 0 to.length]):=fun os=>fE hb os
 have hr':∀os,(h++os)[r]? =some (.row 1 E (to.map iN) none true false):=fun os=>fE hr os
 have hql:¬qq=h.length+1:=by have:=aV hq;omega
 have hq':∀os,(h++os)[qq]? =some (.row 1 E2 (l.map i64) none true false):=fun os=>fE hq os
 have key:∀n j:Nat,j+n=l.length->∀w,w=ea to (l.take j)->AM.Reach Tryz.prog Γ (Rk (.sl (h.length+1) 0 w.length) (.fn (.func nu) [.ptr b 0] []) (.sl qq 0 l.length) (.int .i64 l.length) (.int .i64 j)
  (h++[.row 1 an [] none true false,.row 1 an (w.map iN) none true false]) ⟨[],.norm,h.length,up⟩) (.back up (.sl (h.length+1) 0 l.length) (h++[.row 1 an [] none true false,.row 1 an ((ea to l).map iN) none true false])):=by
  intro n
  induction n with
  |zero=>
   intro j hj w hw
   have q1:¬j<l.length:=by omega
   rw[cS (by omega)]at hw;subst hw;refine .bf 60 ?_;simp[q1]
  |succ n ih=>
   intro j hj w hw
   have q1:j<l.length:=by omega
   obtain⟨a1,a2⟩:=hlt l[j] (bC q1);obtain⟨x,hx⟩:=k6 a1
   have hwl:w.length=j:=by rw[hw];simp;omega
   have hh:=ih (j+1) (by omega) _ rfl;rw[Ly q1,<-hw,hx]at hh;simp only[fB]at hh;have hc:=uw (Γ:=Γ) to hto x (by omega) (by omega) b r (hb' [.row 1 an [] none true false,.row 1 an (w.map iN) none true false]) (hr' _) (by simp);refine .bf 60 ?_;simp(disch:=omega) [q1,hq',hx];refine .bd 60 hc ?_;simp(disch:=(first|omega|(simp;omega))) [q1,hq'];refine .aL ?_;simp;refine .qb (i:=h.length+1) (by simp;exact⟨rfl,rfl,rfl,rfl,rfl⟩) (by simp) (by simp[hql]) (by simp[hv]) ?_;simp at hh⊢;exact hh
 refine .bF 60 Jy ?_;simp;refine .inLoop ?_;have hh:=key l.length 0 (by omega) [] (by simp[ea]);simp at hh⊢;exact hh
abbrev pa(x:Nat×List Int):AV:=.list false x.1 (x.2.map i64)
def cA:List (Nat×List Int)->List Int
 |[]=>[]
 |x::xs=>x.2++cA xs
theorem J7(a b:List (Nat×List Int)):cA (a++b)=cA a++cA b:=by
 induction a with
 |nil=>rfl
 |cons x a ih=>simp[cA,ih]
theorem Lj(xs:List (Nat×List Int))(i:Nat)(h:i<xs.length):cA (xs.take (i+1))=cA (xs.take i)++xs[i].2:=by
 rw[k5 h,J7];simp[cA]
theorem NR(xs:List (Nat×List Int))(i:Nat):(cA (xs.take i)).length<=(cA xs).length:=by
 conv=>rhs;rw[<-ng i xs,J7]
 simp
set_option maxRecDepth 8000 in
theorem TC(xs:List (Nat×List Int))(hk:∀x∈xs,Kd 1 x.1 x.2)(hn:xs.length<2^40)(hs:(cA xs).length<2^40)(hp:0<(cA xs).length):
 aP Tryz.prog Γ pR [.list false 1 (xs.map pa)] (.own 1 an ((cA xs).map i64)):=by
 refine .run 60 Jt (by simp) ?_
 have key2:∀n i:Nat,i+n=xs.length->∀m:Nat,(cA (xs.take i)).length+m=(cA xs).length->
  ay Tryz.prog Γ (QV (.sl 2 0 (cA (xs.take i)).length) (.list false 1 (xs.map pa)) (.int .i64 xs.length) (.int .i64 i) [.row 1 an [] none true false,.row 1 an [] none true false,.row 1 an ((cA (xs.take i)).map i64++List.replicate m (AV.int .i64 0)) none true false])
   (.ret (.own 1 an ((cA xs).map i64))):=by
  intro n
  induction n with
  |zero=>
   intro i hi m hm
   have q1:¬i<xs.length:=by omega
   have q2:xs.take i=xs:=cS (by omega);rw[q2]at hm⊢
   have hm0:m=0:=by omega
   subst hm0;refine .go 60 ?_;simp[q1];exact .back (by simp)
  |succ n ih=>
   intro i hi m hm
   have q1:i<xs.length:=by omega
   have q2:=Lj xs i q1;have q3:=NR xs (i+1);rw[q2,bR]at q3;have q4:=hk xs[i] (bC q1);have q5:xs[i].1=1\/xs[i].2=[]:=q4;have hh:=ih (i+1) (by omega) (m-xs[i].2.length) (by rw[q2,bR];omega);rw[q2]at hh
   have hd:(List.replicate m (AV.int .i64 0)).drop xs[i].2.length=List.replicate (m-xs[i].2.length) (AV.int .i64 0):=by simp
   refine .go 60 ?_
   by_cases q6:(cA (xs.take i)).length=(cA xs).length
   ·have q7:xs[i].2=[]:=kU.1 (by omega)
    have hm0:m=0:=by omega
    subst hm0;simp[q7]at hh;simp(disch:=(first|omega|(simp;omega))) [q1,q5,q7];refine .aL ?_;simp;exact hh
   ·simp(disch:=(first|omega|(simp;omega))) [q1,q5]
    by_cases q7:m=0
    ·omega
    ·have c1:¬(cA (List.take i xs)).length=(cA (List.take i xs)).length+m:=by omega
     have c2:(cA (List.take i xs)).length+xs[i].snd.length<=(cA (List.take i xs)).length+m:=by omega
     simp(disch:=(first|omega|(simp;omega))) [q1,q5,c1,c2,q7];refine .aL ?_;have n9:((cA (xs.take i)).map i64).drop ((cA (xs.take i)).length+xs[i].2.length)=[]:=bw (by simp);simp[u6,hd,n9]at hh⊢;exact hh
 have key1:∀n i:Nat,i+n=xs.length->
  ay Tryz.prog Γ (PQ (.list false 1 (xs.map pa)) (.int .i64 (cA (xs.take i)).length) (.list false 1 (xs.map pa)) (.int .i64 xs.length) (.int .i64 i) [.row 1 an [] none true false])
   (.ret (.own 1 an ((cA xs).map i64))):=by
  intro n
  induction n with
  |zero=>
   intro i hi
   have q1:¬i<xs.length:=by omega
   have q2:xs.take i=xs:=cS (by omega);have q3:0<(cA xs).length:=hp;have hh:=key2 xs.length 0 (by omega) (cA xs).length (by simp[cA]);refine .go 60 ?_;rw[q2];simp[q1];refine .enter 60 Jv ?_
   have q4:¬(cA xs).length=0:=by omega
   have q5:cA xs≠[]:=fun e=>by rw[e]at hp;simp at hp
   obtain⟨m,hm⟩:∃m,(cA xs).length=m+1:=⟨(cA xs).length-1,by omega⟩
   have hrep:List.replicate (cA xs).length (AV.int .i64 0)=(AV.int .i64 0)::List.replicate m (AV.int .i64 0):=by rw[hm];rfl
   simp(disch:=(first|omega|(simp;omega))) [q3,q4,q5,hrep];refine .inLoop ?_;simp[cA,hrep]at hh⊢;exact hh
  |succ n ih=>
   intro i hi
   have q1:i<xs.length:=by omega
   have q2:=Lj xs i q1;have q3:=NR xs (i+1);rw[q2,bR]at q3;have hh:=ih (i+1) (by omega);rw[q2]at hh;refine .go 60 ?_
   have q4:¬((cA (xs.take i)).length:Int)+xs[i].2.length<0:=by omega
   simp(disch:=(first|omega|(simp;omega))) [q1,q4];refine .aL ?_;simp at hh⊢;exact hh
 simp;refine .inLoop ?_;have hh:=key1 xs.length 0 (by omega);simp[cA]at hh⊢;exact hh
set_option maxRecDepth 8000 in
theorem Tj(xs:List (Nat×List Int))(hx:∀x∈xs,x.2=[])(hn:xs.length<2^40):
 aP Tryz.prog Γ pR [.list false 1 (xs.map pa)] (.own 1 an []):=by
 refine .run 60 Jt (by simp) ?_
 have key2:∀n i:Nat,i+n=xs.length->ay Tryz.prog Γ (QV (.list true 0 []) (.list false 1 (xs.map pa)) (.int .i64 xs.length) (.int .i64 i) [.row 1 an [] none true false,.row 1 an [] none true false])
  (.ret (.own 1 an [])):=by
  intro n
  induction n with
  |zero=>
   intro i hi
   have q1:¬i<xs.length:=by omega
   refine .qd 6 1 an rfl (by omega) ?_;refine .go 60 ?_;simp[q1];exact .back (by simp)
  |succ n ih=>
   intro i hi
   have q1:i<xs.length:=by omega
   have q7:=hx xs[i] (bC q1);have hh:=ih (i+1) (by omega);refine .go 60 ?_;simp(disch:=(first|omega|(simp;omega))) [q1,q7];refine .aL ?_;simp at hh⊢;exact hh
 have key:∀n i:Nat,i+n=xs.length->ay Tryz.prog Γ (PQ (.list false 1 (xs.map pa)) (.int .i64 0) (.list false 1 (xs.map pa)) (.int .i64 xs.length) (.int .i64 i) [.row 1 an [] none true false])
  (.ret (.own 1 an [])):=by
  intro n
  induction n with
  |zero=>
   intro i hi
   have q1:¬i<xs.length:=by omega
   refine .go 60 ?_;simp[q1];refine .enter 60 Jv ?_;simp;refine .inLoop ?_;have hh:=key2 xs.length 0 (by omega);simp at hh⊢;exact hh
  |succ n ih=>
   intro i hi
   have q1:i<xs.length:=by omega
   have q7:=hx xs[i] (bC q1);have hh:=ih (i+1) (by omega);refine .go 60 ?_;simp(disch:=(first|omega|(simp;omega))) [q1,q7];refine .aL ?_;simp at hh⊢;exact hh
 simp;refine .inLoop ?_;have hh:=key xs.length 0 (by omega);simp at hh⊢;exact hh
theorem TE(xs:List (Nat×List Int))(hk:∀x∈xs,Kd 1 x.1 x.2)(hn:xs.length<2^40)(hs:(cA xs).length<2^40):
 aP Tryz.prog Γ pR [.list false 1 (xs.map pa)] (.own 1 an ((cA xs).map i64)):=by
 rcases SB (cA xs).length with h|h
 ·have h0:cA xs=[]:=kU.1 h
  have hx:∀x∈xs,x.2=[]:=by
   clear hk hn hs h
   induction xs with
   |nil=>simp
   |cons y ys ih=>
    simp only[cA,SG]at h0;intro x hx
    rcases bt.1 hx with rfl|hx
    ·exact h0.1
    ·exact ih h0.2 x hx
  rw[h0];exact Tj xs hx hn
 ·exact TC xs hk hn hs h
def ia:List Int->List Bool->List Bool
 |[],v=>v
 |a::l,v=>ia l (v.set (a.toNat/2) true)
def iz(ands:List (Int×Int))(first:Nat):Nat->List Bool->List Bool
 |0,v=>v
 |i+1,v=>iz ands first i (if v.getD (first+i) false=true then(v.set ((ands.getD i (0,0)).1.toNat/2) true).set ((ands.getD i (0,0)).2.toNat/2) true else v)
def Gr.aX(g:Gr):List Bool:=iz g.ands g.first g.ands.length (ia (g.next++g.outs) (List.replicate g.all false))
theorem wj:∀(l:List Int)(v:List Bool),(ia l v).length=v.length
 |[],v=>rfl
 |a::l,v=>by rw[ia,wj l,jg]
theorem Lk(ands:List (Int×Int))(first:Nat):∀(i:Nat)(v:List Bool),(iz ands first i v).length=v.length
 |0,v=>rfl
 |i+1,v=>by rw[iz,Lk ands first i];split<;>simp
theorem JP:∀(a b:List Int)(v:List Bool),ia (a++b) v=ia b (ia a v)
 |[],b,v=>rfl
 |x::a,b,v=>by rw[eP,ia,ia,JP a b]
abbrev afc:List (List Nat):=[[0,1,2,3,4,5,6,7,8],[0,1,2,3,4,5,7,6,8],[0,1,2,3,4,7,5,6,8],[0,1,2,3,7,4,5,6,8],[0,1,2,7,3,4,5,6,8],[0,1,7,2,3,4,5,6,8],[0,2,1,3,4,5,6,7,8],[0,2,1,3,4,5,7,6,8],[0,2,1,3,4,7,5,6,8],[0,2,1,3,7,4,5,6,8],[0,2,1,7,3,4,5,6,8],[0,2,3,1,4,5,6,7,8],[0,2,3,1,4,5,7,6,8],[0,2,3,1,4,7,5,6,8],[0,2,3,1,7,4,5,6,8],[0,2,3,4,1,5,6,7,8],[0,2,3,4,1,5,7,6,8],[0,2,3,4,1,7,5,6,8],[0,2,3,4,7,1,5,6,8],[0,2,3,7,1,4,5,6,8],[0,2,3,7,4,1,5,6,8],[0,2,7,1,3,4,5,6,8],[0,2,7,3,1,4,5,6,8],[0,2,7,3,4,1,5,6,8],[0,7,1,2,3,4,5,6,8],[0,7,2,1,3,4,5,6,8],[0,7,2,3,1,4,5,6,8],[0,7,2,3,4,1,5,6,8],[2,0,1,3,4,5,6,7,8],[2,0,1,3,4,5,7,6,8],[2,0,1,3,4,7,5,6,8],[2,0,1,3,7,4,5,6,8],[2,0,1,7,3,4,5,6,8],[2,0,3,1,4,5,6,7,8],[2,0,3,1,4,5,7,6,8],[2,0,3,1,4,7,5,6,8],[2,0,3,1,7,4,5,6,8],[2,0,3,4,1,5,6,7,8],[2,0,3,4,1,5,7,6,8],[2,0,3,4,1,7,5,6,8],[2,0,3,4,7,1,5,6,8],[2,0,3,7,1,4,5,6,8],[2,0,3,7,4,1,5,6,8],[2,0,7,1,3,4,5,6,8],[2,0,7,3,1,4,5,6,8],[2,0,7,3,4,1,5,6,8],[2,3,0,1,4,5,6,7,8],[2,3,0,1,4,5,7,6,8],[2,3,0,1,4,7,5,6,8],[2,3,0,1,7,4,5,6,8],[2,3,0,4,1,5,6,7,8],[2,3,0,4,1,5,7,6,8],[2,3,0,4,1,7,5,6,8],[2,3,0,4,7,1,5,6,8],[2,3,0,7,1,4,5,6,8],[2,3,0,7,4,1,5,6,8],[2,3,4,0,1,5,6,7,8],[2,3,4,0,1,5,7,6,8],[2,3,4,0,1,7,5,6,8],[2,3,4,0,7,1,5,6,8],[2,3,4,7,0,1,5,6,8],[2,3,7,0,1,4,5,6,8],[2,3,7,0,4,1,5,6,8],[2,3,7,4,0,1,5,6,8],[2,7,0,1,3,4,5,6,8],[2,7,0,3,1,4,5,6,8],[2,7,0,3,4,1,5,6,8],[2,7,3,0,1,4,5,6,8],[2,7,3,0,4,1,5,6,8],[2,7,3,4,0,1,5,6,8],[7,0,1,2,3,4,5,6,8],[7,0,2,1,3,4,5,6,8],[7,0,2,3,1,4,5,6,8],[7,0,2,3,4,1,5,6,8],[7,2,0,1,3,4,5,6,8],[7,2,0,3,1,4,5,6,8],[7,2,0,3,4,1,5,6,8],[7,2,3,0,1,4,5,6,8],[7,2,3,0,4,1,5,6,8],[7,2,3,4,0,1,5,6,8]]
theorem abz:fa [[],[0],[],[2],[3],[1,4],[5,5],[],[7,6,1,0,1,2,3,4,5,6,7]] 9 []=afc:=by decide+kernel
abbrev w9(g:Gr):List Fr:=[⟨.run,p1,[.jm 6,.inBlock 0 [],.code (.seq (.ae Ik) .ret)],
 [eW g,.ptr 0 0,U,.ptr 2 0,U,U,U,U,U,U,U,U,eW g,.sl 1 0 g.all,.fn (.func ou) [] [.ptr 3 0,.ptr 4 0],U,U,U,U,U,U],[.mark 5],.norm,0⟩]
abbrev uK(g:Gr)(v:List Bool):List Ob:=[cz g,.row 1 cD (v.map .bool) none true false,.cells [.sl 1 0 g.all],cz g,.cells [.sl 1 0 g.all],.bx true,
 .loop .ready .none p1 [U,U,U,.ptr 2 0,U,U,U,U,U,U,U,U,U,U,U,U,U,U,U,U,U] [15] (.ae Rt) Q9,.cells [.cV 6]]
set_option maxRecDepth 8000 in
theorem adK(g:Gr)(ok:g.Ok)(L:List Int)(hL:∀a∈L,0<=a/\a<g.lits)(hl:L.length<2^40){o:Out}(v0:List Bool)(hv0:v0.length=g.all)
 (hc:ay Tryz.prog Γ (IS (.ptr 3 0) (.ptr 4 0) (.ptr 7 0) (uK g (ia L v0)++[.row 1 an (L.map i64) none true false]) ⟨[],.norm,7,w9 g⟩) o):
 ∀n i:Nat,i+n=L.length->∀v,v=ia (L.take i) v0->ay Tryz.prog Γ (yyu (.ptr 3 0) (.ptr 4 0) (.ptr 7 0) (.sl 8 0 L.length) (.int .i64 L.length) (.int .i64 i) (uK g v++[.row 1 an (L.map i64) none true false]) ⟨[],.norm,7,w9 g⟩) o:=by
 intro n
 induction n with
 |zero=>
  intro i hi v hv;rw[cS (by omega)]at hv;subst hv
  have q1:¬i<L.length:=by omega
  refine .reach (.dN 60 (c':=IS (.ptr 3 0) (.ptr 4 0) (.ptr 7 0) (uK g (ia L v0)++[.row 1 an (L.map i64) none true false]) ⟨[],.norm,7,w9 g⟩) ?_) hc;simp[q1];exact .exit rfl rfl
 |succ n ih=>
  intro i hi v hv
  have q1:i<L.length:=by omega
  obtain⟨b1,b2⟩:=hL L[i] (bC q1);obtain⟨x,hx⟩:=k6 b1
  have hvl:v.length=g.all:=by rw[hv,wj,hv0]
  have hh:=ih (i+1) (by omega) (v.set (x/2) true) (by rw[k5 q1,JP,<-hv,ia,ia,hx];rfl);have e1:g.lits=2*g.all:=rfl;refine .go 60 ?_
  have q3:x/2<g.all:=by omega
  simp(disch:=omega) [q1,hx,jR,hvl,q3,-Int.natCast_ediv,-Int.natCast_emod];refine .aL ?_
  have e2:(v.map AV.bool).set (x/2) (.bool true)=(v.set (x/2) true).map AV.bool:=by rw[pL]
  rw[e2];simp[-List.map_set]at hh⊢;exact hh
abbrev ad7(g:Gr):List Fr:=⟨.run,ou,[.jm 11,.inBlock 2 []],[U,.ptr 3 0,.ptr 4 0,.ptr 7 0,U,U,U,U,U,U,U,U,U,U,U,U,U,U,U,U,U,U,U,U,
          .ptr 3 3,.list false g.ka (List.map cN g.ands),.fn (.func vr) [] [.ptr 9 0],U,U,U,U,U,U,U,U,U,U,U,U,U,U,U,U,U,U,U,U,U,U,U],[.mark 10],.norm,7⟩::w9 g
abbrev aen(g:Gr)(v:List Bool)(rest:Ob):List Ob:=uK g v++[rest,.cells [.list false g.ka (List.map cN g.ands)],.bx true,
 .loop .ready .none ou [U,.ptr 3 0,.ptr 4 0,.ptr 7 0,U,U,U,U,U,U,U,U,U,U,U,U,U,U,U,U,U,U,U,U,U,U,U,U,U,U,U,U,U,U,U,U,U,U,U,U,U,U,U,U,U,U,U,U,U,U] [27,28] GZ Hq]
abbrev BA(g:Gr)(v:List Bool)(rest:Ob)(x y:Nat):List Ob:=uK g v++[rest,.cells [.list false g.ka (List.map cN g.ands)],.bx true,
 .loop .busy .none ou [U,.ptr 3 0,.ptr 4 0,.ptr 7 0,U,U,U,U,U,U,U,U,U,U,U,U,U,U,U,U,U,U,U,U,U,U,U,U,U,U,U,U,U,U,U,U,U,U,U,U,U,U,U,U,U,U,U,U,U,U] [27,28] GZ Hq,
 .cells [.int .i64 x,.int .i64 y]]
theorem Oz(g:Gr)(v:List Bool)(hv:v.length=g.all)(rest:Ob)(x y z:Nat)(hz:z/2<g.all)(hz2:(z:Int)<2^40):∀up,AM.Reach Tryz.prog Γ ((jf.yl 6).cfg [.int .i64 z] up (BA g v rest x y)) (.back up (.bool true) (BA g (v.set (z/2) true) rest x y)):=by
 intro up;simp;refine .bf 60 ?_;simp(disch:=omega) [hv,hz,-Int.natCast_ediv,-Int.natCast_emod,-Int.natCast_add]
set_option maxRecDepth 8000 in
theorem adz(g:Gr)(ok:g.Ok)(L:List Int):∀i:Nat,i<=g.ands.length->∀v:List Bool,v.length=g.all->
 ay Tryz.prog Γ (yDx (.cV 11) (.ptr 9 0) (.int .i64 ((i:Int)-1)) (aen g v (.row 1 an (L.map i64) none true false)) ⟨[],.norm,12,ad7 g⟩) (.ret (.own 1 cD ((iz g.ands g.first i v).map .bool))):=by
 have o1:=ok.ins;have o3:=ok.sum;have hf:=oz (Γ:=Γ) g o1.1 o1.2 (by omega);intro i
 induction i with
 |zero=>
  intro hi v hv;refine .go 60 ?_;simp;exact .back (by simp[iz,hv])
 |succ i ih=>
  intro hi v hv
  have q1:i<g.ands.length:=by omega
  have e0:((i+1:Nat):Int)-1=i:=by omega
  rw[e0];obtain⟨⟨b1,b2⟩,b3,b4⟩:=ok.ands i q1;obtain⟨x,hx⟩:=k6 b1;obtain⟨y,hy⟩:=k6 b3;have q2:=cv (g.ha.of q1);refine .go 60 ?_;simp(disch:=omega) [q1,q2,jR];refine .dr 60 ?_;simp(disch:=omega) [q1,q2];refine .call (by simp) hf ?_
  have e1:(g.first:Int)+i=((g.first+i:Nat):Int):=by omega
  have q3:g.first+i<v.length:=by rw[hv];unfold Gr.all;omega
  have q4:g.first+i<g.all:=by omega
  have hfb:g.first<=8001:=by unfold Gr.first;omega
  have q5:x/2<g.all:=by omega
  have q6:y/2<g.all:=by omega
  rw[iz,bo,bg q3,jj,bo,bg q1,jj,hx,hy];simp only[fB]
  by_cases hb:v[g.first+i]=true
  ·rw[if_pos hb];have hh:=ih (by omega) ((v.set (x/2) true).set (y/2) true) (by simp[hv]);simp(disch:=omega) [e1,q3,q4,hb,hv,hx,hy,q5,-Int.natCast_ediv,-Int.natCast_emod,-Int.natCast_add];have k1:=Oz (Γ:=Γ) g v hv (.row 1 an (L.map i64) none true false) x y x q5 (by omega);have k2:=Oz (Γ:=Γ) g (v.set (x/2) true) (by simp[hv]) (.row 1 an (L.map i64) none true false) x y y q6 (by omega);refine .go (.bool true) (BA g (v.set (x/2) true) (.row 1 an (L.map i64) none true false) x y) k1 ?_;simp(disch:=omega) [hb,hv,hx,hy,q5,q6,-List.map_set,-Int.natCast_ediv,-Int.natCast_emod,-Int.natCast_add];refine .go (.bool true) (BA g ((v.set (x/2) true).set (y/2) true) (.row 1 an (L.map i64) none true false) x y) k2 ?_;simp(disch:=omega) [hb,hv,hx,hy,q5,q6,-List.map_set,-Int.natCast_ediv,-Int.natCast_emod,-Int.natCast_add];refine .aL ?_;simp
   refine .drop 12 rfl (by simp) (by simp) (by simp) ?_;simp[e0]at hh⊢;exact hh
  ·rw[if_neg hb];have hh:=ih (by omega) v hv;simp(disch:=omega) [e1,q3,q4,hb,hv,-Int.natCast_add];refine .aL ?_;simp;refine .drop 12 rfl (by simp) (by simp) (by simp) ?_;simp[e0]at hh⊢;exact hh
set_option maxRecDepth 8000 in
theorem ad1(g:Gr)(ok:g.Ok)(v0:List Bool)(hv0:v0.length=g.all)(L:List Int):ay Tryz.prog Γ (IS (.ptr 3 0) (.ptr 4 0) (.ptr 7 0) (uK g v0++[.row 1 an (L.map i64) none true false]) ⟨[],.norm,7,w9 g⟩) (.ret (.own 1 cD ((iz g.ands g.first g.ands.length v0).map .bool))):=by
 have o3:=ok.sum;have o1:=ok.ins;refine .go 60 ?_;simp;refine .enter 60 S9 ?_;simp;refine .enter 60 S5 ?_;simp(disch:=omega);refine .inLoop ?_;have hh:=adz (Γ:=Γ) g ok L g.ands.length (by omega) v0 hv0;simp at hh⊢;exact hh
set_option maxRecDepth 8000 in
theorem aeu(g:Gr)(ok:g.Ok):ay Tryz.prog Γ (.fr ⟨.run,p1,[.ops [],.code (.seq (.seq (.ae Q1) (.block 0 [] QL)) (.seq (.ae Ik) .ret))],
 [eW g,.ptr 0 0,U,.ptr 2 0,U,U,U,U,U,U,U,U,U,U,U,U,U,U,U,U,U],[],.norm,0⟩ [] [cz g,.row 1 cD (List.replicate g.all (.bool false)) none true false,.cells [.sl 1 0 g.all]]) (.ret (.own 1 cD (g.aX.map .bool))):=by
 have o1:=ok.ins;have o3:=ok.sum;refine .go 60 ?_;simp;refine .enter 60 Vh ?_;simp;refine .enter 60 UL ?_;simp
 have hcat:=TE (Γ:=Γ) [(g.kn,g.next),(g.ko,g.outs)] (by
  intro x hx;simp only[bt,pO,pG]at hx
  rcases hx with rfl|rfl
  ·exact g.hn
  ·exact g.ho) (by simp) (by simp[cA];have:=ok.mc;omega)
 simp[cA]at hcat;refine .call 60 (by simp) hcat ?_;simp;refine .inLoop ?_
 have hL:∀a∈g.next++g.outs,0<=a/\a<(g.lits:Int):=by
  intro a ha
  rcases bl.1 ha with ha|ha
  ·exact ok.next a ha
  ·exact ok.outs a ha
 have hh:=adK (Γ:=Γ) g ok (g.next++g.outs) hL (by simp;have:=ok.mc;omega) (List.replicate g.all false) (by simp)
  (ad1 g ok _ (by rw[wj];simp) _) (g.next++g.outs).length 0 (by omega) _ rfl
 simp[ia]at hh⊢;exact hh
set_option maxRecDepth 20000 in
set_option maxHeartbeats 2000000 in
theorem Ll(g:Gr)(ok:g.Ok):aP Tryz.prog Γ p1 [eW g] (.own 1 cD (g.aX.map .bool)):=by
 have o1:=ok.ins;have o3:=ok.sum;refine .run 60 Yk (by simp) ?_;simp;refine .ogO 60 ?_;simp only[bP,dh,iM,Nat.reduceAdd,abz];have hf:=oz (Γ:=Γ) g o1.1 o1.2 (by omega)
 have e1:(g.first:Int)+g.ands.length=(g.all:Int):=by unfold Gr.all;omega
 have hall:g.all<=12001:=by unfold Gr.all Gr.first;omega
 have hgen:=aeu (Γ:=Γ) g ok;intro l hl;simp only[bt,pO,pG]at hl
 rcases hl with rfl|rfl|rfl|rfl|rfl|rfl|rfl|rfl|rfl|rfl|rfl|rfl|rfl|rfl|rfl|rfl|rfl|rfl|rfl|rfl|rfl|rfl|rfl|rfl|rfl|rfl|rfl|rfl|rfl|rfl|rfl|rfl|rfl|rfl|rfl|rfl|rfl|rfl|rfl|rfl|rfl|rfl|rfl|rfl|rfl|rfl|rfl|rfl|rfl|rfl|rfl|rfl|rfl|rfl|rfl|rfl|rfl|rfl|rfl|rfl|rfl|rfl|rfl|rfl|rfl|rfl|rfl|rfl|rfl|rfl|rfl|rfl|rfl|rfl|rfl|rfl|rfl|rfl|rfl|rfl
 all_goals
  simp;refine .wZ 60 (by simp) hf ?_;simp(disch:=(first|omega|(simp;omega))) [e1];refine .m9 [2,5,6,7,8,9,10,11] ?_;simp
  first
   |(refine .gc 1 [1,2] (by simp) (by decide) ?_;simp;exact hgen)
   |(refine .gc 1 [3,1] (by simp) (by decide) ?_;simp;exact hgen)
end Go.Proofs.YtihmomicdpkabaaGreatDoor
namespace Go.Proofs.YtihmomicdpkabaaGreatDoor
open Go.AM Go.Proofs
def ids(n:Nat):List Nat:=(List.range n).map (2*·)
@[simp] theorem NL(n:Nat):(ids n).length=n:=by simp[ids]
theorem aac(n:Nat):ids (n+1)=ids n++[2*n]:=by simp[ids,List.range_succ]
def fL(first:Nat):List (Int×Int)->List (Int×Int)->List Nat->List (Int×Int)×List Nat
 |[],l,to=>(l,to)
 |p::ps,l,to=>fL first ps (bI first l (bp to p.1.toNat) (bp to p.2.toNat)).1 (to++[(bI first l (bp to p.1.toNat) (bp to p.2.toNat)).2])
def dJ(first:Nat)(aX:List Bool):List (Int×Int)->Nat->List (Int×Int)->List Nat->List (Int×Int)×List Nat
 |[],_,l,to=>(l,to)
 |p::ps,i,l,to=>
  if aX.getD (first+i) false=true then dJ first aX ps (i+1) (bI first l (bp to p.1.toNat) (bp to p.2.toNat)).1 (to++[(bI first l (bp to p.1.toNat) (bp to p.2.toNat)).2])
  else dJ first aX ps (i+1) l (to++[0])
def Gr.du(g:Gr)(r:List (Int×Int)×List Nat):Gr:=⟨g.ins,(ea r.2 g.next).map fun n:Nat=>(n:Int),g.init,r.1,(ea r.2 g.outs).map fun n:Nat=>(n:Int),1,1,2,1,.self,.self,.self,.self⟩
def Gr.dy(g:Gr):Gr:=g.du (fL g.first g.ands [] (ids g.first))
def Gr.dz(x:Gr):Gr:=x.du (dJ x.first x.aX x.ands 0 [] (ids x.first))
def Gr.normal(g:Gr):Gr:=if g.check=0 then g.dy.dz else fv
structure mg(first:Nat)(l:List (Int×Int))(to:List Nat):Prop where
 lt:∀x∈to,x<2*(first+l.length)
theorem uj{first:Nat}{l:List (Int×Int)}{a b:Nat}(ha:a<2*(first+l.length))(hb:b<2*(first+l.length))(h1:1<=first):
 (bI first l a b).2<2*(first+(bI first l a b).1.length)/\l.length<=(bI first l a b).1.length:=by
 unfold bI
 split
 ·rename_i c hc;unfold kF at hc;refine⟨?_,aU _⟩;simp only
  split at hc
  ·cases hc;omega
  ·split at hc
   ·cases hc;omega
   ·cases hc
 ·split
  ·rename_i i hi;obtain⟨_,h2,_⟩:=zY hi;exact⟨by simp only;omega,aU _⟩
  ·exact⟨by simp only[bR,bP,dh];omega,by simp⟩
theorem mS{to:List Nat}{B a:Nat}(h:∀x∈to,x<2*B)(ha:a/2<to.length):bp to a<2*B:=by
 have h1:=h _ (bC ha);unfold bp;rw[bo,bg ha,jj]
 rcases(show a%2=0\/a%2=1 by omega)with h2|h2
 ·rw[h2,C5];exact h1
 ·rw[h2,oM];split<;>omega
theorem FQ(x:Gr):x.aX.length=x.all:=by unfold Gr.aX;rw[Lk,wj,oj]
structure iD(first:Nat)(l:List (Int×Int)):Prop where
 at_:∀i(h:i<l.length),∃p q:Nat,l[i]=((p:Int),(q:Int))/\2<=q/\q<p/\p/2≠q/2/\p<2*(first+i)
 nd:l.Nodup
theorem LM(first:Nat):iD first []:=⟨fun i h=>by simp at h,List.nodup_nil⟩
theorem iD.push{first:Nat}{l:List (Int×Int)}(h:iD first l){a b:Nat}(ha:a<2*(first+l.length))(hb:b<2*(first+l.length)):iD first (bI first l a b).1:=by
 unfold bI
 split
 ·exact h
 ·rename_i hk
  split
  ·exact h
  ·rename_i hi;obtain⟨k1,k2,k3,k4⟩:=KT hk
   have hle:min a b<=max a b:=by omega
   have hx:=oM (max a b);refine⟨fun i hi2=>?_,?_⟩
   ·by_cases hil:i<l.length
    ·obtain⟨p,q,e,r⟩:=h.at_ i hil;exact⟨p,q,by simp only;rw[C0 hil];exact e,r⟩
    ·have e0:i=l.length:=by simp at hi2;omega
     subst e0;refine⟨max a b,min a b,by simp,by omega,by omega,?_,by omega⟩;intro hd;apply k2;rw[hx]
     split<;>omega
   ·rw[q9];refine⟨h.nd,by simp,?_⟩;intro x hx2 y hy he;subst he;simp at hy;subst hy;exact(zU.1 hi) hx2
theorem MI(first:Nat)(h1:1<=first):∀(ps l:List (Int×Int))(to:List Nat),iD first l->mg first l to->(∀i(h:i<ps.length),ps[i].1.toNat/2<to.length+i/\ps[i].2.toNat/2<to.length+i)->
 iD first (fL first ps l to).1/\mg first (fL first ps l to).1 (fL first ps l to).2/\(fL first ps l to).2.length=to.length+ps.length/\(fL first ps l to).1.length<=l.length+ps.length
 |[],l,to,hl,ht,_=>⟨hl,ht,rfl,aU _⟩
 |p::ps,l,to,hl,ht,hp=>by
  have h0:=hp 0 (by simp);simp only[C6,gW]at h0;have ha:=mS ht.lt h0.1;have hb:=mS ht.lt h0.2;obtain⟨hlt,hge⟩:=uj ha hb h1
  have hlen:=wv first l (bp to p.1.toNat) (bp to p.2.toNat)
  rw[fL]
  obtain⟨a1,a2,a3,a4⟩:=MI first h1 ps (bI first l (bp to p.1.toNat) (bp to p.2.toNat)).1 (to++[(bI first l (bp to p.1.toNat) (bp to p.2.toNat)).2]) (hl.push ha hb) ⟨fun z hz=>by
   rcases bl.1 hz with hz|hz
   ·have:=ht.lt z hz;omega
   ·simp at hz;omega⟩ (fun i hi=>by
   have:=hp (i+1) (by simpa using hi);simp only[sO]at this
   simp;omega)
  refine⟨a1,a2,by rw[a3];simp;omega,by simp only[bP];omega⟩
theorem Fv(first:Nat)(h1:1<=first)(aX:List Bool):∀(ps:List (Int×Int))(i:Nat)(l:List (Int×Int))(to:List Nat),iD first l->mg first l to->(∀i(h:i<ps.length),ps[i].1.toNat/2<to.length+i/\ps[i].2.toNat/2<to.length+i)->
 iD first (dJ first aX ps i l to).1/\mg first (dJ first aX ps i l to).1 (dJ first aX ps i l to).2/\(dJ first aX ps i l to).2.length=to.length+ps.length/\(dJ first aX ps i l to).1.length<=l.length+ps.length
 |[],i,l,to,hl,ht,_=>⟨hl,ht,rfl,aU _⟩
 |p::ps,i,l,to,hl,ht,hp=>by
  have h0:=hp 0 (by simp);simp only[C6,gW]at h0;have ha:=mS ht.lt h0.1;have hb:=mS ht.lt h0.2;obtain⟨hlt,hge⟩:=uj ha hb h1
  have hlen:=wv first l (bp to p.1.toNat) (bp to p.2.toNat)
  rw[dJ]
  split
  ·obtain⟨a1,a2,a3,a4⟩:=Fv first h1 aX ps (i+1) (bI first l (bp to p.1.toNat) (bp to p.2.toNat)).1 (to++[(bI first l (bp to p.1.toNat) (bp to p.2.toNat)).2]) (hl.push ha hb) ⟨fun z hz=>by
    rcases bl.1 hz with hz|hz
    ·have:=ht.lt z hz;omega
    ·simp at hz;omega⟩ (fun i hi=>by
    have:=hp (i+1) (by simpa using hi);simp only[sO]at this
    simp;omega)
   refine⟨a1,a2,by rw[a3];simp;omega,by simp only[bP];omega⟩
  ·obtain⟨a1,a2,a3,a4⟩:=Fv first h1 aX ps (i+1) l (to++[0]) hl ⟨fun z hz=>by
    rcases bl.1 hz with hz|hz
    ·exact ht.lt z hz
    ·simp at hz;omega⟩ (fun i hi=>by
    have:=hp (i+1) (by simpa using hi);simp only[sO]at this
    simp;omega)
   refine⟨a1,a2,by rw[a3];simp;omega,by simp only[bP];omega⟩
theorem FJ{g:Gr}(ok:g.Ok):∀i(h:i<g.ands.length),g.ands[i].1.toNat/2<(ids g.first).length+i/\g.ands[i].2.toNat/2<(ids g.first).length+i:=by
 intro i h;have:=ok.ands i h
 simp;omega
theorem Bc(first:Nat):mg first [] (ids first):=⟨fun z hz=>by simp[ids]at hz;obtain⟨a,ha,rfl⟩:=hz;simp;omega⟩
theorem Ox{g:Gr}(ok:g.Ok){l:List (Int×Int)}{to:List Nat}(hl:iD g.first l)(ht:mg g.first l to)(h1:to.length=g.all)(h2:l.length<=g.ands.length):(g.du (l,to)).Ok:=by
 have o1:=ok.ins;have o3:=ok.sum
 have hb:∀a:Int,0<=a->a<g.lits->bp to a.toNat<2*(g.first+l.length):=fun a h3 h4=>mS ht.lt (by have:g.lits=2*g.all:=rfl;omega)
 have hfst:(g.du (l,to)).first=g.first:=by simp[Gr.first,Gr.du]
 have hlits:(g.du (l,to)).lits=2*(g.first+l.length):=by simp only[Gr.lits,Gr.all,hfst];rfl
 refine⟨o1,by simp[Gr.du];omega,by simp[Gr.du];exact ok.mc,by simp[Gr.du];exact ok.same,ok.init,?_,?_,?_⟩
 ·intro a ha;rw[hlits];simp only[Gr.du,cC,ea]at ha;obtain⟨n,⟨b,hb2,rfl⟩,rfl⟩:=ha;have h3:=ok.next b hb2;have:=hb b h3.1 h3.2;omega
 ·intro a ha;rw[hlits];simp only[Gr.du,cC,ea]at ha;obtain⟨n,⟨b,hb2,rfl⟩,rfl⟩:=ha;have h3:=ok.outs b hb2;have:=hb b h3.1 h3.2;omega
 ·intro i hi;rw[hfst];obtain⟨p,q,e,r1,r2,r3,r4⟩:=hl.at_ i hi;have e2:(g.du (l,to)).ands[i]=((p:Int),(q:Int)):=e;rw[e2];simp only;omega
theorem AU{g:Gr}(ok:g.Ok):g.dy.Ok/\iD g.first g.dy.ands/\g.dy.ands.length<=g.ands.length:=by
 have o1:=ok.ins
 obtain⟨a1,a2,a3,a4⟩:=MI g.first (by unfold Gr.first;omega) g.ands [] (ids g.first) (LM _) (Bc _) (FJ ok)
 refine⟨Ox ok a1 a2 (by rw[a3];simp[Gr.all]) (by simpa using a4),a1,?_⟩;rw[dh,iM]at a4;exact a4
theorem AQ{g:Gr}(ok:g.Ok):g.dz.Ok/\iD g.first g.dz.ands/\g.dz.ands.length<=g.ands.length:=by
 have o1:=ok.ins
 obtain⟨a1,a2,a3,a4⟩:=Fv g.first (by unfold Gr.first;omega) g.aX g.ands 0 [] (ids g.first) (LM _) (Bc _) (FJ ok)
 refine⟨Ox ok a1 a2 (by rw[a3];simp[Gr.all]) (by simpa using a4),a1,?_⟩;rw[dh,iM]at a4;exact a4
end Go.Proofs.YtihmomicdpkabaaGreatDoor
namespace Go.Proofs.YtihmomicdpkabaaGreatDoor
open Go.AM Go.Proofs
variable{Γ:Nat->Option AV}
theorem KO(a b c d:Int):b_ (.iE [.int,.int]) (.agg [.int .i64 a,.int .i64 b]) (.agg [.int .i64 c,.int .i64 d])=some (decide ((a,b)=(c,d))):=EY (a,b) (c,d)
theorem To(a b:List (Int×Int)){ka kb:Nat}(ha:Kd 2 ka a)(hb:Kd 2 kb b)(hs:a.length<2^60):aP Tryz.prog Γ vu [.list false ka (a.map cN),.list false kb (b.map cN)] (.bool (decide (a=b))):=by
 refine .run 60 Tt (by simp) ?_
 by_cases hl:a.length=b.length
 ·have key:∀n i:Nat,i+n=a.length->ay Tryz.prog Γ (ymP (.list false ka (a.map cN)) (.list false kb (b.map cN)) (.int .i64 a.length) (.int .i64 i) []) (.ret (.bool (decide (a.drop i=b.drop i)))):=by
   intro n
   induction n with
   |zero=>
    intro i hi;refine .go 60 ?_
    have h1:¬i<a.length:=by omega
    have h2:a.drop i=b.drop i:=by rw[bw (by omega),bw (by omega)]
    simp[h1,h2];exact .back (by simp)
   |succ n ih=>
    intro i hi
    have h1:i<a.length:=by omega
    have h2:i<b.length:=by omega
    obtain rfl:=ha.of h1;obtain rfl:=hb.of h2;have h4:=drop_eq h1 h2;have h5:=KO a[i].1 a[i].2 b[i].1 b[i].2;refine .go 60 ?_
    by_cases h3:a[i]=b[i]
    ·have h6:((a[i].1,a[i].2)=(b[i].1,b[i].2))=True:=cv h3;have h7:(a[i]=b[i])=True:=cv h3;simp(disch:=omega) [h1,h2,h7,h4,h5,h6,-Prod.mk.injEq];refine .aL ?_;have hh:=ih (i+1) (by omega);simp at hh⊢;exact hh
    ·have h6:((a[i].1,a[i].2)=(b[i].1,b[i].2))=False:=j7 h3;simp(disch:=omega) [h1,h2,h3,h4,h5,h6,-Prod.mk.injEq];exact .back (by simp)
  simp[hl];refine .inLoop ?_;have hh:=key a.length 0 (by omega);simp[hl]at hh⊢;exact hh
 ·have h2:¬a=b:=fun e=>hl (by rw[e])
  simp[hl,h2];exact .back (by simp)
theorem Tp(l:List (Int×Int)){k:Nat}(hk:Kd 2 k l)(hl:l.length<2^60)(p:Int×Int):aP Tryz.prog Γ vv [.list false k (l.map cN),cN p] (.int .i64 (match ez p l 0 with|some i=>(i:Int)|none=>-1)):=by
 refine .run 60 Tn (by simp) ?_
 have key:∀n i:Nat,i+n=l.length->ay Tryz.prog Γ (ysb (.list false k (l.map cN)) (.ptr 0 0) (.int .i64 l.length) (.int .i64 i) [.cells [.int .i64 p.1,.int .i64 p.2]]) (.ret (.int .i64 (match ez p (l.drop i) i with|some i=>(i:Int)|none=>-1))):=by
  intro n
  induction n with
  |zero=>
   intro i hi
   have q1:¬i<l.length:=by omega
   rw[bw (by omega)];refine .go 60 ?_;simp[q1,ez];exact .back (by simp)
  |succ n ih=>
   intro i hi
   have q1:i<l.length:=by omega
   have q2:=cv (hk.of q1);rw[bM q1,ez];have h5:=KO p.1 p.2 l[i].1 l[i].2;refine .go 60 ?_
   by_cases h3:l[i]=p
   ·have h6:((p.1,p.2)=(l[i].1,l[i].2))=True:=cv h3.symm;rw[if_pos h3];simp(disch:=omega) [q1,q2,h5,h6,-Prod.mk.injEq];exact .back (by simp)
   ·have h6:((p.1,p.2)=(l[i].1,l[i].2))=False:=j7 (fun e=>h3 e.symm);rw[if_neg h3];simp(disch:=omega) [q1,q2,h5,h6,-Prod.mk.injEq];refine .aL ?_;have hh:=ih (i+1) (by omega);simp at hh⊢;exact hh
 simp;refine .inLoop ?_;have hh:=key l.length 0 (by omega);simp at hh⊢;exact hh
theorem Ta(l:List (Int×Int)){k:Nat}(hk:Kd 2 k l)(hl:l.length<2^60)(p:Int×Int):aP Tryz.prog Γ y4 [.list false k (l.map cN),cN p] (.bool (decide (p∈l))):=by
 refine .run 60 S_ (by simp) ?_;simp;refine .call 60 (by simp) (Tp l hk hl p) ?_
 cases h:ez p l 0 with
 |some i=>
  have h2:p∈l:=by
   obtain⟨_,h3,h4⟩:=zY h
   rw[<-h4];exact bC h3
  simp[h2];exact .back (by simp)
 |none=>
  have h2:p∉l:=zU.1 h;simp[h2];exact .back (by simp)
def wS(a b:Gr):Bool:=decide (a.ins=b.ins)&&decide (a.next=b.next)&&decide (a.init=b.init)&&decide (a.ands=b.ands)&&decide (a.outs=b.outs)
theorem KL(a b:Gr)(ha:a.jc):aP Tryz.prog Γ vY [eW a,eW b] (.bool (wS a b)):=by
 have f1:=ha.1;have f2:=ha.2.1;have f3:=ha.2.2.1;have f4:=ha.2.2.2
 refine .run 60 XG (by simp) ?_;unfold wS
 by_cases h1:a.ins=b.ins
 ·simp[h1];refine .call 60 (by simp) (Dg a.next b.next a.hn b.hn (by omega)) ?_
  by_cases h2:a.next=b.next
  ·have h2':=cv h2;simp[h2'];refine .call 60 (by simp) (Dg a.init b.init a.hi b.hi (by omega)) ?_
   by_cases h3:a.init=b.init
   ·have h3':=cv h3;simp[h3'];refine .call 60 (by simp) (To a.ands b.ands a.ha b.ha (by omega)) ?_
    by_cases h4:a.ands=b.ands
    ·have h4':=cv h4;simp[h4'];refine .call 60 (by simp) (Dg a.outs b.outs a.ho b.ho (by omega)) ?_;simp;exact .back (by simp)
    ·simp[h4];exact .back (by simp)
   ·simp[h3];exact .back (by simp)
  ·simp[h2];exact .back (by simp)
 ·simp[h1];exact .back (by simp)
def Gr.xq(g:Gr)(i:Nat):Bool:=
 decide ((g.ands.getD i (0,0)).1<=(g.ands.getD i (0,0)).2)||decide ((g.ands.getD i (0,0)).2<=1)||decide ((g.ands.getD i (0,0)).1.toNat/2=(g.ands.getD i (0,0)).2.toNat/2)||!g.aX.getD (g.first+i) false||decide (g.ands.getD i (0,0)∈g.ands.take i)
def Gr.strict(g:Gr):Bool:=decide (g.check=0)&&!br g.xq (List.range g.ands.length)
theorem W9{n i:Nat}(h:i<n):(List.range n).drop i=i::(List.range n).drop (i+1):=by
 rw[bM (by simpa using h)];simp
set_option maxRecDepth 8000 in
theorem V3(g:Gr)(hf:g.jc):aP Tryz.prog Γ vJ [eW g] (.bool g.strict):=by
 refine .run 60 VQ (by simp) ?_;simp;refine .call 60 (by simp) (rp g hf) ?_;unfold Gr.strict
 by_cases hc:g.check=0
 ·have ok:=Gr.qx hc;have o1:=ok.ins;have o3:=ok.sum
  have hfb:g.first<=8001:=by unfold Gr.first;omega
  have hfirst:=oz (Γ:=Γ) g o1.1 o1.2 (by omega);have hll:=FQ g;simp[hc];refine .call 60 (by simp) (Ll g ok) ?_
  have key:∀n i:Nat,i+n=g.ands.length->ay Tryz.prog Γ (yec (.ptr 0 0) (.sl 1 0 g.aX.length) (.list false g.ka (g.ands.map cN)) (.int .i64 g.ands.length) (.int .i64 i) [cz g,.row 1 cD (g.aX.map .bool) none true false]) (.ret (.bool (!br g.xq ((List.range g.ands.length).drop i)))):=by
   intro n
   induction n with
   |zero=>
    intro i hi
    have q1:¬i<g.ands.length:=by omega
    rw[bw (by simp;omega)];refine .go 60 ?_;simp[q1];exact .back (by simp)
   |succ n ih=>
    intro i hi
    have q1:i<g.ands.length:=by omega
    have q2:=cv (g.ha.of q1);obtain⟨⟨b1,b2⟩,b3,b4⟩:=ok.ands i q1;obtain⟨x,hx⟩:=k6 b1;obtain⟨y,hy⟩:=k6 b3;have hh:=ih (i+1) (by omega)
    have q3:g.first+i<g.aX.length:=by rw[hll];unfold Gr.all;omega
    have e1:(g.first:Int)+i=((g.first+i:Nat):Int):=by omega
    have hcon:=Ta (Γ:=Γ) (g.ands.take i) (k:=2) .self (by simp;omega) ((x:Int),(y:Int))
    have hget:g.ands.getD i (0,0)=((x:Int),(y:Int)):=by
     rw[bo,bg q1];exact Prod.ext hx hy
    rw[W9 q1,gX]
    have hbad:g.xq i=(decide (x<=y)||decide (y<=1)||decide (x/2=y/2)||!g.aX[g.first+i]||decide (((x:Int),(y:Int))∈g.ands.take i)):=by
     unfold Gr.xq;rw[hget,bo,bg q3];simp only[fB,jj]
     congr 4<;>(apply decide_eq_decide.2;omega)
    rw[hbad];refine .go 60 ?_
    by_cases c1:x<=y
    ·simp(disch:=omega) [q1,q2,c1,hx,hy];exact .back (by simp)
    ·by_cases c2:y<=1
     ·have c2':((y:Int)<=1)=True:=cv (by omega);simp(disch:=omega) [q1,q2,c1,c2,c2',hx,hy];exact .back (by simp)
     ·have c2':((y:Int)<=1)=False:=j7 (by omega)
      by_cases c3:x/2=y/2
      ·simp(disch:=omega) [q1,q2,c1,c2,c2',c3,hx,hy,-Int.natCast_ediv,-Int.natCast_emod];exact .back (by simp)
      ·simp(disch:=omega) [q1,q2,c1,c2,c2',c3,hx,hy,-Int.natCast_ediv,-Int.natCast_emod];refine .dr 60 ?_;simp(disch:=omega) [c1,c2,c2',c3,hx,hy,-Int.natCast_ediv,-Int.natCast_emod];refine .call (by simp) hfirst ?_
       by_cases c4:g.aX[g.first+i]=true
       ·have q5:i<=g.ands.length:=by omega
        simp(disch:=omega) [c1,c2,c2',c3,c4,e1,q2,q3,q5,hx,hy,-Int.natCast_add];refine .call (by simp[q2]) hcon ?_
        by_cases c5:((x:Int),(y:Int))∈g.ands.take i
        ·simp[c5];exact .back (by simp)
        ·simp(disch:=omega) [c5];refine .aL ?_;simp;refine .drop 2 rfl (by simp) (by simp) (by simp) ?_;simp at hh⊢;exact hh
       ·simp(disch:=omega) [c1,c2,c2',c3,c4,e1,q3,hx,hy,-Int.natCast_add];exact .back (by simp)
  simp;refine .inLoop ?_;have hh:=key g.ands.length 0 (by omega);simp at hh⊢;exact hh
 ·simp[hc];exact .back (by simp)
end Go.Proofs.YtihmomicdpkabaaGreatDoor
namespace Go.Proofs.YtihmomicdpkabaaGreatDoor
open Go.AM Go.Proofs
theorem ZZ{l:List (Int×Int)}{n:Nat}(h:∀i(hi:i<l.length),(0<=l[i].1/\l[i].1<2*(n+i))/\0<=l[i].2/\l[i].2<2*(n+i)):mV l n=false:=by
 induction l generalizing n with
 |nil=>rfl
 |cons p l ih=>
  have h0:=h 0 (by simp);simp only[C6]at h0;simp only[mV,jK,d_,iO];refine⟨by omega,ih fun i hi=>?_⟩;have:=h (i+1) (by simpa using hi);simp only[sO]at this;omega
theorem Gr.p5{g:Gr}(ok:g.Ok):g.check=0:=by
 obtain⟨h1,h2,h3,h4,h5,h6,h7,h8⟩:=ok;unfold Gr.check
 have e1:g.lG=false:=by simp[Gr.lG];omega
 have e2:br si g.init=false:=nE.2 fun a ha=>by have:=h5 a ha;simp[si];omega
 have e3:br (d_ g.lits) g.next=false:=nE.2 fun a ha=>by have:=h6 a ha;simp[d_];omega
 have e4:br (d_ g.lits) g.outs=false:=nE.2 fun a ha=>by have:=h7 a ha;simp[d_];omega
 simp[e1,e2,e3,e4,h4,ZZ h8]
theorem Mr(first:Nat)(l:List (Int×Int))(a b:Nat):∃e,(bI first l a b).1=l++e:=by
 unfold bI
 split
 ·exact⟨[],by simp⟩
 ·split
  ·exact⟨[],by simp⟩
  ·exact⟨_,rfl⟩
theorem Fp{v:List Bool}{a:Nat}(h:a/2<v.length)(e:List Bool):bK (v++e) a=bK v a:=by
 unfold bK;rw[bo,bo,cR h]
theorem ES:∀(l:List (Int×Int))(v:List Bool),∃e,bT l v=v++e
 |[],v=>⟨[],by simp[bT]⟩
 |p::ps,v=>by
  obtain⟨e,he⟩:=ES ps (v++[bK v p.1.toNat&&bK v p.2.toNat]);exact⟨[bK v p.1.toNat&&bK v p.2.toNat]++e,by rw[bT,he,eQ]⟩
theorem tM(l:List (Int×Int)){v:List Bool}{a:Nat}(h:a/2<v.length):bK (bT l v) a=bK v a:=by
 obtain⟨e,he⟩:=ES l v;rw[he,Fp h]
theorem LJ(w:List Bool)(x:Bool){n:Nat}(h:n=2*w.length):bK (w++[x]) n=x:=by
 subst h;unfold bK
 have e1:2*w.length/2=w.length:=by omega
 have e2:¬2*w.length%2=1:=by omega
 rw[e1,bo];simp[e2]
theorem EC{l:List (Int×Int)}{v:List Bool}{i:Nat}(hi:i<l.length)(h1:l[i].1.toNat/2<v.length+i)(h2:l[i].2.toNat/2<v.length+i):
 bK (bT l v) (2*(v.length+i))=(bK (bT l v) l[i].1.toNat&&bK (bT l v) l[i].2.toNat):=by
 have e:l=l.take i++(l[i]::l.drop (i+1)):=by rw[<-bM hi,ng]
 have hl:(bT (l.take i) v).length=v.length+i:=by rw[wi,gE];omega
 have e2:bT l v=bT (l.drop (i+1)) (bT (l.take i) v++[bK (bT (l.take i) v) l[i].1.toNat&&bK (bT (l.take i) v) l[i].2.toNat]):=by
  conv=>lhs;rw[e,vK,bT]
 generalize bT (l.take i) v=w at*
 have s:∀c,c/2<w.length+1->bK (bT l v) c=bK (w++[bK w l[i].1.toNat&&bK w l[i].2.toNat]) c:=fun c hc=>by
  rw[e2];exact tM _ (by rw[bR];exact hc)
 rw[s (2*(v.length+i)) (by omega),s l[i].1.toNat (by omega),s l[i].2.toNat (by omega),LJ _ _ (by omega),Fp (by omega),Fp (by omega)]
theorem Aj{v:List Bool}{a:Nat}:bK v (a^^^1)=!bK v a:=by
 rw[oM];unfold bK
 split
 ·rename_i h
  have e1:(a+1)/2=a/2:=by omega
  have e2:(a+1)%2=1:=by omega
  rw[e1];simp[h,e2]
 ·rename_i h
  have e1:(a-1)/2=a/2:=by omega
  have e2:¬(a-1)%2=1:=by omega
  have e3:a%2=1:=by omega
  rw[e1];simp[e2,e3]
theorem ZU{v:List Bool}(h:bK v 0=false):bK v 1=true:=by
 have:=Aj (v:=v) (a:=0)
 rw[h]at this;exact this
def n5(first:Nat)(l:List (Int×Int)):Prop:=∀i(h:i<l.length),(0<=l[i].1/\l[i].1<2*(first+i))/\0<=l[i].2/\l[i].2<2*(first+i)
theorem n5.push{first:Nat}{l:List (Int×Int)}(h:n5 first l){p:Int×Int}(hp:(0<=p.1/\p.1<2*(first+l.length))/\0<=p.2/\p.2<2*(first+l.length)):n5 first (l++[p]):=by
 intro i hi
 by_cases h2:i<l.length
 ·rw[C0 h2];exact h i h2
 ·have e:i=l.length:=by simp at hi;omega
  subst e;simp only[C1 (aU _),C2,C6];omega
theorem n5.and{first:Nat}{l:List (Int×Int)}(h:n5 first l){a b:Nat}(ha:a<2*(first+l.length))(hb:b<2*(first+l.length)):n5 first (bI first l a b).1:=by
 unfold bI
 split
 ·exact h
 ·split
  ·exact h
  ·refine h.push ?_;have:=Nat.max_lt.2 ⟨ha,hb⟩
   have:min a b<=max a b:=by omega
   simp only;omega
theorem Nd{first:Nat}{l:List (Int×Int)}{v:List Bool}(hv:v.length=first)(hz:bK v 0=false)(h1:1<=first)(wf:n5 first l){a b:Nat}(ha:a<2*(first+l.length))(hb:b<2*(first+l.length)):
 bK (bT (bI first l a b).1 v) (bI first l a b).2=(bK (bT l v) a&&bK (bT l v) b):=by
 have hz2:bK (bT l v) 0=false:=by rw[tM _ (by omega)];exact hz
 have hM:max a b<2*(first+l.length):=Nat.max_lt.2 ⟨ha,hb⟩
 have hm:min a b<2*(first+l.length):=by omega
 have hL:(bT l v).length=first+l.length:=by rw[wi,hv]
 have key:(bK (bT l v) a&&bK (bT l v) b)=(bK (bT l v) (max a b)&&bK (bT l v) (min a b)):=by
  rcases Nat.le_total a b with h|h
  ·rw[Nat.max_eq_right h,qP h,Bool.and_comm]
  ·rw[Nat.max_eq_left h,Nat.min_eq_right h]
 rw[key];unfold bI;generalize max a b=p at*;generalize min a b=q at*
 cases hk:kF p q with
 |some c=>
  simp only;unfold kF at hk
  split at hk
  ·rename_i h2
   cases hk
   rw[hz2]
   rcases h2 with rfl|rfl
   ·rw[hz2,Bool.and_false]
   ·rw[Aj];cases bK (bT l v) p<;>rfl
  ·split at hk
   ·rename_i h2
    cases hk
    rcases h2 with rfl|rfl
    ·rw[ZU hz2,og]
    ·rw[mD]
   ·cases hk
 |none=>
  simp only
  cases hi:ez ((p:Int),(q:Int)) l 0 with
  |some i=>
   simp only;obtain⟨_,h2,h3⟩:=zY hi;simp only[CZ]at h2 h3;have hw:=wf i h2;have:=EC (v:=v) h2 (by omega) (by omega);rw[hv,h3]at this;exact this
  |none=>
   simp only;rw[vK,bT,bT];rw[LJ _ _ (by omega)];rfl
theorem aaC{first:Nat}{l:List (Int×Int)}{v:List Bool}(hv:v.length=first){a b c:Nat}(hc:c<2*(first+l.length)):bK (bT (bI first l a b).1 v) c=bK (bT l v) c:=by
 obtain⟨e,he⟩:=Mr first l a b
 rw[he,vK,tM _ (by rw[wi];omega)]
structure aeM(g:Gr)(a b:Int):Prop where
 ok:g.Ok
 a1:0<=a/\a<g.lits
 b1:0<=b/\b<g.lits
 R:g.eg a b=g.iI (bI g.first g.ands a.toNat b.toNat).1
 C:g.eV a b=(bI g.first g.ands a.toNat b.toNat).2
 qM:(g.eg a b).Ok
 lt:g.eV a b<(g.eg a b).lits
 le:g.lits<=(g.eg a b).lits
theorem Pe{g:Gr}{a b:Int}(h:g.jA a b=0):aeM g a b:=by
 have hR:g.eg a b=g.iI (bI g.first g.ands a.toNat b.toNat).1:=by unfold Gr.eg;rw[if_pos h]
 have hC:g.eV a b=(bI g.first g.ands a.toNat b.toNat).2:=by unfold Gr.eV;rw[if_pos h]
 unfold Gr.jA at h
 split at h
 ·contradiction
 ·rename_i hc;have ok:=Gr.qx (I_.1 hc)
  split at h
  ·cases h
  ·rename_i hl;rw[not_or]at hl;obtain⟨a1,a2⟩:=hl;simp[d_]at a1 a2
   split at h
   ·cases h
   ·rename_i hs;have hlits:g.lits=2*(g.first+g.ands.length):=rfl
    have ha:a.toNat<2*(g.first+g.ands.length):=by omega
    have hb:b.toNat<2*(g.first+g.ands.length):=by omega
    have h1:1<=g.first:=by unfold Gr.first;omega
    obtain⟨l1,l2⟩:=uj ha hb h1
    have wf:n5 g.first (bI g.first g.ands a.toNat b.toNat).1:=n5.and ok.ands ha hb
    have hl2:(g.iI (bI g.first g.ands a.toNat b.toNat).1).lits=2*(g.first+(bI g.first g.ands a.toNat b.toNat).1.length):=rfl;refine⟨ok,by omega,by omega,hR,hC,?_,?_,?_⟩
    ·rw[hR];refine⟨ok.ins,by simp only;omega,ok.mc,ok.same,ok.init,fun x hx=>?_,fun x hx=>?_,wf⟩
     ·rw[hl2];have:=ok.next x hx;omega
     ·rw[hl2];have:=ok.outs x hx;omega
    ·rw[hC,hR,hl2];exact l1
    ·rw[hR,hl2,hlits];omega
end Go.Proofs.YtihmomicdpkabaaGreatDoor
namespace Go.Proofs.YtihmomicdpkabaaGreatDoor
open Go.AM Go.Proofs
variable{Γ:Nat->Option AV}
abbrev GV(p s:List Ob)(c0 c1 c2 c3 c4 c5:AV)(i:Nat):List Ob:=p++.cells [c0,c1,c2,c3,c4,c5,.sl (p.length+(s.length+1)) 0 i]::(s++[.row 1 an ((ids i).map iN) none true false])
theorem OX(p s:List Ob)(c0 c1 c2 c3 c4 c5:AV)(f:Nat)(hf:f<2^20)(hp:∀m,cH (p.length+(s.length+1)) m p=true)(hs:∀m,cH (p.length+(s.length+1)) m s=true)
 (hc:∀m,cY (p.length+(s.length+1)) m [c0,c1,c2,c3,c4,c5]=true)(base:Nat)(hb:base<=p.length+(s.length+1))(up:List Fr)(ds:List dn)(hds:ds=[]):
 ∀n i:Nat,i+n=f->AM.Reach Tryz.prog Γ (ypo (.ptr p.length 0) (.int .i64 f) (.int .i64 i) (GV p s c0 c1 c2 c3 c4 c5 i) ⟨ds,.norm,base,up⟩)
  (ypp (.ptr p.length 0) (GV p s c0 c1 c2 c3 c4 c5 f) ⟨ds,.norm,base,up⟩):=by
 subst hds;intro n
 induction n with
 |zero=>
  intro i hi
  obtain rfl:i=f:=by omega
  refine .dN 60 ?_;simp;exact .exit rfl rfl
 |succ n ih=>
  intro i hi
  have q1:(i:Int)<f:=by omega
  have hh:=ih (i+1) (by omega);have h1:=hp (i+1);have h2:=hs (i+1);have h3:=hc (i+1);simp only[cY,av,og]at h3;obtain⟨w0,w1,w2,w3,w4,w5⟩:=h3;refine .dN 60 ?_;simp(disch:=(first|omega|(simp;omega))) [q1];refine .aL ?_;simp
  have e1:(List.map iN (ids i)++[AV.int .i64 (2*(i:Int))]).length=i+1:=by simp
  refine .qb (i:=p.length+(s.length+1)) (by simp;exact⟨rfl,rfl,rfl,rfl,rfl⟩) (by simpa using hb) (by simp) (by rw[e1];simp[h1,h2,w0,w1,w2,w3,w4,w5]) ?_;rw[GV,aac]at hh;simp at hh⊢;exact hh
theorem Mv(ins:Int)(x1 x2:AV)(h1:(∃f k l,x1=.list f k l)\/∃i o n,x1=.sl i o n)(h2:(∃f k l,x2=.list f k l)\/∃i o n,x2=.sl i o n)(h:List Ob):∀up,AM.Reach Tryz.prog Γ (.cl rv [.agg [.int .i64 ins,x1,x2,.list true 0 [],.list true 0 []]] up h)
 (.back up (.ptr (h.length+2) 0) (h++[.cells [.int .i64 ins,x1,x2,.list true 0 [],.list true 0 []],.map [] true,.cells [.int .i64 ins,x1,x2,.sl (h.length+3) 0 0,.list true 0 [],.mp (h.length+1),.list true 0 []],.row 2 cM [] none true false])):=by
 intro up;have hcl:=Js (Γ:=Γ) (k:=0) [] .nil (by simp)
 rcases h1 with⟨f1,k1,l1,rfl⟩|⟨i1,o1,n1,rfl⟩<;>rcases h2 with⟨f2,k2,l2,rfl⟩|⟨i2,o2,n2,rfl⟩
 all_goals
  refine .bF 60 J_ ?_;simp;refine .nM 60 (by simp) hcl ?_;simp;refine .inLoop ?_;refine .bf 60 ?_;simp
abbrev Pu(g:Gr):List Ob:=[cz g,.cells [.int .i64 0,.sl 2 0 0,.sl 3 0 0,.sl 4 0 0,.sl 5 0 0],.row 1 an [] none true false,.row 1 an [] none true false,.row 2 cM [] none true false,.row 1 an [] none true false,
 cz g,.row 1 an (g.init.map i64) none true false,.cells [.int .i64 g.ins,.list false g.kn (g.next.map i64),.sl 7 0 g.init.length,.list true 0 [],.list true 0 []]]
abbrev qD(g:Gr)(es:List ((Int×Int)×Nat))(l:List (Int×Int))(to:List Nat)(q:List Ob):List Ob:=
 Pu g++(.map (es.map gy) true::.cells [.int .i64 g.ins,.list false g.kn (g.next.map i64),.sl 7 0 g.init.length,.sl 11 0 l.length,.list true 0 [],.mp 9,.sl 12 0 to.length]::.row 2 cM (l.map cN) none true false::.row 1 an (to.map iN) none true false::q)
set_option maxRecDepth 8000 in
theorem acP(g:Gr)(ok:g.Ok){o:Out}(l1:List (Int×Int))(to1:List Nat)(hfin:fL g.first g.ands [] (ids g.first)=(l1,to1))
 (hc:∀es,jz g.first l1 es->l1.length<=g.ands.length->to1.length=g.all->mg g.first l1 to1->ay Tryz.prog Γ (Ha (.ptr 0 0) (.ptr 1 0) (.ptr 10 0) (qD g es l1 to1 [])) o):
 ∀n i:Nat,i+n=g.ands.length->∀es l to,jz g.first l es->l.length<=i->to.length=g.first+i->mg g.first l to->fL g.first (g.ands.drop i) l to=(l1,to1)->
  ay Tryz.prog Γ (yil (.ptr 0 0) (.ptr 1 0) (.ptr 10 0) (.list false g.ka (g.ands.map cN)) (.int .i64 g.ands.length) (.int .i64 i) (qD g es l to [])) o:=by
 have o1:=ok.ins;have o3:=ok.sum;have o4:=ok.mc
 have hfb:g.first<=8001:=by unfold Gr.first;omega
 have hf1:1<=g.first:=by unfold Gr.first;omega
 intro n
 induction n with
 |zero=>
  intro i hi es l to he hl ht hok hS
  have q1:¬i<g.ands.length:=by omega
  rw[bw (by omega)]at hS;simp only[fL,bL]at hS;obtain⟨rfl,rfl⟩:=hS;refine .reach (.dN 60 (c':=Ha (.ptr 0 0) (.ptr 1 0) (.ptr 10 0) (qD g es l to [])) ?_) (hc es he (by omega) (by unfold Gr.all;omega) hok);simp[q1];exact .exit rfl rfl
 |succ n ih=>
  intro i hi es l to he hl ht hok hS
  have q1:i<g.ands.length:=by omega
  have q2:=cv (g.ha.of q1);rw[bM q1,fL]at hS;obtain⟨⟨b1,b2⟩,b3,b4⟩:=ok.ands i q1;obtain⟨x,hx⟩:=k6 b1;obtain⟨y,hy⟩:=k6 b3;rw[hx,hy]at hS;simp only[fB]at hS
  have hx2:x/2<to.length:=by omega
  have hy2:y/2<to.length:=by omega
  have ha:=mS hok.lt hx2;have hb:=mS hok.lt hy2;obtain⟨hlt,hge⟩:=uj ha hb hf1
  have hto:∀z∈to,z<2^40:=fun z hz=>by have:=hok.lt z hz;omega
  have k1:=uw (Γ:=Γ) to hto x hx2 (by omega) 10 12 (h:=qD g es l to [.cells [.int .i64 x,.int .i64 y]]) rfl rfl (by simp);have k2:=uw (Γ:=Γ) to hto y hy2 (by omega) 10 12 (h:=qD g es l to [.cells [.int .i64 x,.int .i64 y]]) rfl rfl (by simp)
  have hgl:=wv g.first l (bp to x) (bp to y)
  obtain⟨es',gr,junk,he',hgr,hjk,k3⟩:=O5 (Γ:=Γ) (p:=Pu g) (q:=[.row 1 an (to.map iN) none true false,.cells [.int .i64 x,.int .i64 y]]) (x1:=.list false g.kn (g.next.map i64)) (x2:=.sl 7 0 g.init.length) (x4:=.list true 0 []) (come:=.sl 12 0 to.length)
   ⟨g.ins,g.next,g.init,[],[],g.kn,1,2,0,g.hn,.self,.self,.nil⟩ o1 (by simp;omega) l (by omega) es he (bp to x) (bp to y) (by omega) (by omega) (fun s=>by simp) (fun s=>by simp) (fun s=>by simp)
  have hfe:(⟨g.ins,g.next,g.init,[],[],g.kn,1,2,0,g.hn,.self,.self,.nil⟩:Gr).first=g.first:=rfl
  rw[hfe]at k3 he'
  have hh:=ih (i+1) (by omega) es' (bI g.first l (bp to x) (bp to y)).1 (to++[(bI g.first l (bp to x) (bp to y)).2]) he' (by omega) (by simp;omega) ⟨fun z hz=>by
   rcases bl.1 hz with hz|hz
   ·have:=hok.lt z hz;omega
   ·simp at hz;omega⟩ hS
  generalize bI g.first l (bp to x) (bp to y)=r at*
  refine .go 60 ?_;simp[q1,q2];refine .dr 60 ?_;simp(disch:=omega) [hx,hy];refine .reach (by simp) k1 ?_;simp(disch:=omega) [hx,hy];refine .reach (by simp) k2 ?_;simp(disch:=omega) [hx,hy];refine .reach (by simp) k3 ?_
  rcases hjk with rfl|⟨jx,jy,rfl⟩
  ·simp(disch:=(first|omega|(simp;omega))) [hx,hy];refine .aL ?_;simp;refine .drop 13 rfl (by simp) (by simp) (by simp) ?_
   have e1:(to.map iN++[AV.int .i64 (r.2:Int)]).length=to.length+1:=by simp
   refine .lT (i:=11) rfl hgr (by simp) (by simp) (by simp) ?_;refine .lT (i:=12) rfl (.inr rfl) (by simp) (by simp) (by rw[e1];simp) ?_;simp at hh⊢;exact hh
  ·simp(disch:=(first|omega|(simp;omega))) [hx,hy];refine .aL ?_;simp;refine .drop 13 rfl (by simp) (by simp) (by simp) ?_
   have e1:(to.map iN++[AV.int .i64 (r.2:Int)]).length=to.length+1:=by simp
   refine .lT (i:=11) rfl hgr (by simp) (by simp) (by simp) ?_;refine .lT (i:=12) rfl (.inr rfl) (by simp) (by simp) (by rw[e1];simp) ?_;simp at hh⊢;exact hh
abbrev Gq(x:Gr):List Ob:=
 [.cells [.int .i64 0,.sl 1 0 0,.sl 2 0 0,.sl 3 0 0,.sl 4 0 0],.row 1 an [] none true false,.row 1 an [] none true false,.row 2 cM [] none true false,.row 1 an [] none true false,
  .cells [.int .i64 x.ins,.sl 6 0 x.next.length,.sl 7 0 x.init.length,.sl 8 0 x.ands.length,.sl 9 0 x.outs.length],.row 1 an (x.next.map i64) none true false,.row 1 an (x.init.map i64) none true false,.row 2 cM (x.ands.map cN) none true false,.row 1 an (x.outs.map i64) none true false,.row 1 cD (x.aX.map .bool) none true false]
abbrev Gu(x:Gr):List Ob:=Gq x++[.cells [.int .i64 x.ins,.sl 6 0 x.next.length,.sl 7 0 x.init.length,.sl 8 0 x.ands.length,.sl 9 0 x.outs.length],.row 1 an (x.init.map i64) none true false,.cells [.int .i64 x.ins,.sl 6 0 x.next.length,.sl 12 0 x.init.length,.list true 0 [],.list true 0 []]]
abbrev sj(x:Gr)(es:List ((Int×Int)×Nat))(l:List (Int×Int))(to:List Nat)(q:List Ob):List Ob:=
 Gu x++(.map (es.map gy) true::.cells [.int .i64 x.ins,.sl 6 0 x.next.length,.sl 12 0 x.init.length,.sl 16 0 l.length,.list true 0 [],.mp 14,.sl 17 0 to.length]::.row 2 cM (l.map cN) none true false::.row 1 an (to.map iN) none true false::q)
@[simp] theorem ayH(to:List Nat)(l:List Int):(List.map iN (ea to l)).take l.length=List.map iN (ea to l):=by rw[cS];simp
set_option maxRecDepth 8000 in
theorem adn(x:Gr)(hstd:x.kn=1/\x.ki=1/\x.ka=2/\x.ko=1)(ok:x.Ok){o:Out}(l1:List (Int×Int))(to1:List Nat)
 (hc:∀es,jz x.first l1 es->l1.length<=x.ands.length->to1.length=x.all->mg x.first l1 to1->ay Tryz.prog Γ (Rr (.ptr 0 0) (.ptr 5 0) (.ptr 15 0) (sj x es l1 to1 [])) o):
 ∀n i:Nat,i+n=x.ands.length->∀es l to,jz x.first l es->l.length<=i->to.length=x.first+i->mg x.first l to->dJ x.first x.aX (x.ands.drop i) i l to=(l1,to1)->
  ay Tryz.prog Γ (yii (.ptr 0 0) (.ptr 5 0) (.sl 10 0 x.all) (.ptr 15 0) (.sl 8 0 x.ands.length) (.int .i64 x.ands.length) (.int .i64 i) (sj x es l to [])) o:=by
 have o1:=ok.ins;have o3:=ok.sum;have o4:=ok.mc;obtain⟨s1,s2,s3,s4⟩:=hstd;have hfirst:=oz (Γ:=Γ) x o1.1 o1.2 (by omega);rw[eW,s1,s2,s3,s4]at hfirst
 have hfb:x.first<=8001:=by unfold Gr.first;omega
 have hf1:1<=x.first:=by unfold Gr.first;omega
 have hll:=FQ x;intro n
 induction n with
 |zero=>
  intro i hi es l to he hl ht hok hS
  have q1:¬i<x.ands.length:=by omega
  rw[bw (by omega)]at hS;simp only[dJ,bL]at hS;obtain⟨rfl,rfl⟩:=hS;refine .reach (.dN 60 (c':=Rr (.ptr 0 0) (.ptr 5 0) (.ptr 15 0) (sj x es l to [])) ?_) (hc es he (by omega) (by unfold Gr.all;omega) hok);simp[q1];exact .exit rfl rfl
 |succ n ih=>
  intro i hi es l to he hl ht hok hS
  have q1:i<x.ands.length:=by omega
  rw[bM q1,dJ]at hS;obtain⟨⟨b1,b2⟩,b3,b4⟩:=ok.ands i q1;obtain⟨a,ha⟩:=k6 b1;obtain⟨b,hb⟩:=k6 b3;rw[ha,hb]at hS;simp only[fB]at hS
  have q3:x.first+i<x.all:=by unfold Gr.all;omega
  have e1:(x.first:Int)+i=((x.first+i:Nat):Int):=by omega
  rw[bo,bg (by omega),jj]at hS;refine .go 60 ?_;simp(disch:=omega) [q1];refine .call 60 (by simp) hfirst ?_
  by_cases hb0:x.aX[x.first+i]=true
  ·rw[if_pos hb0]at hS
   have hx2:a/2<to.length:=by omega
   have hy2:b/2<to.length:=by omega
   have hla:=mS hok.lt hx2;have hlb:=mS hok.lt hy2;obtain⟨hlt,hge⟩:=uj hla hlb hf1
   have hto:∀z∈to,z<2^40:=fun z hz=>by have:=hok.lt z hz;omega
   have k1:=uw (Γ:=Γ) to hto a hx2 (by omega) 15 17 (h:=sj x es l to [.cells [.int .i64 a,.int .i64 b]]) rfl rfl (by simp);have k2:=uw (Γ:=Γ) to hto b hy2 (by omega) 15 17 (h:=sj x es l to [.cells [.int .i64 a,.int .i64 b]]) rfl rfl (by simp)
   have hgl:=wv x.first l (bp to a) (bp to b)
   obtain⟨es',gr,junk,he',hgr,hjk,k3⟩:=O5 (Γ:=Γ) (p:=Gu x) (q:=[.row 1 an (to.map iN) none true false,.cells [.int .i64 a,.int .i64 b]]) (x1:=.sl 6 0 x.next.length) (x2:=.sl 12 0 x.init.length) (x4:=.list true 0 []) (come:=.sl 17 0 to.length)
    ⟨x.ins,x.next,x.init,[],[],1,1,2,0,.self,.self,.self,.nil⟩ o1 (by simp;omega) l (by omega) es he (bp to a) (bp to b) (by omega) (by omega) (fun s=>by simp) (fun s=>by simp) (fun s=>by simp)
   have hfe:(⟨x.ins,x.next,x.init,[],[],1,1,2,0,.self,.self,.self,.nil⟩:Gr).first=x.first:=rfl
   rw[hfe]at k3 he'
   have hh:=ih (i+1) (by omega) es' (bI x.first l (bp to a) (bp to b)).1 (to++[(bI x.first l (bp to a) (bp to b)).2]) he' (by omega) (by simp;omega) ⟨fun z hz=>by
    rcases bl.1 hz with hz|hz
    ·have:=hok.lt z hz;omega
    ·simp at hz;omega⟩ hS
   generalize bI x.first l (bp to a) (bp to b)=r at*
   simp(disch:=omega) [e1,q3,hll,hb0,-Int.natCast_add];refine .dr 60 ?_;simp(disch:=omega) [ha,hb];refine .reach (by simp) k1 ?_;simp(disch:=omega) [ha,hb];refine .reach (by simp) k2 ?_;simp(disch:=omega) [ha,hb];refine .reach (by simp) k3 ?_
   rcases hjk with rfl|⟨jx,jy,rfl⟩
   ·simp(disch:=(first|omega|(simp;omega))) [ha,hb];refine .aL ?_;simp;refine .drop 18 rfl (by simp) (by simp) (by simp) ?_
    have e2:(to.map iN++[AV.int .i64 (r.2:Int)]).length=to.length+1:=by simp
    refine .lT (i:=16) rfl hgr (by simp) (by simp) (by simp) ?_;refine .lT (i:=17) rfl (.inr rfl) (by simp) (by simp) (by rw[e2];simp) ?_;simp at hh⊢;exact hh
   ·simp(disch:=(first|omega|(simp;omega))) [ha,hb];refine .aL ?_;simp;refine .drop 18 rfl (by simp) (by simp) (by simp) ?_
    have e2:(to.map iN++[AV.int .i64 (r.2:Int)]).length=to.length+1:=by simp
    refine .lT (i:=16) rfl hgr (by simp) (by simp) (by simp) ?_;refine .lT (i:=17) rfl (.inr rfl) (by simp) (by simp) (by rw[e2];simp) ?_;simp at hh⊢;exact hh
  ·rw[if_neg hb0]at hS
   have hh:=ih (i+1) (by omega) es l (to++[0]) he (by omega) (by simp;omega) ⟨fun z hz=>by
    rcases bl.1 hz with hz|hz
    ·exact hok.lt z hz
    ·simp at hz;omega⟩ hS
   simp(disch:=(first|omega|(simp;omega))) [e1,q3,hll,hb0,-Int.natCast_add];refine .aL ?_;simp;refine .drop 18 rfl (by simp) (by simp) (by simp) ?_
   have e2:(to.map iN++[AV.int .i64 0]).length=to.length+1:=by simp
   refine .lT (i:=17) rfl (.inr rfl) (by simp) (by simp) (by rw[e2];simp) ?_;simp at hh⊢;exact hh
set_option maxRecDepth 8000 in
theorem adf(x:Gr)(hstd:x.kn=1/\x.ki=1/\x.ka=2/\x.ko=1)(ok:x.Ok):ay Tryz.prog Γ (.fr ⟨.run,ox,[.code (.seq (.ae IY) (.seq (.seq (.ae HJ) (.block 2 CO (.loop BZ xG))) (.seq (.ae BY) .ret)))],
 [U,U,.ptr 0 0,U,U,U,U,U,.ptr 5 0,.sl 10 0 x.aX.length]++List.replicate 85 U,[],.norm,0⟩ [] (Gq x)) (.ret (.aH [eW x.dz,.int .i64 0])):=by
 have o1:=ok.ins;have o3:=ok.sum;have o4:=ok.mc;have hs:=hstd;obtain⟨s1,s2,s3,s4⟩:=hs;have hfirst:=oz (Γ:=Γ) x o1.1 o1.2 (by omega);rw[eW,s1,s2,s3,s4]at hfirst
 have hfb:x.first<=8001:=by unfold Gr.first;omega
 have hsame:=ok.same;rw[FQ];refine .go 60 ?_;simp;refine .enter 60 J2 ?_;simp;refine .dr 60 ?_;simp;refine .call (by simp) (Ju (Γ:=Γ) x.init (k:=1) .self (by omega)) ?_;simp;refine .reach (by simp) (Mv x.ins _ _ (.inr ⟨_,_,_,rfl⟩) (.inr ⟨_,_,_,rfl⟩) _) ?_;simp;refine .call 60 (by simp) hfirst ?_;simp;refine .qc 15 6 1 an rfl rfl (by omega) ?_;simp;refine .inLoop ?_
 have kb:=fun up=>OX (Γ:=Γ) (Gu x++[.map [] true]) [.row 2 cM [] none true false]
  (.int .i64 x.ins) (.sl 6 0 x.next.length) (.sl 12 0 x.init.length) (.sl 16 0 0) (.list true 0 []) (.mp 14) x.first (by omega) (by intro m;simp) (by intro m;simp) (by intro m;simp) 11 (by simp) up [] rfl x.first 0 (by omega)
 simp[ids]at kb⊢;refine .reach (kb _) ?_;refine .go 60 ?_;simp;refine .inLoop ?_
 generalize hS:dJ x.first x.aX x.ands 0 [] (ids x.first)=r
 obtain⟨l1,to1⟩:=r
 have hL:=adn (Γ:=Γ) x hstd ok (o:=.ret (.aH [eW x.dz,.int .i64 0])) l1 to1 ?_ x.ands.length 0 (by omega) [] [] (ids x.first) (Fy _) (aU _) (by simp) ⟨fun z hz=>by
  simp[ids]at hz;obtain⟨a,ha,rfl⟩:=hz;simp;omega⟩ (by simpa using hS)
 ·simp[ids]at hL⊢;exact hL
 intro es he hl1 ht1 hto
 have hn2:x.dz=x.du (l1,to1):=by unfold Gr.dz;rw[hS]
 have hall:x.all<=12001:=by unfold Gr.all;omega
 have hlits:x.lits=2*x.all:=rfl
 have ht40:∀z∈to1,z<2^40:=fun z hz=>by have:=hto.lt z hz;omega
 have kA:=fun q=>OD (Γ:=Γ) to1 ht40 x.next (by omega) (fun a ha=>by have:=ok.next a ha;omega) (by omega) 15 17 6 (h:=sj x es l1 to1 (.cells [.int .i64 x.ins,.sl 6 0 x.next.length,.sl 7 0 x.init.length,.sl 8 0 x.ands.length,.sl 9 0 x.outs.length]::.cells [.int .i64 0,.sl 20 0 0,.sl 21 0 0,.sl 22 0 0,.sl 23 0 0]::q)) rfl rfl rfl
 have kB:=fun q=>OD (Γ:=Γ) to1 ht40 x.outs (by omega) (fun a ha=>by have:=ok.outs a ha;omega) (by omega) 15 17 9 (h:=sj x es l1 to1 (.cells [.int .i64 x.ins,.sl 6 0 x.next.length,.sl 7 0 x.init.length,.sl 8 0 x.ands.length,.sl 9 0 x.outs.length]::.cells [.int .i64 0,.sl 20 0 0,.sl 21 0 0,.sl 22 0 0,.sl 23 0 0]::q)) rfl rfl rfl
 rw[hn2];refine .go 60 ?_;simp;refine .enter 60 JA ?_;simp;refine .dr 60 ?_;simp;refine .reach (by simp) (kA [.row 1 an [] none true false,.row 1 an [] none true false,.row 2 cM [] none true false,.row 1 an [] none true false] (by intro m;simp)) ?_;simp;refine .reach (by simp) (kB [.row 1 an [] none true false,.row 1 an [] none true false,.row 2 cM [] none true false,.row 1 an [] none true false,.row 1 an [] none true false,.row 1 an ((ea to1 x.next).map iN) none true false] (by intro m;simp)) ?_;simp[Gr.du];exact .back (by simp)
set_option maxRecDepth 8000 in
theorem adw(g:Gr)(ok:g.Ok)(l1:List (Int×Int))(to1:List Nat)(hx:g.dy=g.du (l1,to1))(okx:g.dy.Ok)(es:List ((Int×Int)×Nat))(hl1:l1.length<=g.ands.length)(ht1:to1.length=g.all)(hto:mg g.first l1 to1):
 ay Tryz.prog Γ (Ha (.ptr 0 0) (.ptr 1 0) (.ptr 10 0) (qD g es l1 to1 [])) (.ret (.aH [eW g.dy.dz,.int .i64 0])):=by
 have o1:=ok.ins;have o3:=ok.sum;have o4:=ok.mc
 have hfb:g.first<=8001:=by unfold Gr.first;omega
 have hall:g.all<=12001:=by unfold Gr.all;omega
 have hlits:g.lits=2*g.all:=rfl
 have ht40:∀z∈to1,z<2^40:=fun z hz=>by have:=hto.lt z hz;omega
 have kA:=fun q=>Pa (Γ:=Γ) to1 ht40 g.next g.hn (by omega) (fun a ha=>by have:=ok.next a ha;omega) (by omega) 10 12 (h:=qD g es l1 to1 (cz g::.cells [.int .i64 0,.sl 15 0 0,.sl 16 0 0,.sl 17 0 0,.sl 18 0 0]::q)) rfl rfl
 have kB:=fun q=>Pa (Γ:=Γ) to1 ht40 g.outs g.ho (by omega) (fun a ha=>by have:=ok.outs a ha;omega) (by omega) 10 12 (h:=qD g es l1 to1 (cz g::.cells [.int .i64 0,.sl 15 0 0,.sl 16 0 0,.sl 17 0 0,.sl 18 0 0]::q)) rfl rfl
 refine .go 60 ?_;simp;refine .enter 60 JA ?_;simp;refine .dr 60 ?_;simp;refine .reach (by simp) (kA [.row 1 an [] none true false,.row 1 an [] none true false,.row 2 cM [] none true false,.row 1 an [] none true false] (by intro m;simp)) ?_;simp;refine .reach (by simp) (kB [.row 1 an [] none true false,.row 1 an [] none true false,.row 2 cM [] none true false,.row 1 an [] none true false,.row 1 an [] none true false,.row 1 an ((ea to1 g.next).map iN) none true false] (by intro m;simp)) ?_;simp
 have ex:eW g.dy=.agg [.int .i64 g.ins,.list false 1 ((ea to1 g.next).map iN),.list false 1 (g.init.map i64),.list false 2 (l1.map cN),.list false 1 ((ea to1 g.outs).map iN)]:=by
  rw[hx];simp[Gr.du]
 have hled:=Ll (Γ:=Γ) g.dy okx;rw[ex]at hled;refine .call 3 (by simp) hled ?_;simp;refine .m9 [1,5,49,50,51,52,53] ?_;simp;refine .gc 0 [1,2,3,4,5,23,20,7,11,22,28] (by simp) (by decide) ?_;have hh:=adf (Γ:=Γ) g.dy ⟨by rw[hx];rfl,by rw[hx];rfl,by rw[hx];rfl,by rw[hx];rfl⟩ okx;simp[Gq,hx,Gr.du]at hh⊢;exact hh
set_option maxRecDepth 8000 in
theorem V'(g:Gr)(hf:g.jc):aP Tryz.prog Γ ox [eW g] (.aH [eW g.normal,.int .i64 g.check]):=by
 refine .run 60 VX (by simp) ?_;simp;refine .call 60 (by simp) (rp g hf) ?_
 by_cases hc:g.check=0
 ·have ok:=Gr.qx hc;have o1:=ok.ins;have o3:=ok.sum;have o4:=ok.mc;have hfirst:=oz (Γ:=Γ) g o1.1 o1.2 (by omega)
  have hn0:g.normal=g.dy.dz:=by unfold Gr.normal;rw[if_pos hc]
  rw[hn0];simp[hc];refine .enter 60 J2 ?_;simp;refine .dr 60 ?_;simp;refine .call (by simp) (Ju (Γ:=Γ) g.init g.hi hf.2.1) ?_;simp;refine .reach (by simp) (Mv g.ins _ _ (.inl ⟨_,_,_,rfl⟩) (.inr ⟨_,_,_,rfl⟩) _) ?_;simp;refine .call 60 (by simp) hfirst ?_;simp;refine .qc 10 6 1 an rfl rfl (by omega) ?_;simp;refine .inLoop ?_
  have hfb:g.first<=8001:=by unfold Gr.first;omega
  have kb:=fun up=>OX (Γ:=Γ) [cz g,.cells [.int .i64 0,.sl 2 0 0,.sl 3 0 0,.sl 4 0 0,.sl 5 0 0],.row 1 an [] none true false,.row 1 an [] none true false,.row 2 cM [] none true false,.row 1 an [] none true false,
   cz g,.row 1 an (g.init.map i64) none true false,.cells [.int .i64 g.ins,.list false g.kn (g.next.map i64),.sl 7 0 g.init.length,.list true 0 [],.list true 0 []],.map [] true] [.row 2 cM [] none true false]
   (.int .i64 g.ins) (.list false g.kn (g.next.map i64)) (.sl 7 0 g.init.length) (.sl 11 0 0) (.list true 0 []) (.mp 9) g.first (by omega) (by intro m;simp) (by intro m;simp) (by intro m;simp) 6 (by simp) up [] rfl g.first 0 (by omega)
  simp[ids]at kb⊢;refine .reach (kb _) ?_;refine .go 60 ?_;simp;refine .inLoop ?_;obtain⟨okx,_,hlen⟩:=AU ok
  have hS:fL g.first g.ands [] (ids g.first)=((fL g.first g.ands [] (ids g.first)).1,(fL g.first g.ands [] (ids g.first)).2):=rfl
  have hL:=acP (Γ:=Γ) g ok (o:=.ret (.aH [eW g.dy.dz,.int .i64 0])) _ _ hS (fun es he hl1 ht1 hto=>adw g ok _ _ rfl okx es hl1 ht1 hto) g.ands.length 0 (by omega) [] [] (ids g.first) (Fy _) (aU _) (by simp) (Bc _) (by simp);simp[ids]at hL⊢;exact hL
 ·have hn0:g.normal=fv:=by unfold Gr.normal;rw[if_neg hc]
  rw[hn0];simp[hc,fv];exact .back (by simp)
@[simp] theorem aAu(n:Nat):((60:Int)<n)=(60<n):=propext (by omega)
@[simp] theorem aAr(n:Nat):((n:Int)<=60)=(n<=60):=propext (by omega)
@[simp] theorem aAp(n:Nat):((n:Int)<=40)=(n<=40):=propext (by omega)
theorem Gr.Ok.jc{g:Gr}(h:g.Ok):g.jc:=by
 have h1:=h.ins;have h2:=h.sum;have h3:=h.mc;have h4:=h.same
 unfold Gr.jc;omega
theorem N1:fv.jc:=by unfold Gr.jc fv;decide
abbrev GP:Ob:=.row 1 an [] none true false
abbrev afb:Ob:=.row 2 cM [] none true false
end Go.Proofs.YtihmomicdpkabaaGreatDoor
namespace Go.Proofs.YtihmomicdpkabaaGreatDoor
open Go.AM Go.Proofs
def cO(h:List Ob):Prop:=∀m,h.length<=m->cE m h=true
theorem L9{m:Nat}{o:Ob}(ho:gA m o=true):∀{h:List Ob}(i:Nat),cE m h=true->cE m (h.set i o)=true
 |[],i,h1=>h1
 |o'::h,0,h1=>by
  simp only[cE,av,u0]at h1⊢;exact⟨ho,h1.2⟩
 |o'::h,i+1,h1=>by
  simp only[cE,av,pF]at h1⊢;exact⟨h1.1,L9 ho i h1.2⟩
theorem cO.set{h:List Ob}(hw:cO h){o:Ob}(hb:∀m,h.length<=m->gA m o=true)(i:Nat):cO (h.set i o):=fun m hm=>by
 rw[jg]at hm;exact L9 (hb m hm) i (hw m hm)
def fX(h:List Ob):Prop:=∀i m,h.length<=i->cH i m h=true
end Go.Proofs.YtihmomicdpkabaaGreatDoor
namespace Go.Proofs.YtihmomicdpkabaaGreatDoor
open Go.AM Go.Proofs
variable{Γ:Nat->Option AV}
abbrev aes:AV:=.bW DC (.agg [])
def cK{α:Type}(ev:α->AV)(i:Nat)(up:List Fr)(h:List Ob)(r:Gr×Option α):AM.aq:=
 match r.2 with
 |some a=>.back up (ev a) (h.set i (cz r.1))
 |none=>.die up aes (h.set i (cz r.1))
theorem rI{P:Program}{α:Type}{ev:α->AV}{i:Nat}{up:List Fr}{h:List Ob}(J:List Ob){f:FuncId}{args:List AV}{r:Gr×Option α}(hw:cO h)(hi:i<h.length)(hev:∀a,aG h.length (ev a)=true)
 (h1:AM.Reach P Γ (.cl f args up h) (cK ev i up (h++J) r)):AM.Reach P Γ (.cl f args up h) (cK ev i up h r):=by
 have e:∀o:Ob,((h++J).set i o).take h.length=h.set i o:=fun o=>by rw[j8 _ _ hi,vn (by simp)]
 have hb:cE h.length (h.set i (cz r.1))=true:=hw.set (fun m _=>by simp) i h.length (by simp);unfold cK at h1⊢
 cases hr:r.2 with
 |some a=>
  rw[hr]at h1;have:=AM.Reach.leave h1 (hev a) (by rw[e];exact hb);rwa[e]at this
 |none=>
  rw[hr]at h1;have:=AM.Reach.OL h1 rfl (by rw[e];exact hb);rwa[e]at this
theorem wJ{α:Type}{h:List α}{i:Nat}{o:α}(hi:h[i]? =some o):h.set i o=h:=by
 obtain⟨hl,rfl⟩:=dD.1 hi;exact List.set_getElem_self hl
theorem _root_.Go.AM.Reach.jW{P:Program}(n:Nat){f:FuncId}{args:List AV}{up:List Fr}{h h':List Ob}{v:AV}{c:AM.aq}(h1:∀up,AM.Reach P Γ (.cl f args up h) (.die up v h'))(h2:AM.Reach P Γ (AM.go P Γ 2 n (AM.pop (.die up v h'))) c):AM.Reach P Γ (.cl f args up h) c:=.trans (h1 up) (.trans (.pop _) (.bf n h2))
def eL(x:Gr)(p q:Nat):Gr×Option Nat:=if x.jA p q=0 then(x.eg p q,some (x.eV p q))else(x,none)
set_option maxRecDepth 8000 in
theorem Be(x:Gr)(ok:x.Ok)(p q:Nat){i:Nat}{h:List Ob}(hi:h[i]? =some (cz x))(hw:cO h)(up:List Fr):AM.Reach Tryz.prog Γ (.cl ri [.ptr i 0,iN p,iN q] up h) (cK iN i up h (eL x p q)):=by
 have hA:=YA (Γ:=Γ) x ok.jc p q;have hl:=aV hi
 have hget:=fun os=>fE hi os
 have hset:∀os:List Ob,(h++os).set i (cz x)=h++os:=fun os=>wJ (hget os)
 refine rI [cz (x.eg p q),GP,GP,afb,GP] hw hl (by simp) ?_;unfold eL cK;refine .bF 60 T4 ?_;simp[hi];refine .nM 60 (by simp) hA ?_
 by_cases e:x.jA p q=0
 ·simp[e,hget]
 ·simp[e,hget,hset]
def iA(turn:Nat):Gr->Nat->List Nat->Gr×Option Nat
 |x,c,[]=>(x,some c)
 |x,c,a::l=>match eL x c (a^^^turn)with
  |(y,some d)=>iA turn y d l
  |(y,none)=>(y,none)
def fN(turn:Nat)(x:Gr)(l:List Nat):Gr×Option Nat:=match l with
 |[]=>(x,some 0)
 |a::r=>iA turn x (a^^^turn) r
structure fK(x y:Gr):Prop where
 ok:y.Ok
 ins:y.ins=x.ins
 next:y.next=x.next
 init:y.init=x.init
 outs:y.outs=x.outs
 ands:∃e,y.ands=x.ands++e
theorem fK.refl{x:Gr}(ok:x.Ok):fK x x:=⟨ok,rfl,rfl,rfl,rfl,[],by simp⟩
theorem fK.trans{x y z:Gr}(h:fK x y)(h2:fK y z):fK x z:=by
 obtain⟨e,he⟩:=h.ands;obtain⟨e2,he2⟩:=h2.ands;exact⟨h2.ok,h2.ins.trans h.ins,h2.next.trans h.next,h2.init.trans h.init,h2.outs.trans h.outs,e++e2,by rw[he2,he,eQ]⟩
theorem fK.first{x y:Gr}(h:fK x y):y.first=x.first:=by unfold Gr.first;rw[h.ins,h.next]
theorem fK.lits{x y:Gr}(h:fK x y):x.lits<=y.lits:=by
 obtain⟨e,he⟩:=h.ands;unfold Gr.lits Gr.all
 rw[h.first,he,bR];omega
theorem Ys{x y:Gr}{p q d:Nat}(h:eL x p q=(y,some d)):x.jA p q=0/\y=x.eg p q/\d=x.eV p q:=by
 unfold eL at h
 split at h
 ·rename_i e;cases h;exact⟨e,rfl,rfl⟩
 ·cases h
theorem oF{x:Gr}(ok:x.Ok){p q:Nat}{y:Gr}{r:Option Nat}(h:eL x p q=(y,r)):fK x y/\∀d,r=some d->d<y.lits:=by
 unfold eL at h
 split at h
 ·rename_i e
  cases h
  have a:=Pe e
  obtain⟨e1,he1⟩:=Mr x.first x.ands p q
  refine⟨⟨a.qM,by rw[a.R],by rw[a.R],by rw[a.R],by rw[a.R],e1,by rw[a.R];simpa using he1⟩,fun d hd=>by cases hd;exact a.lt⟩
 ·cases h
  exact⟨.refl ok,fun d hd=>by cases hd⟩
theorem Kb(turn:Nat):∀(l:List Nat)(x:Gr)(c:Nat),x.Ok->c<x.lits->fK x (iA turn x c l).1/\∀d,(iA turn x c l).2=some d->d<(iA turn x c l).1.lits
 |[],x,c,ok,hc=>⟨.refl ok,fun d hd=>by cases hd;exact hc⟩
 |a::l,x,c,ok,hc=>by
  rw[iA]
  cases h:eL x c (a^^^turn)with
  |mk y r=>
   obtain⟨g1,g2⟩:=oF ok h
   cases r with
   |none=>exact⟨g1,fun d hd=>by cases hd⟩
   |some d=>
    obtain⟨h1,h2⟩:=Kb turn l y d g1.ok (g2 d rfl);exact⟨g1.trans h1,h2⟩
theorem FZ{a n:Nat}(h:a<2*n):a^^^1<2*n:=by
 have h2:(a^^^1)/2=a/2:=by
  have:=Nat.xor_div_two (a:=a) (b:=1);simpa using this
 omega
theorem lQ{a t n:Nat}(ht:t<=1)(h:a<2*n):a^^^t<2*n:=by
 obtain rfl|rfl:t=0\/t=1:=by omega
 ·simpa using h
 ·exact FZ h
def dZ{α β:Type}(f:α->β)(r:Gr×Option α):Gr×Option β:=(r.1,r.2.map f)
def eF{α β:Type}(r:Gr×Option α)(f:Gr->α->Gr×Option β):Gr×Option β:=match r with
 |(y,some a)=>f y a
 |(y,none)=>(y,none)
def uO(x:Gr)(c a:Nat):Gr×Option Nat:=eF (eL x c (a^^^1)) fun y p=>eF (eL y (c^^^1) a) fun z q=>dZ (·^^^1) (eL z (p^^^1) (q^^^1))
def l6:Gr->Nat->List Nat->Gr×Option Nat
 |x,c,[]=>(x,some c)
 |x,c,a::l=>eF (uO x c a) fun y d=>l6 y d l
def uC(x:Gr)(l:List Nat):Gr×Option Nat:=match l with
 |[]=>(x,some 0)
 |a::r=>l6 x a r
def jC(x:Gr)(r:Gr×Option Nat):Prop:=fK x r.1/\∀d,r.2=some d->d<r.1.lits
theorem tK{x:Gr}(ok:x.Ok)(p q:Nat):jC x (eL x p q):=oF ok (y:=(eL x p q).1) (r:=(eL x p q).2) rfl
theorem jC.BN{x:Gr}{r:Gr×Option Nat}(h:jC x r){t:Nat}(ht:t<=1):jC x (dZ (·^^^t) r):=⟨h.1,fun d hd=>by
 simp only[dZ,bS]at hd;obtain⟨a,ha,rfl⟩:=hd
 exact lQ ht (h.2 a ha)⟩
theorem jC.then{x:Gr}{r:Gr×Option Nat}{f:Gr->Nat->Gr×Option Nat}(h:jC x r)(hf:∀y d,fK x y->d<y.lits->jC y (f y d)):jC x (eF r f):=by
 obtain⟨y,o⟩:=r
 cases o with
 |none=>exact⟨h.1,fun d hd=>by cases hd⟩
 |some d=>
  have:=hf y d h.1 (h.2 d rfl);exact⟨h.1.trans this.1,this.2⟩
theorem Ew{x:Gr}(ok:x.Ok)(c a:Nat):jC x (uO x c a):=
 (tK ok _ _).then fun y p g1 _=>(tK g1.ok _ _).then fun z q g2 _=>(tK g2.ok _ _).BN (aU 1)
theorem KQ:∀(l:List Nat)(x:Gr)(c:Nat),x.Ok->c<x.lits->jC x (l6 x c l)
 |[],x,c,ok,hc=>⟨.refl ok,fun d hd=>by cases hd;exact hc⟩
 |a::l,x,c,ok,hc=>(Ew ok c a).then fun y d g hd=>KQ l y d g.ok hd
theorem Xi(turn:Nat)(l:List Nat)(x:Gr)(c:Nat)(ok:x.Ok)(hc:c<x.lits):jC x (iA turn x c l):=Kb turn l x c ok hc
theorem wu(x:Gr):0<x.lits:=by unfold Gr.lits Gr.all Gr.first;omega
theorem wa{turn:Nat}(ht:turn<=1){x:Gr}(ok:x.Ok){l:List Nat}(hl:∀a∈l,a<x.lits):jC x (fN turn x l):=by
 cases l with
 |nil=>exact⟨.refl ok,fun d hd=>by cases hd;exact wu x⟩
 |cons a r=>exact Xi turn r x _ ok (lQ (n:=x.all) ht (hl a (by simp)))
theorem Xb{x:Gr}(ok:x.Ok){l:List Nat}(hl:∀a∈l,a<x.lits):jC x (uC x l):=by
 cases l with
 |nil=>exact⟨.refl ok,fun d hd=>by cases hd;exact wu x⟩
 |cons a r=>exact KQ r x _ ok (hl a (by simp))
theorem O8{a t:Nat}(ht:t<=1)(ha:(a:Int)<2^60):gv .xor .i64 (a:Int) (t:Int)=some ((a^^^t:Nat):Int):=by
 have:=F0 (x:=a) (a:=t) ha;rwa[Nat.mod_eq_of_lt (by omega)]at this
theorem mL{x:Gr}(ok:x.Ok):x.lits<=2^14:=by
 have h1:=ok.ins;have h2:=ok.sum
 unfold Gr.lits Gr.all Gr.first
 omega
theorem Me(a t:Nat)(ht:t<=1)(ha:(a:Int)<2^60){q:Nat}{h:List Ob}(hq:h[q]? =some (.cells [iN t])):∀up,AM.Reach Tryz.prog Γ (.cl vw [iN a,.ptr q 0] up h) (.back up (iN (a^^^t)) h):=by
 intro up;refine .bF 60 TG ?_;simp[hq,O8 ht ha]
set_option maxRecDepth 8000 in
theorem acy(turn:Nat)(ht:turn<=1)(l:List Nat)(hl:l.length<2^40){fl:Bool}{k:Nat}(hk:Kd 1 k l)(i L:Nat)(up:List Fr):∀n j:Nat,j+n=l.length->∀(x:Gr)(c:Nat)(h:List Ob),h.length=L->h[i]? =some (cz x)->cO h->x.Ok->c<x.lits->(∀a∈l,a<x.lits)->
 AM.Reach Tryz.prog Γ (yCX (.ptr i 0) (.fn (.func vw) [] [.ptr L 0]) (iN c) (.list fl k (l.map iN)) (.int .i64 l.length) (.int .i64 j) (h++[.cells [iN turn]]) ⟨[],.norm,L,up⟩) (cK iN i up (h++[.cells [iN turn]]) (iA turn x c (l.drop j))):=by
 intro n
 induction n with
 |zero=>
  intro j hj x c h hL hi hw ok hc hlt
  have q1:¬j<l.length:=by omega
  have hset:(h++[Ob.cells [iN turn]]).set i (cz x)=h++[.cells [iN turn]]:=wJ (fE hi _);rw[bw (by omega),iA];unfold cK;rw[hset];refine .bf 60 ?_;simp[q1]
 |succ n ih=>
  intro j hj x c h hL hi hw ok hc hlt;subst hL
  have q1:j<l.length:=by omega
  have q2:=cv (hk.of q1);have hle:=mL ok;have ha:=hlt _ (bC q1);have hil:=aV hi;have hT:=Me (Γ:=Γ) l[j] turn ht (by omega) (q:=h.length) (h:=h++[.cells [iN turn]]) (by simp)
  have hA:=fun up=>Be (Γ:=Γ) x ok c (l[j]^^^turn) (i:=i) (h:=h++[.cells [iN turn]]) (fE hi _) (by
   intro m hm;simp at hm
   simp[hw m (by omega)]) up
  rw[bM q1,iA]
  have hset:∀o:Ob,(h++[Ob.cells [iN turn]]).set i o=h.set i o++[.cells [iN turn]]:=fun o=>j8 _ _ hil
  have hset2:∀o o2:Ob,(h.set i o++[Ob.cells [iN turn]]).set i o2=h.set i o2++[.cells [iN turn]]:=fun o o2=>by rw[j8 _ _ (by simpa using hil),q_]
  refine .bf 60 ?_;simp[q1,q2];refine .bd 60 hT ?_;simp
  cases h9:eL x c (l[j]^^^turn)with
  |mk y r=>
   rw[h9]at hA;obtain⟨g1,g2⟩:=oF ok h9;unfold cK at hA⊢;simp only[hset]at hA⊢
   cases r with
   |none=>
    simp only at hA⊢;refine .jW 60 hA ?_;simp
   |some d=>
    simp only at hA⊢;have hh:=ih (j+1) (by omega) y d (h.set i (cz y)) (by simp) (by simp[hil]) (hw.set (fun m _=>by simp) i) g1.ok (g2 d rfl) (fun a ha=>gD (hlt a ha) g1.lits);unfold cK at hh;simp only[hset2]at hh;refine .bd 60 hA ?_;simp(disch:=omega);refine .aL ?_;simp[q2]at hh⊢;exact hh
set_option maxRecDepth 8000 in
theorem ND(turn:Nat)(ht:turn<=1)(l:List Nat)(h0:l≠[])(hl:l.length<2^40){fl:Bool}{k:Nat}(hk:Kd 1 k l){i:Nat}(x:Gr){h:List Ob}(hi:h[i]? =some (cz x))(hw:cO h)(ok:x.Ok)(hlt:∀a∈l,a<x.lits)(up:List Fr):
 AM.Reach Tryz.prog Γ (.cl sV [.ptr i 0,.list fl k (l.map iN),iN turn] up h) (cK iN i up h (fN turn x l)):=by
 cases l with
 |nil=>exact absurd rfl h0
 |cons a r=>
  have hle:=mL ok;have hil:=aV hi;have ha:=hlt a (by simp);simp at hl;obtain rfl:k=1:=hk.of (i:=0) (by simp);have hT:=Me (Γ:=Γ) a turn ht (by omega) (q:=h.length) (h:=h++[.cells [iN turn]]) (by simp);have hh:=acy (Γ:=Γ) turn ht r (by omega) (fl:=fl) (k:=1) .self i h.length up r.length 0 (by omega) x (a^^^turn) h rfl hi hw ok (lQ (n:=x.all) ht ha) (fun b hb=>hlt b (by simp[hb]));refine rI [.cells [iN turn]] hw hil (by simp) ?_;rw[fN];refine .bF 60 TU ?_;simp(disch:=omega);refine .bd 60 hT ?_;simp(disch:=omega);refine .inLoop ?_;simp at hh⊢;exact hh
theorem OQ(l:List Nat)(h0:l≠[])(hl:l.length<2^40){fl:Bool}{k:Nat}(hk:Kd 1 k l){i:Nat}(x:Gr){h:List Ob}(hi:h[i]? =some (cz x))(hw:cO h)(ok:x.Ok)(hlt:∀a∈l,a<x.lits)(up:List Fr):
 AM.Reach Tryz.prog Γ (.cl sY [.ptr i 0,.list fl k (l.map iN)] up h) (cK iN i up h (fN 0 x l)):=by
 have hA:=ND (Γ:=Γ) 0 (by omega) l h0 hl (fl:=fl) hk x hi hw ok hlt;refine .bF 60 TZ ?_;simp;unfold cK at hA⊢
 cases h9:(fN 0 x l).2<;>simp only[h9]at hA⊢
 ·refine .jW 60 hA ?_;simp
 ·refine .bd 60 hA ?_;simp
theorem OO(l:List Nat)(h0:l≠[])(hl:l.length<2^40){fl:Bool}{k:Nat}(hk:Kd 1 k l){i:Nat}(x:Gr){h:List Ob}(hi:h[i]? =some (cz x))(hw:cO h)(ok:x.Ok)(hlt:∀a∈l,a<x.lits)(up:List Fr):
 AM.Reach Tryz.prog Γ (.cl sX [.ptr i 0,.list fl k (l.map iN)] up h) (cK iN i up h (dZ (·^^^1) (fN 1 x l))):=by
 have hA:=ND (Γ:=Γ) 1 (by omega) l h0 hl (fl:=fl) hk x hi hw ok hlt;have hf:=wa (turn:=1) (by omega) ok hlt;have hle:=mL hf.1.ok;refine .bF 60 T3 ?_;simp;unfold cK at hA⊢;unfold dZ
 cases h9:(fN 1 x l).2 with
 |none=>
  simp only[h9,sH]at hA⊢;refine .jW 60 hA ?_;simp
 |some d=>
  have:=hf.2 d h9;simp only[h9,dt]at hA⊢;refine .bd 60 hA ?_;simp(disch:=omega) []
theorem ach{i:Nat}{a:AV}{h:List Ob}(up:List Fr):AM.Reach Tryz.prog Γ (.cl vz [.ptr i 0,a] up h) (.back up (.int .i64 0) h):=by
 refine .bF 60 TV ?_;simp
set_option maxRecDepth 8000 in
theorem acv(l:List Nat)(hl:l.length<2^40){fl:Bool}{k:Nat}(hk:Kd 1 k l)(i base:Nat)(up:List Fr):∀n j:Nat,j+n=l.length->∀(x:Gr)(c:Nat)(h:List Ob),h[i]? =some (cz x)->cO h->x.Ok->c<x.lits->(∀a∈l,a<x.lits)->
 AM.Reach Tryz.prog Γ (yGV (.ptr i 0) (iN c) (.list fl k (l.map iN)) (.int .i64 l.length) (.int .i64 j) h ⟨[],.norm,base,up⟩) (cK iN i up h (l6 x c (l.drop j))):=by
 intro n
 induction n with
 |zero=>
  intro j hj x c h hi hw ok hc hlt
  have q1:¬j<l.length:=by omega
  rw[bw (by omega),l6];unfold cK;simp only[wJ hi];refine .bf 60 ?_;simp[q1]
 |succ n ih=>
  intro j hj x c h hi hw ok hc hlt
  have q1:j<l.length:=by omega
  have q2:=cv (hk.of q1);have hle:=mL ok;have ha:=hlt _ (bC q1);have hil:=aV hi
  have hW:∀y:Gr,cO (h.set i (cz y)):=fun y=>hw.set (fun m _=>by simp) i
  have hI:∀y:Gr,(h.set i (cz y))[i]? =some (cz y):=fun y=>by simp[hil]
  have hA:=fun up=>Be (Γ:=Γ) x ok c (l[j]^^^1) hi hw up
  rw[bM q1,l6,uO];refine .bf 60 ?_;simp(disch:=omega) [q1,q2]
  cases h9:eL x c (l[j]^^^1)with
  |mk y r=>
   rw[h9]at hA;obtain⟨g1,g2⟩:=oF ok h9
   cases r with
   |none=>
    simp only[cK,eF]at hA⊢;refine .jW 60 hA ?_;simp
   |some p=>
    have hp:=g2 p rfl;have hl1:=g1.lits;have hle1:=mL g1.ok
    have hB:=fun up=>Be (Γ:=Γ) y g1.ok (c^^^1) l[j] (hI y) (hW y) up
    simp only[cK,eF]at hA⊢;refine .bd 60 hA ?_;simp(disch:=omega) []
    cases h10:eL y (c^^^1) l[j]with
    |mk z r=>
     rw[h10]at hB;obtain⟨g3,g4⟩:=oF g1.ok h10
     cases r with
     |none=>
      simp only[cK,q_]at hB⊢;refine .jW 60 hB ?_;simp
     |some q=>
      have hq:=g4 q rfl;have hl2:=g3.lits;have hle2:=mL g3.ok
      have hC:=fun up=>Be (Γ:=Γ) z g3.ok (p^^^1) (q^^^1) (hI z) (hW z) up
      simp only[cK,q_]at hB⊢;refine .bd 60 hB ?_;simp(disch:=omega) []
      cases h11:eL z (p^^^1) (q^^^1)with
      |mk w r=>
       rw[h11]at hC;obtain⟨g5,g6⟩:=oF g3.ok h11
       cases r with
       |none=>
        simp only[cK,q_,dZ,sH]at hC⊢;refine .jW 60 hC ?_;simp
       |some d=>
        have hd:=g6 d rfl;have hle3:=mL g5.ok;simp only[cK,q_,dZ,dt]at hC⊢;have hh:=ih (j+1) (by omega) w (d^^^1) (h.set i (cz w)) (hI w) (hW w) g5.ok (FZ (n:=w.all) hd) (fun a ha=>gD (hlt a ha) ((g1.trans g3).trans g5).lits);simp only[cK,q_]at hh;refine .bd 60 hC ?_;simp(disch:=omega) [];refine .aL ?_;simp[q2]at hh⊢;exact hh
theorem adk(l:List Nat)(h0:l≠[])(hl:l.length<2^40){fl:Bool}{k:Nat}(hk:Kd 1 k l){i:Nat}(x:Gr){h:List Ob}(hi:h[i]? =some (cz x))(hw:cO h)(ok:x.Ok)(hlt:∀a∈l,a<x.lits)(up:List Fr):
 AM.Reach Tryz.prog Γ (.cl sW [.ptr i 0,.list fl k (l.map iN)] up h) (cK iN i up h (uC x l)):=by
 cases l with
 |nil=>exact absurd rfl h0
 |cons a r=>
  simp at hl;obtain rfl:k=1:=hk.of (i:=0) (by simp);have hh:=acv (Γ:=Γ) r (by omega) (fl:=fl) (k:=1) .self i h.length up r.length 0 (by omega) x a h hi hw ok (hlt a (by simp)) (fun b hb=>hlt b (by simp[hb]));rw[uC];refine .bF 60 TY ?_;simp(disch:=omega);refine .inLoop ?_;simp at hh⊢;exact hh
abbrev Bs:=List UInt8
structure Lt where
 name:Bs
 next:Bs
 init:Int
 deriving DecidableEq
abbrev pC(q:Lt):AV:=.agg [.str q.name,.str q.next,.int .i64 q.init]
structure Gt where
 name:Bs
 op:Int
 ins:List Bs
 rows:List Bs
 off:Bool
 ki:Nat
 kr:Nat
 hi:Kd 1 ki ins
 hr:Kd 1 kr rows
abbrev dg(g:Gt):AV:=.agg [.str g.name,.int .i64 g.op,.list false g.ki (g.ins.map .str),.list false g.kr (g.rows.map .str),.bool g.off]
structure Ct where
 aB:List Bs
 aW:List Bs
 ak:List Lt
 af:List Gt
 kI:Nat
 kO:Nat
 kL:Nat
 kG:Nat
 hI:Kd 1 kI aB
 hO:Kd 1 kO aW
 hL:Kd 3 kL ak
 hG:Kd 5 kG af
abbrev bX(c:Ct):AV:=.agg [.list false c.kI (c.aB.map .str),.list false c.kO (c.aW.map .str),.list false c.kL (c.ak.map pC),.list false c.kG (c.af.map dg)]
def w7(g:Gt):Prop:=g.name.length<2^40/\g.ins.length<2^10/\g.rows.length<2^10/\(∀s∈g.ins,s.length<2^40)/\∀s∈g.rows,s.length<2^40
def cj(c:Ct):Prop:=c.aB.length<2^10/\c.aW.length<2^10/\c.ak.length<2^10/\c.af.length<2^10/\(∀g∈c.af,w7 g)/\
 (∀s∈c.aB,s.length<2^40)/\(∀s∈c.aW,s.length<2^40)/\∀q∈c.ak,q.name.length<2^40/\q.next.length<2^40
theorem Gy{α β:Type}(a:List β)(f:α->β)(l:List α){i:Nat}(h:i<l.length):a++(l.drop i).map f=a++[f l[i]]++(l.drop (i+1)).map f:=by
 rw[bM h,b9,eQ];rfl
def aD(c:Ct):List Bs:=c.aB++c.ak.map (·.name)++c.af.map (·.name)
structure Fm where
 kind:Int
 lit:Int
 kids:Int
 deriving DecidableEq
abbrev a8(f:Fm):AV:=.agg [.int .i64 f.kind,.int .i64 f.lit,.int .i64 f.kids]
end Go.Proofs.YtihmomicdpkabaaGreatDoor
