/- A list's elements' size. -/
import Derived.Test.YtchjijfjidlpjaaGreatDoorAMd
import Derived.Test.YtchjijfjidlpjaaGreatDoorCode
set_option linter.unusedSimpArgs false
set_option linter.unusedVariables false
namespace Go.Proofs.YtchjijfjidlpjaaGreatDoor
open Go.AM Go.Proofs
def Kd(n k:Nat){α:Type}(l:List α):Prop:=k=n\/l=[]
theorem Kd.of{n k:Nat}{α:Type}{l:List α}(h:Kd n k l){i:Nat}(hi:i<l.length):k=n:=by
 rcases h with h|h
 ·exact h
 ·subst h;simp at hi
theorem Kd.self{n:Nat}{α:Type}{l:List α}:Kd n n l:=.inl rfl
theorem Kd.nil{n k:Nat}{α:Type}:Kd n k ([]:List α):=.inr rfl
@[simp] abbrev i64(n:Int):AV:=.int .i64 n
abbrev iN(n:Nat):AV:=.int .i64 (n:Int)
end Go.Proofs.YtchjijfjidlpjaaGreatDoor
namespace Go.Proofs.YtchjijfjidlpjaaGreatDoor
open Go.AM Go.Proofs
variable{Γ:Nat->Option AV}
theorem Fg(a b:List Int){ka kb:Nat}(ha:Kd 1 ka a)(hb:Kd 1 kb b)(hs:a.length<2^60):aS Tryz.prog Γ s8 [.list false ka (a.map i64),.list false kb (b.map i64)] (.bool (decide (a=b))):=by
 refine .run 60 W0 (by simp) ?_
 by_cases hl:a.length=b.length
 ·have key:∀n i:Nat,i+n=a.length->aA Tryz.prog Γ (ysB (.list false ka (a.map i64)) (.list false kb (b.map i64)) (.int .i64 a.length) (.int .i64 i) []) (.ret (.bool (decide (a.drop i=b.drop i)))):=by
   intro n
   induction n with
   |zero=>
    intro i hi;refine .go 60 ?_
    have h1:¬i<a.length:=by omega
    have h2:a.drop i=b.drop i:=by rw[bA (by omega),bA (by omega)]
    simp[h1,h2];exact .back (by simp)
   |succ n ih=>
    intro i hi
    have h1:i<a.length:=by omega
    have h2:i<b.length:=by omega
    obtain rfl:=ha.of h1;obtain rfl:=hb.of h2;have h4:=drop_eq h1 h2;refine .go 60 ?_
    by_cases h3:a[i]=b[i]
    ·simp(disch:=omega) [h1,h2,h3,h4];refine .aO ?_;simpa using ih (i+1) (by omega)
    ·simp(disch:=omega) [h1,h2,h3,h4];exact .back (by simp)
  simp[hl];refine .inLoop ?_;simpa[hl]using key a.length 0 (by omega)
 ·have h2:¬a=b:=fun e=>hl (by rw[e])
  simp[hl,h2];exact .back (by simp)
theorem X5{φ:List Ob->Prop}{f:FuncId}{caps:List AV}{p:Int->Bool}{l:List Int}{k:Nat}{fl:Bool}(ha:jA Tryz.prog Γ φ f caps i64 p l)(hk:Kd 1 k l)(hs:l.length<2^60){h:List Ob}(hφ:φ h):
 ∀up,AM.Reach Tryz.prog Γ (.cl xD [.list fl k (l.map i64),.fn (.func f) [] caps] up h) (.back up (.int .i64 (eX p l 0)) h):=by
 intro up
 have key:∀n i:Nat,i+n=l.length->AM.Reach Tryz.prog Γ (ywH (.list fl k (l.map i64)) (.fn (.func f) [] caps) (.int .i64 l.length) (.int .i64 i) h ⟨[],.norm,h.length,up⟩) (.back up (.int .i64 (eX p (l.drop i) i)) h):=by
  intro n
  induction n with
  |zero=>
   intro i hi
   have h1:¬i<l.length:=by omega
   refine .a8 60 ?_;rw[bA (by omega)];simp[h1,eX]
  |succ n ih=>
   intro i hi
   have h1:i<l.length:=by omega
   obtain rfl:=hk.of h1;have h2:=ha.2 l[i] (bw h1);rw[bJ h1,eX];have hh:=ih (i+1) (by omega);refine .a8 60 ?_;simp[h1,ha.1];refine .aW 60 (fun up=>h2 up h hφ) ?_
   cases hp:p l[i]with
   |true=>simp(disch:=omega) [hp]
   |false=>
    simp(disch:=omega) [hp];refine .aO ?_;simp at hh⊢;exact hh
 refine .bt 60 WR ?_;simp;refine .inLoop ?_;have hh:=key l.length 0 (by omega);simp at hh⊢;exact hh
theorem Fl{φ:List Ob->Prop}{f:FuncId}{caps:List AV}{p:Int->Bool}{l:List Int}{k:Nat}{fl:Bool}(ha:jA Tryz.prog Γ φ f caps i64 p l)(hk:Kd 1 k l)(hs:l.length<2^60){h:List Ob}(hφ:φ h):
 ∀up,AM.Reach Tryz.prog Γ (.cl uJ [.list fl k (l.map i64),.fn (.func f) [] caps] up h) (.back up (.bool (bH p l)) h):=by
 intro up;refine .bt 60 WA ?_;simp;refine .aW 60 (X5 ha hk hs hφ) ?_;have h1:=CG p l 0
 cases hp:bH p l with
 |true=>rw[hp]at h1;simp at h1;simp[h1]
 |false=>
  rw[hp]at h1
  have h2:¬0<=eX p l 0:=by rw[h1];simp
  simp[h2]
structure Gr where
 ins:Int
 next:List Int
 init:List Int
 ands:List (Int×Int)
 outs:List Int
 kn:Nat
 ki:Nat
 ka:Nat
 ko:Nat
 hn:Kd 1 kn next
 hi:Kd 1 ki init
 ha:Kd 2 ka ands
 ho:Kd 1 ko outs
abbrev c8(p:Int×Int):AV:=.agg [.int .i64 p.1,.int .i64 p.2]
abbrev eQ(g:Gr):AV:=.agg [.int .i64 g.ins,.list false g.kn (g.next.map i64),.list false g.ki (g.init.map i64),.list false g.ka (g.ands.map c8),.list false g.ko (g.outs.map i64)]
def Gr.iA(g:Gr):Prop:=g.next.length<2^40/\g.init.length<2^40/\g.ands.length<2^40/\g.outs.length<2^40
def eG(n:Int)(a:Int):Bool:=decide (a<0)||decide (n<=a)
def uo(a:Int):Bool:=decide (a<0)||decide (2<a)
def ov:List (Int×Int)->Nat->Bool
 |[],_=>false
 |p::ps,n=>eG (2*n) p.1||eG (2*n) p.2||ov ps (n+1)
def Gr.first(g:Gr):Nat:=1+g.ins.toNat+g.next.length
def Gr.all(g:Gr):Nat:=g.first+g.ands.length
def Gr.lits(g:Gr):Nat:=2*g.all
def Gr.mS(g:Gr):Bool:=decide (g.ins<0)||decide (4000<g.ins)||decide (4000<g.ins+g.next.length+g.ands.length)||decide (4000<g.outs.length)
def Gr.check(g:Gr):Int:=
 if g.mS=true then 8 else if(!decide (g.init.length=g.next.length)||bH uo g.init||bH (eG g.lits) g.next||bH (eG g.lits) g.outs||ov g.ands g.first)=true then 1 else 0
theorem Rp{g:Gr}(h:g.mS=false):0<=g.ins/\g.ins<=4000/\g.ins+g.next.length+g.ands.length<=4000/\g.outs.length<=4000:=by
 simp only[Gr.mS,kJ,iD]at h;omega
theorem rM(g:Gr)(h0:0<=g.ins)(h1:g.ins<=4000)(h2:g.next.length<=4000):aS Tryz.prog Γ mf [eQ g] (.int .i64 g.first):=by
 refine .run 60 Mx (by simp) ?_
 have e1:1+g.ins+(g.next.length:Int)=(g.first:Int):=by unfold Gr.first;omega
 simp(disch:=omega) [e1];exact .back (by simp)
theorem Se(i:Nat)(all:Nat)(l:List Int):jA Tryz.prog Γ (fun h=>h[i]? =some (.cells [.int .i64 all])) Bv [.ptr i 0] i64 (eG all) l:=by
 refine⟨by simp,fun x _ up h hφ=>?_⟩;refine .bt 60 Yz ?_;unfold eG
 by_cases h1:x<0
 ·simp[hφ,h1]
 ·simp[hφ,h1]
theorem ahv(l:List Int):jA Tryz.prog Γ (fun _=>True) Bo [] i64 uo l:=by
 refine⟨by simp,fun x _ up h hφ=>?_⟩;refine .bt 60 YN ?_;unfold uo
 by_cases h1:x<0
 ·simp[h1]
 ·simp[h1]
theorem abl{l:List (Int×Int)}{i:Nat}(h:i<l.length)(n:Nat):ov (l.drop i) n=(eG (2*n) l[i].1||eG (2*n) l[i].2||ov (l.drop (i+1)) (n+1)):=by
 rw[bJ h,ov]
set_option maxRecDepth 8000 in
theorem vf(g:Gr)(hf:g.iA):aS Tryz.prog Γ rK [eQ g] (.int .i64 g.check):=by
 obtain⟨f1,f2,f3,f4⟩:=hf;refine .run 60 Z5 (by simp) ?_;unfold Gr.check
 cases hl:g.mS with
 |true=>
  simp only[cy];unfold Gr.mS at hl
  by_cases c1:g.ins<0
  ·simp[c1];exact .back (by simp)
  by_cases c2:4000<g.ins
  ·simp[c1,c2];exact .back (by simp)
  by_cases c3:4000<g.ins+g.next.length+g.ands.length
  ·simp(disch:=omega) [c1,c2,c3];exact .back (by simp)
  have c4:(4000:Int)<g.outs.length:=by
   simp only[c1,c2,c3,nV,oW,aZ]at hl;omega
  simp(disch:=omega) [c1,c2,c3,c4];exact .back (by simp)
 |false=>
  obtain⟨l1,l2,l3,l4⟩:=Rp hl
  have c1:¬g.ins<0:=by omega
  have c2:¬4000<g.ins:=by omega
  have c3:¬4000<g.ins+g.next.length+g.ands.length:=by omega
  have c4:¬(4000:Int)<g.outs.length:=by omega
  have hpf:=rM (Γ:=Γ) g l1 l2 (by omega)
  have e1:(g.first:Int)+g.ands.length=g.all:=by unfold Gr.all;omega
  have e2:2*(g.all:Int)=g.lits:=by unfold Gr.lits;omega
  have hfl:g.first<=8001:=by unfold Gr.first;omega
  have hal:g.all<=12001:=by unfold Gr.all;omega
  simp(disch:=omega) [c1,c2,c3,c4];refine .dr 60 ?_;simp;refine .quiet hpf (fun _=>rfl) (by simp) ?_;simp(disch:=omega) [e1,e2]
  by_cases d1:g.init.length=g.next.length
  ·simp[d1];refine .aW 60 (Fl (ahv g.init) g.hi (by omega) (by trivial)) ?_
   cases d2:bH uo g.init with
   |true=>simp;exact .back (by simp)
   |false=>
    simp;refine .aW 60 (Fl (Se 1 g.lits g.next) g.hn (by omega) (by simp)) ?_
    cases d3:bH (eG g.lits) g.next with
    |true=>simp;exact .back (by simp)
    |false=>
     simp;refine .aW 60 (Fl (Se 1 g.lits g.outs) g.ho (by omega) (by simp)) ?_
     cases d4:bH (eG g.lits) g.outs with
     |true=>simp;exact .back (by simp)
     |false=>
      simp;refine .inLoop ?_;simp
      have key:∀n i:Nat,i+n=g.ands.length->aA Tryz.prog Γ (yoo (.ptr 0 0) (.list false g.ka (g.ands.map c8)) (.int .i64 g.ands.length) (.int .i64 i)
       [.cells [.int .i64 g.ins,.list false g.kn (g.next.map i64),.list false g.ki (g.init.map i64),.list false g.ka (g.ands.map c8),.list false g.ko (g.outs.map i64)],.cells [.int .i64 g.lits]]) (.ret (.int .i64 (if ov (g.ands.drop i) (g.first+i)=true then 1 else 0))):=by
       intro n
       induction n with
       |zero=>
        intro i hi
        have q1:¬i<g.ands.length:=by omega
        refine .go 60 ?_;rw[bA (by omega)];simp[q1,ov];exact .back (by simp)
       |succ n ih=>
        intro i hi
        have q1:i<g.ands.length:=by omega
        have q2:=bR (g.ha.of q1);have hh:=ih (i+1) (by omega)
        have q3:2*((g.first:Int)+i)=((2*(g.first+i):Nat):Int):=by omega
        rw[abl q1];unfold eG;refine .go 60 ?_;simp(disch:=omega) [q1,q2];refine .call 60 (by simp) hpf ?_
        by_cases r1:g.ands[i].1<0
        ·simp(disch:=omega) [r1];exact .back (by simp)
        by_cases r2:g.ands[i].2<0
        ·simp(disch:=omega) [r1,r2];exact .back (by simp)
        by_cases r3:2*((g.first:Int)+i)<=g.ands[i].1
        ·simp(disch:=omega) [r1,r2,r3];exact .back (by simp)
        by_cases r4:2*((g.first:Int)+i)<=g.ands[i].2
        ·simp(disch:=omega) [r1,r2,r3,r4];exact .back (by simp)
        simp(disch:=omega) [r1,r2,r3,r4];refine .aO ?_;simp;refine .drop 2 rfl (by simp) (by simp) (by simp) ?_;simp at hh⊢;rw[show g.first+(i+1)=g.first+i+1 by omega]at hh;exact hh
      have hh:=key g.ands.length 0 (by omega);simp at hh⊢;exact hh
  ·simp[d1];exact .back (by simp)
def bW(v:List Bool)(a:Nat):Bool:=v.getD (a/2) false !=decide (a%2=1)
theorem adA{l:List (Int×Int)}{n:Nat}(h:ov l n=false):∀i(hi:i<l.length),(0<=l[i].1/\l[i].1<2*(n+i))/\0<=l[i].2/\l[i].2<2*(n+i):=by
 induction l generalizing n with
 |nil=>intro i hi;simp at hi
 |cons p l ih=>
  simp only[ov,kJ,eG,iD]at h;intro i hi
  cases i with
  |zero=>simp;omega
  |succ i=>
   have:=ih h.2 i (by simpa using hi);simp at this⊢;omega
structure Gr.Ok(g:Gr):Prop where
 ins:0<=g.ins/\g.ins<=4000
 sum:g.ins+g.next.length+g.ands.length<=4000
 ju:g.outs.length<=4000
 same:g.init.length=g.next.length
 init:∀a∈g.init,0<=a/\a<=2
 next:∀a∈g.next,0<=a/\a<g.lits
 outs:∀a∈g.outs,0<=a/\a<g.lits
 ands:∀i(hi:i<g.ands.length),(0<=g.ands[i].1/\g.ands[i].1<2*(g.first+i))/\0<=g.ands[i].2/\g.ands[i].2<2*(g.first+i)
theorem Gr.qP{g:Gr}(h:g.check=0):g.Ok:=by
 unfold Gr.check at h
 split at h
 ·simp at h
 ·rename_i hl;have hl:=Rp (by simpa using hl)
  split at h
  ·simp at h
  ·rename_i hb;simp only[Bool.not_eq_true,kJ,E4,aZ]at hb;obtain⟨⟨⟨⟨b1,b2⟩,b3⟩,b4⟩,b5⟩:=hb;refine⟨⟨hl.1,hl.2.1⟩,hl.2.2.1,hl.2.2.2,b1,?_,?_,?_,adA b5⟩
   ·intro a ha;have:=kR.1 b2 a ha;simp[uo]at this;omega
   ·intro a ha;have:=kR.1 b3 a ha;simp[eG]at this;omega
   ·intro a ha;have:=kR.1 b4 a ha;simp[eG]at this;omega
def cg:List (Int×Int)->List Bool->List Bool
 |[],v=>v
 |p::ps,v=>cg ps (v++[bW v p.1.toNat&&bW v p.2.toNat])
theorem ze:∀(l:List (Int×Int))(v:List Bool),(cg l v).length=v.length+l.length
 |[],v=>by simp[cg]
 |p::ps,v=>by rw[cg,ze ps];simp;omega
theorem xY:∀(a b:List (Int×Int))(v:List Bool),cg (a++b) v=cg b (cg a v)
 |[],b,v=>rfl
 |p::ps,b,v=>by rw[eo,cg,cg,xY ps]
def Gr.ux(g:Gr)(state ins:List Bool):List Bool:=cg g.ands (false::(ins++state))
def Gr.fits(g:Gr)(state ins:List Bool):Bool:=decide (state.length=g.next.length)&&decide ((ins.length:Int)=g.ins)
def Gr.ia(g:Gr)(state ins:List Bool):Int:=if g.check≠0 then g.check else if g.fits state ins=true then 0 else 11
def Gr.values(g:Gr)(state ins:List Bool):List Bool:=if g.ia state ins=0 then g.ux state ins else[]
def sb(v:List Bool)(l:List Int):List Bool:=l.map fun a=>bW v a.toNat
@[simp] theorem az5(v:List Bool)(l:List Int):(sb v l).length=l.length:=by simp[sb]
def Gr.ic(g:Gr)(state ins:List Bool):List Bool:=if g.ia state ins=0 then sb (g.ux state ins) g.outs else[]
def Gr.mD(g:Gr)(state ins:List Bool):List Bool:=if g.ia state ins=0 then sb (g.ux state ins) g.next else[]
theorem Gr.ai3{g:Gr}{state ins:List Bool}(h:g.ia state ins=0):g.Ok/\state.length=g.next.length/\(ins.length:Int)=g.ins:=by
 unfold Gr.ia at h
 by_cases hc:g.check=0
 ·refine⟨Gr.qP hc,?_⟩;simp only[hc,ne_eq,not_true,da]at h
  by_cases hf:g.fits state ins=true
  ·simp only[Gr.fits,ay,aZ]at hf;exact hf
  ·simp[hf]at h
 ·simp[hc]at h
end Go.Proofs.YtchjijfjidlpjaaGreatDoor
namespace Go.Proofs.YtchjijfjidlpjaaGreatDoor
open Go.AM Go.Proofs
def iw(p:Int×Int):List (Int×Int)->Nat->Option Nat
 |[],_=>none
 |q::qs,i=>if q=p then some i else iw p qs (i+1)
theorem FO(p:Int×Int):∀(a b:List (Int×Int))(i:Nat),iw p (a++b) i=match iw p a i with|some j=>some j|none=>iw p b (i+a.length)
 |[],b,i=>by simp[iw]
 |q::a,b,i=>by
  rw[eo,iw,iw]
  by_cases h:q=p
  ·simp[h]
  ·rw[if_neg h,if_neg h,FO p a b (i+1),bE,show i+1+a.length=i+(a.length+1) by omega]
theorem GP{p:Int×Int}:∀{l:List (Int×Int)}{i k:Nat},iw p l i=some k->i<=k/\∃h:k-i<l.length,l[k-i]=p
 |[],i,k,h=>by simp[iw]at h
 |q::l,i,k,h=>by
  rw[iw]at h
  by_cases hq:q=p
  ·rw[if_pos hq]at h
   cases h
   exact⟨aQ _,by simp,by simp[hq]⟩
  ·rw[if_neg hq]at h;obtain⟨h1,h2,h3⟩:=GP h;refine⟨by omega,by simp;omega,?_⟩
   have e:k-i=(k-(i+1))+1:=by omega
   simp only[e,sV];exact h3
theorem GY{p:Int×Int}:∀{l:List (Int×Int)}{i:Nat},iw p l i=none↔p∉l
 |[],i=>by simp[iw]
 |q::l,i=>by
  rw[iw]
  by_cases hq:q=p
  ·simp[hq]
  ·rw[if_neg hq,GY (l:=l)];simp[hq,Ne.symm hq]
def lY(p q:Nat):Option Nat:=if q=0\/p^^^1=q then some 0 else if q=1\/p=q then some p else none
def bO(first:Nat)(l:List (Int×Int))(a b:Nat):List (Int×Int)×Nat:=
 match lY (max a b) (min a b)with
 |some c=>(l,c)
 |none=>match iw (((max a b:Nat):Int),((min a b:Nat):Int)) l 0 with
  |some i=>(l,2*(first+i))
  |none=>(l++[(((max a b:Nat):Int),((min a b:Nat):Int))],2*(first+l.length))
def gO(p:Int×Int):List ((Int×Int)×Nat)->Option Nat
 |[]=>none
 |(q,n)::r=>if p=q then some n else gO p r
abbrev ir(x:(Int×Int)×Nat):AV×AV:=(c8 x.1,.int .i64 x.2)
theorem Gw(p q:Int×Int):cj (.jf [.int,.int]) (c8 p) (c8 q)=some (decide (p=q)):=by
 obtain⟨a,b⟩:=p;obtain⟨c,d⟩:=q;simp only[cj,bN,b9,gN,eV,bY]
 cases h1:(a==c)
 ·have:=rC.1 h1;simp[this]
 ·have e1:=eq_of_beq h1
  cases h2:(b==d)
  ·have:=rC.1 h2;simp[this]
  ·have e2:=eq_of_beq h2;simp[e1,e2]
theorem FI(p:Int×Int):∀l:List ((Int×Int)×Nat),eT (.jf [.int,.int]) (c8 p) (l.map ir)=some ((gO p l).map fun n:Nat=>AV.int .i64 (n:Int))
 |[]=>rfl
 |(q,n)::r=>by
  simp only[bU,eT,Gw,gO]
  by_cases h:p=q
  ·simp[h]
  ·simp only[h,nV,da];exact FI p r
theorem F9{p:Int×Int}{v:AV}:∀{l:List ((Int×Int)×Nat)},gO p l=none->gb (.jf [.int,.int]) (c8 p) v (l.map ir)=some (l.map ir++[(c8 p,v)])
 |[],_=>rfl
 |(q,n)::r,h=>by
  rw[gO]at h
  by_cases hq:p=q
  ·rw[if_pos hq]at h;cases h
  ·rw[if_neg hq]at h;simp only[bU,gb,Gw,hq,nV,F9 h,dm,eo]
theorem MA(n:Nat):∀a b:List (AV×AV),fa n (a++b)=(fa n a&&fa n b)
 |[],b=>by simp[fa]
 |(x,y)::a,b=>by simp[fa,MA n a b,oZ]
@[simp] theorem ac8(n:Nat):∀l:List ((Int×Int)×Nat),fa n (l.map ir)=true
 |[]=>rfl
 |x::r=>by simp[fa,ac8 n r]
@[simp] theorem ae0(n:Nat)(τ:List Nat):∀l:List ((Int×Int)×Nat),nO n τ (l.map ir)=l.map ir
 |[]=>rfl
 |x::r=>by simp[ae0 n τ r]
@[simp] theorem aek(n:Nat)(τ:List Nat):∀l:List ((Int×Int)×Nat),rm n τ (l.map ir)=true
 |[]=>rfl
 |x::r=>by simp[aek n τ r]
@[simp] theorem ab3(n m:Nat):∀l:List ((Int×Int)×Nat),oB n m (l.map ir)=true
 |[]=>rfl
 |x::r=>by simp[ab3 n m r]
def kv(first:Nat)(l:List (Int×Int))(es:List ((Int×Int)×Nat)):Prop:=∀p,gO p es=(iw p l 0).map fun i=>2*(first+i)
theorem Ma(p:Int×Int):∀(a b:List ((Int×Int)×Nat)),gO p (a++b)=match gO p a with|some n=>some n|none=>gO p b
 |[],b=>rfl
 |(q,n)::a,b=>by
  rw[eo,gO,gO]
  by_cases h:p=q
  ·simp[h]
  ·rw[if_neg h,if_neg h,Ma p a b]
theorem Hu(first:Nat):kv first [] []:=fun p=>rfl
theorem adF{first:Nat}{l:List (Int×Int)}{es:List ((Int×Int)×Nat)}(h:kv first l es){p:Int×Int}{n:Nat}(hp:gO p es=some n):kv first (l++[p]) es:=by
 intro q;rw[h q,FO]
 cases hq:iw q l 0 with
 |some j=>rfl
 |none=>
  have h2:=h p;rw[hp]at h2
  have hne:p≠q:=by
   rintro rfl
   rw[hq]at h2
   cases h2
  simp[iw,hne]
theorem Pk{first:Nat}{l:List (Int×Int)}{es:List ((Int×Int)×Nat)}(h:kv first l es){p:Int×Int}(hp:gO p es=none):kv first (l++[p]) (es++[(p,2*(first+l.length))]):=by
 intro q;rw[Ma,FO,h q]
 cases hq:iw q l 0 with
 |some j=>rfl
 |none=>
  simp only[uC,gO,iw,iZ]
  by_cases he:q=p
  ·simp[he]
  ·rw[if_neg he,if_neg (fun h1=>he h1.symm)];rfl
end Go.Proofs.YtchjijfjidlpjaaGreatDoor
namespace Go.Proofs.YtchjijfjidlpjaaGreatDoor
open Go.AM Go.Proofs
variable{Γ:Nat->Option AV}
theorem LK(l:List (Int×Int)){k:Nat}(hk:Kd 2 k l)(hl:l.length<2^40):aS Tryz.prog Γ A8 [.list false k (l.map c8)] (.own 2 cT (l.map c8)):=by
 refine .run 60 WS (by simp) ?_
 cases l with
 |nil=>
  simp;refine .either 0 (by simp) (fun b=>?_)
  cases b
  ·refine .go 9 ?_;simp;refine .rX 2 2 cT rfl (by omega) ?_;refine .go 60 ?_;simp;exact .back (by simp)
  ·refine .go 60 ?_;simp;exact .back (by simp)
 |cons x xs=>
  have hk0:k=2:=by
   rcases hk with h|h
   ·exact h
   ·cases h
  subst hk0;simp at hl;simp(disch:=(first|omega|(simp;omega)));exact .back (by simp)
def UL(h:List Ob):Prop:=∀m,h.length<=m->cr m h=true
abbrev cJ(g:Gr):Ob:=.cells [.int .i64 g.ins,.list false g.kn (g.next.map i64),.list false g.ki (g.init.map i64),.list false g.ka (g.ands.map c8),.list false g.ko (g.outs.map i64)]
def sn(first:Nat):List (Int×Int)->Nat->List ((Int×Int)×Nat)->List ((Int×Int)×Nat)
 |[],_,es=>es
 |p::ps,i,es=>sn first ps (i+1) (if(gO p es).isSome=true then es else es++[(p,2*(first+i))])
theorem OS(first:Nat):∀(ps l:List (Int×Int))(es:List ((Int×Int)×Nat)),kv first l es->kv first (l++ps) (sn first ps l.length es)
 |[],l,es,h=>by simpa[sn]using h
 |p::ps,l,es,h=>by
  rw[sn]
  have e:l++p::ps=(l++[p])++ps:=by simp
  have e2:l.length+1=(l++[p]).length:=by simp
  rw[e,e2]
  refine OS first ps (l++[p]) _ ?_
  cases hf:gO p es with
  |none=>simpa using Pk h hf
  |some n=>simpa using adF h hf
def Gr.bj(g:Gr):List ((Int×Int)×Nat):=sn g.first g.ands 0 []
theorem Gr.Q9(g:Gr):kv g.first g.ands g.bj:=by
 have:=OS g.first g.ands [] [] (Hu _)
 rw[j3]at this;exact this
abbrev I2(g:Gr)(r n m:Nat)(come:AV):Ob:=.cells [.int .i64 g.ins,.list false g.kn (g.next.map i64),.list false g.ki (g.init.map i64),.sl r 0 n,.list false g.ko (g.outs.map i64),.mp m,come]
set_option maxRecDepth 8000 in
theorem adx(g:Gr)(ok:g.Ok)(h:List Ob)(hw:UL h)(up:List Fr):∀n i:Nat,i+n=g.ands.length->∀es,AM.Reach Tryz.prog Γ
 (ytX (.ptr h.length 0) (.ptr (h.length+2) 0) (.list false g.ka (g.ands.map c8)) (.int .i64 g.ands.length) (.int .i64 i) (h++[cJ g,.map (es.map ir) true,I2 g (h.length+3) g.ands.length (h.length+1) (.list true 0 []),.row 2 cT (g.ands.map c8) none true false]) ⟨[],.norm,h.length,up⟩)
 (.back up (.ptr (h.length+2) 0) (h++[cJ g,.map ((sn g.first (g.ands.drop i) i es).map ir) true,I2 g (h.length+3) g.ands.length (h.length+1) (.list true 0 []),.row 2 cT (g.ands.map c8) none true false])):=by
 have o1:=ok.ins;have o3:=ok.sum;have hf:=rM (Γ:=Γ) g o1.1 o1.2 (by omega)
 have hfb:g.first<=8001:=by unfold Gr.first;omega
 intro n
 induction n with
 |zero=>
  intro i hi es
  have q1:¬i<g.ands.length:=by omega
  rw[bA (by omega)];refine .a8 60 ?_;simp[q1,sn]
 |succ n ih=>
  intro i hi es
  have q1:i<g.ands.length:=by omega
  have q2:=bR (g.ha.of q1);rw[bJ q1,sn];have hfi:=FI g.ands[i] es;have hbw:=hw (h.length+4) (by omega)
  cases hfe:gO g.ands[i] es with
  |some c=>
   rw[hfe]at hfi;have hh:=ih (i+1) (by omega) es;refine .a8 60 ?_;simp(disch:=omega) [q1,q2,hfi,isKey,bN,b9];refine .aO ?_;simp;refine .oj (h.length+4) (by simp;rfl) (by simp) (by simp) (by simp[hbw]) ?_;simp at hh⊢;exact hh
  |none=>
   rw[hfe]at hfi;have hh:=ih (i+1) (by omega) (es++[(g.ands[i],2*(g.first+i))]);have hput:=F9 (v:=.int .i64 (2*((g.first:Int)+i))) hfe;refine .a8 60 ?_;simp[q1,q2,hfi,isKey,bN,b9];refine .ea 60 ?_;simp[q1,q2];refine .call (by simp) hf ?_;simp(disch:=omega) [hput,isKey,bN,b9];refine .aO ?_;simp;refine .oj (h.length+4) (by simp;rfl) (by simp) (by simp) (by simp[hbw,MA]) ?_;simp[hfe]at hh⊢;exact hh
set_option maxRecDepth 8000 in
theorem afK(g:Gr)(ok:g.Ok)(hfew:g.ands.length<2^40)(h:List Ob)(hw:UL h):∀up,AM.Reach Tryz.prog Γ (.cl tw [eQ g] up h)
 (.back up (.ptr (h.length+2) 0) (h++[cJ g,.map (g.bj.map ir) true,I2 g (h.length+3) g.ands.length (h.length+1) (.list true 0 []),.row 2 cT (g.ands.map c8) none true false])):=by
 intro up;refine .bt 60 Mm ?_;simp;refine .kW 60 (by simp) (LK (Γ:=Γ) g.ands g.ha hfew) ?_;simp;refine .inLoop ?_;have hh:=adx (Γ:=Γ) g ok h hw up g.ands.length 0 (by omega) [];simp at hh⊢;exact hh
abbrev Gr.jE(g:Gr)(l:List (Int×Int)):Gr:={g with ands:=l,ka:=2,ha:=.self}
@[simp] theorem Gr.az6(g:Gr)(l:List (Int×Int)):(g.jE l).first=g.first:=rfl
@[simp] theorem aA4(a b:Nat):ra (.int .i64 (a:Int)) [.int .i64 (b:Int)]=some (.int .i64 ((max a b:Nat):Int)):=by
 simp only[ra,cy];congr 2;split<;>omega
@[simp] theorem aAS(a b:Nat):mL (.int .i64 (a:Int)) [.int .i64 (b:Int)]=some (.int .i64 ((min a b:Nat):Int)):=by
 simp only[mL,cy];congr 2;split<;>omega
abbrev Ai(g:Gr)(x1 x2 x4:AV)(r n m:Nat)(come:AV):Ob:=.cells [.int .i64 g.ins,x1,x2,.sl r 0 n,x4,.mp m,come]
section
set_option maxRecDepth 8000 in
theorem RJ(a b c:Nat)(ha:a<2^20)(hb:b<2^20)(hk:lY (max a b) (min a b)=some c)(pb:AV)(h:List Ob):∀up,AM.Reach Tryz.prog Γ (.cl rG [pb,.int .i64 a,.int .i64 b] up h) (.back up (.int .i64 c) h):=by
 intro up
 have hle:min a b<=max a b:=by omega
 have hM:max a b<2^20:=by omega
 generalize hM':max a b=M at*;generalize hm':min a b=m at*;refine .bt 60 Fp ?_;unfold lY at hk;have hx:=nb M
 by_cases c1:m=0
 ·subst c1;simp at hk;subst hk;simp[hM',hm']
 ·by_cases c2:M^^^1=m
  ·rw[if_pos (Or.inr c2)]at hk
   cases hk
   have c3:((M^^^1:Nat):Int)=m:=by omega
   simp(disch:=omega) [hM',hm',c1,c3,c2]
  ·rw[if_neg (by simp[c1,c2])]at hk
   have c3:¬((M^^^1:Nat):Int)=m:=by omega
   by_cases c4:m=1
   ·rw[if_pos (Or.inl c4)]at hk
    cases hk
    have c5:((m:Int)=1)=True:=bR (by omega);simp(disch:=omega) [hM',hm',c1,c3,c2,c5]
   ·by_cases c6:M=m
    ·rw[if_pos (Or.inr c6)]at hk
     cases hk
     subst c6;have c5:((c:Int)=1)=False:=nY (by omega);simp(disch:=omega) [hM',hm',c1,c3,c2,c5]
    ·rw[if_neg (by simp[c4,c6])]at hk
     cases hk
end
section
variable{p q:List Ob}{x1 x2 x4 come:AV}
theorem NU{p q:Nat}(h:lY p q=none):q≠0/\p^^^1≠q/\q≠1/\p≠q:=by
 unfold lY at h
 split at h
 ·cases h
 ·split at h
  ·cases h
  ·omega
set_option maxRecDepth 8000 in
theorem RC(g:Gr)(hi:0<=g.ins/\g.ins<=4000)(hn:g.next.length<=4000)(l:List (Int×Int))(hl:l.length<2^20)(es:List ((Int×Int)×Nat))(he:kv g.first l es)(a b:Nat)(ha:a<2^20)(hb:b<2^20)(hk:lY (max a b) (min a b)=none)
 (hx1:∀s,view (p++s) x1=some (.list false g.kn (g.next.map i64)))(hx2:∀s,view (p++s) x2=some (.list false g.ki (g.init.map i64)))(hx4:∀s,view (p++s) x4=some (.list false g.ko (g.outs.map i64))):
 ∀up,AM.Reach Tryz.prog Γ (.cl rG [.ptr (p.length+1) 0,.int .i64 a,.int .i64 b] up (p++.map (es.map ir) true::Ai g x1 x2 x4 (p.length+2) l.length p.length come::.row 2 cT (l.map c8) none true false::q))
  (match gO (((max a b:Nat):Int),((min a b:Nat):Int)) es with
   |some c=>.back up (.int .i64 c) (p++.map (es.map ir) true::Ai g x1 x2 x4 (p.length+2) l.length p.length come::.row 2 cT (l.map c8) none true false::(q++[.cells [.int .i64 ((max a b:Nat):Int),.int .i64 ((min a b:Nat):Int)]]))
   |none=>.back up (.int .i64 (2*(g.first+l.length):Nat)) (p++.map ((es++[((((max a b:Nat):Int),((min a b:Nat):Int)),2*(g.first+l.length))]).map ir) true::Ai g x1 x2 x4 (p.length+2) (l.length+1) p.length come::
    .row 2 cT ((l++[(((max a b:Nat):Int),((min a b:Nat):Int))]).map c8) (some 0) true false::(q++[.cells [.int .i64 ((max a b:Nat):Int),.int .i64 ((min a b:Nat):Int)]]))):=by
 intro up;obtain⟨k1,k2,k3,k4⟩:=NU hk
 have hle:min a b<=max a b:=by omega
 have hM:max a b<2^20:=by omega
 generalize hM':max a b=M at*;generalize hm':min a b=m at*;have hx:=nb M
 have c3:¬((M^^^1:Nat):Int)=m:=by omega
 have hfe:=FI ((M:Int),(m:Int)) es;have c5:((m:Int)=1)=False:=nY (by omega);have c7:((M:Int)=m)=False:=nY (by omega)
 cases hf:gO ((M:Int),(m:Int)) es with
 |some c=>
  rw[hf]at hfe;have hfe:eT (.jf [.int,.int]) (.agg [.int .i64 M,.int .i64 m]) (es.map ir)=some (some (.int .i64 (c:Int))):=hfe;simp only;refine .bt 60 Fp ?_;simp(disch:=omega) [hM',hm',k1,k2,k3,k4,c3,c5,c7,isKey,bN,b9,hfe];refine .a8 60 ?_;simp[isKey,bN,b9,hfe]
 |none=>
  rw[hf]at hfe;simp only;refine .bt 60 Fp ?_;have hfe:eT (.jf [.int,.int]) (.agg [.int .i64 M,.int .i64 m]) (es.map ir)=some none:=hfe;simp(disch:=omega) [hM',hm',k1,k2,k3,k4,c3,c5,c7,isKey,bN,b9,hfe];refine .a8 60 ?_;simp[isKey,bN,b9,hfe];have hf1:=rM (Γ:=Γ) (g.jE l) hi.1 hi.2 hn
  have hfb:g.first<=8001:=by unfold Gr.first;omega
  have hput:=F9 (v:=.int .i64 (2*((g.first:Int)+l.length))) hf;refine .ea 60 ?_;simp;refine .call (by simp[hx1,hx2,hx4]) hf1 ?_;simp(disch:=omega);refine .ea 60 ?_;simp(disch:=(first|omega|(simp;omega))) [isKey,bN,b9,hput];simp[ir]
end
def fQ:Gr:=⟨0,[],[],[],[],0,0,0,0,.nil,.nil,.nil,.nil⟩
def Gr.kq(g:Gr)(a b:Int):Int:=if g.check≠0 then g.check else if eG g.lits a=true\/eG g.lits b=true then 1 else if 4000<g.ins+g.next.length+(bO g.first g.ands a.toNat b.toNat).1.length then 8 else 0
def Gr.ez(g:Gr)(a b:Int):Gr:=if g.kq a b=0 then g.jE (bO g.first g.ands a.toNat b.toNat).1 else fQ
def Gr.fw(g:Gr)(a b:Int):Nat:=if g.kq a b=0 then(bO g.first g.ands a.toNat b.toNat).2 else 0
theorem Cu(first:Nat)(l:List (Int×Int))(a b:Nat):(bO first l a b).1.length<=l.length+1:=by
 unfold bO
 split
 ·simp
 ·split<;>simp
theorem NC{first:Nat}{l:List (Int×Int)}{es:List ((Int×Int)×Nat)}(h:kv first l es){a b:Nat}(hk:lY (max a b) (min a b)=none):
 bO first l a b=match gO (((max a b:Nat):Int),((min a b:Nat):Int)) es with
  |some c=>(l,c)
  |none=>(l++[(((max a b:Nat):Int),((min a b:Nat):Int))],2*(first+l.length)):=by
 unfold bO;rw[hk,h]
 cases iw (((max a b:Nat):Int),((min a b:Nat):Int)) l 0<;>rfl
theorem vB{g:Gr}(ok:g.Ok)(l:List (Int×Int))(h1:g.ands.length<=l.length):((g.jE l).check=8)↔4000<g.ins+g.next.length+l.length:=by
 have o1:=ok.ins;have o2:=ok.ju;unfold Gr.check Gr.mS;simp only[Gr.jE]
 by_cases h:4000<g.ins+g.next.length+(l.length:Int)
 ·simp[h]
 ·have h2:(decide (g.ins<0)||decide (4000<g.ins)||decide (4000<g.ins+↑g.next.length+↑l.length)||decide (4000<g.outs.length))=false:=by simp;omega
  rw[if_neg (by rw[h2];simp)];simp only[h,iff_false]
  split<;>omega
theorem Zg(g:Gr):aS Tryz.prog Γ mf [eQ g] (.int .i64 (IntKind.i64.wrap (IntKind.i64.wrap (1+g.ins)+g.next.length))):=by
 refine .run 60 Mx (by simp) ?_;simp;exact .back (by simp)
theorem QJ{g:Gr}{a:Int}(h:eG g.lits a=false):0<=a/\a.toNat<g.lits/\(a.toNat:Int)=a:=by
 simp[eG]at h;omega
set_option maxRecDepth 8000 in
theorem acg(g:Gr)(hf:g.iA)(a b:Int):aS Tryz.prog Γ Ca [eQ g,.int .i64 a,.int .i64 b] (.aH [eQ (g.ez a b),.int .i64 (g.fw a b),.int .i64 (g.kq a b)]):=by
 refine .run 60 acZ (by simp) ?_;simp;refine .call 60 (by simp) (vf g hf) ?_;simp;refine .dr 60 ?_;simp;refine .call (by simp) (Zg g) ?_
 by_cases hc:g.check=0
 ·have ok:=Gr.qP hc;have o1:=ok.ins;have o3:=ok.sum;have o4:=ok.ju
  have e1:IntKind.i64.wrap (IntKind.i64.wrap (1+g.ins)+g.next.length)=(g.first:Int):=by
   rw[wrap64 (n:=1+g.ins) (by omega) (by omega),wrap64 (by omega) (by omega)];unfold Gr.first;omega
  have hfb:g.first<=8001:=by unfold Gr.first;omega
  have hall:g.all<=12001:=by unfold Gr.all;omega
  have e2:(2*((g.first:Int)+g.ands.length))=(g.lits:Int):=by unfold Gr.lits Gr.all;omega
  rw[e1]
  by_cases h1:eG g.lits a=true\/eG g.lits b=true
  ·have k1:g.kq a b=1:=by unfold Gr.kq;rw[if_neg (by simp[hc]),if_pos h1]
   have k2:g.ez a b=fQ:=by unfold Gr.ez;rw[k1,if_neg (by omega)]
   have k3:g.fw a b=0:=by unfold Gr.fw;rw[k1,if_neg (by omega)]
   rw[k1,k2,k3];simp only[eG,ff,aZ]at h1
   by_cases q1:a<0
   ·simp(disch:=omega) [hc,e2,q1,fQ];exact .back (by simp)
   ·by_cases q2:b<0
    ·simp(disch:=omega) [hc,e2,q1,q2,fQ];exact .back (by simp)
    ·by_cases q3:(g.lits:Int)<=a
     ·simp(disch:=omega) [hc,e2,q1,q2,q3,fQ];exact .back (by simp)
     ·have q4:(g.lits:Int)<=b:=by omega
      simp(disch:=omega) [hc,e2,q1,q2,q3,q4,fQ];exact .back (by simp)
  ·rw[not_or]at h1;obtain⟨a1,a2,a3⟩:=QJ (AZ.2 h1.1);obtain⟨b1,b2,b3⟩:=QJ (AZ.2 h1.2);have hlit:g.lits=2*g.all:=rfl;generalize hx:a.toNat=x at*;generalize hy:b.toNat=y at*;subst a3;subst b3
   have q1:¬((g.lits:Int)<=x):=by omega
   have q2:¬((g.lits:Int)<=y):=by omega
   simp(disch:=omega) [hc,e2,q1,q2];refine .aW 60 (afK g ok hf.2.2.1 _ (by intro m hm;simp at hm⊢;omega)) ?_;simp
   have hE0:g.kq (x:Int) (y:Int)=if 4000<g.ins+g.next.length+(bO g.first g.ands x y).1.length then 8 else 0:=by
    unfold Gr.kq;rw[if_neg (by simp[hc]),if_neg (by rw[not_or];exact h1),dX,dX]
   cases hK:lY (max x y) (min x y)with
   |some c=>
    have hG:bO g.first g.ands x y=(g.ands,c):=by unfold bO;rw[hK]
    have hE:=hE0;rw[hG]at hE;refine .aW 60 (RJ x y c (by omega) (by omega) hK _ _) ?_;simp;refine .call 60 (by simp) (vf (Γ:=Γ) (g.jE g.ands) ⟨hf.1,hf.2.1,by first|exact hf.2.2.1|(simp;have:=hf.2.2.1;omega),hf.2.2.2⟩) ?_
    by_cases q8:(g.jE g.ands).check=8
    ·have k1:=hE;rw[if_pos ((vB ok g.ands (by simp)).1 q8)]at k1
     have k2:g.ez (x:Int) (y:Int)=fQ:=by unfold Gr.ez;rw[k1,if_neg (by omega)]
     have k3:g.fw (x:Int) (y:Int)=0:=by unfold Gr.fw;rw[k1,if_neg (by omega)]
     rw[k1,k2,k3];simp[q8,fQ];exact .back (by simp)
    ·have k1:=hE;rw[if_neg (fun hh=>q8 ((vB ok g.ands (by simp)).2 hh))]at k1
     have k2:g.ez (x:Int) (y:Int)=g.jE g.ands:=by unfold Gr.ez;rw[k1,if_pos rfl];simp[hG]
     have k3:(g.fw (x:Int) (y:Int):Int)=(bO g.first g.ands x y).2:=by unfold Gr.fw;rw[k1,if_pos rfl];simp
     rw[k1,k2,k3,hG];simp[q8];exact .back (by simp)
   |none=>
    have hG:=NC g.Q9 hK;have hE:=hE0
    have key:=RC (Γ:=Γ) (p:=[cJ g,.cells [.int .i64 0,.sl 2 0 0,.sl 3 0 0,.sl 4 0 0,.sl 5 0 0],.row 1 aq [] none true false,.row 1 aq [] none true false,.row 2 cT [] none true false,.row 1 aq [] none true false,cJ g]) (q:=[])
     (x1:=.list false g.kn (g.next.map i64)) (x2:=.list false g.ki (g.init.map i64)) (x4:=.list false g.ko (g.outs.map i64)) (come:=.list true 0 []) g o1 (by omega) g.ands (by omega) g.bj g.Q9 x y (by omega) (by omega) hK (fun s=>by simp) (fun s=>by simp) (fun s=>by simp)
    cases hF:gO (((max x y:Nat):Int),((min x y:Nat):Int)) g.bj with
    |some c=>
     rw[hF]at hG key;simp only at hG key;rw[hG]at hE;simp at key;refine .aW 60 key ?_;simp;refine .call 60 (by simp) (vf (Γ:=Γ) (g.jE g.ands) ⟨hf.1,hf.2.1,by first|exact hf.2.2.1|(simp;have:=hf.2.2.1;omega),hf.2.2.2⟩) ?_
     by_cases q8:(g.jE g.ands).check=8
     ·have k1:=hE;rw[if_pos ((vB ok g.ands (by simp)).1 q8)]at k1
      have k2:g.ez (x:Int) (y:Int)=fQ:=by unfold Gr.ez;rw[k1,if_neg (by omega)]
      have k3:g.fw (x:Int) (y:Int)=0:=by unfold Gr.fw;rw[k1,if_neg (by omega)]
      rw[k1,k2,k3];simp[q8,fQ];exact .back (by simp)
     ·have k1:=hE;rw[if_neg (fun hh=>q8 ((vB ok g.ands (by simp)).2 hh))]at k1
      have k2:g.ez (x:Int) (y:Int)=g.jE g.ands:=by unfold Gr.ez;rw[k1,if_pos rfl];simp[hG]
      have k3:(g.fw (x:Int) (y:Int):Int)=(bO g.first g.ands x y).2:=by unfold Gr.fw;rw[k1,if_pos rfl];simp
      rw[k1,k2,k3,hG];simp[q8];exact .back (by simp)
    |none=>
     rw[hF]at hG key;simp only at hG key;rw[hG]at hE;simp at key;refine .aW 60 key ?_;generalize hnew:(((max x y:Nat):Int),((min x y:Nat):Int))=new at*;simp;refine .call 60 (by simp;rw[cR (by simp)]) (vf (Γ:=Γ) (g.jE (g.ands++[new])) ⟨hf.1,hf.2.1,by first|exact hf.2.2.1|(simp;have:=hf.2.2.1;omega),hf.2.2.2⟩) ?_
     by_cases q8:(g.jE (g.ands++[new])).check=8
     ·have k1:=hE;rw[if_pos ((vB ok (g.ands++[new]) (by simp)).1 q8)]at k1
      have k2:g.ez (x:Int) (y:Int)=fQ:=by unfold Gr.ez;rw[k1,if_neg (by omega)]
      have k3:g.fw (x:Int) (y:Int)=0:=by unfold Gr.fw;rw[k1,if_neg (by omega)]
      rw[k1,k2,k3];simp[q8,fQ];exact .back (by simp)
     ·have k1:=hE;rw[if_neg (fun hh=>q8 ((vB ok (g.ands++[new]) (by simp)).2 hh))]at k1
      have k2:g.ez (x:Int) (y:Int)=g.jE (g.ands++[new]):=by unfold Gr.ez;rw[k1,if_pos rfl];simp[hG]
      have k3:(g.fw (x:Int) (y:Int):Int)=(bO g.first g.ands x y).2:=by unfold Gr.fw;rw[k1,if_pos rfl];simp
      rw[k1,k2,k3,hG];simp[q8];exact .back (by simp;rw[cR (by simp)])
 ·have h1:g.kq a b=g.check:=by unfold Gr.kq;rw[if_pos hc]
  have h2:g.ez a b=fQ:=by unfold Gr.ez;rw[h1,if_neg hc]
  have h3:g.fw a b=0:=by unfold Gr.fw;rw[h1,if_neg hc]
  simp[hc,h1,h2,h3,fQ];exact .back (by simp)
theorem LM(l:List Int){k:Nat}(hk:Kd 1 k l)(hl:l.length<2^40):aS Tryz.prog Γ A9 [.list false k (l.map i64)] (.own 1 aq (l.map i64)):=by
 refine .run 60 WZ (by simp) ?_
 cases l with
 |nil=>
  simp;refine .either 0 (by simp) (fun b=>?_)
  cases b
  ·refine .go 9 ?_;simp;refine .rX 2 1 aq rfl (by omega) ?_;refine .go 60 ?_;simp;exact .back (by simp)
  ·refine .go 60 ?_;simp;exact .back (by simp)
 |cons x xs=>
  have hk0:k=1:=by
   rcases hk with h|h
   ·exact h
   ·cases h
  subst hk0;simp at hl;simp(disch:=(first|omega|(simp;omega)));exact .back (by simp)
theorem R2{p q:List Ob}{x1 x2 x4 come:AV}(g:Gr)(hi:0<=g.ins/\g.ins<=4000)(hn:g.next.length<=4000)(l:List (Int×Int))(hl:l.length<2^20)(es:List ((Int×Int)×Nat))(he:kv g.first l es)(a b:Nat)(ha:a<2^20)(hb:b<2^20)
 (hx1:∀s,view (p++s) x1=some (.list false g.kn (g.next.map i64)))(hx2:∀s,view (p++s) x2=some (.list false g.ki (g.init.map i64)))(hx4:∀s,view (p++s) x4=some (.list false g.ko (g.outs.map i64))):
 ∃(es':List ((Int×Int)×Nat))(gr:Option Nat)(junk:List Ob),kv g.first (bO g.first l a b).1 es'/\(gr=none\/gr=some 0)/\(junk=[]\/∃x y:Int,junk=[.cells [.int .i64 x,.int .i64 y]])/\
 ∀up,AM.Reach Tryz.prog Γ (.cl rG [.ptr (p.length+1) 0,.int .i64 a,.int .i64 b] up (p++.map (es.map ir) true::Ai g x1 x2 x4 (p.length+2) l.length p.length come::.row 2 cT (l.map c8) none true false::q))
  (.back up (.int .i64 ((bO g.first l a b).2:Nat)) (p++.map (es'.map ir) true::Ai g x1 x2 x4 (p.length+2) (bO g.first l a b).1.length p.length come::.row 2 cT ((bO g.first l a b).1.map c8) gr true false::(q++junk))):=by
 cases hK:lY (max a b) (min a b)with
 |some c=>
  have hG:bO g.first l a b=(l,c):=by unfold bO;rw[hK]
  rw[hG];exact⟨es,none,[],he,.inl rfl,.inl rfl,fun up=>by rw[ee];exact RJ a b c ha hb hK _ _ up⟩
 |none=>
  have hG:=NC he hK;have key:=RC (Γ:=Γ) (p:=p) (q:=q) (come:=come) g hi hn l hl es he a b ha hb hK hx1 hx2 hx4
  cases hF:gO (((max a b:Nat):Int),((min a b:Nat):Int)) es with
  |some c=>
   rw[hF]at hG key;simp only at hG key;rw[hG];exact⟨es,none,_,he,.inl rfl,.inr ⟨((max a b:Nat):Int),((min a b:Nat):Int),rfl⟩,key⟩
  |none=>
   rw[hF]at hG key;simp only at hG key;rw[hG];refine⟨_,some 0,_,Pk he hF,.inr rfl,.inr ⟨((max a b:Nat):Int),((min a b:Nat):Int),rfl⟩,fun up=>?_⟩;have:=key up;simp only[bu,bE,cS,iZ];exact this
theorem HV{x a:Nat}(hx:(x:Int)<2^60):gS .xor .i64 (x:Int) ((a%2:Nat):Int)=some ((x^^^(a%2):Nat):Int):=by
 rcases(show a%2=0\/a%2=1 by omega)with h|h
 ·rw[h,xq]
  have h1:(BitVec.ofInt 64 (x:Int)^^^BitVec.ofInt 64 ((0:Nat):Int)).toNat=x:=by
   have e1:BitVec.ofInt 64 ((0:Nat):Int)=0#64:=by decide
   rw[e1,BitVec.xor_zero,Lz];omega
  show some (IntKind.i64.wrap ((BitVec.ofInt 64 (x:Int)^^^BitVec.ofInt 64 ((0:Nat):Int)).toNat:Int))=_
  rw[h1,z7 (by omega)]
 ·rw[h];exact ajg x hx
def bo(to:List Nat)(a:Nat):Nat:=to.getD (a/2) 0^^^(a%2)
def eh(to:List Nat)(l:List Int):List Nat:=l.map fun a=>bo to a.toNat
@[simp] theorem aAP(to:List Nat)(l:List Int):(eh to l).length=l.length:=by simp[eh]
theorem Ns{to:List Nat}{l:List Int}{i:Nat}(h:i<l.length):eh to (l.take (i+1))=eh to (l.take i)++[bo to l[i].toNat]:=by
 rw[kK h];simp only[eh,j5,bU,jG]
section
variable{c0 c1 c2 c3 c4 c5:AV}
theorem we(to:List Nat)(hto:∀x∈to,x<2^40)(a:Nat)(h1:a/2<to.length)(ha:(a:Int)<2^60)(b r:Nat){E:TypeId}{gr:Option Nat}{fl sh:Bool}{h:List Ob}(hb:h[b]? =some (.cells [c0,c1,c2,c3,c4,c5,.sl r 0 to.length]))(hr:h[r]? =some (.row 1 E (to.map iN) gr fl sh))(hok:cM (to.map iN) gr 0 to.length=true):
 ∀up,AM.Reach Tryz.prog Γ (.cl o6 [.ptr b 0,.int .i64 a] up h) (.back up (.int .i64 (bo to a)) h):=by
 intro up
 have h3:((a/2:Nat):Int)<to.length:=by omega
 have h4:=hto _ (bw h1)
 have h5:to.getD (a/2) 0=to[a/2]:=by rw[bq,aR h1];rfl
 have h6:=HV (x:=to[a/2]) (a:=a) (by omega);refine .bt 60 Xt ?_;unfold bo;rw[h5];simp(disch:=omega) [-Int.natCast_ediv,-Int.natCast_emod,-cM,hok,hb,hr,h1,h3,h6]
end
set_option maxRecDepth 8000 in
theorem R'(to:List Nat)(hto:∀x∈to,x<2^40)(l:List Int){k:Nat}(hk:Kd 1 k l)(hl:l.length<2^40)(hlt:∀a∈l,0<=a/\a<2*to.length)(hbt:to.length<2^40){c0 c1 c2 c3 c4 c5:AV}(b r:Nat){E:TypeId}{h:List Ob}(hb:h[b]? =some (.cells [c0,c1,c2,c3,c4,c5,.sl r 0 to.length]))(hr:h[r]? =some (.row 1 E (to.map iN) none true false))
 (hv:∀m,cQ (h.length+1) m h=true):
 ∀up,AM.Reach Tryz.prog Γ (.cl td [.ptr b 0,.list false k (l.map i64)] up h) (.back up (.sl (h.length+1) 0 l.length) (h++[.row 1 aq [] none true false,.row 1 aq ((eh to l).map iN) none true false])):=by
 intro up
 have hb':∀os,(h++os)[b]? =some (.cells [c0,c1,c2,c3,c4,c5,.sl r 0 to.length]):=fun os=>fF hb os
 have hr':∀os,(h++os)[r]? =some (.row 1 E (to.map iN) none true false):=fun os=>fF hr os
 have key:∀n j:Nat,j+n=l.length->∀w,w=eh to (l.take j)->AM.Reach Tryz.prog Γ (Ta (.sl (h.length+1) 0 w.length) (.fn (.func o6) [.ptr b 0] []) (.list false k (l.map i64)) (.int .i64 l.length) (.int .i64 j)
  (h++[.row 1 aq [] none true false,.row 1 aq (w.map iN) none true false]) ⟨[],.norm,h.length,up⟩) (.back up (.sl (h.length+1) 0 l.length) (h++[.row 1 aq [] none true false,.row 1 aq ((eh to l).map iN) none true false])):=by
  intro n
  induction n with
  |zero=>
   intro j hj w hw
   have q1:¬j<l.length:=by omega
   rw[cR (by omega)]at hw;subst hw;refine .a8 60 ?_;simp[q1]
  |succ n ih=>
   intro j hj w hw
   have q1:j<l.length:=by omega
   have q2:=bR (hk.of q1);obtain⟨a1,a2⟩:=hlt l[j] (bw q1);obtain⟨x,hx⟩:=gB a1
   have hwl:w.length=j:=by rw[hw];simp;omega
   have hh:=ih (j+1) (by omega) _ rfl;rw[Ns q1,<-hw,hx]at hh;simp only[dX]at hh;have hc:=we (Γ:=Γ) to hto x (by omega) (by omega) b r (hb' [.row 1 aq [] none true false,.row 1 aq (w.map iN) none true false]) (hr' _) (by simp);refine .a8 60 ?_;simp(disch:=omega) [q1,q2,hx];refine .aW 60 hc ?_;simp(disch:=(first|omega|(simp;omega))) [q1,q2];refine .aO ?_;simp;refine .rU (i:=h.length+1) (by simp;exact⟨rfl,rfl,rfl,rfl,rfl⟩) (by simp) (by simp) (by simp[hv]) ?_;simp at hh⊢;exact hh
 refine .bt 60 LV ?_;simp;refine .inLoop ?_;have hh:=key l.length 0 (by omega) [] (by simp[eh]);simp at hh⊢;exact hh
set_option maxRecDepth 8000 in
theorem Ri(to:List Nat)(hto:∀x∈to,x<2^40)(l:List Int)(hl:l.length<2^40)(hlt:∀a∈l,0<=a/\a<2*to.length)(hbt:to.length<2^40){c0 c1 c2 c3 c4 c5:AV}(b r qq:Nat){E E2:TypeId}{h:List Ob}(hb:h[b]? =some (.cells [c0,c1,c2,c3,c4,c5,.sl r 0 to.length]))(hr:h[r]? =some (.row 1 E (to.map iN) none true false))
 (hq:h[qq]? =some (.row 1 E2 (l.map i64) none true false))(hv:∀m,cQ (h.length+1) m h=true):
 ∀up,AM.Reach Tryz.prog Γ (.cl td [.ptr b 0,.sl qq 0 l.length] up h) (.back up (.sl (h.length+1) 0 l.length) (h++[.row 1 aq [] none true false,.row 1 aq ((eh to l).map iN) none true false])):=by
 intro up
 have hb':∀os,(h++os)[b]? =some (.cells [c0,c1,c2,c3,c4,c5,.sl r 0 to.length]):=fun os=>fF hb os
 have hr':∀os,(h++os)[r]? =some (.row 1 E (to.map iN) none true false):=fun os=>fF hr os
 have hql:¬qq=h.length+1:=by have:=aV hq;omega
 have hq':∀os,(h++os)[qq]? =some (.row 1 E2 (l.map i64) none true false):=fun os=>fF hq os
 have key:∀n j:Nat,j+n=l.length->∀w,w=eh to (l.take j)->AM.Reach Tryz.prog Γ (Ta (.sl (h.length+1) 0 w.length) (.fn (.func o6) [.ptr b 0] []) (.sl qq 0 l.length) (.int .i64 l.length) (.int .i64 j)
  (h++[.row 1 aq [] none true false,.row 1 aq (w.map iN) none true false]) ⟨[],.norm,h.length,up⟩) (.back up (.sl (h.length+1) 0 l.length) (h++[.row 1 aq [] none true false,.row 1 aq ((eh to l).map iN) none true false])):=by
  intro n
  induction n with
  |zero=>
   intro j hj w hw
   have q1:¬j<l.length:=by omega
   rw[cR (by omega)]at hw;subst hw;refine .a8 60 ?_;simp[q1]
  |succ n ih=>
   intro j hj w hw
   have q1:j<l.length:=by omega
   obtain⟨a1,a2⟩:=hlt l[j] (bw q1);obtain⟨x,hx⟩:=gB a1
   have hwl:w.length=j:=by rw[hw];simp;omega
   have hh:=ih (j+1) (by omega) _ rfl;rw[Ns q1,<-hw,hx]at hh;simp only[dX]at hh;have hc:=we (Γ:=Γ) to hto x (by omega) (by omega) b r (hb' [.row 1 aq [] none true false,.row 1 aq (w.map iN) none true false]) (hr' _) (by simp);refine .a8 60 ?_;simp(disch:=omega) [q1,hq',hx];refine .aW 60 hc ?_;simp(disch:=(first|omega|(simp;omega))) [q1,hq'];refine .aO ?_;simp;refine .rU (i:=h.length+1) (by simp;exact⟨rfl,rfl,rfl,rfl,rfl⟩) (by simp) (by simp[hql]) (by simp[hv]) ?_;simp at hh⊢;exact hh
 refine .bt 60 LV ?_;simp;refine .inLoop ?_;have hh:=key l.length 0 (by omega) [] (by simp[eh]);simp at hh⊢;exact hh
abbrev qM(x:Nat×List Int):AV:=.list false x.1 (x.2.map i64)
def cH:List (Nat×List Int)->List Int
 |[]=>[]
 |x::xs=>x.2++cH xs
theorem Mt(a b:List (Nat×List Int)):cH (a++b)=cH a++cH b:=by
 induction a with
 |nil=>rfl
 |cons x a ih=>simp[cH,ih]
theorem N_(xs:List (Nat×List Int))(i:Nat)(h:i<xs.length):cH (xs.take (i+1))=cH (xs.take i)++xs[i].2:=by
 rw[kK h,Mt];simp[cH]
theorem Q5(xs:List (Nat×List Int))(i:Nat):(cH (xs.take i)).length<=(cH xs).length:=by
 conv=>rhs;rw[<-mT i xs,Mt]
 simp
set_option maxRecDepth 8000 in
theorem WX(xs:List (Nat×List Int))(hk:∀x∈xs,Kd 1 x.1 x.2)(hn:xs.length<2^40)(hs:(cH xs).length<2^40)(hp:0<(cH xs).length):
 aS Tryz.prog Γ rF [.list false 1 (xs.map qM)] (.own 1 aq ((cH xs).map i64)):=by
 refine .run 60 LL (by simp) ?_
 have key2:∀n i:Nat,i+n=xs.length->∀m:Nat,(cH (xs.take i)).length+m=(cH xs).length->
  aA Tryz.prog Γ (Uz (.sl 2 0 (cH (xs.take i)).length) (.list false 1 (xs.map qM)) (.int .i64 xs.length) (.int .i64 i) [.row 1 aq [] none true false,.row 1 aq [] none true false,.row 1 aq ((cH (xs.take i)).map i64++List.replicate m (AV.int .i64 0)) none true false])
   (.ret (.own 1 aq ((cH xs).map i64))):=by
  intro n
  induction n with
  |zero=>
   intro i hi m hm
   have q1:¬i<xs.length:=by omega
   have q2:xs.take i=xs:=cR (by omega);rw[q2]at hm⊢
   have hm0:m=0:=by omega
   subst hm0;refine .go 60 ?_;simp[q1];exact .back (by simp)
  |succ n ih=>
   intro i hi m hm
   have q1:i<xs.length:=by omega
   have q2:=N_ xs i q1;have q3:=Q5 xs (i+1);rw[q2,bu]at q3;have q4:=hk xs[i] (bw q1);have q5:xs[i].1=1\/xs[i].2=[]:=q4;have hh:=ih (i+1) (by omega) (m-xs[i].2.length) (by rw[q2,bu];omega);rw[q2]at hh
   have hd:(List.replicate m (AV.int .i64 0)).drop xs[i].2.length=List.replicate (m-xs[i].2.length) (AV.int .i64 0):=by simp
   refine .go 60 ?_
   by_cases q6:(cH (xs.take i)).length=(cH xs).length
   ·have q7:xs[i].2=[]:=lr.1 (by omega)
    have hm0:m=0:=by omega
    subst hm0;simp[q7]at hh;simp(disch:=(first|omega|(simp;omega))) [q1,q5,q7];refine .aO ?_;simp;exact hh
   ·simp(disch:=(first|omega|(simp;omega))) [q1,q5]
    by_cases q7:m=0
    ·omega
    ·have c1:¬(cH (List.take i xs)).length=(cH (List.take i xs)).length+m:=by omega
     have c2:(cH (List.take i xs)).length+xs[i].snd.length<=(cH (List.take i xs)).length+m:=by omega
     simp(disch:=(first|omega|(simp;omega))) [q1,q5,c1,c2,q7];refine .aO ?_;have pO:((cH (xs.take i)).map i64).drop ((cH (xs.take i)).length+xs[i].2.length)=[]:=bA (by simp);simp[wZ,hd,pO]at hh⊢;exact hh
 have key1:∀n i:Nat,i+n=xs.length->
  aA Tryz.prog Γ (VS (.list false 1 (xs.map qM)) (.int .i64 (cH (xs.take i)).length) (.list false 1 (xs.map qM)) (.int .i64 xs.length) (.int .i64 i) [.row 1 aq [] none true false])
   (.ret (.own 1 aq ((cH xs).map i64))):=by
  intro n
  induction n with
  |zero=>
   intro i hi
   have q1:¬i<xs.length:=by omega
   have q2:xs.take i=xs:=cR (by omega);have q3:0<(cH xs).length:=hp;have hh:=key2 xs.length 0 (by omega) (cH xs).length (by simp[cH]);refine .go 60 ?_;rw[q2];simp[q1];refine .enter 60 LN ?_
   have q4:¬(cH xs).length=0:=by omega
   have q5:cH xs≠[]:=fun e=>by rw[e]at hp;simp at hp
   obtain⟨m,hm⟩:∃m,(cH xs).length=m+1:=⟨(cH xs).length-1,by omega⟩
   have hrep:List.replicate (cH xs).length (AV.int .i64 0)=(AV.int .i64 0)::List.replicate m (AV.int .i64 0):=by rw[hm];rfl
   simp(disch:=(first|omega|(simp;omega))) [q3,q4,q5,hrep];refine .inLoop ?_;simp[cH,hrep]at hh⊢;exact hh
  |succ n ih=>
   intro i hi
   have q1:i<xs.length:=by omega
   have q2:=N_ xs i q1;have q3:=Q5 xs (i+1);rw[q2,bu]at q3;have hh:=ih (i+1) (by omega);rw[q2]at hh;refine .go 60 ?_
   have q4:¬((cH (xs.take i)).length:Int)+xs[i].2.length<0:=by omega
   simp(disch:=(first|omega|(simp;omega))) [q1,q4];refine .aO ?_;simp at hh⊢;exact hh
 simp;refine .inLoop ?_;have hh:=key1 xs.length 0 (by omega);simp[cH]at hh⊢;exact hh
set_option maxRecDepth 8000 in
theorem WH(xs:List (Nat×List Int))(hx:∀x∈xs,x.2=[])(hn:xs.length<2^40):
 aS Tryz.prog Γ rF [.list false 1 (xs.map qM)] (.own 1 aq []):=by
 refine .run 60 LL (by simp) ?_
 have key2:∀n i:Nat,i+n=xs.length->aA Tryz.prog Γ (Uz (.list true 0 []) (.list false 1 (xs.map qM)) (.int .i64 xs.length) (.int .i64 i) [.row 1 aq [] none true false,.row 1 aq [] none true false])
  (.ret (.own 1 aq [])):=by
  intro n
  induction n with
  |zero=>
   intro i hi
   have q1:¬i<xs.length:=by omega
   refine .rX 6 1 aq rfl (by omega) ?_;refine .go 60 ?_;simp[q1];exact .back (by simp)
  |succ n ih=>
   intro i hi
   have q1:i<xs.length:=by omega
   have q7:=hx xs[i] (bw q1);have hh:=ih (i+1) (by omega);refine .go 60 ?_;simp(disch:=(first|omega|(simp;omega))) [q1,q7];refine .aO ?_;simp at hh⊢;exact hh
 have key:∀n i:Nat,i+n=xs.length->aA Tryz.prog Γ (VS (.list false 1 (xs.map qM)) (.int .i64 0) (.list false 1 (xs.map qM)) (.int .i64 xs.length) (.int .i64 i) [.row 1 aq [] none true false])
  (.ret (.own 1 aq [])):=by
  intro n
  induction n with
  |zero=>
   intro i hi
   have q1:¬i<xs.length:=by omega
   refine .go 60 ?_;simp[q1];refine .enter 60 LN ?_;simp;refine .inLoop ?_;have hh:=key2 xs.length 0 (by omega);simp at hh⊢;exact hh
  |succ n ih=>
   intro i hi
   have q1:i<xs.length:=by omega
   have q7:=hx xs[i] (bw q1);have hh:=ih (i+1) (by omega);refine .go 60 ?_;simp(disch:=(first|omega|(simp;omega))) [q1,q7];refine .aO ?_;simp at hh⊢;exact hh
 simp;refine .inLoop ?_;have hh:=key xs.length 0 (by omega);simp at hh⊢;exact hh
theorem WY(xs:List (Nat×List Int))(hk:∀x∈xs,Kd 1 x.1 x.2)(hn:xs.length<2^40)(hs:(cH xs).length<2^40):
 aS Tryz.prog Γ rF [.list false 1 (xs.map qM)] (.own 1 aq ((cH xs).map i64)):=by
 rcases V6 (cH xs).length with h|h
 ·have h0:cH xs=[]:=lr.1 h
  have hx:∀x∈xs,x.2=[]:=by
   clear hk hn hs h
   induction xs with
   |nil=>simp
   |cons y ys ih=>
    simp only[cH,V8]at h0;intro x hx
    rcases bz.1 hx with rfl|hx
    ·exact h0.1
    ·exact ih h0.2 x hx
  rw[h0];exact WH xs hx hn
 ·exact WX xs hk hn hs h
def jg:List Int->List Bool->List Bool
 |[],v=>v
 |a::l,v=>jg l (v.set (a.toNat/2) true)
def jt(ands:List (Int×Int))(first:Nat):Nat->List Bool->List Bool
 |0,v=>v
 |i+1,v=>jt ands first i (if v.getD (first+i) false=true then(v.set ((ands.getD i (0,0)).1.toNat/2) true).set ((ands.getD i (0,0)).2.toNat/2) true else v)
def Gr.aY(g:Gr):List Bool:=jt g.ands g.first g.ands.length (jg (g.next++g.outs) (List.replicate g.all false))
theorem zg:∀(l:List Int)(v:List Bool),(jg l v).length=v.length
 |[],v=>rfl
 |a::l,v=>by rw[jg,zg l,jZ]
theorem NN(ands:List (Int×Int))(first:Nat):∀(i:Nat)(v:List Bool),(jt ands first i v).length=v.length
 |0,v=>rfl
 |i+1,v=>by rw[jt,NN ands first i];split<;>simp
theorem L9:∀(a b:List Int)(v:List Bool),jg (a++b) v=jg b (jg a v)
 |[],b,v=>rfl
 |x::a,b,v=>by rw[eo,jg,jg,L9 a b]
abbrev ajb:List (List Nat):=[[0,1,2,3,4,5,6,7,8],[0,1,2,3,4,5,7,6,8],[0,1,2,3,4,7,5,6,8],[0,1,2,3,7,4,5,6,8],[0,1,2,7,3,4,5,6,8],[0,1,7,2,3,4,5,6,8],[0,2,1,3,4,5,6,7,8],[0,2,1,3,4,5,7,6,8],[0,2,1,3,4,7,5,6,8],[0,2,1,3,7,4,5,6,8],[0,2,1,7,3,4,5,6,8],[0,2,3,1,4,5,6,7,8],[0,2,3,1,4,5,7,6,8],[0,2,3,1,4,7,5,6,8],[0,2,3,1,7,4,5,6,8],[0,2,3,4,1,5,6,7,8],[0,2,3,4,1,5,7,6,8],[0,2,3,4,1,7,5,6,8],[0,2,3,4,7,1,5,6,8],[0,2,3,7,1,4,5,6,8],[0,2,3,7,4,1,5,6,8],[0,2,7,1,3,4,5,6,8],[0,2,7,3,1,4,5,6,8],[0,2,7,3,4,1,5,6,8],[0,7,1,2,3,4,5,6,8],[0,7,2,1,3,4,5,6,8],[0,7,2,3,1,4,5,6,8],[0,7,2,3,4,1,5,6,8],[2,0,1,3,4,5,6,7,8],[2,0,1,3,4,5,7,6,8],[2,0,1,3,4,7,5,6,8],[2,0,1,3,7,4,5,6,8],[2,0,1,7,3,4,5,6,8],[2,0,3,1,4,5,6,7,8],[2,0,3,1,4,5,7,6,8],[2,0,3,1,4,7,5,6,8],[2,0,3,1,7,4,5,6,8],[2,0,3,4,1,5,6,7,8],[2,0,3,4,1,5,7,6,8],[2,0,3,4,1,7,5,6,8],[2,0,3,4,7,1,5,6,8],[2,0,3,7,1,4,5,6,8],[2,0,3,7,4,1,5,6,8],[2,0,7,1,3,4,5,6,8],[2,0,7,3,1,4,5,6,8],[2,0,7,3,4,1,5,6,8],[2,3,0,1,4,5,6,7,8],[2,3,0,1,4,5,7,6,8],[2,3,0,1,4,7,5,6,8],[2,3,0,1,7,4,5,6,8],[2,3,0,4,1,5,6,7,8],[2,3,0,4,1,5,7,6,8],[2,3,0,4,1,7,5,6,8],[2,3,0,4,7,1,5,6,8],[2,3,0,7,1,4,5,6,8],[2,3,0,7,4,1,5,6,8],[2,3,4,0,1,5,6,7,8],[2,3,4,0,1,5,7,6,8],[2,3,4,0,1,7,5,6,8],[2,3,4,0,7,1,5,6,8],[2,3,4,7,0,1,5,6,8],[2,3,7,0,1,4,5,6,8],[2,3,7,0,4,1,5,6,8],[2,3,7,4,0,1,5,6,8],[2,7,0,1,3,4,5,6,8],[2,7,0,3,1,4,5,6,8],[2,7,0,3,4,1,5,6,8],[2,7,3,0,1,4,5,6,8],[2,7,3,0,4,1,5,6,8],[2,7,3,4,0,1,5,6,8],[7,0,1,2,3,4,5,6,8],[7,0,2,1,3,4,5,6,8],[7,0,2,3,1,4,5,6,8],[7,0,2,3,4,1,5,6,8],[7,2,0,1,3,4,5,6,8],[7,2,0,3,1,4,5,6,8],[7,2,0,3,4,1,5,6,8],[7,2,3,0,1,4,5,6,8],[7,2,3,0,4,1,5,6,8],[7,2,3,4,0,1,5,6,8]]
theorem afE:fV [[],[0],[],[2],[3],[1,4],[5,5],[],[7,6,1,0,1,2,3,4,5,6,7]] 9 []=ajb:=by decide+kernel
abbrev z1(g:Gr):List Fr:=[⟨.run,tJ,[.jN 6,.inBlock 0 [],.code (.seq (.ae JO) .ret)],
 [eQ g,.ptr 0 0,U,.ptr 2 0,U,U,U,U,U,U,U,U,eQ g,.sl 1 0 g.all,.fn (.func p_) [] [.ptr 3 0,.ptr 4 0],U,U,U,U,U,U],[.mark 5],.norm,0⟩]
abbrev wy(g:Gr)(v:List Bool):List Ob:=[cJ g,.row 1 pk (v.map .bool) none true false,.cells [.sl 1 0 g.all],cJ g,.cells [.sl 1 0 g.all],.bD true,
 .loop .ready .none tJ [U,U,U,.ptr 2 0,U,U,U,U,U,U,U,U,U,U,U,U,U,U,U,U,U] [15] (.ae U') Un,.cells [.cY 6]]
set_option maxRecDepth 8000 in
theorem ahC(g:Gr)(ok:g.Ok)(L:List Int)(hL:∀a∈L,0<=a/\a<g.lits)(hl:L.length<2^40){o:Out}(v0:List Bool)(hv0:v0.length=g.all)
 (hc:aA Tryz.prog Γ (KB (.ptr 3 0) (.ptr 4 0) (.ptr 7 0) (wy g (jg L v0)++[.row 1 aq (L.map i64) none true false]) ⟨[],.norm,7,z1 g⟩) o):
 ∀n i:Nat,i+n=L.length->∀v,v=jg (L.take i) v0->aA Tryz.prog Γ (yxg (.ptr 3 0) (.ptr 4 0) (.ptr 7 0) (.sl 8 0 L.length) (.int .i64 L.length) (.int .i64 i) (wy g v++[.row 1 aq (L.map i64) none true false]) ⟨[],.norm,7,z1 g⟩) o:=by
 intro n
 induction n with
 |zero=>
  intro i hi v hv;rw[cR (by omega)]at hv;subst hv
  have q1:¬i<L.length:=by omega
  refine .reach (.dW 60 (c':=KB (.ptr 3 0) (.ptr 4 0) (.ptr 7 0) (wy g (jg L v0)++[.row 1 aq (L.map i64) none true false]) ⟨[],.norm,7,z1 g⟩) ?_) hc;simp[q1];exact .exit rfl rfl
 |succ n ih=>
  intro i hi v hv
  have q1:i<L.length:=by omega
  obtain⟨b1,b2⟩:=hL L[i] (bw q1);obtain⟨x,hx⟩:=gB b1
  have hvl:v.length=g.all:=by rw[hv,zg,hv0]
  have hh:=ih (i+1) (by omega) (v.set (x/2) true) (by rw[kK q1,L9,<-hv,jg,jg,hx];rfl);have e1:g.lits=2*g.all:=rfl;refine .go 60 ?_
  have q3:x/2<g.all:=by omega
  simp(disch:=omega) [q1,hx,jO,hvl,q3,-Int.natCast_ediv,-Int.natCast_emod];refine .aO ?_
  have e2:(v.map AV.bool).set (x/2) (.bool true)=(v.set (x/2) true).map AV.bool:=by rw[rz]
  rw[e2];simp[-List.map_set]at hh⊢;exact hh
abbrev ag2(g:Gr):List Fr:=⟨.run,p_,[.jN 11,.inBlock 2 []],[U,.ptr 3 0,.ptr 4 0,.ptr 7 0,U,U,U,U,U,U,U,U,U,U,U,U,U,U,U,U,U,U,U,U,
          .ptr 3 3,.list false g.ka (List.map c8 g.ands),.fn (.func xA) [] [.ptr 9 0],U,U,U,U,U,U,U,U,U,U,U,U,U,U,U,U,U,U,U,U,U,U,U],[.mark 10],.norm,7⟩::z1 g
abbrev aiA(g:Gr)(v:List Bool)(rest:Ob):List Ob:=wy g v++[rest,.cells [.list false g.ka (List.map c8 g.ands)],.bD true,
 .loop .ready .none p_ [U,.ptr 3 0,.ptr 4 0,.ptr 7 0,U,U,U,U,U,U,U,U,U,U,U,U,U,U,U,U,U,U,U,U,U,U,U,U,U,U,U,U,U,U,U,U,U,U,U,U,U,U,U,U,U,U,U,U,U,U] [27,28] JZ K6]
abbrev Dr(g:Gr)(v:List Bool)(rest:Ob)(x y:Nat):List Ob:=wy g v++[rest,.cells [.list false g.ka (List.map c8 g.ands)],.bD true,
 .loop .busy .none p_ [U,.ptr 3 0,.ptr 4 0,.ptr 7 0,U,U,U,U,U,U,U,U,U,U,U,U,U,U,U,U,U,U,U,U,U,U,U,U,U,U,U,U,U,U,U,U,U,U,U,U,U,U,U,U,U,U,U,U,U,U] [27,28] JZ K6,
 .cells [.int .i64 x,.int .i64 y]]
theorem Rs(g:Gr)(v:List Bool)(hv:v.length=g.all)(rest:Ob)(x y z:Nat)(hz:z/2<g.all)(hz2:(z:Int)<2^40):∀up,AM.Reach Tryz.prog Γ ((jm.yl 6).cfg [.int .i64 z] up (Dr g v rest x y)) (.back up (.bool true) (Dr g (v.set (z/2) true) rest x y)):=by
 intro up;simp;refine .a8 60 ?_;simp(disch:=omega) [hv,hz,-Int.natCast_ediv,-Int.natCast_emod,-Int.natCast_add]
set_option maxRecDepth 8000 in
theorem ahi(g:Gr)(ok:g.Ok)(L:List Int):∀i:Nat,i<=g.ands.length->∀v:List Bool,v.length=g.all->
 aA Tryz.prog Γ (yBv (.cY 11) (.ptr 9 0) (.int .i64 ((i:Int)-1)) (aiA g v (.row 1 aq (L.map i64) none true false)) ⟨[],.norm,12,ag2 g⟩) (.ret (.own 1 pk ((jt g.ands g.first i v).map .bool))):=by
 have o1:=ok.ins;have o3:=ok.sum;have hf:=rM (Γ:=Γ) g o1.1 o1.2 (by omega);intro i
 induction i with
 |zero=>
  intro hi v hv;refine .go 60 ?_;simp;exact .back (by simp[jt,hv])
 |succ i ih=>
  intro hi v hv
  have q1:i<g.ands.length:=by omega
  have e0:((i+1:Nat):Int)-1=i:=by omega
  rw[e0];obtain⟨⟨b1,b2⟩,b3,b4⟩:=ok.ands i q1;obtain⟨x,hx⟩:=gB b1;obtain⟨y,hy⟩:=gB b3;have q2:=bR (g.ha.of q1);refine .go 60 ?_;simp(disch:=omega) [q1,q2,jO];refine .dr 60 ?_;simp(disch:=omega) [q1,q2];refine .call (by simp) hf ?_
  have e1:(g.first:Int)+i=((g.first+i:Nat):Int):=by omega
  have q3:g.first+i<v.length:=by rw[hv];unfold Gr.all;omega
  have q4:g.first+i<g.all:=by omega
  have hfb:g.first<=8001:=by unfold Gr.first;omega
  have q5:x/2<g.all:=by omega
  have q6:y/2<g.all:=by omega
  rw[jt,bq,aR q3,j4,bq,aR q1,j4,hx,hy];simp only[dX]
  by_cases hb:v[g.first+i]=true
  ·rw[if_pos hb];have hh:=ih (by omega) ((v.set (x/2) true).set (y/2) true) (by simp[hv]);simp(disch:=omega) [e1,q3,q4,hb,hv,hx,hy,q5,-Int.natCast_ediv,-Int.natCast_emod,-Int.natCast_add];have k1:=Rs (Γ:=Γ) g v hv (.row 1 aq (L.map i64) none true false) x y x q5 (by omega);have k2:=Rs (Γ:=Γ) g (v.set (x/2) true) (by simp[hv]) (.row 1 aq (L.map i64) none true false) x y y q6 (by omega);refine .go (.bool true) (Dr g (v.set (x/2) true) (.row 1 aq (L.map i64) none true false) x y) k1 ?_;simp(disch:=omega) [hb,hv,hx,hy,q5,q6,-List.map_set,-Int.natCast_ediv,-Int.natCast_emod,-Int.natCast_add];refine .go (.bool true) (Dr g ((v.set (x/2) true).set (y/2) true) (.row 1 aq (L.map i64) none true false) x y) k2 ?_;simp(disch:=omega) [hb,hv,hx,hy,q5,q6,-List.map_set,-Int.natCast_ediv,-Int.natCast_emod,-Int.natCast_add];refine .aO ?_;simp
   refine .drop 12 rfl (by simp) (by simp) (by simp) ?_;simp[e0]at hh⊢;exact hh
  ·rw[if_neg hb];have hh:=ih (by omega) v hv;simp(disch:=omega) [e1,q3,q4,hb,hv,-Int.natCast_add];refine .aO ?_;simp;refine .drop 12 rfl (by simp) (by simp) (by simp) ?_;simp[e0]at hh⊢;exact hh
set_option maxRecDepth 8000 in
theorem ah2(g:Gr)(ok:g.Ok)(v0:List Bool)(hv0:v0.length=g.all)(L:List Int):aA Tryz.prog Γ (KB (.ptr 3 0) (.ptr 4 0) (.ptr 7 0) (wy g v0++[.row 1 aq (L.map i64) none true false]) ⟨[],.norm,7,z1 g⟩) (.ret (.own 1 pk ((jt g.ands g.first g.ands.length v0).map .bool))):=by
 have o3:=ok.sum;have o1:=ok.ins;refine .go 60 ?_;simp;refine .enter 60 Wz ?_;simp;refine .enter 60 Ws ?_;simp(disch:=omega);refine .inLoop ?_;have hh:=ahi (Γ:=Γ) g ok L g.ands.length (by omega) v0 hv0;simp at hh⊢;exact hh
set_option maxRecDepth 8000 in
theorem ais(g:Gr)(ok:g.Ok):aA Tryz.prog Γ (.fr ⟨.run,tJ,[.ops [],.code (.seq (.seq (.ae Ui) (.block 0 [] TV)) (.seq (.ae JO) .ret))],
 [eQ g,.ptr 0 0,U,.ptr 2 0,U,U,U,U,U,U,U,U,U,U,U,U,U,U,U,U,U],[],.norm,0⟩ [] [cJ g,.row 1 pk (List.replicate g.all (.bool false)) none true false,.cells [.sl 1 0 g.all]]) (.ret (.own 1 pk (g.aY.map .bool))):=by
 have o1:=ok.ins;have o3:=ok.sum;refine .go 60 ?_;simp;refine .enter 60 Y8 ?_;simp;refine .enter 60 Yi ?_;simp
 have hcat:=WY (Γ:=Γ) [(g.kn,g.next),(g.ko,g.outs)] (by
  intro x hx;simp only[bz,o5,oT]at hx
  rcases hx with rfl|rfl
  ·exact g.hn
  ·exact g.ho) (by simp) (by simp[cH];have:=ok.ju;omega)
 simp[cH]at hcat;refine .call 60 (by simp) hcat ?_;simp;refine .inLoop ?_
 have hL:∀a∈g.next++g.outs,0<=a/\a<(g.lits:Int):=by
  intro a ha
  rcases aT.1 ha with ha|ha
  ·exact ok.next a ha
  ·exact ok.outs a ha
 have hh:=ahC (Γ:=Γ) g ok (g.next++g.outs) hL (by simp;have:=ok.ju;omega) (List.replicate g.all false) (by simp)
  (ah2 g ok _ (by rw[zg];simp) _) (g.next++g.outs).length 0 (by omega) _ rfl
 simp[jg]at hh⊢;exact hh
set_option maxRecDepth 20000 in
set_option maxHeartbeats 2000000 in
theorem acp(g:Gr)(ok:g.Ok):aS Tryz.prog Γ tJ [eQ g] (.own 1 pk (g.aY.map .bool)):=by
 have o1:=ok.ins;have o3:=ok.sum;refine .run 60 acw (by simp) ?_;simp;refine .ogO 60 ?_;simp only[bE,cS,iZ,Nat.reduceAdd,afE];have hf:=rM (Γ:=Γ) g o1.1 o1.2 (by omega)
 have e1:(g.first:Int)+g.ands.length=(g.all:Int):=by unfold Gr.all;omega
 have hall:g.all<=12001:=by unfold Gr.all Gr.first;omega
 have hgen:=ais (Γ:=Γ) g ok;intro l hl;simp only[bz,o5,oT]at hl
 rcases hl with rfl|rfl|rfl|rfl|rfl|rfl|rfl|rfl|rfl|rfl|rfl|rfl|rfl|rfl|rfl|rfl|rfl|rfl|rfl|rfl|rfl|rfl|rfl|rfl|rfl|rfl|rfl|rfl|rfl|rfl|rfl|rfl|rfl|rfl|rfl|rfl|rfl|rfl|rfl|rfl|rfl|rfl|rfl|rfl|rfl|rfl|rfl|rfl|rfl|rfl|rfl|rfl|rfl|rfl|rfl|rfl|rfl|rfl|rfl|rfl|rfl|rfl|rfl|rfl|rfl|rfl|rfl|rfl|rfl|rfl|rfl|rfl|rfl|rfl|rfl|rfl|rfl|rfl|rfl|rfl
 all_goals
  simp;refine .Ab 60 (by simp) hf ?_;simp(disch:=(first|omega|(simp;omega))) [e1];refine .oF [2,5,6,7,8,9,10,11] ?_;simp
  first
   |(refine .gc 1 [1,2] (by simp) (by decide) ?_;simp;exact hgen)
   |(refine .gc 1 [3,1] (by simp) (by decide) ?_;simp;exact hgen)
end Go.Proofs.YtchjijfjidlpjaaGreatDoor
namespace Go.Proofs.YtchjijfjidlpjaaGreatDoor
open Go.AM Go.Proofs
def ids(n:Nat):List Nat:=(List.range n).map (2*·)
@[simp] theorem Qo(n:Nat):(ids n).length=n:=by simp[ids]
theorem Ho(n:Nat):ids (n+1)=ids n++[2*n]:=by simp[ids,E5]
def fv(first:Nat):List (Int×Int)->List (Int×Int)->List Nat->List (Int×Int)×List Nat
 |[],l,to=>(l,to)
 |p::ps,l,to=>fv first ps (bO first l (bo to p.1.toNat) (bo to p.2.toNat)).1 (to++[(bO first l (bo to p.1.toNat) (bo to p.2.toNat)).2])
def dK(first:Nat)(aY:List Bool):List (Int×Int)->Nat->List (Int×Int)->List Nat->List (Int×Int)×List Nat
 |[],_,l,to=>(l,to)
 |p::ps,i,l,to=>
  if aY.getD (first+i) false=true then dK first aY ps (i+1) (bO first l (bo to p.1.toNat) (bo to p.2.toNat)).1 (to++[(bO first l (bo to p.1.toNat) (bo to p.2.toNat)).2])
  else dK first aY ps (i+1) l (to++[0])
def Gr.dj(g:Gr)(r:List (Int×Int)×List Nat):Gr:=⟨g.ins,(eh r.2 g.next).map fun n:Nat=>(n:Int),g.init,r.1,(eh r.2 g.outs).map fun n:Nat=>(n:Int),1,1,2,1,.self,.self,.self,.self⟩
def Gr.dq(g:Gr):Gr:=g.dj (fv g.first g.ands [] (ids g.first))
def Gr.c9(x:Gr):Gr:=x.dj (dK x.first x.aY x.ands 0 [] (ids x.first))
def Gr.normal(g:Gr):Gr:=if g.check=0 then g.dq.c9 else fQ
structure nE(first:Nat)(l:List (Int×Int))(to:List Nat):Prop where
 lt:∀x∈to,x<2*(first+l.length)
theorem vR{first:Nat}{l:List (Int×Int)}{a b:Nat}(ha:a<2*(first+l.length))(hb:b<2*(first+l.length))(h1:1<=first):
 (bO first l a b).2<2*(first+(bO first l a b).1.length)/\l.length<=(bO first l a b).1.length:=by
 unfold bO
 split
 ·rename_i c hc;unfold lY at hc;refine⟨?_,aQ _⟩;simp only
  split at hc
  ·cases hc;omega
  ·split at hc
   ·cases hc;omega
   ·cases hc
 ·split
  ·rename_i i hi;obtain⟨_,h2,_⟩:=GP hi;exact⟨by simp only;omega,aQ _⟩
  ·exact⟨by simp only[bu,bE,cS];omega,by simp⟩
theorem om{to:List Nat}{B a:Nat}(h:∀x∈to,x<2*B)(ha:a/2<to.length):bo to a<2*B:=by
 have h1:=h _ (bw ha);unfold bo;rw[bq,aR ha,j4]
 rcases(show a%2=0\/a%2=1 by omega)with h2|h2
 ·rw[h2,xq];exact h1
 ·rw[h2,nb];split<;>omega
theorem QT(x:Gr):x.aY.length=x.all:=by unfold Gr.aY;rw[NN,zg,pW]
structure gK(first:Nat)(l:List (Int×Int)):Prop where
 at_:∀i(h:i<l.length),∃p q:Nat,l[i]=((p:Int),(q:Int))/\2<=q/\q<p/\p/2≠q/2/\p<2*(first+i)
 nd:l.Nodup
theorem On(first:Nat):gK first []:=⟨fun i h=>by simp at h,List.nodup_nil⟩
theorem gK.push{first:Nat}{l:List (Int×Int)}(h:gK first l){a b:Nat}(ha:a<2*(first+l.length))(hb:b<2*(first+l.length)):gK first (bO first l a b).1:=by
 unfold bO
 split
 ·exact h
 ·rename_i hk
  split
  ·exact h
  ·rename_i hi;obtain⟨k1,k2,k3,k4⟩:=NU hk
   have hle:min a b<=max a b:=by omega
   have hx:=nb (max a b);refine⟨fun i hi2=>?_,?_⟩
   ·by_cases hil:i<l.length
    ·obtain⟨p,q,e,r⟩:=h.at_ i hil;exact⟨p,q,by simp only;rw[uF hil];exact e,r⟩
    ·have e0:i=l.length:=by simp at hi2;omega
     subst e0;refine⟨max a b,min a b,by simp,by omega,by omega,?_,by omega⟩;intro hd;apply k2;rw[hx]
     split<;>omega
   ·rw[ly];refine⟨h.nd,by simp,?_⟩;intro x hx2 y hy he;subst he;simp at hy;subst hy;exact(GY.1 hi) hx2
theorem PK(first:Nat)(h1:1<=first):∀(ps l:List (Int×Int))(to:List Nat),gK first l->nE first l to->(∀i(h:i<ps.length),ps[i].1.toNat/2<to.length+i/\ps[i].2.toNat/2<to.length+i)->
 gK first (fv first ps l to).1/\nE first (fv first ps l to).1 (fv first ps l to).2/\(fv first ps l to).2.length=to.length+ps.length/\(fv first ps l to).1.length<=l.length+ps.length
 |[],l,to,hl,ht,_=>⟨hl,ht,rfl,aQ _⟩
 |p::ps,l,to,hl,ht,hp=>by
  have h0:=hp 0 (by simp);simp only[E6,gZ]at h0;have ha:=om ht.lt h0.1;have hb:=om ht.lt h0.2;obtain⟨hlt,hge⟩:=vR ha hb h1
  have hlen:=Cu first l (bo to p.1.toNat) (bo to p.2.toNat)
  rw[fv]
  obtain⟨a1,a2,a3,a4⟩:=PK first h1 ps (bO first l (bo to p.1.toNat) (bo to p.2.toNat)).1 (to++[(bO first l (bo to p.1.toNat) (bo to p.2.toNat)).2]) (hl.push ha hb) ⟨fun z hz=>by
   rcases aT.1 hz with hz|hz
   ·have:=ht.lt z hz;omega
   ·simp at hz;omega⟩ (fun i hi=>by
   have:=hp (i+1) (by simpa using hi);simp only[sV]at this
   simp;omega)
  refine⟨a1,a2,by rw[a3];simp;omega,by simp only[bE];omega⟩
theorem He(first:Nat)(h1:1<=first)(aY:List Bool):∀(ps:List (Int×Int))(i:Nat)(l:List (Int×Int))(to:List Nat),gK first l->nE first l to->(∀i(h:i<ps.length),ps[i].1.toNat/2<to.length+i/\ps[i].2.toNat/2<to.length+i)->
 gK first (dK first aY ps i l to).1/\nE first (dK first aY ps i l to).1 (dK first aY ps i l to).2/\(dK first aY ps i l to).2.length=to.length+ps.length/\(dK first aY ps i l to).1.length<=l.length+ps.length
 |[],i,l,to,hl,ht,_=>⟨hl,ht,rfl,aQ _⟩
 |p::ps,i,l,to,hl,ht,hp=>by
  have h0:=hp 0 (by simp);simp only[E6,gZ]at h0;have ha:=om ht.lt h0.1;have hb:=om ht.lt h0.2;obtain⟨hlt,hge⟩:=vR ha hb h1
  have hlen:=Cu first l (bo to p.1.toNat) (bo to p.2.toNat)
  rw[dK]
  split
  ·obtain⟨a1,a2,a3,a4⟩:=He first h1 aY ps (i+1) (bO first l (bo to p.1.toNat) (bo to p.2.toNat)).1 (to++[(bO first l (bo to p.1.toNat) (bo to p.2.toNat)).2]) (hl.push ha hb) ⟨fun z hz=>by
    rcases aT.1 hz with hz|hz
    ·have:=ht.lt z hz;omega
    ·simp at hz;omega⟩ (fun i hi=>by
    have:=hp (i+1) (by simpa using hi);simp only[sV]at this
    simp;omega)
   refine⟨a1,a2,by rw[a3];simp;omega,by simp only[bE];omega⟩
  ·obtain⟨a1,a2,a3,a4⟩:=He first h1 aY ps (i+1) l (to++[0]) hl ⟨fun z hz=>by
    rcases aT.1 hz with hz|hz
    ·exact ht.lt z hz
    ·simp at hz;omega⟩ (fun i hi=>by
    have:=hp (i+1) (by simpa using hi);simp only[sV]at this
    simp;omega)
   refine⟨a1,a2,by rw[a3];simp;omega,by simp only[bE];omega⟩
theorem HN{g:Gr}(ok:g.Ok):∀i(h:i<g.ands.length),g.ands[i].1.toNat/2<(ids g.first).length+i/\g.ands[i].2.toNat/2<(ids g.first).length+i:=by
 intro i h;have:=ok.ands i h
 simp;omega
theorem C5(first:Nat):nE first [] (ids first):=⟨fun z hz=>by simp[ids]at hz;obtain⟨a,ha,rfl⟩:=hz;simp;omega⟩
theorem RG{g:Gr}(ok:g.Ok){l:List (Int×Int)}{to:List Nat}(hl:gK g.first l)(ht:nE g.first l to)(h1:to.length=g.all)(h2:l.length<=g.ands.length):(g.dj (l,to)).Ok:=by
 have o1:=ok.ins;have o3:=ok.sum
 have hb:∀a:Int,0<=a->a<g.lits->bo to a.toNat<2*(g.first+l.length):=fun a h3 h4=>om ht.lt (by have:g.lits=2*g.all:=rfl;omega)
 have hfst:(g.dj (l,to)).first=g.first:=by simp[Gr.first,Gr.dj]
 have hlits:(g.dj (l,to)).lits=2*(g.first+l.length):=by simp only[Gr.lits,Gr.all,hfst];rfl
 refine⟨o1,by simp[Gr.dj];omega,by simp[Gr.dj];exact ok.ju,by simp[Gr.dj];exact ok.same,ok.init,?_,?_,?_⟩
 ·intro a ha;rw[hlits];simp only[Gr.dj,cd,eh]at ha;obtain⟨n,⟨b,hb2,rfl⟩,rfl⟩:=ha;have h3:=ok.next b hb2;have:=hb b h3.1 h3.2;omega
 ·intro a ha;rw[hlits];simp only[Gr.dj,cd,eh]at ha;obtain⟨n,⟨b,hb2,rfl⟩,rfl⟩:=ha;have h3:=ok.outs b hb2;have:=hb b h3.1 h3.2;omega
 ·intro i hi;rw[hfst];obtain⟨p,q,e,r1,r2,r3,r4⟩:=hl.at_ i hi;have e2:(g.dj (l,to)).ands[i]=((p:Int),(q:Int)):=e;rw[e2];simp only;omega
theorem CU{g:Gr}(ok:g.Ok):g.dq.Ok/\gK g.first g.dq.ands/\g.dq.ands.length<=g.ands.length:=by
 have o1:=ok.ins
 obtain⟨a1,a2,a3,a4⟩:=PK g.first (by unfold Gr.first;omega) g.ands [] (ids g.first) (On _) (C5 _) (HN ok)
 refine⟨RG ok a1 a2 (by rw[a3];simp[Gr.all]) (by simpa using a4),a1,?_⟩;rw[cS,iZ]at a4;exact a4
theorem CQ{g:Gr}(ok:g.Ok):g.c9.Ok/\gK g.first g.c9.ands/\g.c9.ands.length<=g.ands.length:=by
 have o1:=ok.ins
 obtain⟨a1,a2,a3,a4⟩:=He g.first (by unfold Gr.first;omega) g.aY g.ands 0 [] (ids g.first) (On _) (C5 _) (HN ok)
 refine⟨RG ok a1 a2 (by rw[a3];simp[Gr.all]) (by simpa using a4),a1,?_⟩;rw[cS,iZ]at a4;exact a4
end Go.Proofs.YtchjijfjidlpjaaGreatDoor
namespace Go.Proofs.YtchjijfjidlpjaaGreatDoor
open Go.AM Go.Proofs
variable{Γ:Nat->Option AV}
theorem aaG(a b c d:Int):cj (.jf [.int,.int]) (.agg [.int .i64 a,.int .i64 b]) (.agg [.int .i64 c,.int .i64 d])=some (decide ((a,b)=(c,d))):=Gw (a,b) (c,d)
theorem WN(a b:List (Int×Int)){ka kb:Nat}(ha:Kd 2 ka a)(hb:Kd 2 kb b)(hs:a.length<2^60):aS Tryz.prog Γ xC [.list false ka (a.map c8),.list false kb (b.map c8)] (.bool (decide (a=b))):=by
 refine .run 60 WL (by simp) ?_
 by_cases hl:a.length=b.length
 ·have key:∀n i:Nat,i+n=a.length->aA Tryz.prog Γ (ysT (.list false ka (a.map c8)) (.list false kb (b.map c8)) (.int .i64 a.length) (.int .i64 i) []) (.ret (.bool (decide (a.drop i=b.drop i)))):=by
   intro n
   induction n with
   |zero=>
    intro i hi;refine .go 60 ?_
    have h1:¬i<a.length:=by omega
    have h2:a.drop i=b.drop i:=by rw[bA (by omega),bA (by omega)]
    simp[h1,h2];exact .back (by simp)
   |succ n ih=>
    intro i hi
    have h1:i<a.length:=by omega
    have h2:i<b.length:=by omega
    obtain rfl:=ha.of h1;obtain rfl:=hb.of h2;have h4:=drop_eq h1 h2;have h5:=aaG a[i].1 a[i].2 b[i].1 b[i].2;refine .go 60 ?_
    by_cases h3:a[i]=b[i]
    ·have h6:((a[i].1,a[i].2)=(b[i].1,b[i].2))=True:=bR h3;have h7:(a[i]=b[i])=True:=bR h3;simp(disch:=omega) [h1,h2,h7,h4,h5,h6,-Prod.mk.injEq];refine .aO ?_;have hh:=ih (i+1) (by omega);simp at hh⊢;exact hh
    ·have h6:((a[i].1,a[i].2)=(b[i].1,b[i].2))=False:=nY h3;simp(disch:=omega) [h1,h2,h3,h4,h5,h6,-Prod.mk.injEq];exact .back (by simp)
  simp[hl];refine .inLoop ?_;have hh:=key a.length 0 (by omega);simp[hl]at hh⊢;exact hh
 ·have h2:¬a=b:=fun e=>hl (by rw[e])
  simp[hl,h2];exact .back (by simp)
def fX(a b:Gr):Bool:=decide (a.ins=b.ins)&&decide (a.next=b.next)&&decide (a.init=b.init)&&decide (a.ands=b.ands)&&decide (a.outs=b.outs)
theorem aa1(a b:Gr)(ha:a.iA):aS Tryz.prog Γ BF [eQ a,eQ b] (.bool (fX a b)):=by
 have f1:=ha.1;have f2:=ha.2.1;have f3:=ha.2.2.1;have f4:=ha.2.2.2
 refine .run 60 aaz (by simp) ?_;unfold fX
 by_cases h1:a.ins=b.ins
 ·simp[h1];refine .call 60 (by simp) (Fg a.next b.next a.hn b.hn (by omega)) ?_
  by_cases h2:a.next=b.next
  ·have h2':=bR h2;simp[h2'];refine .call 60 (by simp) (Fg a.init b.init a.hi b.hi (by omega)) ?_
   by_cases h3:a.init=b.init
   ·have h3':=bR h3;simp[h3'];refine .call 60 (by simp) (WN a.ands b.ands a.ha b.ha (by omega)) ?_
    by_cases h4:a.ands=b.ands
    ·have h4':=bR h4;simp[h4'];refine .call 60 (by simp) (Fg a.outs b.outs a.ho b.ho (by omega)) ?_;simp;exact .back (by simp)
    ·simp[h4];exact .back (by simp)
   ·simp[h3];exact .back (by simp)
  ·simp[h2];exact .back (by simp)
 ·simp[h1];exact .back (by simp)
def Gr.DJ(g:Gr)(i:Nat):Bool:=
 decide ((g.ands.getD i (0,0)).1<=(g.ands.getD i (0,0)).2)||decide ((g.ands.getD i (0,0)).2<=1)||decide ((g.ands.getD i (0,0)).1.toNat/2=(g.ands.getD i (0,0)).2.toNat/2)||!g.aY.getD (g.first+i) false||decide (g.ands.getD i (0,0)∈g.ands.take i)
def Gr.strict(g:Gr):Bool:=decide (g.check=0)&&!bH g.DJ (List.range g.ands.length)
end Go.Proofs.YtchjijfjidlpjaaGreatDoor
namespace Go.Proofs.YtchjijfjidlpjaaGreatDoor
open Go.AM Go.Proofs
theorem aeo{l:List (Int×Int)}{n:Nat}(h:∀i(hi:i<l.length),(0<=l[i].1/\l[i].1<2*(n+i))/\0<=l[i].2/\l[i].2<2*(n+i)):ov l n=false:=by
 induction l generalizing n with
 |nil=>rfl
 |cons p l ih=>
  have h0:=h 0 (by simp);simp only[E6]at h0;simp only[ov,kJ,eG,iD];refine⟨by omega,ih fun i hi=>?_⟩;have:=h (i+1) (by simpa using hi);simp only[sV]at this;omega
theorem Gr.qn{g:Gr}(ok:g.Ok):g.check=0:=by
 obtain⟨h1,h2,h3,h4,h5,h6,h7,h8⟩:=ok;unfold Gr.check
 have e1:g.mS=false:=by simp[Gr.mS];omega
 have e2:bH uo g.init=false:=kR.2 fun a ha=>by have:=h5 a ha;simp[uo];omega
 have e3:bH (eG g.lits) g.next=false:=kR.2 fun a ha=>by have:=h6 a ha;simp[eG];omega
 have e4:bH (eG g.lits) g.outs=false:=kR.2 fun a ha=>by have:=h7 a ha;simp[eG];omega
 simp[e1,e2,e3,e4,h4,aeo h8]
theorem Pd(first:Nat)(l:List (Int×Int))(a b:Nat):∃e,(bO first l a b).1=l++e:=by
 unfold bO
 split
 ·exact⟨[],by simp⟩
 ·split
  ·exact⟨[],by simp⟩
  ·exact⟨_,rfl⟩
theorem Hl{v:List Bool}{a:Nat}(h:a/2<v.length)(e:List Bool):bW (v++e) a=bW v a:=by
 unfold bW;rw[bq,bq,cz h]
theorem GS:∀(l:List (Int×Int))(v:List Bool),∃e,cg l v=v++e
 |[],v=>⟨[],by simp[cg]⟩
 |p::ps,v=>by
  obtain⟨e,he⟩:=GS ps (v++[bW v p.1.toNat&&bW v p.2.toNat]);exact⟨[bW v p.1.toNat&&bW v p.2.toNat]++e,by rw[cg,he,cI]⟩
theorem vw(l:List (Int×Int)){v:List Bool}{a:Nat}(h:a/2<v.length):bW (cg l v) a=bW v a:=by
 obtain⟨e,he⟩:=GS l v;rw[he,Hl h]
theorem Ov(w:List Bool)(x:Bool){n:Nat}(h:n=2*w.length):bW (w++[x]) n=x:=by
 subst h;unfold bW
 have e1:2*w.length/2=w.length:=by omega
 have e2:¬2*w.length%2=1:=by omega
 rw[e1,bq];simp[e2]
theorem GN{l:List (Int×Int)}{v:List Bool}{i:Nat}(hi:i<l.length)(h1:l[i].1.toNat/2<v.length+i)(h2:l[i].2.toNat/2<v.length+i):
 bW (cg l v) (2*(v.length+i))=(bW (cg l v) l[i].1.toNat&&bW (cg l v) l[i].2.toNat):=by
 have e:l=l.take i++(l[i]::l.drop (i+1)):=by rw[<-bJ hi,mT]
 have hl:(cg (l.take i) v).length=v.length+i:=by rw[ze,eR];omega
 have e2:cg l v=cg (l.drop (i+1)) (cg (l.take i) v++[bW (cg (l.take i) v) l[i].1.toNat&&bW (cg (l.take i) v) l[i].2.toNat]):=by
  conv=>lhs;rw[e,xY,cg]
 generalize cg (l.take i) v=w at*
 have s:∀c,c/2<w.length+1->bW (cg l v) c=bW (w++[bW w l[i].1.toNat&&bW w l[i].2.toNat]) c:=fun c hc=>by
  rw[e2];exact vw _ (by rw[bu];exact hc)
 rw[s (2*(v.length+i)) (by omega),s l[i].1.toNat (by omega),s l[i].2.toNat (by omega),Ov _ _ (by omega),Hl (by omega),Hl (by omega)]
theorem Ci{v:List Bool}{a:Nat}:bW v (a^^^1)=!bW v a:=by
 rw[nb];unfold bW
 split
 ·rename_i h
  have e1:(a+1)/2=a/2:=by omega
  have e2:(a+1)%2=1:=by omega
  rw[e1];simp[h,e2]
 ·rename_i h
  have e1:(a-1)/2=a/2:=by omega
  have e2:¬(a-1)%2=1:=by omega
  have e3:a%2=1:=by omega
  rw[e1];simp[e2,e3]
theorem adE{v:List Bool}(h:bW v 0=false):bW v 1=true:=by
 have:=Ci (v:=v) (a:=0)
 rw[h]at this;exact this
def pK(first:Nat)(l:List (Int×Int)):Prop:=∀i(h:i<l.length),(0<=l[i].1/\l[i].1<2*(first+i))/\0<=l[i].2/\l[i].2<2*(first+i)
theorem pK.push{first:Nat}{l:List (Int×Int)}(h:pK first l){p:Int×Int}(hp:(0<=p.1/\p.1<2*(first+l.length))/\0<=p.2/\p.2<2*(first+l.length)):pK first (l++[p]):=by
 intro i hi
 by_cases h2:i<l.length
 ·rw[uF h2];exact h i h2
 ·have e:i=l.length:=by simp at hi;omega
  subst e;simp only[EW (aQ _),EX,E6];omega
theorem pK.and{first:Nat}{l:List (Int×Int)}(h:pK first l){a b:Nat}(ha:a<2*(first+l.length))(hb:b<2*(first+l.length)):pK first (bO first l a b).1:=by
 unfold bO
 split
 ·exact h
 ·split
  ·exact h
  ·refine h.push ?_;have:=Nat.max_lt.2 ⟨ha,hb⟩
   have:min a b<=max a b:=by omega
   simp only;omega
theorem Pt{first:Nat}{l:List (Int×Int)}{v:List Bool}(hv:v.length=first)(hz:bW v 0=false)(h1:1<=first)(wf:pK first l){a b:Nat}(ha:a<2*(first+l.length))(hb:b<2*(first+l.length)):
 bW (cg (bO first l a b).1 v) (bO first l a b).2=(bW (cg l v) a&&bW (cg l v) b):=by
 have hz2:bW (cg l v) 0=false:=by rw[vw _ (by omega)];exact hz
 have hM:max a b<2*(first+l.length):=Nat.max_lt.2 ⟨ha,hb⟩
 have hm:min a b<2*(first+l.length):=by omega
 have hL:(cg l v).length=first+l.length:=by rw[ze,hv]
 have key:(bW (cg l v) a&&bW (cg l v) b)=(bW (cg l v) (max a b)&&bW (cg l v) (min a b)):=by
  rcases Nat.le_total a b with h|h
  ·rw[Nat.max_eq_right h,rq h,Bool.and_comm]
  ·rw[Nat.max_eq_left h,Nat.min_eq_right h]
 rw[key];unfold bO;generalize max a b=p at*;generalize min a b=q at*
 cases hk:lY p q with
 |some c=>
  simp only;unfold lY at hk
  split at hk
  ·rename_i h2
   cases hk
   rw[hz2]
   rcases h2 with rfl|rfl
   ·rw[hz2,Bool.and_false]
   ·rw[Ci];cases bW (cg l v) p<;>rfl
  ·split at hk
   ·rename_i h2
    cases hk
    rcases h2 with rfl|rfl
    ·rw[adE hz2,pS]
    ·rw[nU]
   ·cases hk
 |none=>
  simp only
  cases hi:iw ((p:Int),(q:Int)) l 0 with
  |some i=>
   simp only;obtain⟨_,h2,h3⟩:=GP hi;simp only[EU]at h2 h3;have hw:=wf i h2;have:=GN (v:=v) h2 (by omega) (by omega);rw[hv,h3]at this;exact this
  |none=>
   simp only;rw[xY,cg,cg];rw[Ov _ _ (by omega)];rfl
theorem adh{first:Nat}{l:List (Int×Int)}{v:List Bool}(hv:v.length=first){a b c:Nat}(hc:c<2*(first+l.length)):bW (cg (bO first l a b).1 v) c=bW (cg l v) c:=by
 obtain⟨e,he⟩:=Pd first l a b
 rw[he,xY,vw _ (by rw[ze];omega)]
theorem aam(a:Gr):fX a a=true:=by simp[fX]
structure aiB(g:Gr)(a b:Int):Prop where
 ok:g.Ok
 a1:0<=a/\a<g.lits
 b1:0<=b/\b<g.lits
 R:g.ez a b=g.jE (bO g.first g.ands a.toNat b.toNat).1
 C:g.fw a b=(bO g.first g.ands a.toNat b.toNat).2
 sK:(g.ez a b).Ok
 lt:g.fw a b<(g.ez a b).lits
 le:g.lits<=(g.ez a b).lits
theorem Sl{g:Gr}{a b:Int}(h:g.kq a b=0):aiB g a b:=by
 have hR:g.ez a b=g.jE (bO g.first g.ands a.toNat b.toNat).1:=by unfold Gr.ez;rw[if_pos h]
 have hC:g.fw a b=(bO g.first g.ands a.toNat b.toNat).2:=by unfold Gr.fw;rw[if_pos h]
 unfold Gr.kq at h
 split at h
 ·contradiction
 ·rename_i hc;have ok:=Gr.qP (ET.1 hc)
  split at h
  ·cases h
  ·rename_i hl;rw[not_or]at hl;obtain⟨a1,a2⟩:=hl;simp[eG]at a1 a2
   split at h
   ·cases h
   ·rename_i hs;have hlits:g.lits=2*(g.first+g.ands.length):=rfl
    have ha:a.toNat<2*(g.first+g.ands.length):=by omega
    have hb:b.toNat<2*(g.first+g.ands.length):=by omega
    have h1:1<=g.first:=by unfold Gr.first;omega
    obtain⟨l1,l2⟩:=vR ha hb h1
    have wf:pK g.first (bO g.first g.ands a.toNat b.toNat).1:=pK.and ok.ands ha hb
    have hl2:(g.jE (bO g.first g.ands a.toNat b.toNat).1).lits=2*(g.first+(bO g.first g.ands a.toNat b.toNat).1.length):=rfl;refine⟨ok,by omega,by omega,hR,hC,?_,?_,?_⟩
    ·rw[hR];refine⟨ok.ins,by simp only;omega,ok.ju,ok.same,ok.init,fun x hx=>?_,fun x hx=>?_,wf⟩
     ·rw[hl2];have:=ok.next x hx;omega
     ·rw[hl2];have:=ok.outs x hx;omega
    ·rw[hC,hR,hl2];exact l1
    ·rw[hR,hl2,hlits];omega
end Go.Proofs.YtchjijfjidlpjaaGreatDoor
namespace Go.Proofs.YtchjijfjidlpjaaGreatDoor
open Go.AM Go.Proofs
variable{Γ:Nat->Option AV}
abbrev I4(p s:List Ob)(c0 c1 c2 c3 c4 c5:AV)(i:Nat):List Ob:=p++.cells [c0,c1,c2,c3,c4,c5,.sl (p.length+(s.length+1)) 0 i]::(s++[.row 1 aq ((ids i).map iN) none true false])
theorem RN(p s:List Ob)(c0 c1 c2 c3 c4 c5:AV)(f:Nat)(hf:f<2^20)(hp:∀m,cQ (p.length+(s.length+1)) m p=true)(hs:∀m,cQ (p.length+(s.length+1)) m s=true)
 (hc:∀m,dh (p.length+(s.length+1)) m [c0,c1,c2,c3,c4,c5]=true)(base:Nat)(hb:base<=p.length+(s.length+1))(up:List Fr)(ds:List dF)(hds:ds=[]):
 ∀n i:Nat,i+n=f->AM.Reach Tryz.prog Γ (yoV (.ptr p.length 0) (.int .i64 f) (.int .i64 i) (I4 p s c0 c1 c2 c3 c4 c5 i) ⟨ds,.norm,base,up⟩)
  (yoW (.ptr p.length 0) (I4 p s c0 c1 c2 c3 c4 c5 f) ⟨ds,.norm,base,up⟩):=by
 subst hds;intro n
 induction n with
 |zero=>
  intro i hi
  obtain rfl:i=f:=by omega
  refine .dW 60 ?_;simp;exact .exit rfl rfl
 |succ n ih=>
  intro i hi
  have q1:(i:Int)<f:=by omega
  have hh:=ih (i+1) (by omega);have h1:=hp (i+1);have h2:=hs (i+1);have h3:=hc (i+1);simp only[dh,ay,pS]at h3;obtain⟨w0,w1,w2,w3,w4,w5⟩:=h3;refine .dW 60 ?_;simp(disch:=(first|omega|(simp;omega))) [q1];refine .aO ?_;simp
  have e1:(List.map iN (ids i)++[AV.int .i64 (2*(i:Int))]).length=i+1:=by simp
  refine .rU (i:=p.length+(s.length+1)) (by simp;exact⟨rfl,rfl,rfl,rfl,rfl⟩) (by simpa using hb) (by simp) (by rw[e1];simp[h1,h2,w0,w1,w2,w3,w4,w5]) ?_;rw[I4,Ho]at hh;simp at hh⊢;exact hh
theorem O'(ins:Int)(x1 x2:AV)(h1:(∃f k l,x1=.list f k l)\/∃i o n,x1=.sl i o n)(h2:(∃f k l,x2=.list f k l)\/∃i o n,x2=.sl i o n)(h:List Ob):∀up,AM.Reach Tryz.prog Γ (.cl tw [.agg [.int .i64 ins,x1,x2,.list true 0 [],.list true 0 []]] up h)
 (.back up (.ptr (h.length+2) 0) (h++[.cells [.int .i64 ins,x1,x2,.list true 0 [],.list true 0 []],.map [] true,.cells [.int .i64 ins,x1,x2,.sl (h.length+3) 0 0,.list true 0 [],.mp (h.length+1),.list true 0 []],.row 2 cT [] none true false])):=by
 intro up;have hcl:=LK (Γ:=Γ) (k:=0) [] .nil (by simp)
 rcases h1 with⟨f1,k1,l1,rfl⟩|⟨i1,o1,n1,rfl⟩<;>rcases h2 with⟨f2,k2,l2,rfl⟩|⟨i2,o2,n2,rfl⟩
 all_goals
  refine .bt 60 Mm ?_;simp;refine .kW 60 (by simp) hcl ?_;simp;refine .inLoop ?_;refine .a8 60 ?_;simp
abbrev SC(g:Gr):List Ob:=[cJ g,.cells [.int .i64 0,.sl 2 0 0,.sl 3 0 0,.sl 4 0 0,.sl 5 0 0],.row 1 aq [] none true false,.row 1 aq [] none true false,.row 2 cT [] none true false,.row 1 aq [] none true false,
 cJ g,.row 1 aq (g.init.map i64) none true false,.cells [.int .i64 g.ins,.list false g.kn (g.next.map i64),.sl 7 0 g.init.length,.list true 0 [],.list true 0 []]]
abbrev sx(g:Gr)(es:List ((Int×Int)×Nat))(l:List (Int×Int))(to:List Nat)(q:List Ob):List Ob:=
 SC g++(.map (es.map ir) true::.cells [.int .i64 g.ins,.list false g.kn (g.next.map i64),.sl 7 0 g.init.length,.sl 11 0 l.length,.list true 0 [],.mp 9,.sl 12 0 to.length]::.row 2 cT (l.map c8) none true false::.row 1 aq (to.map iN) none true false::q)
set_option maxRecDepth 8000 in
theorem agn(g:Gr)(ok:g.Ok){o:Out}(l1:List (Int×Int))(to1:List Nat)(hfin:fv g.first g.ands [] (ids g.first)=(l1,to1))
 (hc:∀es,kv g.first l1 es->l1.length<=g.ands.length->to1.length=g.all->nE g.first l1 to1->aA Tryz.prog Γ (J4 (.ptr 0 0) (.ptr 1 0) (.ptr 10 0) (sx g es l1 to1 [])) o):
 ∀n i:Nat,i+n=g.ands.length->∀es l to,kv g.first l es->l.length<=i->to.length=g.first+i->nE g.first l to->fv g.first (g.ands.drop i) l to=(l1,to1)->
  aA Tryz.prog Γ (yit (.ptr 0 0) (.ptr 1 0) (.ptr 10 0) (.list false g.ka (g.ands.map c8)) (.int .i64 g.ands.length) (.int .i64 i) (sx g es l to [])) o:=by
 have o1:=ok.ins;have o3:=ok.sum;have o4:=ok.ju
 have hfb:g.first<=8001:=by unfold Gr.first;omega
 have hf1:1<=g.first:=by unfold Gr.first;omega
 intro n
 induction n with
 |zero=>
  intro i hi es l to he hl ht hok hS
  have q1:¬i<g.ands.length:=by omega
  rw[bA (by omega)]at hS;simp only[fv,bY]at hS;obtain⟨rfl,rfl⟩:=hS;refine .reach (.dW 60 (c':=J4 (.ptr 0 0) (.ptr 1 0) (.ptr 10 0) (sx g es l to [])) ?_) (hc es he (by omega) (by unfold Gr.all;omega) hok);simp[q1];exact .exit rfl rfl
 |succ n ih=>
  intro i hi es l to he hl ht hok hS
  have q1:i<g.ands.length:=by omega
  have q2:=bR (g.ha.of q1);rw[bJ q1,fv]at hS;obtain⟨⟨b1,b2⟩,b3,b4⟩:=ok.ands i q1;obtain⟨x,hx⟩:=gB b1;obtain⟨y,hy⟩:=gB b3;rw[hx,hy]at hS;simp only[dX]at hS
  have hx2:x/2<to.length:=by omega
  have hy2:y/2<to.length:=by omega
  have ha:=om hok.lt hx2;have hb:=om hok.lt hy2;obtain⟨hlt,hge⟩:=vR ha hb hf1
  have hto:∀z∈to,z<2^40:=fun z hz=>by have:=hok.lt z hz;omega
  have k1:=we (Γ:=Γ) to hto x hx2 (by omega) 10 12 (h:=sx g es l to [.cells [.int .i64 x,.int .i64 y]]) rfl rfl (by simp);have k2:=we (Γ:=Γ) to hto y hy2 (by omega) 10 12 (h:=sx g es l to [.cells [.int .i64 x,.int .i64 y]]) rfl rfl (by simp)
  have hgl:=Cu g.first l (bo to x) (bo to y)
  obtain⟨es',gr,junk,he',hgr,hjk,k3⟩:=R2 (Γ:=Γ) (p:=SC g) (q:=[.row 1 aq (to.map iN) none true false,.cells [.int .i64 x,.int .i64 y]]) (x1:=.list false g.kn (g.next.map i64)) (x2:=.sl 7 0 g.init.length) (x4:=.list true 0 []) (come:=.sl 12 0 to.length)
   ⟨g.ins,g.next,g.init,[],[],g.kn,1,2,0,g.hn,.self,.self,.nil⟩ o1 (by simp;omega) l (by omega) es he (bo to x) (bo to y) (by omega) (by omega) (fun s=>by simp) (fun s=>by simp) (fun s=>by simp)
  have hfe:(⟨g.ins,g.next,g.init,[],[],g.kn,1,2,0,g.hn,.self,.self,.nil⟩:Gr).first=g.first:=rfl
  rw[hfe]at k3 he'
  have hh:=ih (i+1) (by omega) es' (bO g.first l (bo to x) (bo to y)).1 (to++[(bO g.first l (bo to x) (bo to y)).2]) he' (by omega) (by simp;omega) ⟨fun z hz=>by
   rcases aT.1 hz with hz|hz
   ·have:=hok.lt z hz;omega
   ·simp at hz;omega⟩ hS
  generalize bO g.first l (bo to x) (bo to y)=r at*
  refine .go 60 ?_;simp[q1,q2];refine .dr 60 ?_;simp(disch:=omega) [hx,hy];refine .reach (by simp) k1 ?_;simp(disch:=omega) [hx,hy];refine .reach (by simp) k2 ?_;simp(disch:=omega) [hx,hy];refine .reach (by simp) k3 ?_
  rcases hjk with rfl|⟨jx,jy,rfl⟩
  ·simp(disch:=(first|omega|(simp;omega))) [hx,hy];refine .aO ?_;simp;refine .drop 13 rfl (by simp) (by simp) (by simp) ?_
   have e1:(to.map iN++[AV.int .i64 (r.2:Int)]).length=to.length+1:=by simp
   refine .nn (i:=11) rfl hgr (by simp) (by simp) (by simp) ?_;refine .nn (i:=12) rfl (.inr rfl) (by simp) (by simp) (by rw[e1];simp) ?_;simp at hh⊢;exact hh
  ·simp(disch:=(first|omega|(simp;omega))) [hx,hy];refine .aO ?_;simp;refine .drop 13 rfl (by simp) (by simp) (by simp) ?_
   have e1:(to.map iN++[AV.int .i64 (r.2:Int)]).length=to.length+1:=by simp
   refine .nn (i:=11) rfl hgr (by simp) (by simp) (by simp) ?_;refine .nn (i:=12) rfl (.inr rfl) (by simp) (by simp) (by rw[e1];simp) ?_;simp at hh⊢;exact hh
abbrev IJ(x:Gr):List Ob:=
 [.cells [.int .i64 0,.sl 1 0 0,.sl 2 0 0,.sl 3 0 0,.sl 4 0 0],.row 1 aq [] none true false,.row 1 aq [] none true false,.row 2 cT [] none true false,.row 1 aq [] none true false,
  .cells [.int .i64 x.ins,.sl 6 0 x.next.length,.sl 7 0 x.init.length,.sl 8 0 x.ands.length,.sl 9 0 x.outs.length],.row 1 aq (x.next.map i64) none true false,.row 1 aq (x.init.map i64) none true false,.row 2 cT (x.ands.map c8) none true false,.row 1 aq (x.outs.map i64) none true false,.row 1 pk (x.aY.map .bool) none true false]
abbrev IN(x:Gr):List Ob:=IJ x++[.cells [.int .i64 x.ins,.sl 6 0 x.next.length,.sl 7 0 x.init.length,.sl 8 0 x.ands.length,.sl 9 0 x.outs.length],.row 1 aq (x.init.map i64) none true false,.cells [.int .i64 x.ins,.sl 6 0 x.next.length,.sl 12 0 x.init.length,.list true 0 [],.list true 0 []]]
abbrev uw(x:Gr)(es:List ((Int×Int)×Nat))(l:List (Int×Int))(to:List Nat)(q:List Ob):List Ob:=
 IN x++(.map (es.map ir) true::.cells [.int .i64 x.ins,.sl 6 0 x.next.length,.sl 12 0 x.init.length,.sl 16 0 l.length,.list true 0 [],.mp 14,.sl 17 0 to.length]::.row 2 cT (l.map c8) none true false::.row 1 aq (to.map iN) none true false::q)
@[simp] theorem aAg(to:List Nat)(l:List Int):(List.map iN (eh to l)).take l.length=List.map iN (eh to l):=by rw[cR];simp
set_option maxRecDepth 8000 in
theorem ahD(x:Gr)(hstd:x.kn=1/\x.ki=1/\x.ka=2/\x.ko=1)(ok:x.Ok){o:Out}(l1:List (Int×Int))(to1:List Nat)
 (hc:∀es,kv x.first l1 es->l1.length<=x.ands.length->to1.length=x.all->nE x.first l1 to1->aA Tryz.prog Γ (UB (.ptr 0 0) (.ptr 5 0) (.ptr 15 0) (uw x es l1 to1 [])) o):
 ∀n i:Nat,i+n=x.ands.length->∀es l to,kv x.first l es->l.length<=i->to.length=x.first+i->nE x.first l to->dK x.first x.aY (x.ands.drop i) i l to=(l1,to1)->
  aA Tryz.prog Γ (yiq (.ptr 0 0) (.ptr 5 0) (.sl 10 0 x.all) (.ptr 15 0) (.sl 8 0 x.ands.length) (.int .i64 x.ands.length) (.int .i64 i) (uw x es l to [])) o:=by
 have o1:=ok.ins;have o3:=ok.sum;have o4:=ok.ju;obtain⟨s1,s2,s3,s4⟩:=hstd;have hfirst:=rM (Γ:=Γ) x o1.1 o1.2 (by omega);rw[eQ,s1,s2,s3,s4]at hfirst
 have hfb:x.first<=8001:=by unfold Gr.first;omega
 have hf1:1<=x.first:=by unfold Gr.first;omega
 have hll:=QT x;intro n
 induction n with
 |zero=>
  intro i hi es l to he hl ht hok hS
  have q1:¬i<x.ands.length:=by omega
  rw[bA (by omega)]at hS;simp only[dK,bY]at hS;obtain⟨rfl,rfl⟩:=hS;refine .reach (.dW 60 (c':=UB (.ptr 0 0) (.ptr 5 0) (.ptr 15 0) (uw x es l to [])) ?_) (hc es he (by omega) (by unfold Gr.all;omega) hok);simp[q1];exact .exit rfl rfl
 |succ n ih=>
  intro i hi es l to he hl ht hok hS
  have q1:i<x.ands.length:=by omega
  rw[bJ q1,dK]at hS;obtain⟨⟨b1,b2⟩,b3,b4⟩:=ok.ands i q1;obtain⟨a,ha⟩:=gB b1;obtain⟨b,hb⟩:=gB b3;rw[ha,hb]at hS;simp only[dX]at hS
  have q3:x.first+i<x.all:=by unfold Gr.all;omega
  have e1:(x.first:Int)+i=((x.first+i:Nat):Int):=by omega
  rw[bq,aR (by omega),j4]at hS;refine .go 60 ?_;simp(disch:=omega) [q1];refine .call 60 (by simp) hfirst ?_
  by_cases hb0:x.aY[x.first+i]=true
  ·rw[if_pos hb0]at hS
   have hx2:a/2<to.length:=by omega
   have hy2:b/2<to.length:=by omega
   have hla:=om hok.lt hx2;have hlb:=om hok.lt hy2;obtain⟨hlt,hge⟩:=vR hla hlb hf1
   have hto:∀z∈to,z<2^40:=fun z hz=>by have:=hok.lt z hz;omega
   have k1:=we (Γ:=Γ) to hto a hx2 (by omega) 15 17 (h:=uw x es l to [.cells [.int .i64 a,.int .i64 b]]) rfl rfl (by simp);have k2:=we (Γ:=Γ) to hto b hy2 (by omega) 15 17 (h:=uw x es l to [.cells [.int .i64 a,.int .i64 b]]) rfl rfl (by simp)
   have hgl:=Cu x.first l (bo to a) (bo to b)
   obtain⟨es',gr,junk,he',hgr,hjk,k3⟩:=R2 (Γ:=Γ) (p:=IN x) (q:=[.row 1 aq (to.map iN) none true false,.cells [.int .i64 a,.int .i64 b]]) (x1:=.sl 6 0 x.next.length) (x2:=.sl 12 0 x.init.length) (x4:=.list true 0 []) (come:=.sl 17 0 to.length)
    ⟨x.ins,x.next,x.init,[],[],1,1,2,0,.self,.self,.self,.nil⟩ o1 (by simp;omega) l (by omega) es he (bo to a) (bo to b) (by omega) (by omega) (fun s=>by simp) (fun s=>by simp) (fun s=>by simp)
   have hfe:(⟨x.ins,x.next,x.init,[],[],1,1,2,0,.self,.self,.self,.nil⟩:Gr).first=x.first:=rfl
   rw[hfe]at k3 he'
   have hh:=ih (i+1) (by omega) es' (bO x.first l (bo to a) (bo to b)).1 (to++[(bO x.first l (bo to a) (bo to b)).2]) he' (by omega) (by simp;omega) ⟨fun z hz=>by
    rcases aT.1 hz with hz|hz
    ·have:=hok.lt z hz;omega
    ·simp at hz;omega⟩ hS
   generalize bO x.first l (bo to a) (bo to b)=r at*
   simp(disch:=omega) [e1,q3,hll,hb0,-Int.natCast_add];refine .dr 60 ?_;simp(disch:=omega) [ha,hb];refine .reach (by simp) k1 ?_;simp(disch:=omega) [ha,hb];refine .reach (by simp) k2 ?_;simp(disch:=omega) [ha,hb];refine .reach (by simp) k3 ?_
   rcases hjk with rfl|⟨jx,jy,rfl⟩
   ·simp(disch:=(first|omega|(simp;omega))) [ha,hb];refine .aO ?_;simp;refine .drop 18 rfl (by simp) (by simp) (by simp) ?_
    have e2:(to.map iN++[AV.int .i64 (r.2:Int)]).length=to.length+1:=by simp
    refine .nn (i:=16) rfl hgr (by simp) (by simp) (by simp) ?_;refine .nn (i:=17) rfl (.inr rfl) (by simp) (by simp) (by rw[e2];simp) ?_;simp at hh⊢;exact hh
   ·simp(disch:=(first|omega|(simp;omega))) [ha,hb];refine .aO ?_;simp;refine .drop 18 rfl (by simp) (by simp) (by simp) ?_
    have e2:(to.map iN++[AV.int .i64 (r.2:Int)]).length=to.length+1:=by simp
    refine .nn (i:=16) rfl hgr (by simp) (by simp) (by simp) ?_;refine .nn (i:=17) rfl (.inr rfl) (by simp) (by simp) (by rw[e2];simp) ?_;simp at hh⊢;exact hh
  ·rw[if_neg hb0]at hS
   have hh:=ih (i+1) (by omega) es l (to++[0]) he (by omega) (by simp;omega) ⟨fun z hz=>by
    rcases aT.1 hz with hz|hz
    ·exact hok.lt z hz
    ·simp at hz;omega⟩ hS
   simp(disch:=(first|omega|(simp;omega))) [e1,q3,hll,hb0,-Int.natCast_add];refine .aO ?_;simp;refine .drop 18 rfl (by simp) (by simp) (by simp) ?_
   have e2:(to.map iN++[AV.int .i64 0]).length=to.length+1:=by simp
   refine .nn (i:=17) rfl (.inr rfl) (by simp) (by simp) (by rw[e2];simp) ?_;simp at hh⊢;exact hh
set_option maxRecDepth 8000 in
theorem ag8(x:Gr)(hstd:x.kn=1/\x.ki=1/\x.ka=2/\x.ko=1)(ok:x.Ok):aA Tryz.prog Γ (.fr ⟨.run,n6,[.code (.seq (.ae Jg) (.seq (.seq (.ae Jp) (.block 2 D2 (.loop EL Au))) (.seq (.ae Ek) .ret)))],
 [U,U,.ptr 0 0,U,U,U,U,U,.ptr 5 0,.sl 10 0 x.aY.length]++List.replicate 85 U,[],.norm,0⟩ [] (IJ x)) (.ret (.aH [eQ x.c9,.int .i64 0])):=by
 have o1:=ok.ins;have o3:=ok.sum;have o4:=ok.ju;have hs:=hstd;obtain⟨s1,s2,s3,s4⟩:=hs;have hfirst:=rM (Γ:=Γ) x o1.1 o1.2 (by omega);rw[eQ,s1,s2,s3,s4]at hfirst
 have hfb:x.first<=8001:=by unfold Gr.first;omega
 have hsame:=ok.same;rw[QT];refine .go 60 ?_;simp;refine .enter 60 Mg ?_;simp;refine .dr 60 ?_;simp;refine .call (by simp) (LM (Γ:=Γ) x.init (k:=1) .self (by omega)) ?_;simp;refine .reach (by simp) (O' x.ins _ _ (.inr ⟨_,_,_,rfl⟩) (.inr ⟨_,_,_,rfl⟩) _) ?_;simp;refine .call 60 (by simp) hfirst ?_;simp;refine .mj 15 6 1 aq rfl rfl (by omega) ?_;simp;refine .inLoop ?_
 have kb:=fun up=>RN (Γ:=Γ) (IN x++[.map [] true]) [.row 2 cT [] none true false]
  (.int .i64 x.ins) (.sl 6 0 x.next.length) (.sl 12 0 x.init.length) (.sl 16 0 0) (.list true 0 []) (.mp 14) x.first (by omega) (by intro m;simp) (by intro m;simp) (by intro m;simp) 11 (by simp) up [] rfl x.first 0 (by omega)
 simp[ids]at kb⊢;refine .reach (kb _) ?_;refine .go 60 ?_;simp;refine .inLoop ?_
 generalize hS:dK x.first x.aY x.ands 0 [] (ids x.first)=r
 obtain⟨l1,to1⟩:=r
 have hL:=ahD (Γ:=Γ) x hstd ok (o:=.ret (.aH [eQ x.c9,.int .i64 0])) l1 to1 ?_ x.ands.length 0 (by omega) [] [] (ids x.first) (Hu _) (aQ _) (by simp) ⟨fun z hz=>by
  simp[ids]at hz;obtain⟨a,ha,rfl⟩:=hz;simp;omega⟩ (by simpa using hS)
 ·simp[ids]at hL⊢;exact hL
 intro es he hl1 ht1 hto
 have hn2:x.c9=x.dj (l1,to1):=by unfold Gr.c9;rw[hS]
 have hall:x.all<=12001:=by unfold Gr.all;omega
 have hlits:x.lits=2*x.all:=rfl
 have ht40:∀z∈to1,z<2^40:=fun z hz=>by have:=hto.lt z hz;omega
 have kA:=fun q=>Ri (Γ:=Γ) to1 ht40 x.next (by omega) (fun a ha=>by have:=ok.next a ha;omega) (by omega) 15 17 6 (h:=uw x es l1 to1 (.cells [.int .i64 x.ins,.sl 6 0 x.next.length,.sl 7 0 x.init.length,.sl 8 0 x.ands.length,.sl 9 0 x.outs.length]::.cells [.int .i64 0,.sl 20 0 0,.sl 21 0 0,.sl 22 0 0,.sl 23 0 0]::q)) rfl rfl rfl
 have kB:=fun q=>Ri (Γ:=Γ) to1 ht40 x.outs (by omega) (fun a ha=>by have:=ok.outs a ha;omega) (by omega) 15 17 9 (h:=uw x es l1 to1 (.cells [.int .i64 x.ins,.sl 6 0 x.next.length,.sl 7 0 x.init.length,.sl 8 0 x.ands.length,.sl 9 0 x.outs.length]::.cells [.int .i64 0,.sl 20 0 0,.sl 21 0 0,.sl 22 0 0,.sl 23 0 0]::q)) rfl rfl rfl
 rw[hn2];refine .go 60 ?_;simp;refine .enter 60 LW ?_;simp;refine .dr 60 ?_;simp;refine .reach (by simp) (kA [.row 1 aq [] none true false,.row 1 aq [] none true false,.row 2 cT [] none true false,.row 1 aq [] none true false] (by intro m;simp)) ?_;simp;refine .reach (by simp) (kB [.row 1 aq [] none true false,.row 1 aq [] none true false,.row 2 cT [] none true false,.row 1 aq [] none true false,.row 1 aq [] none true false,.row 1 aq ((eh to1 x.next).map iN) none true false] (by intro m;simp)) ?_;simp[Gr.dj];exact .back (by simp)
set_option maxRecDepth 8000 in
theorem aha(g:Gr)(ok:g.Ok)(l1:List (Int×Int))(to1:List Nat)(hx:g.dq=g.dj (l1,to1))(okx:g.dq.Ok)(es:List ((Int×Int)×Nat))(hl1:l1.length<=g.ands.length)(ht1:to1.length=g.all)(hto:nE g.first l1 to1):
 aA Tryz.prog Γ (J4 (.ptr 0 0) (.ptr 1 0) (.ptr 10 0) (sx g es l1 to1 [])) (.ret (.aH [eQ g.dq.c9,.int .i64 0])):=by
 have o1:=ok.ins;have o3:=ok.sum;have o4:=ok.ju
 have hfb:g.first<=8001:=by unfold Gr.first;omega
 have hall:g.all<=12001:=by unfold Gr.all;omega
 have hlits:g.lits=2*g.all:=rfl
 have ht40:∀z∈to1,z<2^40:=fun z hz=>by have:=hto.lt z hz;omega
 have kA:=fun q=>R' (Γ:=Γ) to1 ht40 g.next g.hn (by omega) (fun a ha=>by have:=ok.next a ha;omega) (by omega) 10 12 (h:=sx g es l1 to1 (cJ g::.cells [.int .i64 0,.sl 15 0 0,.sl 16 0 0,.sl 17 0 0,.sl 18 0 0]::q)) rfl rfl
 have kB:=fun q=>R' (Γ:=Γ) to1 ht40 g.outs g.ho (by omega) (fun a ha=>by have:=ok.outs a ha;omega) (by omega) 10 12 (h:=sx g es l1 to1 (cJ g::.cells [.int .i64 0,.sl 15 0 0,.sl 16 0 0,.sl 17 0 0,.sl 18 0 0]::q)) rfl rfl
 refine .go 60 ?_;simp;refine .enter 60 LW ?_;simp;refine .dr 60 ?_;simp;refine .reach (by simp) (kA [.row 1 aq [] none true false,.row 1 aq [] none true false,.row 2 cT [] none true false,.row 1 aq [] none true false] (by intro m;simp)) ?_;simp;refine .reach (by simp) (kB [.row 1 aq [] none true false,.row 1 aq [] none true false,.row 2 cT [] none true false,.row 1 aq [] none true false,.row 1 aq [] none true false,.row 1 aq ((eh to1 g.next).map iN) none true false] (by intro m;simp)) ?_;simp
 have ex:eQ g.dq=.agg [.int .i64 g.ins,.list false 1 ((eh to1 g.next).map iN),.list false 1 (g.init.map i64),.list false 2 (l1.map c8),.list false 1 ((eh to1 g.outs).map iN)]:=by
  rw[hx];simp[Gr.dj]
 have hled:=acp (Γ:=Γ) g.dq okx;rw[ex]at hled;refine .call 3 (by simp) hled ?_;simp;refine .oF [1,5,49,50,51,52,53] ?_;simp;refine .gc 0 [1,2,3,4,5,23,20,7,11,22,28] (by simp) (by decide) ?_;have hh:=ag8 (Γ:=Γ) g.dq ⟨by rw[hx];rfl,by rw[hx];rfl,by rw[hx];rfl,by rw[hx];rfl⟩ okx;simp[IJ,hx,Gr.dj]at hh⊢;exact hh
set_option maxRecDepth 8000 in
theorem FF(g:Gr)(hf:g.iA):aS Tryz.prog Γ n6 [eQ g] (.aH [eQ g.normal,.int .i64 g.check]):=by
 refine .run 60 Zv (by simp) ?_;simp;refine .call 60 (by simp) (vf g hf) ?_
 by_cases hc:g.check=0
 ·have ok:=Gr.qP hc;have o1:=ok.ins;have o3:=ok.sum;have o4:=ok.ju;have hfirst:=rM (Γ:=Γ) g o1.1 o1.2 (by omega)
  have hn0:g.normal=g.dq.c9:=by unfold Gr.normal;rw[if_pos hc]
  rw[hn0];simp[hc];refine .enter 60 Mg ?_;simp;refine .dr 60 ?_;simp;refine .call (by simp) (LM (Γ:=Γ) g.init g.hi hf.2.1) ?_;simp;refine .reach (by simp) (O' g.ins _ _ (.inl ⟨_,_,_,rfl⟩) (.inr ⟨_,_,_,rfl⟩) _) ?_;simp;refine .call 60 (by simp) hfirst ?_;simp;refine .mj 10 6 1 aq rfl rfl (by omega) ?_;simp;refine .inLoop ?_
  have hfb:g.first<=8001:=by unfold Gr.first;omega
  have kb:=fun up=>RN (Γ:=Γ) [cJ g,.cells [.int .i64 0,.sl 2 0 0,.sl 3 0 0,.sl 4 0 0,.sl 5 0 0],.row 1 aq [] none true false,.row 1 aq [] none true false,.row 2 cT [] none true false,.row 1 aq [] none true false,
   cJ g,.row 1 aq (g.init.map i64) none true false,.cells [.int .i64 g.ins,.list false g.kn (g.next.map i64),.sl 7 0 g.init.length,.list true 0 [],.list true 0 []],.map [] true] [.row 2 cT [] none true false]
   (.int .i64 g.ins) (.list false g.kn (g.next.map i64)) (.sl 7 0 g.init.length) (.sl 11 0 0) (.list true 0 []) (.mp 9) g.first (by omega) (by intro m;simp) (by intro m;simp) (by intro m;simp) 6 (by simp) up [] rfl g.first 0 (by omega)
  simp[ids]at kb⊢;refine .reach (kb _) ?_;refine .go 60 ?_;simp;refine .inLoop ?_;obtain⟨okx,_,hlen⟩:=CU ok
  have hS:fv g.first g.ands [] (ids g.first)=((fv g.first g.ands [] (ids g.first)).1,(fv g.first g.ands [] (ids g.first)).2):=rfl
  have hL:=agn (Γ:=Γ) g ok (o:=.ret (.aH [eQ g.dq.c9,.int .i64 0])) _ _ hS (fun es he hl1 ht1 hto=>aha g ok _ _ rfl okx es hl1 ht1 hto) g.ands.length 0 (by omega) [] [] (ids g.first) (Hu _) (aQ _) (by simp) (C5 _) (by simp);simp[ids]at hL⊢;exact hL
 ·have hn0:g.normal=fQ:=by unfold Gr.normal;rw[if_neg hc]
  rw[hn0];simp[hc,fQ];exact .back (by simp)
@[simp] theorem aBR(n:Nat):((60:Int)<n)=(60<n):=propext (by omega)
@[simp] theorem aBQ(n:Nat):((n:Int)<=60)=(n<=60):=propext (by omega)
@[simp] theorem aBW(n:Nat):((n:Int)<=40)=(n<=40):=propext (by omega)
def Gr.DW(g:Gr):Bool:=(decide (g.ins<=100)||decide (4000<g.ins))&&decide (g.next.length<=40)&&decide (g.init.length<=40)&&decide (g.ands.length<=60)&&decide (g.outs.length<=60)
theorem ac1(g:Gr):aS Tryz.prog Γ B4 [eQ g] (.bool g.DW):=by
 refine .run 60 ab4 (by simp) ?_;unfold Gr.DW
 by_cases h1:g.ins<=100<;>by_cases h2:4000<g.ins<;>by_cases h3:g.next.length<=40<;>by_cases h4:g.init.length<=40<;>by_cases h5:g.ands.length<=60<;>simp[h1,h2,h3,h4,h5]<;>exact .back (by simp)
theorem Gr.Ok.iA{g:Gr}(h:g.Ok):g.iA:=by
 have h1:=h.ins;have h2:=h.sum;have h3:=h.ju;have h4:=h.same
 unfold Gr.iA;omega
theorem QV:fQ.iA:=by unfold Gr.iA fQ;decide
abbrev I8:Ob:=.row 1 aq [] none true false
abbrev aiZ:Ob:=.row 2 cT [] none true false
end Go.Proofs.YtchjijfjidlpjaaGreatDoor
namespace Go.Proofs.YtchjijfjidlpjaaGreatDoor
open Go.AM Go.Proofs
def bS(h:List Ob):Prop:=∀m,h.length<=m->cr m h=true
theorem Ph{m:Nat}{o:Ob}(ho:iu m o=true):∀{h:List Ob}(i:Nat),cr m h=true->cr m (h.set i o)=true
 |[],i,h1=>h1
 |o'::h,0,h1=>by
  simp only[cr,ay,wX]at h1⊢;exact⟨ho,h1.2⟩
 |o'::h,i+1,h1=>by
  simp only[cr,ay,rp]at h1⊢;exact⟨h1.1,Ph ho i h1.2⟩
theorem bS.set{h:List Ob}(hw:bS h){o:Ob}(hb:∀m,h.length<=m->iu m o=true)(i:Nat):bS (h.set i o):=fun m hm=>by
 rw[jZ]at hm;exact Ph (hb m hm) i (hw m hm)
def gV(h:List Ob):Prop:=∀i m,h.length<=i->cQ i m h=true
end Go.Proofs.YtchjijfjidlpjaaGreatDoor
namespace Go.Proofs.YtchjijfjidlpjaaGreatDoor
open Go.AM Go.Proofs
variable{Γ:Nat->Option AV}
abbrev ail:AV:=.bT FH (.agg [])
def cV{α:Type}(ev:α->AV)(i:Nat)(up:List Fr)(h:List Ob)(r:Gr×Option α):AM.ar:=
 match r.2 with
 |some a=>.back up (ev a) (h.set i (cJ r.1))
 |none=>.die up ail (h.set i (cJ r.1))
theorem tK{P:Program}{α:Type}{ev:α->AV}{i:Nat}{up:List Fr}{h:List Ob}(J:List Ob){f:FuncId}{args:List AV}{r:Gr×Option α}(hw:bS h)(hi:i<h.length)(hev:∀a,aG h.length (ev a)=true)
 (h1:AM.Reach P Γ (.cl f args up h) (cV ev i up (h++J) r)):AM.Reach P Γ (.cl f args up h) (cV ev i up h r):=by
 have e:∀o:Ob,((h++J).set i o).take h.length=h.set i o:=fun o=>by rw[lz _ _ hi,sW (by simp)]
 have hb:cr h.length (h.set i (cJ r.1))=true:=hw.set (fun m _=>by simp) i h.length (by simp);unfold cV at h1⊢
 cases hr:r.2 with
 |some a=>
  rw[hr]at h1;have:=AM.Reach.leave h1 (hev a) (by rw[e];exact hb);rwa[e]at this
 |none=>
  rw[hr]at h1;have:=AM.Reach.RO h1 rfl (by rw[e];exact hb);rwa[e]at this
theorem zO{α:Type}{h:List α}{i:Nat}{o:α}(hi:h[i]? =some o):h.set i o=h:=by
 obtain⟨hl,rfl⟩:=db.1 hi;exact List.set_getElem_self hl
theorem _root_.Go.AM.Reach.kZ{P:Program}(n:Nat){f:FuncId}{args:List AV}{up:List Fr}{h h':List Ob}{v:AV}{c:AM.ar}(h1:∀up,AM.Reach P Γ (.cl f args up h) (.die up v h'))(h2:AM.Reach P Γ (AM.go P Γ 2 n (AM.pop (.die up v h'))) c):AM.Reach P Γ (.cl f args up h) c:=.trans (h1 up) (.trans (.pop _) (.a8 n h2))
def eY(x:Gr)(p q:Nat):Gr×Option Nat:=if x.kq p q=0 then(x.ez p q,some (x.fw p q))else(x,none)
set_option maxRecDepth 8000 in
theorem C8(x:Gr)(ok:x.Ok)(p q:Nat){i:Nat}{h:List Ob}(hi:h[i]? =some (cJ x))(hw:bS h)(up:List Fr):AM.Reach Tryz.prog Γ (.cl ta [.ptr i 0,iN p,iN q] up h) (cV iN i up h (eY x p q)):=by
 have hA:=acg (Γ:=Γ) x ok.iA p q;have hl:=aV hi
 have hget:=fun os=>fF hi os
 have hset:∀os:List Ob,(h++os).set i (cJ x)=h++os:=fun os=>zO (hget os)
 refine tK [cJ (x.ez p q),I8,I8,aiZ,I8] hw hl (by simp) ?_;unfold eY cV;refine .bt 60 Xn ?_;simp[hi];refine .kW 60 (by simp) hA ?_
 by_cases e:x.kq p q=0
 ·simp[e,hget]
 ·simp[e,hget,hset]
def kX(turn:Nat):Gr->Nat->List Nat->Gr×Option Nat
 |x,c,[]=>(x,some c)
 |x,c,a::l=>match eY x c (a^^^turn)with
  |(y,some d)=>kX turn y d l
  |(y,none)=>(y,none)
def iJ(turn:Nat)(x:Gr)(l:List Nat):Gr×Option Nat:=match l with
 |[]=>(x,some 0)
 |a::r=>kX turn x (a^^^turn) r
structure il(x y:Gr):Prop where
 ok:y.Ok
 ins:y.ins=x.ins
 next:y.next=x.next
 init:y.init=x.init
 outs:y.outs=x.outs
 ands:∃e,y.ands=x.ands++e
theorem il.refl{x:Gr}(ok:x.Ok):il x x:=⟨ok,rfl,rfl,rfl,rfl,[],by simp⟩
theorem il.trans{x y z:Gr}(h:il x y)(h2:il y z):il x z:=by
 obtain⟨e,he⟩:=h.ands;obtain⟨e2,he2⟩:=h2.ands;exact⟨h2.ok,h2.ins.trans h.ins,h2.next.trans h.next,h2.init.trans h.init,h2.outs.trans h.outs,e++e2,by rw[he2,he,cI]⟩
theorem il.first{x y:Gr}(h:il x y):y.first=x.first:=by unfold Gr.first;rw[h.ins,h.next]
theorem il.lits{x y:Gr}(h:il x y):x.lits<=y.lits:=by
 obtain⟨e,he⟩:=h.ands;unfold Gr.lits Gr.all
 rw[h.first,he,bu];omega
theorem acR{x y:Gr}{p q d:Nat}(h:eY x p q=(y,some d)):x.kq p q=0/\y=x.ez p q/\d=x.fw p q:=by
 unfold eY at h
 split at h
 ·rename_i e;cases h;exact⟨e,rfl,rfl⟩
 ·cases h
theorem o_{x:Gr}(ok:x.Ok){p q:Nat}{y:Gr}{r:Option Nat}(h:eY x p q=(y,r)):il x y/\∀d,r=some d->d<y.lits:=by
 unfold eY at h
 split at h
 ·rename_i e
  cases h
  have a:=Sl e
  obtain⟨e1,he1⟩:=Pd x.first x.ands p q
  refine⟨⟨a.sK,by rw[a.R],by rw[a.R],by rw[a.R],by rw[a.R],e1,by rw[a.R];simpa using he1⟩,fun d hd=>by cases hd;exact a.lt⟩
 ·cases h
  exact⟨.refl ok,fun d hd=>by cases hd⟩
theorem ME(turn:Nat):∀(l:List Nat)(x:Gr)(c:Nat),x.Ok->c<x.lits->il x (kX turn x c l).1/\∀d,(kX turn x c l).2=some d->d<(kX turn x c l).1.lits
 |[],x,c,ok,hc=>⟨.refl ok,fun d hd=>by cases hd;exact hc⟩
 |a::l,x,c,ok,hc=>by
  rw[kX]
  cases h:eY x c (a^^^turn)with
  |mk y r=>
   obtain⟨g1,g2⟩:=o_ ok h
   cases r with
   |none=>exact⟨g1,fun d hd=>by cases hd⟩
   |some d=>
    obtain⟨h1,h2⟩:=ME turn l y d g1.ok (g2 d rfl);exact⟨g1.trans h1,h2⟩
theorem HQ{a n:Nat}(h:a<2*n):a^^^1<2*n:=by
 have h2:(a^^^1)/2=a/2:=by
  have:=Nat.xor_div_two (a:=a) (b:=1);simpa using this
 omega
theorem vS{a t n:Nat}(ht:t<=1)(h:a<2*n):a^^^t<2*n:=by
 obtain rfl|rfl:t=0\/t=1:=by omega
 ·simpa using h
 ·exact HQ h
def eF{α β:Type}(f:α->β)(r:Gr×Option α):Gr×Option β:=(r.1,r.2.map f)
def fL{α β:Type}(r:Gr×Option α)(f:Gr->α->Gr×Option β):Gr×Option β:=match r with
 |(y,some a)=>f y a
 |(y,none)=>(y,none)
def DB(x:Gr)(c a:Nat):Gr×Option Nat:=fL (eY x c (a^^^1)) fun y p=>fL (eY y (c^^^1) a) fun z q=>eF (·^^^1) (eY z (p^^^1) (q^^^1))
def qO:Gr->Nat->List Nat->Gr×Option Nat
 |x,c,[]=>(x,some c)
 |x,c,a::l=>fL (DB x c a) fun y d=>qO y d l
def Ac(x:Gr)(l:List Nat):Gr×Option Nat:=match l with
 |[]=>(x,some 0)
 |a::r=>qO x a r
def kx(x:Gr)(r:Gr×Option Nat):Prop:=il x r.1/\∀d,r.2=some d->d<r.1.lits
theorem GB{x:Gr}(ok:x.Ok)(p q:Nat):kx x (eY x p q):=o_ ok (y:=(eY x p q).1) (r:=(eY x p q).2) rfl
theorem kx.Dx{x:Gr}{r:Gr×Option Nat}(h:kx x r){t:Nat}(ht:t<=1):kx x (eF (·^^^t) r):=⟨h.1,fun d hd=>by
 simp only[eF,cf]at hd;obtain⟨a,ha,rfl⟩:=hd
 exact vS ht (h.2 a ha)⟩
theorem kx.then{x:Gr}{r:Gr×Option Nat}{f:Gr->Nat->Gr×Option Nat}(h:kx x r)(hf:∀y d,il x y->d<y.lits->kx y (f y d)):kx x (fL r f):=by
 obtain⟨y,o⟩:=r
 cases o with
 |none=>exact⟨h.1,fun d hd=>by cases hd⟩
 |some d=>
  have:=hf y d h.1 (h.2 d rfl);exact⟨h.1.trans this.1,this.2⟩
theorem OM{x:Gr}(ok:x.Ok)(c a:Nat):kx x (DB x c a):=
 (GB ok _ _).then fun y p g1 _=>(GB g1.ok _ _).then fun z q g2 _=>(GB g2.ok _ _).Dx (aQ 1)
theorem Nl:∀(l:List Nat)(x:Gr)(c:Nat),x.Ok->c<x.lits->kx x (qO x c l)
 |[],x,c,ok,hc=>⟨.refl ok,fun d hd=>by cases hd;exact hc⟩
 |a::l,x,c,ok,hc=>(OM ok c a).then fun y d g hd=>Nl l y d g.ok hd
theorem abc(turn:Nat)(l:List Nat)(x:Gr)(c:Nat)(ok:x.Ok)(hc:c<x.lits):kx x (kX turn x c l):=ME turn l x c ok hc
theorem zj(x:Gr):0<x.lits:=by unfold Gr.lits Gr.all Gr.first;omega
theorem y7{turn:Nat}(ht:turn<=1){x:Gr}(ok:x.Ok){l:List Nat}(hl:∀a∈l,a<x.lits):kx x (iJ turn x l):=by
 cases l with
 |nil=>exact⟨.refl ok,fun d hd=>by cases hd;exact zj x⟩
 |cons a r=>exact abc turn r x _ ok (vS (n:=x.all) ht (hl a (by simp)))
theorem abt{x:Gr}(ok:x.Ok){l:List Nat}(hl:∀a∈l,a<x.lits):kx x (Ac x l):=by
 cases l with
 |nil=>exact⟨.refl ok,fun d hd=>by cases hd;exact zj x⟩
 |cons a r=>exact Nl r x _ ok (hl a (by simp))
theorem R4{a t:Nat}(ht:t<=1)(ha:(a:Int)<2^60):gS .xor .i64 (a:Int) (t:Int)=some ((a^^^t:Nat):Int):=by
 have:=HV (x:=a) (a:=t) ha;rwa[Nat.mod_eq_of_lt (by omega)]at this
theorem kQ{x:Gr}(ok:x.Ok):x.lits<=2^14:=by
 have h1:=ok.ins;have h2:=ok.sum
 unfold Gr.lits Gr.all Gr.first
 omega
theorem PY(a t:Nat)(ht:t<=1)(ha:(a:Int)<2^60){q:Nat}{h:List Ob}(hq:h[q]? =some (.cells [iN t])):∀up,AM.Reach Tryz.prog Γ (.cl xE [iN a,.ptr q 0] up h) (.back up (iN (a^^^t)) h):=by
 intro up;refine .bt 60 W1 ?_;simp[hq,R4 ht ha]
set_option maxRecDepth 8000 in
theorem afS(turn:Nat)(ht:turn<=1)(l:List Nat)(hl:l.length<2^40){fl:Bool}{k:Nat}(hk:Kd 1 k l)(i L:Nat)(up:List Fr):∀n j:Nat,j+n=l.length->∀(x:Gr)(c:Nat)(h:List Ob),h.length=L->h[i]? =some (cJ x)->bS h->x.Ok->c<x.lits->(∀a∈l,a<x.lits)->
 AM.Reach Tryz.prog Γ (yAQ (.ptr i 0) (.fn (.func xE) [] [.ptr L 0]) (iN c) (.list fl k (l.map iN)) (.int .i64 l.length) (.int .i64 j) (h++[.cells [iN turn]]) ⟨[],.norm,L,up⟩) (cV iN i up (h++[.cells [iN turn]]) (kX turn x c (l.drop j))):=by
 intro n
 induction n with
 |zero=>
  intro j hj x c h hL hi hw ok hc hlt
  have q1:¬j<l.length:=by omega
  have hset:(h++[Ob.cells [iN turn]]).set i (cJ x)=h++[.cells [iN turn]]:=zO (fF hi _);rw[bA (by omega),kX];unfold cV;rw[hset];refine .a8 60 ?_;simp[q1]
 |succ n ih=>
  intro j hj x c h hL hi hw ok hc hlt;subst hL
  have q1:j<l.length:=by omega
  have q2:=bR (hk.of q1);have hle:=kQ ok;have ha:=hlt _ (bw q1);have hil:=aV hi;have hT:=PY (Γ:=Γ) l[j] turn ht (by omega) (q:=h.length) (h:=h++[.cells [iN turn]]) (by simp)
  have hA:=fun up=>C8 (Γ:=Γ) x ok c (l[j]^^^turn) (i:=i) (h:=h++[.cells [iN turn]]) (fF hi _) (by
   intro m hm;simp at hm
   simp[hw m (by omega)]) up
  rw[bJ q1,kX]
  have hset:∀o:Ob,(h++[Ob.cells [iN turn]]).set i o=h.set i o++[.cells [iN turn]]:=fun o=>lz _ _ hil
  have hset2:∀o o2:Ob,(h.set i o++[Ob.cells [iN turn]]).set i o2=h.set i o2++[.cells [iN turn]]:=fun o o2=>by rw[lz _ _ (by simpa using hil),sX]
  refine .a8 60 ?_;simp[q1,q2];refine .aW 60 hT ?_;simp
  cases h9:eY x c (l[j]^^^turn)with
  |mk y r=>
   rw[h9]at hA;obtain⟨g1,g2⟩:=o_ ok h9;unfold cV at hA⊢;simp only[hset]at hA⊢
   cases r with
   |none=>
    simp only at hA⊢;refine .kZ 60 hA ?_;simp
   |some d=>
    simp only at hA⊢;have hh:=ih (j+1) (by omega) y d (h.set i (cJ y)) (by simp) (by simp[hil]) (hw.set (fun m _=>by simp) i) g1.ok (g2 d rfl) (fun a ha=>lu (hlt a ha) g1.lits);unfold cV at hh;simp only[hset2]at hh;refine .aW 60 hA ?_;simp(disch:=omega);refine .aO ?_;simp[q2]at hh⊢;exact hh
set_option maxRecDepth 8000 in
theorem Qc(turn:Nat)(ht:turn<=1)(l:List Nat)(h0:l≠[])(hl:l.length<2^40){fl:Bool}{k:Nat}(hk:Kd 1 k l){i:Nat}(x:Gr){h:List Ob}(hi:h[i]? =some (cJ x))(hw:bS h)(ok:x.Ok)(hlt:∀a∈l,a<x.lits)(up:List Fr):
 AM.Reach Tryz.prog Γ (.cl uN [.ptr i 0,.list fl k (l.map iN),iN turn] up h) (cV iN i up h (iJ turn x l)):=by
 cases l with
 |nil=>exact absurd rfl h0
 |cons a r=>
  have hle:=kQ ok;have hil:=aV hi;have ha:=hlt a (by simp);simp at hl;obtain rfl:k=1:=hk.of (i:=0) (by simp);have hT:=PY (Γ:=Γ) a turn ht (by omega) (q:=h.length) (h:=h++[.cells [iN turn]]) (by simp);have hh:=afS (Γ:=Γ) turn ht r (by omega) (fl:=fl) (k:=1) .self i h.length up r.length 0 (by omega) x (a^^^turn) h rfl hi hw ok (vS (n:=x.all) ht ha) (fun b hb=>hlt b (by simp[hb]));refine tK [.cells [iN turn]] hw hil (by simp) ?_;rw[iJ];refine .bt 60 W8 ?_;simp(disch:=omega);refine .aW 60 hT ?_;simp(disch:=omega);refine .inLoop ?_;simp at hh⊢;exact hh
theorem RM(l:List Nat)(h0:l≠[])(hl:l.length<2^40){fl:Bool}{k:Nat}(hk:Kd 1 k l){i:Nat}(x:Gr){h:List Ob}(hi:h[i]? =some (cJ x))(hw:bS h)(ok:x.Ok)(hlt:∀a∈l,a<x.lits)(up:List Fr):
 AM.Reach Tryz.prog Γ (.cl uP [.ptr i 0,.list fl k (l.map iN)] up h) (cV iN i up h (iJ 0 x l)):=by
 have hA:=Qc (Γ:=Γ) 0 (by omega) l h0 hl (fl:=fl) hk x hi hw ok hlt;refine .bt 60 Xj ?_;simp;unfold cV at hA⊢
 cases h9:(iJ 0 x l).2<;>simp only[h9]at hA⊢
 ·refine .kZ 60 hA ?_;simp
 ·refine .aW 60 hA ?_;simp
theorem Rt(l:List Nat)(h0:l≠[])(hl:l.length<2^40){fl:Bool}{k:Nat}(hk:Kd 1 k l){i:Nat}(x:Gr){h:List Ob}(hi:h[i]? =some (cJ x))(hw:bS h)(ok:x.Ok)(hlt:∀a∈l,a<x.lits)(up:List Fr):
 AM.Reach Tryz.prog Γ (.cl uO [.ptr i 0,.list fl k (l.map iN)] up h) (cV iN i up h (eF (·^^^1) (iJ 1 x l))):=by
 have hA:=Qc (Γ:=Γ) 1 (by omega) l h0 hl (fl:=fl) hk x hi hw ok hlt;have hf:=y7 (turn:=1) (by omega) ok hlt;have hle:=kQ hf.1.ok;refine .bt 60 Xm ?_;simp;unfold cV at hA⊢;unfold eF
 cases h9:(iJ 1 x l).2 with
 |none=>
  simp only[h9,uC]at hA⊢;refine .kZ 60 hA ?_;simp
 |some d=>
  have:=hf.2 d h9;simp only[h9,dm]at hA⊢;refine .aW 60 hA ?_;simp(disch:=omega) []
theorem afk{i:Nat}{a:AV}{h:List Ob}(up:List Fr):AM.Reach Tryz.prog Γ (.cl xH [.ptr i 0,a] up h) (.back up (.int .i64 0) h):=by
 refine .bt 60 Xa ?_;simp
set_option maxRecDepth 8000 in
theorem afM(l:List Nat)(hl:l.length<2^40){fl:Bool}{k:Nat}(hk:Kd 1 k l)(i base:Nat)(up:List Fr):∀n j:Nat,j+n=l.length->∀(x:Gr)(c:Nat)(h:List Ob),h[i]? =some (cJ x)->bS h->x.Ok->c<x.lits->(∀a∈l,a<x.lits)->
 AM.Reach Tryz.prog Γ (yDr (.ptr i 0) (iN c) (.list fl k (l.map iN)) (.int .i64 l.length) (.int .i64 j) h ⟨[],.norm,base,up⟩) (cV iN i up h (qO x c (l.drop j))):=by
 intro n
 induction n with
 |zero=>
  intro j hj x c h hi hw ok hc hlt
  have q1:¬j<l.length:=by omega
  rw[bA (by omega),qO];unfold cV;simp only[zO hi];refine .a8 60 ?_;simp[q1]
 |succ n ih=>
  intro j hj x c h hi hw ok hc hlt
  have q1:j<l.length:=by omega
  have q2:=bR (hk.of q1);have hle:=kQ ok;have ha:=hlt _ (bw q1);have hil:=aV hi
  have hW:∀y:Gr,bS (h.set i (cJ y)):=fun y=>hw.set (fun m _=>by simp) i
  have hI:∀y:Gr,(h.set i (cJ y))[i]? =some (cJ y):=fun y=>by simp[hil]
  have hA:=fun up=>C8 (Γ:=Γ) x ok c (l[j]^^^1) hi hw up
  rw[bJ q1,qO,DB];refine .a8 60 ?_;simp(disch:=omega) [q1,q2]
  cases h9:eY x c (l[j]^^^1)with
  |mk y r=>
   rw[h9]at hA;obtain⟨g1,g2⟩:=o_ ok h9
   cases r with
   |none=>
    simp only[cV,fL]at hA⊢;refine .kZ 60 hA ?_;simp
   |some p=>
    have hp:=g2 p rfl;have hl1:=g1.lits;have hle1:=kQ g1.ok
    have hB:=fun up=>C8 (Γ:=Γ) y g1.ok (c^^^1) l[j] (hI y) (hW y) up
    simp only[cV,fL]at hA⊢;refine .aW 60 hA ?_;simp(disch:=omega) []
    cases h10:eY y (c^^^1) l[j]with
    |mk z r=>
     rw[h10]at hB;obtain⟨g3,g4⟩:=o_ g1.ok h10
     cases r with
     |none=>
      simp only[cV,sX]at hB⊢;refine .kZ 60 hB ?_;simp
     |some q=>
      have hq:=g4 q rfl;have hl2:=g3.lits;have hle2:=kQ g3.ok
      have hC:=fun up=>C8 (Γ:=Γ) z g3.ok (p^^^1) (q^^^1) (hI z) (hW z) up
      simp only[cV,sX]at hB⊢;refine .aW 60 hB ?_;simp(disch:=omega) []
      cases h11:eY z (p^^^1) (q^^^1)with
      |mk w r=>
       rw[h11]at hC;obtain⟨g5,g6⟩:=o_ g3.ok h11
       cases r with
       |none=>
        simp only[cV,sX,eF,uC]at hC⊢;refine .kZ 60 hC ?_;simp
       |some d=>
        have hd:=g6 d rfl;have hle3:=kQ g5.ok;simp only[cV,sX,eF,dm]at hC⊢;have hh:=ih (j+1) (by omega) w (d^^^1) (h.set i (cJ w)) (hI w) (hW w) g5.ok (HQ (n:=w.all) hd) (fun a ha=>lu (hlt a ha) ((g1.trans g3).trans g5).lits);simp only[cV,sX]at hh;refine .aW 60 hC ?_;simp(disch:=omega) [];refine .aO ?_;simp[q2]at hh⊢;exact hh
theorem ahc(l:List Nat)(h0:l≠[])(hl:l.length<2^40){fl:Bool}{k:Nat}(hk:Kd 1 k l){i:Nat}(x:Gr){h:List Ob}(hi:h[i]? =some (cJ x))(hw:bS h)(ok:x.Ok)(hlt:∀a∈l,a<x.lits)(up:List Fr):
 AM.Reach Tryz.prog Γ (.cl uQ [.ptr i 0,.list fl k (l.map iN)] up h) (cV iN i up h (Ac x l)):=by
 cases l with
 |nil=>exact absurd rfl h0
 |cons a r=>
  simp at hl;obtain rfl:k=1:=hk.of (i:=0) (by simp);have hh:=afM (Γ:=Γ) r (by omega) (fl:=fl) (k:=1) .self i h.length up r.length 0 (by omega) x a h hi hw ok (hlt a (by simp)) (fun b hb=>hlt b (by simp[hb]));rw[Ac];refine .bt 60 Xk ?_;simp(disch:=omega);refine .inLoop ?_;simp at hh⊢;exact hh
abbrev Bs:=List UInt8
structure Lt where
 name:Bs
 next:Bs
 init:Int
 deriving DecidableEq
abbrev lj(q:Lt):AV:=.agg [.str q.name,.str q.next,.int .i64 q.init]
structure Gt where
 name:Bs
 op:Int
 ins:List Bs
 rows:List Bs
 off:Bool
 ki:Nat
 kr:Nat
 hi:Kd 1 ki ins
 hr:Kd 1 kr rows
abbrev cW(g:Gt):AV:=.agg [.str g.name,.int .i64 g.op,.list false g.ki (g.ins.map .str),.list false g.kr (g.rows.map .str),.bool g.off]
structure Ct where
 an:List Bs
 aw:List Bs
 ah:List Lt
 af:List Gt
 kI:Nat
 kO:Nat
 kL:Nat
 kG:Nat
 hI:Kd 1 kI an
 hO:Kd 1 kO aw
 hL:Kd 3 kL ah
 hG:Kd 5 kG af
abbrev cN(c:Ct):AV:=.agg [.list false c.kI (c.an.map .str),.list false c.kO (c.aw.map .str),.list false c.kL (c.ah.map lj),.list false c.kG (c.af.map cW)]
theorem Oo(a b:Lt):cj (.jf [.str,.str,.int]) (lj a) (lj b)=some (decide (a=b)):=by
 obtain⟨n,x,i⟩:=a;obtain⟨m,y,j⟩:=b;simp only[cj,bN,b9,gN,eV,Lt.mk.injEq]
 cases h1:(n==m)
 ·have:=rC.1 h1;simp[this]
 ·have e1:=eq_of_beq h1
  cases h2:(x==y)
  ·have:=rC.1 h2;simp[this]
  ·have e2:=eq_of_beq h2
   cases h3:(i==j)
   ·have:=rC.1 h3;simp[this]
   ·have e3:=eq_of_beq h3;simp[e1,e2,e3]
def wi(g:Gt):Prop:=g.name.length<2^40/\g.ins.length<2^10/\g.rows.length<2^10/\(∀s∈g.ins,s.length<2^40)/\∀s∈g.rows,s.length<2^40
def cK(c:Ct):Prop:=c.an.length<2^10/\c.aw.length<2^10/\c.ah.length<2^10/\c.af.length<2^10/\(∀g∈c.af,wi g)/\
 (∀s∈c.an,s.length<2^40)/\(∀s∈c.aw,s.length<2^40)/\∀q∈c.ah,q.name.length<2^40/\q.next.length<2^40
theorem IP{α β:Type}(a:List β)(f:α->β)(l:List α){i:Nat}(h:i<l.length):a++(l.drop i).map f=a++[f l[i]]++(l.drop (i+1)).map f:=by
 rw[bJ h,bU,cI];rfl
def aD(c:Ct):List Bs:=c.an++c.ah.map (·.name)++c.af.map (·.name)
structure Fm where
 kind:Int
 lit:Int
 kids:Int
 deriving DecidableEq
abbrev bd(f:Fm):AV:=.agg [.int .i64 f.kind,.int .i64 f.lit,.int .i64 f.kids]
end Go.Proofs.YtchjijfjidlpjaaGreatDoor
