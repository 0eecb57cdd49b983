/- A list's elements' size. -/
import Derived.Test.YtchjijfjidlpjaaGreatDoorAMd
import Derived.Test.YtchjijfjidlpjaaGreatDoorCode
set_option linter.unusedSimpArgs false
set_option linter.unusedVariables false
namespace Go.Proofs.YtchjijfjidlpjaaGreatDoor
open Go.AM Go.Proofs
def Kd(n k:Nat){α:Type}(l:List α):Prop:=k=n\/l=[]
theorem Kd.of{n k:Nat}{α:Type}{l:List α}(h:Kd n k l){i:Nat}(hi:i<l.length):k=n:=by
 rcases h with h|h
 ·exact h
 ·subst h;simp at hi
theorem Kd.self{n:Nat}{α:Type}{l:List α}:Kd n n l:=.inl rfl
theorem Kd.nil{n k:Nat}{α:Type}:Kd n k ([]:List α):=.inr rfl
@[simp] abbrev i64(n:Int):AV:=.int .i64 n
abbrev iN(n:Nat):AV:=.int .i64 (n:Int)
end Go.Proofs.YtchjijfjidlpjaaGreatDoor
namespace Go.Proofs.YtchjijfjidlpjaaGreatDoor
open Go.AM Go.Proofs
variable{Γ:Nat->Option AV}
theorem CW(a b:List Int){ka kb:Nat}(ha:Kd 1 ka a)(hb:Kd 1 kb b)(hs:a.length<2^60):aN Tryz.prog Γ rn [.list false ka (a.map i64),.list false kb (b.map i64)] (.bool (decide (a=b))):=by
 refine .run 60 Uw (by simp) ?_
 by_cases hl:a.length=b.length
 ·have key:∀n i:Nat,i+n=a.length->aB Tryz.prog Γ (yuu (.list false ka (a.map i64)) (.list false kb (b.map i64)) (.int .i64 i) []) (.ret (.bool (decide (a.drop i=b.drop i)))):=by
   intro n
   induction n with
   |zero=>
    intro i hi;refine .go 60 ?_
    have h1:¬i<a.length:=by omega
    have h2:a.drop i=b.drop i:=by rw[bq (by omega),bq (by omega)]
    simp[h1,h2];exact .back (by simp)
   |succ n ih=>
    intro i hi
    have h1:i<a.length:=by omega
    have h2:i<b.length:=by omega
    obtain rfl:=ha.of h1;obtain rfl:=hb.of h2;have h4:=drop_eq h1 h2;refine .go 60 ?_
    by_cases h3:a[i]=b[i]
    ·simp(disch:=omega) [h1,h2,h3,h4];refine .aT ?_;simpa using ih (i+1) (by omega)
    ·simp(disch:=omega) [h1,h2,h3,h4];exact .back (by simp)
  simp[hl];refine .inLoop ?_;simpa[hl]using key a.length 0 (by omega)
 ·have h2:¬a=b:=fun e=>hl (by rw[e])
  simp[hl,h2];exact .back (by simp)
theorem Sk{φ:List Ob->Prop}{f:FuncId}{caps:List AV}{p:Int->Bool}{l:List Int}{k:Nat}{fl:Bool}(ha:mU Tryz.prog Γ φ f caps i64 p l)(hk:Kd 1 k l)(hs:l.length<2^60){h:List Ob}(hφ:φ h):
 ∀up,AM.Reach Tryz.prog Γ (.cl ve [.list fl k (l.map i64),.fn (.func f) [] caps] up h) (.back up (.int .i64 (gF p l 0)) h):=by
 intro up
 have key:∀n i:Nat,i+n=l.length->AM.Reach Tryz.prog Γ (yyq (.list fl k (l.map i64)) (.fn (.func f) [] caps) (.int .i64 l.length) (.int .i64 i) h ⟨[],.norm,h.length,up⟩) (.back up (.int .i64 (gF p (l.drop i) i)) h):=by
  intro n
  induction n with
  |zero=>
   intro i hi
   have h1:¬i<l.length:=by omega
   refine .du 60 ?_;rw[bq (by omega)];simp[h1,gF]
  |succ n ih=>
   intro i hi
   have h1:i<l.length:=by omega
   obtain rfl:=hk.of h1;have h2:=ha.2 l[i] (bZ h1);rw[br h1,gF];have hh:=ih (i+1) (by omega);refine .du 60 ?_;simp[h1,ha.1];refine .dE 60 (fun up=>h2 up h hφ) ?_
   cases hp:p l[i]with
   |true=>simp(disch:=omega) [hp]
   |false=>
    simp(disch:=omega) [hp];refine .aT ?_;simp at hh⊢;exact hh
 refine .dq 60 RB ?_;simp;refine .inLoop ?_;have hh:=key l.length 0 (by omega);simp at hh⊢;exact hh
theorem Ck{φ:List Ob->Prop}{f:FuncId}{caps:List AV}{p:Int->Bool}{l:List Int}{k:Nat}{fl:Bool}(ha:mU Tryz.prog Γ φ f caps i64 p l)(hk:Kd 1 k l)(hs:l.length<2^60){h:List Ob}(hφ:φ h):
 ∀up,AM.Reach Tryz.prog Γ (.cl sE [.list fl k (l.map i64),.fn (.func f) [] caps] up h) (.back up (.bool (aZ p l)) h):=by
 intro up;refine .dq 60 Rs ?_;simp;refine .dE 60 (Sk ha hk hs hφ) ?_;have h1:=An p l 0
 cases hp:aZ p l with
 |true=>rw[hp]at h1;simp at h1;simp[h1]
 |false=>
  rw[hp]at h1
  have h2:¬0<=gF p l 0:=by rw[h1];simp
  simp[h2]
structure Gr where
 ins:Int
 next:List Int
 init:List Int
 ands:List (Int×Int)
 outs:List Int
 kn:Nat
 ki:Nat
 ka:Nat
 ko:Nat
 hn:Kd 1 kn next
 hi:Kd 1 ki init
 ha:Kd 2 ka ands
 ho:Kd 1 ko outs
abbrev cy(p:Int×Int):AV:=.agg [.int .i64 p.1,.int .i64 p.2]
abbrev cg(g:Gr):AV:=.agg [.int .i64 g.ins,.list false g.kn (g.next.map i64),.list false g.ki (g.init.map i64),.list false g.ka (g.ands.map cy),.list false g.ko (g.outs.map i64)]
def Gr.dJ(g:Gr):Prop:=g.next.length<2^40/\g.init.length<2^40/\g.ands.length<2^40/\g.outs.length<2^40
def cQ(n:Int)(a:Int):Bool:=decide (a<0)||decide (n<=a)
def jZ(a:Int):Bool:=decide (a<0)||decide (2<a)
def ik:List (Int×Int)->Nat->Bool
 |[],_=>false
 |p::ps,n=>cQ (2*n) p.1||cQ (2*n) p.2||ik ps (n+1)
def Gr.first(g:Gr):Nat:=1+g.ins.toNat+g.next.length
def Gr.all(g:Gr):Nat:=g.first+g.ands.length
def Gr.lits(g:Gr):Nat:=2*g.all
def Gr.nf(g:Gr):Bool:=decide (g.ins<0)||decide (4000<g.ins)||decide (4000<g.ins+g.next.length+g.ands.length)||decide (4000<g.outs.length)
def Gr.check(g:Gr):Int:=
 if g.nf=true then 8 else if(!decide (g.init.length=g.next.length)||aZ jZ g.init||aZ (cQ g.lits) g.next||aZ (cQ g.lits) g.outs||ik g.ands g.first)=true then 1 else 0
theorem EX{g:Gr}(h:g.nf=false):0<=g.ins/\g.ins<=4000/\g.ins+g.next.length+g.ands.length<=4000/\g.outs.length<=4000:=by
 simp only[Gr.nf,jI,gK]at h;omega
theorem re(g:Gr)(h0:0<=g.ins)(h1:g.ins<=4000)(h2:g.next.length<=4000):aN Tryz.prog Γ mz [cg g] (.int .i64 g.first):=by
 refine .run 60 TT (by simp) ?_
 have e1:1+g.ins+(g.next.length:Int)=(g.first:Int):=by unfold Gr.first;omega
 simp(disch:=omega) [e1];exact .back (by simp)
theorem mA(g:Gr)(h0:0<=g.ins)(h1:g.ins<=4000)(h2:g.next.length<=4000):aN Tryz.prog Γ gM [cg g] (.int .i64 g.first):=by
 refine .run 60 Uk (by simp) ?_
 have e1:1+g.ins+(g.next.length:Int)=(g.first:Int):=by unfold Gr.first;omega
 simp(disch:=omega) [e1];exact .back (by simp)
theorem xQ(a:Int)(n:Nat)(hn:n<=2^40):aN Tryz.prog Γ qZ [.int .i64 a,.int .i64 n] (.bool (!cQ (2*n) a)):=by
 refine .run 60 SO (by simp) ?_;unfold cQ
 by_cases h1:0<=a
 ·have h2:¬a<0:=by omega
  by_cases h3:a<2*n
  ·have h4:¬2*(n:Int)<=a:=by omega
   simp(disch:=omega) [h1,h2,h3,h4];exact .back (by simp)
  ·have h4:2*(n:Int)<=a:=by omega
   simp(disch:=omega) [h1,h2,h3,h4];exact .back (by simp)
 ·have h2:a<0:=by omega
  simp(disch:=omega) [h1,h2];exact .back (by simp)
theorem NC(i:Nat)(all:Nat)(l:List Int):mU Tryz.prog Γ (fun h=>h[i]? =some (.cells [.int .i64 all])) xN [.ptr i 0] i64 (cQ all) l:=by
 refine⟨by simp,fun x _ up h hφ=>?_⟩;refine .dq 60 S9 ?_;unfold cQ
 by_cases h1:x<0
 ·simp[hφ,h1]
 ·simp[hφ,h1]
theorem aa4(l:List Int):mU Tryz.prog Γ (fun _=>True) xP [] i64 jZ l:=by
 refine⟨by simp,fun x _ up h hφ=>?_⟩;refine .dq 60 S_ ?_;unfold jZ
 by_cases h1:x<0
 ·simp[h1]
 ·simp[h1]
theorem JJ{l:List (Int×Int)}{i:Nat}(h:i<l.length)(n:Nat):ik (l.drop i) n=(cQ (2*n) l[i].1||cQ (2*n) l[i].2||ik (l.drop (i+1)) (n+1)):=by
 rw[br h,ik]
set_option maxRecDepth 8000 in
theorem IK(g:Gr)(hf:g.dJ):aN Tryz.prog Γ sY [cg g] (.int .i64 g.check):=by
 obtain⟨f1,f2,f3,f4⟩:=hf;refine .run 60 Ua (by simp) ?_;unfold Gr.check
 cases hl:g.nf with
 |true=>
  simp only[bY];unfold Gr.nf at hl
  by_cases c1:g.ins<0
  ·simp[c1];exact .back (by simp)
  by_cases c2:4000<g.ins
  ·simp[c1,c2];exact .back (by simp)
  by_cases c3:4000<g.ins+g.next.length+g.ands.length
  ·simp(disch:=omega) [c1,c2,c3];exact .back (by simp)
  have c4:(4000:Int)<g.outs.length:=by
   simp only[c1,c2,c3,pL,lp,a8]at hl;omega
  simp(disch:=omega) [c1,c2,c3,c4];exact .back (by simp)
 |false=>
  obtain⟨l1,l2,l3,l4⟩:=EX hl
  have c1:¬g.ins<0:=by omega
  have c2:¬4000<g.ins:=by omega
  have c3:¬4000<g.ins+g.next.length+g.ands.length:=by omega
  have c4:¬(4000:Int)<g.outs.length:=by omega
  have hpf:=re (Γ:=Γ) g l1 l2 (by omega)
  have e1:(g.first:Int)+g.ands.length=g.all:=by unfold Gr.all;omega
  have e2:2*(g.all:Int)=g.lits:=by unfold Gr.lits;omega
  have hfl:g.first<=8001:=by unfold Gr.first;omega
  have hal:g.all<=12001:=by unfold Gr.all;omega
  simp(disch:=omega) [c1,c2,c3,c4];refine .dr 60 ?_;simp;refine .quiet hpf (fun _=>rfl) (by simp) ?_;simp(disch:=omega) [e1,e2]
  by_cases d1:g.init.length=g.next.length
  ·simp[d1];refine .dE 60 (Ck (aa4 g.init) g.hi (by omega) (by trivial)) ?_
   cases d2:aZ jZ g.init with
   |true=>simp;exact .back (by simp)
   |false=>
    simp;refine .dE 60 (Ck (NC 1 g.lits g.next) g.hn (by omega) (by simp)) ?_
    cases d3:aZ (cQ g.lits) g.next with
    |true=>simp;exact .back (by simp)
    |false=>
     simp;refine .dE 60 (Ck (NC 1 g.lits g.outs) g.ho (by omega) (by simp)) ?_
     cases d4:aZ (cQ g.lits) g.outs with
     |true=>simp;exact .back (by simp)
     |false=>
      simp;refine .inLoop ?_;simp
      have key:∀n i:Nat,i+n=g.ands.length->aB Tryz.prog Γ (ypX (.ptr 0 0) (.list false g.ka (g.ands.map cy)) (.int .i64 g.ands.length) (.int .i64 i)
       [.cells [.int .i64 g.ins,.list false g.kn (g.next.map i64),.list false g.ki (g.init.map i64),.list false g.ka (g.ands.map cy),.list false g.ko (g.outs.map i64)],.cells [.int .i64 g.lits]]) (.ret (.int .i64 (if ik (g.ands.drop i) (g.first+i)=true then 1 else 0))):=by
       intro n
       induction n with
       |zero=>
        intro i hi
        have q1:¬i<g.ands.length:=by omega
        refine .go 60 ?_;rw[bq (by omega)];simp[q1,ik];exact .back (by simp)
       |succ n ih=>
        intro i hi
        have q1:i<g.ands.length:=by omega
        have q2:=bl (g.ha.of q1);have hh:=ih (i+1) (by omega)
        have q3:2*((g.first:Int)+i)=((2*(g.first+i):Nat):Int):=by omega
        rw[JJ q1];unfold cQ;refine .go 60 ?_;simp(disch:=omega) [q1,q2];refine .call 60 (by simp) hpf ?_
        by_cases r1:g.ands[i].1<0
        ·simp(disch:=omega) [r1];exact .back (by simp)
        by_cases r2:g.ands[i].2<0
        ·simp(disch:=omega) [r1,r2];exact .back (by simp)
        by_cases r3:2*((g.first:Int)+i)<=g.ands[i].1
        ·simp(disch:=omega) [r1,r2,r3];exact .back (by simp)
        by_cases r4:2*((g.first:Int)+i)<=g.ands[i].2
        ·simp(disch:=omega) [r1,r2,r3,r4];exact .back (by simp)
        simp(disch:=omega) [r1,r2,r3,r4];refine .aT ?_;simp;refine .drop 2 rfl (by simp) (by simp) (by simp) ?_;simp at hh⊢;rw[show g.first+(i+1)=g.first+i+1 by omega]at hh;exact hh
      have hh:=key g.ands.length 0 (by omega);simp at hh⊢;exact hh
  ·simp[d1];exact .back (by simp)
set_option maxRecDepth 8000 in
theorem CG(g:Gr)(hf:g.dJ):aN Tryz.prog Γ pU [cg g] (.int .i64 g.check):=by
 obtain⟨f1,f2,f3,f4⟩:=hf;refine .run 60 Ub (by simp) ?_;unfold Gr.check
 cases hl:g.nf with
 |true=>
  simp only[bY];unfold Gr.nf at hl
  by_cases c1:g.ins<0
  ·simp[c1];exact .back (by simp)
  by_cases c2:4000<g.ins
  ·simp[c1,c2];exact .back (by simp)
  by_cases c3:4000<g.ins+g.next.length+g.ands.length
  ·simp(disch:=omega) [c1,c2,c3];exact .back (by simp)
  have c4:(4000:Int)<g.outs.length:=by
   simp only[c1,c2,c3,pL,lp,a8]at hl;omega
  simp(disch:=omega) [c1,c2,c3,c4];exact .back (by simp)
 |false=>
  obtain⟨l1,l2,l3,l4⟩:=EX hl
  have c1:¬g.ins<0:=by omega
  have c2:¬4000<g.ins:=by omega
  have c3:¬4000<g.ins+g.next.length+g.ands.length:=by omega
  have c4:¬(4000:Int)<g.outs.length:=by omega
  have hpf:=mA (Γ:=Γ) g l1 l2 (by omega)
  have e1:(g.first:Int)+g.ands.length=g.all:=by unfold Gr.all;omega
  have e2:2*(g.all:Int)=g.lits:=by unfold Gr.lits;omega
  have hfl:g.first<=8001:=by unfold Gr.first;omega
  have hal:g.all<=12001:=by unfold Gr.all;omega
  simp(disch:=omega) [c1,c2,c3,c4]
  by_cases d1:g.init.length=g.next.length
  ·have keyO:∀n i:Nat,i+n=g.outs.length->aB Tryz.prog Γ (ysf (.ptr 0 0) (.int .i64 g.all) (.int .i64 i)
    [.cells [.int .i64 g.ins,.list false g.kn (g.next.map i64),.list false g.ki (g.init.map i64),.list false g.ka (g.ands.map cy),.list false g.ko (g.outs.map i64)]]) (.ret (.int .i64 (if aZ (cQ g.lits) (g.outs.drop i)=true then 1 else 0))):=by
    intro n
    induction n with
    |zero=>
     intro i hi
     have q1:¬i<g.outs.length:=by omega
     refine .go 60 ?_;rw[DT (by omega)];simp[q1];exact .back (by simp)
    |succ n ih=>
     intro i hi
     have q1:i<g.outs.length:=by omega
     have q2:=bl (g.ho.of q1);have hh:=ih (i+1) (by omega);have hc:=xQ (Γ:=Γ) g.outs[i] g.all (by omega);rw[e2]at hc;rw[Dl q1];refine .go 60 ?_;simp(disch:=omega) [q1,q2];refine .call 60 (by simp) hc ?_
     cases hb:cQ g.lits g.outs[i]with
     |true=>simp;exact .back (by simp)
     |false=>
      simp(disch:=omega);refine .aT ?_;simp at hh⊢;exact hh
   have keyA:∀n i:Nat,i+n=g.ands.length->aB Tryz.prog Γ (ysh (.ptr 0 0) (.int .i64 g.all) (.int .i64 i)
    [.cells [.int .i64 g.ins,.list false g.kn (g.next.map i64),.list false g.ki (g.init.map i64),.list false g.ka (g.ands.map cy),.list false g.ko (g.outs.map i64)]]) (.ret (.int .i64 (if(ik (g.ands.drop i) (g.first+i)||aZ (cQ g.lits) g.outs)=true then 1 else 0))):=by
    intro n
    induction n with
    |zero=>
     intro i hi
     have q1:¬i<g.ands.length:=by omega
     have hh:=keyO g.outs.length 0 (by omega);refine .go 60 ?_;rw[bq (by omega)];simp[q1,ik];refine .inLoop ?_;simp at hh⊢;exact hh
    |succ n ih=>
     intro i hi
     have q1:i<g.ands.length:=by omega
     have q2:=bl (g.ha.of q1);have hh:=ih (i+1) (by omega);have hc1:=xQ (Γ:=Γ) g.ands[i].1 (g.first+i) (by omega);have hc2:=xQ (Γ:=Γ) g.ands[i].2 (g.first+i) (by omega);rw[JJ q1];generalize cQ (2*((g.first+i:Nat):Int)) g.ands[i].1=b1 at*;generalize cQ (2*((g.first+i:Nat):Int)) g.ands[i].2=b2 at*;refine .go 60 ?_;simp(disch:=omega) [q1,q2];refine .call 60 (by simp) hpf ?_;simp(disch:=omega) [q1,q2];refine .call 60 (by simp) hc1 ?_
     cases b1 with
     |true=>simp;exact .back (by simp)
     |false=>
      simp(disch:=omega) [q1,q2];refine .call 60 (by simp) hc2 ?_
      cases b2 with
      |true=>simp;exact .back (by simp)
      |false=>
       simp(disch:=omega);refine .aT ?_;simp at hh⊢;rw[show g.first+(i+1)=g.first+i+1 by omega]at hh;exact hh
   have keyN:∀n i:Nat,i+n=g.next.length->aB Tryz.prog Γ (ysj (.ptr 0 0) (.int .i64 g.all) (.int .i64 i)
    [.cells [.int .i64 g.ins,.list false g.kn (g.next.map i64),.list false g.ki (g.init.map i64),.list false g.ka (g.ands.map cy),.list false g.ko (g.outs.map i64)]])
     (.ret (.int .i64 (if(aZ jZ (g.init.drop i)||aZ (cQ g.lits) (g.next.drop i)||(ik g.ands g.first||aZ (cQ g.lits) g.outs))=true then 1 else 0))):=by
    intro n
    induction n with
    |zero=>
     intro i hi
     have q1:¬i<g.next.length:=by omega
     have hh:=keyA g.ands.length 0 (by omega);refine .go 60 ?_;rw[DT (by omega),DT (by omega)];simp[q1];refine .inLoop ?_;simp at hh⊢;exact hh
    |succ n ih=>
     intro i hi
     have q1:i<g.next.length:=by omega
     have q1':i<g.init.length:=by omega
     have q2:=bl (g.hn.of q1);have q2':=bl (g.hi.of q1');have hh:=ih (i+1) (by omega);have hc:=xQ (Γ:=Γ) g.next[i] g.all (by omega);rw[e2]at hc;rw[Dl q1,Dl q1'];refine .go 60 ?_
     by_cases r1:g.init[i]<0
     ·simp(disch:=omega) [q1,q1',q2,q2',r1,jZ];exact .back (by simp)
     by_cases r2:2<g.init[i]
     ·simp(disch:=omega) [q1,q1',q2,q2',r1,r2,jZ];exact .back (by simp)
     have r3:jZ g.init[i]=false:=by simp[jZ,r1,r2]
     simp(disch:=omega) [q1,q1',q2,q2',r1,r2,r3];refine .call 60 (by simp) hc ?_
     cases hb:cQ g.lits g.next[i]with
     |true=>simp;exact .back (by simp)
     |false=>
      simp(disch:=omega);refine .aT ?_;simp at hh⊢;exact hh
   simp[d1];refine .dr 60 ?_;simp;refine .call (by simp) hpf ?_;simp(disch:=omega) [e1];refine .inLoop ?_;simp;have hh:=keyN g.next.length 0 (by omega)
   have hb:(aZ jZ g.init||aZ (cQ g.lits) g.next||(ik g.ands g.first||aZ (cQ g.lits) g.outs))=(aZ jZ g.init||aZ (cQ g.lits) g.next||aZ (cQ g.lits) g.outs||ik g.ands g.first):=by
    cases ik g.ands g.first<;>simp
   simp only[dV,hb]at hh;simp at hh⊢;exact hh
  ·simp[d1];exact .back (by simp)
def bR(v:List Bool)(a:Nat):Bool:=v.getD (a/2) false !=decide (a%2=1)
theorem Xq{l:List (Int×Int)}{n:Nat}(h:ik l n=false):∀i(hi:i<l.length),(0<=l[i].1/\l[i].1<2*(n+i))/\0<=l[i].2/\l[i].2<2*(n+i):=by
 induction l generalizing n with
 |nil=>intro i hi;simp at hi
 |cons p l ih=>
  simp only[ik,jI,cQ,gK]at h;intro i hi
  cases i with
  |zero=>simp;omega
  |succ i=>
   have:=ih h.2 i (by simpa using hi);simp at this⊢;omega
structure Gr.Ok(g:Gr):Prop where
 ins:0<=g.ins/\g.ins<=4000
 sum:g.ins+g.next.length+g.ands.length<=4000
 eT:g.outs.length<=4000
 same:g.init.length=g.next.length
 init:∀a∈g.init,0<=a/\a<=2
 next:∀a∈g.next,0<=a/\a<g.lits
 outs:∀a∈g.outs,0<=a/\a<g.lits
 ands:∀i(hi:i<g.ands.length),(0<=g.ands[i].1/\g.ands[i].1<2*(g.first+i))/\0<=g.ands[i].2/\g.ands[i].2<2*(g.first+i)
theorem Gr.lH{g:Gr}(h:g.check=0):g.Ok:=by
 unfold Gr.check at h
 split at h
 ·simp at h
 ·rename_i hl;have hl:=EX (by simpa using hl)
  split at h
  ·simp at h
  ·rename_i hb;simp only[Bool.not_eq_true,jI,Q7,a8]at hb;obtain⟨⟨⟨⟨b1,b2⟩,b3⟩,b4⟩,b5⟩:=hb;refine⟨⟨hl.1,hl.2.1⟩,hl.2.2.1,hl.2.2.2,b1,?_,?_,?_,Xq b5⟩
   ·intro a ha;have:=ji.1 b2 a ha;simp[jZ]at this;omega
   ·intro a ha;have:=ji.1 b3 a ha;simp[cQ]at this;omega
   ·intro a ha;have:=ji.1 b4 a ha;simp[cQ]at this;omega
def cD:List (Int×Int)->List Bool->List Bool
 |[],v=>v
 |p::ps,v=>cD ps (v++[bR v p.1.toNat&&bR v p.2.toNat])
theorem vH:∀(l:List (Int×Int))(v:List Bool),(cD l v).length=v.length+l.length
 |[],v=>by simp[cD]
 |p::ps,v=>by rw[cD,vH ps];simp;omega
theorem sQ:∀(a b:List (Int×Int))(v:List Bool),cD (a++b) v=cD b (cD a v)
 |[],b,v=>rfl
 |p::ps,b,v=>by rw[ek,cD,cD,sQ ps]
def Gr.lR(g:Gr)(state ins:List Bool):List Bool:=cD g.ands (false::(ins++state))
def Gr.fits(g:Gr)(state ins:List Bool):Bool:=decide (state.length=g.next.length)&&decide ((ins.length:Int)=g.ins)
def Gr.oH(g:Gr)(state ins:List Bool):Int:=if g.check≠0 then g.check else if g.fits state ins=true then 0 else 11
def Gr.values(g:Gr)(state ins:List Bool):List Bool:=if g.oH state ins=0 then g.lR state ins else[]
def AN(v:List Bool)(l:List Int):List Bool:=l.map fun a=>bR v a.toNat
@[simp] theorem aqV(v:List Bool)(l:List Int):(AN v l).length=l.length:=by simp[AN]
def Gr.qu(g:Gr)(state ins:List Bool):List Bool:=if g.oH state ins=0 then AN (g.lR state ins) g.outs else[]
def Gr.Fe(g:Gr)(state ins:List Bool):List Bool:=if g.oH state ins=0 then AN (g.lR state ins) g.next else[]
theorem Gr.acr{g:Gr}{state ins:List Bool}(h:g.oH state ins=0):g.Ok/\state.length=g.next.length/\(ins.length:Int)=g.ins:=by
 unfold Gr.oH at h
 by_cases hc:g.check=0
 ·refine⟨Gr.lH hc,?_⟩;simp only[hc,ne_eq,not_true,cE]at h
  by_cases hf:g.fits state ins=true
  ·simp only[Gr.fits,aC,a8]at hf;exact hf
  ·simp[hf]at h
 ·simp[hc]at h
end Go.Proofs.YtchjijfjidlpjaaGreatDoor
namespace Go.Proofs.YtchjijfjidlpjaaGreatDoor
open Go.AM Go.Proofs
def eU(p:Int×Int):List (Int×Int)->Nat->Option Nat
 |[],_=>none
 |q::qs,i=>if q=p then some i else eU p qs (i+1)
theorem ID(p:Int×Int):∀(a b:List (Int×Int))(i:Nat),eU p (a++b) i=match eU p a i with|some j=>some j|none=>eU p b (i+a.length)
 |[],b,i=>by simp[eU]
 |q::a,b,i=>by
  rw[ek,eU,eU]
  by_cases h:q=p
  ·simp[h]
  ·rw[if_neg h,if_neg h,ID p a b (i+1),bC,show i+1+a.length=i+(a.length+1) by omega]
theorem Dn{p:Int×Int}:∀{l:List (Int×Int)}{i k:Nat},eU p l i=some k->i<=k/\∃h:k-i<l.length,l[k-i]=p
 |[],i,k,h=>by simp[eU]at h
 |q::l,i,k,h=>by
  rw[eU]at h
  by_cases hq:q=p
  ·rw[if_pos hq]at h
   cases h
   exact⟨aU _,by simp,by simp[hq]⟩
  ·rw[if_neg hq]at h;obtain⟨h1,h2,h3⟩:=Dn h;refine⟨by omega,by simp;omega,?_⟩
   have e:k-i=(k-(i+1))+1:=by omega
   simp only[e,u0];exact h3
theorem DE{p:Int×Int}:∀{l:List (Int×Int)}{i:Nat},eU p l i=none↔p∉l
 |[],i=>by simp[eU]
 |q::l,i=>by
  rw[eU]
  by_cases hq:q=p
  ·simp[hq]
  ·rw[if_neg hq,DE (l:=l)];simp[hq,Ne.symm hq]
def iu(p q:Nat):Option Nat:=if q=0\/p^^^1=q then some 0 else if q=1\/p=q then some p else none
def bo(first:Nat)(l:List (Int×Int))(a b:Nat):List (Int×Int)×Nat:=
 match iu (max a b) (min a b)with
 |some c=>(l,c)
 |none=>match eU (((max a b:Nat):Int),((min a b:Nat):Int)) l 0 with
  |some i=>(l,2*(first+i))
  |none=>(l++[(((max a b:Nat):Int),((min a b:Nat):Int))],2*(first+l.length))
def gP(p:Int×Int):List ((Int×Int)×Nat)->Option Nat
 |[]=>none
 |(q,n)::r=>if p=q then some n else gP p r
abbrev gV(x:(Int×Int)×Nat):AV×AV:=(cy x.1,.int .i64 x.2)
theorem Ds(p q:Int×Int):bU (.gQ [.int,.int]) (cy p) (cy q)=some (decide (p=q)):=by
 obtain⟨a,b⟩:=p;obtain⟨c,d⟩:=q;simp only[bU,cz,c9,fN,eD,bH]
 cases h1:(a==c)
 ·have:=u5.1 h1;simp[this]
 ·have e1:=eq_of_beq h1
  cases h2:(b==d)
  ·have:=u5.1 h2;simp[this]
  ·have e2:=eq_of_beq h2;simp[e1,e2]
theorem IQ(p:Int×Int):∀l:List ((Int×Int)×Nat),fm (.gQ [.int,.int]) (cy p) (l.map gV)=some ((gP p l).map fun n:Nat=>AV.int .i64 (n:Int))
 |[]=>rfl
 |(q,n)::r=>by
  simp only[cv,fm,Ds,gP]
  by_cases h:p=q
  ·simp[h]
  ·simp only[h,pL,cE];exact IQ p r
theorem Ju{p:Int×Int}{v:AV}:∀{l:List ((Int×Int)×Nat)},gP p l=none->iK (.gQ [.int,.int]) (cy p) v (l.map gV)=some (l.map gV++[(cy p,v)])
 |[],_=>rfl
 |(q,n)::r,h=>by
  rw[gP]at h
  by_cases hq:p=q
  ·rw[if_pos hq]at h;cases h
  ·rw[if_neg hq]at h;simp only[cv,iK,Ds,hq,pL,Ju h,eb,ek]
@[simp] theorem Wv(n:Nat):∀l:List ((Int×Int)×Nat),iw n (l.map gV)=true
 |[]=>rfl
 |x::r=>by simp[iw,Wv n r]
@[simp] theorem Xm(n:Nat)(τ:List Nat):∀l:List ((Int×Int)×Nat),l9 n τ (l.map gV)=l.map gV
 |[]=>rfl
 |x::r=>by simp[Xm n τ r]
@[simp] theorem X1(n:Nat)(τ:List Nat):∀l:List ((Int×Int)×Nat),sk n τ (l.map gV)=true
 |[]=>rfl
 |x::r=>by simp[X1 n τ r]
@[simp] theorem Wo(n m:Nat):∀l:List ((Int×Int)×Nat),pd n m (l.map gV)=true
 |[]=>rfl
 |x::r=>by simp[Wo n m r]
def mX(first:Nat)(l:List (Int×Int))(es:List ((Int×Int)×Nat)):Prop:=∀p,gP p es=(eU p l 0).map fun i=>2*(first+i)
theorem Iq(p:Int×Int):∀(a b:List ((Int×Int)×Nat)),gP p (a++b)=match gP p a with|some n=>some n|none=>gP p b
 |[],b=>rfl
 |(q,n)::a,b=>by
  rw[ek,gP,gP]
  by_cases h:p=q
  ·simp[h]
  ·rw[if_neg h,if_neg h,Iq p a b]
theorem LK(first:Nat):mX first [] []:=fun p=>rfl
theorem Y4{first:Nat}{l:List (Int×Int)}{es:List ((Int×Int)×Nat)}(h:mX first l es){p:Int×Int}(hp:gP p es=none):mX first (l++[p]) (es++[(p,2*(first+l.length))]):=by
 intro q;rw[Iq,ID,h q]
 cases hq:eU q l 0 with
 |some j=>rfl
 |none=>
  simp only[Option.map_none,gP,eU,gY]
  by_cases he:q=p
  ·simp[he]
  ·rw[if_neg he,if_neg (fun h1=>he h1.symm)];rfl
end Go.Proofs.YtchjijfjidlpjaaGreatDoor
namespace Go.Proofs.YtchjijfjidlpjaaGreatDoor
open Go.AM Go.Proofs
variable{Γ:Nat->Option AV}
theorem RA(l:List (Int×Int)){k:Nat}(hk:Kd 2 k l)(hl:l.length<2^40):aN Tryz.prog Γ xC [.list false k (l.map cy)] (.own 2 bI (l.map cy)):=by
 refine .run 60 RD (by simp) ?_
 cases l with
 |nil=>
  simp;refine .either 0 (by simp) (fun b=>?_)
  cases b
  ·refine .go 9 ?_;simp;refine .qe 2 2 bI rfl (by omega) ?_;refine .go 60 ?_;simp;exact .back (by simp)
  ·refine .go 60 ?_;simp;exact .back (by simp)
 |cons x xs=>
  have hk0:k=2:=by
   rcases hk with h|h
   ·exact h
   ·cases h
  subst hk0;simp at hl;simp(disch:=(first|omega|(simp;omega)));exact .back (by simp)
abbrev jo(g:Gr):Ob:=.cells [.int .i64 g.ins,.list false g.kn (g.next.map i64),.list false g.ki (g.init.map i64),.list false g.ka (g.ands.map cy),.list false g.ko (g.outs.map i64)]
def NJ(first:Nat):List (Int×Int)->Nat->List ((Int×Int)×Nat)->List ((Int×Int)×Nat)
 |[],_,es=>es
 |p::ps,i,es=>NJ first ps (i+1) (if(gP p es).isSome=true then es else es++[(p,2*(first+i))])
def Gr.bd(g:Gr):List ((Int×Int)×Nat):=NJ g.first g.ands 0 []
abbrev Gr.sq(g:Gr)(l:List (Int×Int)):Gr:={g with ands:=l,ka:=2,ha:=.self}
@[simp] theorem Gr.aqw(g:Gr)(l:List (Int×Int)):(g.sq l).first=g.first:=rfl
@[simp] theorem ary(a b:Nat):pg (.int .i64 (a:Int)) [.int .i64 (b:Int)]=some (.int .i64 ((max a b:Nat):Int)):=by
 simp only[pg,bY];congr 2;split<;>omega
@[simp] theorem arI(a b:Nat):pn (.int .i64 (a:Int)) [.int .i64 (b:Int)]=some (.int .i64 ((min a b:Nat):Int)):=by
 simp only[pn,bY];congr 2;split<;>omega
abbrev wE(g:Gr)(x1 x2 x4:AV)(r n m:Nat)(come:AV):Ob:=.cells [.int .i64 g.ins,x1,x2,.sl r 0 n,x4,.mp m,come]
section
set_option maxRecDepth 8000 in
theorem aa8(a b c:Nat)(ha:a<2^20)(hb:b<2^20)(hk:iu (max a b) (min a b)=some c)(pb:AV)(h:List Ob):∀up,AM.Reach Tryz.prog Γ (.cl qU [pb,.int .i64 a,.int .i64 b] up h) (.back up (.int .i64 c) h):=by
 intro up
 have hle:min a b<=max a b:=by omega
 have hM:max a b<2^20:=by omega
 generalize hM':max a b=M at*;generalize hm':min a b=m at*;refine .dq 60 Cm ?_;unfold iu at hk;have hx:=ky M
 by_cases c1:m=0
 ·subst c1;simp at hk;subst hk;simp[hM',hm']
 ·by_cases c2:M^^^1=m
  ·rw[if_pos (Or.inr c2)]at hk
   cases hk
   have c3:((M^^^1:Nat):Int)=m:=by omega
   simp(disch:=omega) [hM',hm',c1,c3,c2]
  ·rw[if_neg (by simp[c1,c2])]at hk
   have c3:¬((M^^^1:Nat):Int)=m:=by omega
   by_cases c4:m=1
   ·rw[if_pos (Or.inl c4)]at hk
    cases hk
    have c5:((m:Int)=1)=True:=bl (by omega);simp(disch:=omega) [hM',hm',c1,c3,c2,c5]
   ·by_cases c6:M=m
    ·rw[if_pos (Or.inr c6)]at hk
     cases hk
     subst c6;have c5:((c:Int)=1)=False:=gq (by omega);simp(disch:=omega) [hM',hm',c1,c3,c2,c5]
    ·rw[if_neg (by simp[c4,c6])]at hk
     cases hk
end
section
variable{p q:List Ob}{x1 x2 x4 come:AV}
theorem JU{p q:Nat}(h:iu p q=none):q≠0/\p^^^1≠q/\q≠1/\p≠q:=by
 unfold iu at h
 split at h
 ·cases h
 ·split at h
  ·cases h
  ·omega
set_option maxRecDepth 8000 in
theorem aaO(g:Gr)(hi:0<=g.ins/\g.ins<=4000)(hn:g.next.length<=4000)(l:List (Int×Int))(hl:l.length<2^20)(es:List ((Int×Int)×Nat))(he:mX g.first l es)(a b:Nat)(ha:a<2^20)(hb:b<2^20)(hk:iu (max a b) (min a b)=none)
 (hx1:∀s,view (p++s) x1=some (.list false g.kn (g.next.map i64)))(hx2:∀s,view (p++s) x2=some (.list false g.ki (g.init.map i64)))(hx4:∀s,view (p++s) x4=some (.list false g.ko (g.outs.map i64))):
 ∀up,AM.Reach Tryz.prog Γ (.cl qU [.ptr (p.length+1) 0,.int .i64 a,.int .i64 b] up (p++.map (es.map gV) true::wE g x1 x2 x4 (p.length+2) l.length p.length come::.row 2 bI (l.map cy) none true false::q))
  (match gP (((max a b:Nat):Int),((min a b:Nat):Int)) es with
   |some c=>.back up (.int .i64 c) (p++.map (es.map gV) true::wE g x1 x2 x4 (p.length+2) l.length p.length come::.row 2 bI (l.map cy) none true false::(q++[.cells [.int .i64 ((max a b:Nat):Int),.int .i64 ((min a b:Nat):Int)]]))
   |none=>.back up (.int .i64 (2*(g.first+l.length):Nat)) (p++.map ((es++[((((max a b:Nat):Int),((min a b:Nat):Int)),2*(g.first+l.length))]).map gV) true::wE g x1 x2 x4 (p.length+2) (l.length+1) p.length come::
    .row 2 bI ((l++[(((max a b:Nat):Int),((min a b:Nat):Int))]).map cy) (some 0) true false::(q++[.cells [.int .i64 ((max a b:Nat):Int),.int .i64 ((min a b:Nat):Int)]]))):=by
 intro up;obtain⟨k1,k2,k3,k4⟩:=JU hk
 have hle:min a b<=max a b:=by omega
 have hM:max a b<2^20:=by omega
 generalize hM':max a b=M at*;generalize hm':min a b=m at*;have hx:=ky M
 have c3:¬((M^^^1:Nat):Int)=m:=by omega
 have hfe:=IQ ((M:Int),(m:Int)) es;have c5:((m:Int)=1)=False:=gq (by omega);have c7:((M:Int)=m)=False:=gq (by omega)
 cases hf:gP ((M:Int),(m:Int)) es with
 |some c=>
  rw[hf]at hfe;have hfe:fm (.gQ [.int,.int]) (.agg [.int .i64 M,.int .i64 m]) (es.map gV)=some (some (.int .i64 (c:Int))):=hfe;simp only;refine .dq 60 Cm ?_;simp(disch:=omega) [hM',hm',k1,k2,k3,k4,c3,c5,c7,isKey,cz,c9,hfe];refine .du 60 ?_;simp[isKey,cz,c9,hfe]
 |none=>
  rw[hf]at hfe;simp only;refine .dq 60 Cm ?_;have hfe:fm (.gQ [.int,.int]) (.agg [.int .i64 M,.int .i64 m]) (es.map gV)=some none:=hfe;simp(disch:=omega) [hM',hm',k1,k2,k3,k4,c3,c5,c7,isKey,cz,c9,hfe];refine .du 60 ?_;simp[isKey,cz,c9,hfe];have hf1:=re (Γ:=Γ) (g.sq l) hi.1 hi.2 hn
  have hfb:g.first<=8001:=by unfold Gr.first;omega
  have hput:=Ju (v:=.int .i64 (2*((g.first:Int)+l.length))) hf;refine .eW 60 ?_;simp;refine .call (by simp[hx1,hx2,hx4]) hf1 ?_;simp(disch:=omega);refine .eW 60 ?_;simp(disch:=(first|omega|(simp;omega))) [isKey,cz,c9,hput];simp[gV]
end
def kW:Gr:=⟨0,[],[],[],[],0,0,0,0,.nil,.nil,.nil,.nil⟩
def Gr.qB(g:Gr)(a b:Int):Int:=if g.check≠0 then g.check else if cQ g.lits a=true\/cQ g.lits b=true then 1 else if 4000<g.ins+g.next.length+(bo g.first g.ands a.toNat b.toNat).1.length then 8 else 0
def Gr.iQ(g:Gr)(a b:Int):Gr:=if g.qB a b=0 then g.sq (bo g.first g.ands a.toNat b.toNat).1 else kW
def Gr.pk(g:Gr)(a b:Int):Nat:=if g.qB a b=0 then(bo g.first g.ands a.toNat b.toNat).2 else 0
theorem vQ(first:Nat)(l:List (Int×Int))(a b:Nat):(bo first l a b).1.length<=l.length+1:=by
 unfold bo
 split
 ·simp
 ·split<;>simp
theorem V'{first:Nat}{l:List (Int×Int)}{es:List ((Int×Int)×Nat)}(h:mX first l es){a b:Nat}(hk:iu (max a b) (min a b)=none):
 bo first l a b=match gP (((max a b:Nat):Int),((min a b:Nat):Int)) es with
  |some c=>(l,c)
  |none=>(l++[(((max a b:Nat):Int),((min a b:Nat):Int))],2*(first+l.length)):=by
 unfold bo;rw[hk,h]
 cases eU (((max a b:Nat):Int),((min a b:Nat):Int)) l 0<;>rfl
theorem H9(l:List Int){k:Nat}(hk:Kd 1 k l)(hl:l.length<2^40):aN Tryz.prog Γ xD [.list false k (l.map i64)] (.own 1 az (l.map i64)):=by
 refine .run 60 RL (by simp) ?_
 cases l with
 |nil=>
  simp;refine .either 0 (by simp) (fun b=>?_)
  cases b
  ·refine .go 9 ?_;simp;refine .qe 2 1 az rfl (by omega) ?_;refine .go 60 ?_;simp;exact .back (by simp)
  ·refine .go 60 ?_;simp;exact .back (by simp)
 |cons x xs=>
  have hk0:k=1:=by
   rcases hk with h|h
   ·exact h
   ·cases h
  subst hk0;simp at hl;simp(disch:=(first|omega|(simp;omega)));exact .back (by simp)
theorem Nv{p q:List Ob}{x1 x2 x4 come:AV}(g:Gr)(hi:0<=g.ins/\g.ins<=4000)(hn:g.next.length<=4000)(l:List (Int×Int))(hl:l.length<2^20)(es:List ((Int×Int)×Nat))(he:mX g.first l es)(a b:Nat)(ha:a<2^20)(hb:b<2^20)
 (hx1:∀s,view (p++s) x1=some (.list false g.kn (g.next.map i64)))(hx2:∀s,view (p++s) x2=some (.list false g.ki (g.init.map i64)))(hx4:∀s,view (p++s) x4=some (.list false g.ko (g.outs.map i64))):
 ∃(es':List ((Int×Int)×Nat))(gr:Option Nat)(junk:List Ob),mX g.first (bo g.first l a b).1 es'/\(gr=none\/gr=some 0)/\(junk=[]\/∃x y:Int,junk=[.cells [.int .i64 x,.int .i64 y]])/\
 ∀up,AM.Reach Tryz.prog Γ (.cl qU [.ptr (p.length+1) 0,.int .i64 a,.int .i64 b] up (p++.map (es.map gV) true::wE g x1 x2 x4 (p.length+2) l.length p.length come::.row 2 bI (l.map cy) none true false::q))
  (.back up (.int .i64 ((bo g.first l a b).2:Nat)) (p++.map (es'.map gV) true::wE g x1 x2 x4 (p.length+2) (bo g.first l a b).1.length p.length come::.row 2 bI ((bo g.first l a b).1.map cy) gr true false::(q++junk))):=by
 cases hK:iu (max a b) (min a b)with
 |some c=>
  have hG:bo g.first l a b=(l,c):=by unfold bo;rw[hK]
  rw[hG];exact⟨es,none,[],he,.inl rfl,.inl rfl,fun up=>by rw[eL];exact aa8 a b c ha hb hK _ _ up⟩
 |none=>
  have hG:=V' he hK;have key:=aaO (Γ:=Γ) (p:=p) (q:=q) (come:=come) g hi hn l hl es he a b ha hb hK hx1 hx2 hx4
  cases hF:gP (((max a b:Nat):Int),((min a b:Nat):Int)) es with
  |some c=>
   rw[hF]at hG key;simp only at hG key;rw[hG];exact⟨es,none,_,he,.inl rfl,.inr ⟨((max a b:Nat):Int),((min a b:Nat):Int),rfl⟩,key⟩
  |none=>
   rw[hF]at hG key;simp only at hG key;rw[hG];refine⟨_,some 0,_,Y4 he hF,.inr rfl,.inr ⟨((max a b:Nat):Int),((min a b:Nat):Int),rfl⟩,fun up=>?_⟩;have:=key up;simp only[bp,bC,cN,gY];exact this
theorem ZL{x a:Nat}(hx:(x:Int)<2^60):gf .xor .i64 (x:Int) ((a%2:Nat):Int)=some ((x^^^(a%2):Nat):Int):=by
 rcases(show a%2=0\/a%2=1 by omega)with h|h
 ·rw[h,Cd]
  have h1:(BitVec.ofInt 64 (x:Int)^^^BitVec.ofInt 64 ((0:Nat):Int)).toNat=x:=by
   have e1:BitVec.ofInt 64 ((0:Nat):Int)=0#64:=by decide
   rw[e1,BitVec.xor_zero,HT];omega
  show some (IntKind.i64.wrap ((BitVec.ofInt 64 (x:Int)^^^BitVec.ofInt 64 ((0:Nat):Int)).toNat:Int))=_
  rw[h1,wB (by omega)]
 ·rw[h];exact NV x hx
def aX(to:List Nat)(a:Nat):Nat:=to.getD (a/2) 0^^^(a%2)
def cd(to:List Nat)(l:List Int):List Nat:=l.map fun a=>aX to a.toNat
@[simp] theorem arz(to:List Nat)(l:List Int):(cd to l).length=l.length:=by simp[cd]
theorem Dv{to:List Nat}{l:List Int}{i:Nat}(h:i<l.length):cd to (l.take (i+1))=cd to (l.take i)++[aX to l[i].toNat]:=by
 rw[pN h];simp only[cd,nk,cv,iC]
section
variable{c0 c1 c2 c3 c4 c5:AV}
theorem ua(to:List Nat)(hto:∀x∈to,x<2^40)(a:Nat)(h1:a/2<to.length)(ha:(a:Int)<2^60)(b r:Nat){E:TypeId}{gr:Option Nat}{fl sh:Bool}{h:List Ob}(hb:h[b]? =some (.cells [c0,c1,c2,c3,c4,c5,.sl r 0 to.length]))(hr:h[r]? =some (.row 1 E (to.map iN) gr fl sh))(hok:cr (to.map iN) gr 0 to.length=true):
 ∀up,AM.Reach Tryz.prog Γ (.cl np [.ptr b 0,.int .i64 a] up h) (.back up (.int .i64 (aX to a)) h):=by
 intro up
 have h3:((a/2:Nat):Int)<to.length:=by omega
 have h4:=hto _ (bZ h1)
 have h5:to.getD (a/2) 0=to[a/2]:=by rw[bz,a_ h1];rfl
 have h6:=ZL (x:=to[a/2]) (a:=a) (by omega);refine .dq 60 RX ?_;unfold aX;rw[h5];simp(disch:=omega) [-Int.natCast_ediv,-Int.natCast_emod,-cr,hok,hb,hr,h1,h3,h6]
end
set_option maxRecDepth 8000 in
theorem NM(to:List Nat)(hto:∀x∈to,x<2^40)(l:List Int){k:Nat}(hk:Kd 1 k l)(hl:l.length<2^40)(hlt:∀a∈l,0<=a/\a<2*to.length)(hbt:to.length<2^40){c0 c1 c2 c3 c4 c5:AV}(b r:Nat){E:TypeId}{h:List Ob}(hb:h[b]? =some (.cells [c0,c1,c2,c3,c4,c5,.sl r 0 to.length]))(hr:h[r]? =some (.row 1 E (to.map iN) none true false))
 (hv:∀m,ew (h.length+1) m h=true):
 ∀up,AM.Reach Tryz.prog Γ (.cl qV [.ptr b 0,.list false k (l.map i64)] up h) (.back up (.sl (h.length+1) 0 l.length) (h++[.row 1 az [] none true false,.row 1 az ((cd to l).map iN) none true false])):=by
 intro up
 have hb':∀os,(h++os)[b]? =some (.cells [c0,c1,c2,c3,c4,c5,.sl r 0 to.length]):=fun os=>rF hb os
 have hr':∀os,(h++os)[r]? =some (.row 1 E (to.map iN) none true false):=fun os=>rF hr os
 have key:∀n j:Nat,j+n=l.length->∀w,w=cd to (l.take j)->AM.Reach Tryz.prog Γ (Qs (.sl (h.length+1) 0 w.length) (.fn (.func np) [.ptr b 0] []) (.list false k (l.map i64)) (.int .i64 l.length) (.int .i64 j)
  (h++[.row 1 az [] none true false,.row 1 az (w.map iN) none true false]) ⟨[],.norm,h.length,up⟩) (.back up (.sl (h.length+1) 0 l.length) (h++[.row 1 az [] none true false,.row 1 az ((cd to l).map iN) none true false])):=by
  intro n
  induction n with
  |zero=>
   intro j hj w hw
   have q1:¬j<l.length:=by omega
   rw[cF (by omega)]at hw;subst hw;refine .du 60 ?_;simp[q1]
  |succ n ih=>
   intro j hj w hw
   have q1:j<l.length:=by omega
   have q2:=bl (hk.of q1);obtain⟨a1,a2⟩:=hlt l[j] (bZ q1);obtain⟨x,hx⟩:=cS a1
   have hwl:w.length=j:=by rw[hw];simp;omega
   have hh:=ih (j+1) (by omega) _ rfl;rw[Dv q1,<-hw,hx]at hh;simp only[cZ]at hh;have hc:=ua (Γ:=Γ) to hto x (by omega) (by omega) b r (hb' [.row 1 az [] none true false,.row 1 az (w.map iN) none true false]) (hr' _) (by simp);refine .du 60 ?_;simp(disch:=omega) [q1,q2,hx];refine .dE 60 hc ?_;simp(disch:=(first|omega|(simp;omega))) [q1,q2];refine .aT ?_;simp;refine .Ad (i:=h.length+1) (by simp;exact⟨rfl,rfl,rfl,rfl,rfl⟩) (by simp) (by simp) (by simp[hv]) ?_;simp at hh⊢;exact hh
 refine .dq 60 Ie ?_;simp;refine .inLoop ?_;have hh:=key l.length 0 (by omega) [] (by simp[cd]);simp at hh⊢;exact hh
set_option maxRecDepth 8000 in
theorem M5(to:List Nat)(hto:∀x∈to,x<2^40)(l:List Int)(hl:l.length<2^40)(hlt:∀a∈l,0<=a/\a<2*to.length)(hbt:to.length<2^40){c0 c1 c2 c3 c4 c5:AV}(b r qq:Nat){E E2:TypeId}{h:List Ob}(hb:h[b]? =some (.cells [c0,c1,c2,c3,c4,c5,.sl r 0 to.length]))(hr:h[r]? =some (.row 1 E (to.map iN) none true false))
 (hq:h[qq]? =some (.row 1 E2 (l.map i64) none true false))(hv:∀m,ew (h.length+1) m h=true):
 ∀up,AM.Reach Tryz.prog Γ (.cl qV [.ptr b 0,.sl qq 0 l.length] up h) (.back up (.sl (h.length+1) 0 l.length) (h++[.row 1 az [] none true false,.row 1 az ((cd to l).map iN) none true false])):=by
 intro up
 have hb':∀os,(h++os)[b]? =some (.cells [c0,c1,c2,c3,c4,c5,.sl r 0 to.length]):=fun os=>rF hb os
 have hr':∀os,(h++os)[r]? =some (.row 1 E (to.map iN) none true false):=fun os=>rF hr os
 have hql:¬qq=h.length+1:=by have:=bj hq;omega
 have hq':∀os,(h++os)[qq]? =some (.row 1 E2 (l.map i64) none true false):=fun os=>rF hq os
 have key:∀n j:Nat,j+n=l.length->∀w,w=cd to (l.take j)->AM.Reach Tryz.prog Γ (Qs (.sl (h.length+1) 0 w.length) (.fn (.func np) [.ptr b 0] []) (.sl qq 0 l.length) (.int .i64 l.length) (.int .i64 j)
  (h++[.row 1 az [] none true false,.row 1 az (w.map iN) none true false]) ⟨[],.norm,h.length,up⟩) (.back up (.sl (h.length+1) 0 l.length) (h++[.row 1 az [] none true false,.row 1 az ((cd to l).map iN) none true false])):=by
  intro n
  induction n with
  |zero=>
   intro j hj w hw
   have q1:¬j<l.length:=by omega
   rw[cF (by omega)]at hw;subst hw;refine .du 60 ?_;simp[q1]
  |succ n ih=>
   intro j hj w hw
   have q1:j<l.length:=by omega
   obtain⟨a1,a2⟩:=hlt l[j] (bZ q1);obtain⟨x,hx⟩:=cS a1
   have hwl:w.length=j:=by rw[hw];simp;omega
   have hh:=ih (j+1) (by omega) _ rfl;rw[Dv q1,<-hw,hx]at hh;simp only[cZ]at hh;have hc:=ua (Γ:=Γ) to hto x (by omega) (by omega) b r (hb' [.row 1 az [] none true false,.row 1 az (w.map iN) none true false]) (hr' _) (by simp);refine .du 60 ?_;simp(disch:=omega) [q1,hq',hx];refine .dE 60 hc ?_;simp(disch:=(first|omega|(simp;omega))) [q1,hq'];refine .aT ?_;simp;refine .Ad (i:=h.length+1) (by simp;exact⟨rfl,rfl,rfl,rfl,rfl⟩) (by simp) (by simp[hql]) (by simp[hv]) ?_;simp at hh⊢;exact hh
 refine .dq 60 Ie ?_;simp;refine .inLoop ?_;have hh:=key l.length 0 (by omega) [] (by simp[cd]);simp at hh⊢;exact hh
abbrev o9(x:Nat×List Int):AV:=.list false x.1 (x.2.map i64)
def cf:List (Nat×List Int)->List Int
 |[]=>[]
 |x::xs=>x.2++cf xs
theorem IZ(a b:List (Nat×List Int)):cf (a++b)=cf a++cf b:=by
 induction a with
 |nil=>rfl
 |cons x a ih=>simp[cf,ih]
theorem JP(xs:List (Nat×List Int))(i:Nat)(h:i<xs.length):cf (xs.take (i+1))=cf (xs.take i)++xs[i].2:=by
 rw[pN h,IZ];simp[cf]
theorem Mk(xs:List (Nat×List Int))(i:Nat):(cf (xs.take i)).length<=(cf xs).length:=by
 conv=>rhs;rw[<-oa i xs,IZ]
 simp
set_option maxRecDepth 8000 in
theorem RI(xs:List (Nat×List Int))(hk:∀x∈xs,Kd 1 x.1 x.2)(hn:xs.length<2^40)(hs:(cf xs).length<2^40)(hp:0<(cf xs).length):
 aN Tryz.prog Γ pO [.list false 1 (xs.map o9)] (.own 1 az ((cf xs).map i64)):=by
 refine .run 60 H8 (by simp) ?_
 have key2:∀n i:Nat,i+n=xs.length->∀m:Nat,(cf (xs.take i)).length+m=(cf xs).length->
  aB Tryz.prog Γ (Oc (.sl 2 0 (cf (xs.take i)).length) (.list false 1 (xs.map o9)) (.int .i64 xs.length) (.int .i64 i) [.row 1 az [] none true false,.row 1 az [] none true false,.row 1 az ((cf (xs.take i)).map i64++List.replicate m (AV.int .i64 0)) none true false])
   (.ret (.own 1 az ((cf xs).map i64))):=by
  intro n
  induction n with
  |zero=>
   intro i hi m hm
   have q1:¬i<xs.length:=by omega
   have q2:xs.take i=xs:=cF (by omega);rw[q2]at hm⊢
   have hm0:m=0:=by omega
   subst hm0;refine .go 60 ?_;simp[q1];exact .back (by simp)
  |succ n ih=>
   intro i hi m hm
   have q1:i<xs.length:=by omega
   have q2:=JP xs i q1;have q3:=Mk xs (i+1);rw[q2,bp]at q3;have q4:=hk xs[i] (bZ q1);have q5:xs[i].1=1\/xs[i].2=[]:=q4;have hh:=ih (i+1) (by omega) (m-xs[i].2.length) (by rw[q2,bp];omega);rw[q2]at hh
   have hd:(List.replicate m (AV.int .i64 0)).drop xs[i].2.length=List.replicate (m-xs[i].2.length) (AV.int .i64 0):=by simp
   refine .go 60 ?_
   by_cases q6:(cf (xs.take i)).length=(cf xs).length
   ·have q7:xs[i].2=[]:=k_.1 (by omega)
    have hm0:m=0:=by omega
    subst hm0;simp[q7]at hh;simp(disch:=(first|omega|(simp;omega))) [q1,q5,q7];refine .aT ?_;simp;exact hh
   ·simp(disch:=(first|omega|(simp;omega))) [q1,q5]
    by_cases q7:m=0
    ·omega
    ·have c1:¬(cf (List.take i xs)).length=(cf (List.take i xs)).length+m:=by omega
     have c2:(cf (List.take i xs)).length+xs[i].snd.length<=(cf (List.take i xs)).length+m:=by omega
     simp(disch:=(first|omega|(simp;omega))) [q1,q5,c1,c2,q7];refine .aT ?_;have hd0:((cf (xs.take i)).map i64).drop ((cf (xs.take i)).length+xs[i].2.length)=[]:=bq (by simp);simp[B7,hd,hd0]at hh⊢;exact hh
 have key1:∀n i:Nat,i+n=xs.length->
  aB Tryz.prog Γ (Ot (.list false 1 (xs.map o9)) (.int .i64 (cf (xs.take i)).length) (.list false 1 (xs.map o9)) (.int .i64 xs.length) (.int .i64 i) [.row 1 az [] none true false])
   (.ret (.own 1 az ((cf xs).map i64))):=by
  intro n
  induction n with
  |zero=>
   intro i hi
   have q1:¬i<xs.length:=by omega
   have q2:xs.take i=xs:=cF (by omega);have q3:0<(cf xs).length:=hp;have hh:=key2 xs.length 0 (by omega) (cf xs).length (by simp[cf]);refine .go 60 ?_;rw[q2];simp[q1];refine .enter 60 H_ ?_
   have q4:¬(cf xs).length=0:=by omega
   have q5:cf xs≠[]:=fun e=>by rw[e]at hp;simp at hp
   obtain⟨m,hm⟩:∃m,(cf xs).length=m+1:=⟨(cf xs).length-1,by omega⟩
   have hrep:List.replicate (cf xs).length (AV.int .i64 0)=(AV.int .i64 0)::List.replicate m (AV.int .i64 0):=by rw[hm];rfl
   simp(disch:=(first|omega|(simp;omega))) [q3,q4,q5,hrep];refine .inLoop ?_;simp[cf,hrep]at hh⊢;exact hh
  |succ n ih=>
   intro i hi
   have q1:i<xs.length:=by omega
   have q2:=JP xs i q1;have q3:=Mk xs (i+1);rw[q2,bp]at q3;have hh:=ih (i+1) (by omega);rw[q2]at hh;refine .go 60 ?_
   have q4:¬((cf (xs.take i)).length:Int)+xs[i].2.length<0:=by omega
   simp(disch:=(first|omega|(simp;omega))) [q1,q4];refine .aT ?_;simp at hh⊢;exact hh
 simp;refine .inLoop ?_;have hh:=key1 xs.length 0 (by omega);simp[cf]at hh⊢;exact hh
set_option maxRecDepth 8000 in
theorem Rz(xs:List (Nat×List Int))(hx:∀x∈xs,x.2=[])(hn:xs.length<2^40):
 aN Tryz.prog Γ pO [.list false 1 (xs.map o9)] (.own 1 az []):=by
 refine .run 60 H8 (by simp) ?_
 have key2:∀n i:Nat,i+n=xs.length->aB Tryz.prog Γ (Oc (.list true 0 []) (.list false 1 (xs.map o9)) (.int .i64 xs.length) (.int .i64 i) [.row 1 az [] none true false,.row 1 az [] none true false])
  (.ret (.own 1 az [])):=by
  intro n
  induction n with
  |zero=>
   intro i hi
   have q1:¬i<xs.length:=by omega
   refine .qe 6 1 az rfl (by omega) ?_;refine .go 60 ?_;simp[q1];exact .back (by simp)
  |succ n ih=>
   intro i hi
   have q1:i<xs.length:=by omega
   have q7:=hx xs[i] (bZ q1);have hh:=ih (i+1) (by omega);refine .go 60 ?_;simp(disch:=(first|omega|(simp;omega))) [q1,q7];refine .aT ?_;simp at hh⊢;exact hh
 have key:∀n i:Nat,i+n=xs.length->aB Tryz.prog Γ (Ot (.list false 1 (xs.map o9)) (.int .i64 0) (.list false 1 (xs.map o9)) (.int .i64 xs.length) (.int .i64 i) [.row 1 az [] none true false])
  (.ret (.own 1 az [])):=by
  intro n
  induction n with
  |zero=>
   intro i hi
   have q1:¬i<xs.length:=by omega
   refine .go 60 ?_;simp[q1];refine .enter 60 H_ ?_;simp;refine .inLoop ?_;have hh:=key2 xs.length 0 (by omega);simp at hh⊢;exact hh
  |succ n ih=>
   intro i hi
   have q1:i<xs.length:=by omega
   have q7:=hx xs[i] (bZ q1);have hh:=ih (i+1) (by omega);refine .go 60 ?_;simp(disch:=(first|omega|(simp;omega))) [q1,q7];refine .aT ?_;simp at hh⊢;exact hh
 simp;refine .inLoop ?_;have hh:=key xs.length 0 (by omega);simp at hh⊢;exact hh
theorem RJ(xs:List (Nat×List Int))(hk:∀x∈xs,Kd 1 x.1 x.2)(hn:xs.length<2^40)(hs:(cf xs).length<2^40):
 aN Tryz.prog Γ pO [.list false 1 (xs.map o9)] (.own 1 az ((cf xs).map i64)):=by
 rcases Q3 (cf xs).length with h|h
 ·have h0:cf xs=[]:=k_.1 h
  have hx:∀x∈xs,x.2=[]:=by
   clear hk hn hs h
   induction xs with
   |nil=>simp
   |cons y ys ih=>
    simp only[cf,Q8]at h0;intro x hx
    rcases bw.1 hx with rfl|hx
    ·exact h0.1
    ·exact ih h0.2 x hx
  rw[h0];exact Rz xs hx hn
 ·exact RI xs hk hn hs h
def eC:List Int->List Bool->List Bool
 |[],v=>v
 |a::l,v=>eC l (v.set (a.toNat/2) true)
def fv(ands:List (Int×Int))(first:Nat):Nat->List Bool->List Bool
 |0,v=>v
 |i+1,v=>fv ands first i (if v.getD (first+i) false=true then(v.set ((ands.getD i (0,0)).1.toNat/2) true).set ((ands.getD i (0,0)).2.toNat/2) true else v)
def Gr.aE(g:Gr):List Bool:=fv g.ands g.first g.ands.length (eC (g.next++g.outs) (List.replicate g.all false))
theorem nz:∀(l:List Int)(v:List Bool),(eC l v).length=v.length
 |[],v=>rfl
 |a::l,v=>by rw[eC,nz l,kp]
theorem Ki(ands:List (Int×Int))(first:Nat):∀(i:Nat)(v:List Bool),(fv ands first i v).length=v.length
 |0,v=>rfl
 |i+1,v=>by rw[fv,Ki ands first i];split<;>simp
theorem xU:∀(a b:List Int)(v:List Bool),eC (a++b) v=eC b (eC a v)
 |[],b,v=>rfl
 |x::a,b,v=>by rw[ek,eC,eC,xU a b]
abbrev acz:List (List Nat):=[[0,1,2,3,4,5,6,7,8],[0,1,2,3,4,5,7,6,8],[0,1,2,3,4,7,5,6,8],[0,1,2,3,7,4,5,6,8],[0,1,2,7,3,4,5,6,8],[0,1,7,2,3,4,5,6,8],[0,2,1,3,4,5,6,7,8],[0,2,1,3,4,5,7,6,8],[0,2,1,3,4,7,5,6,8],[0,2,1,3,7,4,5,6,8],[0,2,1,7,3,4,5,6,8],[0,2,3,1,4,5,6,7,8],[0,2,3,1,4,5,7,6,8],[0,2,3,1,4,7,5,6,8],[0,2,3,1,7,4,5,6,8],[0,2,3,4,1,5,6,7,8],[0,2,3,4,1,5,7,6,8],[0,2,3,4,1,7,5,6,8],[0,2,3,4,7,1,5,6,8],[0,2,3,7,1,4,5,6,8],[0,2,3,7,4,1,5,6,8],[0,2,7,1,3,4,5,6,8],[0,2,7,3,1,4,5,6,8],[0,2,7,3,4,1,5,6,8],[0,7,1,2,3,4,5,6,8],[0,7,2,1,3,4,5,6,8],[0,7,2,3,1,4,5,6,8],[0,7,2,3,4,1,5,6,8],[2,0,1,3,4,5,6,7,8],[2,0,1,3,4,5,7,6,8],[2,0,1,3,4,7,5,6,8],[2,0,1,3,7,4,5,6,8],[2,0,1,7,3,4,5,6,8],[2,0,3,1,4,5,6,7,8],[2,0,3,1,4,5,7,6,8],[2,0,3,1,4,7,5,6,8],[2,0,3,1,7,4,5,6,8],[2,0,3,4,1,5,6,7,8],[2,0,3,4,1,5,7,6,8],[2,0,3,4,1,7,5,6,8],[2,0,3,4,7,1,5,6,8],[2,0,3,7,1,4,5,6,8],[2,0,3,7,4,1,5,6,8],[2,0,7,1,3,4,5,6,8],[2,0,7,3,1,4,5,6,8],[2,0,7,3,4,1,5,6,8],[2,3,0,1,4,5,6,7,8],[2,3,0,1,4,5,7,6,8],[2,3,0,1,4,7,5,6,8],[2,3,0,1,7,4,5,6,8],[2,3,0,4,1,5,6,7,8],[2,3,0,4,1,5,7,6,8],[2,3,0,4,1,7,5,6,8],[2,3,0,4,7,1,5,6,8],[2,3,0,7,1,4,5,6,8],[2,3,0,7,4,1,5,6,8],[2,3,4,0,1,5,6,7,8],[2,3,4,0,1,5,7,6,8],[2,3,4,0,1,7,5,6,8],[2,3,4,0,7,1,5,6,8],[2,3,4,7,0,1,5,6,8],[2,3,7,0,1,4,5,6,8],[2,3,7,0,4,1,5,6,8],[2,3,7,4,0,1,5,6,8],[2,7,0,1,3,4,5,6,8],[2,7,0,3,1,4,5,6,8],[2,7,0,3,4,1,5,6,8],[2,7,3,0,1,4,5,6,8],[2,7,3,0,4,1,5,6,8],[2,7,3,4,0,1,5,6,8],[7,0,1,2,3,4,5,6,8],[7,0,2,1,3,4,5,6,8],[7,0,2,3,1,4,5,6,8],[7,0,2,3,4,1,5,6,8],[7,2,0,1,3,4,5,6,8],[7,2,0,3,1,4,5,6,8],[7,2,0,3,4,1,5,6,8],[7,2,3,0,1,4,5,6,8],[7,2,3,0,4,1,5,6,8],[7,2,3,4,0,1,5,6,8]]
theorem Z4:eM [[],[0],[],[2],[3],[1,4],[5,5],[],[7,6,1,0,1,2,3,4,5,6,7]] 9 []=acz:=by decide+kernel
abbrev wo(g:Gr):List Fr:=[⟨.run,rz,[.iE 6,.inBlock 0 [],.code (.seq (.ae Gy) .ret)],
 [cg g,.ptr 0 0,U,.ptr 2 0,U,U,U,U,U,U,U,U,cg g,.sl 1 0 g.all,.fn (.func oq) [] [.ptr 3 0,.ptr 4 0],U,U,U,U,U,U],[.mark 5],.norm,0⟩]
abbrev uy(g:Gr)(v:List Bool):List Ob:=[jo g,.row 1 fW (v.map .bool) none true false,.cells [.sl 1 0 g.all],jo g,.cells [.sl 1 0 g.all],.bB true,
 .loop .ready .none rz [U,U,U,.ptr 2 0,U,U,U,U,U,U,U,U,U,U,U,U,U,U,U,U,U] [15] (.ae QL) PT,.cells [.dA 6]]
set_option maxRecDepth 8000 in
theorem aaW(g:Gr)(ok:g.Ok)(L:List Int)(hL:∀a∈L,0<=a/\a<g.lits)(hl:L.length<2^40){o:Out}(v0:List Bool)(hv0:v0.length=g.all)
 (hc:aB Tryz.prog Γ (Hr (.ptr 3 0) (.ptr 4 0) (.ptr 7 0) (uy g (eC L v0)++[.row 1 az (L.map i64) none true false]) ⟨[],.norm,7,wo g⟩) o):
 ∀n i:Nat,i+n=L.length->∀v,v=eC (L.take i) v0->aB Tryz.prog Γ (yyP (.ptr 3 0) (.ptr 4 0) (.ptr 7 0) (.sl 8 0 L.length) (.int .i64 L.length) (.int .i64 i) (uy g v++[.row 1 az (L.map i64) none true false]) ⟨[],.norm,7,wo g⟩) o:=by
 intro n
 induction n with
 |zero=>
  intro i hi v hv;rw[cF (by omega)]at hv;subst hv
  have q1:¬i<L.length:=by omega
  refine .reach (.gk 60 (c':=Hr (.ptr 3 0) (.ptr 4 0) (.ptr 7 0) (uy g (eC L v0)++[.row 1 az (L.map i64) none true false]) ⟨[],.norm,7,wo g⟩) ?_) hc;simp[q1];exact .exit rfl rfl
 |succ n ih=>
  intro i hi v hv
  have q1:i<L.length:=by omega
  obtain⟨b1,b2⟩:=hL L[i] (bZ q1);obtain⟨x,hx⟩:=cS b1
  have hvl:v.length=g.all:=by rw[hv,nz,hv0]
  have hh:=ih (i+1) (by omega) (v.set (x/2) true) (by rw[pN q1,xU,<-hv,eC,eC,hx];rfl);have e1:g.lits=2*g.all:=rfl;refine .go 60 ?_
  have q3:x/2<g.all:=by omega
  simp(disch:=omega) [q1,hx,kF,hvl,q3,-Int.natCast_ediv,-Int.natCast_emod];refine .aT ?_
  have e2:(v.map AV.bool).set (x/2) (.bool true)=(v.set (x/2) true).map AV.bool:=by rw[lj]
  rw[e2];simp[-List.map_set]at hh⊢;exact hh
abbrev aav(g:Gr):List Fr:=⟨.run,oq,[.iE 11,.inBlock 2 []],[U,.ptr 3 0,.ptr 4 0,.ptr 7 0,U,U,U,U,U,U,U,U,U,U,U,U,U,U,U,U,U,U,U,U,
          .ptr 3 3,.list false g.ka (List.map cy g.ands),.fn (.func vc) [] [.ptr 9 0],U,U,U,U,U,U,U,U,U,U,U,U,U,U,U,U,U,U,U,U,U,U,U],[.mark 10],.norm,7⟩::wo g
abbrev ab1(g:Gr)(v:List Bool)(rest:Ob):List Ob:=uy g v++[rest,.cells [.list false g.ka (List.map cy g.ands)],.bB true,
 .loop .ready .none oq [U,.ptr 3 0,.ptr 4 0,.ptr 7 0,U,U,U,U,U,U,U,U,U,U,U,U,U,U,U,U,U,U,U,U,U,U,U,U,U,U,U,U,U,U,U,U,U,U,U,U,U,U,U,U,U,U,U,U,U,U] [27,28] HE Hk]
abbrev AE(g:Gr)(v:List Bool)(rest:Ob)(x y:Nat):List Ob:=uy g v++[rest,.cells [.list false g.ka (List.map cy g.ands)],.bB true,
 .loop .busy .none oq [U,.ptr 3 0,.ptr 4 0,.ptr 7 0,U,U,U,U,U,U,U,U,U,U,U,U,U,U,U,U,U,U,U,U,U,U,U,U,U,U,U,U,U,U,U,U,U,U,U,U,U,U,U,U,U,U,U,U,U,U] [27,28] HE Hk,
 .cells [.int .i64 x,.int .i64 y]]
theorem No(g:Gr)(v:List Bool)(hv:v.length=g.all)(rest:Ob)(x y z:Nat)(hz:z/2<g.all)(hz2:(z:Int)<2^40):∀up,AM.Reach Tryz.prog Γ ((kj.yl 6).cfg [.int .i64 z] up (AE g v rest x y)) (.back up (.bool true) (AE g (v.set (z/2) true) rest x y)):=by
 intro up;simp;refine .du 60 ?_;simp(disch:=omega) [hv,hz,-Int.natCast_ediv,-Int.natCast_emod,-Int.natCast_add]
set_option maxRecDepth 8000 in
theorem aat(g:Gr)(ok:g.Ok)(L:List Int):∀i:Nat,i<=g.ands.length->∀v:List Bool,v.length=g.all->
 aB Tryz.prog Γ (yzZ (.dA 11) (.ptr 9 0) (.int .i64 ((i:Int)-1)) (ab1 g v (.row 1 az (L.map i64) none true false)) ⟨[],.norm,12,aav g⟩) (.ret (.own 1 fW ((fv g.ands g.first i v).map .bool))):=by
 have o1:=ok.ins;have o3:=ok.sum;have hf:=re (Γ:=Γ) g o1.1 o1.2 (by omega);intro i
 induction i with
 |zero=>
  intro hi v hv;refine .go 60 ?_;simp;exact .back (by simp[fv,hv])
 |succ i ih=>
  intro hi v hv
  have q1:i<g.ands.length:=by omega
  have e0:((i+1:Nat):Int)-1=i:=by omega
  rw[e0];obtain⟨⟨b1,b2⟩,b3,b4⟩:=ok.ands i q1;obtain⟨x,hx⟩:=cS b1;obtain⟨y,hy⟩:=cS b3;have q2:=bl (g.ha.of q1);refine .go 60 ?_;simp(disch:=omega) [q1,q2,kF];refine .dr 60 ?_;simp(disch:=omega) [q1,q2];refine .call (by simp) hf ?_
  have e1:(g.first:Int)+i=((g.first+i:Nat):Int):=by omega
  have q3:g.first+i<v.length:=by rw[hv];unfold Gr.all;omega
  have q4:g.first+i<g.all:=by omega
  have hfb:g.first<=8001:=by unfold Gr.first;omega
  have q5:x/2<g.all:=by omega
  have q6:y/2<g.all:=by omega
  rw[fv,bz,a_ q3,gZ,bz,a_ q1,gZ,hx,hy];simp only[cZ]
  by_cases hb:v[g.first+i]=true
  ·rw[if_pos hb];have hh:=ih (by omega) ((v.set (x/2) true).set (y/2) true) (by simp[hv]);simp(disch:=omega) [e1,q3,q4,hb,hv,hx,hy,q5,-Int.natCast_ediv,-Int.natCast_emod,-Int.natCast_add];have k1:=No (Γ:=Γ) g v hv (.row 1 az (L.map i64) none true false) x y x q5 (by omega);have k2:=No (Γ:=Γ) g (v.set (x/2) true) (by simp[hv]) (.row 1 az (L.map i64) none true false) x y y q6 (by omega);refine .go (.bool true) (AE g (v.set (x/2) true) (.row 1 az (L.map i64) none true false) x y) k1 ?_;simp(disch:=omega) [hb,hv,hx,hy,q5,q6,-List.map_set,-Int.natCast_ediv,-Int.natCast_emod,-Int.natCast_add];refine .go (.bool true) (AE g ((v.set (x/2) true).set (y/2) true) (.row 1 az (L.map i64) none true false) x y) k2 ?_;simp(disch:=omega) [hb,hv,hx,hy,q5,q6,-List.map_set,-Int.natCast_ediv,-Int.natCast_emod,-Int.natCast_add];refine .aT ?_;simp
   refine .drop 12 rfl (by simp) (by simp) (by simp) ?_;simp[e0]at hh⊢;exact hh
  ·rw[if_neg hb];have hh:=ih (by omega) v hv;simp(disch:=omega) [e1,q3,q4,hb,hv,-Int.natCast_add];refine .aT ?_;simp;refine .drop 12 rfl (by simp) (by simp) (by simp) ?_;simp[e0]at hh⊢;exact hh
set_option maxRecDepth 8000 in
theorem aaC(g:Gr)(ok:g.Ok)(v0:List Bool)(hv0:v0.length=g.all)(L:List Int):aB Tryz.prog Γ (Hr (.ptr 3 0) (.ptr 4 0) (.ptr 7 0) (uy g v0++[.row 1 az (L.map i64) none true false]) ⟨[],.norm,7,wo g⟩) (.ret (.own 1 fW ((fv g.ands g.first g.ands.length v0).map .bool))):=by
 have o3:=ok.sum;have o1:=ok.ins;refine .go 60 ?_;simp;refine .enter 60 Rq ?_;simp;refine .enter 60 Rk ?_;simp(disch:=omega);refine .inLoop ?_;have hh:=aat (Γ:=Γ) g ok L g.ands.length (by omega) v0 hv0;simp at hh⊢;exact hh
set_option maxRecDepth 8000 in
theorem abK(g:Gr)(ok:g.Ok):aB Tryz.prog Γ (.fr ⟨.run,rz,[.ops [],.code (.seq (.seq (.ae Oi) (.block 0 [] Pk)) (.seq (.ae Gy) .ret))],
 [cg g,.ptr 0 0,U,.ptr 2 0,U,U,U,U,U,U,U,U,U,U,U,U,U,U,U,U,U],[],.norm,0⟩ [] [jo g,.row 1 fW (List.replicate g.all (.bool false)) none true false,.cells [.sl 1 0 g.all]]) (.ret (.own 1 fW (g.aE.map .bool))):=by
 have o1:=ok.ins;have o3:=ok.sum;refine .go 60 ?_;simp;refine .enter 60 SN ?_;simp;refine .enter 60 Sp ?_;simp
 have hcat:=RJ (Γ:=Γ) [(g.kn,g.next),(g.ko,g.outs)] (by
  intro x hx;simp only[bw,mr,mi]at hx
  rcases hx with rfl|rfl
  ·exact g.hn
  ·exact g.ho) (by simp) (by simp[cf];have:=ok.eT;omega)
 simp[cf]at hcat;refine .call 60 (by simp) hcat ?_;simp;refine .inLoop ?_
 have hL:∀a∈g.next++g.outs,0<=a/\a<(g.lits:Int):=by
  intro a ha
  rcases ba.1 ha with ha|ha
  ·exact ok.next a ha
  ·exact ok.outs a ha
 have hh:=aaW (Γ:=Γ) g ok (g.next++g.outs) hL (by simp;have:=ok.eT;omega) (List.replicate g.all false) (by simp)
  (aaC g ok _ (by rw[nz];simp) _) (g.next++g.outs).length 0 (by omega) _ rfl
 simp[eC]at hh⊢;exact hh
set_option maxRecDepth 20000 in
set_option maxHeartbeats 2000000 in
theorem VV(g:Gr)(ok:g.Ok):aN Tryz.prog Γ rz [cg g] (.own 1 fW (g.aE.map .bool)):=by
 have o1:=ok.ins;have o3:=ok.sum;refine .run 60 Xl (by simp) ?_;simp;refine .ogO 60 ?_;simp only[bC,cN,gY,Nat.reduceAdd,Z4];have hf:=re (Γ:=Γ) g o1.1 o1.2 (by omega)
 have e1:(g.first:Int)+g.ands.length=(g.all:Int):=by unfold Gr.all;omega
 have hall:g.all<=12001:=by unfold Gr.all Gr.first;omega
 have hgen:=abK (Γ:=Γ) g ok;intro l hl;simp only[bw,mr,mi]at hl
 rcases hl with rfl|rfl|rfl|rfl|rfl|rfl|rfl|rfl|rfl|rfl|rfl|rfl|rfl|rfl|rfl|rfl|rfl|rfl|rfl|rfl|rfl|rfl|rfl|rfl|rfl|rfl|rfl|rfl|rfl|rfl|rfl|rfl|rfl|rfl|rfl|rfl|rfl|rfl|rfl|rfl|rfl|rfl|rfl|rfl|rfl|rfl|rfl|rfl|rfl|rfl|rfl|rfl|rfl|rfl|rfl|rfl|rfl|rfl|rfl|rfl|rfl|rfl|rfl|rfl|rfl|rfl|rfl|rfl|rfl|rfl|rfl|rfl|rfl|rfl|rfl|rfl|rfl|rfl|rfl|rfl
 all_goals
  simp;refine .NI 60 (by simp) hf ?_;simp(disch:=(first|omega|(simp;omega))) [e1];refine .nS [2,5,6,7,8,9,10,11] ?_;simp
  first
   |(refine .gc 1 [1,2] (by simp) (by decide) ?_;simp;exact hgen)
   |(refine .gc 1 [3,1] (by simp) (by decide) ?_;simp;exact hgen)
end Go.Proofs.YtchjijfjidlpjaaGreatDoor
namespace Go.Proofs.YtchjijfjidlpjaaGreatDoor
open Go.AM Go.Proofs
def ids(n:Nat):List Nat:=(List.range n).map (2*·)
@[simp] theorem arU(n:Nat):(ids n).length=n:=by simp[ids]
theorem DZ(n:Nat):ids (n+1)=ids n++[2*n]:=by simp[ids,List.range_succ]
def fu(first:Nat):List (Int×Int)->List (Int×Int)->List Nat->List (Int×Int)×List Nat
 |[],l,to=>(l,to)
 |p::ps,l,to=>fu first ps (bo first l (aX to p.1.toNat) (aX to p.2.toNat)).1 (to++[(bo first l (aX to p.1.toNat) (aX to p.2.toNat)).2])
def c_(first:Nat)(aE:List Bool):List (Int×Int)->Nat->List (Int×Int)->List Nat->List (Int×Int)×List Nat
 |[],_,l,to=>(l,to)
 |p::ps,i,l,to=>
  if aE.getD (first+i) false=true then c_ first aE ps (i+1) (bo first l (aX to p.1.toNat) (aX to p.2.toNat)).1 (to++[(bo first l (aX to p.1.toNat) (aX to p.2.toNat)).2])
  else c_ first aE ps (i+1) l (to++[0])
def Gr.dv(g:Gr)(r:List (Int×Int)×List Nat):Gr:=⟨g.ins,(cd r.2 g.next).map fun n:Nat=>(n:Int),g.init,r.1,(cd r.2 g.outs).map fun n:Nat=>(n:Int),1,1,2,1,.self,.self,.self,.self⟩
def Gr.cI(g:Gr):Gr:=g.dv (fu g.first g.ands [] (ids g.first))
def Gr.dR(x:Gr):Gr:=x.dv (c_ x.first x.aE x.ands 0 [] (ids x.first))
def Gr.normal(g:Gr):Gr:=if g.check=0 then g.cI.dR else kW
structure lX(first:Nat)(l:List (Int×Int))(to:List Nat):Prop where
 lt:∀x∈to,x<2*(first+l.length)
theorem tS{first:Nat}{l:List (Int×Int)}{a b:Nat}(ha:a<2*(first+l.length))(hb:b<2*(first+l.length))(h1:1<=first):
 (bo first l a b).2<2*(first+(bo first l a b).1.length)/\l.length<=(bo first l a b).1.length:=by
 unfold bo
 split
 ·rename_i c hc;unfold iu at hc;refine⟨?_,aU _⟩;simp only
  split at hc
  ·cases hc;omega
  ·split at hc
   ·cases hc;omega
   ·cases hc
 ·split
  ·rename_i i hi;obtain⟨_,h2,_⟩:=Dn hi;exact⟨by simp only;omega,aU _⟩
  ·exact⟨by simp only[bp,bC,cN];omega,by simp⟩
theorem mJ{to:List Nat}{B a:Nat}(h:∀x∈to,x<2*B)(ha:a/2<to.length):aX to a<2*B:=by
 have h1:=h _ (bZ ha);unfold aX;rw[bz,a_ ha,gZ]
 rcases(show a%2=0\/a%2=1 by omega)with h2|h2
 ·rw[h2,Cd];exact h1
 ·rw[h2,ky];split<;>omega
theorem Ac(x:Gr):x.aE.length=x.all:=by unfold Gr.aE;rw[Ki,nz,ku]
structure eQ(first:Nat)(l:List (Int×Int)):Prop where
 at_:∀i(h:i<l.length),∃p q:Nat,l[i]=((p:Int),(q:Int))/\2<=q/\q<p/\p/2≠q/2/\p<2*(first+i)
 nd:l.Nodup
theorem JO(first:Nat):eQ first []:=⟨fun i h=>by simp at h,List.nodup_nil⟩
theorem eQ.push{first:Nat}{l:List (Int×Int)}(h:eQ first l){a b:Nat}(ha:a<2*(first+l.length))(hb:b<2*(first+l.length)):eQ first (bo first l a b).1:=by
 unfold bo
 split
 ·exact h
 ·rename_i hk
  split
  ·exact h
  ·rename_i hi;obtain⟨k1,k2,k3,k4⟩:=JU hk
   have hle:min a b<=max a b:=by omega
   have hx:=ky (max a b);refine⟨fun i hi2=>?_,?_⟩
   ·by_cases hil:i<l.length
    ·obtain⟨p,q,e,r⟩:=h.at_ i hil;exact⟨p,q,by simp only;rw[xq hil];exact e,r⟩
    ·have e0:i=l.length:=by simp at hi2;omega
     subst e0;refine⟨max a b,min a b,by simp,by omega,by omega,?_,by omega⟩;intro hd;apply k2;rw[hx]
     split<;>omega
   ·rw[om];refine⟨h.nd,by simp,?_⟩;intro x hx2 y hy he;subst he;simp at hy;subst hy;exact(DE.1 hi) hx2
theorem Lr(first:Nat)(h1:1<=first):∀(ps l:List (Int×Int))(to:List Nat),eQ first l->lX first l to->(∀i(h:i<ps.length),ps[i].1.toNat/2<to.length+i/\ps[i].2.toNat/2<to.length+i)->
 eQ first (fu first ps l to).1/\lX first (fu first ps l to).1 (fu first ps l to).2/\(fu first ps l to).2.length=to.length+ps.length/\(fu first ps l to).1.length<=l.length+ps.length
 |[],l,to,hl,ht,_=>⟨hl,ht,rfl,aU _⟩
 |p::ps,l,to,hl,ht,hp=>by
  have h0:=hp 0 (by simp);simp only[HU,jd]at h0;have ha:=mJ ht.lt h0.1;have hb:=mJ ht.lt h0.2;obtain⟨hlt,hge⟩:=tS ha hb h1
  have hlen:=vQ first l (aX to p.1.toNat) (aX to p.2.toNat)
  rw[fu]
  obtain⟨a1,a2,a3,a4⟩:=Lr first h1 ps (bo first l (aX to p.1.toNat) (aX to p.2.toNat)).1 (to++[(bo first l (aX to p.1.toNat) (aX to p.2.toNat)).2]) (hl.push ha hb) ⟨fun z hz=>by
   rcases ba.1 hz with hz|hz
   ·have:=ht.lt z hz;omega
   ·simp at hz;omega⟩ (fun i hi=>by
   have:=hp (i+1) (by simpa using hi);simp only[u0]at this
   simp;omega)
  refine⟨a1,a2,by rw[a3];simp;omega,by simp only[bC];omega⟩
theorem Eh(first:Nat)(h1:1<=first)(aE:List Bool):∀(ps:List (Int×Int))(i:Nat)(l:List (Int×Int))(to:List Nat),eQ first l->lX first l to->(∀i(h:i<ps.length),ps[i].1.toNat/2<to.length+i/\ps[i].2.toNat/2<to.length+i)->
 eQ first (c_ first aE ps i l to).1/\lX first (c_ first aE ps i l to).1 (c_ first aE ps i l to).2/\(c_ first aE ps i l to).2.length=to.length+ps.length/\(c_ first aE ps i l to).1.length<=l.length+ps.length
 |[],i,l,to,hl,ht,_=>⟨hl,ht,rfl,aU _⟩
 |p::ps,i,l,to,hl,ht,hp=>by
  have h0:=hp 0 (by simp);simp only[HU,jd]at h0;have ha:=mJ ht.lt h0.1;have hb:=mJ ht.lt h0.2;obtain⟨hlt,hge⟩:=tS ha hb h1
  have hlen:=vQ first l (aX to p.1.toNat) (aX to p.2.toNat)
  rw[c_]
  split
  ·obtain⟨a1,a2,a3,a4⟩:=Eh first h1 aE ps (i+1) (bo first l (aX to p.1.toNat) (aX to p.2.toNat)).1 (to++[(bo first l (aX to p.1.toNat) (aX to p.2.toNat)).2]) (hl.push ha hb) ⟨fun z hz=>by
    rcases ba.1 hz with hz|hz
    ·have:=ht.lt z hz;omega
    ·simp at hz;omega⟩ (fun i hi=>by
    have:=hp (i+1) (by simpa using hi);simp only[u0]at this
    simp;omega)
   refine⟨a1,a2,by rw[a3];simp;omega,by simp only[bC];omega⟩
  ·obtain⟨a1,a2,a3,a4⟩:=Eh first h1 aE ps (i+1) l (to++[0]) hl ⟨fun z hz=>by
    rcases ba.1 hz with hz|hz
    ·exact ht.lt z hz
    ·simp at hz;omega⟩ (fun i hi=>by
    have:=hp (i+1) (by simpa using hi);simp only[u0]at this
    simp;omega)
   refine⟨a1,a2,by rw[a3];simp;omega,by simp only[bC];omega⟩
theorem MK{g:Gr}(ok:g.Ok):∀i(h:i<g.ands.length),g.ands[i].1.toNat/2<(ids g.first).length+i/\g.ands[i].2.toNat/2<(ids g.first).length+i:=by
 intro i h;have:=ok.ands i h
 simp;omega
theorem Av(first:Nat):lX first [] (ids first):=⟨fun z hz=>by simp[ids]at hz;obtain⟨a,ha,rfl⟩:=hz;simp;omega⟩
theorem Nq{g:Gr}(ok:g.Ok){l:List (Int×Int)}{to:List Nat}(hl:eQ g.first l)(ht:lX g.first l to)(h1:to.length=g.all)(h2:l.length<=g.ands.length):(g.dv (l,to)).Ok:=by
 have o1:=ok.ins;have o3:=ok.sum
 have hb:∀a:Int,0<=a->a<g.lits->aX to a.toNat<2*(g.first+l.length):=fun a h3 h4=>mJ ht.lt (by have:g.lits=2*g.all:=rfl;omega)
 have hfst:(g.dv (l,to)).first=g.first:=by simp[Gr.first,Gr.dv]
 have hlits:(g.dv (l,to)).lits=2*(g.first+l.length):=by simp only[Gr.lits,Gr.all,hfst];rfl
 refine⟨o1,by simp[Gr.dv];omega,by simp[Gr.dv];exact ok.eT,by simp[Gr.dv];exact ok.same,ok.init,?_,?_,?_⟩
 ·intro a ha;rw[hlits];simp only[Gr.dv,db,cd]at ha;obtain⟨n,⟨b,hb2,rfl⟩,rfl⟩:=ha;have h3:=ok.next b hb2;have:=hb b h3.1 h3.2;omega
 ·intro a ha;rw[hlits];simp only[Gr.dv,db,cd]at ha;obtain⟨n,⟨b,hb2,rfl⟩,rfl⟩:=ha;have h3:=ok.outs b hb2;have:=hb b h3.1 h3.2;omega
 ·intro i hi;rw[hfst];obtain⟨p,q,e,r1,r2,r3,r4⟩:=hl.at_ i hi;have e2:(g.dv (l,to)).ands[i]=((p:Int),(q:Int)):=e;rw[e2];simp only;omega
theorem Ae{g:Gr}(ok:g.Ok):g.cI.Ok/\eQ g.first g.cI.ands/\g.cI.ands.length<=g.ands.length:=by
 have o1:=ok.ins
 obtain⟨a1,a2,a3,a4⟩:=Lr g.first (by unfold Gr.first;omega) g.ands [] (ids g.first) (JO _) (Av _) (MK ok)
 refine⟨Nq ok a1 a2 (by rw[a3];simp[Gr.all]) (by simpa using a4),a1,?_⟩;rw[cN,gY]at a4;exact a4
theorem Mh{g:Gr}(ok:g.Ok):g.dR.Ok/\eQ g.first g.dR.ands/\g.dR.ands.length<=g.ands.length:=by
 have o1:=ok.ins
 obtain⟨a1,a2,a3,a4⟩:=Eh g.first (by unfold Gr.first;omega) g.aE g.ands 0 [] (ids g.first) (JO _) (Av _) (MK ok)
 refine⟨Nq ok a1 a2 (by rw[a3];simp[Gr.all]) (by simpa using a4),a1,?_⟩;rw[cN,gY]at a4;exact a4
end Go.Proofs.YtchjijfjidlpjaaGreatDoor
namespace Go.Proofs.YtchjijfjidlpjaaGreatDoor
open Go.AM Go.Proofs
variable{Γ:Nat->Option AV}
theorem JH(a b c d:Int):bU (.gQ [.int,.int]) (.agg [.int .i64 a,.int .i64 b]) (.agg [.int .i64 c,.int .i64 d])=some (decide ((a,b)=(c,d))):=Ds (a,b) (c,d)
def dN(a b:Gr):Bool:=decide (a.ins=b.ins)&&decide (a.next=b.next)&&decide (a.init=b.init)&&decide (a.ands=b.ands)&&decide (a.outs=b.outs)
def Gr.A1(g:Gr)(i:Nat):Bool:=
 decide ((g.ands.getD i (0,0)).1<=(g.ands.getD i (0,0)).2)||decide ((g.ands.getD i (0,0)).2<=1)||decide ((g.ands.getD i (0,0)).1.toNat/2=(g.ands.getD i (0,0)).2.toNat/2)||!g.aE.getD (g.first+i) false||decide (g.ands.getD i (0,0)∈g.ands.take i)
def Gr.strict(g:Gr):Bool:=decide (g.check=0)&&!aZ g.A1 (List.range g.ands.length)
end Go.Proofs.YtchjijfjidlpjaaGreatDoor
namespace Go.Proofs.YtchjijfjidlpjaaGreatDoor
open Go.AM Go.Proofs
theorem XO{l:List (Int×Int)}{n:Nat}(h:∀i(hi:i<l.length),(0<=l[i].1/\l[i].1<2*(n+i))/\0<=l[i].2/\l[i].2<2*(n+i)):ik l n=false:=by
 induction l generalizing n with
 |nil=>rfl
 |cons p l ih=>
  have h0:=h 0 (by simp);simp only[HU]at h0;simp only[ik,jI,cQ,gK];refine⟨by omega,ih fun i hi=>?_⟩;have:=h (i+1) (by simpa using hi);simp only[u0]at this;omega
theorem Gr.rC{g:Gr}(ok:g.Ok):g.check=0:=by
 obtain⟨h1,h2,h3,h4,h5,h6,h7,h8⟩:=ok;unfold Gr.check
 have e1:g.nf=false:=by simp[Gr.nf];omega
 have e2:aZ jZ g.init=false:=ji.2 fun a ha=>by have:=h5 a ha;simp[jZ];omega
 have e3:aZ (cQ g.lits) g.next=false:=ji.2 fun a ha=>by have:=h6 a ha;simp[cQ];omega
 have e4:aZ (cQ g.lits) g.outs=false:=ji.2 fun a ha=>by have:=h7 a ha;simp[cQ];omega
 simp[e1,e2,e3,e4,h4,XO h8]
theorem Wf(first:Nat)(l:List (Int×Int))(a b:Nat):bo first l a b=bo first l b a:=by
 unfold bo;rw[Nat.max_comm b a,Nat.min_comm b a]
theorem D3(first:Nat)(l:List (Int×Int))(a b:Nat):∃e,(bo first l a b).1=l++e:=by
 unfold bo
 split
 ·exact⟨[],by simp⟩
 ·split
  ·exact⟨[],by simp⟩
  ·exact⟨_,rfl⟩
theorem DV{v:List Bool}{a:Nat}(h:a/2<v.length)(e:List Bool):bR (v++e) a=bR v a:=by
 unfold bR;rw[bz,bz,dk h]
theorem DH:∀(l:List (Int×Int))(v:List Bool),∃e,cD l v=v++e
 |[],v=>⟨[],by simp[cD]⟩
 |p::ps,v=>by
  obtain⟨e,he⟩:=DH ps (v++[bR v p.1.toNat&&bR v p.2.toNat]);exact⟨[bR v p.1.toNat&&bR v p.2.toNat]++e,by rw[cD,he,c8]⟩
theorem vI(l:List (Int×Int)){v:List Bool}{a:Nat}(h:a/2<v.length):bR (cD l v) a=bR v a:=by
 obtain⟨e,he⟩:=DH l v;rw[he,DV h]
theorem JY(w:List Bool)(x:Bool){n:Nat}(h:n=2*w.length):bR (w++[x]) n=x:=by
 subst h;unfold bR
 have e1:2*w.length/2=w.length:=by omega
 have e2:¬2*w.length%2=1:=by omega
 rw[e1,bz];simp[e2]
theorem Xk{l:List (Int×Int)}{v:List Bool}{i:Nat}(hi:i<l.length)(h1:l[i].1.toNat/2<v.length+i)(h2:l[i].2.toNat/2<v.length+i):
 bR (cD l v) (2*(v.length+i))=(bR (cD l v) l[i].1.toNat&&bR (cD l v) l[i].2.toNat):=by
 have e:l=l.take i++(l[i]::l.drop (i+1)):=by rw[<-br hi,oa]
 have hl:(cD (l.take i) v).length=v.length+i:=by rw[vH,fc];omega
 have e2:cD l v=cD (l.drop (i+1)) (cD (l.take i) v++[bR (cD (l.take i) v) l[i].1.toNat&&bR (cD (l.take i) v) l[i].2.toNat]):=by
  conv=>lhs;rw[e,sQ,cD]
 generalize cD (l.take i) v=w at*
 have s:∀c,c/2<w.length+1->bR (cD l v) c=bR (w++[bR w l[i].1.toNat&&bR w l[i].2.toNat]) c:=fun c hc=>by
  rw[e2];exact vI _ (by rw[bp];exact hc)
 rw[s (2*(v.length+i)) (by omega),s l[i].1.toNat (by omega),s l[i].2.toNat (by omega),JY _ _ (by omega),DV (by omega),DV (by omega)]
theorem D4{v:List Bool}{a:Nat}:bR v (a^^^1)=!bR v a:=by
 rw[ky];unfold bR
 split
 ·rename_i h
  have e1:(a+1)/2=a/2:=by omega
  have e2:(a+1)%2=1:=by omega
  rw[e1];simp[h,e2]
 ·rename_i h
  have e1:(a-1)/2=a/2:=by omega
  have e2:¬(a-1)%2=1:=by omega
  have e3:a%2=1:=by omega
  rw[e1];simp[e2,e3]
theorem Xp{v:List Bool}(h:bR v 0=false):bR v 1=true:=by
 have:=D4 (v:=v) (a:=0)
 rw[h]at this;exact this
def n8(first:Nat)(l:List (Int×Int)):Prop:=∀i(h:i<l.length),(0<=l[i].1/\l[i].1<2*(first+i))/\0<=l[i].2/\l[i].2<2*(first+i)
theorem n8.push{first:Nat}{l:List (Int×Int)}(h:n8 first l){p:Int×Int}(hp:(0<=p.1/\p.1<2*(first+l.length))/\0<=p.2/\p.2<2*(first+l.length)):n8 first (l++[p]):=by
 intro i hi
 by_cases h2:i<l.length
 ·rw[xq h2];exact h i h2
 ·have e:i=l.length:=by simp at hi;omega
  subst e;simp only[List.getElem_append_right (aU _),Nat.sub_self,HU];omega
theorem n8.and{first:Nat}{l:List (Int×Int)}(h:n8 first l){a b:Nat}(ha:a<2*(first+l.length))(hb:b<2*(first+l.length)):n8 first (bo first l a b).1:=by
 unfold bo
 split
 ·exact h
 ·split
  ·exact h
  ·refine h.push ?_;have:=Nat.max_lt.2 ⟨ha,hb⟩
   have:min a b<=max a b:=by omega
   simp only;omega
theorem Lc{first:Nat}{l:List (Int×Int)}{v:List Bool}(hv:v.length=first)(hz:bR v 0=false)(h1:1<=first)(wf:n8 first l){a b:Nat}(ha:a<2*(first+l.length))(hb:b<2*(first+l.length)):
 bR (cD (bo first l a b).1 v) (bo first l a b).2=(bR (cD l v) a&&bR (cD l v) b):=by
 have hz2:bR (cD l v) 0=false:=by rw[vI _ (by omega)];exact hz
 have hM:max a b<2*(first+l.length):=Nat.max_lt.2 ⟨ha,hb⟩
 have hm:min a b<2*(first+l.length):=by omega
 have hL:(cD l v).length=first+l.length:=by rw[vH,hv]
 have key:(bR (cD l v) a&&bR (cD l v) b)=(bR (cD l v) (max a b)&&bR (cD l v) (min a b)):=by
  rcases Nat.le_total a b with h|h
  ·rw[Nat.max_eq_right h,qP h,Bool.and_comm]
  ·rw[Nat.max_eq_left h,HP h]
 rw[key];unfold bo;generalize max a b=p at*;generalize min a b=q at*
 cases hk:iu p q with
 |some c=>
  simp only;unfold iu at hk
  split at hk
  ·rename_i h2
   cases hk
   rw[hz2]
   rcases h2 with rfl|rfl
   ·rw[hz2,Bool.and_false]
   ·rw[D4];cases bR (cD l v) p<;>rfl
  ·split at hk
   ·rename_i h2
    cases hk
    rcases h2 with rfl|rfl
    ·rw[Xp hz2,pF]
    ·rw[uX]
   ·cases hk
 |none=>
  simp only
  cases hi:eU ((p:Int),(q:Int)) l 0 with
  |some i=>
   simp only;obtain⟨_,h2,h3⟩:=Dn hi;simp only[xm]at h2 h3;have hw:=wf i h2;have:=Xk (v:=v) h2 (by omega) (by omega);rw[hv,h3]at this;exact this
  |none=>
   simp only;rw[sQ,cD,cD];rw[JY _ _ (by omega)];rfl
theorem Yi{first:Nat}{l:List (Int×Int)}{v:List Bool}(hv:v.length=first){a b c:Nat}(hc:c<2*(first+l.length)):bR (cD (bo first l a b).1 v) c=bR (cD l v) c:=by
 obtain⟨e,he⟩:=D3 first l a b
 rw[he,sQ,vI _ (by rw[vH];omega)]
theorem CJ(a:Gr):dN a a=true:=by simp[dN]
structure wx(g:Gr)(a b:Int):Prop where
 ok:g.Ok
 a1:0<=a/\a<g.lits
 b1:0<=b/\b<g.lits
 R:g.iQ a b=g.sq (bo g.first g.ands a.toNat b.toNat).1
 C:g.pk a b=(bo g.first g.ands a.toNat b.toNat).2
 wT:(g.iQ a b).Ok
 lt:g.pk a b<(g.iQ a b).lits
 le:g.lits<=(g.iQ a b).lits
theorem NF{g:Gr}{a b:Int}(h:g.qB a b=0):wx g a b:=by
 have hR:g.iQ a b=g.sq (bo g.first g.ands a.toNat b.toNat).1:=by unfold Gr.iQ;rw[if_pos h]
 have hC:g.pk a b=(bo g.first g.ands a.toNat b.toNat).2:=by unfold Gr.pk;rw[if_pos h]
 unfold Gr.qB at h
 split at h
 ·contradiction
 ·rename_i hc;have ok:=Gr.lH (B9.1 hc)
  split at h
  ·cases h
  ·rename_i hl;rw[not_or]at hl;obtain⟨a1,a2⟩:=hl;simp[cQ]at a1 a2
   split at h
   ·cases h
   ·rename_i hs;have hlits:g.lits=2*(g.first+g.ands.length):=rfl
    have ha:a.toNat<2*(g.first+g.ands.length):=by omega
    have hb:b.toNat<2*(g.first+g.ands.length):=by omega
    have h1:1<=g.first:=by unfold Gr.first;omega
    obtain⟨l1,l2⟩:=tS ha hb h1
    have wf:n8 g.first (bo g.first g.ands a.toNat b.toNat).1:=n8.and ok.ands ha hb
    have hl2:(g.sq (bo g.first g.ands a.toNat b.toNat).1).lits=2*(g.first+(bo g.first g.ands a.toNat b.toNat).1.length):=rfl;refine⟨ok,by omega,by omega,hR,hC,?_,?_,?_⟩
    ·rw[hR];refine⟨ok.ins,by simp only;omega,ok.eT,ok.same,ok.init,fun x hx=>?_,fun x hx=>?_,wf⟩
     ·rw[hl2];have:=ok.next x hx;omega
     ·rw[hl2];have:=ok.outs x hx;omega
    ·rw[hC,hR,hl2];exact l1
    ·rw[hR,hl2,hlits];omega
theorem wx.lR{g:Gr}{a b:Int}(h:wx g a b)(state ins:List Bool):(g.iQ a b).oH state ins=g.oH state ins:=by
 unfold Gr.oH;rw[Gr.rC h.ok,Gr.rC h.wT]
 have e:(g.iQ a b).fits state ins=g.fits state ins:=by rw[h.R];rfl
 rw[e]
theorem wx.value{g:Gr}{a b:Int}(h:wx g a b){state ins:List Bool}(hv:g.oH state ins=0):
 bR ((g.iQ a b).lR state ins) (g.pk a b)=(bR (g.lR state ins) a.toNat&&bR (g.lR state ins) b.toNat)/\
 (∀c:Nat,c<g.lits->bR ((g.iQ a b).lR state ins) c=bR (g.lR state ins) c)/\∃e,(g.iQ a b).lR state ins=g.lR state ins++e:=by
 obtain⟨ok,d1,d2⟩:=Gr.acr hv;have o1:=ok.ins
 have hl:(false::(ins++state)).length=g.first:=by simp[Gr.first];omega
 have hlits:g.lits=2*(g.first+g.ands.length):=rfl;have ha:=h.a1;have hb:=h.b1;unfold Gr.lR;rw[h.R,h.C];refine⟨Lc hl (by simp[bR]) (by unfold Gr.first;omega) ok.ands (by omega) (by omega),fun c hc=>Yi hl (by omega),?_⟩
 obtain⟨e,he⟩:=D3 g.first g.ands a.toNat b.toNat
 simp only;rw[he,sQ];exact DH e _
end Go.Proofs.YtchjijfjidlpjaaGreatDoor
namespace Go.Proofs.YtchjijfjidlpjaaGreatDoor
open Go.AM Go.Proofs
variable{Γ:Nat->Option AV}
abbrev Ft(p s:List Ob)(c0 c1 c2 c3 c4 c5:AV)(i:Nat):List Ob:=p++.cells [c0,c1,c2,c3,c4,c5,.sl (p.length+(s.length+1)) 0 i]::(s++[.row 1 az ((ids i).map iN) none true false])
theorem Nc(p s:List Ob)(c0 c1 c2 c3 c4 c5:AV)(f:Nat)(hf:f<2^20)(hp:∀m,ew (p.length+(s.length+1)) m p=true)(hs:∀m,ew (p.length+(s.length+1)) m s=true)
 (hc:∀m,dG (p.length+(s.length+1)) m [c0,c1,c2,c3,c4,c5]=true)(base:Nat)(hb:base<=p.length+(s.length+1))(up:List Fr)(ds:List di)(hds:ds=[]):
 ∀n i:Nat,i+n=f->AM.Reach Tryz.prog Γ (yqE (.ptr p.length 0) (.int .i64 f) (.int .i64 i) (Ft p s c0 c1 c2 c3 c4 c5 i) ⟨ds,.norm,base,up⟩)
  (yqF (.ptr p.length 0) (Ft p s c0 c1 c2 c3 c4 c5 f) ⟨ds,.norm,base,up⟩):=by
 subst hds;intro n
 induction n with
 |zero=>
  intro i hi
  obtain rfl:i=f:=by omega
  refine .gk 60 ?_;simp;exact .exit rfl rfl
 |succ n ih=>
  intro i hi
  have q1:(i:Int)<f:=by omega
  have hh:=ih (i+1) (by omega);have h1:=hp (i+1);have h2:=hs (i+1);have h3:=hc (i+1);simp only[dG,aC,pF]at h3;obtain⟨w0,w1,w2,w3,w4,w5⟩:=h3;refine .gk 60 ?_;simp(disch:=(first|omega|(simp;omega))) [q1];refine .aT ?_;simp
  have e1:(List.map iN (ids i)++[AV.int .i64 (2*(i:Int))]).length=i+1:=by simp
  refine .Ad (i:=p.length+(s.length+1)) (by simp;exact⟨rfl,rfl,rfl,rfl,rfl⟩) (by simpa using hb) (by simp) (by rw[e1];simp[h1,h2,w0,w1,w2,w3,w4,w5]) ?_;rw[Ft,DZ]at hh;simp at hh⊢;exact hh
theorem LX(ins:Int)(x1 x2:AV)(h1:(∃f k l,x1=.list f k l)\/∃i o n,x1=.sl i o n)(h2:(∃f k l,x2=.list f k l)\/∃i o n,x2=.sl i o n)(h:List Ob):∀up,AM.Reach Tryz.prog Γ (.cl x_ [.agg [.int .i64 ins,x1,x2,.list true 0 [],.list true 0 []]] up h)
 (.back up (.ptr (h.length+2) 0) (h++[.cells [.int .i64 ins,x1,x2,.list true 0 [],.list true 0 []],.map [] true,.cells [.int .i64 ins,x1,x2,.sl (h.length+3) 0 0,.list true 0 [],.mp (h.length+1),.list true 0 []],.row 2 bI [] none true false])):=by
 intro up;have hcl:=RA (Γ:=Γ) (k:=0) [] .nil (by simp)
 rcases h1 with⟨f1,k1,l1,rfl⟩|⟨i1,o1,n1,rfl⟩<;>rcases h2 with⟨f2,k2,l2,rfl⟩|⟨i2,o2,n2,rfl⟩
 all_goals
  refine .dq 60 TG ?_;simp;refine .nI 60 (by simp) hcl ?_;simp;refine .inLoop ?_;refine .du 60 ?_;simp
abbrev N0(g:Gr):List Ob:=[jo g,.cells [.int .i64 0,.sl 2 0 0,.sl 3 0 0,.sl 4 0 0,.sl 5 0 0],.row 1 az [] none true false,.row 1 az [] none true false,.row 2 bI [] none true false,.row 1 az [] none true false,
 jo g,.row 1 az (g.init.map i64) none true false,.cells [.int .i64 g.ins,.list false g.kn (g.next.map i64),.sl 7 0 g.init.length,.list true 0 [],.list true 0 []]]
abbrev qC(g:Gr)(es:List ((Int×Int)×Nat))(l:List (Int×Int))(to:List Nat)(q:List Ob):List Ob:=
 N0 g++(.map (es.map gV) true::.cells [.int .i64 g.ins,.list false g.kn (g.next.map i64),.sl 7 0 g.init.length,.sl 11 0 l.length,.list true 0 [],.mp 9,.sl 12 0 to.length]::.row 2 bI (l.map cy) none true false::.row 1 az (to.map iN) none true false::q)
set_option maxRecDepth 8000 in
theorem Zi(g:Gr)(ok:g.Ok){o:Out}(l1:List (Int×Int))(to1:List Nat)(hfin:fu g.first g.ands [] (ids g.first)=(l1,to1))
 (hc:∀es,mX g.first l1 es->l1.length<=g.ands.length->to1.length=g.all->lX g.first l1 to1->aB Tryz.prog Γ (F5 (.ptr 0 0) (.ptr 1 0) (.ptr 10 0) (qC g es l1 to1 [])) o):
 ∀n i:Nat,i+n=g.ands.length->∀es l to,mX g.first l es->l.length<=i->to.length=g.first+i->lX g.first l to->fu g.first (g.ands.drop i) l to=(l1,to1)->
  aB Tryz.prog Γ (ykl (.ptr 0 0) (.ptr 1 0) (.ptr 10 0) (.list false g.ka (g.ands.map cy)) (.int .i64 g.ands.length) (.int .i64 i) (qC g es l to [])) o:=by
 have o1:=ok.ins;have o3:=ok.sum;have o4:=ok.eT
 have hfb:g.first<=8001:=by unfold Gr.first;omega
 have hf1:1<=g.first:=by unfold Gr.first;omega
 intro n
 induction n with
 |zero=>
  intro i hi es l to he hl ht hok hS
  have q1:¬i<g.ands.length:=by omega
  rw[bq (by omega)]at hS;simp only[fu,bH]at hS;obtain⟨rfl,rfl⟩:=hS;refine .reach (.gk 60 (c':=F5 (.ptr 0 0) (.ptr 1 0) (.ptr 10 0) (qC g es l to [])) ?_) (hc es he (by omega) (by unfold Gr.all;omega) hok);simp[q1];exact .exit rfl rfl
 |succ n ih=>
  intro i hi es l to he hl ht hok hS
  have q1:i<g.ands.length:=by omega
  have q2:=bl (g.ha.of q1);rw[br q1,fu]at hS;obtain⟨⟨b1,b2⟩,b3,b4⟩:=ok.ands i q1;obtain⟨x,hx⟩:=cS b1;obtain⟨y,hy⟩:=cS b3;rw[hx,hy]at hS;simp only[cZ]at hS
  have hx2:x/2<to.length:=by omega
  have hy2:y/2<to.length:=by omega
  have ha:=mJ hok.lt hx2;have hb:=mJ hok.lt hy2;obtain⟨hlt,hge⟩:=tS ha hb hf1
  have hto:∀z∈to,z<2^40:=fun z hz=>by have:=hok.lt z hz;omega
  have k1:=ua (Γ:=Γ) to hto x hx2 (by omega) 10 12 (h:=qC g es l to [.cells [.int .i64 x,.int .i64 y]]) rfl rfl (by simp);have k2:=ua (Γ:=Γ) to hto y hy2 (by omega) 10 12 (h:=qC g es l to [.cells [.int .i64 x,.int .i64 y]]) rfl rfl (by simp)
  have hgl:=vQ g.first l (aX to x) (aX to y)
  obtain⟨es',gr,junk,he',hgr,hjk,k3⟩:=Nv (Γ:=Γ) (p:=N0 g) (q:=[.row 1 az (to.map iN) none true false,.cells [.int .i64 x,.int .i64 y]]) (x1:=.list false g.kn (g.next.map i64)) (x2:=.sl 7 0 g.init.length) (x4:=.list true 0 []) (come:=.sl 12 0 to.length)
   ⟨g.ins,g.next,g.init,[],[],g.kn,1,2,0,g.hn,.self,.self,.nil⟩ o1 (by simp;omega) l (by omega) es he (aX to x) (aX to y) (by omega) (by omega) (fun s=>by simp) (fun s=>by simp) (fun s=>by simp)
  have hfe:(⟨g.ins,g.next,g.init,[],[],g.kn,1,2,0,g.hn,.self,.self,.nil⟩:Gr).first=g.first:=rfl
  rw[hfe]at k3 he'
  have hh:=ih (i+1) (by omega) es' (bo g.first l (aX to x) (aX to y)).1 (to++[(bo g.first l (aX to x) (aX to y)).2]) he' (by omega) (by simp;omega) ⟨fun z hz=>by
   rcases ba.1 hz with hz|hz
   ·have:=hok.lt z hz;omega
   ·simp at hz;omega⟩ hS
  generalize bo g.first l (aX to x) (aX to y)=r at*
  refine .go 60 ?_;simp[q1,q2];refine .dr 60 ?_;simp(disch:=omega) [hx,hy];refine .reach (by simp) k1 ?_;simp(disch:=omega) [hx,hy];refine .reach (by simp) k2 ?_;simp(disch:=omega) [hx,hy];refine .reach (by simp) k3 ?_
  rcases hjk with rfl|⟨jx,jy,rfl⟩
  ·simp(disch:=(first|omega|(simp;omega))) [hx,hy];refine .aT ?_;simp;refine .drop 13 rfl (by simp) (by simp) (by simp) ?_
   have e1:(to.map iN++[AV.int .i64 (r.2:Int)]).length=to.length+1:=by simp
   refine .iF (i:=11) rfl hgr (by simp) (by simp) (by simp) ?_;refine .iF (i:=12) rfl (.inr rfl) (by simp) (by simp) (by rw[e1];simp) ?_;simp at hh⊢;exact hh
  ·simp(disch:=(first|omega|(simp;omega))) [hx,hy];refine .aT ?_;simp;refine .drop 13 rfl (by simp) (by simp) (by simp) ?_
   have e1:(to.map iN++[AV.int .i64 (r.2:Int)]).length=to.length+1:=by simp
   refine .iF (i:=11) rfl hgr (by simp) (by simp) (by simp) ?_;refine .iF (i:=12) rfl (.inr rfl) (by simp) (by simp) (by rw[e1];simp) ?_;simp at hh⊢;exact hh
abbrev E_(x:Gr):List Ob:=
 [.cells [.int .i64 0,.sl 1 0 0,.sl 2 0 0,.sl 3 0 0,.sl 4 0 0],.row 1 az [] none true false,.row 1 az [] none true false,.row 2 bI [] none true false,.row 1 az [] none true false,
  .cells [.int .i64 x.ins,.sl 6 0 x.next.length,.sl 7 0 x.init.length,.sl 8 0 x.ands.length,.sl 9 0 x.outs.length],.row 1 az (x.next.map i64) none true false,.row 1 az (x.init.map i64) none true false,.row 2 bI (x.ands.map cy) none true false,.row 1 az (x.outs.map i64) none true false,.row 1 fW (x.aE.map .bool) none true false]
abbrev Fj(x:Gr):List Ob:=E_ x++[.cells [.int .i64 x.ins,.sl 6 0 x.next.length,.sl 7 0 x.init.length,.sl 8 0 x.ands.length,.sl 9 0 x.outs.length],.row 1 az (x.init.map i64) none true false,.cells [.int .i64 x.ins,.sl 6 0 x.next.length,.sl 12 0 x.init.length,.list true 0 [],.list true 0 []]]
abbrev sf(x:Gr)(es:List ((Int×Int)×Nat))(l:List (Int×Int))(to:List Nat)(q:List Ob):List Ob:=
 Fj x++(.map (es.map gV) true::.cells [.int .i64 x.ins,.sl 6 0 x.next.length,.sl 12 0 x.init.length,.sl 16 0 l.length,.list true 0 [],.mp 14,.sl 17 0 to.length]::.row 2 bI (l.map cy) none true false::.row 1 az (to.map iN) none true false::q)
@[simp] theorem aq0(to:List Nat)(l:List Int):(List.map iN (cd to l)).take l.length=List.map iN (cd to l):=by rw[cF];simp
set_option maxRecDepth 8000 in
theorem aau(x:Gr)(hstd:x.kn=1/\x.ki=1/\x.ka=2/\x.ko=1)(ok:x.Ok){o:Out}(l1:List (Int×Int))(to1:List Nat)
 (hc:∀es,mX x.first l1 es->l1.length<=x.ands.length->to1.length=x.all->lX x.first l1 to1->aB Tryz.prog Γ (Pl (.ptr 0 0) (.ptr 5 0) (.ptr 15 0) (sf x es l1 to1 [])) o):
 ∀n i:Nat,i+n=x.ands.length->∀es l to,mX x.first l es->l.length<=i->to.length=x.first+i->lX x.first l to->c_ x.first x.aE (x.ands.drop i) i l to=(l1,to1)->
  aB Tryz.prog Γ (yki (.ptr 0 0) (.ptr 5 0) (.sl 10 0 x.all) (.ptr 15 0) (.sl 8 0 x.ands.length) (.int .i64 x.ands.length) (.int .i64 i) (sf x es l to [])) o:=by
 have o1:=ok.ins;have o3:=ok.sum;have o4:=ok.eT;obtain⟨s1,s2,s3,s4⟩:=hstd;have hfirst:=re (Γ:=Γ) x o1.1 o1.2 (by omega);rw[cg,s1,s2,s3,s4]at hfirst
 have hfb:x.first<=8001:=by unfold Gr.first;omega
 have hf1:1<=x.first:=by unfold Gr.first;omega
 have hll:=Ac x;intro n
 induction n with
 |zero=>
  intro i hi es l to he hl ht hok hS
  have q1:¬i<x.ands.length:=by omega
  rw[bq (by omega)]at hS;simp only[c_,bH]at hS;obtain⟨rfl,rfl⟩:=hS;refine .reach (.gk 60 (c':=Pl (.ptr 0 0) (.ptr 5 0) (.ptr 15 0) (sf x es l to [])) ?_) (hc es he (by omega) (by unfold Gr.all;omega) hok);simp[q1];exact .exit rfl rfl
 |succ n ih=>
  intro i hi es l to he hl ht hok hS
  have q1:i<x.ands.length:=by omega
  rw[br q1,c_]at hS;obtain⟨⟨b1,b2⟩,b3,b4⟩:=ok.ands i q1;obtain⟨a,ha⟩:=cS b1;obtain⟨b,hb⟩:=cS b3;rw[ha,hb]at hS;simp only[cZ]at hS
  have q3:x.first+i<x.all:=by unfold Gr.all;omega
  have e1:(x.first:Int)+i=((x.first+i:Nat):Int):=by omega
  rw[bz,a_ (by omega),gZ]at hS;refine .go 60 ?_;simp(disch:=omega) [q1];refine .call 60 (by simp) hfirst ?_
  by_cases hb0:x.aE[x.first+i]=true
  ·rw[if_pos hb0]at hS
   have hx2:a/2<to.length:=by omega
   have hy2:b/2<to.length:=by omega
   have hla:=mJ hok.lt hx2;have hlb:=mJ hok.lt hy2;obtain⟨hlt,hge⟩:=tS hla hlb hf1
   have hto:∀z∈to,z<2^40:=fun z hz=>by have:=hok.lt z hz;omega
   have k1:=ua (Γ:=Γ) to hto a hx2 (by omega) 15 17 (h:=sf x es l to [.cells [.int .i64 a,.int .i64 b]]) rfl rfl (by simp);have k2:=ua (Γ:=Γ) to hto b hy2 (by omega) 15 17 (h:=sf x es l to [.cells [.int .i64 a,.int .i64 b]]) rfl rfl (by simp)
   have hgl:=vQ x.first l (aX to a) (aX to b)
   obtain⟨es',gr,junk,he',hgr,hjk,k3⟩:=Nv (Γ:=Γ) (p:=Fj x) (q:=[.row 1 az (to.map iN) none true false,.cells [.int .i64 a,.int .i64 b]]) (x1:=.sl 6 0 x.next.length) (x2:=.sl 12 0 x.init.length) (x4:=.list true 0 []) (come:=.sl 17 0 to.length)
    ⟨x.ins,x.next,x.init,[],[],1,1,2,0,.self,.self,.self,.nil⟩ o1 (by simp;omega) l (by omega) es he (aX to a) (aX to b) (by omega) (by omega) (fun s=>by simp) (fun s=>by simp) (fun s=>by simp)
   have hfe:(⟨x.ins,x.next,x.init,[],[],1,1,2,0,.self,.self,.self,.nil⟩:Gr).first=x.first:=rfl
   rw[hfe]at k3 he'
   have hh:=ih (i+1) (by omega) es' (bo x.first l (aX to a) (aX to b)).1 (to++[(bo x.first l (aX to a) (aX to b)).2]) he' (by omega) (by simp;omega) ⟨fun z hz=>by
    rcases ba.1 hz with hz|hz
    ·have:=hok.lt z hz;omega
    ·simp at hz;omega⟩ hS
   generalize bo x.first l (aX to a) (aX to b)=r at*
   simp(disch:=omega) [e1,q3,hll,hb0,-Int.natCast_add];refine .dr 60 ?_;simp(disch:=omega) [ha,hb];refine .reach (by simp) k1 ?_;simp(disch:=omega) [ha,hb];refine .reach (by simp) k2 ?_;simp(disch:=omega) [ha,hb];refine .reach (by simp) k3 ?_
   rcases hjk with rfl|⟨jx,jy,rfl⟩
   ·simp(disch:=(first|omega|(simp;omega))) [ha,hb];refine .aT ?_;simp;refine .drop 18 rfl (by simp) (by simp) (by simp) ?_
    have e2:(to.map iN++[AV.int .i64 (r.2:Int)]).length=to.length+1:=by simp
    refine .iF (i:=16) rfl hgr (by simp) (by simp) (by simp) ?_;refine .iF (i:=17) rfl (.inr rfl) (by simp) (by simp) (by rw[e2];simp) ?_;simp at hh⊢;exact hh
   ·simp(disch:=(first|omega|(simp;omega))) [ha,hb];refine .aT ?_;simp;refine .drop 18 rfl (by simp) (by simp) (by simp) ?_
    have e2:(to.map iN++[AV.int .i64 (r.2:Int)]).length=to.length+1:=by simp
    refine .iF (i:=16) rfl hgr (by simp) (by simp) (by simp) ?_;refine .iF (i:=17) rfl (.inr rfl) (by simp) (by simp) (by rw[e2];simp) ?_;simp at hh⊢;exact hh
  ·rw[if_neg hb0]at hS
   have hh:=ih (i+1) (by omega) es l (to++[0]) he (by omega) (by simp;omega) ⟨fun z hz=>by
    rcases ba.1 hz with hz|hz
    ·exact hok.lt z hz
    ·simp at hz;omega⟩ hS
   simp(disch:=(first|omega|(simp;omega))) [e1,q3,hll,hb0,-Int.natCast_add];refine .aT ?_;simp;refine .drop 18 rfl (by simp) (by simp) (by simp) ?_
   have e2:(to.map iN++[AV.int .i64 0]).length=to.length+1:=by simp
   refine .iF (i:=17) rfl (.inr rfl) (by simp) (by simp) (by rw[e2];simp) ?_;simp at hh⊢;exact hh
set_option maxRecDepth 8000 in
theorem aaD(x:Gr)(hstd:x.kn=1/\x.ki=1/\x.ka=2/\x.ko=1)(ok:x.Ok):aB Tryz.prog Γ (.fr ⟨.run,nq,[.code (.seq (.ae Gv) (.seq (.seq (.ae Hv) (.block 2 Bx (.loop BN xb))) (.seq (.ae B5) .ret)))],
 [U,U,.ptr 0 0,U,U,U,U,U,.ptr 5 0,.sl 10 0 x.aE.length]++List.replicate 85 U,[],.norm,0⟩ [] (E_ x)) (.ret (.aL [cg x.dR,.int .i64 0])):=by
 have o1:=ok.ins;have o3:=ok.sum;have o4:=ok.eT;have hs:=hstd;obtain⟨s1,s2,s3,s4⟩:=hs;have hfirst:=re (Γ:=Γ) x o1.1 o1.2 (by omega);rw[cg,s1,s2,s3,s4]at hfirst
 have hfb:x.first<=8001:=by unfold Gr.first;omega
 have hsame:=ok.same;rw[Ac];refine .go 60 ?_;simp;refine .enter 60 I2 ?_;simp;refine .dr 60 ?_;simp;refine .call (by simp) (H9 (Γ:=Γ) x.init (k:=1) .self (by omega)) ?_;simp;refine .reach (by simp) (LX x.ins _ _ (.inr ⟨_,_,_,rfl⟩) (.inr ⟨_,_,_,rfl⟩) _) ?_;simp;refine .call 60 (by simp) hfirst ?_;simp;refine .nA 15 6 1 az rfl rfl (by omega) ?_;simp;refine .inLoop ?_
 have kb:=fun up=>Nc (Γ:=Γ) (Fj x++[.map [] true]) [.row 2 bI [] none true false]
  (.int .i64 x.ins) (.sl 6 0 x.next.length) (.sl 12 0 x.init.length) (.sl 16 0 0) (.list true 0 []) (.mp 14) x.first (by omega) (by intro m;simp) (by intro m;simp) (by intro m;simp) 11 (by simp) up [] rfl x.first 0 (by omega)
 simp[ids]at kb⊢;refine .reach (kb _) ?_;refine .go 60 ?_;simp;refine .inLoop ?_
 generalize hS:c_ x.first x.aE x.ands 0 [] (ids x.first)=r
 obtain⟨l1,to1⟩:=r
 have hL:=aau (Γ:=Γ) x hstd ok (o:=.ret (.aL [cg x.dR,.int .i64 0])) l1 to1 ?_ x.ands.length 0 (by omega) [] [] (ids x.first) (LK _) (aU _) (by simp) ⟨fun z hz=>by
  simp[ids]at hz;obtain⟨a,ha,rfl⟩:=hz;simp;omega⟩ (by simpa using hS)
 ·simp[ids]at hL⊢;exact hL
 intro es he hl1 ht1 hto
 have hn2:x.dR=x.dv (l1,to1):=by unfold Gr.dR;rw[hS]
 have hall:x.all<=12001:=by unfold Gr.all;omega
 have hlits:x.lits=2*x.all:=rfl
 have ht40:∀z∈to1,z<2^40:=fun z hz=>by have:=hto.lt z hz;omega
 have kA:=fun q=>M5 (Γ:=Γ) to1 ht40 x.next (by omega) (fun a ha=>by have:=ok.next a ha;omega) (by omega) 15 17 6 (h:=sf x es l1 to1 (.cells [.int .i64 x.ins,.sl 6 0 x.next.length,.sl 7 0 x.init.length,.sl 8 0 x.ands.length,.sl 9 0 x.outs.length]::.cells [.int .i64 0,.sl 20 0 0,.sl 21 0 0,.sl 22 0 0,.sl 23 0 0]::q)) rfl rfl rfl
 have kB:=fun q=>M5 (Γ:=Γ) to1 ht40 x.outs (by omega) (fun a ha=>by have:=ok.outs a ha;omega) (by omega) 15 17 9 (h:=sf x es l1 to1 (.cells [.int .i64 x.ins,.sl 6 0 x.next.length,.sl 7 0 x.init.length,.sl 8 0 x.ands.length,.sl 9 0 x.outs.length]::.cells [.int .i64 0,.sl 20 0 0,.sl 21 0 0,.sl 22 0 0,.sl 23 0 0]::q)) rfl rfl rfl
 rw[hn2];refine .go 60 ?_;simp;refine .enter 60 Ic ?_;simp;refine .dr 60 ?_;simp;refine .reach (by simp) (kA [.row 1 az [] none true false,.row 1 az [] none true false,.row 2 bI [] none true false,.row 1 az [] none true false] (by intro m;simp)) ?_;simp;refine .reach (by simp) (kB [.row 1 az [] none true false,.row 1 az [] none true false,.row 2 bI [] none true false,.row 1 az [] none true false,.row 1 az [] none true false,.row 1 az ((cd to1 x.next).map iN) none true false] (by intro m;simp)) ?_;simp[Gr.dv];exact .back (by simp)
set_option maxRecDepth 8000 in
theorem abn(g:Gr)(ok:g.Ok)(l1:List (Int×Int))(to1:List Nat)(hx:g.cI=g.dv (l1,to1))(okx:g.cI.Ok)(es:List ((Int×Int)×Nat))(hl1:l1.length<=g.ands.length)(ht1:to1.length=g.all)(hto:lX g.first l1 to1):
 aB Tryz.prog Γ (F5 (.ptr 0 0) (.ptr 1 0) (.ptr 10 0) (qC g es l1 to1 [])) (.ret (.aL [cg g.cI.dR,.int .i64 0])):=by
 have o1:=ok.ins;have o3:=ok.sum;have o4:=ok.eT
 have hfb:g.first<=8001:=by unfold Gr.first;omega
 have hall:g.all<=12001:=by unfold Gr.all;omega
 have hlits:g.lits=2*g.all:=rfl
 have ht40:∀z∈to1,z<2^40:=fun z hz=>by have:=hto.lt z hz;omega
 have kA:=fun q=>NM (Γ:=Γ) to1 ht40 g.next g.hn (by omega) (fun a ha=>by have:=ok.next a ha;omega) (by omega) 10 12 (h:=qC g es l1 to1 (jo g::.cells [.int .i64 0,.sl 15 0 0,.sl 16 0 0,.sl 17 0 0,.sl 18 0 0]::q)) rfl rfl
 have kB:=fun q=>NM (Γ:=Γ) to1 ht40 g.outs g.ho (by omega) (fun a ha=>by have:=ok.outs a ha;omega) (by omega) 10 12 (h:=qC g es l1 to1 (jo g::.cells [.int .i64 0,.sl 15 0 0,.sl 16 0 0,.sl 17 0 0,.sl 18 0 0]::q)) rfl rfl
 refine .go 60 ?_;simp;refine .enter 60 Ic ?_;simp;refine .dr 60 ?_;simp;refine .reach (by simp) (kA [.row 1 az [] none true false,.row 1 az [] none true false,.row 2 bI [] none true false,.row 1 az [] none true false] (by intro m;simp)) ?_;simp;refine .reach (by simp) (kB [.row 1 az [] none true false,.row 1 az [] none true false,.row 2 bI [] none true false,.row 1 az [] none true false,.row 1 az [] none true false,.row 1 az ((cd to1 g.next).map iN) none true false] (by intro m;simp)) ?_;simp
 have ex:cg g.cI=.agg [.int .i64 g.ins,.list false 1 ((cd to1 g.next).map iN),.list false 1 (g.init.map i64),.list false 2 (l1.map cy),.list false 1 ((cd to1 g.outs).map iN)]:=by
  rw[hx];simp[Gr.dv]
 have hled:=VV (Γ:=Γ) g.cI okx;rw[ex]at hled;refine .call 3 (by simp) hled ?_;simp;refine .nS [1,5,49,50,51,52,53] ?_;simp;refine .gc 0 [1,2,3,4,5,23,20,7,11,22,28] (by simp) (by decide) ?_;have hh:=aaD (Γ:=Γ) g.cI ⟨by rw[hx];rfl,by rw[hx];rfl,by rw[hx];rfl,by rw[hx];rfl⟩ okx;simp[E_,hx,Gr.dv]at hh⊢;exact hh
set_option maxRecDepth 8000 in
theorem Ix(g:Gr)(hf:g.dJ):aN Tryz.prog Γ nq [cg g] (.aL [cg g.normal,.int .i64 g.check]):=by
 refine .run 60 Tb (by simp) ?_;simp;refine .call 60 (by simp) (IK g hf) ?_
 by_cases hc:g.check=0
 ·have ok:=Gr.lH hc;have o1:=ok.ins;have o3:=ok.sum;have o4:=ok.eT;have hfirst:=re (Γ:=Γ) g o1.1 o1.2 (by omega)
  have hn0:g.normal=g.cI.dR:=by unfold Gr.normal;rw[if_pos hc]
  rw[hn0];simp[hc];refine .enter 60 I2 ?_;simp;refine .dr 60 ?_;simp;refine .call (by simp) (H9 (Γ:=Γ) g.init g.hi hf.2.1) ?_;simp;refine .reach (by simp) (LX g.ins _ _ (.inl ⟨_,_,_,rfl⟩) (.inr ⟨_,_,_,rfl⟩) _) ?_;simp;refine .call 60 (by simp) hfirst ?_;simp;refine .nA 10 6 1 az rfl rfl (by omega) ?_;simp;refine .inLoop ?_
  have hfb:g.first<=8001:=by unfold Gr.first;omega
  have kb:=fun up=>Nc (Γ:=Γ) [jo g,.cells [.int .i64 0,.sl 2 0 0,.sl 3 0 0,.sl 4 0 0,.sl 5 0 0],.row 1 az [] none true false,.row 1 az [] none true false,.row 2 bI [] none true false,.row 1 az [] none true false,
   jo g,.row 1 az (g.init.map i64) none true false,.cells [.int .i64 g.ins,.list false g.kn (g.next.map i64),.sl 7 0 g.init.length,.list true 0 [],.list true 0 []],.map [] true] [.row 2 bI [] none true false]
   (.int .i64 g.ins) (.list false g.kn (g.next.map i64)) (.sl 7 0 g.init.length) (.sl 11 0 0) (.list true 0 []) (.mp 9) g.first (by omega) (by intro m;simp) (by intro m;simp) (by intro m;simp) 6 (by simp) up [] rfl g.first 0 (by omega)
  simp[ids]at kb⊢;refine .reach (kb _) ?_;refine .go 60 ?_;simp;refine .inLoop ?_;obtain⟨okx,_,hlen⟩:=Ae ok
  have hS:fu g.first g.ands [] (ids g.first)=((fu g.first g.ands [] (ids g.first)).1,(fu g.first g.ands [] (ids g.first)).2):=rfl
  have hL:=Zi (Γ:=Γ) g ok (o:=.ret (.aL [cg g.cI.dR,.int .i64 0])) _ _ hS (fun es he hl1 ht1 hto=>abn g ok _ _ rfl okx es hl1 ht1 hto) g.ands.length 0 (by omega) [] [] (ids g.first) (LK _) (aU _) (by simp) (Av _) (by simp);simp[ids]at hL⊢;exact hL
 ·have hn0:g.normal=kW:=by unfold Gr.normal;rw[if_neg hc]
  rw[hn0];simp[hc,kW];exact .back (by simp)
@[simp] theorem asw(n:Nat):((60:Int)<n)=(60<n):=propext (by omega)
@[simp] theorem asz(n:Nat):((n:Int)<=60)=(n<=60):=propext (by omega)
@[simp] theorem ass(n:Nat):((n:Int)<=40)=(n<=40):=propext (by omega)
def Gr.AR(g:Gr):Bool:=(decide (g.ins<=100)||decide (4000<g.ins))&&decide (g.next.length<=40)&&decide (g.init.length<=40)&&decide (g.ands.length<=60)&&decide (g.outs.length<=60)
theorem WD(g:Gr):aN Tryz.prog Γ zk [cg g] (.bool g.AR):=by
 refine .run 60 WR (by simp) ?_;unfold Gr.AR
 by_cases h1:g.ins<=100<;>by_cases h2:4000<g.ins<;>by_cases h3:g.next.length<=40<;>by_cases h4:g.init.length<=40<;>by_cases h5:g.ands.length<=60<;>simp[h1,h2,h3,h4,h5]<;>exact .back (by simp)
theorem Gr.Ok.dJ{g:Gr}(h:g.Ok):g.dJ:=by
 have h1:=h.ins;have h2:=h.sum;have h3:=h.eT;have h4:=h.same
 unfold Gr.dJ;omega
theorem Zv:kW.dJ:=by unfold Gr.dJ kW;decide
end Go.Proofs.YtchjijfjidlpjaaGreatDoor
namespace Go.Proofs.YtchjijfjidlpjaaGreatDoor
open Go.AM Go.Proofs
def eZ(h:List Ob):Prop:=∀m,h.length<=m->dS m h=true
theorem K7{m:Nat}{o:Ob}(ho:mZ m o=true):∀{h:List Ob}(i:Nat),dS m h=true->dS m (h.set i o)=true
 |[],i,h1=>h1
 |o'::h,0,h1=>by
  simp only[dS,aC,xj]at h1⊢;exact⟨ho,h1.2⟩
 |o'::h,i+1,h1=>by
  simp only[dS,aC,uP]at h1⊢;exact⟨h1.1,K7 ho i h1.2⟩
theorem eZ.set{h:List Ob}(hw:eZ h){o:Ob}(hb:∀m,h.length<=m->mZ m o=true)(i:Nat):eZ (h.set i o):=fun m hm=>by
 rw[kp]at hm;exact K7 (hb m hm) i (hw m hm)
def FW(h:List Ob):Prop:=∀i m,h.length<=i->ew i m h=true
end Go.Proofs.YtchjijfjidlpjaaGreatDoor
namespace Go.Proofs.YtchjijfjidlpjaaGreatDoor
open Go.AM Go.Proofs
variable{Γ:Nat->Option AV}
def gS(x:Gr)(p q:Nat):Gr×Option Nat:=if x.qB p q=0 then(x.iQ p q,some (x.pk p q))else(x,none)
def nJ(turn:Nat):Gr->Nat->List Nat->Gr×Option Nat
 |x,c,[]=>(x,some c)
 |x,c,a::l=>match gS x c (a^^^turn)with
  |(y,some d)=>nJ turn y d l
  |(y,none)=>(y,none)
def qt(turn:Nat)(x:Gr)(l:List Nat):Gr×Option Nat:=match l with
 |[]=>(x,some 0)
 |a::r=>nJ turn x (a^^^turn) r
structure fA(x y:Gr):Prop where
 ok:y.Ok
 ins:y.ins=x.ins
 next:y.next=x.next
 init:y.init=x.init
 outs:y.outs=x.outs
 ands:∃e,y.ands=x.ands++e
theorem fA.refl{x:Gr}(ok:x.Ok):fA x x:=⟨ok,rfl,rfl,rfl,rfl,[],by simp⟩
theorem fA.trans{x y z:Gr}(h:fA x y)(h2:fA y z):fA x z:=by
 obtain⟨e,he⟩:=h.ands;obtain⟨e2,he2⟩:=h2.ands;exact⟨h2.ok,h2.ins.trans h.ins,h2.next.trans h.next,h2.init.trans h.init,h2.outs.trans h.outs,e++e2,by rw[he2,he,c8]⟩
theorem fA.first{x y:Gr}(h:fA x y):y.first=x.first:=by unfold Gr.first;rw[h.ins,h.next]
theorem fA.lits{x y:Gr}(h:fA x y):x.lits<=y.lits:=by
 obtain⟨e,he⟩:=h.ands;unfold Gr.lits Gr.all
 rw[h.first,he,bp];omega
theorem Wb{x y:Gr}{p q d:Nat}(h:gS x p q=(y,some d)):x.qB p q=0/\y=x.iQ p q/\d=x.pk p q:=by
 unfold gS at h
 split at h
 ·rename_i e;cases h;exact⟨e,rfl,rfl⟩
 ·cases h
theorem ta{x:Gr}(ok:x.Ok){p q:Nat}{y:Gr}{r:Option Nat}(h:gS x p q=(y,r)):fA x y/\∀d,r=some d->d<y.lits:=by
 unfold gS at h
 split at h
 ·rename_i e
  cases h
  have a:=NF e
  obtain⟨e1,he1⟩:=D3 x.first x.ands p q
  refine⟨⟨a.wT,by rw[a.R],by rw[a.R],by rw[a.R],by rw[a.R],e1,by rw[a.R];simpa using he1⟩,fun d hd=>by cases hd;exact a.lt⟩
 ·cases h
  exact⟨.refl ok,fun d hd=>by cases hd⟩
theorem I4(turn:Nat):∀(l:List Nat)(x:Gr)(c:Nat),x.Ok->c<x.lits->fA x (nJ turn x c l).1/\∀d,(nJ turn x c l).2=some d->d<(nJ turn x c l).1.lits
 |[],x,c,ok,hc=>⟨.refl ok,fun d hd=>by cases hd;exact hc⟩
 |a::l,x,c,ok,hc=>by
  rw[nJ]
  cases h:gS x c (a^^^turn)with
  |mk y r=>
   obtain⟨g1,g2⟩:=ta ok h
   cases r with
   |none=>exact⟨g1,fun d hd=>by cases hd⟩
   |some d=>
    obtain⟨h1,h2⟩:=I4 turn l y d g1.ok (g2 d rfl);exact⟨g1.trans h1,h2⟩
theorem Mi{a n:Nat}(h:a<2*n):a^^^1<2*n:=by
 have h2:(a^^^1)/2=a/2:=by
  have:=Nat.xor_div_two (a:=a) (b:=1);simpa using this
 omega
theorem v7{a t n:Nat}(ht:t<=1)(h:a<2*n):a^^^t<2*n:=by
 obtain rfl|rfl:t=0\/t=1:=by omega
 ·simpa using h
 ·exact Mi h
def iT{α β:Type}(f:α->β)(r:Gr×Option α):Gr×Option β:=(r.1,r.2.map f)
def nN{α β:Type}(r:Gr×Option α)(f:Gr->α->Gr×Option β):Gr×Option β:=match r with
 |(y,some a)=>f y a
 |(y,none)=>(y,none)
def Fz(x:Gr)(c a:Nat):Gr×Option Nat:=nN (gS x c (a^^^1)) fun y p=>nN (gS y (c^^^1) a) fun z q=>iT (·^^^1) (gS z (p^^^1) (q^^^1))
def ud:Gr->Nat->List Nat->Gr×Option Nat
 |x,c,[]=>(x,some c)
 |x,c,a::l=>nN (Fz x c a) fun y d=>ud y d l
def Fq(x:Gr)(l:List Nat):Gr×Option Nat:=match l with
 |[]=>(x,some 0)
 |a::r=>ud x a r
def iW(x:Gr)(r:Gr×Option Nat):Prop:=fA x r.1/\∀d,r.2=some d->d<r.1.lits
theorem DM{x:Gr}(ok:x.Ok)(p q:Nat):iW x (gS x p q):=ta ok (y:=(gS x p q).1) (r:=(gS x p q).2) rfl
theorem iW.A3{x:Gr}{r:Gr×Option Nat}(h:iW x r){t:Nat}(ht:t<=1):iW x (iT (·^^^t) r):=⟨h.1,fun d hd=>by
 simp only[iT,bN]at hd;obtain⟨a,ha,rfl⟩:=hd
 exact v7 ht (h.2 a ha)⟩
theorem iW.then{x:Gr}{r:Gr×Option Nat}{f:Gr->Nat->Gr×Option Nat}(h:iW x r)(hf:∀y d,fA x y->d<y.lits->iW y (f y d)):iW x (nN r f):=by
 obtain⟨y,o⟩:=r
 cases o with
 |none=>exact⟨h.1,fun d hd=>by cases hd⟩
 |some d=>
  have:=hf y d h.1 (h.2 d rfl);exact⟨h.1.trans this.1,this.2⟩
theorem Kf{x:Gr}(ok:x.Ok)(c a:Nat):iW x (Fz x c a):=
 (DM ok _ _).then fun y p g1 _=>(DM g1.ok _ _).then fun z q g2 _=>(DM g2.ok _ _).A3 (aU 1)
theorem JA:∀(l:List Nat)(x:Gr)(c:Nat),x.Ok->c<x.lits->iW x (ud x c l)
 |[],x,c,ok,hc=>⟨.refl ok,fun d hd=>by cases hd;exact hc⟩
 |a::l,x,c,ok,hc=>(Kf ok c a).then fun y d g hd=>JA l y d g.ok hd
theorem Vk(turn:Nat)(l:List Nat)(x:Gr)(c:Nat)(ok:x.Ok)(hc:c<x.lits):iW x (nJ turn x c l):=I4 turn l x c ok hc
theorem zW(x:Gr):0<x.lits:=by unfold Gr.lits Gr.all Gr.first;omega
theorem y6{turn:Nat}(ht:turn<=1){x:Gr}(ok:x.Ok){l:List Nat}(hl:∀a∈l,a<x.lits):iW x (qt turn x l):=by
 cases l with
 |nil=>exact⟨.refl ok,fun d hd=>by cases hd;exact zW x⟩
 |cons a r=>exact Vk turn r x _ ok (v7 (n:=x.all) ht (hl a (by simp)))
theorem UM{x:Gr}(ok:x.Ok){l:List Nat}(hl:∀a∈l,a<x.lits):iW x (Fq x l):=by
 cases l with
 |nil=>exact⟨.refl ok,fun d hd=>by cases hd;exact zW x⟩
 |cons a r=>exact JA r x _ ok (hl a (by simp))
theorem wa{x:Gr}(ok:x.Ok):x.lits<=2^14:=by
 have h1:=ok.ins;have h2:=ok.sum
 unfold Gr.lits Gr.all Gr.first
 omega
abbrev Bs:=List UInt8
structure Lt where
 name:Bs
 next:Bs
 init:Int
 deriving DecidableEq
abbrev na(q:Lt):AV:=.agg [.str q.name,.str q.next,.int .i64 q.init]
structure Gt where
 name:Bs
 op:Int
 ins:List Bs
 rows:List Bs
 off:Bool
 ki:Nat
 kr:Nat
 hi:Kd 1 ki ins
 hr:Kd 1 kr rows
abbrev ez(g:Gt):AV:=.agg [.str g.name,.int .i64 g.op,.list false g.ki (g.ins.map .str),.list false g.kr (g.rows.map .str),.bool g.off]
structure Ct where
 ak:List Bs
 aq:List Bs
 ai:List Lt
 af:List Gt
 kI:Nat
 kO:Nat
 kL:Nat
 kG:Nat
 hI:Kd 1 kI ak
 hO:Kd 1 kO aq
 hL:Kd 3 kL ai
 hG:Kd 5 kG af
abbrev dT(c:Ct):AV:=.agg [.list false c.kI (c.ak.map .str),.list false c.kO (c.aq.map .str),.list false c.kL (c.ai.map na),.list false c.kG (c.af.map ez)]
theorem Dy(a b:Lt):bU (.gQ [.str,.str,.int]) (na a) (na b)=some (decide (a=b)):=by
 obtain⟨n,x,i⟩:=a;obtain⟨m,y,j⟩:=b;simp only[bU,cz,c9,fN,eD,Lt.mk.injEq]
 cases h1:(n==m)
 ·have:=u5.1 h1;simp[this]
 ·have e1:=eq_of_beq h1
  cases h2:(x==y)
  ·have:=u5.1 h2;simp[this]
  ·have e2:=eq_of_beq h2
   cases h3:(i==j)
   ·have:=u5.1 h3;simp[this]
   ·have e3:=eq_of_beq h3;simp[e1,e2,e3]
def AF(g:Gt):Prop:=g.name.length<2^40/\g.ins.length<2^10/\g.rows.length<2^10/\(∀s∈g.ins,s.length<2^40)/\∀s∈g.rows,s.length<2^40
def eP(c:Ct):Prop:=c.ak.length<2^10/\c.aq.length<2^10/\c.ai.length<2^10/\c.af.length<2^10/\(∀g∈c.af,AF g)/\
 (∀s∈c.ak,s.length<2^40)/\(∀s∈c.aq,s.length<2^40)/\∀q∈c.ai,q.name.length<2^40/\q.next.length<2^40
theorem E9{α β:Type}(a:List β)(f:α->β)(l:List α){i:Nat}(h:i<l.length):a++(l.drop i).map f=a++[f l[i]]++(l.drop (i+1)).map f:=by
 rw[br h,cv,c8];rfl
def bt(c:Ct):List Bs:=c.ak++c.ai.map (·.name)++c.af.map (·.name)
structure Fm where
 kind:Int
 lit:Int
 kids:Int
 deriving DecidableEq
end Go.Proofs.YtchjijfjidlpjaaGreatDoor
