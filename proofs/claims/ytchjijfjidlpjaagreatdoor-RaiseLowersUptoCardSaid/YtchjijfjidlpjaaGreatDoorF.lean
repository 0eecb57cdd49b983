/- A list's elements' size. -/
import Derived.Test.YtchjijfjidlpjaaGreatDoorAMd
import Derived.Test.YtchjijfjidlpjaaGreatDoorCode
set_option linter.unusedSimpArgs false
set_option linter.unusedVariables false
namespace Go.Proofs.YtchjijfjidlpjaaGreatDoor
set_option maxRecDepth 20000
open Go.AM Go.Proofs
def Kd(n k:Nat){α:Type}(l:List α):Prop:=k=n\/l=[]
theorem Kd.of{n k:Nat}{α:Type}{l:List α}(h:Kd n k l){i:Nat}(hi:i<l.length):k=n:=by
 rcases h with h|h
 ·exact h
 ·subst h;simp at hi
theorem Kd.self{n:Nat}{α:Type}{l:List α}:Kd n n l:=.inl rfl
theorem Kd.nil{n k:Nat}{α:Type}:Kd n k ([]:List α):=.inr rfl
@[simp] abbrev i64(n:Int):AV:=.int .i64 n
abbrev iN(n:Nat):AV:=.int .i64 (n:Int)
variable{Γ:Nat->Option AV}
theorem M_(a b:List Bool){ka kb:Nat}(ha:Kd 1 ka a)(hb:Kd 1 kb b)(hs:a.length<2^60):aQ ak Γ zw [.list false ka (a.map .bool),.list false kb (b.map .bool)] (.bool (decide (a=b))):=by
 refine .run 60 acb.1 (by simp) ?_
 by_cases hl:a.length=b.length
 ·have key:∀n i:Nat,i+n=a.length->aA ak Γ (yfc (.list false ka (a.map .bool)) (.list false kb (b.map .bool)) (.int .i64 i) []) (.ret (.bool (decide (a.drop i=b.drop i)))):=by
   intro n
   induction n with
   |zero=>
    intro i hi;refine .go 60 ?_
    have h1:¬i<a.length:=by omega
    have h2:a.drop i=b.drop i:=by rw[bx (by omega),bx (by omega)]
    simp[h1,h2];exact .back (by simp)
   |succ n ih=>
    intro i hi
    have h1:i<a.length:=by omega
    have h2:i<b.length:=by omega
    obtain rfl:=ha.of h1;obtain rfl:=hb.of h2;have h4:=drop_eq h1 h2;refine .go 60 ?_
    by_cases h3:a[i]=b[i]
    ·simp(disch:=omega) [h1,h2,h3,h4];refine .aI ?_;simpa using ih (i+1) (by omega)
    ·simp(disch:=omega) [h1,h2,h3,h4];exact .back (by simp)
  simp[hl];refine .inLoop ?_;simpa[hl]using key a.length 0 (by omega)
 ·have h2:¬a=b:=fun e=>hl (by rw[e])
  simp[hl,h2];exact .back (by simp)
theorem FJ(a b:List Int){ka kb:Nat}(ha:Kd 1 ka a)(hb:Kd 1 kb b)(hs:a.length<2^60):aQ ak Γ vm [.list false ka (a.map i64),.list false kb (b.map i64)] (.bool (decide (a=b))):=by
 refine .run 60 Y6.1 (by simp) ?_
 by_cases hl:a.length=b.length
 ·have key:∀n i:Nat,i+n=a.length->aA ak Γ (ysR (.list false ka (a.map i64)) (.list false kb (b.map i64)) (.int .i64 a.length) (.int .i64 i) []) (.ret (.bool (decide (a.drop i=b.drop i)))):=by
   intro n
   induction n with
   |zero=>
    intro i hi;refine .go 60 ?_
    have h1:¬i<a.length:=by omega
    have h2:a.drop i=b.drop i:=by rw[bx (by omega),bx (by omega)]
    simp[h1,h2];exact .back (by simp)
   |succ n ih=>
    intro i hi
    have h1:i<a.length:=by omega
    have h2:i<b.length:=by omega
    obtain rfl:=ha.of h1;obtain rfl:=hb.of h2;have h4:=drop_eq h1 h2;refine .go 60 ?_
    by_cases h3:a[i]=b[i]
    ·simp(disch:=omega) [h1,h2,h3,h4];refine .aI ?_;simpa using ih (i+1) (by omega)
    ·simp(disch:=omega) [h1,h2,h3,h4];exact .back (by simp)
  simp[hl];refine .inLoop ?_;simpa[hl]using key a.length 0 (by omega)
 ·have h2:¬a=b:=fun e=>hl (by rw[e])
  simp[hl,h2];exact .back (by simp)
theorem aal{φ:List Ob->Prop}{f:FuncId}{caps:List AV}{p:Int->Bool}{l:List Int}{k:Nat}{fl:Bool}(ha:jJ Tryz.prog Γ φ f caps i64 p l)(hk:Kd 1 k l)(hs:l.length<2^60){h:List Ob}(hφ:φ h):
 ∀up,AM.Reach ak Γ (.cl BI [.list fl k (l.map i64),.fn (.func f) [] caps] up h) (.back up (.int .i64 (fG p l 0)) h):=by
 intro up
 have key:∀n i:Nat,i+n=l.length->AM.Reach ak Γ (yzu (.list fl k (l.map i64)) (.fn (.func f) [] caps) (.int .i64 l.length) (.int .i64 i) h ⟨[],.norm,h.length,up⟩) (.back up (.int .i64 (fG p (l.drop i) i)) h):=by
  intro n
  induction n with
  |zero=>
   intro i hi
   have h1:¬i<l.length:=by omega
   refine .aY 60 ?_;rw[bx (by omega)];simp[h1,fG]
  |succ n ih=>
   intro i hi
   have h1:i<l.length:=by omega
   obtain rfl:=hk.of h1;have h2:=ha.2 l[i] (bA h1);rw[bJ h1,fG];have hh:=ih (i+1) (by omega);refine .aY 60 ?_;simp[h1,ha.1];refine .aX 60 (fun up=>h2 up h hφ) ?_
   cases hp:p l[i]with
   |true=>simp(disch:=omega) [hp]
   |false=>
    simp(disch:=omega) [hp];refine .aI ?_;simp at hh⊢;exact hh
 refine .bp 60 YV.1 ?_;simp;refine .inLoop ?_;have hh:=key l.length 0 (by omega);simp at hh⊢;exact hh
theorem FX{φ:List Ob->Prop}{f:FuncId}{caps:List AV}{p:Int->Bool}{l:List Int}{k:Nat}{fl:Bool}(ha:jJ Tryz.prog Γ φ f caps i64 p l)(hk:Kd 1 k l)(hs:l.length<2^60){h:List Ob}(hφ:φ h):
 ∀up,AM.Reach ak Γ (.cl xU [.list fl k (l.map i64),.fn (.func f) [] caps] up h) (.back up (.bool (bE p l)) h):=by
 intro up;refine .bp 60 YF.1 ?_;simp;refine .aX 60 (aal ha hk hs hφ) ?_;have h1:=Dh p l 0
 cases hp:bE p l with
 |true=>rw[hp]at h1;simp at h1;simp[h1]
 |false=>
  rw[hp]at h1
  have h2:¬0<=fG p l 0:=by rw[h1];simp
  simp[h2]
structure Gr where
 ins:Int
 next:List Int
 init:List Int
 ands:List (Int×Int)
 outs:List Int
 kn:Nat
 ki:Nat
 ka:Nat
 ko:Nat
 hn:Kd 1 kn next
 hi:Kd 1 ki init
 ha:Kd 2 ka ands
 ho:Kd 1 ko outs
abbrev dA(p:Int×Int):AV:=.agg [.int .i64 p.1,.int .i64 p.2]
abbrev fJ(g:Gr):AV:=.agg [.int .i64 g.ins,.list false g.kn (g.next.map i64),.list false g.ki (g.init.map i64),.list false g.ka (g.ands.map dA),.list false g.ko (g.outs.map i64)]
def Gr.iU(g:Gr):Prop:=g.next.length<2^40/\g.init.length<2^40/\g.ands.length<2^40/\g.outs.length<2^40
def eZ(n:Int)(a:Int):Bool:=decide (a<0)||decide (n<=a)
def uN(a:Int):Bool:=decide (a<0)||decide (2<a)
def oY:List (Int×Int)->Nat->Bool
 |[],_=>false
 |p::ps,n=>eZ (2*n) p.1||eZ (2*n) p.2||oY ps (n+1)
def Gr.first(g:Gr):Nat:=1+g.ins.toNat+g.next.length
def Gr.all(g:Gr):Nat:=g.first+g.ands.length
def Gr.lits(g:Gr):Nat:=2*g.all
def Gr.nz(g:Gr):Bool:=decide (g.ins<0)||decide (4000<g.ins)||decide (4000<g.ins+g.next.length+g.ands.length)||decide (4000<g.outs.length)
def Gr.check(g:Gr):Int:=
 if g.nz=true then 8 else if(!decide (g.init.length=g.next.length)||bE uN g.init||bE (eZ g.lits) g.next||bE (eZ g.lits) g.outs||oY g.ands g.first)=true then 1 else 0
theorem Sp{g:Gr}(h:g.nz=false):0<=g.ins/\g.ins<=4000/\g.ins+g.next.length+g.ands.length<=4000/\g.outs.length<=4000:=by
 simp only[Gr.nz,lx,jB]at h;omega
theorem sj(g:Gr)(h0:0<=g.ins)(h1:g.ins<=4000)(h2:g.next.length<=4000):aQ ak Γ nF [fJ g] (.int .i64 g.first):=by
 refine .run 60 Nt.1 (by simp) ?_
 have e1:1+g.ins+(g.next.length:Int)=(g.first:Int):=by unfold Gr.first;omega
 simp(disch:=omega) [e1];exact .back (by simp)
theorem SZ(i:Nat)(all:Nat)(l:List Int):jJ Tryz.prog Γ (fun h=>h[i]? =some (.cells [.int .i64 all])) Gi [.ptr i 0] i64 (eZ all) l:=by
 refine⟨by simp,fun x _ up h hφ=>?_⟩;refine .bp 60 abc.1 ?_;unfold eZ
 by_cases h1:x<0
 ·simp[hφ,h1]
 ·simp[hφ,h1]
theorem akJ(l:List Int):jJ Tryz.prog Γ (fun _=>True) Gm [] i64 uN l:=by
 refine⟨by simp,fun x _ up h hφ=>?_⟩;refine .bp 60 aaQ.1 ?_;unfold uN
 by_cases h1:x<0
 ·simp[h1]
 ·simp[h1]
theorem ad0{l:List (Int×Int)}{i:Nat}(h:i<l.length)(n:Nat):oY (l.drop i) n=(eZ (2*n) l[i].1||eZ (2*n) l[i].2||oY (l.drop (i+1)) (n+1)):=by
 rw[bJ h,oY]
theorem vE(g:Gr)(hf:g.iU):aQ ak Γ tU [fJ g] (.int .i64 g.check):=by
 obtain⟨f1,f2,f3,f4⟩:=hf;refine .run 60 acH.1 (by simp) ?_;unfold Gr.check
 cases hl:g.nz with
 |true=>
  simp only[cE];unfold Gr.nz at hl
  by_cases c1:g.ins<0
  ·simp[c1];exact .back (by simp)
  by_cases c2:4000<g.ins
  ·simp[c1,c2];exact .back (by simp)
  by_cases c3:4000<g.ins+g.next.length+g.ands.length
  ·simp(disch:=omega) [c1,c2,c3];exact .back (by simp)
  have c4:(4000:Int)<g.outs.length:=by
   simp only[c1,c2,c3,nD,pr,bj]at hl;omega
  simp(disch:=omega) [c1,c2,c3,c4];exact .back (by simp)
 |false=>
  obtain⟨l1,l2,l3,l4⟩:=Sp hl
  have c1:¬g.ins<0:=by omega
  have c2:¬4000<g.ins:=by omega
  have c3:¬4000<g.ins+g.next.length+g.ands.length:=by omega
  have c4:¬(4000:Int)<g.outs.length:=by omega
  have h2:=sj (Γ:=Γ) g l1 l2 (by omega)
  have e1:(g.first:Int)+g.ands.length=g.all:=by unfold Gr.all;omega
  have e2:2*(g.all:Int)=g.lits:=by unfold Gr.lits;omega
  have hv:g.first<=8001:=by unfold Gr.first;omega
  have hb:g.all<=12001:=by unfold Gr.all;omega
  simp(disch:=omega) [c1,c2,c3,c4];refine .dr 60 ?_;simp;refine .quiet h2 (fun _=>rfl) (by simp) ?_;simp(disch:=omega) [e1,e2]
  by_cases d1:g.init.length=g.next.length
  ·simp[d1];refine .aX 60 (FX (akJ g.init) g.hi (by omega) (by trivial)) ?_
   cases d2:bE uN g.init with
   |true=>simp;exact .back (by simp)
   |false=>
    simp;refine .aX 60 (FX (SZ 1 g.lits g.next) g.hn (by omega) (by simp)) ?_
    cases d3:bE (eZ g.lits) g.next with
    |true=>simp;exact .back (by simp)
    |false=>
     simp;refine .aX 60 (FX (SZ 1 g.lits g.outs) g.ho (by omega) (by simp)) ?_
     cases d4:bE (eZ g.lits) g.outs with
     |true=>simp;exact .back (by simp)
     |false=>
      simp;refine .inLoop ?_;simp
      have key:∀n i:Nat,i+n=g.ands.length->aA ak Γ (yoE (.ptr 0 0) (.list false g.ka (g.ands.map dA)) (.int .i64 g.ands.length) (.int .i64 i)
       [.cells [.int .i64 g.ins,.list false g.kn (g.next.map i64),.list false g.ki (g.init.map i64),.list false g.ka (g.ands.map dA),.list false g.ko (g.outs.map i64)],.cells [.int .i64 g.lits]]) (.ret (.int .i64 (if oY (g.ands.drop i) (g.first+i)=true then 1 else 0))):=by
       intro n
       induction n with
       |zero=>
        intro i hi
        have q1:¬i<g.ands.length:=by omega
        refine .go 60 ?_;rw[bx (by omega)];simp[q1,oY];exact .back (by simp)
       |succ n ih=>
        intro i hi
        have q1:i<g.ands.length:=by omega
        have q2:=bG (g.ha.of q1);have hh:=ih (i+1) (by omega)
        have q3:2*((g.first:Int)+i)=((2*(g.first+i):Nat):Int):=by omega
        rw[ad0 q1];unfold eZ;refine .go 60 ?_;simp(disch:=omega) [q1,q2];refine .call 60 (by simp) h2 ?_
        by_cases r1:g.ands[i].1<0
        ·simp(disch:=omega) [r1];exact .back (by simp)
        by_cases r2:g.ands[i].2<0
        ·simp(disch:=omega) [r1,r2];exact .back (by simp)
        by_cases r3:2*((g.first:Int)+i)<=g.ands[i].1
        ·simp(disch:=omega) [r1,r2,r3];exact .back (by simp)
        by_cases r4:2*((g.first:Int)+i)<=g.ands[i].2
        ·simp(disch:=omega) [r1,r2,r3,r4];exact .back (by simp)
        simp(disch:=omega) [r1,r2,r3,r4];refine .aI ?_;simp;refine .drop 2 rfl (by simp) (by simp) (by simp) ?_;simp at hh⊢;rw[show g.first+(i+1)=g.first+i+1 by omega]at hh;exact hh
      have hh:=key g.ands.length 0 (by omega);simp at hh⊢;exact hh
  ·simp[d1];exact .back (by simp)
def bZ(v:List Bool)(a:Nat):Bool:=v.getD (a/2) false !=decide (a%2=1)
abbrev pS(x:Nat×List Bool):AV:=.list false x.1 (x.2.map AV.bool)
def db:List (Nat×List Bool)->List Bool
 |[]=>[]
 |x::xs=>x.2++db xs
theorem Nv(a b:List (Nat×List Bool)):db (a++b)=db a++db b:=by
 induction a with
 |nil=>rfl
 |cons x a ih=>simp[db,ih]
theorem Pw(xs:List (Nat×List Bool))(i:Nat)(h:i<xs.length):db (xs.take (i+1))=db (xs.take i)++xs[i].2:=by
 rw[iA h,Nv];simp[db]
theorem Rc(xs:List (Nat×List Bool))(i:Nat):(db (xs.take i)).length<=(db xs).length:=by
 conv=>rhs;rw[<-lY i xs,Nv]
 simp
theorem YX(xs:List (Nat×List Bool))(hk:∀x∈xs,Kd 1 x.1 x.2)(hn:xs.length<2^40)(hs:(db xs).length<2^40)(hp:0<(db xs).length):
 aQ ak Γ tK [.list false 1 (xs.map pS)] (.own 1 bT ((db xs).map AV.bool)):=by
 refine .run 60 Mn.1 (by simp) ?_
 have hv:∀n i:Nat,i+n=xs.length->∀m:Nat,(db (xs.take i)).length+m=(db xs).length->
  aA ak Γ (Uh (.sl 2 0 (db (xs.take i)).length) (.list false 1 (xs.map pS)) (.int .i64 xs.length) (.int .i64 i) [.row 1 bT [] none true false,.row 1 bT [] none true false,.row 1 bT ((db (xs.take i)).map AV.bool++List.replicate m (AV.bool false)) none true false])
   (.ret (.own 1 bT ((db xs).map AV.bool))):=by
  intro n
  induction n with
  |zero=>
   intro i hi m hm
   have q1:¬i<xs.length:=by omega
   have q2:xs.take i=xs:=cj (by omega);rw[q2]at hm⊢
   have hb:m=0:=by omega
   subst hb;refine .go 60 ?_;simp[q1];exact .back (by simp)
  |succ n ih=>
   intro i hi m hm
   have q1:i<xs.length:=by omega
   have q2:=Pw xs i q1;have q3:=Rc xs (i+1);rw[q2,bC]at q3;have q4:=hk xs[i] (bA q1);have q5:xs[i].1=1\/xs[i].2=[]:=q4;have hh:=ih (i+1) (by omega) (m-xs[i].2.length) (by rw[q2,bC];omega);rw[q2]at hh
   have hd:(List.replicate m (AV.bool false)).drop xs[i].2.length=List.replicate (m-xs[i].2.length) (AV.bool false):=by simp
   refine .go 60 ?_
   by_cases q6:(db (xs.take i)).length=(db xs).length
   ·have q7:xs[i].2=[]:=lq.1 (by omega)
    have hb:m=0:=by omega
    subst hb;simp[q7]at hh;simp(disch:=(first|omega|(simp;omega))) [q1,q5,q7];refine .aI ?_;simp;exact hh
   ·simp(disch:=(first|omega|(simp;omega))) [q1,q5]
    by_cases q7:m=0
    ·omega
    ·have c1:¬(db (List.take i xs)).length=(db (List.take i xs)).length+m:=by omega
     have c2:(db (List.take i xs)).length+xs[i].snd.length<=(db (List.take i xs)).length+m:=by omega
     simp(disch:=(first|omega|(simp;omega))) [q1,q5,c1,c2,q7];refine .aI ?_;have oz:((db (xs.take i)).map AV.bool).drop ((db (xs.take i)).length+xs[i].2.length)=[]:=bx (by simp);simp[vc,hd,oz]at hh⊢;exact hh
 have hc:∀n i:Nat,i+n=xs.length->
  aA ak Γ (T' (.list false 1 (xs.map pS)) (.int .i64 (db (xs.take i)).length) (.list false 1 (xs.map pS)) (.int .i64 xs.length) (.int .i64 i) [.row 1 bT [] none true false])
   (.ret (.own 1 bT ((db xs).map AV.bool))):=by
  intro n
  induction n with
  |zero=>
   intro i hi
   have q1:¬i<xs.length:=by omega
   have q2:xs.take i=xs:=cj (by omega);have q3:0<(db xs).length:=hp;have hh:=hv xs.length 0 (by omega) (db xs).length (by simp[db]);refine .go 60 ?_;rw[q2];simp[q1];refine .enter 60 Mq.1 ?_
   have q4:¬(db xs).length=0:=by omega
   have q5:db xs≠[]:=fun e=>by rw[e]at hp;simp at hp
   obtain⟨m,hm⟩:∃m,(db xs).length=m+1:=⟨(db xs).length-1,by omega⟩
   have h2:List.replicate (db xs).length (AV.bool false)=(AV.bool false)::List.replicate m (AV.bool false):=by rw[hm];rfl
   simp(disch:=(first|omega|(simp;omega))) [q3,q4,q5,h2];refine .inLoop ?_;simp[db,h2]at hh⊢;exact hh
  |succ n ih=>
   intro i hi
   have q1:i<xs.length:=by omega
   have q2:=Pw xs i q1;have q3:=Rc xs (i+1);rw[q2,bC]at q3;have hh:=ih (i+1) (by omega);rw[q2]at hh;refine .go 60 ?_
   have q4:¬((db (xs.take i)).length:Int)+xs[i].2.length<0:=by omega
   simp(disch:=(first|omega|(simp;omega))) [q1,q4];refine .aI ?_;simp at hh⊢;exact hh
 simp;refine .inLoop ?_;have hh:=hc xs.length 0 (by omega);simp[db]at hh⊢;exact hh
theorem YD(xs:List (Nat×List Bool))(hx:∀x∈xs,x.2=[])(hn:xs.length<2^40):
 aQ ak Γ tK [.list false 1 (xs.map pS)] (.own 1 bT []):=by
 refine .run 60 Mn.1 (by simp) ?_
 have h2:∀n i:Nat,i+n=xs.length->aA ak Γ (Uh (.list true 0 []) (.list false 1 (xs.map pS)) (.int .i64 xs.length) (.int .i64 i) [.row 1 bT [] none true false,.row 1 bT [] none true false])
  (.ret (.own 1 bT [])):=by
  intro n
  induction n with
  |zero=>
   intro i hi
   have q1:¬i<xs.length:=by omega
   refine .qS 6 1 bT rfl (by omega) ?_;refine .go 60 ?_;simp[q1];exact .back (by simp)
  |succ n ih=>
   intro i hi
   have q1:i<xs.length:=by omega
   have q7:=hx xs[i] (bA q1);have hh:=ih (i+1) (by omega);refine .go 60 ?_;simp(disch:=(first|omega|(simp;omega))) [q1,q7];refine .aI ?_;simp at hh⊢;exact hh
 have key:∀n i:Nat,i+n=xs.length->aA ak Γ (T' (.list false 1 (xs.map pS)) (.int .i64 0) (.list false 1 (xs.map pS)) (.int .i64 xs.length) (.int .i64 i) [.row 1 bT [] none true false])
  (.ret (.own 1 bT [])):=by
  intro n
  induction n with
  |zero=>
   intro i hi
   have q1:¬i<xs.length:=by omega
   refine .go 60 ?_;simp[q1];refine .enter 60 Mq.1 ?_;simp;refine .inLoop ?_;have hh:=h2 xs.length 0 (by omega);simp at hh⊢;exact hh
  |succ n ih=>
   intro i hi
   have q1:i<xs.length:=by omega
   have q7:=hx xs[i] (bA q1);have hh:=ih (i+1) (by omega);refine .go 60 ?_;simp(disch:=(first|omega|(simp;omega))) [q1,q7];refine .aI ?_;simp at hh⊢;exact hh
 simp;refine .inLoop ?_;have hh:=key xs.length 0 (by omega);simp at hh⊢;exact hh
theorem ahC{l:List (Int×Int)}{n:Nat}(h:oY l n=false):∀i(hi:i<l.length),(0<=l[i].1/\l[i].1<2*(n+i))/\0<=l[i].2/\l[i].2<2*(n+i):=by
 induction l generalizing n with
 |nil=>intro i hi;simp at hi
 |cons p l ih=>
  simp only[oY,lx,eZ,jB]at h;intro i hi
  cases i with
  |zero=>simp;omega
  |succ i=>
   have:=ih h.2 i (by simpa using hi);simp at this⊢;omega
structure Gr.Ok(g:Gr):Prop where
 ins:0<=g.ins/\g.ins<=4000
 sum:g.ins+g.next.length+g.ands.length<=4000
 jT:g.outs.length<=4000
 same:g.init.length=g.next.length
 init:∀a∈g.init,0<=a/\a<=2
 next:∀a∈g.next,0<=a/\a<g.lits
 outs:∀a∈g.outs,0<=a/\a<g.lits
 ands:∀i(hi:i<g.ands.length),(0<=g.ands[i].1/\g.ands[i].1<2*(g.first+i))/\0<=g.ands[i].2/\g.ands[i].2<2*(g.first+i)
theorem Gr.rk{g:Gr}(h:g.check=0):g.Ok:=by
 unfold Gr.check at h
 split at h
 ·simp at h
 ·rename_i hl;have hl:=Sp (by simpa using hl)
  split at h
  ·simp at h
  ·rename_i hb;simp only[Bool.not_eq_true,lx,Fw,bj]at hb;obtain⟨⟨⟨⟨b1,b2⟩,b3⟩,b4⟩,b5⟩:=hb;refine⟨⟨hl.1,hl.2.1⟩,hl.2.2.1,hl.2.2.2,b1,?_,?_,?_,ahC b5⟩
   ·intro a ha;have:=kK.1 b2 a ha;simp[uN]at this;omega
   ·intro a ha;have:=kK.1 b3 a ha;simp[eZ]at this;omega
   ·intro a ha;have:=kK.1 b4 a ha;simp[eZ]at this;omega
def cn:List (Int×Int)->List Bool->List Bool
 |[],v=>v
 |p::ps,v=>cn ps (v++[bZ v p.1.toNat&&bZ v p.2.toNat])
theorem zM:∀(l:List (Int×Int))(v:List Bool),(cn l v).length=v.length+l.length
 |[],v=>by simp[cn]
 |p::ps,v=>by rw[cn,zM ps];simp;omega
theorem zi:∀(a b:List (Int×Int))(v:List Bool),cn (a++b) v=cn b (cn a v)
 |[],b,v=>rfl
 |p::ps,b,v=>by rw[eH,cn,cn,zi ps]
def Gr.rF(g:Gr)(state ins:List Bool):List Bool:=cn g.ands (false::(ins++state))
def Gr.fits(g:Gr)(state ins:List Bool):Bool:=decide (state.length=g.next.length)&&decide ((ins.length:Int)=g.ins)
def Gr.eA(g:Gr)(state ins:List Bool):Int:=if g.check≠0 then g.check else if g.fits state ins=true then 0 else 11
def Gr.values(g:Gr)(state ins:List Bool):List Bool:=if g.eA state ins=0 then g.rF state ins else[]
def sM(v:List Bool)(l:List Int):List Bool:=l.map fun a=>bZ v a.toNat
@[simp] theorem aC1(v:List Bool)(l:List Int):(sM v l).length=l.length:=by simp[sM]
def Gr.dI(g:Gr)(state ins:List Bool):List Bool:=if g.eA state ins=0 then sM (g.rF state ins) g.outs else[]
def Gr.jb(g:Gr)(state ins:List Bool):List Bool:=if g.eA state ins=0 then sM (g.rF state ins) g.next else[]
theorem Gr.al9{g:Gr}{state ins:List Bool}(h:g.eA state ins=0):g.Ok/\state.length=g.next.length/\(ins.length:Int)=g.ins:=by
 unfold Gr.eA at h
 by_cases hc:g.check=0
 ·refine⟨Gr.rk hc,?_⟩;simp only[hc,ne_eq,not_true,dq]at h
  by_cases hf:g.fits state ins=true
  ·simp only[Gr.fits,aB,bj]at hf;exact hf
  ·simp[hf]at h
 ·simp[hc]at h
def iK(p:Int×Int):List (Int×Int)->Nat->Option Nat
 |[],_=>none
 |q::qs,i=>if q=p then some i else iK p qs (i+1)
theorem GG(p:Int×Int):∀(a b:List (Int×Int))(i:Nat),iK p (a++b) i=match iK p a i with|some j=>some j|none=>iK p b (i+a.length)
 |[],b,i=>by simp[iK]
 |q::a,b,i=>by
  rw[eH,iK,iK]
  by_cases h:q=p
  ·simp[h]
  ·rw[if_neg h,if_neg h,GG p a b (i+1),bL,show i+1+a.length=i+(a.length+1) by omega]
theorem HU{p:Int×Int}:∀{l:List (Int×Int)}{i k:Nat},iK p l i=some k->i<=k/\∃h:k-i<l.length,l[k-i]=p
 |[],i,k,h=>by simp[iK]at h
 |q::l,i,k,h=>by
  rw[iK]at h
  by_cases hq:q=p
  ·rw[if_pos hq]at h
   cases h
   exact⟨aT _,by simp,by simp[hq]⟩
  ·rw[if_neg hq]at h;obtain⟨h1,h2,h3⟩:=HU h;refine⟨by omega,by simp;omega,?_⟩
   have e:k-i=(k-(i+1))+1:=by omega
   simp only[e,tE];exact h3
theorem Hy{p:Int×Int}:∀{l:List (Int×Int)}{i:Nat},iK p l i=none↔p∉l
 |[],i=>by simp[iK]
 |q::l,i=>by
  rw[iK]
  by_cases hq:q=p
  ·simp[hq]
  ·rw[if_neg hq,Hy (l:=l)];simp[hq,Ne.symm hq]
def mn(p q:Nat):Option Nat:=if q=0\/p^^^1=q then some 0 else if q=1\/p=q then some p else none
def bR(first:Nat)(l:List (Int×Int))(a b:Nat):List (Int×Int)×Nat:=
 match mn (max a b) (min a b)with
 |some c=>(l,c)
 |none=>match iK (((max a b:Nat):Int),((min a b:Nat):Int)) l 0 with
  |some i=>(l,2*(first+i))
  |none=>(l++[(((max a b:Nat):Int),((min a b:Nat):Int))],2*(first+l.length))
def ik(p:Int×Int):List ((Int×Int)×Nat)->Option Nat
 |[]=>none
 |(q,n)::r=>if p=q then some n else ik p r
abbrev iR(x:(Int×Int)×Nat):AV×AV:=(dA x.1,.int .i64 x.2)
theorem HG(p q:Int×Int):cC (.km [.int,.int]) (dA p) (dA q)=some (decide (p=q)):=by
 obtain⟨a,b⟩:=p;obtain⟨c,d⟩:=q;simp only[cC,bM,bV,iH,fR,b9]
 cases h1:(a==c)
 ·have:=xN.1 h1;simp[this]
 ·have e1:=eq_of_beq h1
  cases h2:(b==d)
  ·have:=xN.1 h2;simp[this]
  ·have e2:=eq_of_beq h2;simp[e1,e2]
theorem G0(p:Int×Int):∀l:List ((Int×Int)×Nat),fg (.km [.int,.int]) (dA p) (l.map iR)=some ((ik p l).map fun n:Nat=>AV.int .i64 (n:Int))
 |[]=>rfl
 |(q,n)::r=>by
  simp only[bX,fg,HG,ik]
  by_cases h:p=q
  ·simp[h]
  ·simp only[h,nD,dq];exact G0 p r
theorem G'{p:Int×Int}{v:AV}:∀{l:List ((Int×Int)×Nat)},ik p l=none->gG (.km [.int,.int]) (dA p) v (l.map iR)=some (l.map iR++[(dA p,v)])
 |[],_=>rfl
 |(q,n)::r,h=>by
  rw[ik]at h
  by_cases hq:p=q
  ·rw[if_pos hq]at h;cases h
  ·rw[if_neg hq]at h;simp only[bX,gG,HG,hq,nD,G' h,dC,eH]
theorem Nq(n:Nat):∀a b:List (AV×AV),fC n (a++b)=(fC n a&&fC n b)
 |[],b=>by simp[fC]
 |(x,y)::a,b=>by simp[fC,Nq n a b,pw]
@[simp] theorem aei(n:Nat):∀l:List ((Int×Int)×Nat),fC n (l.map iR)=true
 |[]=>rfl
 |x::r=>by simp[fC,aei n r]
@[simp] theorem ahk(n:Nat)(τ:List Nat):∀l:List ((Int×Int)×Nat),oe n τ (l.map iR)=l.map iR
 |[]=>rfl
 |x::r=>by simp[ahk n τ r]
@[simp] theorem af9(n:Nat)(τ:List Nat):∀l:List ((Int×Int)×Nat),rP n τ (l.map iR)=true
 |[]=>rfl
 |x::r=>by simp[af9 n τ r]
@[simp] theorem afN(n m:Nat):∀l:List ((Int×Int)×Nat),o_ n m (l.map iR)=true
 |[]=>rfl
 |x::r=>by simp[afN n m r]
def kW(first:Nat)(l:List (Int×Int))(es:List ((Int×Int)×Nat)):Prop:=∀p,ik p es=(iK p l 0).map fun i=>2*(first+i)
theorem MW(p:Int×Int):∀(a b:List ((Int×Int)×Nat)),ik p (a++b)=match ik p a with|some n=>some n|none=>ik p b
 |[],b=>rfl
 |(q,n)::a,b=>by
  rw[eH,ik,ik]
  by_cases h:p=q
  ·simp[h]
  ·rw[if_neg h,if_neg h,MW p a b]
theorem H4(first:Nat):kW first [] []:=fun p=>rfl
theorem af6{first:Nat}{l:List (Int×Int)}{es:List ((Int×Int)×Nat)}(h:kW first l es){p:Int×Int}{n:Nat}(hp:ik p es=some n):kW first (l++[p]) es:=by
 intro q;rw[h q,GG]
 cases hq:iK q l 0 with
 |some j=>rfl
 |none=>
  have h2:=h p;rw[hp]at h2
  have hv:p≠q:=by
   rintro rfl
   rw[hq]at h2
   cases h2
  simp[iK,hv]
theorem QK{first:Nat}{l:List (Int×Int)}{es:List ((Int×Int)×Nat)}(h:kW first l es){p:Int×Int}(hp:ik p es=none):kW first (l++[p]) (es++[(p,2*(first+l.length))]):=by
 intro q;rw[MW,GG,h q]
 cases hq:iK q l 0 with
 |some j=>rfl
 |none=>
  simp only[u_,ik,iK,jw]
  by_cases he:q=p
  ·simp[he]
  ·rw[if_neg he,if_neg (fun h1=>he h1.symm)];rfl
theorem Mm(l:List (Int×Int)){k:Nat}(hk:Kd 2 k l)(hl:l.length<2^40):aQ ak Γ FH [.list false k (l.map dA)] (.own 2 da (l.map dA)):=by
 refine .run 60 YT.1 (by simp) ?_
 cases l with
 |nil=>
  simp;refine .either 0 (by simp) (fun b=>?_)
  cases b
  ·refine .go 9 ?_;simp;refine .qS 2 2 da rfl (by omega) ?_;refine .go 60 ?_;simp;exact .back (by simp)
  ·refine .go 60 ?_;simp;exact .back (by simp)
 |cons x xs=>
  have h2:k=2:=by
   rcases hk with h|h
   ·exact h
   ·cases h
  subst h2;simp at hl;simp(disch:=(first|omega|(simp;omega)));exact .back (by simp)
def Ux(h:List Ob):Prop:=∀m,h.length<=m->cz m h=true
abbrev cT(g:Gr):Ob:=.cells [.int .i64 g.ins,.list false g.kn (g.next.map i64),.list false g.ki (g.init.map i64),.list false g.ka (g.ands.map dA),.list false g.ko (g.outs.map i64)]
def sI(first:Nat):List (Int×Int)->Nat->List ((Int×Int)×Nat)->List ((Int×Int)×Nat)
 |[],_,es=>es
 |p::ps,i,es=>sI first ps (i+1) (if(ik p es).isSome=true then es else es++[(p,2*(first+i))])
theorem QM(first:Nat):∀(ps l:List (Int×Int))(es:List ((Int×Int)×Nat)),kW first l es->kW first (l++ps) (sI first ps l.length es)
 |[],l,es,h=>by simpa[sI]using h
 |p::ps,l,es,h=>by
  rw[sI]
  have e:l++p::ps=(l++[p])++ps:=by simp
  have e2:l.length+1=(l++[p]).length:=by simp
  rw[e,e2]
  refine QM first ps (l++[p]) _ ?_
  cases hf:ik p es with
  |none=>simpa using QK h hf
  |some n=>simpa using af6 h hf
def Gr.bn(g:Gr):List ((Int×Int)×Nat):=sI g.first g.ands 0 []
theorem Gr.Rp(g:Gr):kW g.first g.ands g.bn:=by
 have:=QM g.first g.ands [] [] (H4 _)
 rw[kF]at this;exact this
abbrev J0(g:Gr)(r n m:Nat)(come:AV):Ob:=.cells [.int .i64 g.ins,.list false g.kn (g.next.map i64),.list false g.ki (g.init.map i64),.sl r 0 n,.list false g.ko (g.outs.map i64),.mp m,come]
theorem af0(g:Gr)(ok:g.Ok)(h:List Ob)(hw:Ux h)(up:List Fr):∀n i:Nat,i+n=g.ands.length->∀es,AM.Reach ak Γ
 (ywp (.ptr h.length 0) (.ptr (h.length+2) 0) (.list false g.ka (g.ands.map dA)) (.int .i64 g.ands.length) (.int .i64 i) (h++[cT g,.map (es.map iR) true,J0 g (h.length+3) g.ands.length (h.length+1) (.list true 0 []),.row 2 da (g.ands.map dA) none true false]) ⟨[],.norm,h.length,up⟩)
 (.back up (.ptr (h.length+2) 0) (h++[cT g,.map ((sI g.first (g.ands.drop i) i es).map iR) true,J0 g (h.length+3) g.ands.length (h.length+1) (.list true 0 []),.row 2 da (g.ands.map dA) none true false])):=by
 have o1:=ok.ins;have o3:=ok.sum;have hf:=sj (Γ:=Γ) g o1.1 o1.2 (by omega)
 have hx:g.first<=8001:=by unfold Gr.first;omega
 intro n
 induction n with
 |zero=>
  intro i hi es
  have q1:¬i<g.ands.length:=by omega
  rw[bx (by omega)];refine .aY 60 ?_;simp[q1,sI]
 |succ n ih=>
  intro i hi es
  have q1:i<g.ands.length:=by omega
  have q2:=bG (g.ha.of q1);rw[bJ q1,sI];have h2:=G0 g.ands[i] es;have hc:=hw (h.length+4) (by omega)
  cases hv:ik g.ands[i] es with
  |some c=>
   rw[hv]at h2;have hh:=ih (i+1) (by omega) es;refine .aY 60 ?_;simp(disch:=omega) [q1,q2,h2,isKey,bM,bV];refine .aI ?_;simp;refine .lF (h.length+4) (by simp;rfl) (by simp) (by simp) (by simp[hc]) ?_;simp at hh⊢;exact hh
  |none=>
   rw[hv]at h2;have hh:=ih (i+1) (by omega) (es++[(g.ands[i],2*(g.first+i))]);have hb:=G' (v:=.int .i64 (2*((g.first:Int)+i))) hv;refine .aY 60 ?_;simp[q1,q2,h2,isKey,bM,bV];refine .ei 60 ?_;simp[q1,q2];refine .call (by simp) hf ?_;simp(disch:=omega) [hb,isKey,bM,bV];refine .aI ?_;simp;refine .lF (h.length+4) (by simp;rfl) (by simp) (by simp) (by simp[hc,Nq]) ?_;simp[hv]at hh⊢;exact hh
theorem ah3(g:Gr)(ok:g.Ok)(h2:g.ands.length<2^40)(h:List Ob)(hw:Ux h):∀up,AM.Reach ak Γ (.cl vC [fJ g] up h)
 (.back up (.ptr (h.length+2) 0) (h++[cT g,.map (g.bn.map iR) true,J0 g (h.length+3) g.ands.length (h.length+1) (.list true 0 []),.row 2 da (g.ands.map dA) none true false])):=by
 intro up;refine .bp 60 M4.1 ?_;simp;refine .ji 60 (by simp) (Mm (Γ:=Γ) g.ands g.ha h2) ?_;simp;refine .inLoop ?_;have hh:=af0 (Γ:=Γ) g ok h hw up g.ands.length 0 (by omega) [];simp at hh⊢;exact hh
abbrev Gr.jY(g:Gr)(l:List (Int×Int)):Gr:={g with ands:=l,ka:=2,ha:=.self}
@[simp] theorem Gr.aCY(g:Gr)(l:List (Int×Int)):(g.jY l).first=g.first:=rfl
@[simp] theorem aDP(a b:Nat):rG (.int .i64 (a:Int)) [.int .i64 (b:Int)]=some (.int .i64 ((max a b:Nat):Int)):=by
 simp only[rG,cE];congr 2;split<;>omega
@[simp] theorem aDK(a b:Nat):ni (.int .i64 (a:Int)) [.int .i64 (b:Int)]=some (.int .i64 ((min a b:Nat):Int)):=by
 simp only[ni,cE];congr 2;split<;>omega
abbrev AY(g:Gr)(x1 x2 x4:AV)(r n m:Nat)(come:AV):Ob:=.cells [.int .i64 g.ins,x1,x2,.sl r 0 n,x4,.mp m,come]
section
theorem Sl(a b c:Nat)(ha:a<2^20)(hb:b<2^20)(hk:mn (max a b) (min a b)=some c)(pb:AV)(h:List Ob):∀up,AM.Reach ak Γ (.cl tO [pb,.int .i64 a,.int .i64 b] up h) (.back up (.int .i64 c) h):=by
 intro up
 have hle:min a b<=max a b:=by omega
 have hM:max a b<2^20:=by omega
 generalize h2:max a b=M at*;generalize hv:min a b=m at*;refine .bp 60 FY.1 ?_;unfold mn at hk;have hx:=nJ M
 by_cases c1:m=0
 ·subst c1;simp at hk;subst hk;simp[h2,hv]
 ·by_cases c2:M^^^1=m
  ·rw[if_pos (Or.inr c2)]at hk
   cases hk
   have c3:((M^^^1:Nat):Int)=m:=by omega
   simp(disch:=omega) [h2,hv,c1,c3,c2]
  ·rw[if_neg (by simp[c1,c2])]at hk
   have c3:¬((M^^^1:Nat):Int)=m:=by omega
   by_cases c4:m=1
   ·rw[if_pos (Or.inl c4)]at hk
    cases hk
    have c5:((m:Int)=1)=True:=bG (by omega);simp(disch:=omega) [h2,hv,c1,c3,c2,c5]
   ·by_cases c6:M=m
    ·rw[if_pos (Or.inr c6)]at hk
     cases hk
     subst c6;have c5:((c:Int)=1)=False:=jC (by omega);simp(disch:=omega) [h2,hv,c1,c3,c2,c5]
    ·rw[if_neg (by simp[c4,c6])]at hk
     cases hk
end
section
variable{p q:List Ob}{x1 x2 x4 come:AV}
theorem O7{p q:Nat}(h:mn p q=none):q≠0/\p^^^1≠q/\q≠1/\p≠q:=by
 unfold mn at h
 split at h
 ·cases h
 ·split at h
  ·cases h
  ·omega
theorem SN(g:Gr)(hi:0<=g.ins/\g.ins<=4000)(hn:g.next.length<=4000)(l:List (Int×Int))(hl:l.length<2^20)(es:List ((Int×Int)×Nat))(he:kW g.first l es)(a b:Nat)(ha:a<2^20)(hb:b<2^20)(hk:mn (max a b) (min a b)=none)
 (q1:∀s,view (p++s) x1=some (.list false g.kn (g.next.map i64)))(h4:∀s,view (p++s) x2=some (.list false g.ki (g.init.map i64)))(ih:∀s,view (p++s) x4=some (.list false g.ko (g.outs.map i64))):
 ∀up,AM.Reach ak Γ (.cl tO [.ptr (p.length+1) 0,.int .i64 a,.int .i64 b] up (p++.map (es.map iR) true::AY g x1 x2 x4 (p.length+2) l.length p.length come::.row 2 da (l.map dA) none true false::q))
  (match ik (((max a b:Nat):Int),((min a b:Nat):Int)) es with
   |some c=>.back up (.int .i64 c) (p++.map (es.map iR) true::AY g x1 x2 x4 (p.length+2) l.length p.length come::.row 2 da (l.map dA) none true false::(q++[.cells [.int .i64 ((max a b:Nat):Int),.int .i64 ((min a b:Nat):Int)]]))
   |none=>.back up (.int .i64 (2*(g.first+l.length):Nat)) (p++.map ((es++[((((max a b:Nat):Int),((min a b:Nat):Int)),2*(g.first+l.length))]).map iR) true::AY g x1 x2 x4 (p.length+2) (l.length+1) p.length come::
    .row 2 da ((l++[(((max a b:Nat):Int),((min a b:Nat):Int))]).map dA) (some 0) true false::(q++[.cells [.int .i64 ((max a b:Nat):Int),.int .i64 ((min a b:Nat):Int)]]))):=by
 intro up;obtain⟨k1,k2,k3,k4⟩:=O7 hk
 have hle:min a b<=max a b:=by omega
 have hM:max a b<2^20:=by omega
 generalize hc:max a b=M at*;generalize hj:min a b=m at*;have hx:=nJ M
 have c3:¬((M^^^1:Nat):Int)=m:=by omega
 have h2:=G0 ((M:Int),(m:Int)) es;have c5:((m:Int)=1)=False:=jC (by omega);have c7:((M:Int)=m)=False:=jC (by omega)
 cases hf:ik ((M:Int),(m:Int)) es with
 |some c=>
  rw[hf]at h2;have h2:fg (.km [.int,.int]) (.agg [.int .i64 M,.int .i64 m]) (es.map iR)=some (some (.int .i64 (c:Int))):=h2;simp only;refine .bp 60 FY.1 ?_;simp(disch:=omega) [hc,hj,k1,k2,k3,k4,c3,c5,c7,isKey,bM,bV,h2];refine .aY 60 ?_;simp[isKey,bM,bV,h2]
 |none=>
  rw[hf]at h2;simp only;refine .bp 60 FY.1 ?_;have h2:fg (.km [.int,.int]) (.agg [.int .i64 M,.int .i64 m]) (es.map iR)=some none:=h2;simp(disch:=omega) [hc,hj,k1,k2,k3,k4,c3,c5,c7,isKey,bM,bV,h2];refine .aY 60 ?_;simp[isKey,bM,bV,h2];have hy:=sj (Γ:=Γ) (g.jY l) hi.1 hi.2 hn
  have hp:g.first<=8001:=by unfold Gr.first;omega
  have hv:=G' (v:=.int .i64 (2*((g.first:Int)+l.length))) hf;refine .ei 60 ?_;simp;refine .call (by simp[q1,h4,ih]) hy ?_;simp(disch:=omega);refine .ei 60 ?_;simp(disch:=(first|omega|(simp;omega))) [isKey,bM,bV,hv];simp[iR]
end
def ga:Gr:=⟨0,[],[],[],[],0,0,0,0,.nil,.nil,.nil,.nil⟩
def Gr.k_(g:Gr)(a b:Int):Int:=if g.check≠0 then g.check else if eZ g.lits a=true\/eZ g.lits b=true then 1 else if 4000<g.ins+g.next.length+(bR g.first g.ands a.toNat b.toNat).1.length then 8 else 0
def Gr.eQ(g:Gr)(a b:Int):Gr:=if g.k_ a b=0 then g.jY (bR g.first g.ands a.toNat b.toNat).1 else ga
def Gr.fY(g:Gr)(a b:Int):Nat:=if g.k_ a b=0 then(bR g.first g.ands a.toNat b.toNat).2 else 0
theorem Dc(first:Nat)(l:List (Int×Int))(a b:Nat):(bR first l a b).1.length<=l.length+1:=by
 unfold bR
 split
 ·simp
 ·split<;>simp
theorem Ow{first:Nat}{l:List (Int×Int)}{es:List ((Int×Int)×Nat)}(h:kW first l es){a b:Nat}(hk:mn (max a b) (min a b)=none):
 bR first l a b=match ik (((max a b:Nat):Int),((min a b:Nat):Int)) es with
  |some c=>(l,c)
  |none=>(l++[(((max a b:Nat):Int),((min a b:Nat):Int))],2*(first+l.length)):=by
 unfold bR;rw[hk,h]
 cases iK (((max a b:Nat):Int),((min a b:Nat):Int)) l 0<;>rfl
theorem vV{g:Gr}(ok:g.Ok)(l:List (Int×Int))(h1:g.ands.length<=l.length):((g.jY l).check=8)↔4000<g.ins+g.next.length+l.length:=by
 have o1:=ok.ins;have o2:=ok.jT;unfold Gr.check Gr.nz;simp only[Gr.jY]
 by_cases h:4000<g.ins+g.next.length+(l.length:Int)
 ·simp[h]
 ·have h2:(decide (g.ins<0)||decide (4000<g.ins)||decide (4000<g.ins+↑g.next.length+↑l.length)||decide (4000<g.outs.length))=false:=by simp;omega
  rw[if_neg (by rw[h2];simp)];simp only[h,iff_false]
  split<;>omega
theorem abO(g:Gr):aQ ak Γ nF [fJ g] (.int .i64 (IntKind.i64.wrap (IntKind.i64.wrap (1+g.ins)+g.next.length))):=by
 refine .run 60 Nt.1 (by simp) ?_;simp;exact .back (by simp)
theorem R7{g:Gr}{a:Int}(h:eZ g.lits a=false):0<=a/\a.toNat<g.lits/\(a.toNat:Int)=a:=by
 simp[eZ]at h;omega
theorem afi(g:Gr)(hf:g.iU)(a b:Int):aQ ak Γ HC [fJ g,.int .i64 a,.int .i64 b] (.aH [fJ (g.eQ a b),.int .i64 (g.fY a b),.int .i64 (g.k_ a b)]):=by
 refine .run 60 afO.1 (by simp) ?_;simp;refine .call 60 (by simp) (vE g hf) ?_;simp;refine .dr 60 ?_;simp;refine .call (by simp) (abO g) ?_
 by_cases hc:g.check=0
 ·have ok:=Gr.rk hc;have o1:=ok.ins;have o3:=ok.sum;have o4:=ok.jT
  have e1:IntKind.i64.wrap (IntKind.i64.wrap (1+g.ins)+g.next.length)=(g.first:Int):=by
   rw[wrap64 (n:=1+g.ins) (by omega) (by omega),wrap64 (by omega) (by omega)];unfold Gr.first;omega
  have hl:g.first<=8001:=by unfold Gr.first;omega
  have hb:g.all<=12001:=by unfold Gr.all;omega
  have e2:(2*((g.first:Int)+g.ands.length))=(g.lits:Int):=by unfold Gr.lits Gr.all;omega
  rw[e1]
  by_cases h1:eZ g.lits a=true\/eZ g.lits b=true
  ·have k1:g.k_ a b=1:=by unfold Gr.k_;rw[if_neg (by simp[hc]),if_pos h1]
   have k2:g.eQ a b=ga:=by unfold Gr.eQ;rw[k1,if_neg (by omega)]
   have k3:g.fY a b=0:=by unfold Gr.fY;rw[k1,if_neg (by omega)]
   rw[k1,k2,k3];simp only[eZ,fL,bj]at h1
   by_cases q1:a<0
   ·simp(disch:=omega) [hc,e2,q1,ga];exact .back (by simp)
   ·by_cases q2:b<0
    ·simp(disch:=omega) [hc,e2,q1,q2,ga];exact .back (by simp)
    ·by_cases q3:(g.lits:Int)<=a
     ·simp(disch:=omega) [hc,e2,q1,q2,q3,ga];exact .back (by simp)
     ·have q4:(g.lits:Int)<=b:=by omega
      simp(disch:=omega) [hc,e2,q1,q2,q3,q4,ga];exact .back (by simp)
  ·rw[not_or]at h1;obtain⟨a1,a2,a3⟩:=R7 (Bz.2 h1.1);obtain⟨b1,b2,b3⟩:=R7 (Bz.2 h1.2);have hk:g.lits=2*g.all:=rfl;generalize hx:a.toNat=x at*;generalize hy:b.toNat=y at*;subst a3;subst b3
   have q1:¬((g.lits:Int)<=x):=by omega
   have q2:¬((g.lits:Int)<=y):=by omega
   simp(disch:=omega) [hc,e2,q1,q2];refine .aX 60 (ah3 g ok hf.2.2.1 _ (by intro m hm;simp at hm⊢;omega)) ?_;simp
   have hv:g.k_ (x:Int) (y:Int)=if 4000<g.ins+g.next.length+(bR g.first g.ands x y).1.length then 8 else 0:=by
    unfold Gr.k_;rw[if_neg (by simp[hc]),if_neg (by rw[not_or];exact h1),eo,eo]
   cases hK:mn (max x y) (min x y)with
   |some c=>
    have hG:bR g.first g.ands x y=(g.ands,c):=by unfold bR;rw[hK]
    have hE:=hv;rw[hG]at hE;refine .aX 60 (Sl x y c (by omega) (by omega) hK _ _) ?_;simp;refine .call 60 (by simp) (vE (Γ:=Γ) (g.jY g.ands) ⟨hf.1,hf.2.1,by first|exact hf.2.2.1|(simp;have:=hf.2.2.1;omega),hf.2.2.2⟩) ?_
    by_cases q8:(g.jY g.ands).check=8
    ·have k1:=hE;rw[if_pos ((vV ok g.ands (by simp)).1 q8)]at k1
     have k2:g.eQ (x:Int) (y:Int)=ga:=by unfold Gr.eQ;rw[k1,if_neg (by omega)]
     have k3:g.fY (x:Int) (y:Int)=0:=by unfold Gr.fY;rw[k1,if_neg (by omega)]
     rw[k1,k2,k3];simp[q8,ga];exact .back (by simp)
    ·have k1:=hE;rw[if_neg (fun hh=>q8 ((vV ok g.ands (by simp)).2 hh))]at k1
     have k2:g.eQ (x:Int) (y:Int)=g.jY g.ands:=by unfold Gr.eQ;rw[k1,if_pos rfl];simp[hG]
     have k3:(g.fY (x:Int) (y:Int):Int)=(bR g.first g.ands x y).2:=by unfold Gr.fY;rw[k1,if_pos rfl];simp
     rw[k1,k2,k3,hG];simp[q8];exact .back (by simp)
   |none=>
    have hG:=Ow g.Rp hK;have hE:=hv
    have key:=SN (Γ:=Γ) (p:=[cT g,.cells [.int .i64 0,.sl 2 0 0,.sl 3 0 0,.sl 4 0 0,.sl 5 0 0],.row 1 au [] none true false,.row 1 au [] none true false,.row 2 da [] none true false,.row 1 au [] none true false,cT g]) (q:=[])
     (x1:=.list false g.kn (g.next.map i64)) (x2:=.list false g.ki (g.init.map i64)) (x4:=.list false g.ko (g.outs.map i64)) (come:=.list true 0 []) g o1 (by omega) g.ands (by omega) g.bn g.Rp x y (by omega) (by omega) hK (fun s=>by simp) (fun s=>by simp) (fun s=>by simp)
    cases hF:ik (((max x y:Nat):Int),((min x y:Nat):Int)) g.bn with
    |some c=>
     rw[hF]at hG key;simp only at hG key;rw[hG]at hE;simp at key;refine .aX 60 key ?_;simp;refine .call 60 (by simp) (vE (Γ:=Γ) (g.jY g.ands) ⟨hf.1,hf.2.1,by first|exact hf.2.2.1|(simp;have:=hf.2.2.1;omega),hf.2.2.2⟩) ?_
     by_cases q8:(g.jY g.ands).check=8
     ·have k1:=hE;rw[if_pos ((vV ok g.ands (by simp)).1 q8)]at k1
      have k2:g.eQ (x:Int) (y:Int)=ga:=by unfold Gr.eQ;rw[k1,if_neg (by omega)]
      have k3:g.fY (x:Int) (y:Int)=0:=by unfold Gr.fY;rw[k1,if_neg (by omega)]
      rw[k1,k2,k3];simp[q8,ga];exact .back (by simp)
     ·have k1:=hE;rw[if_neg (fun hh=>q8 ((vV ok g.ands (by simp)).2 hh))]at k1
      have k2:g.eQ (x:Int) (y:Int)=g.jY g.ands:=by unfold Gr.eQ;rw[k1,if_pos rfl];simp[hG]
      have k3:(g.fY (x:Int) (y:Int):Int)=(bR g.first g.ands x y).2:=by unfold Gr.fY;rw[k1,if_pos rfl];simp
      rw[k1,k2,k3,hG];simp[q8];exact .back (by simp)
    |none=>
     rw[hF]at hG key;simp only at hG key;rw[hG]at hE;simp at key;refine .aX 60 key ?_;generalize hj:(((max x y:Nat):Int),((min x y:Nat):Int))=new at*;simp;refine .call 60 (by simp;rw[cj (by simp)]) (vE (Γ:=Γ) (g.jY (g.ands++[new])) ⟨hf.1,hf.2.1,by first|exact hf.2.2.1|(simp;have:=hf.2.2.1;omega),hf.2.2.2⟩) ?_
     by_cases q8:(g.jY (g.ands++[new])).check=8
     ·have k1:=hE;rw[if_pos ((vV ok (g.ands++[new]) (by simp)).1 q8)]at k1
      have k2:g.eQ (x:Int) (y:Int)=ga:=by unfold Gr.eQ;rw[k1,if_neg (by omega)]
      have k3:g.fY (x:Int) (y:Int)=0:=by unfold Gr.fY;rw[k1,if_neg (by omega)]
      rw[k1,k2,k3];simp[q8,ga];exact .back (by simp)
     ·have k1:=hE;rw[if_neg (fun hh=>q8 ((vV ok (g.ands++[new]) (by simp)).2 hh))]at k1
      have k2:g.eQ (x:Int) (y:Int)=g.jY (g.ands++[new]):=by unfold Gr.eQ;rw[k1,if_pos rfl];simp[hG]
      have k3:(g.fY (x:Int) (y:Int):Int)=(bR g.first g.ands x y).2:=by unfold Gr.fY;rw[k1,if_pos rfl];simp
      rw[k1,k2,k3,hG];simp[q8];exact .back (by simp;rw[cj (by simp)])
 ·have h1:g.k_ a b=g.check:=by unfold Gr.k_;rw[if_pos hc]
  have h2:g.eQ a b=ga:=by unfold Gr.eQ;rw[h1,if_neg hc]
  have h3:g.fY a b=0:=by unfold Gr.fY;rw[h1,if_neg hc]
  simp[hc,h1,h2,h3,ga];exact .back (by simp)
theorem Mr(l:List Int){k:Nat}(hk:Kd 1 k l)(hl:l.length<2^40):aQ ak Γ FI [.list false k (l.map i64)] (.own 1 au (l.map i64)):=by
 refine .run 60 Y5.1 (by simp) ?_
 cases l with
 |nil=>
  simp;refine .either 0 (by simp) (fun b=>?_)
  cases b
  ·refine .go 9 ?_;simp;refine .qS 2 1 au rfl (by omega) ?_;refine .go 60 ?_;simp;exact .back (by simp)
  ·refine .go 60 ?_;simp;exact .back (by simp)
 |cons x xs=>
  have h2:k=1:=by
   rcases hk with h|h
   ·exact h
   ·cases h
  subst h2;simp at hl;simp(disch:=(first|omega|(simp;omega)));exact .back (by simp)
theorem SX{p q:List Ob}{x1 x2 x4 come:AV}(g:Gr)(hi:0<=g.ins/\g.ins<=4000)(hn:g.next.length<=4000)(l:List (Int×Int))(hl:l.length<2^20)(es:List ((Int×Int)×Nat))(he:kW g.first l es)(a b:Nat)(ha:a<2^20)(hb:b<2^20)
 (hv:∀s,view (p++s) x1=some (.list false g.kn (g.next.map i64)))(hc:∀s,view (p++s) x2=some (.list false g.ki (g.init.map i64)))(hx:∀s,view (p++s) x4=some (.list false g.ko (g.outs.map i64))):
 ∃(es':List ((Int×Int)×Nat))(gr:Option Nat)(h2:List Ob),kW g.first (bR g.first l a b).1 es'/\(gr=none\/gr=some 0)/\(h2=[]\/∃x y:Int,h2=[.cells [.int .i64 x,.int .i64 y]])/\
 ∀up,AM.Reach ak Γ (.cl tO [.ptr (p.length+1) 0,.int .i64 a,.int .i64 b] up (p++.map (es.map iR) true::AY g x1 x2 x4 (p.length+2) l.length p.length come::.row 2 da (l.map dA) none true false::q))
  (.back up (.int .i64 ((bR g.first l a b).2:Nat)) (p++.map (es'.map iR) true::AY g x1 x2 x4 (p.length+2) (bR g.first l a b).1.length p.length come::.row 2 da ((bR g.first l a b).1.map dA) gr true false::(q++h2))):=by
 cases hK:mn (max a b) (min a b)with
 |some c=>
  have hG:bR g.first l a b=(l,c):=by unfold bR;rw[hK]
  rw[hG];exact⟨es,none,[],he,.inl rfl,.inl rfl,fun up=>by rw[ey];exact Sl a b c ha hb hK _ _ up⟩
 |none=>
  have hG:=Ow he hK;have key:=SN (Γ:=Γ) (p:=p) (q:=q) (come:=come) g hi hn l hl es he a b ha hb hK hv hc hx
  cases hF:ik (((max a b:Nat):Int),((min a b:Nat):Int)) es with
  |some c=>
   rw[hF]at hG key;simp only at hG key;rw[hG];exact⟨es,none,_,he,.inl rfl,.inr ⟨((max a b:Nat):Int),((min a b:Nat):Int),rfl⟩,key⟩
  |none=>
   rw[hF]at hG key;simp only at hG key;rw[hG];refine⟨_,some 0,_,QK he hF,.inr rfl,.inr ⟨((max a b:Nat):Int),((min a b:Nat):Int),rfl⟩,fun up=>?_⟩;have:=key up;simp only[bC,bL,c_,jw];exact this
theorem Ja{x a:Nat}(hx:(x:Int)<2^60):iv .xor .i64 (x:Int) ((a%2:Nat):Int)=some ((x^^^(a%2):Nat):Int):=by
 rcases(show a%2=0\/a%2=1 by omega)with h|h
 ·rw[h,xO]
  have h1:(BitVec.ofInt 64 (x:Int)^^^BitVec.ofInt 64 ((0:Nat):Int)).toNat=x:=by
   have e1:BitVec.ofInt 64 ((0:Nat):Int)=0#64:=by decide
   rw[e1,BitVec.xor_zero,L7];omega
  show some (IntKind.i64.wrap ((BitVec.ofInt 64 (x:Int)^^^BitVec.ofInt 64 ((0:Nat):Int)).toNat:Int))=_
  rw[h1,AI (by omega)]
 ·rw[h];exact alT x hx
def bt(to:List Nat)(a:Nat):Nat:=to.getD (a/2) 0^^^(a%2)
def eD(to:List Nat)(l:List Int):List Nat:=l.map fun a=>bt to a.toNat
@[simp] theorem aDu(to:List Nat)(l:List Int):(eD to l).length=l.length:=by simp[eD]
theorem OM{to:List Nat}{l:List Int}{i:Nat}(h:i<l.length):eD to (l.take (i+1))=eD to (l.take i)++[bt to l[i].toNat]:=by
 rw[iA h];simp only[eD,jA,bX,jO]
section
variable{c0 c1 c2 c3 c4 c5:AV}
theorem wE(to:List Nat)(h2:∀x∈to,x<2^40)(a:Nat)(h1:a/2<to.length)(ha:(a:Int)<2^60)(b r:Nat){E:TypeId}{gr:Option Nat}{fl sh:Bool}{h:List Ob}(hb:h[b]? =some (.cells [c0,c1,c2,c3,c4,c5,.sl r 0 to.length]))(hr:h[r]? =some (.row 1 E (to.map iN) gr fl sh))(hv:cW (to.map iN) gr 0 to.length=true):
 ∀up,AM.Reach ak Γ (.cl qB [.ptr b 0,.int .i64 a] up h) (.back up (.int .i64 (bt to a)) h):=by
 intro up
 have h3:((a/2:Nat):Int)<to.length:=by omega
 have h4:=h2 _ (bA h1)
 have h5:to.getD (a/2) 0=to[a/2]:=by rw[bz,aW h1];rfl
 have h6:=Ja (x:=to[a/2]) (a:=a) (by omega);refine .bp 60 ZE.1 ?_;unfold bt;rw[h5];simp(disch:=omega) [-Int.natCast_ediv,-Int.natCast_emod,-cW,hv,hb,hr,h1,h3,h6]
end
theorem Ta(to:List Nat)(h2:∀x∈to,x<2^40)(l:List Int){k:Nat}(hk:Kd 1 k l)(hl:l.length<2^40)(h4:∀a∈l,0<=a/\a<2*to.length)(hp:to.length<2^40){c0 c1 c2 c3 c4 c5:AV}(b r:Nat){E:TypeId}{h:List Ob}(hb:h[b]? =some (.cells [c0,c1,c2,c3,c4,c5,.sl r 0 to.length]))(hr:h[r]? =some (.row 1 E (to.map iN) none true false))
 (hv:∀m,c8 (h.length+1) m h=true):
 ∀up,AM.Reach ak Γ (.cl vq [.ptr b 0,.list false k (l.map i64)] up h) (.back up (.sl (h.length+1) 0 l.length) (h++[.row 1 au [] none true false,.row 1 au ((eD to l).map iN) none true false])):=by
 intro up
 have hf:∀os,(h++os)[b]? =some (.cells [c0,c1,c2,c3,c4,c5,.sl r 0 to.length]):=fun os=>ez hb os
 have hy:∀os,(h++os)[r]? =some (.row 1 E (to.map iN) none true false):=fun os=>ez hr os
 have key:∀n j:Nat,j+n=l.length->∀w,w=eD to (l.take j)->AM.Reach ak Γ (WA (.sl (h.length+1) 0 w.length) (.fn (.func qB) [.ptr b 0] []) (.list false k (l.map i64)) (.int .i64 l.length) (.int .i64 j)
  (h++[.row 1 au [] none true false,.row 1 au (w.map iN) none true false]) ⟨[],.norm,h.length,up⟩) (.back up (.sl (h.length+1) 0 l.length) (h++[.row 1 au [] none true false,.row 1 au ((eD to l).map iN) none true false])):=by
  intro n
  induction n with
  |zero=>
   intro j hj w hw
   have q1:¬j<l.length:=by omega
   rw[cj (by omega)]at hw;subst hw;refine .aY 60 ?_;simp[q1]
  |succ n ih=>
   intro j hj w hw
   have q1:j<l.length:=by omega
   have q2:=bG (hk.of q1);obtain⟨a1,a2⟩:=h4 l[j] (bA q1);obtain⟨x,hx⟩:=gW a1
   have h5:w.length=j:=by rw[hw];simp;omega
   have hh:=ih (j+1) (by omega) _ rfl;rw[OM q1,<-hw,hx]at hh;simp only[eo]at hh;have hc:=wE (Γ:=Γ) to h2 x (by omega) (by omega) b r (hf [.row 1 au [] none true false,.row 1 au (w.map iN) none true false]) (hy _) (by simp);refine .aY 60 ?_;simp(disch:=omega) [q1,q2,hx];refine .aX 60 hc ?_;simp(disch:=(first|omega|(simp;omega))) [q1,q2];refine .aI ?_;simp;refine .nN (i:=h.length+1) (by simp;exact⟨rfl,rfl,rfl,rfl,rfl⟩) (by simp) (by simp) (by simp[hv]) ?_;simp at hh⊢;exact hh
 refine .bp 60 MB.1 ?_;simp;refine .inLoop ?_;have hh:=key l.length 0 (by omega) [] (by simp[eD]);simp at hh⊢;exact hh
theorem SL(to:List Nat)(hk:∀x∈to,x<2^40)(l:List Int)(hl:l.length<2^40)(h4:∀a∈l,0<=a/\a<2*to.length)(h5:to.length<2^40){c0 c1 c2 c3 c4 c5:AV}(b r qq:Nat){E E2:TypeId}{h:List Ob}(hb:h[b]? =some (.cells [c0,c1,c2,c3,c4,c5,.sl r 0 to.length]))(hr:h[r]? =some (.row 1 E (to.map iN) none true false))
 (hq:h[qq]? =some (.row 1 E2 (l.map i64) none true false))(hv:∀m,c8 (h.length+1) m h=true):
 ∀up,AM.Reach ak Γ (.cl vq [.ptr b 0,.sl qq 0 l.length] up h) (.back up (.sl (h.length+1) 0 l.length) (h++[.row 1 au [] none true false,.row 1 au ((eD to l).map iN) none true false])):=by
 intro up
 have hf:∀os,(h++os)[b]? =some (.cells [c0,c1,c2,c3,c4,c5,.sl r 0 to.length]):=fun os=>ez hb os
 have hy:∀os,(h++os)[r]? =some (.row 1 E (to.map iN) none true false):=fun os=>ez hr os
 have hp:¬qq=h.length+1:=by have:=bd hq;omega
 have h2:∀os,(h++os)[qq]? =some (.row 1 E2 (l.map i64) none true false):=fun os=>ez hq os
 have key:∀n j:Nat,j+n=l.length->∀w,w=eD to (l.take j)->AM.Reach ak Γ (WA (.sl (h.length+1) 0 w.length) (.fn (.func qB) [.ptr b 0] []) (.sl qq 0 l.length) (.int .i64 l.length) (.int .i64 j)
  (h++[.row 1 au [] none true false,.row 1 au (w.map iN) none true false]) ⟨[],.norm,h.length,up⟩) (.back up (.sl (h.length+1) 0 l.length) (h++[.row 1 au [] none true false,.row 1 au ((eD to l).map iN) none true false])):=by
  intro n
  induction n with
  |zero=>
   intro j hj w hw
   have q1:¬j<l.length:=by omega
   rw[cj (by omega)]at hw;subst hw;refine .aY 60 ?_;simp[q1]
  |succ n ih=>
   intro j hj w hw
   have q1:j<l.length:=by omega
   obtain⟨a1,a2⟩:=h4 l[j] (bA q1);obtain⟨x,hx⟩:=gW a1
   have ht:w.length=j:=by rw[hw];simp;omega
   have hh:=ih (j+1) (by omega) _ rfl;rw[OM q1,<-hw,hx]at hh;simp only[eo]at hh;have hc:=wE (Γ:=Γ) to hk x (by omega) (by omega) b r (hf [.row 1 au [] none true false,.row 1 au (w.map iN) none true false]) (hy _) (by simp);refine .aY 60 ?_;simp(disch:=omega) [q1,h2,hx];refine .aX 60 hc ?_;simp(disch:=(first|omega|(simp;omega))) [q1,h2];refine .aI ?_;simp;refine .nN (i:=h.length+1) (by simp;exact⟨rfl,rfl,rfl,rfl,rfl⟩) (by simp) (by simp[hp]) (by simp[hv]) ?_;simp at hh⊢;exact hh
 refine .bp 60 MB.1 ?_;simp;refine .inLoop ?_;have hh:=key l.length 0 (by omega) [] (by simp[eD]);simp at hh⊢;exact hh
abbrev ri(x:Nat×List Int):AV:=.list false x.1 (x.2.map i64)
def cP:List (Nat×List Int)->List Int
 |[]=>[]
 |x::xs=>x.2++cP xs
theorem M3(a b:List (Nat×List Int)):cP (a++b)=cP a++cP b:=by
 induction a with
 |nil=>rfl
 |cons x a ih=>simp[cP,ih]
theorem Oh(xs:List (Nat×List Int))(i:Nat)(h:i<xs.length):cP (xs.take (i+1))=cP (xs.take i)++xs[i].2:=by
 rw[iA h,M3];simp[cP]
theorem Q3(xs:List (Nat×List Int))(i:Nat):(cP (xs.take i)).length<=(cP xs).length:=by
 conv=>rhs;rw[<-lY i xs,M3]
 simp
theorem Y1(xs:List (Nat×List Int))(hk:∀x∈xs,Kd 1 x.1 x.2)(hn:xs.length<2^40)(hs:(cP xs).length<2^40)(hp:0<(cP xs).length):
 aQ ak Γ tL [.list false 1 (xs.map ri)] (.own 1 au ((cP xs).map i64)):=by
 refine .run 60 Mo.1 (by simp) ?_
 have hv:∀n i:Nat,i+n=xs.length->∀m:Nat,(cP (xs.take i)).length+m=(cP xs).length->
  aA ak Γ (UM (.sl 2 0 (cP (xs.take i)).length) (.list false 1 (xs.map ri)) (.int .i64 xs.length) (.int .i64 i) [.row 1 au [] none true false,.row 1 au [] none true false,.row 1 au ((cP (xs.take i)).map i64++List.replicate m (AV.int .i64 0)) none true false])
   (.ret (.own 1 au ((cP xs).map i64))):=by
  intro n
  induction n with
  |zero=>
   intro i hi m hm
   have q1:¬i<xs.length:=by omega
   have q2:xs.take i=xs:=cj (by omega);rw[q2]at hm⊢
   have hb:m=0:=by omega
   subst hb;refine .go 60 ?_;simp[q1];exact .back (by simp)
  |succ n ih=>
   intro i hi m hm
   have q1:i<xs.length:=by omega
   have q2:=Oh xs i q1;have q3:=Q3 xs (i+1);rw[q2,bC]at q3;have q4:=hk xs[i] (bA q1);have q5:xs[i].1=1\/xs[i].2=[]:=q4;have hh:=ih (i+1) (by omega) (m-xs[i].2.length) (by rw[q2,bC];omega);rw[q2]at hh
   have hd:(List.replicate m (AV.int .i64 0)).drop xs[i].2.length=List.replicate (m-xs[i].2.length) (AV.int .i64 0):=by simp
   refine .go 60 ?_
   by_cases q6:(cP (xs.take i)).length=(cP xs).length
   ·have q7:xs[i].2=[]:=lq.1 (by omega)
    have hb:m=0:=by omega
    subst hb;simp[q7]at hh;simp(disch:=(first|omega|(simp;omega))) [q1,q5,q7];refine .aI ?_;simp;exact hh
   ·simp(disch:=(first|omega|(simp;omega))) [q1,q5]
    by_cases q7:m=0
    ·omega
    ·have c1:¬(cP (List.take i xs)).length=(cP (List.take i xs)).length+m:=by omega
     have c2:(cP (List.take i xs)).length+xs[i].snd.length<=(cP (List.take i xs)).length+m:=by omega
     simp(disch:=(first|omega|(simp;omega))) [q1,q5,c1,c2,q7];refine .aI ?_;have oz:((cP (xs.take i)).map i64).drop ((cP (xs.take i)).length+xs[i].2.length)=[]:=bx (by simp);simp[vc,hd,oz]at hh⊢;exact hh
 have hc:∀n i:Nat,i+n=xs.length->
  aA ak Γ (VC (.list false 1 (xs.map ri)) (.int .i64 (cP (xs.take i)).length) (.list false 1 (xs.map ri)) (.int .i64 xs.length) (.int .i64 i) [.row 1 au [] none true false])
   (.ret (.own 1 au ((cP xs).map i64))):=by
  intro n
  induction n with
  |zero=>
   intro i hi
   have q1:¬i<xs.length:=by omega
   have q2:xs.take i=xs:=cj (by omega);have q3:0<(cP xs).length:=hp;have hh:=hv xs.length 0 (by omega) (cP xs).length (by simp[cP]);refine .go 60 ?_;rw[q2];simp[q1];refine .enter 60 Mu.1 ?_
   have q4:¬(cP xs).length=0:=by omega
   have q5:cP xs≠[]:=fun e=>by rw[e]at hp;simp at hp
   obtain⟨m,hm⟩:∃m,(cP xs).length=m+1:=⟨(cP xs).length-1,by omega⟩
   have h2:List.replicate (cP xs).length (AV.int .i64 0)=(AV.int .i64 0)::List.replicate m (AV.int .i64 0):=by rw[hm];rfl
   simp(disch:=(first|omega|(simp;omega))) [q3,q4,q5,h2];refine .inLoop ?_;simp[cP,h2]at hh⊢;exact hh
  |succ n ih=>
   intro i hi
   have q1:i<xs.length:=by omega
   have q2:=Oh xs i q1;have q3:=Q3 xs (i+1);rw[q2,bC]at q3;have hh:=ih (i+1) (by omega);rw[q2]at hh;refine .go 60 ?_
   have q4:¬((cP (xs.take i)).length:Int)+xs[i].2.length<0:=by omega
   simp(disch:=(first|omega|(simp;omega))) [q1,q4];refine .aI ?_;simp at hh⊢;exact hh
 simp;refine .inLoop ?_;have hh:=hc xs.length 0 (by omega);simp[cP]at hh⊢;exact hh
theorem YN(xs:List (Nat×List Int))(hx:∀x∈xs,x.2=[])(hn:xs.length<2^40):
 aQ ak Γ tL [.list false 1 (xs.map ri)] (.own 1 au []):=by
 refine .run 60 Mo.1 (by simp) ?_
 have h2:∀n i:Nat,i+n=xs.length->aA ak Γ (UM (.list true 0 []) (.list false 1 (xs.map ri)) (.int .i64 xs.length) (.int .i64 i) [.row 1 au [] none true false,.row 1 au [] none true false])
  (.ret (.own 1 au [])):=by
  intro n
  induction n with
  |zero=>
   intro i hi
   have q1:¬i<xs.length:=by omega
   refine .qS 6 1 au rfl (by omega) ?_;refine .go 60 ?_;simp[q1];exact .back (by simp)
  |succ n ih=>
   intro i hi
   have q1:i<xs.length:=by omega
   have q7:=hx xs[i] (bA q1);have hh:=ih (i+1) (by omega);refine .go 60 ?_;simp(disch:=(first|omega|(simp;omega))) [q1,q7];refine .aI ?_;simp at hh⊢;exact hh
 have key:∀n i:Nat,i+n=xs.length->aA ak Γ (VC (.list false 1 (xs.map ri)) (.int .i64 0) (.list false 1 (xs.map ri)) (.int .i64 xs.length) (.int .i64 i) [.row 1 au [] none true false])
  (.ret (.own 1 au [])):=by
  intro n
  induction n with
  |zero=>
   intro i hi
   have q1:¬i<xs.length:=by omega
   refine .go 60 ?_;simp[q1];refine .enter 60 Mu.1 ?_;simp;refine .inLoop ?_;have hh:=h2 xs.length 0 (by omega);simp at hh⊢;exact hh
  |succ n ih=>
   intro i hi
   have q1:i<xs.length:=by omega
   have q7:=hx xs[i] (bA q1);have hh:=ih (i+1) (by omega);refine .go 60 ?_;simp(disch:=(first|omega|(simp;omega))) [q1,q7];refine .aI ?_;simp at hh⊢;exact hh
 simp;refine .inLoop ?_;have hh:=key xs.length 0 (by omega);simp at hh⊢;exact hh
theorem Y2(xs:List (Nat×List Int))(hk:∀x∈xs,Kd 1 x.1 x.2)(hn:xs.length<2^40)(hs:(cP xs).length<2^40):
 aQ ak Γ tL [.list false 1 (xs.map ri)] (.own 1 au ((cP xs).map i64)):=by
 rcases Ye (cP xs).length with h|h
 ·have h0:cP xs=[]:=lq.1 h
  have hx:∀x∈xs,x.2=[]:=by
   clear hk hn hs h
   induction xs with
   |nil=>simp
   |cons y ys ih=>
    simp only[cP,L8]at h0;intro x hx
    rcases bD.1 hx with rfl|hx
    ·exact h0.1
    ·exact ih h0.2 x hx
  rw[h0];exact YN xs hx hn
 ·exact Y1 xs hk hn hs h
def jH:List Int->List Bool->List Bool
 |[],v=>v
 |a::l,v=>jH l (v.set (a.toNat/2) true)
def jV(ands:List (Int×Int))(first:Nat):Nat->List Bool->List Bool
 |0,v=>v
 |i+1,v=>jV ands first i (if v.getD (first+i) false=true then(v.set ((ands.getD i (0,0)).1.toNat/2) true).set ((ands.getD i (0,0)).2.toNat/2) true else v)
def Gr.bg(g:Gr):List Bool:=jV g.ands g.first g.ands.length (jH (g.next++g.outs) (List.replicate g.all false))
theorem zJ:∀(l:List Int)(v:List Bool),(jH l v).length=v.length
 |[],v=>rfl
 |a::l,v=>by rw[jH,zJ l,kD]
theorem ON(ands:List (Int×Int))(first:Nat):∀(i:Nat)(v:List Bool),(jV ands first i v).length=v.length
 |0,v=>rfl
 |i+1,v=>by rw[jV,ON ands first i];split<;>simp
theorem MY:∀(a b:List Int)(v:List Bool),jH (a++b) v=jH b (jH a v)
 |[],b,v=>rfl
 |x::a,b,v=>by rw[eH,jH,jH,MY a b]
abbrev al4:List (List Nat):=[[0,1,2,3,4,5,6,7,8],[0,1,2,3,4,5,7,6,8],[0,1,2,3,4,7,5,6,8],[0,1,2,3,7,4,5,6,8],[0,1,2,7,3,4,5,6,8],[0,1,7,2,3,4,5,6,8],[0,2,1,3,4,5,6,7,8],[0,2,1,3,4,5,7,6,8],[0,2,1,3,4,7,5,6,8],[0,2,1,3,7,4,5,6,8],[0,2,1,7,3,4,5,6,8],[0,2,3,1,4,5,6,7,8],[0,2,3,1,4,5,7,6,8],[0,2,3,1,4,7,5,6,8],[0,2,3,1,7,4,5,6,8],[0,2,3,4,1,5,6,7,8],[0,2,3,4,1,5,7,6,8],[0,2,3,4,1,7,5,6,8],[0,2,3,4,7,1,5,6,8],[0,2,3,7,1,4,5,6,8],[0,2,3,7,4,1,5,6,8],[0,2,7,1,3,4,5,6,8],[0,2,7,3,1,4,5,6,8],[0,2,7,3,4,1,5,6,8],[0,7,1,2,3,4,5,6,8],[0,7,2,1,3,4,5,6,8],[0,7,2,3,1,4,5,6,8],[0,7,2,3,4,1,5,6,8],[2,0,1,3,4,5,6,7,8],[2,0,1,3,4,5,7,6,8],[2,0,1,3,4,7,5,6,8],[2,0,1,3,7,4,5,6,8],[2,0,1,7,3,4,5,6,8],[2,0,3,1,4,5,6,7,8],[2,0,3,1,4,5,7,6,8],[2,0,3,1,4,7,5,6,8],[2,0,3,1,7,4,5,6,8],[2,0,3,4,1,5,6,7,8],[2,0,3,4,1,5,7,6,8],[2,0,3,4,1,7,5,6,8],[2,0,3,4,7,1,5,6,8],[2,0,3,7,1,4,5,6,8],[2,0,3,7,4,1,5,6,8],[2,0,7,1,3,4,5,6,8],[2,0,7,3,1,4,5,6,8],[2,0,7,3,4,1,5,6,8],[2,3,0,1,4,5,6,7,8],[2,3,0,1,4,5,7,6,8],[2,3,0,1,4,7,5,6,8],[2,3,0,1,7,4,5,6,8],[2,3,0,4,1,5,6,7,8],[2,3,0,4,1,5,7,6,8],[2,3,0,4,1,7,5,6,8],[2,3,0,4,7,1,5,6,8],[2,3,0,7,1,4,5,6,8],[2,3,0,7,4,1,5,6,8],[2,3,4,0,1,5,6,7,8],[2,3,4,0,1,5,7,6,8],[2,3,4,0,1,7,5,6,8],[2,3,4,0,7,1,5,6,8],[2,3,4,7,0,1,5,6,8],[2,3,7,0,1,4,5,6,8],[2,3,7,0,4,1,5,6,8],[2,3,7,4,0,1,5,6,8],[2,7,0,1,3,4,5,6,8],[2,7,0,3,1,4,5,6,8],[2,7,0,3,4,1,5,6,8],[2,7,3,0,1,4,5,6,8],[2,7,3,0,4,1,5,6,8],[2,7,3,4,0,1,5,6,8],[7,0,1,2,3,4,5,6,8],[7,0,2,1,3,4,5,6,8],[7,0,2,3,1,4,5,6,8],[7,0,2,3,4,1,5,6,8],[7,2,0,1,3,4,5,6,8],[7,2,0,3,1,4,5,6,8],[7,2,0,3,4,1,5,6,8],[7,2,3,0,1,4,5,6,8],[7,2,3,0,4,1,5,6,8],[7,2,3,4,0,1,5,6,8]]
theorem ait:gA [[],[0],[],[2],[3],[1,4],[5,5],[],[7,6,1,0,1,2,3,4,5,6,7]] 9 []=al4:=by decide+kernel
abbrev AB(g:Gr):List Fr:=[⟨.run,vN,[.j8 6,.inBlock 0 [],.code (.seq (.av KF) .ret)],
 [fJ g,.ptr 0 0,U,.ptr 2 0,U,U,U,U,U,U,U,U,fJ g,.sl 1 0 g.all,.fn (.func sb) [] [.ptr 3 0,.ptr 4 0],U,U,U,U,U,U],[.mark 5],.norm,0⟩]
abbrev wV(g:Gr)(v:List Bool):List Ob:=[cT g,.row 1 bT (v.map .bool) none true false,.cells [.sl 1 0 g.all],cT g,.cells [.sl 1 0 g.all],.bK true,
 .loop .ready .none vN [U,U,U,.ptr 2 0,U,U,U,U,U,U,U,U,U,U,U,U,U,U,U,U,U] [15] (.av Xi) Xz,.cells [.de 6]]
theorem aj6(g:Gr)(ok:g.Ok)(L:List Int)(hL:∀a∈L,0<=a/\a<g.lits)(hl:L.length<2^40){o:Out}(v0:List Bool)(h2:v0.length=g.all)
 (hc:aA ak Γ (Lu (.ptr 3 0) (.ptr 4 0) (.ptr 7 0) (wV g (jH L v0)++[.row 1 au (L.map i64) none true false]) ⟨[],.norm,7,AB g⟩) o):
 ∀n i:Nat,i+n=L.length->∀v,v=jH (L.take i) v0->aA ak Γ (yzT (.ptr 3 0) (.ptr 4 0) (.ptr 7 0) (.sl 8 0 L.length) (.int .i64 L.length) (.int .i64 i) (wV g v++[.row 1 au (L.map i64) none true false]) ⟨[],.norm,7,AB g⟩) o:=by
 intro n
 induction n with
 |zero=>
  intro i hi v hv;rw[cj (by omega)]at hv;subst hv
  have q1:¬i<L.length:=by omega
  refine .reach (.dh 60 (c':=Lu (.ptr 3 0) (.ptr 4 0) (.ptr 7 0) (wV g (jH L v0)++[.row 1 au (L.map i64) none true false]) ⟨[],.norm,7,AB g⟩) ?_) hc;simp[q1];exact .exit rfl rfl
 |succ n ih=>
  intro i hi v hv
  have q1:i<L.length:=by omega
  obtain⟨b1,b2⟩:=hL L[i] (bA q1);obtain⟨x,hx⟩:=gW b1
  have hb:v.length=g.all:=by rw[hv,zJ,h2]
  have hh:=ih (i+1) (by omega) (v.set (x/2) true) (by rw[iA q1,MY,<-hv,jH,jH,hx];rfl);have e1:g.lits=2*g.all:=rfl;refine .go 60 ?_
  have q3:x/2<g.all:=by omega
  simp(disch:=omega) [q1,hx,kf,hb,q3,-Int.natCast_ediv,-Int.natCast_emod];refine .aI ?_
  have e2:(v.map AV.bool).set (x/2) (.bool true)=(v.set (x/2) true).map AV.bool:=by rw[rX]
  rw[e2];simp[-List.map_set]at hh⊢;exact hh
abbrev ajQ(g:Gr):List Fr:=⟨.run,sb,[.j8 11,.inBlock 2 []],[U,.ptr 3 0,.ptr 4 0,.ptr 7 0,U,U,U,U,U,U,U,U,U,U,U,U,U,U,U,U,U,U,U,U,
          .ptr 3 3,.list false g.ka (List.map dA g.ands),.fn (.func BG) [] [.ptr 9 0],U,U,U,U,U,U,U,U,U,U,U,U,U,U,U,U,U,U,U,U,U,U,U],[.mark 10],.norm,7⟩::AB g
abbrev alH(g:Gr)(v:List Bool)(rest:Ob):List Ob:=wV g v++[rest,.cells [.list false g.ka (List.map dA g.ands)],.bK true,
 .loop .ready .none sb [U,.ptr 3 0,.ptr 4 0,.ptr 7 0,U,U,U,U,U,U,U,U,U,U,U,U,U,U,U,U,U,U,U,U,U,U,U,U,U,U,U,U,U,U,U,U,U,U,U,U,U,U,U,U,U,U,U,U,U,U] [27,28] Kc Ka]
abbrev DX(g:Gr)(v:List Bool)(rest:Ob)(x y:Nat):List Ob:=wV g v++[rest,.cells [.list false g.ka (List.map dA g.ands)],.bK true,
 .loop .busy .none sb [U,.ptr 3 0,.ptr 4 0,.ptr 7 0,U,U,U,U,U,U,U,U,U,U,U,U,U,U,U,U,U,U,U,U,U,U,U,U,U,U,U,U,U,U,U,U,U,U,U,U,U,U,U,U,U,U,U,U,U,U] [27,28] Kc Ka,
 .cells [.int .i64 x,.int .i64 y]]
theorem SU(g:Gr)(v:List Bool)(hv:v.length=g.all)(rest:Ob)(x y z:Nat)(hz:z/2<g.all)(h2:(z:Int)<2^40):∀up,AM.Reach ak Γ ((jM.yl 6).cfg [.int .i64 z] up (DX g v rest x y)) (.back up (.bool true) (DX g (v.set (z/2) true) rest x y)):=by
 intro up;simp;refine .aY 60 ?_;simp(disch:=omega) [hv,hz,-Int.natCast_ediv,-Int.natCast_emod,-Int.natCast_add]
theorem akc(g:Gr)(ok:g.Ok)(L:List Int):∀i:Nat,i<=g.ands.length->∀v:List Bool,v.length=g.all->
 aA ak Γ (yFm (.de 11) (.ptr 9 0) (.int .i64 ((i:Int)-1)) (alH g v (.row 1 au (L.map i64) none true false)) ⟨[],.norm,12,ajQ g⟩) (.ret (.own 1 bT ((jV g.ands g.first i v).map .bool))):=by
 have o1:=ok.ins;have o3:=ok.sum;have hf:=sj (Γ:=Γ) g o1.1 o1.2 (by omega);intro i
 induction i with
 |zero=>
  intro hi v hv;refine .go 60 ?_;simp;exact .back (by simp[jV,hv])
 |succ i ih=>
  intro hi v hv
  have q1:i<g.ands.length:=by omega
  have e0:((i+1:Nat):Int)-1=i:=by omega
  rw[e0];obtain⟨⟨b1,b2⟩,b3,b4⟩:=ok.ands i q1;obtain⟨x,hx⟩:=gW b1;obtain⟨y,hy⟩:=gW b3;have q2:=bG (g.ha.of q1);refine .go 60 ?_;simp(disch:=omega) [q1,q2,kf];refine .dr 60 ?_;simp(disch:=omega) [q1,q2];refine .call (by simp) hf ?_
  have e1:(g.first:Int)+i=((g.first+i:Nat):Int):=by omega
  have q3:g.first+i<v.length:=by rw[hv];unfold Gr.all;omega
  have q4:g.first+i<g.all:=by omega
  have h2:g.first<=8001:=by unfold Gr.first;omega
  have q5:x/2<g.all:=by omega
  have q6:y/2<g.all:=by omega
  rw[jV,bz,aW q3,kH,bz,aW q1,kH,hx,hy];simp only[eo]
  by_cases hb:v[g.first+i]=true
  ·rw[if_pos hb];have hh:=ih (by omega) ((v.set (x/2) true).set (y/2) true) (by simp[hv]);simp(disch:=omega) [e1,q3,q4,hb,hv,hx,hy,q5,-Int.natCast_ediv,-Int.natCast_emod,-Int.natCast_add];have k1:=SU (Γ:=Γ) g v hv (.row 1 au (L.map i64) none true false) x y x q5 (by omega);have k2:=SU (Γ:=Γ) g (v.set (x/2) true) (by simp[hv]) (.row 1 au (L.map i64) none true false) x y y q6 (by omega);refine .go (.bool true) (DX g (v.set (x/2) true) (.row 1 au (L.map i64) none true false) x y) k1 ?_;simp(disch:=omega) [hb,hv,hx,hy,q5,q6,-List.map_set,-Int.natCast_ediv,-Int.natCast_emod,-Int.natCast_add];refine .go (.bool true) (DX g ((v.set (x/2) true).set (y/2) true) (.row 1 au (L.map i64) none true false) x y) k2 ?_;simp(disch:=omega) [hb,hv,hx,hy,q5,q6,-List.map_set,-Int.natCast_ediv,-Int.natCast_emod,-Int.natCast_add];refine .aI ?_;simp
   refine .drop 12 rfl (by simp) (by simp) (by simp) ?_;simp[e0]at hh⊢;exact hh
  ·rw[if_neg hb];have hh:=ih (by omega) v hv;simp(disch:=omega) [e1,q3,q4,hb,hv,-Int.natCast_add];refine .aI ?_;simp;refine .drop 12 rfl (by simp) (by simp) (by simp) ?_;simp[e0]at hh⊢;exact hh
theorem akC(g:Gr)(ok:g.Ok)(v0:List Bool)(h2:v0.length=g.all)(L:List Int):aA ak Γ (Lu (.ptr 3 0) (.ptr 4 0) (.ptr 7 0) (wV g v0++[.row 1 au (L.map i64) none true false]) ⟨[],.norm,7,AB g⟩) (.ret (.own 1 bT ((jV g.ands g.first g.ands.length v0).map .bool))):=by
 have o3:=ok.sum;have o1:=ok.ins;refine .go 60 ?_;simp;refine .enter 60 YE.1 ?_;simp;refine .enter 60 Yw.1 ?_;simp(disch:=omega);refine .inLoop ?_;have hh:=akc (Γ:=Γ) g ok L g.ands.length (by omega) v0 h2;simp at hh⊢;exact hh
theorem alw(g:Gr)(ok:g.Ok):aA ak Γ (.fr ⟨.run,vN,[.ops [],.code (.seq (.seq (.av Xx) (.block 0 [] T7)) (.seq (.av KF) .ret))],
 [fJ g,.ptr 0 0,U,.ptr 2 0,U,U,U,U,U,U,U,U,U,U,U,U,U,U,U,U,U],[],.norm,0⟩ [] [cT g,.row 1 bT (List.replicate g.all (.bool false)) none true false,.cells [.sl 1 0 g.all]]) (.ret (.own 1 bT (g.bg.map .bool))):=by
 have o1:=ok.ins;have o3:=ok.sum;refine .go 60 ?_;simp;refine .enter 60 aaP.1 ?_;simp;refine .enter 60 aad.1 ?_;simp
 have h2:=Y2 (Γ:=Γ) [(g.kn,g.next),(g.ko,g.outs)] (by
  intro x hx;simp only[bD,px,po]at hx
  rcases hx with rfl|rfl
  ·exact g.hn
  ·exact g.ho) (by simp) (by simp[cP];have:=ok.jT;omega)
 simp[cP]at h2;refine .call 60 (by simp) h2 ?_;simp;refine .inLoop ?_
 have hL:∀a∈g.next++g.outs,0<=a/\a<(g.lits:Int):=by
  intro a ha
  rcases a8.1 ha with ha|ha
  ·exact ok.next a ha
  ·exact ok.outs a ha
 have hh:=aj6 (Γ:=Γ) g ok (g.next++g.outs) hL (by simp;have:=ok.jT;omega) (List.replicate g.all false) (by simp)
  (akC g ok _ (by rw[zJ];simp) _) (g.next++g.outs).length 0 (by omega) _ rfl
 simp[jH]at hh⊢;exact hh
set_option maxHeartbeats 2000000 in
theorem aeG(g:Gr)(ok:g.Ok):aQ ak Γ vN [fJ g] (.own 1 bT (g.bg.map .bool)):=by
 have o1:=ok.ins;have o3:=ok.sum;refine .run 60 ae8.1 (by simp) ?_;simp;refine .ogO 60 ?_;simp only[bL,c_,jw,Nat.reduceAdd,ait];have hf:=sj (Γ:=Γ) g o1.1 o1.2 (by omega)
 have e1:(g.first:Int)+g.ands.length=(g.all:Int):=by unfold Gr.all;omega
 have hv:g.all<=12001:=by unfold Gr.all Gr.first;omega
 have h2:=alw (Γ:=Γ) g ok;intro l hl;simp only[bD,px,po]at hl
 rcases hl with rfl|rfl|rfl|rfl|rfl|rfl|rfl|rfl|rfl|rfl|rfl|rfl|rfl|rfl|rfl|rfl|rfl|rfl|rfl|rfl|rfl|rfl|rfl|rfl|rfl|rfl|rfl|rfl|rfl|rfl|rfl|rfl|rfl|rfl|rfl|rfl|rfl|rfl|rfl|rfl|rfl|rfl|rfl|rfl|rfl|rfl|rfl|rfl|rfl|rfl|rfl|rfl|rfl|rfl|rfl|rfl|rfl|rfl|rfl|rfl|rfl|rfl|rfl|rfl|rfl|rfl|rfl|rfl|rfl|rfl|rfl|rfl|rfl|rfl|rfl|rfl|rfl|rfl|rfl|rfl
 all_goals
  simp;refine .AN 60 (by simp) hf ?_;simp(disch:=(first|omega|(simp;omega))) [e1];refine .na [2,5,6,7,8,9,10,11] ?_;simp
  first
   |(refine .gc 1 [1,2] (by simp) (by decide) ?_;simp;exact h2)
   |(refine .gc 1 [3,1] (by simp) (by decide) ?_;simp;exact h2)
def ids(n:Nat):List Nat:=(List.range n).map (2*·)
@[simp] theorem RO(n:Nat):(ids n).length=n:=by simp[ids]
theorem Im(n:Nat):ids (n+1)=ids n++[2*n]:=by simp[ids,Fx]
def fQ(first:Nat):List (Int×Int)->List (Int×Int)->List Nat->List (Int×Int)×List Nat
 |[],l,to=>(l,to)
 |p::ps,l,to=>fQ first ps (bR first l (bt to p.1.toNat) (bt to p.2.toNat)).1 (to++[(bR first l (bt to p.1.toNat) (bt to p.2.toNat)).2])
def dU(first:Nat)(bg:List Bool):List (Int×Int)->Nat->List (Int×Int)->List Nat->List (Int×Int)×List Nat
 |[],_,l,to=>(l,to)
 |p::ps,i,l,to=>
  if bg.getD (first+i) false=true then dU first bg ps (i+1) (bR first l (bt to p.1.toNat) (bt to p.2.toNat)).1 (to++[(bR first l (bt to p.1.toNat) (bt to p.2.toNat)).2])
  else dU first bg ps (i+1) l (to++[0])
def Gr.dz(g:Gr)(r:List (Int×Int)×List Nat):Gr:=⟨g.ins,(eD r.2 g.next).map fun n:Nat=>(n:Int),g.init,r.1,(eD r.2 g.outs).map fun n:Nat=>(n:Int),1,1,2,1,.self,.self,.self,.self⟩
def Gr.dD(g:Gr):Gr:=g.dz (fQ g.first g.ands [] (ids g.first))
def Gr.dm(x:Gr):Gr:=x.dz (dU x.first x.bg x.ands 0 [] (ids x.first))
def Gr.normal(g:Gr):Gr:=if g.check=0 then g.dD.dm else ga
structure n_(first:Nat)(l:List (Int×Int))(to:List Nat):Prop where
 lt:∀x∈to,x<2*(first+l.length)
theorem wz{first:Nat}{l:List (Int×Int)}{a b:Nat}(ha:a<2*(first+l.length))(hb:b<2*(first+l.length))(h1:1<=first):
 (bR first l a b).2<2*(first+(bR first l a b).1.length)/\l.length<=(bR first l a b).1.length:=by
 unfold bR
 split
 ·rename_i c hc;unfold mn at hc;refine⟨?_,aT _⟩;simp only
  split at hc
  ·cases hc;omega
  ·split at hc
   ·cases hc;omega
   ·cases hc
 ·split
  ·rename_i i hi;obtain⟨_,h2,_⟩:=HU hi;exact⟨by simp only;omega,aT _⟩
  ·exact⟨by simp only[bC,bL,c_];omega,by simp⟩
theorem oU{to:List Nat}{B a:Nat}(h:∀x∈to,x<2*B)(ha:a/2<to.length):bt to a<2*B:=by
 have h1:=h _ (bA ha);unfold bt;rw[bz,aW ha,kH]
 rcases(show a%2=0\/a%2=1 by omega)with h2|h2
 ·rw[h2,xO];exact h1
 ·rw[h2,nJ];split<;>omega
theorem RG(x:Gr):x.bg.length=x.all:=by unfold Gr.bg;rw[ON,zJ,qx]
structure ie(first:Nat)(l:List (Int×Int)):Prop where
 at_:∀i(h:i<l.length),∃p q:Nat,l[i]=((p:Int),(q:Int))/\2<=q/\q<p/\p/2≠q/2/\p<2*(first+i)
 nd:l.Nodup
theorem OT(first:Nat):ie first []:=⟨fun i h=>by simp at h,List.nodup_nil⟩
theorem ie.push{first:Nat}{l:List (Int×Int)}(h:ie first l){a b:Nat}(ha:a<2*(first+l.length))(hb:b<2*(first+l.length)):ie first (bR first l a b).1:=by
 unfold bR
 split
 ·exact h
 ·rename_i hk
  split
  ·exact h
  ·rename_i hi;obtain⟨k1,k2,k3,k4⟩:=O7 hk
   have hle:min a b<=max a b:=by omega
   have hx:=nJ (max a b);refine⟨fun i hv=>?_,?_⟩
   ·by_cases h2:i<l.length
    ·obtain⟨p,q,e,r⟩:=h.at_ i h2;exact⟨p,q,by simp only;rw[xF h2];exact e,r⟩
    ·have e0:i=l.length:=by simp at hv;omega
     subst e0;refine⟨max a b,min a b,by simp,by omega,by omega,?_,by omega⟩;intro hd;apply k2;rw[hx]
     split<;>omega
   ·rw[mH];refine⟨h.nd,by simp,?_⟩;intro x hc y hy he;subst he;simp at hy;subst hy;exact(Hy.1 hi) hc
theorem QA(first:Nat)(h1:1<=first):∀(ps l:List (Int×Int))(to:List Nat),ie first l->n_ first l to->(∀i(h:i<ps.length),ps[i].1.toNat/2<to.length+i/\ps[i].2.toNat/2<to.length+i)->
 ie first (fQ first ps l to).1/\n_ first (fQ first ps l to).1 (fQ first ps l to).2/\(fQ first ps l to).2.length=to.length+ps.length/\(fQ first ps l to).1.length<=l.length+ps.length
 |[],l,to,hl,ht,_=>⟨hl,ht,rfl,aT _⟩
 |p::ps,l,to,hl,ht,hp=>by
  have h0:=hp 0 (by simp);simp only[Fy,iz]at h0;have ha:=oU ht.lt h0.1;have hb:=oU ht.lt h0.2;obtain⟨h2,hv⟩:=wz ha hb h1
  have hlen:=Dc first l (bt to p.1.toNat) (bt to p.2.toNat)
  rw[fQ]
  obtain⟨a1,a2,a3,a4⟩:=QA first h1 ps (bR first l (bt to p.1.toNat) (bt to p.2.toNat)).1 (to++[(bR first l (bt to p.1.toNat) (bt to p.2.toNat)).2]) (hl.push ha hb) ⟨fun z hz=>by
   rcases a8.1 hz with hz|hz
   ·have:=ht.lt z hz;omega
   ·simp at hz;omega⟩ (fun i hi=>by
   have:=hp (i+1) (by simpa using hi);simp only[tE]at this
   simp;omega)
  refine⟨a1,a2,by rw[a3];simp;omega,by simp only[bL];omega⟩
theorem H7(first:Nat)(h1:1<=first)(bg:List Bool):∀(ps:List (Int×Int))(i:Nat)(l:List (Int×Int))(to:List Nat),ie first l->n_ first l to->(∀i(h:i<ps.length),ps[i].1.toNat/2<to.length+i/\ps[i].2.toNat/2<to.length+i)->
 ie first (dU first bg ps i l to).1/\n_ first (dU first bg ps i l to).1 (dU first bg ps i l to).2/\(dU first bg ps i l to).2.length=to.length+ps.length/\(dU first bg ps i l to).1.length<=l.length+ps.length
 |[],i,l,to,hl,ht,_=>⟨hl,ht,rfl,aT _⟩
 |p::ps,i,l,to,hl,ht,hp=>by
  have h0:=hp 0 (by simp);simp only[Fy,iz]at h0;have ha:=oU ht.lt h0.1;have hb:=oU ht.lt h0.2;obtain⟨h2,hv⟩:=wz ha hb h1
  have hlen:=Dc first l (bt to p.1.toNat) (bt to p.2.toNat)
  rw[dU]
  split
  ·obtain⟨a1,a2,a3,a4⟩:=H7 first h1 bg ps (i+1) (bR first l (bt to p.1.toNat) (bt to p.2.toNat)).1 (to++[(bR first l (bt to p.1.toNat) (bt to p.2.toNat)).2]) (hl.push ha hb) ⟨fun z hz=>by
    rcases a8.1 hz with hz|hz
    ·have:=ht.lt z hz;omega
    ·simp at hz;omega⟩ (fun i hi=>by
    have:=hp (i+1) (by simpa using hi);simp only[tE]at this
    simp;omega)
   refine⟨a1,a2,by rw[a3];simp;omega,by simp only[bL];omega⟩
  ·obtain⟨a1,a2,a3,a4⟩:=H7 first h1 bg ps (i+1) l (to++[0]) hl ⟨fun z hz=>by
    rcases a8.1 hz with hz|hz
    ·exact ht.lt z hz
    ·simp at hz;omega⟩ (fun i hi=>by
    have:=hp (i+1) (by simpa using hi);simp only[tE]at this
    simp;omega)
   refine⟨a1,a2,by rw[a3];simp;omega,by simp only[bL];omega⟩
theorem I0{g:Gr}(ok:g.Ok):∀i(h:i<g.ands.length),g.ands[i].1.toNat/2<(ids g.first).length+i/\g.ands[i].2.toNat/2<(ids g.first).length+i:=by
 intro i h;have:=ok.ands i h
 simp;omega
theorem Dz(first:Nat):n_ first [] (ids first):=⟨fun z hz=>by simp[ids]at hz;obtain⟨a,ha,rfl⟩:=hz;simp;omega⟩
theorem SH{g:Gr}(ok:g.Ok){l:List (Int×Int)}{to:List Nat}(hl:ie g.first l)(ht:n_ g.first l to)(h1:to.length=g.all)(h2:l.length<=g.ands.length):(g.dz (l,to)).Ok:=by
 have o1:=ok.ins;have o3:=ok.sum
 have hb:∀a:Int,0<=a->a<g.lits->bt to a.toNat<2*(g.first+l.length):=fun a h3 h4=>oU ht.lt (by have:g.lits=2*g.all:=rfl;omega)
 have hc:(g.dz (l,to)).first=g.first:=by simp[Gr.first,Gr.dz]
 have hv:(g.dz (l,to)).lits=2*(g.first+l.length):=by simp only[Gr.lits,Gr.all,hc];rfl
 refine⟨o1,by simp[Gr.dz];omega,by simp[Gr.dz];exact ok.jT,by simp[Gr.dz];exact ok.same,ok.init,?_,?_,?_⟩
 ·intro a ha;rw[hv];simp only[Gr.dz,cd,eD]at ha;obtain⟨n,⟨b,hx,rfl⟩,rfl⟩:=ha;have h3:=ok.next b hx;have:=hb b h3.1 h3.2;omega
 ·intro a ha;rw[hv];simp only[Gr.dz,cd,eD]at ha;obtain⟨n,⟨b,hx,rfl⟩,rfl⟩:=ha;have h3:=ok.outs b hx;have:=hb b h3.1 h3.2;omega
 ·intro i hi;rw[hc];obtain⟨p,q,e,r1,r2,r3,r4⟩:=hl.at_ i hi;have e2:(g.dz (l,to)).ands[i]=((p:Int),(q:Int)):=e;rw[e2];simp only;omega
theorem Di{g:Gr}(ok:g.Ok):g.dD.Ok/\ie g.first g.dD.ands/\g.dD.ands.length<=g.ands.length:=by
 have o1:=ok.ins
 obtain⟨a1,a2,a3,a4⟩:=QA g.first (by unfold Gr.first;omega) g.ands [] (ids g.first) (OT _) (Dz _) (I0 ok)
 refine⟨SH ok a1 a2 (by rw[a3];simp[Gr.all]) (by simpa using a4),a1,?_⟩;rw[c_,jw]at a4;exact a4
theorem Dp{g:Gr}(ok:g.Ok):g.dm.Ok/\ie g.first g.dm.ands/\g.dm.ands.length<=g.ands.length:=by
 have o1:=ok.ins
 obtain⟨a1,a2,a3,a4⟩:=H7 g.first (by unfold Gr.first;omega) g.bg g.ands 0 [] (ids g.first) (OT _) (Dz _) (I0 ok)
 refine⟨SH ok a1 a2 (by rw[a3];simp[Gr.all]) (by simpa using a4),a1,?_⟩;rw[c_,jw]at a4;exact a4
theorem adz(a b c d:Int):cC (.km [.int,.int]) (.agg [.int .i64 a,.int .i64 b]) (.agg [.int .i64 c,.int .i64 d])=some (decide ((a,b)=(c,d))):=HG (a,b) (c,d)
theorem YQ(a b:List (Int×Int)){ka kb:Nat}(ha:Kd 2 ka a)(hb:Kd 2 kb b)(hs:a.length<2^60):aQ ak Γ BH [.list false ka (a.map dA),.list false kb (b.map dA)] (.bool (decide (a=b))):=by
 refine .run 60 YU.1 (by simp) ?_
 by_cases hl:a.length=b.length
 ·have key:∀n i:Nat,i+n=a.length->aA ak Γ (ytj (.list false ka (a.map dA)) (.list false kb (b.map dA)) (.int .i64 a.length) (.int .i64 i) []) (.ret (.bool (decide (a.drop i=b.drop i)))):=by
   intro n
   induction n with
   |zero=>
    intro i hi;refine .go 60 ?_
    have h1:¬i<a.length:=by omega
    have h2:a.drop i=b.drop i:=by rw[bx (by omega),bx (by omega)]
    simp[h1,h2];exact .back (by simp)
   |succ n ih=>
    intro i hi
    have h1:i<a.length:=by omega
    have h2:i<b.length:=by omega
    obtain rfl:=ha.of h1;obtain rfl:=hb.of h2;have h4:=drop_eq h1 h2;have h5:=adz a[i].1 a[i].2 b[i].1 b[i].2;refine .go 60 ?_
    by_cases h3:a[i]=b[i]
    ·have h6:((a[i].1,a[i].2)=(b[i].1,b[i].2))=True:=bG h3;have h7:(a[i]=b[i])=True:=bG h3;simp(disch:=omega) [h1,h2,h7,h4,h5,h6,-Prod.mk.injEq];refine .aI ?_;have hh:=ih (i+1) (by omega);simp at hh⊢;exact hh
    ·have h6:((a[i].1,a[i].2)=(b[i].1,b[i].2))=False:=jC h3;simp(disch:=omega) [h1,h2,h3,h4,h5,h6,-Prod.mk.injEq];exact .back (by simp)
  simp[hl];refine .inLoop ?_;have hh:=key a.length 0 (by omega);simp[hl]at hh⊢;exact hh
 ·have h2:¬a=b:=fun e=>hl (by rw[e])
  simp[hl,h2];exact .back (by simp)
def fP(a b:Gr):Bool:=decide (a.ins=b.ins)&&decide (a.next=b.next)&&decide (a.init=b.init)&&decide (a.ands=b.ands)&&decide (a.outs=b.outs)
theorem adS(a b:Gr)(ha:a.iU):aQ ak Γ G7 [fJ a,fJ b] (.bool (fP a b)):=by
 have f1:=ha.1;have f2:=ha.2.1;have f3:=ha.2.2.1;have f4:=ha.2.2.2
 refine .run 60 ado.1 (by simp) ?_;unfold fP
 by_cases h1:a.ins=b.ins
 ·simp[h1];refine .call 60 (by simp) (FJ a.next b.next a.hn b.hn (by omega)) ?_
  by_cases h2:a.next=b.next
  ·have hv:=bG h2;simp[hv];refine .call 60 (by simp) (FJ a.init b.init a.hi b.hi (by omega)) ?_
   by_cases h3:a.init=b.init
   ·have hb:=bG h3;simp[hb];refine .call 60 (by simp) (YQ a.ands b.ands a.ha b.ha (by omega)) ?_
    by_cases h4:a.ands=b.ands
    ·have hc:=bG h4;simp[hc];refine .call 60 (by simp) (FJ a.outs b.outs a.ho b.ho (by omega)) ?_;simp;exact .back (by simp)
    ·simp[h4];exact .back (by simp)
   ·simp[h3];exact .back (by simp)
  ·simp[h2];exact .back (by simp)
 ·simp[h1];exact .back (by simp)
def Gr.Ei(g:Gr)(i:Nat):Bool:=
 decide ((g.ands.getD i (0,0)).1<=(g.ands.getD i (0,0)).2)||decide ((g.ands.getD i (0,0)).2<=1)||decide ((g.ands.getD i (0,0)).1.toNat/2=(g.ands.getD i (0,0)).2.toNat/2)||!g.bg.getD (g.first+i) false||decide (g.ands.getD i (0,0)∈g.ands.take i)
def Gr.strict(g:Gr):Bool:=decide (g.check=0)&&!bE g.Ei (List.range g.ands.length)
theorem age{l:List (Int×Int)}{n:Nat}(h:∀i(hi:i<l.length),(0<=l[i].1/\l[i].1<2*(n+i))/\0<=l[i].2/\l[i].2<2*(n+i)):oY l n=false:=by
 induction l generalizing n with
 |nil=>rfl
 |cons p l ih=>
  have h0:=h 0 (by simp);simp only[Fy]at h0;simp only[oY,lx,eZ,jB];refine⟨by omega,ih fun i hi=>?_⟩;have:=h (i+1) (by simpa using hi);simp only[tE]at this;omega
theorem Gr.su{g:Gr}(ok:g.Ok):g.check=0:=by
 obtain⟨h1,h2,h3,h4,h5,h6,h7,h8⟩:=ok;unfold Gr.check
 have e1:g.nz=false:=by simp[Gr.nz];omega
 have e2:bE uN g.init=false:=kK.2 fun a ha=>by have:=h5 a ha;simp[uN];omega
 have e3:bE (eZ g.lits) g.next=false:=kK.2 fun a ha=>by have:=h6 a ha;simp[eZ];omega
 have e4:bE (eZ g.lits) g.outs=false:=kK.2 fun a ha=>by have:=h7 a ha;simp[eZ];omega
 simp[e1,e2,e3,e4,h4,age h8]
theorem Qs(first:Nat)(l:List (Int×Int))(a b:Nat):∃e,(bR first l a b).1=l++e:=by
 unfold bR
 split
 ·exact⟨[],by simp⟩
 ·split
  ·exact⟨[],by simp⟩
  ·exact⟨_,rfl⟩
theorem IE{v:List Bool}{a:Nat}(h:a/2<v.length)(e:List Bool):bZ (v++e) a=bZ v a:=by
 unfold bZ;rw[bz,bz,cF h]
theorem HA:∀(l:List (Int×Int))(v:List Bool),∃e,cn l v=v++e
 |[],v=>⟨[],by simp[cn]⟩
 |p::ps,v=>by
  obtain⟨e,he⟩:=HA ps (v++[bZ v p.1.toNat&&bZ v p.2.toNat]);exact⟨[bZ v p.1.toNat&&bZ v p.2.toNat]++e,by rw[cn,he,cR]⟩
theorem vW(l:List (Int×Int)){v:List Bool}{a:Nat}(h:a/2<v.length):bZ (cn l v) a=bZ v a:=by
 obtain⟨e,he⟩:=HA l v;rw[he,IE h]
theorem OG(w:List Bool)(x:Bool){n:Nat}(h:n=2*w.length):bZ (w++[x]) n=x:=by
 subst h;unfold bZ
 have e1:2*w.length/2=w.length:=by omega
 have e2:¬2*w.length%2=1:=by omega
 rw[e1,bz];simp[e2]
theorem Hs{l:List (Int×Int)}{v:List Bool}{i:Nat}(hi:i<l.length)(h1:l[i].1.toNat/2<v.length+i)(h2:l[i].2.toNat/2<v.length+i):
 bZ (cn l v) (2*(v.length+i))=(bZ (cn l v) l[i].1.toNat&&bZ (cn l v) l[i].2.toNat):=by
 have e:l=l.take i++(l[i]::l.drop (i+1)):=by rw[<-bJ hi,lY]
 have hl:(cn (l.take i) v).length=v.length+i:=by rw[zM,fw];omega
 have e2:cn l v=cn (l.drop (i+1)) (cn (l.take i) v++[bZ (cn (l.take i) v) l[i].1.toNat&&bZ (cn (l.take i) v) l[i].2.toNat]):=by
  conv=>lhs;rw[e,zi,cn]
 generalize cn (l.take i) v=w at*
 have s:∀c,c/2<w.length+1->bZ (cn l v) c=bZ (w++[bZ w l[i].1.toNat&&bZ w l[i].2.toNat]) c:=fun c hc=>by
  rw[e2];exact vW _ (by rw[bC];exact hc)
 rw[s (2*(v.length+i)) (by omega),s l[i].1.toNat (by omega),s l[i].2.toNat (by omega),OG _ _ (by omega),IE (by omega),IE (by omega)]
theorem De{v:List Bool}{a:Nat}:bZ v (a^^^1)=!bZ v a:=by
 rw[nJ];unfold bZ
 split
 ·rename_i h
  have e1:(a+1)/2=a/2:=by omega
  have e2:(a+1)%2=1:=by omega
  rw[e1];simp[h,e2]
 ·rename_i h
  have e1:(a-1)/2=a/2:=by omega
  have e2:¬(a-1)%2=1:=by omega
  have e3:a%2=1:=by omega
  rw[e1];simp[e2,e3]
theorem aho{v:List Bool}(h:bZ v 0=false):bZ v 1=true:=by
 have:=De (v:=v) (a:=0)
 rw[h]at this;exact this
def qn(first:Nat)(l:List (Int×Int)):Prop:=∀i(h:i<l.length),(0<=l[i].1/\l[i].1<2*(first+i))/\0<=l[i].2/\l[i].2<2*(first+i)
theorem qn.push{first:Nat}{l:List (Int×Int)}(h:qn first l){p:Int×Int}(hp:(0<=p.1/\p.1<2*(first+l.length))/\0<=p.2/\p.2<2*(first+l.length)):qn first (l++[p]):=by
 intro i hi
 by_cases h2:i<l.length
 ·rw[xF h2];exact h i h2
 ·have e:i=l.length:=by simp at hi;omega
  subst e;simp only[Fq (aT _),Fs,Fy];omega
theorem qn.and{first:Nat}{l:List (Int×Int)}(h:qn first l){a b:Nat}(ha:a<2*(first+l.length))(hb:b<2*(first+l.length)):qn first (bR first l a b).1:=by
 unfold bR
 split
 ·exact h
 ·split
  ·exact h
  ·refine h.push ?_;have:=Nat.max_lt.2 ⟨ha,hb⟩
   have:min a b<=max a b:=by omega
   simp only;omega
theorem PL{first:Nat}{l:List (Int×Int)}{v:List Bool}(hv:v.length=first)(hz:bZ v 0=false)(h1:1<=first)(wf:qn first l){a b:Nat}(ha:a<2*(first+l.length))(hb:b<2*(first+l.length)):
 bZ (cn (bR first l a b).1 v) (bR first l a b).2=(bZ (cn l v) a&&bZ (cn l v) b):=by
 have hc:bZ (cn l v) 0=false:=by rw[vW _ (by omega)];exact hz
 have hM:max a b<2*(first+l.length):=Nat.max_lt.2 ⟨ha,hb⟩
 have hm:min a b<2*(first+l.length):=by omega
 have hL:(cn l v).length=first+l.length:=by rw[zM,hv]
 have key:(bZ (cn l v) a&&bZ (cn l v) b)=(bZ (cn l v) (max a b)&&bZ (cn l v) (min a b)):=by
  rcases Nat.le_total a b with h|h
  ·rw[Nat.max_eq_right h,rR h,Bool.and_comm]
  ·rw[Nat.max_eq_left h,Nat.min_eq_right h]
 rw[key];unfold bR;generalize max a b=p at*;generalize min a b=q at*
 cases hk:mn p q with
 |some c=>
  simp only;unfold mn at hk
  split at hk
  ·rename_i h2
   cases hk
   rw[hc]
   rcases h2 with rfl|rfl
   ·rw[hc,Bool.and_false]
   ·rw[De];cases bZ (cn l v) p<;>rfl
  ·split at hk
   ·rename_i h2
    cases hk
    rcases h2 with rfl|rfl
    ·rw[aho hc,qt]
    ·rw[oC]
   ·cases hk
 |none=>
  simp only
  cases hi:iK ((p:Int),(q:Int)) l 0 with
  |some i=>
   simp only;obtain⟨_,h2,h3⟩:=HU hi;simp only[Fp]at h2 h3;have hw:=wf i h2;have:=Hs (v:=v) h2 (by omega) (by omega);rw[hv,h3]at this;exact this
  |none=>
   simp only;rw[zi,cn,cn];rw[OG _ _ (by omega)];rfl
theorem ahy{first:Nat}{l:List (Int×Int)}{v:List Bool}(hv:v.length=first){a b c:Nat}(hc:c<2*(first+l.length)):bZ (cn (bR first l a b).1 v) c=bZ (cn l v) c:=by
 obtain⟨e,he⟩:=Qs first l a b
 rw[he,zi,vW _ (by rw[zM];omega)]
theorem aci(a:Gr):fP a a=true:=by simp[fP]
structure alr(g:Gr)(a b:Int):Prop where
 ok:g.Ok
 a1:0<=a/\a<g.lits
 b1:0<=b/\b<g.lits
 R:g.eQ a b=g.jY (bR g.first g.ands a.toNat b.toNat).1
 C:g.fY a b=(bR g.first g.ands a.toNat b.toNat).2
 s6:(g.eQ a b).Ok
 lt:g.fY a b<(g.eQ a b).lits
 le:g.lits<=(g.eQ a b).lits
theorem SY{g:Gr}{a b:Int}(h:g.k_ a b=0):alr g a b:=by
 have hR:g.eQ a b=g.jY (bR g.first g.ands a.toNat b.toNat).1:=by unfold Gr.eQ;rw[if_pos h]
 have hC:g.fY a b=(bR g.first g.ands a.toNat b.toNat).2:=by unfold Gr.fY;rw[if_pos h]
 unfold Gr.k_ at h
 split at h
 ·contradiction
 ·rename_i hc;have ok:=Gr.rk (Fo.1 hc)
  split at h
  ·cases h
  ·rename_i hl;rw[not_or]at hl;obtain⟨a1,a2⟩:=hl;simp[eZ]at a1 a2
   split at h
   ·cases h
   ·rename_i hs;have h2:g.lits=2*(g.first+g.ands.length):=rfl
    have ha:a.toNat<2*(g.first+g.ands.length):=by omega
    have hb:b.toNat<2*(g.first+g.ands.length):=by omega
    have h1:1<=g.first:=by unfold Gr.first;omega
    obtain⟨l1,l2⟩:=wz ha hb h1
    have wf:qn g.first (bR g.first g.ands a.toNat b.toNat).1:=qn.and ok.ands ha hb
    have hv:(g.jY (bR g.first g.ands a.toNat b.toNat).1).lits=2*(g.first+(bR g.first g.ands a.toNat b.toNat).1.length):=rfl;refine⟨ok,by omega,by omega,hR,hC,?_,?_,?_⟩
    ·rw[hR];refine⟨ok.ins,by simp only;omega,ok.jT,ok.same,ok.init,fun x hx=>?_,fun x hx=>?_,wf⟩
     ·rw[hv];have:=ok.next x hx;omega
     ·rw[hv];have:=ok.outs x hx;omega
    ·rw[hC,hR,hv];exact l1
    ·rw[hR,hv,h2];omega
abbrev JV(p s:List Ob)(c0 c1 c2 c3 c4 c5:AV)(i:Nat):List Ob:=p++.cells [c0,c1,c2,c3,c4,c5,.sl (p.length+(s.length+1)) 0 i]::(s++[.row 1 au ((ids i).map iN) none true false])
theorem Sv(p s:List Ob)(c0 c1 c2 c3 c4 c5:AV)(f:Nat)(hf:f<2^20)(hp:∀m,c8 (p.length+(s.length+1)) m p=true)(hs:∀m,c8 (p.length+(s.length+1)) m s=true)
 (hc:∀m,dx (p.length+(s.length+1)) m [c0,c1,c2,c3,c4,c5]=true)(base:Nat)(hb:base<=p.length+(s.length+1))(up:List Fr)(ds:List dO)(hv:ds=[]):
 ∀n i:Nat,i+n=f->AM.Reach ak Γ (ypl (.ptr p.length 0) (.int .i64 f) (.int .i64 i) (JV p s c0 c1 c2 c3 c4 c5 i) ⟨ds,.norm,base,up⟩)
  (ypm (.ptr p.length 0) (JV p s c0 c1 c2 c3 c4 c5 f) ⟨ds,.norm,base,up⟩):=by
 subst hv;intro n
 induction n with
 |zero=>
  intro i hi
  obtain rfl:i=f:=by omega
  refine .dh 60 ?_;simp;exact .exit rfl rfl
 |succ n ih=>
  intro i hi
  have q1:(i:Int)<f:=by omega
  have hh:=ih (i+1) (by omega);have h1:=hp (i+1);have h2:=hs (i+1);have h3:=hc (i+1);simp only[dx,aB,qt]at h3;obtain⟨w0,w1,w2,w3,w4,w5⟩:=h3;refine .dh 60 ?_;simp(disch:=(first|omega|(simp;omega))) [q1];refine .aI ?_;simp
  have e1:(List.map iN (ids i)++[AV.int .i64 (2*(i:Int))]).length=i+1:=by simp
  refine .nN (i:=p.length+(s.length+1)) (by simp;exact⟨rfl,rfl,rfl,rfl,rfl⟩) (by simpa using hb) (by simp) (by rw[e1];simp[h1,h2,w0,w1,w2,w3,w4,w5]) ?_;rw[JV,Im]at hh;simp at hh⊢;exact hh
theorem Qq(ins:Int)(x1 x2:AV)(h1:(∃f k l,x1=.list f k l)\/∃i o n,x1=.sl i o n)(h2:(∃f k l,x2=.list f k l)\/∃i o n,x2=.sl i o n)(h:List Ob):∀up,AM.Reach ak Γ (.cl vC [.agg [.int .i64 ins,x1,x2,.list true 0 [],.list true 0 []]] up h)
 (.back up (.ptr (h.length+2) 0) (h++[.cells [.int .i64 ins,x1,x2,.list true 0 [],.list true 0 []],.map [] true,.cells [.int .i64 ins,x1,x2,.sl (h.length+3) 0 0,.list true 0 [],.mp (h.length+1),.list true 0 []],.row 2 da [] none true false])):=by
 intro up;have hv:=Mm (Γ:=Γ) (k:=0) [] .nil (by simp)
 rcases h1 with⟨f1,k1,l1,rfl⟩|⟨i1,o1,n1,rfl⟩<;>rcases h2 with⟨f2,k2,l2,rfl⟩|⟨i2,o2,n2,rfl⟩
 all_goals
  refine .bp 60 M4.1 ?_;simp;refine .ji 60 (by simp) hv ?_;simp;refine .inLoop ?_;refine .aY 60 ?_;simp
abbrev TE(g:Gr):List Ob:=[cT g,.cells [.int .i64 0,.sl 2 0 0,.sl 3 0 0,.sl 4 0 0,.sl 5 0 0],.row 1 au [] none true false,.row 1 au [] none true false,.row 2 da [] none true false,.row 1 au [] none true false,
 cT g,.row 1 au (g.init.map i64) none true false,.cells [.int .i64 g.ins,.list false g.kn (g.next.map i64),.sl 7 0 g.init.length,.list true 0 [],.list true 0 []]]
abbrev sW(g:Gr)(es:List ((Int×Int)×Nat))(l:List (Int×Int))(to:List Nat)(q:List Ob):List Ob:=
 TE g++(.map (es.map iR) true::.cells [.int .i64 g.ins,.list false g.kn (g.next.map i64),.sl 7 0 g.init.length,.sl 11 0 l.length,.list true 0 [],.mp 9,.sl 12 0 to.length]::.row 2 da (l.map dA) none true false::.row 1 au (to.map iN) none true false::q)
theorem aia(g:Gr)(ok:g.Ok){o:Out}(l1:List (Int×Int))(hv:List Nat)(h5:fQ g.first g.ands [] (ids g.first)=(l1,hv))
 (hc:∀es,kW g.first l1 es->l1.length<=g.ands.length->hv.length=g.all->n_ g.first l1 hv->aA ak Γ (Lm (.ptr 0 0) (.ptr 1 0) (.ptr 10 0) (sW g es l1 hv [])) o):
 ∀n i:Nat,i+n=g.ands.length->∀es l to,kW g.first l es->l.length<=i->to.length=g.first+i->n_ g.first l to->fQ g.first (g.ands.drop i) l to=(l1,hv)->
  aA ak Γ (yiU (.ptr 0 0) (.ptr 1 0) (.ptr 10 0) (.list false g.ka (g.ands.map dA)) (.int .i64 g.ands.length) (.int .i64 i) (sW g es l to [])) o:=by
 have o1:=ok.ins;have o3:=ok.sum;have o4:=ok.jT
 have e2:g.first<=8001:=by unfold Gr.first;omega
 have hq:1<=g.first:=by unfold Gr.first;omega
 intro n
 induction n with
 |zero=>
  intro i hi es l to he hl ht h2 hS
  have q1:¬i<g.ands.length:=by omega
  rw[bx (by omega)]at hS;simp only[fQ,b9]at hS;obtain⟨rfl,rfl⟩:=hS;refine .reach (.dh 60 (c':=Lm (.ptr 0 0) (.ptr 1 0) (.ptr 10 0) (sW g es l to [])) ?_) (hc es he (by omega) (by unfold Gr.all;omega) h2);simp[q1];exact .exit rfl rfl
 |succ n ih=>
  intro i hi es l to he hl ht h2 hS
  have q1:i<g.ands.length:=by omega
  have q2:=bG (g.ha.of q1);rw[bJ q1,fQ]at hS;obtain⟨⟨b1,b2⟩,b3,b4⟩:=ok.ands i q1;obtain⟨x,hx⟩:=gW b1;obtain⟨y,hy⟩:=gW b3;rw[hx,hy]at hS;simp only[eo]at hS
  have hk:x/2<to.length:=by omega
  have hj:y/2<to.length:=by omega
  have ha:=oU h2.lt hk;have hb:=oU h2.lt hj;obtain⟨h6,ys⟩:=wz ha hb hq
  have h4:∀z∈to,z<2^40:=fun z hz=>by have:=h2.lt z hz;omega
  have k1:=wE (Γ:=Γ) to h4 x hk (by omega) 10 12 (h:=sW g es l to [.cells [.int .i64 x,.int .i64 y]]) rfl rfl (by simp);have k2:=wE (Γ:=Γ) to h4 y hj (by omega) 10 12 (h:=sW g es l to [.cells [.int .i64 x,.int .i64 y]]) rfl rfl (by simp)
  have h7:=Dc g.first l (bt to x) (bt to y)
  obtain⟨es',gr,hd,hf,hp,hg,k3⟩:=SX (Γ:=Γ) (p:=TE g) (q:=[.row 1 au (to.map iN) none true false,.cells [.int .i64 x,.int .i64 y]]) (x1:=.list false g.kn (g.next.map i64)) (x2:=.sl 7 0 g.init.length) (x4:=.list true 0 []) (come:=.sl 12 0 to.length)
   ⟨g.ins,g.next,g.init,[],[],g.kn,1,2,0,g.hn,.self,.self,.nil⟩ o1 (by simp;omega) l (by omega) es he (bt to x) (bt to y) (by omega) (by omega) (fun s=>by simp) (fun s=>by simp) (fun s=>by simp)
  have ps:(⟨g.ins,g.next,g.init,[],[],g.kn,1,2,0,g.hn,.self,.self,.nil⟩:Gr).first=g.first:=rfl
  rw[ps]at k3 hf
  have hh:=ih (i+1) (by omega) es' (bR g.first l (bt to x) (bt to y)).1 (to++[(bR g.first l (bt to x) (bt to y)).2]) hf (by omega) (by simp;omega) ⟨fun z hz=>by
   rcases a8.1 hz with hz|hz
   ·have:=h2.lt z hz;omega
   ·simp at hz;omega⟩ hS
  generalize bR g.first l (bt to x) (bt to y)=r at*
  refine .go 60 ?_;simp[q1,q2];refine .dr 60 ?_;simp(disch:=omega) [hx,hy];refine .reach (by simp) k1 ?_;simp(disch:=omega) [hx,hy];refine .reach (by simp) k2 ?_;simp(disch:=omega) [hx,hy];refine .reach (by simp) k3 ?_
  rcases hg with rfl|⟨jx,jy,rfl⟩
  ·simp(disch:=(first|omega|(simp;omega))) [hx,hy];refine .aI ?_;simp;refine .drop 13 rfl (by simp) (by simp) (by simp) ?_
   have e1:(to.map iN++[AV.int .i64 (r.2:Int)]).length=to.length+1:=by simp
   refine .nR (i:=11) rfl hp (by simp) (by simp) (by simp) ?_;refine .nR (i:=12) rfl (.inr rfl) (by simp) (by simp) (by rw[e1];simp) ?_;simp at hh⊢;exact hh
  ·simp(disch:=(first|omega|(simp;omega))) [hx,hy];refine .aI ?_;simp;refine .drop 13 rfl (by simp) (by simp) (by simp) ?_
   have e1:(to.map iN++[AV.int .i64 (r.2:Int)]).length=to.length+1:=by simp
   refine .nR (i:=11) rfl hp (by simp) (by simp) (by simp) ?_;refine .nR (i:=12) rfl (.inr rfl) (by simp) (by simp) (by rw[e1];simp) ?_;simp at hh⊢;exact hh
abbrev JG(x:Gr):List Ob:=
 [.cells [.int .i64 0,.sl 1 0 0,.sl 2 0 0,.sl 3 0 0,.sl 4 0 0],.row 1 au [] none true false,.row 1 au [] none true false,.row 2 da [] none true false,.row 1 au [] none true false,
  .cells [.int .i64 x.ins,.sl 6 0 x.next.length,.sl 7 0 x.init.length,.sl 8 0 x.ands.length,.sl 9 0 x.outs.length],.row 1 au (x.next.map i64) none true false,.row 1 au (x.init.map i64) none true false,.row 2 da (x.ands.map dA) none true false,.row 1 au (x.outs.map i64) none true false,.row 1 bT (x.bg.map .bool) none true false]
abbrev JK(x:Gr):List Ob:=JG x++[.cells [.int .i64 x.ins,.sl 6 0 x.next.length,.sl 7 0 x.init.length,.sl 8 0 x.ands.length,.sl 9 0 x.outs.length],.row 1 au (x.init.map i64) none true false,.cells [.int .i64 x.ins,.sl 6 0 x.next.length,.sl 12 0 x.init.length,.list true 0 [],.list true 0 []]]
abbrev uQ(x:Gr)(es:List ((Int×Int)×Nat))(l:List (Int×Int))(to:List Nat)(q:List Ob):List Ob:=
 JK x++(.map (es.map iR) true::.cells [.int .i64 x.ins,.sl 6 0 x.next.length,.sl 12 0 x.init.length,.sl 16 0 l.length,.list true 0 [],.mp 14,.sl 17 0 to.length]::.row 2 da (l.map dA) none true false::.row 1 au (to.map iN) none true false::q)
@[simp] theorem aDc(to:List Nat)(l:List Int):(List.map iN (eD to l)).take l.length=List.map iN (eD to l):=by rw[cj];simp
theorem aj8(x:Gr)(hj:x.kn=1/\x.ki=1/\x.ka=2/\x.ko=1)(ok:x.Ok){o:Out}(l1:List (Int×Int))(hx:List Nat)
 (hc:∀es,kW x.first l1 es->l1.length<=x.ands.length->hx.length=x.all->n_ x.first l1 hx->aA ak Γ (UY (.ptr 0 0) (.ptr 5 0) (.ptr 15 0) (uQ x es l1 hx [])) o):
 ∀n i:Nat,i+n=x.ands.length->∀es l to,kW x.first l es->l.length<=i->to.length=x.first+i->n_ x.first l to->dU x.first x.bg (x.ands.drop i) i l to=(l1,hx)->
  aA ak Γ (yiR (.ptr 0 0) (.ptr 5 0) (.sl 10 0 x.all) (.ptr 15 0) (.sl 8 0 x.ands.length) (.int .i64 x.ands.length) (.int .i64 i) (uQ x es l to [])) o:=by
 have o1:=ok.ins;have o3:=ok.sum;have o4:=ok.jT;obtain⟨s1,s2,s3,s4⟩:=hj;have h2:=sj (Γ:=Γ) x o1.1 o1.2 (by omega);rw[fJ,s1,s2,s3,s4]at h2
 have h7:x.first<=8001:=by unfold Gr.first;omega
 have hd:1<=x.first:=by unfold Gr.first;omega
 have h4:=RG x;intro n
 induction n with
 |zero=>
  intro i hi es l to he hl ht hv hS
  have q1:¬i<x.ands.length:=by omega
  rw[bx (by omega)]at hS;simp only[dU,b9]at hS;obtain⟨rfl,rfl⟩:=hS;refine .reach (.dh 60 (c':=UY (.ptr 0 0) (.ptr 5 0) (.ptr 15 0) (uQ x es l to [])) ?_) (hc es he (by omega) (by unfold Gr.all;omega) hv);simp[q1];exact .exit rfl rfl
 |succ n ih=>
  intro i hi es l to he hl ht hv hS
  have q1:i<x.ands.length:=by omega
  rw[bJ q1,dU]at hS;obtain⟨⟨b1,b2⟩,b3,b4⟩:=ok.ands i q1;obtain⟨a,ha⟩:=gW b1;obtain⟨b,hb⟩:=gW b3;rw[ha,hb]at hS;simp only[eo]at hS
  have q3:x.first+i<x.all:=by unfold Gr.all;omega
  have e1:(x.first:Int)+i=((x.first+i:Nat):Int):=by omega
  rw[bz,aW (by omega),kH]at hS;refine .go 60 ?_;simp(disch:=omega) [q1];refine .call 60 (by simp) h2 ?_
  by_cases hk:x.bg[x.first+i]=true
  ·rw[if_pos hk]at hS
   have hf:a/2<to.length:=by omega
   have hy:b/2<to.length:=by omega
   have hg:=oU hv.lt hf;have q2:=oU hv.lt hy;obtain⟨fz,ck⟩:=wz hg q2 hd
   have hp:∀z∈to,z<2^40:=fun z hz=>by have:=hv.lt z hz;omega
   have k1:=wE (Γ:=Γ) to hp a hf (by omega) 15 17 (h:=uQ x es l to [.cells [.int .i64 a,.int .i64 b]]) rfl rfl (by simp);have k2:=wE (Γ:=Γ) to hp b hy (by omega) 15 17 (h:=uQ x es l to [.cells [.int .i64 a,.int .i64 b]]) rfl rfl (by simp)
   have gu:=Dc x.first l (bt to a) (bt to b)
   obtain⟨es',gr,ps,h5,hq,h6,k3⟩:=SX (Γ:=Γ) (p:=JK x) (q:=[.row 1 au (to.map iN) none true false,.cells [.int .i64 a,.int .i64 b]]) (x1:=.sl 6 0 x.next.length) (x2:=.sl 12 0 x.init.length) (x4:=.list true 0 []) (come:=.sl 17 0 to.length)
    ⟨x.ins,x.next,x.init,[],[],1,1,2,0,.self,.self,.self,.nil⟩ o1 (by simp;omega) l (by omega) es he (bt to a) (bt to b) (by omega) (by omega) (fun s=>by simp) (fun s=>by simp) (fun s=>by simp)
   have ys:(⟨x.ins,x.next,x.init,[],[],1,1,2,0,.self,.self,.self,.nil⟩:Gr).first=x.first:=rfl
   rw[ys]at k3 h5
   have hh:=ih (i+1) (by omega) es' (bR x.first l (bt to a) (bt to b)).1 (to++[(bR x.first l (bt to a) (bt to b)).2]) h5 (by omega) (by simp;omega) ⟨fun z hz=>by
    rcases a8.1 hz with hz|hz
    ·have:=hv.lt z hz;omega
    ·simp at hz;omega⟩ hS
   generalize bR x.first l (bt to a) (bt to b)=r at*
   simp(disch:=omega) [e1,q3,h4,hk,-Int.natCast_add];refine .dr 60 ?_;simp(disch:=omega) [ha,hb];refine .reach (by simp) k1 ?_;simp(disch:=omega) [ha,hb];refine .reach (by simp) k2 ?_;simp(disch:=omega) [ha,hb];refine .reach (by simp) k3 ?_
   rcases h6 with rfl|⟨jx,jy,rfl⟩
   ·simp(disch:=(first|omega|(simp;omega))) [ha,hb];refine .aI ?_;simp;refine .drop 18 rfl (by simp) (by simp) (by simp) ?_
    have e2:(to.map iN++[AV.int .i64 (r.2:Int)]).length=to.length+1:=by simp
    refine .nR (i:=16) rfl hq (by simp) (by simp) (by simp) ?_;refine .nR (i:=17) rfl (.inr rfl) (by simp) (by simp) (by rw[e2];simp) ?_;simp at hh⊢;exact hh
   ·simp(disch:=(first|omega|(simp;omega))) [ha,hb];refine .aI ?_;simp;refine .drop 18 rfl (by simp) (by simp) (by simp) ?_
    have e2:(to.map iN++[AV.int .i64 (r.2:Int)]).length=to.length+1:=by simp
    refine .nR (i:=16) rfl hq (by simp) (by simp) (by simp) ?_;refine .nR (i:=17) rfl (.inr rfl) (by simp) (by simp) (by rw[e2];simp) ?_;simp at hh⊢;exact hh
  ·rw[if_neg hk]at hS
   have hh:=ih (i+1) (by omega) es l (to++[0]) he (by omega) (by simp;omega) ⟨fun z hz=>by
    rcases a8.1 hz with hz|hz
    ·exact hv.lt z hz
    ·simp at hz;omega⟩ hS
   simp(disch:=(first|omega|(simp;omega))) [e1,q3,h4,hk,-Int.natCast_add];refine .aI ?_;simp;refine .drop 18 rfl (by simp) (by simp) (by simp) ?_
   have e2:(to.map iN++[AV.int .i64 0]).length=to.length+1:=by simp
   refine .nR (i:=17) rfl (.inr rfl) (by simp) (by simp) (by rw[e2];simp) ?_;simp at hh⊢;exact hh
theorem aj2(x:Gr)(hb:x.kn=1/\x.ki=1/\x.ka=2/\x.ko=1)(ok:x.Ok):aA ak Γ (.fr ⟨.run,pz,[.code (.seq (.av Ks) (.seq (.seq (.av K1) (.block 2 EW (.loop Ep En))) (.seq (.av Ev) .ret)))],
 [U,U,.ptr 0 0,U,U,U,U,U,.ptr 5 0,.sl 10 0 x.bg.length]++List.replicate 85 U,[],.norm,0⟩ [] (JG x)) (.ret (.aH [fJ x.dm,.int .i64 0])):=by
 have o1:=ok.ins;have o3:=ok.sum;have o4:=ok.jT;have hs:=hb;obtain⟨s1,s2,s3,s4⟩:=hs;have h2:=sj (Γ:=Γ) x o1.1 o1.2 (by omega);rw[fJ,s1,s2,s3,s4]at h2
 have h4:x.first<=8001:=by unfold Gr.first;omega
 have hx:=ok.same;rw[RG];refine .go 60 ?_;simp;refine .enter 60 M8.1 ?_;simp;refine .dr 60 ?_;simp;refine .call (by simp) (Mr (Γ:=Γ) x.init (k:=1) .self (by omega)) ?_;simp;refine .reach (by simp) (Qq x.ins _ _ (.inr ⟨_,_,_,rfl⟩) (.inr ⟨_,_,_,rfl⟩) _) ?_;simp;refine .call 60 (by simp) h2 ?_;simp;refine .mN 15 6 1 au rfl rfl (by omega) ?_;simp;refine .inLoop ?_
 have kb:=fun up=>Sv (Γ:=Γ) (JK x++[.map [] true]) [.row 2 da [] none true false]
  (.int .i64 x.ins) (.sl 6 0 x.next.length) (.sl 12 0 x.init.length) (.sl 16 0 0) (.list true 0 []) (.mp 14) x.first (by omega) (by intro m;simp) (by intro m;simp) (by intro m;simp) 11 (by simp) up [] rfl x.first 0 (by omega)
 simp[ids]at kb⊢;refine .reach (kb _) ?_;refine .go 60 ?_;simp;refine .inLoop ?_
 generalize hS:dU x.first x.bg x.ands 0 [] (ids x.first)=r
 obtain⟨l1,hv⟩:=r
 have hL:=aj8 (Γ:=Γ) x hb ok (o:=.ret (.aH [fJ x.dm,.int .i64 0])) l1 hv ?_ x.ands.length 0 (by omega) [] [] (ids x.first) (H4 _) (aT _) (by simp) ⟨fun z hz=>by
  simp[ids]at hz;obtain⟨a,ha,rfl⟩:=hz;simp;omega⟩ (by simpa using hS)
 ·simp[ids]at hL⊢;exact hL
 intro es he ih hf hj
 have hl:x.dm=x.dz (l1,hv):=by unfold Gr.dm;rw[hS]
 have q1:x.all<=12001:=by unfold Gr.all;omega
 have hk:x.lits=2*x.all:=rfl
 have hc:∀z∈hv,z<2^40:=fun z hz=>by have:=hj.lt z hz;omega
 have kA:=fun q=>SL (Γ:=Γ) hv hc x.next (by omega) (fun a ha=>by have:=ok.next a ha;omega) (by omega) 15 17 6 (h:=uQ x es l1 hv (.cells [.int .i64 x.ins,.sl 6 0 x.next.length,.sl 7 0 x.init.length,.sl 8 0 x.ands.length,.sl 9 0 x.outs.length]::.cells [.int .i64 0,.sl 20 0 0,.sl 21 0 0,.sl 22 0 0,.sl 23 0 0]::q)) rfl rfl rfl
 have kB:=fun q=>SL (Γ:=Γ) hv hc x.outs (by omega) (fun a ha=>by have:=ok.outs a ha;omega) (by omega) 15 17 9 (h:=uQ x es l1 hv (.cells [.int .i64 x.ins,.sl 6 0 x.next.length,.sl 7 0 x.init.length,.sl 8 0 x.ands.length,.sl 9 0 x.outs.length]::.cells [.int .i64 0,.sl 20 0 0,.sl 21 0 0,.sl 22 0 0,.sl 23 0 0]::q)) rfl rfl rfl
 rw[hl];refine .go 60 ?_;simp;refine .enter 60 MC.1 ?_;simp;refine .dr 60 ?_;simp;refine .reach (by simp) (kA [.row 1 au [] none true false,.row 1 au [] none true false,.row 2 da [] none true false,.row 1 au [] none true false] (by intro m;simp)) ?_;simp;refine .reach (by simp) (kB [.row 1 au [] none true false,.row 1 au [] none true false,.row 2 da [] none true false,.row 1 au [] none true false,.row 1 au [] none true false,.row 1 au ((eD hv x.next).map iN) none true false] (by intro m;simp)) ?_;simp[Gr.dz];exact .back (by simp)
theorem ajU(g:Gr)(ok:g.Ok)(l1:List (Int×Int))(h2:List Nat)(hx:g.dD=g.dz (l1,h2))(hc:g.dD.Ok)(es:List ((Int×Int)×Nat))(q1:l1.length<=g.ands.length)(h4:h2.length=g.all)(hj:n_ g.first l1 h2):
 aA ak Γ (Lm (.ptr 0 0) (.ptr 1 0) (.ptr 10 0) (sW g es l1 h2 [])) (.ret (.aH [fJ g.dD.dm,.int .i64 0])):=by
 have o1:=ok.ins;have o3:=ok.sum;have o4:=ok.jT
 have ih:g.first<=8001:=by unfold Gr.first;omega
 have hl:g.all<=12001:=by unfold Gr.all;omega
 have hk:g.lits=2*g.all:=rfl
 have hv:∀z∈h2,z<2^40:=fun z hz=>by have:=hj.lt z hz;omega
 have kA:=fun q=>Ta (Γ:=Γ) h2 hv g.next g.hn (by omega) (fun a ha=>by have:=ok.next a ha;omega) (by omega) 10 12 (h:=sW g es l1 h2 (cT g::.cells [.int .i64 0,.sl 15 0 0,.sl 16 0 0,.sl 17 0 0,.sl 18 0 0]::q)) rfl rfl
 have kB:=fun q=>Ta (Γ:=Γ) h2 hv g.outs g.ho (by omega) (fun a ha=>by have:=ok.outs a ha;omega) (by omega) 10 12 (h:=sW g es l1 h2 (cT g::.cells [.int .i64 0,.sl 15 0 0,.sl 16 0 0,.sl 17 0 0,.sl 18 0 0]::q)) rfl rfl
 refine .go 60 ?_;simp;refine .enter 60 MC.1 ?_;simp;refine .dr 60 ?_;simp;refine .reach (by simp) (kA [.row 1 au [] none true false,.row 1 au [] none true false,.row 2 da [] none true false,.row 1 au [] none true false] (by intro m;simp)) ?_;simp;refine .reach (by simp) (kB [.row 1 au [] none true false,.row 1 au [] none true false,.row 2 da [] none true false,.row 1 au [] none true false,.row 1 au [] none true false,.row 1 au ((eD h2 g.next).map iN) none true false] (by intro m;simp)) ?_;simp
 have ex:fJ g.dD=.agg [.int .i64 g.ins,.list false 1 ((eD h2 g.next).map iN),.list false 1 (g.init.map i64),.list false 2 (l1.map dA),.list false 1 ((eD h2 g.outs).map iN)]:=by
  rw[hx];simp[Gr.dz]
 have hb:=aeG (Γ:=Γ) g.dD hc;rw[ex]at hb;refine .call 3 (by simp) hb ?_;simp;refine .na [1,5,49,50,51,52,53] ?_;simp;refine .gc 0 [1,2,3,4,5,23,20,7,11,22,28] (by simp) (by decide) ?_;have hh:=aj2 (Γ:=Γ) g.dD ⟨by rw[hx];rfl,by rw[hx];rfl,by rw[hx];rfl,by rw[hx];rfl⟩ hc;simp[JG,hx,Gr.dz]at hh⊢;exact hh
theorem Gu(g:Gr)(hf:g.iU):aQ ak Γ pz [fJ g] (.aH [fJ g.normal,.int .i64 g.check]):=by
 refine .run 60 abJ.1 (by simp) ?_;simp;refine .call 60 (by simp) (vE g hf) ?_
 by_cases hc:g.check=0
 ·have ok:=Gr.rk hc;have o1:=ok.ins;have o3:=ok.sum;have o4:=ok.jT;have h2:=sj (Γ:=Γ) g o1.1 o1.2 (by omega)
  have hv:g.normal=g.dD.dm:=by unfold Gr.normal;rw[if_pos hc]
  rw[hv];simp[hc];refine .enter 60 M8.1 ?_;simp;refine .dr 60 ?_;simp;refine .call (by simp) (Mr (Γ:=Γ) g.init g.hi hf.2.1) ?_;simp;refine .reach (by simp) (Qq g.ins _ _ (.inl ⟨_,_,_,rfl⟩) (.inr ⟨_,_,_,rfl⟩) _) ?_;simp;refine .call 60 (by simp) h2 ?_;simp;refine .mN 10 6 1 au rfl rfl (by omega) ?_;simp;refine .inLoop ?_
  have hl:g.first<=8001:=by unfold Gr.first;omega
  have kb:=fun up=>Sv (Γ:=Γ) [cT g,.cells [.int .i64 0,.sl 2 0 0,.sl 3 0 0,.sl 4 0 0,.sl 5 0 0],.row 1 au [] none true false,.row 1 au [] none true false,.row 2 da [] none true false,.row 1 au [] none true false,
   cT g,.row 1 au (g.init.map i64) none true false,.cells [.int .i64 g.ins,.list false g.kn (g.next.map i64),.sl 7 0 g.init.length,.list true 0 [],.list true 0 []],.map [] true] [.row 2 da [] none true false]
   (.int .i64 g.ins) (.list false g.kn (g.next.map i64)) (.sl 7 0 g.init.length) (.sl 11 0 0) (.list true 0 []) (.mp 9) g.first (by omega) (by intro m;simp) (by intro m;simp) (by intro m;simp) 6 (by simp) up [] rfl g.first 0 (by omega)
  simp[ids]at kb⊢;refine .reach (kb _) ?_;refine .go 60 ?_;simp;refine .inLoop ?_;obtain⟨hb,_,hlen⟩:=Di ok
  have hS:fQ g.first g.ands [] (ids g.first)=((fQ g.first g.ands [] (ids g.first)).1,(fQ g.first g.ands [] (ids g.first)).2):=rfl
  have hL:=aia (Γ:=Γ) g ok (o:=.ret (.aH [fJ g.dD.dm,.int .i64 0])) _ _ hS (fun es he hx hk hj=>ajU g ok _ _ rfl hb es hx hk hj) g.ands.length 0 (by omega) [] [] (ids g.first) (H4 _) (aT _) (by simp) (Dz _) (by simp);simp[ids]at hL⊢;exact hL
 ·have hv:g.normal=ga:=by unfold Gr.normal;rw[if_neg hc]
  rw[hv];simp[hc,ga];exact .back (by simp)
@[simp] theorem aED(n:Nat):((60:Int)<n)=(60<n):=propext (by omega)
@[simp] theorem aEG(n:Nat):((n:Int)<=60)=(n<=60):=propext (by omega)
@[simp] theorem aEL(n:Nat):((n:Int)<=40)=(n<=40):=propext (by omega)
theorem Gr.Ok.iU{g:Gr}(h:g.Ok):g.iU:=by
 have h1:=h.ins;have h2:=h.sum;have h3:=h.jT;have h4:=h.same
 unfold Gr.iU;omega
theorem Rf:ga.iU:=by unfold Gr.iU ga;decide
abbrev J3:Ob:=.row 1 au [] none true false
abbrev al7:Ob:=.row 2 da [] none true false
def bN(h:List Ob):Prop:=∀m,h.length<=m->cz m h=true
theorem QU{m:Nat}{o:Ob}(ho:iL m o=true):∀{h:List Ob}(i:Nat),cz m h=true->cz m (h.set i o)=true
 |[],i,h1=>h1
 |o'::h,0,h1=>by
  simp only[cz,aB,xv]at h1⊢;exact⟨ho,h1.2⟩
 |o'::h,i+1,h1=>by
  simp only[cz,aB,rQ]at h1⊢;exact⟨h1.1,QU ho i h1.2⟩
theorem bN.set{h:List Ob}(hw:bN h){o:Ob}(hb:∀m,h.length<=m->iL m o=true)(i:Nat):bN (h.set i o):=fun m hm=>by
 rw[kD]at hm;exact QU (hb m hm) i (hw m hm)
def eT(h:List Ob):Prop:=∀i m,h.length<=i->c8 i m h=true
abbrev ak1:AV:=.bW Gp (.agg [])
def dd{α:Type}(ev:α->AV)(i:Nat)(up:List Fr)(h:List Ob)(r:Gr×Option α):AM.ar:=
 match r.2 with
 |some a=>.back up (ev a) (h.set i (cT r.1))
 |none=>.die up ak1 (h.set i (cT r.1))
theorem ui{P:Program}{α:Type}{ev:α->AV}{i:Nat}{up:List Fr}{h:List Ob}(J:List Ob){f:FuncId}{args:List AV}{r:Gr×Option α}(hw:bN h)(hi:i<h.length)(h2:∀a,aK h.length (ev a)=true)
 (h1:AM.Reach P Γ (.cl f args up h) (dd ev i up (h++J) r)):AM.Reach P Γ (.cl f args up h) (dd ev i up h r):=by
 have e:∀o:Ob,((h++J).set i o).take h.length=h.set i o:=fun o=>by rw[lZ _ _ hi,tF (by simp)]
 have hb:cz h.length (h.set i (cT r.1))=true:=hw.set (fun m _=>by simp) i h.length (by simp);unfold dd at h1⊢
 cases hr:r.2 with
 |some a=>
  rw[hr]at h1;have:=AM.Reach.leave h1 (h2 a) (by rw[e];exact hb);rwa[e]at this
 |none=>
  rw[hr]at h1;have:=AM.Reach.SB h1 rfl (by rw[e];exact hb);rwa[e]at this
theorem Ag{α:Type}{h:List α}{i:Nat}{o:α}(hi:h[i]? =some o):h.set i o=h:=by
 obtain⟨hl,rfl⟩:=cV.1 hi;exact List.set_getElem_self hl
theorem _root_.Go.AM.Reach.lS{P:Program}(n:Nat){f:FuncId}{args:List AV}{up:List Fr}{h h':List Ob}{v:AV}{c:AM.ar}(h1:∀up,AM.Reach P Γ (.cl f args up h) (.die up v h'))(h2:AM.Reach P Γ (AM.go P Γ 2 n (AM.pop (.die up v h'))) c):AM.Reach P Γ (.cl f args up h) c:=.trans (h1 up) (.trans (.pop _) (.aY n h2))
def fH(x:Gr)(p q:Nat):Gr×Option Nat:=if x.k_ p q=0 then(x.eQ p q,some (x.fY p q))else(x,none)
theorem DN(x:Gr)(ok:x.Ok)(p q:Nat){i:Nat}{h:List Ob}(hi:h[i]? =some (cT x))(hw:bN h)(up:List Fr):AM.Reach ak Γ (.cl vo [.ptr i 0,iN p,iN q] up h) (dd iN i up h (fH x p q)):=by
 have hA:=afi (Γ:=Γ) x ok.iU p q;have hl:=bd hi
 have h2:=fun os=>ez hi os
 have hv:∀os:List Ob,(h++os).set i (cT x)=h++os:=fun os=>Ag (h2 os)
 refine ui [cT (x.eQ p q),J3,J3,al7,J3] hw hl (by simp) ?_;unfold fH dd;refine .bp 60 Zp.1 ?_;simp[hi];refine .ji 60 (by simp) hA ?_
 by_cases e:x.k_ p q=0
 ·simp[e,h2]
 ·simp[e,h2,hv]
def lM(turn:Nat):Gr->Nat->List Nat->Gr×Option Nat
 |x,c,[]=>(x,some c)
 |x,c,a::l=>match fH x c (a^^^turn)with
  |(y,some d)=>lM turn y d l
  |(y,none)=>(y,none)
def jc(turn:Nat)(x:Gr)(l:List Nat):Gr×Option Nat:=match l with
 |[]=>(x,some 0)
 |a::r=>lM turn x (a^^^turn) r
structure iJ(x y:Gr):Prop where
 ok:y.Ok
 ins:y.ins=x.ins
 next:y.next=x.next
 init:y.init=x.init
 outs:y.outs=x.outs
 ands:∃e,y.ands=x.ands++e
theorem iJ.refl{x:Gr}(ok:x.Ok):iJ x x:=⟨ok,rfl,rfl,rfl,rfl,[],by simp⟩
theorem iJ.trans{x y z:Gr}(h:iJ x y)(h2:iJ y z):iJ x z:=by
 obtain⟨e,he⟩:=h.ands;obtain⟨e2,hv⟩:=h2.ands;exact⟨h2.ok,h2.ins.trans h.ins,h2.next.trans h.next,h2.init.trans h.init,h2.outs.trans h.outs,e++e2,by rw[hv,he,cR]⟩
theorem iJ.first{x y:Gr}(h:iJ x y):y.first=x.first:=by unfold Gr.first;rw[h.ins,h.next]
theorem iJ.lits{x y:Gr}(h:iJ x y):x.lits<=y.lits:=by
 obtain⟨e,he⟩:=h.ands;unfold Gr.lits Gr.all
 rw[h.first,he,bC];omega
theorem afR{x y:Gr}{p q d:Nat}(h:fH x p q=(y,some d)):x.k_ p q=0/\y=x.eQ p q/\d=x.fY p q:=by
 unfold fH at h
 split at h
 ·rename_i e;cases h;exact⟨e,rfl,rfl⟩
 ·cases h
theorem pE{x:Gr}(ok:x.Ok){p q:Nat}{y:Gr}{r:Option Nat}(h:fH x p q=(y,r)):iJ x y/\∀d,r=some d->d<y.lits:=by
 unfold fH at h
 split at h
 ·rename_i e
  cases h
  have a:=SY e
  obtain⟨e1,h2⟩:=Qs x.first x.ands p q
  refine⟨⟨a.s6,by rw[a.R],by rw[a.R],by rw[a.R],by rw[a.R],e1,by rw[a.R];simpa using h2⟩,fun d hd=>by cases hd;exact a.lt⟩
 ·cases h
  exact⟨.refl ok,fun d hd=>by cases hd⟩
theorem Nu(turn:Nat):∀(l:List Nat)(x:Gr)(c:Nat),x.Ok->c<x.lits->iJ x (lM turn x c l).1/\∀d,(lM turn x c l).2=some d->d<(lM turn x c l).1.lits
 |[],x,c,ok,hc=>⟨.refl ok,fun d hd=>by cases hd;exact hc⟩
 |a::l,x,c,ok,hc=>by
  rw[lM]
  cases h:fH x c (a^^^turn)with
  |mk y r=>
   obtain⟨g1,g2⟩:=pE ok h
   cases r with
   |none=>exact⟨g1,fun d hd=>by cases hd⟩
   |some d=>
    obtain⟨h1,h2⟩:=Nu turn l y d g1.ok (g2 d rfl);exact⟨g1.trans h1,h2⟩
theorem Jd{a n:Nat}(h:a<2*n):a^^^1<2*n:=by
 have h2:(a^^^1)/2=a/2:=by
  have:=Nat.xor_div_two (a:=a) (b:=1);simpa using this
 omega
theorem wv{a t n:Nat}(ht:t<=1)(h:a<2*n):a^^^t<2*n:=by
 obtain rfl|rfl:t=0\/t=1:=by omega
 ·simpa using h
 ·exact Jd h
def eY{α β:Type}(f:α->β)(r:Gr×Option α):Gr×Option β:=(r.1,r.2.map f)
def gn{α β:Type}(r:Gr×Option α)(f:Gr->α->Gr×Option β):Gr×Option β:=match r with
 |(y,some a)=>f y a
 |(y,none)=>(y,none)
def Ec(x:Gr)(c a:Nat):Gr×Option Nat:=gn (fH x c (a^^^1)) fun y p=>gn (fH y (c^^^1) a) fun z q=>eY (·^^^1) (fH z (p^^^1) (q^^^1))
def rq:Gr->Nat->List Nat->Gr×Option Nat
 |x,c,[]=>(x,some c)
 |x,c,a::l=>gn (Ec x c a) fun y d=>rq y d l
def AJ(x:Gr)(l:List Nat):Gr×Option Nat:=match l with
 |[]=>(x,some 0)
 |a::r=>rq x a r
def lf(x:Gr)(r:Gr×Option Nat):Prop:=iJ x r.1/\∀d,r.2=some d->d<r.1.lits
theorem HR{x:Gr}(ok:x.Ok)(p q:Nat):lf x (fH x p q):=pE ok (y:=(fH x p q).1) (r:=(fH x p q).2) rfl
theorem lf.D4{x:Gr}{r:Gr×Option Nat}(h:lf x r){t:Nat}(ht:t<=1):lf x (eY (·^^^t) r):=⟨h.1,fun d hd=>by
 simp only[eY,cm]at hd;obtain⟨a,ha,rfl⟩:=hd
 exact wv ht (h.2 a ha)⟩
theorem lf.then{x:Gr}{r:Gr×Option Nat}{f:Gr->Nat->Gr×Option Nat}(h:lf x r)(hf:∀y d,iJ x y->d<y.lits->lf y (f y d)):lf x (gn r f):=by
 obtain⟨y,o⟩:=r
 cases o with
 |none=>exact⟨h.1,fun d hd=>by cases hd⟩
 |some d=>
  have:=hf y d h.1 (h.2 d rfl);exact⟨h.1.trans this.1,this.2⟩
theorem O_{x:Gr}(ok:x.Ok)(c a:Nat):lf x (Ec x c a):=
 (HR ok _ _).then fun y p g1 _=>(HR g1.ok _ _).then fun z q g2 _=>(HR g2.ok _ _).D4 (aT 1)
theorem N0:∀(l:List Nat)(x:Gr)(c:Nat),x.Ok->c<x.lits->lf x (rq x c l)
 |[],x,c,ok,hc=>⟨.refl ok,fun d hd=>by cases hd;exact hc⟩
 |a::l,x,c,ok,hc=>(O_ ok c a).then fun y d g hd=>N0 l y d g.ok hd
theorem adu(turn:Nat)(l:List Nat)(x:Gr)(c:Nat)(ok:x.Ok)(hc:c<x.lits):lf x (lM turn x c l):=Nu turn l x c ok hc
theorem zY(x:Gr):0<x.lits:=by unfold Gr.lits Gr.all Gr.first;omega
theorem zz{turn:Nat}(ht:turn<=1){x:Gr}(ok:x.Ok){l:List Nat}(hl:∀a∈l,a<x.lits):lf x (jc turn x l):=by
 cases l with
 |nil=>exact⟨.refl ok,fun d hd=>by cases hd;exact zY x⟩
 |cons a r=>exact adu turn r x _ ok (wv (n:=x.all) ht (hl a (by simp)))
theorem adJ{x:Gr}(ok:x.Ok){l:List Nat}(hl:∀a∈l,a<x.lits):lf x (AJ x l):=by
 cases l with
 |nil=>exact⟨.refl ok,fun d hd=>by cases hd;exact zY x⟩
 |cons a r=>exact N0 r x _ ok (hl a (by simp))
theorem Tl{a t:Nat}(ht:t<=1)(ha:(a:Int)<2^60):iv .xor .i64 (a:Int) (t:Int)=some ((a^^^t:Nat):Int):=by
 have:=Ja (x:=a) (a:=t) ha;rwa[Nat.mod_eq_of_lt (by omega)]at this
theorem lC{x:Gr}(ok:x.Ok):x.lits<=2^14:=by
 have h1:=ok.ins;have h2:=ok.sum
 unfold Gr.lits Gr.all Gr.first
 omega
theorem Qf(a t:Nat)(ht:t<=1)(ha:(a:Int)<2^60){q:Nat}{h:List Ob}(hq:h[q]? =some (.cells [iN t])):∀up,AM.Reach ak Γ (.cl BJ [iN a,.ptr q 0] up h) (.back up (iN (a^^^t)) h):=by
 intro up;refine .bp 60 Y4.1 ?_;simp[hq,Tl ht ha]
theorem aik(turn:Nat)(ht:turn<=1)(l:List Nat)(hl:l.length<2^40){fl:Bool}{k:Nat}(hk:Kd 1 k l)(i L:Nat)(up:List Fr):∀n j:Nat,j+n=l.length->∀(x:Gr)(c:Nat)(h:List Ob),h.length=L->h[i]? =some (cT x)->bN h->x.Ok->c<x.lits->(∀a∈l,a<x.lits)->
 AM.Reach ak Γ (yDD (.ptr i 0) (.fn (.func BJ) [] [.ptr L 0]) (iN c) (.list fl k (l.map iN)) (.int .i64 l.length) (.int .i64 j) (h++[.cells [iN turn]]) ⟨[],.norm,L,up⟩) (dd iN i up (h++[.cells [iN turn]]) (lM turn x c (l.drop j))):=by
 intro n
 induction n with
 |zero=>
  intro j hj x c h hL hi hw ok hc hb
  have q1:¬j<l.length:=by omega
  have h2:(h++[Ob.cells [iN turn]]).set i (cT x)=h++[.cells [iN turn]]:=Ag (ez hi _);rw[bx (by omega),lM];unfold dd;rw[h2];refine .aY 60 ?_;simp[q1]
 |succ n ih=>
  intro j hj x c h hL hi hw ok hc hb;subst hL
  have q1:j<l.length:=by omega
  have q2:=bG (hk.of q1);have hle:=lC ok;have ha:=hb _ (bA q1);have hx:=bd hi;have hT:=Qf (Γ:=Γ) l[j] turn ht (by omega) (q:=h.length) (h:=h++[.cells [iN turn]]) (by simp)
  have hA:=fun up=>DN (Γ:=Γ) x ok c (l[j]^^^turn) (i:=i) (h:=h++[.cells [iN turn]]) (ez hi _) (by
   intro m hm;simp at hm
   simp[hw m (by omega)]) up
  rw[bJ q1,lM]
  have h2:∀o:Ob,(h++[Ob.cells [iN turn]]).set i o=h.set i o++[.cells [iN turn]]:=fun o=>lZ _ _ hx
  have hv:∀o o2:Ob,(h.set i o++[Ob.cells [iN turn]]).set i o2=h.set i o2++[.cells [iN turn]]:=fun o o2=>by rw[lZ _ _ (by simpa using hx),tG]
  refine .aY 60 ?_;simp[q1,q2];refine .aX 60 hT ?_;simp
  cases h9:fH x c (l[j]^^^turn)with
  |mk y r=>
   rw[h9]at hA;obtain⟨g1,g2⟩:=pE ok h9;unfold dd at hA⊢;simp only[h2]at hA⊢
   cases r with
   |none=>
    simp only at hA⊢;refine .lS 60 hA ?_;simp
   |some d=>
    simp only at hA⊢;have hh:=ih (j+1) (by omega) y d (h.set i (cT y)) (by simp) (by simp[hx]) (hw.set (fun m _=>by simp) i) g1.ok (g2 d rfl) (fun a ha=>lX (hb a ha) g1.lits);unfold dd at hh;simp only[hv]at hh;refine .aX 60 hA ?_;simp(disch:=omega);refine .aI ?_;simp[q2]at hh⊢;exact hh
theorem Rj(turn:Nat)(ht:turn<=1)(l:List Nat)(h0:l≠[])(hl:l.length<2^40){fl:Bool}{k:Nat}(hk:Kd 1 k l){i:Nat}(x:Gr){h:List Ob}(hi:h[i]? =some (cT x))(hw:bN h)(ok:x.Ok)(h2:∀a∈l,a<x.lits)(up:List Fr):
 AM.Reach ak Γ (.cl xX [.ptr i 0,.list fl k (l.map iN),iN turn] up h) (dd iN i up h (jc turn x l)):=by
 cases l with
 |nil=>exact absurd rfl h0
 |cons a r=>
  have hle:=lC ok;have hv:=bd hi;have ha:=h2 a (by simp);simp at hl;obtain rfl:k=1:=hk.of (i:=0) (by simp);have hT:=Qf (Γ:=Γ) a turn ht (by omega) (q:=h.length) (h:=h++[.cells [iN turn]]) (by simp);have hh:=aik (Γ:=Γ) turn ht r (by omega) (fl:=fl) (k:=1) .self i h.length up r.length 0 (by omega) x (a^^^turn) h rfl hi hw ok (wv (n:=x.all) ht ha) (fun b hb=>h2 b (by simp[hb]));refine ui [.cells [iN turn]] hw hv (by simp) ?_;rw[jc];refine .bp 60 Ze.1 ?_;simp(disch:=omega);refine .aX 60 hT ?_;simp(disch:=omega);refine .inLoop ?_;simp at hh⊢;exact hh
theorem SM(l:List Nat)(h0:l≠[])(hl:l.length<2^40){fl:Bool}{k:Nat}(hk:Kd 1 k l){i:Nat}(x:Gr){h:List Ob}(hi:h[i]? =some (cT x))(hw:bN h)(ok:x.Ok)(h2:∀a∈l,a<x.lits)(up:List Fr):
 AM.Reach ak Γ (.cl yE [.ptr i 0,.list fl k (l.map iN)] up h) (dd iN i up h (jc 0 x l)):=by
 have hA:=Rj (Γ:=Γ) 0 (by omega) l h0 hl (fl:=fl) hk x hi hw ok h2;refine .bp 60 Zt.1 ?_;simp;unfold dd at hA⊢
 cases h9:(jc 0 x l).2<;>simp only[h9]at hA⊢
 ·refine .lS 60 hA ?_;simp
 ·refine .aX 60 hA ?_;simp
theorem SQ(l:List Nat)(h0:l≠[])(hl:l.length<2^40){fl:Bool}{k:Nat}(hk:Kd 1 k l){i:Nat}(x:Gr){h:List Ob}(hi:h[i]? =some (cT x))(hw:bN h)(ok:x.Ok)(h2:∀a∈l,a<x.lits)(up:List Fr):
 AM.Reach ak Γ (.cl xY [.ptr i 0,.list fl k (l.map iN)] up h) (dd iN i up h (eY (·^^^1) (jc 1 x l))):=by
 have hA:=Rj (Γ:=Γ) 1 (by omega) l h0 hl (fl:=fl) hk x hi hw ok h2;have hf:=zz (turn:=1) (by omega) ok h2;have hle:=lC hf.1.ok;refine .bp 60 Zs.1 ?_;simp;unfold dd at hA⊢;unfold eY
 cases h9:(jc 1 x l).2 with
 |none=>
  simp only[h9,u_]at hA⊢;refine .lS 60 hA ?_;simp
 |some d=>
  have:=hf.2 d h9;simp only[h9,dC]at hA⊢;refine .aX 60 hA ?_;simp(disch:=omega) []
theorem ajf{i:Nat}{a:AV}{h:List Ob}(up:List Fr):AM.Reach ak Γ (.cl BN [.ptr i 0,a] up h) (.back up (.int .i64 0) h):=by
 refine .bp 60 Zf.1 ?_;simp
theorem ajh(l:List Nat)(hl:l.length<2^40){fl:Bool}{k:Nat}(hk:Kd 1 k l)(i base:Nat)(up:List Fr):∀n j:Nat,j+n=l.length->∀(x:Gr)(c:Nat)(h:List Ob),h[i]? =some (cT x)->bN h->x.Ok->c<x.lits->(∀a∈l,a<x.lits)->
 AM.Reach ak Γ (yHF (.ptr i 0) (iN c) (.list fl k (l.map iN)) (.int .i64 l.length) (.int .i64 j) h ⟨[],.norm,base,up⟩) (dd iN i up h (rq x c (l.drop j))):=by
 intro n
 induction n with
 |zero=>
  intro j hj x c h hi hw ok hc h2
  have q1:¬j<l.length:=by omega
  rw[bx (by omega),rq];unfold dd;simp only[Ag hi];refine .aY 60 ?_;simp[q1]
 |succ n ih=>
  intro j hj x c h hi hw ok hc h2
  have q1:j<l.length:=by omega
  have q2:=bG (hk.of q1);have hle:=lC ok;have ha:=h2 _ (bA q1);have hx:=bd hi
  have hW:∀y:Gr,bN (h.set i (cT y)):=fun y=>hw.set (fun m _=>by simp) i
  have hI:∀y:Gr,(h.set i (cT y))[i]? =some (cT y):=fun y=>by simp[hx]
  have hA:=fun up=>DN (Γ:=Γ) x ok c (l[j]^^^1) hi hw up
  rw[bJ q1,rq,Ec];refine .aY 60 ?_;simp(disch:=omega) [q1,q2]
  cases h9:fH x c (l[j]^^^1)with
  |mk y r=>
   rw[h9]at hA;obtain⟨g1,g2⟩:=pE ok h9
   cases r with
   |none=>
    simp only[dd,gn]at hA⊢;refine .lS 60 hA ?_;simp
   |some p=>
    have hp:=g2 p rfl;have h5:=g1.lits;have h4:=lC g1.ok
    have hB:=fun up=>DN (Γ:=Γ) y g1.ok (c^^^1) l[j] (hI y) (hW y) up
    simp only[dd,gn]at hA⊢;refine .aX 60 hA ?_;simp(disch:=omega) []
    cases hv:fH y (c^^^1) l[j]with
    |mk z r=>
     rw[hv]at hB;obtain⟨g3,g4⟩:=pE g1.ok hv
     cases r with
     |none=>
      simp only[dd,tG]at hB⊢;refine .lS 60 hB ?_;simp
     |some q=>
      have hq:=g4 q rfl;have ht:=g3.lits;have hf:=lC g3.ok
      have hC:=fun up=>DN (Γ:=Γ) z g3.ok (p^^^1) (q^^^1) (hI z) (hW z) up
      simp only[dd,tG]at hB⊢;refine .aX 60 hB ?_;simp(disch:=omega) []
      cases hb:fH z (p^^^1) (q^^^1)with
      |mk w r=>
       rw[hb]at hC;obtain⟨g5,g6⟩:=pE g3.ok hb
       cases r with
       |none=>
        simp only[dd,tG,eY,u_]at hC⊢;refine .lS 60 hC ?_;simp
       |some d=>
        have hd:=g6 d rfl;have hy:=lC g5.ok;simp only[dd,tG,eY,dC]at hC⊢;have hh:=ih (j+1) (by omega) w (d^^^1) (h.set i (cT w)) (hI w) (hW w) g5.ok (Jd (n:=w.all) hd) (fun a ha=>lX (h2 a ha) ((g1.trans g3).trans g5).lits);simp only[dd,tG]at hh;refine .aX 60 hC ?_;simp(disch:=omega) [];refine .aI ?_;simp[q2]at hh⊢;exact hh
theorem akG(l:List Nat)(h0:l≠[])(hl:l.length<2^40){fl:Bool}{k:Nat}(hk:Kd 1 k l){i:Nat}(x:Gr){h:List Ob}(hi:h[i]? =some (cT x))(hw:bN h)(ok:x.Ok)(h2:∀a∈l,a<x.lits)(up:List Fr):
 AM.Reach ak Γ (.cl xZ [.ptr i 0,.list fl k (l.map iN)] up h) (dd iN i up h (AJ x l)):=by
 cases l with
 |nil=>exact absurd rfl h0
 |cons a r=>
  simp at hl;obtain rfl:k=1:=hk.of (i:=0) (by simp);have hh:=ajh (Γ:=Γ) r (by omega) (fl:=fl) (k:=1) .self i h.length up r.length 0 (by omega) x a h hi hw ok (h2 a (by simp)) (fun b hb=>h2 b (by simp[hb]));rw[AJ];refine .bp 60 Zq.1 ?_;simp(disch:=omega);refine .inLoop ?_;simp at hh⊢;exact hh
abbrev Bs:=List UInt8
structure Lt where
 name:Bs
 next:Bs
 init:Int
 deriving DecidableEq
abbrev ov(q:Lt):AV:=.agg [.str q.name,.str q.next,.int .i64 q.init]
structure Gt where
 name:Bs
 op:Int
 ins:List Bs
 rows:List Bs
 off:Bool
 ki:Nat
 kr:Nat
 hi:Kd 1 ki ins
 hr:Kd 1 kr rows
abbrev df(g:Gt):AV:=.agg [.str g.name,.int .i64 g.op,.list false g.ki (g.ins.map .str),.list false g.kr (g.rows.map .str),.bool g.off]
structure Ct where
 aq:List Bs
 az:List Bs
 ah:List Lt
 af:List Gt
 kI:Nat
 kO:Nat
 kL:Nat
 kG:Nat
 hI:Kd 1 kI aq
 hO:Kd 1 kO az
 hL:Kd 3 kL ah
 hG:Kd 5 kG af
abbrev bU(c:Ct):AV:=.agg [.list false c.kI (c.aq.map .str),.list false c.kO (c.az.map .str),.list false c.kL (c.ah.map ov),.list false c.kG (c.af.map df)]
def wL(g:Gt):Prop:=g.name.length<2^40/\g.ins.length<2^10/\g.rows.length<2^10/\(∀s∈g.ins,s.length<2^40)/\∀s∈g.rows,s.length<2^40
def cH(c:Ct):Prop:=c.aq.length<2^10/\c.az.length<2^10/\c.ah.length<2^10/\c.af.length<2^10/\(∀g∈c.af,wL g)/\
 (∀s∈c.aq,s.length<2^40)/\(∀s∈c.az,s.length<2^40)/\∀q∈c.ah,q.name.length<2^40/\q.next.length<2^40
theorem JE{α β:Type}(a:List β)(f:α->β)(l:List α){i:Nat}(h:i<l.length):a++(l.drop i).map f=a++[f l[i]]++(l.drop (i+1)).map f:=by
 rw[bJ h,bX,cR];rfl
def aE(c:Ct):List Bs:=c.aq++c.ah.map (·.name)++c.af.map (·.name)
structure Fm where
 kind:Int
 lit:Int
 kids:Int
 deriving DecidableEq
abbrev bm(f:Fm):AV:=.agg [.int .i64 f.kind,.int .i64 f.lit,.int .i64 f.kids]
end Go.Proofs.YtchjijfjidlpjaaGreatDoor
