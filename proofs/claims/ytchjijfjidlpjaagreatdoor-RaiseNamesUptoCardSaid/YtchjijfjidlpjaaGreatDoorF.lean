/- A list's elements' size. -/
import Derived.Test.YtchjijfjidlpjaaGreatDoorAMd
import Derived.Test.YtchjijfjidlpjaaGreatDoorCode
set_option linter.unusedSimpArgs false
set_option linter.unusedVariables false
namespace Go.Proofs.YtchjijfjidlpjaaGreatDoor
open Go.AM Go.Proofs
def Kd(n k:Nat){α:Type}(l:List α):Prop:=k=n\/l=[]
theorem Kd.of{n k:Nat}{α:Type}{l:List α}(h:Kd n k l){i:Nat}(hi:i<l.length):k=n:=by
 rcases h with h|h
 ·exact h
 ·subst h;simp at hi
theorem Kd.self{n:Nat}{α:Type}{l:List α}:Kd n n l:=.inl rfl
theorem Kd.nil{n k:Nat}{α:Type}:Kd n k ([]:List α):=.inr rfl
@[simp] abbrev i64(n:Int):AV:=.int .i64 n
abbrev iN(n:Nat):AV:=.int .i64 (n:Int)
end Go.Proofs.YtchjijfjidlpjaaGreatDoor
namespace Go.Proofs.YtchjijfjidlpjaaGreatDoor
open Go.AM Go.Proofs
variable{Γ:Nat->Option AV}
theorem KP(a b:List Bool){ka kb:Nat}(ha:Kd 1 ka a)(hb:Kd 1 kb b)(hs:a.length<2^60):aP Tryz.prog Γ ud [.list false ka (a.map .bool),.list false kb (b.map .bool)] (.bool (decide (a=b))):=by
 refine .run 60 WX (by simp) ?_
 by_cases hl:a.length=b.length
 ·have key:∀n i:Nat,i+n=a.length->aB Tryz.prog Γ (yfJ (.list false ka (a.map .bool)) (.list false kb (b.map .bool)) (.int .i64 i) []) (.ret (.bool (decide (a.drop i=b.drop i)))):=by
   intro n
   induction n with
   |zero=>
    intro i hi;refine .go 60 ?_
    have h1:¬i<a.length:=by omega
    have h2:a.drop i=b.drop i:=by rw[bT (by omega),bT (by omega)]
    simp[h1,h2];exact .back (by simp)
   |succ n ih=>
    intro i hi
    have h1:i<a.length:=by omega
    have h2:i<b.length:=by omega
    obtain rfl:=ha.of h1;obtain rfl:=hb.of h2;have h4:=drop_eq h1 h2;refine .go 60 ?_
    by_cases h3:a[i]=b[i]
    ·simp(disch:=omega) [h1,h2,h3,h4];refine .aR ?_;simpa using ih (i+1) (by omega)
    ·simp(disch:=omega) [h1,h2,h3,h4];exact .back (by simp)
  simp[hl];refine .inLoop ?_;simpa[hl]using key a.length 0 (by omega)
 ·have h2:¬a=b:=fun e=>hl (by rw[e])
  simp[hl,h2];exact .back (by simp)
theorem Vm{φ:List Ob->Prop}{f:FuncId}{caps:List AV}{p:Int->Bool}{l:List Int}{k:Nat}{fl:Bool}(ha:nh Tryz.prog Γ φ f caps i64 p l)(hk:Kd 1 k l)(hs:l.length<2^60){h:List Ob}(hφ:φ h):
 ∀up,AM.Reach Tryz.prog Γ (.cl wC [.list fl k (l.map i64),.fn (.func f) [] caps] up h) (.back up (.int .i64 (iQ p l 0)) h):=by
 intro up
 have key:∀n i:Nat,i+n=l.length->AM.Reach Tryz.prog Γ (ywp (.list fl k (l.map i64)) (.fn (.func f) [] caps) (.int .i64 l.length) (.int .i64 i) h ⟨[],.norm,h.length,up⟩) (.back up (.int .i64 (iQ p (l.drop i) i)) h):=by
  intro n
  induction n with
  |zero=>
   intro i hi
   have h1:¬i<l.length:=by omega
   refine .bw 60 ?_;rw[bT (by omega)];simp[h1,iQ]
  |succ n ih=>
   intro i hi
   have h1:i<l.length:=by omega
   obtain rfl:=hk.of h1;have h2:=ha.2 l[i] (bF h1);rw[bZ h1,iQ];have hh:=ih (i+1) (by omega);refine .bw 60 ?_;simp[h1,ha.1];refine .bA 60 (fun up=>h2 up h hφ) ?_
   cases hp:p l[i]with
   |true=>simp(disch:=omega) [hp]
   |false=>
    simp(disch:=omega) [hp];refine .aR ?_;simp at hh⊢;exact hh
 refine .bJ 60 Ug ?_;simp;refine .inLoop ?_;have hh:=key l.length 0 (by omega);simp at hh⊢;exact hh
theorem DS{φ:List Ob->Prop}{f:FuncId}{caps:List AV}{p:Int->Bool}{l:List Int}{k:Nat}{fl:Bool}(ha:nh Tryz.prog Γ φ f caps i64 p l)(hk:Kd 1 k l)(hs:l.length<2^60){h:List Ob}(hφ:φ h):
 ∀up,AM.Reach Tryz.prog Γ (.cl tI [.list fl k (l.map i64),.fn (.func f) [] caps] up h) (.back up (.bool (bC p l)) h):=by
 intro up;refine .bJ 60 T3 ?_;simp;refine .bA 60 (Vm ha hk hs hφ) ?_;have h1:=B0 p l 0
 cases hp:bC p l with
 |true=>rw[hp]at h1;simp at h1;simp[h1]
 |false=>
  rw[hp]at h1
  have h2:¬0<=iQ p l 0:=by rw[h1];simp
  simp[h2]
structure Gr where
 ins:Int
 next:List Int
 init:List Int
 ands:List (Int×Int)
 outs:List Int
 kn:Nat
 ki:Nat
 ka:Nat
 ko:Nat
 hn:Kd 1 kn next
 hi:Kd 1 ki init
 ha:Kd 2 ka ands
 ho:Kd 1 ko outs
abbrev dI(p:Int×Int):AV:=.agg [.int .i64 p.1,.int .i64 p.2]
abbrev gJ(g:Gr):AV:=.agg [.int .i64 g.ins,.list false g.kn (g.next.map i64),.list false g.ki (g.init.map i64),.list false g.ka (g.ands.map dI),.list false g.ko (g.outs.map i64)]
def Gr.me(g:Gr):Prop:=g.next.length<2^40/\g.init.length<2^40/\g.ands.length<2^40/\g.outs.length<2^40
def fF(n:Int)(a:Int):Bool:=decide (a<0)||decide (n<=a)
def s5(a:Int):Bool:=decide (a<0)||decide (2<a)
def nW:List (Int×Int)->Nat->Bool
 |[],_=>false
 |p::ps,n=>fF (2*n) p.1||fF (2*n) p.2||nW ps (n+1)
def Gr.first(g:Gr):Nat:=1+g.ins.toNat+g.next.length
def Gr.all(g:Gr):Nat:=g.first+g.ands.length
def Gr.lits(g:Gr):Nat:=2*g.all
def Gr.ni(g:Gr):Bool:=decide (g.ins<0)||decide (4000<g.ins)||decide (4000<g.ins+g.next.length+g.ands.length)||decide (4000<g.outs.length)
def Gr.check(g:Gr):Int:=
 if g.ni=true then 8 else if(!decide (g.init.length=g.next.length)||bC s5 g.init||bC (fF g.lits) g.next||bC (fF g.lits) g.outs||nW g.ands g.first)=true then 1 else 0
theorem P0{g:Gr}(h:g.ni=false):0<=g.ins/\g.ins<=4000/\g.ins+g.next.length+g.ands.length<=4000/\g.outs.length<=4000:=by
 simp only[Gr.ni,j_,iz]at h;omega
theorem r_(g:Gr)(h0:0<=g.ins)(h1:g.ins<=4000)(h2:g.next.length<=4000):aP Tryz.prog Γ nL [gJ g] (.int .i64 g.first):=by
 refine .run 60 Xu (by simp) ?_
 have e1:1+g.ins+(g.next.length:Int)=(g.first:Int):=by unfold Gr.first;omega
 simp(disch:=omega) [e1];exact .back (by simp)
theorem Qy(i:Nat)(all:Nat)(l:List Int):nh Tryz.prog Γ (fun h=>h[i]? =some (.cells [.int .i64 all])) At [.ptr i 0] i64 (fF all) l:=by
 refine⟨by simp,fun x _ up h hφ=>?_⟩;refine .bJ 60 VZ ?_;unfold fF
 by_cases h1:x<0
 ·simp[hφ,h1]
 ·simp[hφ,h1]
theorem ae4(l:List Int):nh Tryz.prog Γ (fun _=>True) Ar [] i64 s5 l:=by
 refine⟨by simp,fun x _ up h hφ=>?_⟩;refine .bJ 60 Wc ?_;unfold s5
 by_cases h1:x<0
 ·simp[h1]
 ·simp[h1]
theorem YD{l:List (Int×Int)}{i:Nat}(h:i<l.length)(n:Nat):nW (l.drop i) n=(fF (2*n) l[i].1||fF (2*n) l[i].2||nW (l.drop (i+1)) (n+1)):=by
 rw[bZ h,nW]
set_option maxRecDepth 8000 in
theorem Ej(g:Gr)(hf:g.me):aP Tryz.prog Γ sb [gJ g] (.int .i64 g.check):=by
 obtain⟨f1,f2,f3,f4⟩:=hf;refine .run 60 Xa (by simp) ?_;unfold Gr.check
 cases hl:g.ni with
 |true=>
  simp only[cG];unfold Gr.ni at hl
  by_cases c1:g.ins<0
  ·simp[c1];exact .back (by simp)
  by_cases c2:4000<g.ins
  ·simp[c1,c2];exact .back (by simp)
  by_cases c3:4000<g.ins+g.next.length+g.ands.length
  ·simp(disch:=omega) [c1,c2,c3];exact .back (by simp)
  have c4:(4000:Int)<g.outs.length:=by
   simp only[c1,c2,c3,ot,oo,aW]at hl;omega
  simp(disch:=omega) [c1,c2,c3,c4];exact .back (by simp)
 |false=>
  obtain⟨l1,l2,l3,l4⟩:=P0 hl
  have c1:¬g.ins<0:=by omega
  have c2:¬4000<g.ins:=by omega
  have c3:¬4000<g.ins+g.next.length+g.ands.length:=by omega
  have c4:¬(4000:Int)<g.outs.length:=by omega
  have hpf:=r_ (Γ:=Γ) g l1 l2 (by omega)
  have e1:(g.first:Int)+g.ands.length=g.all:=by unfold Gr.all;omega
  have e2:2*(g.all:Int)=g.lits:=by unfold Gr.lits;omega
  have hfl:g.first<=8001:=by unfold Gr.first;omega
  have hal:g.all<=12001:=by unfold Gr.all;omega
  simp(disch:=omega) [c1,c2,c3,c4];refine .dr 60 ?_;simp;refine .quiet hpf (fun _=>rfl) (by simp) ?_;simp(disch:=omega) [e1,e2]
  by_cases d1:g.init.length=g.next.length
  ·simp[d1];refine .bA 60 (DS (ae4 g.init) g.hi (by omega) (by trivial)) ?_
   cases d2:bC s5 g.init with
   |true=>simp;exact .back (by simp)
   |false=>
    simp;refine .bA 60 (DS (Qy 1 g.lits g.next) g.hn (by omega) (by simp)) ?_
    cases d3:bC (fF g.lits) g.next with
    |true=>simp;exact .back (by simp)
    |false=>
     simp;refine .bA 60 (DS (Qy 1 g.lits g.outs) g.ho (by omega) (by simp)) ?_
     cases d4:bC (fF g.lits) g.outs with
     |true=>simp;exact .back (by simp)
     |false=>
      simp;refine .inLoop ?_;simp
      have key:∀n i:Nat,i+n=g.ands.length->aB Tryz.prog Γ (yoL (.ptr 0 0) (.list false g.ka (g.ands.map dI)) (.int .i64 g.ands.length) (.int .i64 i)
       [.cells [.int .i64 g.ins,.list false g.kn (g.next.map i64),.list false g.ki (g.init.map i64),.list false g.ka (g.ands.map dI),.list false g.ko (g.outs.map i64)],.cells [.int .i64 g.lits]]) (.ret (.int .i64 (if nW (g.ands.drop i) (g.first+i)=true then 1 else 0))):=by
       intro n
       induction n with
       |zero=>
        intro i hi
        have q1:¬i<g.ands.length:=by omega
        refine .go 60 ?_;rw[bT (by omega)];simp[q1,nW];exact .back (by simp)
       |succ n ih=>
        intro i hi
        have q1:i<g.ands.length:=by omega
        have q2:=bU (g.ha.of q1);have hh:=ih (i+1) (by omega)
        have q3:2*((g.first:Int)+i)=((2*(g.first+i):Nat):Int):=by omega
        rw[YD q1];unfold fF;refine .go 60 ?_;simp(disch:=omega) [q1,q2];refine .call 60 (by simp) hpf ?_
        by_cases r1:g.ands[i].1<0
        ·simp(disch:=omega) [r1];exact .back (by simp)
        by_cases r2:g.ands[i].2<0
        ·simp(disch:=omega) [r1,r2];exact .back (by simp)
        by_cases r3:2*((g.first:Int)+i)<=g.ands[i].1
        ·simp(disch:=omega) [r1,r2,r3];exact .back (by simp)
        by_cases r4:2*((g.first:Int)+i)<=g.ands[i].2
        ·simp(disch:=omega) [r1,r2,r3,r4];exact .back (by simp)
        simp(disch:=omega) [r1,r2,r3,r4];refine .aR ?_;simp;refine .drop 2 rfl (by simp) (by simp) (by simp) ?_;simp at hh⊢;rw[show g.first+(i+1)=g.first+i+1 by omega]at hh;exact hh
      have hh:=key g.ands.length 0 (by omega);simp at hh⊢;exact hh
  ·simp[d1];exact .back (by simp)
def bB(v:List Bool)(a:Nat):Bool:=v.getD (a/2) false !=decide (a%2=1)
theorem adU{v:List Bool}{a:Nat}(h:a/2<v.length):bB v a=!decide (v[a/2]=decide (a%2=1)):=by
 unfold bB;rw[bj,aM h]
 cases v[a/2]<;>by_cases h1:a%2=1<;>simp[h1]
theorem Eu(v:List Bool)(a:Nat)(h:a/2<v.length)(ha:a<2^40):aP Tryz.prog Γ ua [.list false 1 (v.map .bool),.int .i64 a] (.bool (bB v a)):=by
 refine .run 60 Xx (by simp) ?_;rw[adU h]
 have h2:((a%2:Nat):Int)=1↔a%2=1:=by omega
 have h3:((a/2:Nat):Int)<v.length:=by omega
 simp(disch:=omega) [-Int.natCast_ediv,-Int.natCast_emod,h,h2,h3];exact .back (by simp)
abbrev oQ(x:Nat×List Bool):AV:=.list false x.1 (x.2.map AV.bool)
def cC:List (Nat×List Bool)->List Bool
 |[]=>[]
 |x::xs=>x.2++cC xs
theorem KT(a b:List (Nat×List Bool)):cC (a++b)=cC a++cC b:=by
 induction a with
 |nil=>rfl
 |cons x a ih=>simp[cC,ih]
theorem Mo(xs:List (Nat×List Bool))(i:Nat)(h:i<xs.length):cC (xs.take (i+1))=cC (xs.take i)++xs[i].2:=by
 rw[ke h,KT];simp[cC]
theorem OT(xs:List (Nat×List Bool))(i:Nat):(cC (xs.take i)).length<=(cC xs).length:=by
 conv=>rhs;rw[<-mn i xs,KT]
 simp
set_option maxRecDepth 8000 in
theorem J2(xs:List (Nat×List Bool))(hk:∀x∈xs,Kd 1 x.1 x.2)(hn:xs.length<2^40)(hs:(cC xs).length<2^40)(hp:0<(cC xs).length):
 aP Tryz.prog Γ py [.list false 1 (xs.map oQ)] (.own 1 aY ((cC xs).map AV.bool)):=by
 refine .run 60 J1 (by simp) ?_
 have key2:∀n i:Nat,i+n=xs.length->∀m:Nat,(cC (xs.take i)).length+m=(cC xs).length->
  aB Tryz.prog Γ (R1 (.sl 2 0 (cC (xs.take i)).length) (.list false 1 (xs.map oQ)) (.int .i64 xs.length) (.int .i64 i) [.row 1 aY [] none true false,.row 1 aY [] none true false,.row 1 aY ((cC (xs.take i)).map AV.bool++List.replicate m (AV.bool false)) none true false])
   (.ret (.own 1 aY ((cC xs).map AV.bool))):=by
  intro n
  induction n with
  |zero=>
   intro i hi m hm
   have q1:¬i<xs.length:=by omega
   have q2:xs.take i=xs:=cJ (by omega);rw[q2]at hm⊢
   have hm0:m=0:=by omega
   subst hm0;refine .go 60 ?_;simp[q1];exact .back (by simp)
  |succ n ih=>
   intro i hi m hm
   have q1:i<xs.length:=by omega
   have q2:=Mo xs i q1;have q3:=OT xs (i+1);rw[q2,bq]at q3;have q4:=hk xs[i] (bF q1);have q5:xs[i].1=1\/xs[i].2=[]:=q4;have hh:=ih (i+1) (by omega) (m-xs[i].2.length) (by rw[q2,bq];omega);rw[q2]at hh
   have hd:(List.replicate m (AV.bool false)).drop xs[i].2.length=List.replicate (m-xs[i].2.length) (AV.bool false):=by simp
   refine .go 60 ?_
   by_cases q6:(cC (xs.take i)).length=(cC xs).length
   ·have q7:xs[i].2=[]:=mj.1 (by omega)
    have hm0:m=0:=by omega
    subst hm0;simp[q7]at hh;simp(disch:=(first|omega|(simp;omega))) [q1,q5,q7];refine .aR ?_;simp;exact hh
   ·simp(disch:=(first|omega|(simp;omega))) [q1,q5]
    by_cases q7:m=0
    ·omega
    ·have c1:¬(cC (List.take i xs)).length=(cC (List.take i xs)).length+m:=by omega
     have c2:(cC (List.take i xs)).length+xs[i].snd.length<=(cC (List.take i xs)).length+m:=by omega
     simp(disch:=(first|omega|(simp;omega))) [q1,q5,c1,c2,q7];refine .aR ?_;have hd0:((cC (xs.take i)).map AV.bool).drop ((cC (xs.take i)).length+xs[i].2.length)=[]:=bT (by simp);simp[v8,hd,hd0]at hh⊢;exact hh
 have key1:∀n i:Nat,i+n=xs.length->
  aB Tryz.prog Γ (SE (.list false 1 (xs.map oQ)) (.int .i64 (cC (xs.take i)).length) (.list false 1 (xs.map oQ)) (.int .i64 xs.length) (.int .i64 i) [.row 1 aY [] none true false])
   (.ret (.own 1 aY ((cC xs).map AV.bool))):=by
  intro n
  induction n with
  |zero=>
   intro i hi
   have q1:¬i<xs.length:=by omega
   have q2:xs.take i=xs:=cJ (by omega);have q3:0<(cC xs).length:=hp;have hh:=key2 xs.length 0 (by omega) (cC xs).length (by simp[cC]);refine .go 60 ?_;rw[q2];simp[q1];refine .enter 60 J3 ?_
   have q4:¬(cC xs).length=0:=by omega
   have q5:cC xs≠[]:=fun e=>by rw[e]at hp;simp at hp
   obtain⟨m,hm⟩:∃m,(cC xs).length=m+1:=⟨(cC xs).length-1,by omega⟩
   have hrep:List.replicate (cC xs).length (AV.bool false)=(AV.bool false)::List.replicate m (AV.bool false):=by rw[hm];rfl
   simp(disch:=(first|omega|(simp;omega))) [q3,q4,q5,hrep];refine .inLoop ?_;simp[cC,hrep]at hh⊢;exact hh
  |succ n ih=>
   intro i hi
   have q1:i<xs.length:=by omega
   have q2:=Mo xs i q1;have q3:=OT xs (i+1);rw[q2,bq]at q3;have hh:=ih (i+1) (by omega);rw[q2]at hh;refine .go 60 ?_
   have q4:¬((cC (xs.take i)).length:Int)+xs[i].2.length<0:=by omega
   simp(disch:=(first|omega|(simp;omega))) [q1,q4];refine .aR ?_;simp at hh⊢;exact hh
 simp;refine .inLoop ?_;have hh:=key1 xs.length 0 (by omega);simp[cC]at hh⊢;exact hh
set_option maxRecDepth 8000 in
theorem T6(xs:List (Nat×List Bool))(hx:∀x∈xs,x.2=[])(hn:xs.length<2^40):
 aP Tryz.prog Γ py [.list false 1 (xs.map oQ)] (.own 1 aY []):=by
 refine .run 60 J1 (by simp) ?_
 have key2:∀n i:Nat,i+n=xs.length->aB Tryz.prog Γ (R1 (.list true 0 []) (.list false 1 (xs.map oQ)) (.int .i64 xs.length) (.int .i64 i) [.row 1 aY [] none true false,.row 1 aY [] none true false])
  (.ret (.own 1 aY [])):=by
  intro n
  induction n with
  |zero=>
   intro i hi
   have q1:¬i<xs.length:=by omega
   refine .pR 6 1 aY rfl (by omega) ?_;refine .go 60 ?_;simp[q1];exact .back (by simp)
  |succ n ih=>
   intro i hi
   have q1:i<xs.length:=by omega
   have q7:=hx xs[i] (bF q1);have hh:=ih (i+1) (by omega);refine .go 60 ?_;simp(disch:=(first|omega|(simp;omega))) [q1,q7];refine .aR ?_;simp at hh⊢;exact hh
 have key:∀n i:Nat,i+n=xs.length->aB Tryz.prog Γ (SE (.list false 1 (xs.map oQ)) (.int .i64 0) (.list false 1 (xs.map oQ)) (.int .i64 xs.length) (.int .i64 i) [.row 1 aY [] none true false])
  (.ret (.own 1 aY [])):=by
  intro n
  induction n with
  |zero=>
   intro i hi
   have q1:¬i<xs.length:=by omega
   refine .go 60 ?_;simp[q1];refine .enter 60 J3 ?_;simp;refine .inLoop ?_;have hh:=key2 xs.length 0 (by omega);simp at hh⊢;exact hh
  |succ n ih=>
   intro i hi
   have q1:i<xs.length:=by omega
   have q7:=hx xs[i] (bF q1);have hh:=ih (i+1) (by omega);refine .go 60 ?_;simp(disch:=(first|omega|(simp;omega))) [q1,q7];refine .aR ?_;simp at hh⊢;exact hh
 simp;refine .inLoop ?_;have hh:=key xs.length 0 (by omega);simp at hh⊢;exact hh
theorem abb{l:List (Int×Int)}{n:Nat}(h:nW l n=false):∀i(hi:i<l.length),(0<=l[i].1/\l[i].1<2*(n+i))/\0<=l[i].2/\l[i].2<2*(n+i):=by
 induction l generalizing n with
 |nil=>intro i hi;simp at hi
 |cons p l ih=>
  simp only[nW,j_,fF,iz]at h;intro i hi
  cases i with
  |zero=>simp;omega
  |succ i=>
   have:=ih h.2 i (by simpa using hi);simp at this⊢;omega
structure Gr.Ok(g:Gr):Prop where
 ins:0<=g.ins/\g.ins<=4000
 sum:g.ins+g.next.length+g.ands.length<=4000
 jP:g.outs.length<=4000
 same:g.init.length=g.next.length
 init:∀a∈g.init,0<=a/\a<=2
 next:∀a∈g.next,0<=a/\a<g.lits
 outs:∀a∈g.outs,0<=a/\a<g.lits
 ands:∀i(hi:i<g.ands.length),(0<=g.ands[i].1/\g.ands[i].1<2*(g.first+i))/\0<=g.ands[i].2/\g.ands[i].2<2*(g.first+i)
theorem Gr.qk{g:Gr}(h:g.check=0):g.Ok:=by
 unfold Gr.check at h
 split at h
 ·simp at h
 ·rename_i hl;have hl:=P0 (by simpa using hl)
  split at h
  ·simp at h
  ·rename_i hb;simp only[Bool.not_eq_true,j_,JM,aW]at hb;obtain⟨⟨⟨⟨b1,b2⟩,b3⟩,b4⟩,b5⟩:=hb;refine⟨⟨hl.1,hl.2.1⟩,hl.2.2.1,hl.2.2.2,b1,?_,?_,?_,abb b5⟩
   ·intro a ha;have:=km.1 b2 a ha;simp[s5]at this;omega
   ·intro a ha;have:=km.1 b3 a ha;simp[fF]at this;omega
   ·intro a ha;have:=km.1 b4 a ha;simp[fF]at this;omega
def bI:List (Int×Int)->List Bool->List Bool
 |[],v=>v
 |p::ps,v=>bI ps (v++[bB v p.1.toNat&&bB v p.2.toNat])
theorem sv:∀(l:List (Int×Int))(v:List Bool),(bI l v).length=v.length+l.length
 |[],v=>by simp[bI]
 |p::ps,v=>by rw[bI,sv ps];simp;omega
theorem t_:∀(a b:List (Int×Int))(v:List Bool),bI (a++b) v=bI b (bI a v)
 |[],b,v=>rfl
 |p::ps,b,v=>by rw[ep,bI,bI,t_ ps]
def Gr.jB(g:Gr)(state ins:List Bool):List Bool:=bI g.ands (false::(ins++state))
def Gr.fits(g:Gr)(state ins:List Bool):Bool:=decide (state.length=g.next.length)&&decide ((ins.length:Int)=g.ins)
def Gr.dw(g:Gr)(state ins:List Bool):Int:=if g.check≠0 then g.check else if g.fits state ins=true then 0 else 11
def Gr.values(g:Gr)(state ins:List Bool):List Bool:=if g.dw state ins=0 then g.jB state ins else[]
theorem XX{g:Gr}{i:Nat}(h:i<g.ands.length)(v:List Bool):bI (g.ands.take (i+1)) v=bI (g.ands.take i) v++[bB (bI (g.ands.take i) v) g.ands[i].1.toNat&&bB (bI (g.ands.take i) v) g.ands[i].2.toNat]:=by
 rw[ke h,t_];rfl
set_option maxRecDepth 8000 in
theorem Wp(g:Gr)(hf:g.me)(state ins:List Bool){ks ki:Nat}(hs:Kd 1 ks state)(hi:Kd 1 ki ins)(hl1:state.length<2^40)(hl2:ins.length<2^40):
 aP Tryz.prog Γ wT [gJ g,.list false ks (state.map .bool),.list false ki (ins.map .bool)] (.aE [.own 1 aY ((g.values state ins).map .bool),.int .i64 (g.dw state ins)]):=by
 refine .run 60 Wm (by simp) ?_;simp;refine .call 60 (by simp) (Ej g hf) ?_;unfold Gr.values Gr.dw
 by_cases hc:g.check=0
 ·obtain ok:=Gr.qk hc;obtain⟨o1,o2⟩:=ok.ins;have o3:=ok.sum
  by_cases d1:state.length=g.next.length
  ·by_cases d2:(ins.length:Int)=g.ins
   ·have hcat:cC [(1,[false]),(ki,ins),(ks,state)]=false::(ins++state):=by simp[cC]
    have hcc:=J2 (Γ:=Γ) [(1,[false]),(ki,ins),(ks,state)] (by simp;exact⟨.inl rfl,hi,hs⟩) (by simp) (by rw[hcat];simp;omega) (by rw[hcat];simp);rw[hcat]at hcc
    have hfit:g.fits state ins=true:=by simp[Gr.fits,d1,d2]
    have key:∀n i:Nat,i+n=g.ands.length->∀v:List Bool,v=bI (g.ands.take i) (false::(ins++state))->
     aB Tryz.prog Γ (yma (.sl 2 0 v.length) (.list false g.ka (g.ands.map dI)) (.int .i64 g.ands.length) (.int .i64 i)
      [.cells [.int .i64 g.ins,.list false g.kn (g.next.map i64),.list false g.ki (g.init.map i64),.list false g.ka (g.ands.map dI),.list false g.ko (g.outs.map i64)],.row 1 aY [] none true false,.row 1 aY (v.map .bool) none true false])
      (.ret (.aE [.own 1 aY ((g.jB state ins).map .bool),.int .i64 0])):=by
     intro n
     induction n with
     |zero=>
      intro i hi v hv
      have q1:¬i<g.ands.length:=by omega
      have q2:g.ands.take i=g.ands:=cJ (by omega);rw[q2]at hv;have q3:g.jB state ins=v:=hv.symm;rw[q3];refine .go 60 ?_;simp[q1];exact .back (by simp)
     |succ n ih=>
      intro i hi v hv
      have q1:i<g.ands.length:=by omega
      have q2:=bU (g.ha.of q1)
      have hlen:v.length=g.first+i:=by
       rw[hv,sv,eA];simp[Gr.first];omega
      have hfi:g.first<=4001:=by unfold Gr.first;omega
      obtain⟨⟨a1,a2⟩,a3,a4⟩:=ok.ands i q1;obtain⟨x,hx⟩:=fP a1;obtain⟨y,hy⟩:=fP a3;have hvx:=Eu (Γ:=Γ) v x (by omega) (by omega);have hvy:=Eu (Γ:=Γ) v y (by omega) (by omega);have hh:=ih (i+1) (by omega) _ rfl;rw[XX q1,<-hv,hx,hy]at hh;simp only[dt]at hh;refine .go 60 ?_;simp(disch:=omega) [q1,q2,hx,hy];refine .call 60 (by simp) hvx ?_
      cases b1:bB v x with
      |true=>
       simp(disch:=omega) [q1,q2,hx,hy];refine .call 60 (by simp) hvy ?_;simp(disch:=(first|omega|(simp;omega))) [q1,q2,hx,hy];refine .aR ?_;simp;refine .drop 3 rfl (by simp) (by simp) (by simp) ?_;refine .reset (i:=2) rfl (by simp) (by simp) (by simp) ?_;simp[b1]at hh⊢;exact hh
      |false=>
       simp(disch:=(first|omega|(simp;omega))) [q1,q2,hx,hy];refine .aR ?_;simp;refine .drop 3 rfl (by simp) (by simp) (by simp) ?_;refine .reset (i:=2) rfl (by simp) (by simp) (by simp) ?_;simp[b1]at hh⊢;exact hh
    simp[hc,d1,d2,hfit];refine .call 60 (by simp) hcc ?_;simp;refine .inLoop ?_;have hh:=key g.ands.length 0 (by omega) (false::(ins++state)) (by simp[bI]);simp at hh⊢;exact hh
   ·have hfit:g.fits state ins=false:=by simp[Gr.fits,d1,d2]
    simp[hc,d1,d2,hfit];exact .back (by simp)
  ·have hfit:g.fits state ins=false:=by simp[Gr.fits,d1]
   simp[hc,d1,hfit];exact .back (by simp)
 ·simp[hc];exact .back (by simp[hc])
def jS(v:List Bool)(l:List Int):List Bool:=l.map fun a=>bB v a.toNat
@[simp] theorem avx(v:List Bool)(l:List Int):(jS v l).length=l.length:=by simp[jS]
theorem YC{v:List Bool}{l:List Int}{i:Nat}(h:i<l.length):jS v (l.take (i+1))=jS v (l.take i)++[bB v l[i].toNat]:=by
 rw[ke h];simp only[jS,jK,bL,iT]
set_option maxRecDepth 8000 in
theorem Kp(v:List Bool)(l:List Int){k:Nat}(hk:Kd 1 k l)(hs:l.length<2^40)(hvl:v.length<2^38)(i r:Nat){h:List Ob}(hi:h[i]? =some (.cells [.sl r 0 v.length]))(hr:h[r]? =some (.row 1 aY (v.map .bool) none true false))
 (hv:∀m,cH (h.length+1) m h=true)(hl:∀a∈l,0<=a/\a<2*v.length):
 ∀up,AM.Reach Tryz.prog Γ (.cl wU [.list false k (l.map i64),.ptr i 0] up h) (.back up (.sl (h.length+1) 0 l.length) (h++[.row 1 aY [] none true false,.row 1 aY ((jS v l).map .bool) none true false])):=by
 intro up
 have hi':∀os,(h++os)[i]? =some (.cells [.sl r 0 v.length]):=fun os=>gR hi os
 have hr':∀os,(h++os)[r]? =some (.row 1 aY (v.map .bool) none true false):=fun os=>gR hr os
 have key:∀n j:Nat,j+n=l.length->∀w,w=jS v (l.take j)->AM.Reach Tryz.prog Γ (ymo (.ptr i 0) (.sl (h.length+1) 0 w.length) (.list false k (l.map i64)) (.int .i64 l.length) (.int .i64 j)
  (h++[.row 1 aY [] none true false,.row 1 aY (w.map .bool) none true false]) ⟨[],.norm,h.length,up⟩) (.back up (.sl (h.length+1) 0 l.length) (h++[.row 1 aY [] none true false,.row 1 aY ((jS v l).map .bool) none true false])):=by
  intro n
  induction n with
  |zero=>
   intro j hj w hw
   have q1:¬j<l.length:=by omega
   rw[cJ (by omega)]at hw;subst hw;refine .bw 60 ?_;simp[q1]
  |succ n ih=>
   intro j hj w hw
   have q1:j<l.length:=by omega
   have q2:=bU (hk.of q1);obtain⟨a1,a2⟩:=hl l[j] (bF q1);obtain⟨x,hx⟩:=fP a1
   have hwl:w.length=j:=by rw[hw];simp;omega
   have hc:=Eu (Γ:=Γ) v x (by omega) (by omega);have hh:=ih (j+1) (by omega) _ rfl;rw[YC q1,<-hw,hx]at hh;simp only[dt]at hh;refine .bw 60 ?_;simp(disch:=omega) [q1,q2,hi',hx];refine .jR 60 (by simp[hr']) hc ?_;simp(disch:=(first|omega|(simp;omega))) [q1,q2,hi',hr'];refine .aR ?_;simp;refine .oK (i:=h.length+1) (by simp;exact⟨rfl,rfl,rfl,rfl,rfl⟩) (by simp) (by simp) (by simp[hv]) ?_;simp at hh⊢;exact hh
 refine .bJ 60 Wt ?_;simp;refine .inLoop ?_;have hh:=key l.length 0 (by omega) [] (by simp[jS]);simp at hh⊢;exact hh
theorem Gr.aaX(g:Gr)(state ins:List Bool):(g.jB state ins).length=1+ins.length+state.length+g.ands.length:=by
 rw[Gr.jB,sv];simp;omega
def Gr.cK(g:Gr)(state ins:List Bool):List Bool:=if g.dw state ins=0 then jS (g.jB state ins) g.outs else[]
def Gr.eC(g:Gr)(state ins:List Bool):List Bool:=if g.dw state ins=0 then jS (g.jB state ins) g.next else[]
theorem Gr.QN{g:Gr}{state ins:List Bool}(h:g.dw state ins=0):g.Ok/\state.length=g.next.length/\(ins.length:Int)=g.ins:=by
 unfold Gr.dw at h
 by_cases hc:g.check=0
 ·refine⟨Gr.qk hc,?_⟩;simp only[hc,ne_eq,not_true,cT]at h
  by_cases hf:g.fits state ins=true
  ·simp only[Gr.fits,ay,aW]at hf;exact hf
  ·simp[hf]at h
 ·simp[hc]at h
set_option maxRecDepth 8000 in
theorem X_(g:Gr)(hf:g.me)(state ins:List Bool){ks ki:Nat}(hs:Kd 1 ks state)(hi:Kd 1 ki ins)(hl1:state.length<2^40)(hl2:ins.length<2^40):
 aP Tryz.prog Γ AQ [gJ g,.list false ks (state.map .bool),.list false ki (ins.map .bool)]
  (.aE [.own 1 aY ((g.cK state ins).map .bool),.own 1 aY ((g.eC state ins).map .bool),.int .i64 (g.dw state ins)]):=by
 refine .run 60 XR (by simp) ?_;simp;refine .call 60 (by simp) (Wp g hf state ins hs hi hl1 hl2) ?_;unfold Gr.cK Gr.eC Gr.values
 by_cases hE:g.dw state ins=0
 ·obtain⟨ok,d1,d2⟩:=Gr.QN hE;have hvl:=g.aaX state ins;obtain⟨o1,o2⟩:=ok.ins;have o3:=ok.sum;have o4:=ok.jP
  have hlit:g.lits=2*(g.jB state ins).length:=by rw[hvl];simp[Gr.lits,Gr.all,Gr.first];omega
  have hO:∀a∈g.outs,0<=a/\a<2*(g.jB state ins).length:=fun a ha=>by have:=ok.outs a ha;omega
  have hN:∀a∈g.next,0<=a/\a<2*(g.jB state ins).length:=fun a ha=>by have:=ok.next a ha;omega
  simp[hE];generalize g.jB state ins=v at*;refine .dr 60 ?_;simp;refine .reach (by simp) (Kp v g.outs g.ho (by omega) (by omega) 4 3 (by simp) (by simp) (by simp) hO) ?_;simp;refine .reach (by simp) (Kp v g.next g.hn (by omega) (by omega) 4 3 (by simp) (by simp) (by simp) hN) ?_;simp;exact .back (by simp)
 ·simp[hE];exact .back (by simp[hE])
end Go.Proofs.YtchjijfjidlpjaaGreatDoor
namespace Go.Proofs.YtchjijfjidlpjaaGreatDoor
open Go.AM Go.Proofs
def iM(p:Int×Int):List (Int×Int)->Nat->Option Nat
 |[],_=>none
 |q::qs,i=>if q=p then some i else iM p qs (i+1)
theorem KJ(p:Int×Int):∀(a b:List (Int×Int))(i:Nat),iM p (a++b) i=match iM p a i with|some j=>some j|none=>iM p b (i+a.length)
 |[],b,i=>by simp[iM]
 |q::a,b,i=>by
  rw[ep,iM,iM]
  by_cases h:q=p
  ·simp[h]
  ·rw[if_neg h,if_neg h,KJ p a b (i+1),bz,show i+1+a.length=i+(a.length+1) by omega]
theorem E1{p:Int×Int}:∀{l:List (Int×Int)}{i k:Nat},iM p l i=some k->i<=k/\∃h:k-i<l.length,l[k-i]=p
 |[],i,k,h=>by simp[iM]at h
 |q::l,i,k,h=>by
  rw[iM]at h
  by_cases hq:q=p
  ·rw[if_pos hq]at h
   cases h
   exact⟨aO _,by simp,by simp[hq]⟩
  ·rw[if_neg hq]at h;obtain⟨h1,h2,h3⟩:=E1 h;refine⟨by omega,by simp;omega,?_⟩
   have e:k-i=(k-(i+1))+1:=by omega
   simp only[e,tG];exact h3
theorem Ff{p:Int×Int}:∀{l:List (Int×Int)}{i:Nat},iM p l i=none↔p∉l
 |[],i=>by simp[iM]
 |q::l,i=>by
  rw[iM]
  by_cases hq:q=p
  ·simp[hq]
  ·rw[if_neg hq,Ff (l:=l)];simp[hq,Ne.symm hq]
def mc(p q:Nat):Option Nat:=if q=0\/p^^^1=q then some 0 else if q=1\/p=q then some p else none
def bN(first:Nat)(l:List (Int×Int))(a b:Nat):List (Int×Int)×Nat:=
 match mc (max a b) (min a b)with
 |some c=>(l,c)
 |none=>match iM (((max a b:Nat):Int),((min a b:Nat):Int)) l 0 with
  |some i=>(l,2*(first+i))
  |none=>(l++[(((max a b:Nat):Int),((min a b:Nat):Int))],2*(first+l.length))
def iZ(p:Int×Int):List ((Int×Int)×Nat)->Option Nat
 |[]=>none
 |(q,n)::r=>if p=q then some n else iZ p r
abbrev jf(x:(Int×Int)×Nat):AV×AV:=(dI x.1,.int .i64 x.2)
theorem M4(p q:Int×Int):cw (.lY [.int,.int]) (dI p) (dI q)=some (decide (p=q)):=by
 obtain⟨a,b⟩:=p;obtain⟨c,d⟩:=q;simp only[cw,bM,cj,gU,fg,bX]
 cases h1:(a==c)
 ·have:=DF.1 h1;simp[this]
 ·have e1:=eq_of_beq h1
  cases h2:(b==d)
  ·have:=DF.1 h2;simp[this]
  ·have e2:=eq_of_beq h2;simp[e1,e2]
theorem KH(p:Int×Int):∀l:List ((Int×Int)×Nat),eT (.lY [.int,.int]) (dI p) (l.map jf)=some ((iZ p l).map fun n:Nat=>AV.int .i64 (n:Int))
 |[]=>rfl
 |(q,n)::r=>by
  simp only[bL,eT,M4,iZ]
  by_cases h:p=q
  ·simp[h]
  ·simp only[h,ot,cT];exact KH p r
theorem Lx{p:Int×Int}{v:AV}:∀{l:List ((Int×Int)×Nat)},iZ p l=none->i_ (.lY [.int,.int]) (dI p) v (l.map jf)=some (l.map jf++[(dI p,v)])
 |[],_=>rfl
 |(q,n)::r,h=>by
  rw[iZ]at h
  by_cases hq:p=q
  ·rw[if_pos hq]at h;cases h
  ·rw[if_neg hq]at h;simp only[bL,i_,M4,hq,ot,Lx h,dO,ep]
@[simp] theorem ZK(n:Nat):∀l:List ((Int×Int)×Nat),gE n (l.map jf)=true
 |[]=>rfl
 |x::r=>by simp[gE,ZK n r]
@[simp] theorem aaz(n:Nat)(τ:List Nat):∀l:List ((Int×Int)×Nat),nA n τ (l.map jf)=l.map jf
 |[]=>rfl
 |x::r=>by simp[aaz n τ r]
@[simp] theorem abA(n:Nat)(τ:List Nat):∀l:List ((Int×Int)×Nat),qE n τ (l.map jf)=true
 |[]=>rfl
 |x::r=>by simp[abA n τ r]
@[simp] theorem Zq(n m:Nat):∀l:List ((Int×Int)×Nat),n8 n m (l.map jf)=true
 |[]=>rfl
 |x::r=>by simp[Zq n m r]
def n7(first:Nat)(l:List (Int×Int))(es:List ((Int×Int)×Nat)):Prop:=∀p,iZ p es=(iM p l 0).map fun i=>2*(first+i)
theorem Ks(p:Int×Int):∀(a b:List ((Int×Int)×Nat)),iZ p (a++b)=match iZ p a with|some n=>some n|none=>iZ p b
 |[],b=>rfl
 |(q,n)::a,b=>by
  rw[ep,iZ,iZ]
  by_cases h:p=q
  ·simp[h]
  ·rw[if_neg h,if_neg h,Ks p a b]
theorem NV(first:Nat):n7 first [] []:=fun p=>rfl
theorem aav{first:Nat}{l:List (Int×Int)}{es:List ((Int×Int)×Nat)}(h:n7 first l es){p:Int×Int}(hp:iZ p es=none):n7 first (l++[p]) (es++[(p,2*(first+l.length))]):=by
 intro q;rw[Ks,KJ,h q]
 cases hq:iM q l 0 with
 |some j=>rfl
 |none=>
  simp only[Option.map_none,iZ,iM,iv]
  by_cases he:q=p
  ·simp[he]
  ·rw[if_neg he,if_neg (fun h1=>he h1.symm)];rfl
end Go.Proofs.YtchjijfjidlpjaaGreatDoor
namespace Go.Proofs.YtchjijfjidlpjaaGreatDoor
open Go.AM Go.Proofs
variable{Γ:Nat->Option AV}
theorem Ue(l:List (Int×Int)){k:Nat}(hk:Kd 2 k l)(hl:l.length<2^40):aP Tryz.prog Γ Ad [.list false k (l.map dI)] (.own 2 dv (l.map dI)):=by
 refine .run 60 Ud (by simp) ?_
 cases l with
 |nil=>
  simp;refine .either 0 (by simp) (fun b=>?_)
  cases b
  ·refine .go 9 ?_;simp;refine .pR 2 2 dv rfl (by omega) ?_;refine .go 60 ?_;simp;exact .back (by simp)
  ·refine .go 60 ?_;simp;exact .back (by simp)
 |cons x xs=>
  have hk0:k=2:=by
   rcases hk with h|h
   ·exact h
   ·cases h
  subst hk0;simp at hl;simp(disch:=(first|omega|(simp;omega)));exact .back (by simp)
abbrev oV(g:Gr):Ob:=.cells [.int .i64 g.ins,.list false g.kn (g.next.map i64),.list false g.ki (g.init.map i64),.list false g.ka (g.ands.map dI),.list false g.ko (g.outs.map i64)]
def Qe(first:Nat):List (Int×Int)->Nat->List ((Int×Int)×Nat)->List ((Int×Int)×Nat)
 |[],_,es=>es
 |p::ps,i,es=>Qe first ps (i+1) (if(iZ p es).isSome=true then es else es++[(p,2*(first+i))])
def Gr.bd(g:Gr):List ((Int×Int)×Nat):=Qe g.first g.ands 0 []
abbrev Gr.tn(g:Gr)(l:List (Int×Int)):Gr:={g with ands:=l,ka:=2,ha:=.self}
@[simp] theorem Gr.avL(g:Gr)(l:List (Int×Int)):(g.tn l).first=g.first:=rfl
@[simp] theorem av5(a b:Nat):qx (.int .i64 (a:Int)) [.int .i64 (b:Int)]=some (.int .i64 ((max a b:Nat):Int)):=by
 simp only[qx,cG];congr 2;split<;>omega
@[simp] theorem avZ(a b:Nat):qm (.int .i64 (a:Int)) [.int .i64 (b:Int)]=some (.int .i64 ((min a b:Nat):Int)):=by
 simp only[qm,cG];congr 2;split<;>omega
abbrev zj(g:Gr)(x1 x2 x4:AV)(r n m:Nat)(come:AV):Ob:=.cells [.int .i64 g.ins,x1,x2,.sl r 0 n,x4,.mp m,come]
section
set_option maxRecDepth 8000 in
theorem aeg(a b c:Nat)(ha:a<2^20)(hb:b<2^20)(hk:mc (max a b) (min a b)=some c)(pb:AV)(h:List Ob):∀up,AM.Reach Tryz.prog Γ (.cl rW [pb,.int .i64 a,.int .i64 b] up h) (.back up (.int .i64 c) h):=by
 intro up
 have hle:min a b<=max a b:=by omega
 have hM:max a b<2^20:=by omega
 generalize hM':max a b=M at*;generalize hm':min a b=m at*;refine .bJ 60 DU ?_;unfold mc at hk;have hx:=mC M
 by_cases c1:m=0
 ·subst c1;simp at hk;subst hk;simp[hM',hm']
 ·by_cases c2:M^^^1=m
  ·rw[if_pos (Or.inr c2)]at hk
   cases hk
   have c3:((M^^^1:Nat):Int)=m:=by omega
   simp(disch:=omega) [hM',hm',c1,c3,c2]
  ·rw[if_neg (by simp[c1,c2])]at hk
   have c3:¬((M^^^1:Nat):Int)=m:=by omega
   by_cases c4:m=1
   ·rw[if_pos (Or.inl c4)]at hk
    cases hk
    have c5:((m:Int)=1)=True:=bU (by omega);simp(disch:=omega) [hM',hm',c1,c3,c2,c5]
   ·by_cases c6:M=m
    ·rw[if_pos (Or.inr c6)]at hk
     cases hk
     subst c6;have c5:((c:Int)=1)=False:=kc (by omega);simp(disch:=omega) [hM',hm',c1,c3,c2,c5]
    ·rw[if_neg (by simp[c4,c6])]at hk
     cases hk
end
section
variable{p q:List Ob}{x1 x2 x4 come:AV}
theorem Mu{p q:Nat}(h:mc p q=none):q≠0/\p^^^1≠q/\q≠1/\p≠q:=by
 unfold mc at h
 split at h
 ·cases h
 ·split at h
  ·cases h
  ·omega
set_option maxRecDepth 8000 in
theorem aex(g:Gr)(hi:0<=g.ins/\g.ins<=4000)(hn:g.next.length<=4000)(l:List (Int×Int))(hl:l.length<2^20)(es:List ((Int×Int)×Nat))(he:n7 g.first l es)(a b:Nat)(ha:a<2^20)(hb:b<2^20)(hk:mc (max a b) (min a b)=none)
 (hx1:∀s,view (p++s) x1=some (.list false g.kn (g.next.map i64)))(hx2:∀s,view (p++s) x2=some (.list false g.ki (g.init.map i64)))(hx4:∀s,view (p++s) x4=some (.list false g.ko (g.outs.map i64))):
 ∀up,AM.Reach Tryz.prog Γ (.cl rW [.ptr (p.length+1) 0,.int .i64 a,.int .i64 b] up (p++.map (es.map jf) true::zj g x1 x2 x4 (p.length+2) l.length p.length come::.row 2 dv (l.map dI) none true false::q))
  (match iZ (((max a b:Nat):Int),((min a b:Nat):Int)) es with
   |some c=>.back up (.int .i64 c) (p++.map (es.map jf) true::zj g x1 x2 x4 (p.length+2) l.length p.length come::.row 2 dv (l.map dI) none true false::(q++[.cells [.int .i64 ((max a b:Nat):Int),.int .i64 ((min a b:Nat):Int)]]))
   |none=>.back up (.int .i64 (2*(g.first+l.length):Nat)) (p++.map ((es++[((((max a b:Nat):Int),((min a b:Nat):Int)),2*(g.first+l.length))]).map jf) true::zj g x1 x2 x4 (p.length+2) (l.length+1) p.length come::
    .row 2 dv ((l++[(((max a b:Nat):Int),((min a b:Nat):Int))]).map dI) (some 0) true false::(q++[.cells [.int .i64 ((max a b:Nat):Int),.int .i64 ((min a b:Nat):Int)]]))):=by
 intro up;obtain⟨k1,k2,k3,k4⟩:=Mu hk
 have hle:min a b<=max a b:=by omega
 have hM:max a b<2^20:=by omega
 generalize hM':max a b=M at*;generalize hm':min a b=m at*;have hx:=mC M
 have c3:¬((M^^^1:Nat):Int)=m:=by omega
 have hfe:=KH ((M:Int),(m:Int)) es;have c5:((m:Int)=1)=False:=kc (by omega);have c7:((M:Int)=m)=False:=kc (by omega)
 cases hf:iZ ((M:Int),(m:Int)) es with
 |some c=>
  rw[hf]at hfe;have hfe:eT (.lY [.int,.int]) (.agg [.int .i64 M,.int .i64 m]) (es.map jf)=some (some (.int .i64 (c:Int))):=hfe;simp only;refine .bJ 60 DU ?_;simp(disch:=omega) [hM',hm',k1,k2,k3,k4,c3,c5,c7,isKey,bM,cj,hfe];refine .bw 60 ?_;simp[isKey,bM,cj,hfe]
 |none=>
  rw[hf]at hfe;simp only;refine .bJ 60 DU ?_;have hfe:eT (.lY [.int,.int]) (.agg [.int .i64 M,.int .i64 m]) (es.map jf)=some none:=hfe;simp(disch:=omega) [hM',hm',k1,k2,k3,k4,c3,c5,c7,isKey,bM,cj,hfe];refine .bw 60 ?_;simp[isKey,bM,cj,hfe];have hf1:=r_ (Γ:=Γ) (g.tn l) hi.1 hi.2 hn
  have hfb:g.first<=8001:=by unfold Gr.first;omega
  have hput:=Lx (v:=.int .i64 (2*((g.first:Int)+l.length))) hf;refine .eQ 60 ?_;simp;refine .call (by simp[hx1,hx2,hx4]) hf1 ?_;simp(disch:=omega);refine .eQ 60 ?_;simp(disch:=(first|omega|(simp;omega))) [isKey,bM,cj,hput];simp[jf]
end
def tp:Gr:=⟨0,[],[],[],[],0,0,0,0,.nil,.nil,.nil,.nil⟩
def Gr.rr(g:Gr)(a b:Int):Int:=if g.check≠0 then g.check else if fF g.lits a=true\/fF g.lits b=true then 1 else if 4000<g.ins+g.next.length+(bN g.first g.ands a.toNat b.toNat).1.length then 8 else 0
def Gr.n_(g:Gr)(a b:Int):Gr:=if g.rr a b=0 then g.tn (bN g.first g.ands a.toNat b.toNat).1 else tp
def Gr.rm(g:Gr)(a b:Int):Nat:=if g.rr a b=0 then(bN g.first g.ands a.toNat b.toNat).2 else 0
theorem BA(first:Nat)(l:List (Int×Int))(a b:Nat):(bN first l a b).1.length<=l.length+1:=by
 unfold bN
 split
 ·simp
 ·split<;>simp
theorem aah{first:Nat}{l:List (Int×Int)}{es:List ((Int×Int)×Nat)}(h:n7 first l es){a b:Nat}(hk:mc (max a b) (min a b)=none):
 bN first l a b=match iZ (((max a b:Nat):Int),((min a b:Nat):Int)) es with
  |some c=>(l,c)
  |none=>(l++[(((max a b:Nat):Int),((min a b:Nat):Int))],2*(first+l.length)):=by
 unfold bN;rw[hk,h]
 cases iM (((max a b:Nat):Int),((min a b:Nat):Int)) l 0<;>rfl
theorem J5(l:List Int){k:Nat}(hk:Kd 1 k l)(hl:l.length<2^40):aP Tryz.prog Γ Ae [.list false k (l.map i64)] (.own 1 av (l.map i64)):=by
 refine .run 60 Un (by simp) ?_
 cases l with
 |nil=>
  simp;refine .either 0 (by simp) (fun b=>?_)
  cases b
  ·refine .go 9 ?_;simp;refine .pR 2 1 av rfl (by omega) ?_;refine .go 60 ?_;simp;exact .back (by simp)
  ·refine .go 60 ?_;simp;exact .back (by simp)
 |cons x xs=>
  have hk0:k=1:=by
   rcases hk with h|h
   ·exact h
   ·cases h
  subst hk0;simp at hl;simp(disch:=(first|omega|(simp;omega)));exact .back (by simp)
theorem Qb{p q:List Ob}{x1 x2 x4 come:AV}(g:Gr)(hi:0<=g.ins/\g.ins<=4000)(hn:g.next.length<=4000)(l:List (Int×Int))(hl:l.length<2^20)(es:List ((Int×Int)×Nat))(he:n7 g.first l es)(a b:Nat)(ha:a<2^20)(hb:b<2^20)
 (hx1:∀s,view (p++s) x1=some (.list false g.kn (g.next.map i64)))(hx2:∀s,view (p++s) x2=some (.list false g.ki (g.init.map i64)))(hx4:∀s,view (p++s) x4=some (.list false g.ko (g.outs.map i64))):
 ∃(es':List ((Int×Int)×Nat))(gr:Option Nat)(junk:List Ob),n7 g.first (bN g.first l a b).1 es'/\(gr=none\/gr=some 0)/\(junk=[]\/∃x y:Int,junk=[.cells [.int .i64 x,.int .i64 y]])/\
 ∀up,AM.Reach Tryz.prog Γ (.cl rW [.ptr (p.length+1) 0,.int .i64 a,.int .i64 b] up (p++.map (es.map jf) true::zj g x1 x2 x4 (p.length+2) l.length p.length come::.row 2 dv (l.map dI) none true false::q))
  (.back up (.int .i64 ((bN g.first l a b).2:Nat)) (p++.map (es'.map jf) true::zj g x1 x2 x4 (p.length+2) (bN g.first l a b).1.length p.length come::.row 2 dv ((bN g.first l a b).1.map dI) gr true false::(q++junk))):=by
 cases hK:mc (max a b) (min a b)with
 |some c=>
  have hG:bN g.first l a b=(l,c):=by unfold bN;rw[hK]
  rw[hG];exact⟨es,none,[],he,.inl rfl,.inl rfl,fun up=>by rw[eR];exact aeg a b c ha hb hK _ _ up⟩
 |none=>
  have hG:=aah he hK;have key:=aex (Γ:=Γ) (p:=p) (q:=q) (come:=come) g hi hn l hl es he a b ha hb hK hx1 hx2 hx4
  cases hF:iZ (((max a b:Nat):Int),((min a b:Nat):Int)) es with
  |some c=>
   rw[hF]at hG key;simp only at hG key;rw[hG];exact⟨es,none,_,he,.inl rfl,.inr ⟨((max a b:Nat):Int),((min a b:Nat):Int),rfl⟩,key⟩
  |none=>
   rw[hF]at hG key;simp only at hG key;rw[hG];refine⟨_,some 0,_,aav he hF,.inr rfl,.inr ⟨((max a b:Nat):Int),((min a b:Nat):Int),rfl⟩,fun up=>?_⟩;have:=key up;simp only[bq,bz,c9,iv];exact this
theorem acP{x a:Nat}(hx:(x:Int)<2^60):ie .xor .i64 (x:Int) ((a%2:Nat):Int)=some ((x^^^(a%2):Nat):Int):=by
 rcases(show a%2=0\/a%2=1 by omega)with h|h
 ·rw[h,wu]
  have h1:(BitVec.ofInt 64 (x:Int)^^^BitVec.ofInt 64 ((0:Nat):Int)).toNat=x:=by
   have e1:BitVec.ofInt 64 ((0:Nat):Int)=0#64:=by decide
   rw[e1,BitVec.xor_zero,JL];omega
  show some (IntKind.i64.wrap ((BitVec.ofInt 64 (x:Int)^^^BitVec.ofInt 64 ((0:Nat):Int)).toNat:Int))=_
  rw[h1,zb (by omega)]
 ·rw[h];exact af2 x hx
def bg(to:List Nat)(a:Nat):Nat:=to.getD (a/2) 0^^^(a%2)
def dX(to:List Nat)(l:List Int):List Nat:=l.map fun a=>bg to a.toNat
@[simp] theorem awc(to:List Nat)(l:List Int):(dX to l).length=l.length:=by simp[dX]
theorem MC{to:List Nat}{l:List Int}{i:Nat}(h:i<l.length):dX to (l.take (i+1))=dX to (l.take i)++[bg to l[i].toNat]:=by
 rw[ke h];simp only[dX,jK,bL,iT]
section
variable{c0 c1 c2 c3 c4 c5:AV}
theorem ve(to:List Nat)(hto:∀x∈to,x<2^40)(a:Nat)(h1:a/2<to.length)(ha:(a:Int)<2^60)(b r:Nat){E:TypeId}{gr:Option Nat}{fl sh:Bool}{h:List Ob}(hb:h[b]? =some (.cells [c0,c1,c2,c3,c4,c5,.sl r 0 to.length]))(hr:h[r]? =some (.row 1 E (to.map iN) gr fl sh))(hok:cE (to.map iN) gr 0 to.length=true):
 ∀up,AM.Reach Tryz.prog Γ (.cl oz [.ptr b 0,.int .i64 a] up h) (.back up (.int .i64 (bg to a)) h):=by
 intro up
 have h3:((a/2:Nat):Int)<to.length:=by omega
 have h4:=hto _ (bF h1)
 have h5:to.getD (a/2) 0=to[a/2]:=by rw[bj,aM h1];rfl
 have h6:=acP (x:=to[a/2]) (a:=a) (by omega);refine .bJ 60 UK ?_;unfold bg;rw[h5];simp(disch:=omega) [-Int.natCast_ediv,-Int.natCast_emod,-cE,hok,hb,hr,h1,h3,h6]
end
set_option maxRecDepth 8000 in
theorem Qm(to:List Nat)(hto:∀x∈to,x<2^40)(l:List Int){k:Nat}(hk:Kd 1 k l)(hl:l.length<2^40)(hlt:∀a∈l,0<=a/\a<2*to.length)(hbt:to.length<2^40){c0 c1 c2 c3 c4 c5:AV}(b r:Nat){E:TypeId}{h:List Ob}(hb:h[b]? =some (.cells [c0,c1,c2,c3,c4,c5,.sl r 0 to.length]))(hr:h[r]? =some (.row 1 E (to.map iN) none true false))
 (hv:∀m,cH (h.length+1) m h=true):
 ∀up,AM.Reach Tryz.prog Γ (.cl rV [.ptr b 0,.list false k (l.map i64)] up h) (.back up (.sl (h.length+1) 0 l.length) (h++[.row 1 av [] none true false,.row 1 av ((dX to l).map iN) none true false])):=by
 intro up
 have hb':∀os,(h++os)[b]? =some (.cells [c0,c1,c2,c3,c4,c5,.sl r 0 to.length]):=fun os=>gR hb os
 have hr':∀os,(h++os)[r]? =some (.row 1 E (to.map iN) none true false):=fun os=>gR hr os
 have key:∀n j:Nat,j+n=l.length->∀w,w=dX to (l.take j)->AM.Reach Tryz.prog Γ (TB (.sl (h.length+1) 0 w.length) (.fn (.func oz) [.ptr b 0] []) (.list false k (l.map i64)) (.int .i64 l.length) (.int .i64 j)
  (h++[.row 1 av [] none true false,.row 1 av (w.map iN) none true false]) ⟨[],.norm,h.length,up⟩) (.back up (.sl (h.length+1) 0 l.length) (h++[.row 1 av [] none true false,.row 1 av ((dX to l).map iN) none true false])):=by
  intro n
  induction n with
  |zero=>
   intro j hj w hw
   have q1:¬j<l.length:=by omega
   rw[cJ (by omega)]at hw;subst hw;refine .bw 60 ?_;simp[q1]
  |succ n ih=>
   intro j hj w hw
   have q1:j<l.length:=by omega
   have q2:=bU (hk.of q1);obtain⟨a1,a2⟩:=hlt l[j] (bF q1);obtain⟨x,hx⟩:=fP a1
   have hwl:w.length=j:=by rw[hw];simp;omega
   have hh:=ih (j+1) (by omega) _ rfl;rw[MC q1,<-hw,hx]at hh;simp only[dt]at hh;have hc:=ve (Γ:=Γ) to hto x (by omega) (by omega) b r (hb' [.row 1 av [] none true false,.row 1 av (w.map iN) none true false]) (hr' _) (by simp);refine .bw 60 ?_;simp(disch:=omega) [q1,q2,hx];refine .bA 60 hc ?_;simp(disch:=(first|omega|(simp;omega))) [q1,q2];refine .aR ?_;simp;refine .oK (i:=h.length+1) (by simp;exact⟨rfl,rfl,rfl,rfl,rfl⟩) (by simp) (by simp) (by simp[hv]) ?_;simp at hh⊢;exact hh
 refine .bJ 60 Ka ?_;simp;refine .inLoop ?_;have hh:=key l.length 0 (by omega) [] (by simp[dX]);simp at hh⊢;exact hh
set_option maxRecDepth 8000 in
theorem P6(to:List Nat)(hto:∀x∈to,x<2^40)(l:List Int)(hl:l.length<2^40)(hlt:∀a∈l,0<=a/\a<2*to.length)(hbt:to.length<2^40){c0 c1 c2 c3 c4 c5:AV}(b r qq:Nat){E E2:TypeId}{h:List Ob}(hb:h[b]? =some (.cells [c0,c1,c2,c3,c4,c5,.sl r 0 to.length]))(hr:h[r]? =some (.row 1 E (to.map iN) none true false))
 (hq:h[qq]? =some (.row 1 E2 (l.map i64) none true false))(hv:∀m,cH (h.length+1) m h=true):
 ∀up,AM.Reach Tryz.prog Γ (.cl rV [.ptr b 0,.sl qq 0 l.length] up h) (.back up (.sl (h.length+1) 0 l.length) (h++[.row 1 av [] none true false,.row 1 av ((dX to l).map iN) none true false])):=by
 intro up
 have hb':∀os,(h++os)[b]? =some (.cells [c0,c1,c2,c3,c4,c5,.sl r 0 to.length]):=fun os=>gR hb os
 have hr':∀os,(h++os)[r]? =some (.row 1 E (to.map iN) none true false):=fun os=>gR hr os
 have hql:¬qq=h.length+1:=by have:=ba hq;omega
 have hq':∀os,(h++os)[qq]? =some (.row 1 E2 (l.map i64) none true false):=fun os=>gR hq os
 have key:∀n j:Nat,j+n=l.length->∀w,w=dX to (l.take j)->AM.Reach Tryz.prog Γ (TB (.sl (h.length+1) 0 w.length) (.fn (.func oz) [.ptr b 0] []) (.sl qq 0 l.length) (.int .i64 l.length) (.int .i64 j)
  (h++[.row 1 av [] none true false,.row 1 av (w.map iN) none true false]) ⟨[],.norm,h.length,up⟩) (.back up (.sl (h.length+1) 0 l.length) (h++[.row 1 av [] none true false,.row 1 av ((dX to l).map iN) none true false])):=by
  intro n
  induction n with
  |zero=>
   intro j hj w hw
   have q1:¬j<l.length:=by omega
   rw[cJ (by omega)]at hw;subst hw;refine .bw 60 ?_;simp[q1]
  |succ n ih=>
   intro j hj w hw
   have q1:j<l.length:=by omega
   obtain⟨a1,a2⟩:=hlt l[j] (bF q1);obtain⟨x,hx⟩:=fP a1
   have hwl:w.length=j:=by rw[hw];simp;omega
   have hh:=ih (j+1) (by omega) _ rfl;rw[MC q1,<-hw,hx]at hh;simp only[dt]at hh;have hc:=ve (Γ:=Γ) to hto x (by omega) (by omega) b r (hb' [.row 1 av [] none true false,.row 1 av (w.map iN) none true false]) (hr' _) (by simp);refine .bw 60 ?_;simp(disch:=omega) [q1,hq',hx];refine .bA 60 hc ?_;simp(disch:=(first|omega|(simp;omega))) [q1,hq'];refine .aR ?_;simp;refine .oK (i:=h.length+1) (by simp;exact⟨rfl,rfl,rfl,rfl,rfl⟩) (by simp) (by simp[hql]) (by simp[hv]) ?_;simp at hh⊢;exact hh
 refine .bJ 60 Ka ?_;simp;refine .inLoop ?_;have hh:=key l.length 0 (by omega) [] (by simp[dX]);simp at hh⊢;exact hh
abbrev qb(x:Nat×List Int):AV:=.list false x.1 (x.2.map i64)
def cy:List (Nat×List Int)->List Int
 |[]=>[]
 |x::xs=>x.2++cy xs
theorem KU(a b:List (Nat×List Int)):cy (a++b)=cy a++cy b:=by
 induction a with
 |nil=>rfl
 |cons x a ih=>simp[cy,ih]
theorem L'(xs:List (Nat×List Int))(i:Nat)(h:i<xs.length):cy (xs.take (i+1))=cy (xs.take i)++xs[i].2:=by
 rw[ke h,KU];simp[cy]
theorem Pt(xs:List (Nat×List Int))(i:Nat):(cy (xs.take i)).length<=(cy xs).length:=by
 conv=>rhs;rw[<-mn i xs,KU]
 simp
set_option maxRecDepth 8000 in
theorem Ul(xs:List (Nat×List Int))(hk:∀x∈xs,Kd 1 x.1 x.2)(hn:xs.length<2^40)(hs:(cy xs).length<2^40)(hp:0<(cy xs).length):
 aP Tryz.prog Γ qQ [.list false 1 (xs.map qb)] (.own 1 av ((cy xs).map i64)):=by
 refine .run 60 J4 (by simp) ?_
 have key2:∀n i:Nat,i+n=xs.length->∀m:Nat,(cy (xs.take i)).length+m=(cy xs).length->
  aB Tryz.prog Γ (S3 (.sl 2 0 (cy (xs.take i)).length) (.list false 1 (xs.map qb)) (.int .i64 xs.length) (.int .i64 i) [.row 1 av [] none true false,.row 1 av [] none true false,.row 1 av ((cy (xs.take i)).map i64++List.replicate m (AV.int .i64 0)) none true false])
   (.ret (.own 1 av ((cy xs).map i64))):=by
  intro n
  induction n with
  |zero=>
   intro i hi m hm
   have q1:¬i<xs.length:=by omega
   have q2:xs.take i=xs:=cJ (by omega);rw[q2]at hm⊢
   have hm0:m=0:=by omega
   subst hm0;refine .go 60 ?_;simp[q1];exact .back (by simp)
  |succ n ih=>
   intro i hi m hm
   have q1:i<xs.length:=by omega
   have q2:=L' xs i q1;have q3:=Pt xs (i+1);rw[q2,bq]at q3;have q4:=hk xs[i] (bF q1);have q5:xs[i].1=1\/xs[i].2=[]:=q4;have hh:=ih (i+1) (by omega) (m-xs[i].2.length) (by rw[q2,bq];omega);rw[q2]at hh
   have hd:(List.replicate m (AV.int .i64 0)).drop xs[i].2.length=List.replicate (m-xs[i].2.length) (AV.int .i64 0):=by simp
   refine .go 60 ?_
   by_cases q6:(cy (xs.take i)).length=(cy xs).length
   ·have q7:xs[i].2=[]:=mj.1 (by omega)
    have hm0:m=0:=by omega
    subst hm0;simp[q7]at hh;simp(disch:=(first|omega|(simp;omega))) [q1,q5,q7];refine .aR ?_;simp;exact hh
   ·simp(disch:=(first|omega|(simp;omega))) [q1,q5]
    by_cases q7:m=0
    ·omega
    ·have c1:¬(cy (List.take i xs)).length=(cy (List.take i xs)).length+m:=by omega
     have c2:(cy (List.take i xs)).length+xs[i].snd.length<=(cy (List.take i xs)).length+m:=by omega
     simp(disch:=(first|omega|(simp;omega))) [q1,q5,c1,c2,q7];refine .aR ?_;have hd0:((cy (xs.take i)).map i64).drop ((cy (xs.take i)).length+xs[i].2.length)=[]:=bT (by simp);simp[v8,hd,hd0]at hh⊢;exact hh
 have key1:∀n i:Nat,i+n=xs.length->
  aB Tryz.prog Γ (RG (.list false 1 (xs.map qb)) (.int .i64 (cy (xs.take i)).length) (.list false 1 (xs.map qb)) (.int .i64 xs.length) (.int .i64 i) [.row 1 av [] none true false])
   (.ret (.own 1 av ((cy xs).map i64))):=by
  intro n
  induction n with
  |zero=>
   intro i hi
   have q1:¬i<xs.length:=by omega
   have q2:xs.take i=xs:=cJ (by omega);have q3:0<(cy xs).length:=hp;have hh:=key2 xs.length 0 (by omega) (cy xs).length (by simp[cy]);refine .go 60 ?_;rw[q2];simp[q1];refine .enter 60 J7 ?_
   have q4:¬(cy xs).length=0:=by omega
   have q5:cy xs≠[]:=fun e=>by rw[e]at hp;simp at hp
   obtain⟨m,hm⟩:∃m,(cy xs).length=m+1:=⟨(cy xs).length-1,by omega⟩
   have hrep:List.replicate (cy xs).length (AV.int .i64 0)=(AV.int .i64 0)::List.replicate m (AV.int .i64 0):=by rw[hm];rfl
   simp(disch:=(first|omega|(simp;omega))) [q3,q4,q5,hrep];refine .inLoop ?_;simp[cy,hrep]at hh⊢;exact hh
  |succ n ih=>
   intro i hi
   have q1:i<xs.length:=by omega
   have q2:=L' xs i q1;have q3:=Pt xs (i+1);rw[q2,bq]at q3;have hh:=ih (i+1) (by omega);rw[q2]at hh;refine .go 60 ?_
   have q4:¬((cy (xs.take i)).length:Int)+xs[i].2.length<0:=by omega
   simp(disch:=(first|omega|(simp;omega))) [q1,q4];refine .aR ?_;simp at hh⊢;exact hh
 simp;refine .inLoop ?_;have hh:=key1 xs.length 0 (by omega);simp[cy]at hh⊢;exact hh
set_option maxRecDepth 8000 in
theorem Ua(xs:List (Nat×List Int))(hx:∀x∈xs,x.2=[])(hn:xs.length<2^40):
 aP Tryz.prog Γ qQ [.list false 1 (xs.map qb)] (.own 1 av []):=by
 refine .run 60 J4 (by simp) ?_
 have key2:∀n i:Nat,i+n=xs.length->aB Tryz.prog Γ (S3 (.list true 0 []) (.list false 1 (xs.map qb)) (.int .i64 xs.length) (.int .i64 i) [.row 1 av [] none true false,.row 1 av [] none true false])
  (.ret (.own 1 av [])):=by
  intro n
  induction n with
  |zero=>
   intro i hi
   have q1:¬i<xs.length:=by omega
   refine .pR 6 1 av rfl (by omega) ?_;refine .go 60 ?_;simp[q1];exact .back (by simp)
  |succ n ih=>
   intro i hi
   have q1:i<xs.length:=by omega
   have q7:=hx xs[i] (bF q1);have hh:=ih (i+1) (by omega);refine .go 60 ?_;simp(disch:=(first|omega|(simp;omega))) [q1,q7];refine .aR ?_;simp at hh⊢;exact hh
 have key:∀n i:Nat,i+n=xs.length->aB Tryz.prog Γ (RG (.list false 1 (xs.map qb)) (.int .i64 0) (.list false 1 (xs.map qb)) (.int .i64 xs.length) (.int .i64 i) [.row 1 av [] none true false])
  (.ret (.own 1 av [])):=by
  intro n
  induction n with
  |zero=>
   intro i hi
   have q1:¬i<xs.length:=by omega
   refine .go 60 ?_;simp[q1];refine .enter 60 J7 ?_;simp;refine .inLoop ?_;have hh:=key2 xs.length 0 (by omega);simp at hh⊢;exact hh
  |succ n ih=>
   intro i hi
   have q1:i<xs.length:=by omega
   have q7:=hx xs[i] (bF q1);have hh:=ih (i+1) (by omega);refine .go 60 ?_;simp(disch:=(first|omega|(simp;omega))) [q1,q7];refine .aR ?_;simp at hh⊢;exact hh
 simp;refine .inLoop ?_;have hh:=key xs.length 0 (by omega);simp at hh⊢;exact hh
theorem Uk(xs:List (Nat×List Int))(hk:∀x∈xs,Kd 1 x.1 x.2)(hn:xs.length<2^40)(hs:(cy xs).length<2^40):
 aP Tryz.prog Γ qQ [.list false 1 (xs.map qb)] (.own 1 av ((cy xs).map i64)):=by
 rcases TK (cy xs).length with h|h
 ·have h0:cy xs=[]:=mj.1 h
  have hx:∀x∈xs,x.2=[]:=by
   clear hk hn hs h
   induction xs with
   |nil=>simp
   |cons y ys ih=>
    simp only[cy,JN]at h0;intro x hx
    rcases bo.1 hx with rfl|hx
    ·exact h0.1
    ·exact ih h0.2 x hx
  rw[h0];exact Ua xs hx hn
 ·exact Ul xs hk hn hs h
def iG:List Int->List Bool->List Bool
 |[],v=>v
 |a::l,v=>iG l (v.set (a.toNat/2) true)
def ja(ands:List (Int×Int))(first:Nat):Nat->List Bool->List Bool
 |0,v=>v
 |i+1,v=>ja ands first i (if v.getD (first+i) false=true then(v.set ((ands.getD i (0,0)).1.toNat/2) true).set ((ands.getD i (0,0)).2.toNat/2) true else v)
def Gr.aS(g:Gr):List Bool:=ja g.ands g.first g.ands.length (iG (g.next++g.outs) (List.replicate g.all false))
theorem xq:∀(l:List Int)(v:List Bool),(iG l v).length=v.length
 |[],v=>rfl
 |a::l,v=>by rw[iG,xq l,jG]
theorem MT(ands:List (Int×Int))(first:Nat):∀(i:Nat)(v:List Bool),(ja ands first i v).length=v.length
 |0,v=>rfl
 |i+1,v=>by rw[ja,MT ands first i];split<;>simp
theorem Kt:∀(a b:List Int)(v:List Bool),iG (a++b) v=iG b (iG a v)
 |[],b,v=>rfl
 |x::a,b,v=>by rw[ep,iG,iG,Kt a b]
abbrev af5:List (List Nat):=[[0,1,2,3,4,5,6,7,8],[0,1,2,3,4,5,7,6,8],[0,1,2,3,4,7,5,6,8],[0,1,2,3,7,4,5,6,8],[0,1,2,7,3,4,5,6,8],[0,1,7,2,3,4,5,6,8],[0,2,1,3,4,5,6,7,8],[0,2,1,3,4,5,7,6,8],[0,2,1,3,4,7,5,6,8],[0,2,1,3,7,4,5,6,8],[0,2,1,7,3,4,5,6,8],[0,2,3,1,4,5,6,7,8],[0,2,3,1,4,5,7,6,8],[0,2,3,1,4,7,5,6,8],[0,2,3,1,7,4,5,6,8],[0,2,3,4,1,5,6,7,8],[0,2,3,4,1,5,7,6,8],[0,2,3,4,1,7,5,6,8],[0,2,3,4,7,1,5,6,8],[0,2,3,7,1,4,5,6,8],[0,2,3,7,4,1,5,6,8],[0,2,7,1,3,4,5,6,8],[0,2,7,3,1,4,5,6,8],[0,2,7,3,4,1,5,6,8],[0,7,1,2,3,4,5,6,8],[0,7,2,1,3,4,5,6,8],[0,7,2,3,1,4,5,6,8],[0,7,2,3,4,1,5,6,8],[2,0,1,3,4,5,6,7,8],[2,0,1,3,4,5,7,6,8],[2,0,1,3,4,7,5,6,8],[2,0,1,3,7,4,5,6,8],[2,0,1,7,3,4,5,6,8],[2,0,3,1,4,5,6,7,8],[2,0,3,1,4,5,7,6,8],[2,0,3,1,4,7,5,6,8],[2,0,3,1,7,4,5,6,8],[2,0,3,4,1,5,6,7,8],[2,0,3,4,1,5,7,6,8],[2,0,3,4,1,7,5,6,8],[2,0,3,4,7,1,5,6,8],[2,0,3,7,1,4,5,6,8],[2,0,3,7,4,1,5,6,8],[2,0,7,1,3,4,5,6,8],[2,0,7,3,1,4,5,6,8],[2,0,7,3,4,1,5,6,8],[2,3,0,1,4,5,6,7,8],[2,3,0,1,4,5,7,6,8],[2,3,0,1,4,7,5,6,8],[2,3,0,1,7,4,5,6,8],[2,3,0,4,1,5,6,7,8],[2,3,0,4,1,5,7,6,8],[2,3,0,4,1,7,5,6,8],[2,3,0,4,7,1,5,6,8],[2,3,0,7,1,4,5,6,8],[2,3,0,7,4,1,5,6,8],[2,3,4,0,1,5,6,7,8],[2,3,4,0,1,5,7,6,8],[2,3,4,0,1,7,5,6,8],[2,3,4,0,7,1,5,6,8],[2,3,4,7,0,1,5,6,8],[2,3,7,0,1,4,5,6,8],[2,3,7,0,4,1,5,6,8],[2,3,7,4,0,1,5,6,8],[2,7,0,1,3,4,5,6,8],[2,7,0,3,1,4,5,6,8],[2,7,0,3,4,1,5,6,8],[2,7,3,0,1,4,5,6,8],[2,7,3,0,4,1,5,6,8],[2,7,3,4,0,1,5,6,8],[7,0,1,2,3,4,5,6,8],[7,0,2,1,3,4,5,6,8],[7,0,2,3,1,4,5,6,8],[7,0,2,3,4,1,5,6,8],[7,2,0,1,3,4,5,6,8],[7,2,0,3,1,4,5,6,8],[7,2,0,3,4,1,5,6,8],[7,2,3,0,1,4,5,6,8],[7,2,3,0,4,1,5,6,8],[7,2,3,4,0,1,5,6,8]]
theorem adP:fU [[],[0],[],[2],[3],[1,4],[5,5],[],[7,6,1,0,1,2,3,4,5,6,7]] 9 []=af5:=by decide+kernel
abbrev za(g:Gr):List Fr:=[⟨.run,sw,[.jO 6,.inBlock 0 [],.code (.seq (.ae IH) .ret)],
 [gJ g,.ptr 0 0,U,.ptr 2 0,U,U,U,U,U,U,U,U,gJ g,.sl 1 0 g.all,.fn (.func pA) [] [.ptr 3 0,.ptr 4 0],U,U,U,U,U,U],[.mark 5],.norm,0⟩]
abbrev vC(g:Gr)(v:List Bool):List Ob:=[oV g,.row 1 aY (v.map .bool) none true false,.cells [.sl 1 0 g.all],oV g,.cells [.sl 1 0 g.all],.bH true,
 .loop .ready .none sw [U,U,U,.ptr 2 0,U,U,U,U,U,U,U,U,U,U,U,U,U,U,U,U,U] [15] (.ae Sd) Sn,.cells [.c8 6]]
set_option maxRecDepth 8000 in
theorem aee(g:Gr)(ok:g.Ok)(L:List Int)(hL:∀a∈L,0<=a/\a<g.lits)(hl:L.length<2^40){o:Out}(v0:List Bool)(hv0:v0.length=g.all)
 (hc:aB Tryz.prog Γ (Ic (.ptr 3 0) (.ptr 4 0) (.ptr 7 0) (vC g (iG L v0)++[.row 1 av (L.map i64) none true false]) ⟨[],.norm,7,za g⟩) o):
 ∀n i:Nat,i+n=L.length->∀v,v=iG (L.take i) v0->aB Tryz.prog Γ (ywO (.ptr 3 0) (.ptr 4 0) (.ptr 7 0) (.sl 8 0 L.length) (.int .i64 L.length) (.int .i64 i) (vC g v++[.row 1 av (L.map i64) none true false]) ⟨[],.norm,7,za g⟩) o:=by
 intro n
 induction n with
 |zero=>
  intro i hi v hv;rw[cJ (by omega)]at hv;subst hv
  have q1:¬i<L.length:=by omega
  refine .reach (.ey 60 (c':=Ic (.ptr 3 0) (.ptr 4 0) (.ptr 7 0) (vC g (iG L v0)++[.row 1 av (L.map i64) none true false]) ⟨[],.norm,7,za g⟩) ?_) hc;simp[q1];exact .exit rfl rfl
 |succ n ih=>
  intro i hi v hv
  have q1:i<L.length:=by omega
  obtain⟨b1,b2⟩:=hL L[i] (bF q1);obtain⟨x,hx⟩:=fP b1
  have hvl:v.length=g.all:=by rw[hv,xq,hv0]
  have hh:=ih (i+1) (by omega) (v.set (x/2) true) (by rw[ke q1,Kt,<-hv,iG,iG,hx];rfl);have e1:g.lits=2*g.all:=rfl;refine .go 60 ?_
  have q3:x/2<g.all:=by omega
  simp(disch:=omega) [q1,hx,lN,hvl,q3,-Int.natCast_ediv,-Int.natCast_emod];refine .aR ?_
  have e2:(v.map AV.bool).set (x/2) (.bool true)=(v.set (x/2) true).map AV.bool:=by rw[qM]
  rw[e2];simp[-List.map_set]at hh⊢;exact hh
abbrev aeN(g:Gr):List Fr:=⟨.run,pA,[.jO 11,.inBlock 2 []],[U,.ptr 3 0,.ptr 4 0,.ptr 7 0,U,U,U,U,U,U,U,U,U,U,U,U,U,U,U,U,U,U,U,U,
          .ptr 3 3,.list false g.ka (List.map dI g.ands),.fn (.func wA) [] [.ptr 9 0],U,U,U,U,U,U,U,U,U,U,U,U,U,U,U,U,U,U,U,U,U,U,U],[.mark 10],.norm,7⟩::za g
abbrev afN(g:Gr)(v:List Bool)(rest:Ob):List Ob:=vC g v++[rest,.cells [.list false g.ka (List.map dI g.ands)],.bH true,
 .loop .ready .none pA [U,.ptr 3 0,.ptr 4 0,.ptr 7 0,U,U,U,U,U,U,U,U,U,U,U,U,U,U,U,U,U,U,U,U,U,U,U,U,U,U,U,U,U,U,U,U,U,U,U,U,U,U,U,U,U,U,U,U,U,U] [27,28] IP H3]
abbrev Cz(g:Gr)(v:List Bool)(rest:Ob)(x y:Nat):List Ob:=vC g v++[rest,.cells [.list false g.ka (List.map dI g.ands)],.bH true,
 .loop .busy .none pA [U,.ptr 3 0,.ptr 4 0,.ptr 7 0,U,U,U,U,U,U,U,U,U,U,U,U,U,U,U,U,U,U,U,U,U,U,U,U,U,U,U,U,U,U,U,U,U,U,U,U,U,U,U,U,U,U,U,U,U,U] [27,28] IP H3,
 .cells [.int .i64 x,.int .i64 y]]
theorem PW(g:Gr)(v:List Bool)(hv:v.length=g.all)(rest:Ob)(x y z:Nat)(hz:z/2<g.all)(hz2:(z:Int)<2^40):∀up,AM.Reach Tryz.prog Γ ((iR.yl 6).cfg [.int .i64 z] up (Cz g v rest x y)) (.back up (.bool true) (Cz g (v.set (z/2) true) rest x y)):=by
 intro up;simp;refine .bw 60 ?_;simp(disch:=omega) [hv,hz,-Int.natCast_ediv,-Int.natCast_emod,-Int.natCast_add]
set_option maxRecDepth 8000 in
theorem ad6(g:Gr)(ok:g.Ok)(L:List Int):∀i:Nat,i<=g.ands.length->∀v:List Bool,v.length=g.all->
 aB Tryz.prog Γ (yzc (.c8 11) (.ptr 9 0) (.int .i64 ((i:Int)-1)) (afN g v (.row 1 av (L.map i64) none true false)) ⟨[],.norm,12,aeN g⟩) (.ret (.own 1 aY ((ja g.ands g.first i v).map .bool))):=by
 have o1:=ok.ins;have o3:=ok.sum;have hf:=r_ (Γ:=Γ) g o1.1 o1.2 (by omega);intro i
 induction i with
 |zero=>
  intro hi v hv;refine .go 60 ?_;simp;exact .back (by simp[ja,hv])
 |succ i ih=>
  intro hi v hv
  have q1:i<g.ands.length:=by omega
  have e0:((i+1:Nat):Int)-1=i:=by omega
  rw[e0];obtain⟨⟨b1,b2⟩,b3,b4⟩:=ok.ands i q1;obtain⟨x,hx⟩:=fP b1;obtain⟨y,hy⟩:=fP b3;have q2:=bU (g.ha.of q1);refine .go 60 ?_;simp(disch:=omega) [q1,q2,lN];refine .dr 60 ?_;simp(disch:=omega) [q1,q2];refine .call (by simp) hf ?_
  have e1:(g.first:Int)+i=((g.first+i:Nat):Int):=by omega
  have q3:g.first+i<v.length:=by rw[hv];unfold Gr.all;omega
  have q4:g.first+i<g.all:=by omega
  have hfb:g.first<=8001:=by unfold Gr.first;omega
  have q5:x/2<g.all:=by omega
  have q6:y/2<g.all:=by omega
  rw[ja,bj,aM q3,jJ,bj,aM q1,jJ,hx,hy];simp only[dt]
  by_cases hb:v[g.first+i]=true
  ·rw[if_pos hb];have hh:=ih (by omega) ((v.set (x/2) true).set (y/2) true) (by simp[hv]);simp(disch:=omega) [e1,q3,q4,hb,hv,hx,hy,q5,-Int.natCast_ediv,-Int.natCast_emod,-Int.natCast_add];have k1:=PW (Γ:=Γ) g v hv (.row 1 av (L.map i64) none true false) x y x q5 (by omega);have k2:=PW (Γ:=Γ) g (v.set (x/2) true) (by simp[hv]) (.row 1 av (L.map i64) none true false) x y y q6 (by omega);refine .go (.bool true) (Cz g (v.set (x/2) true) (.row 1 av (L.map i64) none true false) x y) k1 ?_;simp(disch:=omega) [hb,hv,hx,hy,q5,q6,-List.map_set,-Int.natCast_ediv,-Int.natCast_emod,-Int.natCast_add];refine .go (.bool true) (Cz g ((v.set (x/2) true).set (y/2) true) (.row 1 av (L.map i64) none true false) x y) k2 ?_;simp(disch:=omega) [hb,hv,hx,hy,q5,q6,-List.map_set,-Int.natCast_ediv,-Int.natCast_emod,-Int.natCast_add];refine .aR ?_;simp
   refine .drop 12 rfl (by simp) (by simp) (by simp) ?_;simp[e0]at hh⊢;exact hh
  ·rw[if_neg hb];have hh:=ih (by omega) v hv;simp(disch:=omega) [e1,q3,q4,hb,hv,-Int.natCast_add];refine .aR ?_;simp;refine .drop 12 rfl (by simp) (by simp) (by simp) ?_;simp[e0]at hh⊢;exact hh
set_option maxRecDepth 8000 in
theorem aeb(g:Gr)(ok:g.Ok)(v0:List Bool)(hv0:v0.length=g.all)(L:List Int):aB Tryz.prog Γ (Ic (.ptr 3 0) (.ptr 4 0) (.ptr 7 0) (vC g v0++[.row 1 av (L.map i64) none true false]) ⟨[],.norm,7,za g⟩) (.ret (.own 1 aY ((ja g.ands g.first g.ands.length v0).map .bool))):=by
 have o3:=ok.sum;have o1:=ok.ins;refine .go 60 ?_;simp;refine .enter 60 T7 ?_;simp;refine .enter 60 TY ?_;simp(disch:=omega);refine .inLoop ?_;have hh:=ad6 (Γ:=Γ) g ok L g.ands.length (by omega) v0 hv0;simp at hh⊢;exact hh
set_option maxRecDepth 8000 in
theorem afJ(g:Gr)(ok:g.Ok):aB Tryz.prog Γ (.fr ⟨.run,sw,[.ops [],.code (.seq (.seq (.ae Q0) (.block 0 [] Sp)) (.seq (.ae IH) .ret))],
 [gJ g,.ptr 0 0,U,.ptr 2 0,U,U,U,U,U,U,U,U,U,U,U,U,U,U,U,U,U],[],.norm,0⟩ [] [oV g,.row 1 aY (List.replicate g.all (.bool false)) none true false,.cells [.sl 1 0 g.all]]) (.ret (.own 1 aY (g.aS.map .bool))):=by
 have o1:=ok.ins;have o3:=ok.sum;refine .go 60 ?_;simp;refine .enter 60 VJ ?_;simp;refine .enter 60 Vl ?_;simp
 have hcat:=Uk (Γ:=Γ) [(g.kn,g.next),(g.ko,g.outs)] (by
  intro x hx;simp only[bo,mu,ml]at hx
  rcases hx with rfl|rfl
  ·exact g.hn
  ·exact g.ho) (by simp) (by simp[cy];have:=ok.jP;omega)
 simp[cy]at hcat;refine .call 60 (by simp) hcat ?_;simp;refine .inLoop ?_
 have hL:∀a∈g.next++g.outs,0<=a/\a<(g.lits:Int):=by
  intro a ha
  rcases aN.1 ha with ha|ha
  ·exact ok.next a ha
  ·exact ok.outs a ha
 have hh:=aee (Γ:=Γ) g ok (g.next++g.outs) hL (by simp;have:=ok.jP;omega) (List.replicate g.all false) (by simp)
  (aeb g ok _ (by rw[xq];simp) _) (g.next++g.outs).length 0 (by omega) _ rfl
 simp[iG]at hh⊢;exact hh
set_option maxRecDepth 20000 in
set_option maxHeartbeats 2000000 in
theorem Zu(g:Gr)(ok:g.Ok):aP Tryz.prog Γ sw [gJ g] (.own 1 aY (g.aS.map .bool)):=by
 have o1:=ok.ins;have o3:=ok.sum;refine .run 60 Zr (by simp) ?_;simp;refine .ogO 60 ?_;simp only[bz,c9,iv,Nat.reduceAdd,adP];have hf:=r_ (Γ:=Γ) g o1.1 o1.2 (by omega)
 have e1:(g.first:Int)+g.ands.length=(g.all:Int):=by unfold Gr.all;omega
 have hall:g.all<=12001:=by unfold Gr.all Gr.first;omega
 have hgen:=afJ (Γ:=Γ) g ok;intro l hl;simp only[bo,mu,ml]at hl
 rcases hl with rfl|rfl|rfl|rfl|rfl|rfl|rfl|rfl|rfl|rfl|rfl|rfl|rfl|rfl|rfl|rfl|rfl|rfl|rfl|rfl|rfl|rfl|rfl|rfl|rfl|rfl|rfl|rfl|rfl|rfl|rfl|rfl|rfl|rfl|rfl|rfl|rfl|rfl|rfl|rfl|rfl|rfl|rfl|rfl|rfl|rfl|rfl|rfl|rfl|rfl|rfl|rfl|rfl|rfl|rfl|rfl|rfl|rfl|rfl|rfl|rfl|rfl|rfl|rfl|rfl|rfl|rfl|rfl|rfl|rfl|rfl|rfl|rfl|rfl|rfl|rfl|rfl|rfl|rfl|rfl
 all_goals
  simp;refine .Qr 60 (by simp) hf ?_;simp(disch:=(first|omega|(simp;omega))) [e1];refine .n9 [2,5,6,7,8,9,10,11] ?_;simp
  first
   |(refine .gc 1 [1,2] (by simp) (by decide) ?_;simp;exact hgen)
   |(refine .gc 1 [3,1] (by simp) (by decide) ?_;simp;exact hgen)
end Go.Proofs.YtchjijfjidlpjaaGreatDoor
namespace Go.Proofs.YtchjijfjidlpjaaGreatDoor
open Go.AM Go.Proofs
def ids(n:Nat):List Nat:=(List.range n).map (2*·)
@[simp] theorem OS(n:Nat):(ids n).length=n:=by simp[ids]
theorem FU(n:Nat):ids (n+1)=ids n++[2*n]:=by simp[ids,DG]
def eY(first:Nat):List (Int×Int)->List (Int×Int)->List Nat->List (Int×Int)×List Nat
 |[],l,to=>(l,to)
 |p::ps,l,to=>eY first ps (bN first l (bg to p.1.toNat) (bg to p.2.toNat)).1 (to++[(bN first l (bg to p.1.toNat) (bg to p.2.toNat)).2])
def dx(first:Nat)(aS:List Bool):List (Int×Int)->Nat->List (Int×Int)->List Nat->List (Int×Int)×List Nat
 |[],_,l,to=>(l,to)
 |p::ps,i,l,to=>
  if aS.getD (first+i) false=true then dx first aS ps (i+1) (bN first l (bg to p.1.toNat) (bg to p.2.toNat)).1 (to++[(bN first l (bg to p.1.toNat) (bg to p.2.toNat)).2])
  else dx first aS ps (i+1) l (to++[0])
def Gr.cY(g:Gr)(r:List (Int×Int)×List Nat):Gr:=⟨g.ins,(dX r.2 g.next).map fun n:Nat=>(n:Int),g.init,r.1,(dX r.2 g.outs).map fun n:Nat=>(n:Int),1,1,2,1,.self,.self,.self,.self⟩
def Gr.da(g:Gr):Gr:=g.cY (eY g.first g.ands [] (ids g.first))
def Gr.cP(x:Gr):Gr:=x.cY (dx x.first x.aS x.ands 0 [] (ids x.first))
def Gr.normal(g:Gr):Gr:=if g.check=0 then g.da.cP else tp
structure nf(first:Nat)(l:List (Int×Int))(to:List Nat):Prop where
 lt:∀x∈to,x<2*(first+l.length)
theorem u6{first:Nat}{l:List (Int×Int)}{a b:Nat}(ha:a<2*(first+l.length))(hb:b<2*(first+l.length))(h1:1<=first):
 (bN first l a b).2<2*(first+(bN first l a b).1.length)/\l.length<=(bN first l a b).1.length:=by
 unfold bN
 split
 ·rename_i c hc;unfold mc at hc;refine⟨?_,aO _⟩;simp only
  split at hc
  ·cases hc;omega
  ·split at hc
   ·cases hc;omega
   ·cases hc
 ·split
  ·rename_i i hi;obtain⟨_,h2,_⟩:=E1 hi;exact⟨by simp only;omega,aO _⟩
  ·exact⟨by simp only[bq,bz,c9];omega,by simp⟩
theorem nT{to:List Nat}{B a:Nat}(h:∀x∈to,x<2*B)(ha:a/2<to.length):bg to a<2*B:=by
 have h1:=h _ (bF ha);unfold bg;rw[bj,aM ha,jJ]
 rcases(show a%2=0\/a%2=1 by omega)with h2|h2
 ·rw[h2,wu];exact h1
 ·rw[h2,mC];split<;>omega
theorem O_(x:Gr):x.aS.length=x.all:=by unfold Gr.aS;rw[MT,xq,pv]
structure ga(first:Nat)(l:List (Int×Int)):Prop where
 at_:∀i(h:i<l.length),∃p q:Nat,l[i]=((p:Int),(q:Int))/\2<=q/\q<p/\p/2≠q/2/\p<2*(first+i)
 nd:l.Nodup
theorem LO(first:Nat):ga first []:=⟨fun i h=>by simp at h,List.nodup_nil⟩
theorem ga.push{first:Nat}{l:List (Int×Int)}(h:ga first l){a b:Nat}(ha:a<2*(first+l.length))(hb:b<2*(first+l.length)):ga first (bN first l a b).1:=by
 unfold bN
 split
 ·exact h
 ·rename_i hk
  split
  ·exact h
  ·rename_i hi;obtain⟨k1,k2,k3,k4⟩:=Mu hk
   have hle:min a b<=max a b:=by omega
   have hx:=mC (max a b);refine⟨fun i hi2=>?_,?_⟩
   ·by_cases hil:i<l.length
    ·obtain⟨p,q,e,r⟩:=h.at_ i hil;exact⟨p,q,by simp only;rw[wg hil];exact e,r⟩
    ·have e0:i=l.length:=by simp at hi2;omega
     subst e0;refine⟨max a b,min a b,by simp,by omega,by omega,?_,by omega⟩;intro hd;apply k2;rw[hx]
     split<;>omega
   ·rw[jM];refine⟨h.nd,by simp,?_⟩;intro x hx2 y hy he;subst he;simp at hy;subst hy;exact(Ff.1 hi) hx2
theorem Nb(first:Nat)(h1:1<=first):∀(ps l:List (Int×Int))(to:List Nat),ga first l->nf first l to->(∀i(h:i<ps.length),ps[i].1.toNat/2<to.length+i/\ps[i].2.toNat/2<to.length+i)->
 ga first (eY first ps l to).1/\nf first (eY first ps l to).1 (eY first ps l to).2/\(eY first ps l to).2.length=to.length+ps.length/\(eY first ps l to).1.length<=l.length+ps.length
 |[],l,to,hl,ht,_=>⟨hl,ht,rfl,aO _⟩
 |p::ps,l,to,hl,ht,hp=>by
  have h0:=hp 0 (by simp);simp only[DH,gM]at h0;have ha:=nT ht.lt h0.1;have hb:=nT ht.lt h0.2;obtain⟨hlt,hge⟩:=u6 ha hb h1
  have hlen:=BA first l (bg to p.1.toNat) (bg to p.2.toNat)
  rw[eY]
  obtain⟨a1,a2,a3,a4⟩:=Nb first h1 ps (bN first l (bg to p.1.toNat) (bg to p.2.toNat)).1 (to++[(bN first l (bg to p.1.toNat) (bg to p.2.toNat)).2]) (hl.push ha hb) ⟨fun z hz=>by
   rcases aN.1 hz with hz|hz
   ·have:=ht.lt z hz;omega
   ·simp at hz;omega⟩ (fun i hi=>by
   have:=hp (i+1) (by simpa using hi);simp only[tG]at this
   simp;omega)
  refine⟨a1,a2,by rw[a3];simp;omega,by simp only[bz];omega⟩
theorem FT(first:Nat)(h1:1<=first)(aS:List Bool):∀(ps:List (Int×Int))(i:Nat)(l:List (Int×Int))(to:List Nat),ga first l->nf first l to->(∀i(h:i<ps.length),ps[i].1.toNat/2<to.length+i/\ps[i].2.toNat/2<to.length+i)->
 ga first (dx first aS ps i l to).1/\nf first (dx first aS ps i l to).1 (dx first aS ps i l to).2/\(dx first aS ps i l to).2.length=to.length+ps.length/\(dx first aS ps i l to).1.length<=l.length+ps.length
 |[],i,l,to,hl,ht,_=>⟨hl,ht,rfl,aO _⟩
 |p::ps,i,l,to,hl,ht,hp=>by
  have h0:=hp 0 (by simp);simp only[DH,gM]at h0;have ha:=nT ht.lt h0.1;have hb:=nT ht.lt h0.2;obtain⟨hlt,hge⟩:=u6 ha hb h1
  have hlen:=BA first l (bg to p.1.toNat) (bg to p.2.toNat)
  rw[dx]
  split
  ·obtain⟨a1,a2,a3,a4⟩:=FT first h1 aS ps (i+1) (bN first l (bg to p.1.toNat) (bg to p.2.toNat)).1 (to++[(bN first l (bg to p.1.toNat) (bg to p.2.toNat)).2]) (hl.push ha hb) ⟨fun z hz=>by
    rcases aN.1 hz with hz|hz
    ·have:=ht.lt z hz;omega
    ·simp at hz;omega⟩ (fun i hi=>by
    have:=hp (i+1) (by simpa using hi);simp only[tG]at this
    simp;omega)
   refine⟨a1,a2,by rw[a3];simp;omega,by simp only[bz];omega⟩
  ·obtain⟨a1,a2,a3,a4⟩:=FT first h1 aS ps (i+1) l (to++[0]) hl ⟨fun z hz=>by
    rcases aN.1 hz with hz|hz
    ·exact ht.lt z hz
    ·simp at hz;omega⟩ (fun i hi=>by
    have:=hp (i+1) (by simpa using hi);simp only[tG]at this
    simp;omega)
   refine⟨a1,a2,by rw[a3];simp;omega,by simp only[bz];omega⟩
theorem Gd{g:Gr}(ok:g.Ok):∀i(h:i<g.ands.length),g.ands[i].1.toNat/2<(ids g.first).length+i/\g.ands[i].2.toNat/2<(ids g.first).length+i:=by
 intro i h;have:=ok.ands i h
 simp;omega
theorem Ci(first:Nat):nf first [] (ids first):=⟨fun z hz=>by simp[ids]at hz;obtain⟨a,ha,rfl⟩:=hz;simp;omega⟩
theorem PY{g:Gr}(ok:g.Ok){l:List (Int×Int)}{to:List Nat}(hl:ga g.first l)(ht:nf g.first l to)(h1:to.length=g.all)(h2:l.length<=g.ands.length):(g.cY (l,to)).Ok:=by
 have o1:=ok.ins;have o3:=ok.sum
 have hb:∀a:Int,0<=a->a<g.lits->bg to a.toNat<2*(g.first+l.length):=fun a h3 h4=>nT ht.lt (by have:g.lits=2*g.all:=rfl;omega)
 have hfst:(g.cY (l,to)).first=g.first:=by simp[Gr.first,Gr.cY]
 have hlits:(g.cY (l,to)).lits=2*(g.first+l.length):=by simp only[Gr.lits,Gr.all,hfst];rfl
 refine⟨o1,by simp[Gr.cY];omega,by simp[Gr.cY];exact ok.jP,by simp[Gr.cY];exact ok.same,ok.init,?_,?_,?_⟩
 ·intro a ha;rw[hlits];simp only[Gr.cY,b_,dX]at ha;obtain⟨n,⟨b,hb2,rfl⟩,rfl⟩:=ha;have h3:=ok.next b hb2;have:=hb b h3.1 h3.2;omega
 ·intro a ha;rw[hlits];simp only[Gr.cY,b_,dX]at ha;obtain⟨n,⟨b,hb2,rfl⟩,rfl⟩:=ha;have h3:=ok.outs b hb2;have:=hb b h3.1 h3.2;omega
 ·intro i hi;rw[hfst];obtain⟨p,q,e,r1,r2,r3,r4⟩:=hl.at_ i hi;have e2:(g.cY (l,to)).ands[i]=((p:Int),(q:Int)):=e;rw[e2];simp only;omega
theorem BO{g:Gr}(ok:g.Ok):g.da.Ok/\ga g.first g.da.ands/\g.da.ands.length<=g.ands.length:=by
 have o1:=ok.ins
 obtain⟨a1,a2,a3,a4⟩:=Nb g.first (by unfold Gr.first;omega) g.ands [] (ids g.first) (LO _) (Ci _) (Gd ok)
 refine⟨PY ok a1 a2 (by rw[a3];simp[Gr.all]) (by simpa using a4),a1,?_⟩;rw[c9,iv]at a4;exact a4
theorem BV{g:Gr}(ok:g.Ok):g.cP.Ok/\ga g.first g.cP.ands/\g.cP.ands.length<=g.ands.length:=by
 have o1:=ok.ins
 obtain⟨a1,a2,a3,a4⟩:=FT g.first (by unfold Gr.first;omega) g.aS g.ands 0 [] (ids g.first) (LO _) (Ci _) (Gd ok)
 refine⟨PY ok a1 a2 (by rw[a3];simp[Gr.all]) (by simpa using a4),a1,?_⟩;rw[c9,iv]at a4;exact a4
end Go.Proofs.YtchjijfjidlpjaaGreatDoor
namespace Go.Proofs.YtchjijfjidlpjaaGreatDoor
open Go.AM Go.Proofs
variable{Γ:Nat->Option AV}
def gT(a b:Gr):Bool:=decide (a.ins=b.ins)&&decide (a.next=b.next)&&decide (a.init=b.init)&&decide (a.ands=b.ands)&&decide (a.outs=b.outs)
def Gr.CL(g:Gr)(i:Nat):Bool:=
 decide ((g.ands.getD i (0,0)).1<=(g.ands.getD i (0,0)).2)||decide ((g.ands.getD i (0,0)).2<=1)||decide ((g.ands.getD i (0,0)).1.toNat/2=(g.ands.getD i (0,0)).2.toNat/2)||!g.aS.getD (g.first+i) false||decide (g.ands.getD i (0,0)∈g.ands.take i)
def Gr.strict(g:Gr):Bool:=decide (g.check=0)&&!bC g.CL (List.range g.ands.length)
end Go.Proofs.YtchjijfjidlpjaaGreatDoor
namespace Go.Proofs.YtchjijfjidlpjaaGreatDoor
open Go.AM Go.Proofs
theorem ab8{l:List (Int×Int)}{n:Nat}(h:∀i(hi:i<l.length),(0<=l[i].1/\l[i].1<2*(n+i))/\0<=l[i].2/\l[i].2<2*(n+i)):nW l n=false:=by
 induction l generalizing n with
 |nil=>rfl
 |cons p l ih=>
  have h0:=h 0 (by simp);simp only[DH]at h0;simp only[nW,j_,fF,iz];refine⟨by omega,ih fun i hi=>?_⟩;have:=h (i+1) (by simpa using hi);simp only[tG]at this;omega
theorem Gr.qV{g:Gr}(ok:g.Ok):g.check=0:=by
 obtain⟨h1,h2,h3,h4,h5,h6,h7,h8⟩:=ok;unfold Gr.check
 have e1:g.ni=false:=by simp[Gr.ni];omega
 have e2:bC s5 g.init=false:=km.2 fun a ha=>by have:=h5 a ha;simp[s5];omega
 have e3:bC (fF g.lits) g.next=false:=km.2 fun a ha=>by have:=h6 a ha;simp[fF];omega
 have e4:bC (fF g.lits) g.outs=false:=km.2 fun a ha=>by have:=h7 a ha;simp[fF];omega
 simp[e1,e2,e3,e4,h4,ab8 h8]
theorem N8(first:Nat)(l:List (Int×Int))(a b:Nat):∃e,(bN first l a b).1=l++e:=by
 unfold bN
 split
 ·exact⟨[],by simp⟩
 ·split
  ·exact⟨[],by simp⟩
  ·exact⟨_,rfl⟩
theorem FP{v:List Bool}{a:Nat}(h:a/2<v.length)(e:List Bool):bB (v++e) a=bB v a:=by
 unfold bB;rw[bj,bj,cz h]
theorem Fb:∀(l:List (Int×Int))(v:List Bool),∃e,bI l v=v++e
 |[],v=>⟨[],by simp[bI]⟩
 |p::ps,v=>by
  obtain⟨e,he⟩:=Fb ps (v++[bB v p.1.toNat&&bB v p.2.toNat]);exact⟨[bB v p.1.toNat&&bB v p.2.toNat]++e,by rw[bI,he,cM]⟩
theorem uy(l:List (Int×Int)){v:List Bool}{a:Nat}(h:a/2<v.length):bB (bI l v) a=bB v a:=by
 obtain⟨e,he⟩:=Fb l v;rw[he,FP h]
theorem ME(w:List Bool)(x:Bool){n:Nat}(h:n=2*w.length):bB (w++[x]) n=x:=by
 subst h;unfold bB
 have e1:2*w.length/2=w.length:=by omega
 have e2:¬2*w.length%2=1:=by omega
 rw[e1,bj];simp[e2]
theorem Fu{l:List (Int×Int)}{v:List Bool}{i:Nat}(hi:i<l.length)(h1:l[i].1.toNat/2<v.length+i)(h2:l[i].2.toNat/2<v.length+i):
 bB (bI l v) (2*(v.length+i))=(bB (bI l v) l[i].1.toNat&&bB (bI l v) l[i].2.toNat):=by
 have e:l=l.take i++(l[i]::l.drop (i+1)):=by rw[<-bZ hi,mn]
 have hl:(bI (l.take i) v).length=v.length+i:=by rw[sv,eA];omega
 have e2:bI l v=bI (l.drop (i+1)) (bI (l.take i) v++[bB (bI (l.take i) v) l[i].1.toNat&&bB (bI (l.take i) v) l[i].2.toNat]):=by
  conv=>lhs;rw[e,t_,bI]
 generalize bI (l.take i) v=w at*
 have s:∀c,c/2<w.length+1->bB (bI l v) c=bB (w++[bB w l[i].1.toNat&&bB w l[i].2.toNat]) c:=fun c hc=>by
  rw[e2];exact uy _ (by rw[bq];exact hc)
 rw[s (2*(v.length+i)) (by omega),s l[i].1.toNat (by omega),s l[i].2.toNat (by omega),ME _ _ (by omega),FP (by omega),FP (by omega)]
theorem Bo{v:List Bool}{a:Nat}:bB v (a^^^1)=!bB v a:=by
 rw[mC];unfold bB
 split
 ·rename_i h
  have e1:(a+1)/2=a/2:=by omega
  have e2:(a+1)%2=1:=by omega
  rw[e1];simp[h,e2]
 ·rename_i h
  have e1:(a-1)/2=a/2:=by omega
  have e2:¬(a-1)%2=1:=by omega
  have e3:a%2=1:=by omega
  rw[e1];simp[e2,e3]
theorem aaZ{v:List Bool}(h:bB v 0=false):bB v 1=true:=by
 have:=Bo (v:=v) (a:=0)
 rw[h]at this;exact this
def pg(first:Nat)(l:List (Int×Int)):Prop:=∀i(h:i<l.length),(0<=l[i].1/\l[i].1<2*(first+i))/\0<=l[i].2/\l[i].2<2*(first+i)
theorem pg.push{first:Nat}{l:List (Int×Int)}(h:pg first l){p:Int×Int}(hp:(0<=p.1/\p.1<2*(first+l.length))/\0<=p.2/\p.2<2*(first+l.length)):pg first (l++[p]):=by
 intro i hi
 by_cases h2:i<l.length
 ·rw[wg h2];exact h i h2
 ·have e:i=l.length:=by simp at hi;omega
  subst e;simp only[JE (aO _),DC,DH];omega
theorem pg.and{first:Nat}{l:List (Int×Int)}(h:pg first l){a b:Nat}(ha:a<2*(first+l.length))(hb:b<2*(first+l.length)):pg first (bN first l a b).1:=by
 unfold bN
 split
 ·exact h
 ·split
  ·exact h
  ·refine h.push ?_;have:=Nat.max_lt.2 ⟨ha,hb⟩
   have:min a b<=max a b:=by omega
   simp only;omega
theorem N6{first:Nat}{l:List (Int×Int)}{v:List Bool}(hv:v.length=first)(hz:bB v 0=false)(h1:1<=first)(wf:pg first l){a b:Nat}(ha:a<2*(first+l.length))(hb:b<2*(first+l.length)):
 bB (bI (bN first l a b).1 v) (bN first l a b).2=(bB (bI l v) a&&bB (bI l v) b):=by
 have hz2:bB (bI l v) 0=false:=by rw[uy _ (by omega)];exact hz
 have hM:max a b<2*(first+l.length):=Nat.max_lt.2 ⟨ha,hb⟩
 have hm:min a b<2*(first+l.length):=by omega
 have hL:(bI l v).length=first+l.length:=by rw[sv,hv]
 have key:(bB (bI l v) a&&bB (bI l v) b)=(bB (bI l v) (max a b)&&bB (bI l v) (min a b)):=by
  rcases Nat.le_total a b with h|h
  ·rw[Nat.max_eq_right h,qH h,Bool.and_comm]
  ·rw[Nat.max_eq_left h,Nat.min_eq_right h]
 rw[key];unfold bN;generalize max a b=p at*;generalize min a b=q at*
 cases hk:mc p q with
 |some c=>
  simp only;unfold mc at hk
  split at hk
  ·rename_i h2
   cases hk
   rw[hz2]
   rcases h2 with rfl|rfl
   ·rw[hz2,Bool.and_false]
   ·rw[Bo];cases bB (bI l v) p<;>rfl
  ·split at hk
   ·rename_i h2
    cases hk
    rcases h2 with rfl|rfl
    ·rw[aaZ hz2,po]
    ·rw[oq]
   ·cases hk
 |none=>
  simp only
  cases hi:iM ((p:Int),(q:Int)) l 0 with
  |some i=>
   simp only;obtain⟨_,h2,h3⟩:=E1 hi;simp only[DB]at h2 h3;have hw:=wf i h2;have:=Fu (v:=v) h2 (by omega) (by omega);rw[hv,h3]at this;exact this
  |none=>
   simp only;rw[t_,bI,bI];rw[ME _ _ (by omega)];rfl
theorem abS{first:Nat}{l:List (Int×Int)}{v:List Bool}(hv:v.length=first){a b c:Nat}(hc:c<2*(first+l.length)):bB (bI (bN first l a b).1 v) c=bB (bI l v) c:=by
 obtain⟨e,he⟩:=N8 first l a b
 rw[he,t_,uy _ (by rw[sv];omega)]
theorem XI(a:Gr):gT a a=true:=by simp[gT]
structure afz(g:Gr)(a b:Int):Prop where
 ok:g.Ok
 a1:0<=a/\a<g.lits
 b1:0<=b/\b<g.lits
 R:g.n_ a b=g.tn (bN g.first g.ands a.toNat b.toNat).1
 C:g.rm a b=(bN g.first g.ands a.toNat b.toNat).2
 rE:(g.n_ a b).Ok
 lt:g.rm a b<(g.n_ a b).lits
 le:g.lits<=(g.n_ a b).lits
theorem Qi{g:Gr}{a b:Int}(h:g.rr a b=0):afz g a b:=by
 have hR:g.n_ a b=g.tn (bN g.first g.ands a.toNat b.toNat).1:=by unfold Gr.n_;rw[if_pos h]
 have hC:g.rm a b=(bN g.first g.ands a.toNat b.toNat).2:=by unfold Gr.rm;rw[if_pos h]
 unfold Gr.rr at h
 split at h
 ·contradiction
 ·rename_i hc;have ok:=Gr.qk (DA.1 hc)
  split at h
  ·cases h
  ·rename_i hl;rw[not_or]at hl;obtain⟨a1,a2⟩:=hl;simp[fF]at a1 a2
   split at h
   ·cases h
   ·rename_i hs;have hlits:g.lits=2*(g.first+g.ands.length):=rfl
    have ha:a.toNat<2*(g.first+g.ands.length):=by omega
    have hb:b.toNat<2*(g.first+g.ands.length):=by omega
    have h1:1<=g.first:=by unfold Gr.first;omega
    obtain⟨l1,l2⟩:=u6 ha hb h1
    have wf:pg g.first (bN g.first g.ands a.toNat b.toNat).1:=pg.and ok.ands ha hb
    have hl2:(g.tn (bN g.first g.ands a.toNat b.toNat).1).lits=2*(g.first+(bN g.first g.ands a.toNat b.toNat).1.length):=rfl;refine⟨ok,by omega,by omega,hR,hC,?_,?_,?_⟩
    ·rw[hR];refine⟨ok.ins,by simp only;omega,ok.jP,ok.same,ok.init,fun x hx=>?_,fun x hx=>?_,wf⟩
     ·rw[hl2];have:=ok.next x hx;omega
     ·rw[hl2];have:=ok.outs x hx;omega
    ·rw[hC,hR,hl2];exact l1
    ·rw[hR,hl2,hlits];omega
end Go.Proofs.YtchjijfjidlpjaaGreatDoor
namespace Go.Proofs.YtchjijfjidlpjaaGreatDoor
open Go.AM Go.Proofs
variable{Γ:Nat->Option AV}
abbrev Hy(p s:List Ob)(c0 c1 c2 c3 c4 c5:AV)(i:Nat):List Ob:=p++.cells [c0,c1,c2,c3,c4,c5,.sl (p.length+(s.length+1)) 0 i]::(s++[.row 1 av ((ids i).map iN) none true false])
theorem PD(p s:List Ob)(c0 c1 c2 c3 c4 c5:AV)(f:Nat)(hf:f<2^20)(hp:∀m,cH (p.length+(s.length+1)) m p=true)(hs:∀m,cH (p.length+(s.length+1)) m s=true)
 (hc:∀m,cW (p.length+(s.length+1)) m [c0,c1,c2,c3,c4,c5]=true)(base:Nat)(hb:base<=p.length+(s.length+1))(up:List Fr)(ds:List dG)(hds:ds=[]):
 ∀n i:Nat,i+n=f->AM.Reach Tryz.prog Γ (yps (.ptr p.length 0) (.int .i64 f) (.int .i64 i) (Hy p s c0 c1 c2 c3 c4 c5 i) ⟨ds,.norm,base,up⟩)
  (ypt (.ptr p.length 0) (Hy p s c0 c1 c2 c3 c4 c5 f) ⟨ds,.norm,base,up⟩):=by
 subst hds;intro n
 induction n with
 |zero=>
  intro i hi
  obtain rfl:i=f:=by omega
  refine .ey 60 ?_;simp;exact .exit rfl rfl
 |succ n ih=>
  intro i hi
  have q1:(i:Int)<f:=by omega
  have hh:=ih (i+1) (by omega);have h1:=hp (i+1);have h2:=hs (i+1);have h3:=hc (i+1);simp only[cW,ay,po]at h3;obtain⟨w0,w1,w2,w3,w4,w5⟩:=h3;refine .ey 60 ?_;simp(disch:=(first|omega|(simp;omega))) [q1];refine .aR ?_;simp
  have e1:(List.map iN (ids i)++[AV.int .i64 (2*(i:Int))]).length=i+1:=by simp
  refine .oK (i:=p.length+(s.length+1)) (by simp;exact⟨rfl,rfl,rfl,rfl,rfl⟩) (by simpa using hb) (by simp) (by rw[e1];simp[h1,h2,w0,w1,w2,w3,w4,w5]) ?_;rw[Hy,FU]at hh;simp at hh⊢;exact hh
theorem NJ(ins:Int)(x1 x2:AV)(h1:(∃f k l,x1=.list f k l)\/∃i o n,x1=.sl i o n)(h2:(∃f k l,x2=.list f k l)\/∃i o n,x2=.sl i o n)(h:List Ob):∀up,AM.Reach Tryz.prog Γ (.cl AJ [.agg [.int .i64 ins,x1,x2,.list true 0 [],.list true 0 []]] up h)
 (.back up (.ptr (h.length+2) 0) (h++[.cells [.int .i64 ins,x1,x2,.list true 0 [],.list true 0 []],.map [] true,.cells [.int .i64 ins,x1,x2,.sl (h.length+3) 0 0,.list true 0 [],.mp (h.length+1),.list true 0 []],.row 2 dv [] none true false])):=by
 intro up;have hcl:=Ue (Γ:=Γ) (k:=0) [] .nil (by simp)
 rcases h1 with⟨f1,k1,l1,rfl⟩|⟨i1,o1,n1,rfl⟩<;>rcases h2 with⟨f2,k2,l2,rfl⟩|⟨i2,o2,n2,rfl⟩
 all_goals
  refine .bJ 60 Xq ?_;simp;refine .jR 60 (by simp) hcl ?_;simp;refine .inLoop ?_;refine .bw 60 ?_;simp
abbrev QT(g:Gr):List Ob:=[oV g,.cells [.int .i64 0,.sl 2 0 0,.sl 3 0 0,.sl 4 0 0,.sl 5 0 0],.row 1 av [] none true false,.row 1 av [] none true false,.row 2 dv [] none true false,.row 1 av [] none true false,
 oV g,.row 1 av (g.init.map i64) none true false,.cells [.int .i64 g.ins,.list false g.kn (g.next.map i64),.sl 7 0 g.init.length,.list true 0 [],.list true 0 []]]
abbrev ru(g:Gr)(es:List ((Int×Int)×Nat))(l:List (Int×Int))(to:List Nat)(q:List Ob):List Ob:=
 QT g++(.map (es.map jf) true::.cells [.int .i64 g.ins,.list false g.kn (g.next.map i64),.sl 7 0 g.init.length,.sl 11 0 l.length,.list true 0 [],.mp 9,.sl 12 0 to.length]::.row 2 dv (l.map dI) none true false::.row 1 av (to.map iN) none true false::q)
set_option maxRecDepth 8000 in
theorem ac9(g:Gr)(ok:g.Ok){o:Out}(l1:List (Int×Int))(to1:List Nat)(hfin:eY g.first g.ands [] (ids g.first)=(l1,to1))
 (hc:∀es,n7 g.first l1 es->l1.length<=g.ands.length->to1.length=g.all->nf g.first l1 to1->aB Tryz.prog Γ (I3 (.ptr 0 0) (.ptr 1 0) (.ptr 10 0) (ru g es l1 to1 [])) o):
 ∀n i:Nat,i+n=g.ands.length->∀es l to,n7 g.first l es->l.length<=i->to.length=g.first+i->nf g.first l to->eY g.first (g.ands.drop i) l to=(l1,to1)->
  aB Tryz.prog Γ (yjo (.ptr 0 0) (.ptr 1 0) (.ptr 10 0) (.list false g.ka (g.ands.map dI)) (.int .i64 g.ands.length) (.int .i64 i) (ru g es l to [])) o:=by
 have o1:=ok.ins;have o3:=ok.sum;have o4:=ok.jP
 have hfb:g.first<=8001:=by unfold Gr.first;omega
 have hf1:1<=g.first:=by unfold Gr.first;omega
 intro n
 induction n with
 |zero=>
  intro i hi es l to he hl ht hok hS
  have q1:¬i<g.ands.length:=by omega
  rw[bT (by omega)]at hS;simp only[eY,bX]at hS;obtain⟨rfl,rfl⟩:=hS;refine .reach (.ey 60 (c':=I3 (.ptr 0 0) (.ptr 1 0) (.ptr 10 0) (ru g es l to [])) ?_) (hc es he (by omega) (by unfold Gr.all;omega) hok);simp[q1];exact .exit rfl rfl
 |succ n ih=>
  intro i hi es l to he hl ht hok hS
  have q1:i<g.ands.length:=by omega
  have q2:=bU (g.ha.of q1);rw[bZ q1,eY]at hS;obtain⟨⟨b1,b2⟩,b3,b4⟩:=ok.ands i q1;obtain⟨x,hx⟩:=fP b1;obtain⟨y,hy⟩:=fP b3;rw[hx,hy]at hS;simp only[dt]at hS
  have hx2:x/2<to.length:=by omega
  have hy2:y/2<to.length:=by omega
  have ha:=nT hok.lt hx2;have hb:=nT hok.lt hy2;obtain⟨hlt,hge⟩:=u6 ha hb hf1
  have hto:∀z∈to,z<2^40:=fun z hz=>by have:=hok.lt z hz;omega
  have k1:=ve (Γ:=Γ) to hto x hx2 (by omega) 10 12 (h:=ru g es l to [.cells [.int .i64 x,.int .i64 y]]) rfl rfl (by simp);have k2:=ve (Γ:=Γ) to hto y hy2 (by omega) 10 12 (h:=ru g es l to [.cells [.int .i64 x,.int .i64 y]]) rfl rfl (by simp)
  have hgl:=BA g.first l (bg to x) (bg to y)
  obtain⟨es',gr,junk,he',hgr,hjk,k3⟩:=Qb (Γ:=Γ) (p:=QT g) (q:=[.row 1 av (to.map iN) none true false,.cells [.int .i64 x,.int .i64 y]]) (x1:=.list false g.kn (g.next.map i64)) (x2:=.sl 7 0 g.init.length) (x4:=.list true 0 []) (come:=.sl 12 0 to.length)
   ⟨g.ins,g.next,g.init,[],[],g.kn,1,2,0,g.hn,.self,.self,.nil⟩ o1 (by simp;omega) l (by omega) es he (bg to x) (bg to y) (by omega) (by omega) (fun s=>by simp) (fun s=>by simp) (fun s=>by simp)
  have hfe:(⟨g.ins,g.next,g.init,[],[],g.kn,1,2,0,g.hn,.self,.self,.nil⟩:Gr).first=g.first:=rfl
  rw[hfe]at k3 he'
  have hh:=ih (i+1) (by omega) es' (bN g.first l (bg to x) (bg to y)).1 (to++[(bN g.first l (bg to x) (bg to y)).2]) he' (by omega) (by simp;omega) ⟨fun z hz=>by
   rcases aN.1 hz with hz|hz
   ·have:=hok.lt z hz;omega
   ·simp at hz;omega⟩ hS
  generalize bN g.first l (bg to x) (bg to y)=r at*
  refine .go 60 ?_;simp[q1,q2];refine .dr 60 ?_;simp(disch:=omega) [hx,hy];refine .reach (by simp) k1 ?_;simp(disch:=omega) [hx,hy];refine .reach (by simp) k2 ?_;simp(disch:=omega) [hx,hy];refine .reach (by simp) k3 ?_
  rcases hjk with rfl|⟨jx,jy,rfl⟩
  ·simp(disch:=(first|omega|(simp;omega))) [hx,hy];refine .aR ?_;simp;refine .drop 13 rfl (by simp) (by simp) (by simp) ?_
   have e1:(to.map iN++[AV.int .i64 (r.2:Int)]).length=to.length+1:=by simp
   refine .nS (i:=11) rfl hgr (by simp) (by simp) (by simp) ?_;refine .nS (i:=12) rfl (.inr rfl) (by simp) (by simp) (by rw[e1];simp) ?_;simp at hh⊢;exact hh
  ·simp(disch:=(first|omega|(simp;omega))) [hx,hy];refine .aR ?_;simp;refine .drop 13 rfl (by simp) (by simp) (by simp) ?_
   have e1:(to.map iN++[AV.int .i64 (r.2:Int)]).length=to.length+1:=by simp
   refine .nS (i:=11) rfl hgr (by simp) (by simp) (by simp) ?_;refine .nS (i:=12) rfl (.inr rfl) (by simp) (by simp) (by rw[e1];simp) ?_;simp at hh⊢;exact hh
abbrev G7(x:Gr):List Ob:=
 [.cells [.int .i64 0,.sl 1 0 0,.sl 2 0 0,.sl 3 0 0,.sl 4 0 0],.row 1 av [] none true false,.row 1 av [] none true false,.row 2 dv [] none true false,.row 1 av [] none true false,
  .cells [.int .i64 x.ins,.sl 6 0 x.next.length,.sl 7 0 x.init.length,.sl 8 0 x.ands.length,.sl 9 0 x.outs.length],.row 1 av (x.next.map i64) none true false,.row 1 av (x.init.map i64) none true false,.row 2 dv (x.ands.map dI) none true false,.row 1 av (x.outs.map i64) none true false,.row 1 aY (x.aS.map .bool) none true false]
abbrev Ha(x:Gr):List Ob:=G7 x++[.cells [.int .i64 x.ins,.sl 6 0 x.next.length,.sl 7 0 x.init.length,.sl 8 0 x.ands.length,.sl 9 0 x.outs.length],.row 1 av (x.init.map i64) none true false,.cells [.int .i64 x.ins,.sl 6 0 x.next.length,.sl 12 0 x.init.length,.list true 0 [],.list true 0 []]]
abbrev sZ(x:Gr)(es:List ((Int×Int)×Nat))(l:List (Int×Int))(to:List Nat)(q:List Ob):List Ob:=
 Ha x++(.map (es.map jf) true::.cells [.int .i64 x.ins,.sl 6 0 x.next.length,.sl 12 0 x.init.length,.sl 16 0 l.length,.list true 0 [],.mp 14,.sl 17 0 to.length]::.row 2 dv (l.map dI) none true false::.row 1 av (to.map iN) none true false::q)
@[simp] theorem avu(to:List Nat)(l:List Int):(List.map iN (dX to l)).take l.length=List.map iN (dX to l):=by rw[cJ];simp
set_option maxRecDepth 8000 in
theorem aej(x:Gr)(hstd:x.kn=1/\x.ki=1/\x.ka=2/\x.ko=1)(ok:x.Ok){o:Out}(l1:List (Int×Int))(to1:List Nat)
 (hc:∀es,n7 x.first l1 es->l1.length<=x.ands.length->to1.length=x.all->nf x.first l1 to1->aB Tryz.prog Γ (RS (.ptr 0 0) (.ptr 5 0) (.ptr 15 0) (sZ x es l1 to1 [])) o):
 ∀n i:Nat,i+n=x.ands.length->∀es l to,n7 x.first l es->l.length<=i->to.length=x.first+i->nf x.first l to->dx x.first x.aS (x.ands.drop i) i l to=(l1,to1)->
  aB Tryz.prog Γ (yjl (.ptr 0 0) (.ptr 5 0) (.sl 10 0 x.all) (.ptr 15 0) (.sl 8 0 x.ands.length) (.int .i64 x.ands.length) (.int .i64 i) (sZ x es l to [])) o:=by
 have o1:=ok.ins;have o3:=ok.sum;have o4:=ok.jP;obtain⟨s1,s2,s3,s4⟩:=hstd;have hfirst:=r_ (Γ:=Γ) x o1.1 o1.2 (by omega);rw[gJ,s1,s2,s3,s4]at hfirst
 have hfb:x.first<=8001:=by unfold Gr.first;omega
 have hf1:1<=x.first:=by unfold Gr.first;omega
 have hll:=O_ x;intro n
 induction n with
 |zero=>
  intro i hi es l to he hl ht hok hS
  have q1:¬i<x.ands.length:=by omega
  rw[bT (by omega)]at hS;simp only[dx,bX]at hS;obtain⟨rfl,rfl⟩:=hS;refine .reach (.ey 60 (c':=RS (.ptr 0 0) (.ptr 5 0) (.ptr 15 0) (sZ x es l to [])) ?_) (hc es he (by omega) (by unfold Gr.all;omega) hok);simp[q1];exact .exit rfl rfl
 |succ n ih=>
  intro i hi es l to he hl ht hok hS
  have q1:i<x.ands.length:=by omega
  rw[bZ q1,dx]at hS;obtain⟨⟨b1,b2⟩,b3,b4⟩:=ok.ands i q1;obtain⟨a,ha⟩:=fP b1;obtain⟨b,hb⟩:=fP b3;rw[ha,hb]at hS;simp only[dt]at hS
  have q3:x.first+i<x.all:=by unfold Gr.all;omega
  have e1:(x.first:Int)+i=((x.first+i:Nat):Int):=by omega
  rw[bj,aM (by omega),jJ]at hS;refine .go 60 ?_;simp(disch:=omega) [q1];refine .call 60 (by simp) hfirst ?_
  by_cases hb0:x.aS[x.first+i]=true
  ·rw[if_pos hb0]at hS
   have hx2:a/2<to.length:=by omega
   have hy2:b/2<to.length:=by omega
   have hla:=nT hok.lt hx2;have hlb:=nT hok.lt hy2;obtain⟨hlt,hge⟩:=u6 hla hlb hf1
   have hto:∀z∈to,z<2^40:=fun z hz=>by have:=hok.lt z hz;omega
   have k1:=ve (Γ:=Γ) to hto a hx2 (by omega) 15 17 (h:=sZ x es l to [.cells [.int .i64 a,.int .i64 b]]) rfl rfl (by simp);have k2:=ve (Γ:=Γ) to hto b hy2 (by omega) 15 17 (h:=sZ x es l to [.cells [.int .i64 a,.int .i64 b]]) rfl rfl (by simp)
   have hgl:=BA x.first l (bg to a) (bg to b)
   obtain⟨es',gr,junk,he',hgr,hjk,k3⟩:=Qb (Γ:=Γ) (p:=Ha x) (q:=[.row 1 av (to.map iN) none true false,.cells [.int .i64 a,.int .i64 b]]) (x1:=.sl 6 0 x.next.length) (x2:=.sl 12 0 x.init.length) (x4:=.list true 0 []) (come:=.sl 17 0 to.length)
    ⟨x.ins,x.next,x.init,[],[],1,1,2,0,.self,.self,.self,.nil⟩ o1 (by simp;omega) l (by omega) es he (bg to a) (bg to b) (by omega) (by omega) (fun s=>by simp) (fun s=>by simp) (fun s=>by simp)
   have hfe:(⟨x.ins,x.next,x.init,[],[],1,1,2,0,.self,.self,.self,.nil⟩:Gr).first=x.first:=rfl
   rw[hfe]at k3 he'
   have hh:=ih (i+1) (by omega) es' (bN x.first l (bg to a) (bg to b)).1 (to++[(bN x.first l (bg to a) (bg to b)).2]) he' (by omega) (by simp;omega) ⟨fun z hz=>by
    rcases aN.1 hz with hz|hz
    ·have:=hok.lt z hz;omega
    ·simp at hz;omega⟩ hS
   generalize bN x.first l (bg to a) (bg to b)=r at*
   simp(disch:=omega) [e1,q3,hll,hb0,-Int.natCast_add];refine .dr 60 ?_;simp(disch:=omega) [ha,hb];refine .reach (by simp) k1 ?_;simp(disch:=omega) [ha,hb];refine .reach (by simp) k2 ?_;simp(disch:=omega) [ha,hb];refine .reach (by simp) k3 ?_
   rcases hjk with rfl|⟨jx,jy,rfl⟩
   ·simp(disch:=(first|omega|(simp;omega))) [ha,hb];refine .aR ?_;simp;refine .drop 18 rfl (by simp) (by simp) (by simp) ?_
    have e2:(to.map iN++[AV.int .i64 (r.2:Int)]).length=to.length+1:=by simp
    refine .nS (i:=16) rfl hgr (by simp) (by simp) (by simp) ?_;refine .nS (i:=17) rfl (.inr rfl) (by simp) (by simp) (by rw[e2];simp) ?_;simp at hh⊢;exact hh
   ·simp(disch:=(first|omega|(simp;omega))) [ha,hb];refine .aR ?_;simp;refine .drop 18 rfl (by simp) (by simp) (by simp) ?_
    have e2:(to.map iN++[AV.int .i64 (r.2:Int)]).length=to.length+1:=by simp
    refine .nS (i:=16) rfl hgr (by simp) (by simp) (by simp) ?_;refine .nS (i:=17) rfl (.inr rfl) (by simp) (by simp) (by rw[e2];simp) ?_;simp at hh⊢;exact hh
  ·rw[if_neg hb0]at hS
   have hh:=ih (i+1) (by omega) es l (to++[0]) he (by omega) (by simp;omega) ⟨fun z hz=>by
    rcases aN.1 hz with hz|hz
    ·exact hok.lt z hz
    ·simp at hz;omega⟩ hS
   simp(disch:=(first|omega|(simp;omega))) [e1,q3,hll,hb0,-Int.natCast_add];refine .aR ?_;simp;refine .drop 18 rfl (by simp) (by simp) (by simp) ?_
   have e2:(to.map iN++[AV.int .i64 0]).length=to.length+1:=by simp
   refine .nS (i:=17) rfl (.inr rfl) (by simp) (by simp) (by rw[e2];simp) ?_;simp at hh⊢;exact hh
set_option maxRecDepth 8000 in
theorem ad7(x:Gr)(hstd:x.kn=1/\x.ki=1/\x.ka=2/\x.ko=1)(ok:x.Ok):aB Tryz.prog Γ (.fr ⟨.run,oB,[.code (.seq (.ae IT) (.seq (.seq (.ae HD) (.block 2 CT (.loop Dp zF))) (.seq (.ae Dy) .ret)))],
 [U,U,.ptr 0 0,U,U,U,U,U,.ptr 5 0,.sl 10 0 x.aS.length]++List.replicate 85 U,[],.norm,0⟩ [] (G7 x)) (.ret (.aE [gJ x.cP,.int .i64 0])):=by
 have o1:=ok.ins;have o3:=ok.sum;have o4:=ok.jP;have hs:=hstd;obtain⟨s1,s2,s3,s4⟩:=hs;have hfirst:=r_ (Γ:=Γ) x o1.1 o1.2 (by omega);rw[gJ,s1,s2,s3,s4]at hfirst
 have hfb:x.first<=8001:=by unfold Gr.first;omega
 have hsame:=ok.same;rw[O_];refine .go 60 ?_;simp;refine .enter 60 Kz ?_;simp;refine .dr 60 ?_;simp;refine .call (by simp) (J5 (Γ:=Γ) x.init (k:=1) .self (by omega)) ?_;simp;refine .reach (by simp) (NJ x.ins _ _ (.inr ⟨_,_,_,rfl⟩) (.inr ⟨_,_,_,rfl⟩) _) ?_;simp;refine .call 60 (by simp) hfirst ?_;simp;refine .oJ 15 6 1 av rfl rfl (by omega) ?_;simp;refine .inLoop ?_
 have kb:=fun up=>PD (Γ:=Γ) (Ha x++[.map [] true]) [.row 2 dv [] none true false]
  (.int .i64 x.ins) (.sl 6 0 x.next.length) (.sl 12 0 x.init.length) (.sl 16 0 0) (.list true 0 []) (.mp 14) x.first (by omega) (by intro m;simp) (by intro m;simp) (by intro m;simp) 11 (by simp) up [] rfl x.first 0 (by omega)
 simp[ids]at kb⊢;refine .reach (kb _) ?_;refine .go 60 ?_;simp;refine .inLoop ?_
 generalize hS:dx x.first x.aS x.ands 0 [] (ids x.first)=r
 obtain⟨l1,to1⟩:=r
 have hL:=aej (Γ:=Γ) x hstd ok (o:=.ret (.aE [gJ x.cP,.int .i64 0])) l1 to1 ?_ x.ands.length 0 (by omega) [] [] (ids x.first) (NV _) (aO _) (by simp) ⟨fun z hz=>by
  simp[ids]at hz;obtain⟨a,ha,rfl⟩:=hz;simp;omega⟩ (by simpa using hS)
 ·simp[ids]at hL⊢;exact hL
 intro es he hl1 ht1 hto
 have hn2:x.cP=x.cY (l1,to1):=by unfold Gr.cP;rw[hS]
 have hall:x.all<=12001:=by unfold Gr.all;omega
 have hlits:x.lits=2*x.all:=rfl
 have ht40:∀z∈to1,z<2^40:=fun z hz=>by have:=hto.lt z hz;omega
 have kA:=fun q=>P6 (Γ:=Γ) to1 ht40 x.next (by omega) (fun a ha=>by have:=ok.next a ha;omega) (by omega) 15 17 6 (h:=sZ x es l1 to1 (.cells [.int .i64 x.ins,.sl 6 0 x.next.length,.sl 7 0 x.init.length,.sl 8 0 x.ands.length,.sl 9 0 x.outs.length]::.cells [.int .i64 0,.sl 20 0 0,.sl 21 0 0,.sl 22 0 0,.sl 23 0 0]::q)) rfl rfl rfl
 have kB:=fun q=>P6 (Γ:=Γ) to1 ht40 x.outs (by omega) (fun a ha=>by have:=ok.outs a ha;omega) (by omega) 15 17 9 (h:=sZ x es l1 to1 (.cells [.int .i64 x.ins,.sl 6 0 x.next.length,.sl 7 0 x.init.length,.sl 8 0 x.ands.length,.sl 9 0 x.outs.length]::.cells [.int .i64 0,.sl 20 0 0,.sl 21 0 0,.sl 22 0 0,.sl 23 0 0]::q)) rfl rfl rfl
 rw[hn2];refine .go 60 ?_;simp;refine .enter 60 Kc ?_;simp;refine .dr 60 ?_;simp;refine .reach (by simp) (kA [.row 1 av [] none true false,.row 1 av [] none true false,.row 2 dv [] none true false,.row 1 av [] none true false] (by intro m;simp)) ?_;simp;refine .reach (by simp) (kB [.row 1 av [] none true false,.row 1 av [] none true false,.row 2 dv [] none true false,.row 1 av [] none true false,.row 1 av [] none true false,.row 1 av ((dX to1 x.next).map iN) none true false] (by intro m;simp)) ?_;simp[Gr.cY];exact .back (by simp)
set_option maxRecDepth 8000 in
theorem ad5(g:Gr)(ok:g.Ok)(l1:List (Int×Int))(to1:List Nat)(hx:g.da=g.cY (l1,to1))(okx:g.da.Ok)(es:List ((Int×Int)×Nat))(hl1:l1.length<=g.ands.length)(ht1:to1.length=g.all)(hto:nf g.first l1 to1):
 aB Tryz.prog Γ (I3 (.ptr 0 0) (.ptr 1 0) (.ptr 10 0) (ru g es l1 to1 [])) (.ret (.aE [gJ g.da.cP,.int .i64 0])):=by
 have o1:=ok.ins;have o3:=ok.sum;have o4:=ok.jP
 have hfb:g.first<=8001:=by unfold Gr.first;omega
 have hall:g.all<=12001:=by unfold Gr.all;omega
 have hlits:g.lits=2*g.all:=rfl
 have ht40:∀z∈to1,z<2^40:=fun z hz=>by have:=hto.lt z hz;omega
 have kA:=fun q=>Qm (Γ:=Γ) to1 ht40 g.next g.hn (by omega) (fun a ha=>by have:=ok.next a ha;omega) (by omega) 10 12 (h:=ru g es l1 to1 (oV g::.cells [.int .i64 0,.sl 15 0 0,.sl 16 0 0,.sl 17 0 0,.sl 18 0 0]::q)) rfl rfl
 have kB:=fun q=>Qm (Γ:=Γ) to1 ht40 g.outs g.ho (by omega) (fun a ha=>by have:=ok.outs a ha;omega) (by omega) 10 12 (h:=ru g es l1 to1 (oV g::.cells [.int .i64 0,.sl 15 0 0,.sl 16 0 0,.sl 17 0 0,.sl 18 0 0]::q)) rfl rfl
 refine .go 60 ?_;simp;refine .enter 60 Kc ?_;simp;refine .dr 60 ?_;simp;refine .reach (by simp) (kA [.row 1 av [] none true false,.row 1 av [] none true false,.row 2 dv [] none true false,.row 1 av [] none true false] (by intro m;simp)) ?_;simp;refine .reach (by simp) (kB [.row 1 av [] none true false,.row 1 av [] none true false,.row 2 dv [] none true false,.row 1 av [] none true false,.row 1 av [] none true false,.row 1 av ((dX to1 g.next).map iN) none true false] (by intro m;simp)) ?_;simp
 have ex:gJ g.da=.agg [.int .i64 g.ins,.list false 1 ((dX to1 g.next).map iN),.list false 1 (g.init.map i64),.list false 2 (l1.map dI),.list false 1 ((dX to1 g.outs).map iN)]:=by
  rw[hx];simp[Gr.cY]
 have hled:=Zu (Γ:=Γ) g.da okx;rw[ex]at hled;refine .call 3 (by simp) hled ?_;simp;refine .n9 [1,5,49,50,51,52,53] ?_;simp;refine .gc 0 [1,2,3,4,5,23,20,7,11,22,28] (by simp) (by decide) ?_;have hh:=ad7 (Γ:=Γ) g.da ⟨by rw[hx];rfl,by rw[hx];rfl,by rw[hx];rfl,by rw[hx];rfl⟩ okx;simp[G7,hx,Gr.cY]at hh⊢;exact hh
set_option maxRecDepth 8000 in
theorem Kn(g:Gr)(hf:g.me):aP Tryz.prog Γ oB [gJ g] (.aE [gJ g.normal,.int .i64 g.check]):=by
 refine .run 60 Ws (by simp) ?_;simp;refine .call 60 (by simp) (Ej g hf) ?_
 by_cases hc:g.check=0
 ·have ok:=Gr.qk hc;have o1:=ok.ins;have o3:=ok.sum;have o4:=ok.jP;have hfirst:=r_ (Γ:=Γ) g o1.1 o1.2 (by omega)
  have hn0:g.normal=g.da.cP:=by unfold Gr.normal;rw[if_pos hc]
  rw[hn0];simp[hc];refine .enter 60 Kz ?_;simp;refine .dr 60 ?_;simp;refine .call (by simp) (J5 (Γ:=Γ) g.init g.hi hf.2.1) ?_;simp;refine .reach (by simp) (NJ g.ins _ _ (.inl ⟨_,_,_,rfl⟩) (.inr ⟨_,_,_,rfl⟩) _) ?_;simp;refine .call 60 (by simp) hfirst ?_;simp;refine .oJ 10 6 1 av rfl rfl (by omega) ?_;simp;refine .inLoop ?_
  have hfb:g.first<=8001:=by unfold Gr.first;omega
  have kb:=fun up=>PD (Γ:=Γ) [oV g,.cells [.int .i64 0,.sl 2 0 0,.sl 3 0 0,.sl 4 0 0,.sl 5 0 0],.row 1 av [] none true false,.row 1 av [] none true false,.row 2 dv [] none true false,.row 1 av [] none true false,
   oV g,.row 1 av (g.init.map i64) none true false,.cells [.int .i64 g.ins,.list false g.kn (g.next.map i64),.sl 7 0 g.init.length,.list true 0 [],.list true 0 []],.map [] true] [.row 2 dv [] none true false]
   (.int .i64 g.ins) (.list false g.kn (g.next.map i64)) (.sl 7 0 g.init.length) (.sl 11 0 0) (.list true 0 []) (.mp 9) g.first (by omega) (by intro m;simp) (by intro m;simp) (by intro m;simp) 6 (by simp) up [] rfl g.first 0 (by omega)
  simp[ids]at kb⊢;refine .reach (kb _) ?_;refine .go 60 ?_;simp;refine .inLoop ?_;obtain⟨okx,_,hlen⟩:=BO ok
  have hS:eY g.first g.ands [] (ids g.first)=((eY g.first g.ands [] (ids g.first)).1,(eY g.first g.ands [] (ids g.first)).2):=rfl
  have hL:=ac9 (Γ:=Γ) g ok (o:=.ret (.aE [gJ g.da.cP,.int .i64 0])) _ _ hS (fun es he hl1 ht1 hto=>ad5 g ok _ _ rfl okx es hl1 ht1 hto) g.ands.length 0 (by omega) [] [] (ids g.first) (NV _) (aO _) (by simp) (Ci _) (by simp);simp[ids]at hL⊢;exact hL
 ·have hn0:g.normal=tp:=by unfold Gr.normal;rw[if_neg hc]
  rw[hn0];simp[hc,tp];exact .back (by simp)
@[simp] theorem aw6(n:Nat):((60:Int)<n)=(60<n):=propext (by omega)
@[simp] theorem axc(n:Nat):((n:Int)<=60)=(n<=60):=propext (by omega)
@[simp] theorem aw5(n:Nat):((n:Int)<=40)=(n<=40):=propext (by omega)
def Gr.zi(g:Gr):Bool:=(decide (g.ins<=100)||decide (4000<g.ins))&&decide (g.next.length<=40)&&decide (g.init.length<=40)&&decide (g.ands.length<=60)&&decide (g.outs.length<=60)
theorem MB(g:Gr):aP Tryz.prog Γ xv [gJ g] (.bool g.zi):=by
 refine .run 60 ZJ (by simp) ?_;unfold Gr.zi
 by_cases h1:g.ins<=100<;>by_cases h2:4000<g.ins<;>by_cases h3:g.next.length<=40<;>by_cases h4:g.init.length<=40<;>by_cases h5:g.ands.length<=60<;>simp[h1,h2,h3,h4,h5]<;>exact .back (by simp)
end Go.Proofs.YtchjijfjidlpjaaGreatDoor
namespace Go.Proofs.YtchjijfjidlpjaaGreatDoor
open Go.AM Go.Proofs
def cL(h:List Ob):Prop:=∀m,h.length<=m->cI m h=true
theorem NX{m:Nat}{o:Ob}(ho:hY m o=true):∀{h:List Ob}(i:Nat),cI m h=true->cI m (h.set i o)=true
 |[],i,h1=>h1
 |o'::h,0,h1=>by
  simp only[cI,ay,vZ]at h1⊢;exact⟨ho,h1.2⟩
 |o'::h,i+1,h1=>by
  simp only[cI,ay,rM]at h1⊢;exact⟨h1.1,NX ho i h1.2⟩
theorem cL.set{h:List Ob}(hw:cL h){o:Ob}(hb:∀m,h.length<=m->hY m o=true)(i:Nat):cL (h.set i o):=fun m hm=>by
 rw[jG]at hm;exact NX (hb m hm) i (hw m hm)
def gp(h:List Ob):Prop:=∀i m,h.length<=i->cH i m h=true
end Go.Proofs.YtchjijfjidlpjaaGreatDoor
namespace Go.Proofs.YtchjijfjidlpjaaGreatDoor
open Go.AM Go.Proofs
variable{Γ:Nat->Option AV}
def h_(x:Gr)(p q:Nat):Gr×Option Nat:=if x.rr p q=0 then(x.n_ p q,some (x.rm p q))else(x,none)
def mS(turn:Nat):Gr->Nat->List Nat->Gr×Option Nat
 |x,c,[]=>(x,some c)
 |x,c,a::l=>match h_ x c (a^^^turn)with
  |(y,some d)=>mS turn y d l
  |(y,none)=>(y,none)
def mT(turn:Nat)(x:Gr)(l:List Nat):Gr×Option Nat:=match l with
 |[]=>(x,some 0)
 |a::r=>mS turn x (a^^^turn) r
structure gb(x y:Gr):Prop where
 ok:y.Ok
 ins:y.ins=x.ins
 next:y.next=x.next
 init:y.init=x.init
 outs:y.outs=x.outs
 ands:∃e,y.ands=x.ands++e
theorem gb.refl{x:Gr}(ok:x.Ok):gb x x:=⟨ok,rfl,rfl,rfl,rfl,[],by simp⟩
theorem gb.trans{x y z:Gr}(h:gb x y)(h2:gb y z):gb x z:=by
 obtain⟨e,he⟩:=h.ands;obtain⟨e2,he2⟩:=h2.ands;exact⟨h2.ok,h2.ins.trans h.ins,h2.next.trans h.next,h2.init.trans h.init,h2.outs.trans h.outs,e++e2,by rw[he2,he,cM]⟩
theorem gb.first{x y:Gr}(h:gb x y):y.first=x.first:=by unfold Gr.first;rw[h.ins,h.next]
theorem gb.lits{x y:Gr}(h:gb x y):x.lits<=y.lits:=by
 obtain⟨e,he⟩:=h.ands;unfold Gr.lits Gr.all
 rw[h.first,he,bq];omega
theorem aae{x y:Gr}{p q d:Nat}(h:h_ x p q=(y,some d)):x.rr p q=0/\y=x.n_ p q/\d=x.rm p q:=by
 unfold h_ at h
 split at h
 ·rename_i e;cases h;exact⟨e,rfl,rfl⟩
 ·cases h
theorem uv{x:Gr}(ok:x.Ok){p q:Nat}{y:Gr}{r:Option Nat}(h:h_ x p q=(y,r)):gb x y/\∀d,r=some d->d<y.lits:=by
 unfold h_ at h
 split at h
 ·rename_i e
  cases h
  have a:=Qi e
  obtain⟨e1,he1⟩:=N8 x.first x.ands p q
  refine⟨⟨a.rE,by rw[a.R],by rw[a.R],by rw[a.R],by rw[a.R],e1,by rw[a.R];simpa using he1⟩,fun d hd=>by cases hd;exact a.lt⟩
 ·cases h
  exact⟨.refl ok,fun d hd=>by cases hd⟩
theorem KG(turn:Nat):∀(l:List Nat)(x:Gr)(c:Nat),x.Ok->c<x.lits->gb x (mS turn x c l).1/\∀d,(mS turn x c l).2=some d->d<(mS turn x c l).1.lits
 |[],x,c,ok,hc=>⟨.refl ok,fun d hd=>by cases hd;exact hc⟩
 |a::l,x,c,ok,hc=>by
  rw[mS]
  cases h:h_ x c (a^^^turn)with
  |mk y r=>
   obtain⟨g1,g2⟩:=uv ok h
   cases r with
   |none=>exact⟨g1,fun d hd=>by cases hd⟩
   |some d=>
    obtain⟨h1,h2⟩:=KG turn l y d g1.ok (g2 d rfl);exact⟨g1.trans h1,h2⟩
theorem O6{a n:Nat}(h:a<2*n):a^^^1<2*n:=by
 have h2:(a^^^1)/2=a/2:=by
  have:=Nat.xor_div_two (a:=a) (b:=1);simpa using this
 omega
theorem xW{a t n:Nat}(ht:t<=1)(h:a<2*n):a^^^t<2*n:=by
 obtain rfl|rfl:t=0\/t=1:=by omega
 ·simpa using h
 ·exact O6 h
def g_{α β:Type}(f:α->β)(r:Gr×Option α):Gr×Option β:=(r.1,r.2.map f)
def ky{α β:Type}(r:Gr×Option α)(f:Gr->α->Gr×Option β):Gr×Option β:=match r with
 |(y,some a)=>f y a
 |(y,none)=>(y,none)
def Hp(x:Gr)(c a:Nat):Gr×Option Nat:=ky (h_ x c (a^^^1)) fun y p=>ky (h_ y (c^^^1) a) fun z q=>g_ (·^^^1) (h_ z (p^^^1) (q^^^1))
def vx:Gr->Nat->List Nat->Gr×Option Nat
 |x,c,[]=>(x,some c)
 |x,c,a::l=>ky (Hp x c a) fun y d=>vx y d l
def G3(x:Gr)(l:List Nat):Gr×Option Nat:=match l with
 |[]=>(x,some 0)
 |a::r=>vx x a r
def j3(x:Gr)(r:Gr×Option Nat):Prop:=gb x r.1/\∀d,r.2=some d->d<r.1.lits
theorem Fv{x:Gr}(ok:x.Ok)(p q:Nat):j3 x (h_ x p q):=uv ok (y:=(h_ x p q).1) (r:=(h_ x p q).2) rfl
theorem j3.CC{x:Gr}{r:Gr×Option Nat}(h:j3 x r){t:Nat}(ht:t<=1):j3 x (g_ (·^^^t) r):=⟨h.1,fun d hd=>by
 simp only[g_,bY]at hd;obtain⟨a,ha,rfl⟩:=hd
 exact xW ht (h.2 a ha)⟩
theorem j3.then{x:Gr}{r:Gr×Option Nat}{f:Gr->Nat->Gr×Option Nat}(h:j3 x r)(hf:∀y d,gb x y->d<y.lits->j3 y (f y d)):j3 x (ky r f):=by
 obtain⟨y,o⟩:=r
 cases o with
 |none=>exact⟨h.1,fun d hd=>by cases hd⟩
 |some d=>
  have:=hf y d h.1 (h.2 d rfl);exact⟨h.1.trans this.1,this.2⟩
theorem LS{x:Gr}(ok:x.Ok)(c a:Nat):j3 x (Hp x c a):=
 (Fv ok _ _).then fun y p g1 _=>(Fv g1.ok _ _).then fun z q g2 _=>(Fv g2.ok _ _).CC (aO 1)
theorem Lg:∀(l:List Nat)(x:Gr)(c:Nat),x.Ok->c<x.lits->j3 x (vx x c l)
 |[],x,c,ok,hc=>⟨.refl ok,fun d hd=>by cases hd;exact hc⟩
 |a::l,x,c,ok,hc=>(LS ok c a).then fun y d g hd=>Lg l y d g.ok hd
theorem X6(turn:Nat)(l:List Nat)(x:Gr)(c:Nat)(ok:x.Ok)(hc:c<x.lits):j3 x (mS turn x c l):=KG turn l x c ok hc
theorem xG(x:Gr):0<x.lits:=by unfold Gr.lits Gr.all Gr.first;omega
theorem AR{turn:Nat}(ht:turn<=1){x:Gr}(ok:x.Ok){l:List Nat}(hl:∀a∈l,a<x.lits):j3 x (mT turn x l):=by
 cases l with
 |nil=>exact⟨.refl ok,fun d hd=>by cases hd;exact xG x⟩
 |cons a r=>exact X6 turn r x _ ok (xW (n:=x.all) ht (hl a (by simp)))
theorem XZ{x:Gr}(ok:x.Ok){l:List Nat}(hl:∀a∈l,a<x.lits):j3 x (G3 x l):=by
 cases l with
 |nil=>exact⟨.refl ok,fun d hd=>by cases hd;exact xG x⟩
 |cons a r=>exact Lg r x _ ok (hl a (by simp))
theorem BY{x:Gr}(ok:x.Ok):x.lits<=2^14:=by
 have h1:=ok.ins;have h2:=ok.sum
 unfold Gr.lits Gr.all Gr.first
 omega
abbrev Bs:=List UInt8
structure Lt where
 name:Bs
 next:Bs
 init:Int
 deriving DecidableEq
abbrev qF(q:Lt):AV:=.agg [.str q.name,.str q.next,.int .i64 q.init]
structure Gt where
 name:Bs
 op:Int
 ins:List Bs
 rows:List Bs
 off:Bool
 ki:Nat
 kr:Nat
 hi:Kd 1 ki ins
 hr:Kd 1 kr rows
abbrev eo(g:Gt):AV:=.agg [.str g.name,.int .i64 g.op,.list false g.ki (g.ins.map .str),.list false g.kr (g.rows.map .str),.bool g.off]
structure Ct where
 an:List Bs
 aq:List Bs
 ah:List Lt
 af:List Gt
 kI:Nat
 kO:Nat
 kL:Nat
 kG:Nat
 hI:Kd 1 kI an
 hO:Kd 1 kO aq
 hL:Kd 3 kL ah
 hG:Kd 5 kG af
abbrev bW(c:Ct):AV:=.agg [.list false c.kI (c.an.map .str),.list false c.kO (c.aq.map .str),.list false c.kL (c.ah.map qF),.list false c.kG (c.af.map eo)]
def zd(g:Gt):Prop:=g.name.length<2^40/\g.ins.length<2^10/\g.rows.length<2^10/\(∀s∈g.ins,s.length<2^40)/\∀s∈g.rows,s.length<2^40
def cB(c:Ct):Prop:=c.an.length<2^10/\c.aq.length<2^10/\c.ah.length<2^10/\c.af.length<2^10/\(∀g∈c.af,zd g)/\
 (∀s∈c.an,s.length<2^40)/\(∀s∈c.aq,s.length<2^40)/\∀q∈c.ah,q.name.length<2^40/\q.next.length<2^40
theorem G4{α β:Type}(a:List β)(f:α->β)(l:List α){i:Nat}(h:i<l.length):a++(l.drop i).map f=a++[f l[i]]++(l.drop (i+1)).map f:=by
 rw[bZ h,bL,cM];rfl
def aD(c:Ct):List Bs:=c.an++c.ah.map (·.name)++c.af.map (·.name)
structure Fm where
 kind:Int
 lit:Int
 kids:Int
 deriving DecidableEq
end Go.Proofs.YtchjijfjidlpjaaGreatDoor
