/- A list's elements' size. -/
import Derived.Test.YtihmomicdpkabaaGreatDoorAMd
import Derived.Test.YtihmomicdpkabaaGreatDoorCode
set_option linter.unusedSimpArgs false
set_option linter.unusedVariables false
namespace Go.Proofs.YtihmomicdpkabaaGreatDoor
open Go.AM Go.Proofs
def Kd(n k:Nat){α:Type}(l:List α):Prop:=k=n\/l=[]
theorem Kd.of{n k:Nat}{α:Type}{l:List α}(h:Kd n k l){i:Nat}(hi:i<l.length):k=n:=by
 rcases h with h|h
 ·exact h
 ·subst h;simp at hi
theorem Kd.self{n:Nat}{α:Type}{l:List α}:Kd n n l:=.inl rfl
theorem Kd.nil{n k:Nat}{α:Type}:Kd n k ([]:List α):=.inr rfl
@[simp] abbrev i64(n:Int):AV:=.int .i64 n
abbrev iN(n:Nat):AV:=.int .i64 (n:Int)
end Go.Proofs.YtihmomicdpkabaaGreatDoor
namespace Go.Proofs.YtihmomicdpkabaaGreatDoor
open Go.AM Go.Proofs
variable{Γ:Nat->Option AV}
theorem Kr(a b:List Bool){ka kb:Nat}(ha:Kd 1 ka a)(hb:Kd 1 kb b)(hs:a.length<2^60):aM Tryz.prog Γ qb [.list false ka (a.map .bool),.list false kb (b.map .bool)] (.bool (decide (a=b))):=by
 refine .run 60 Yg (by simp) ?_
 by_cases hl:a.length=b.length
 ·have key:∀n i:Nat,i+n=a.length->aw Tryz.prog Γ (yep (.list false ka (a.map .bool)) (.list false kb (b.map .bool)) (.int .i64 i) []) (.ret (.bool (decide (a.drop i=b.drop i)))):=by
   intro n
   induction n with
   |zero=>
    intro i hi;refine .go 60 ?_
    have h1:¬i<a.length:=by omega
    have h2:a.drop i=b.drop i:=by rw[br (by omega),br (by omega)]
    simp[h1,h2];exact .back (by simp)
   |succ n ih=>
    intro i hi
    have h1:i<a.length:=by omega
    have h2:i<b.length:=by omega
    obtain rfl:=ha.of h1;obtain rfl:=hb.of h2;have h4:=drop_eq h1 h2;refine .go 60 ?_
    by_cases h3:a[i]=b[i]
    ·simp(disch:=omega) [h1,h2,h3,h4];refine .aF ?_;simpa using ih (i+1) (by omega)
    ·simp(disch:=omega) [h1,h2,h3,h4];exact .back (by simp)
  simp[hl];refine .inLoop ?_;simpa[hl]using key a.length 0 (by omega)
 ·have h2:¬a=b:=fun e=>hl (by rw[e])
  simp[hl,h2];exact .back (by simp)
theorem DJ(a b:List Int){ka kb:Nat}(ha:Kd 1 ka a)(hb:Kd 1 kb b)(hs:a.length<2^60):aM Tryz.prog Γ rl [.list false ka (a.map i64),.list false kb (b.map i64)] (.bool (decide (a=b))):=by
 refine .run 60 US (by simp) ?_
 by_cases hl:a.length=b.length
 ·have key:∀n i:Nat,i+n=a.length->aw Tryz.prog Γ (ymJ (.list false ka (a.map i64)) (.list false kb (b.map i64)) (.int .i64 a.length) (.int .i64 i) []) (.ret (.bool (decide (a.drop i=b.drop i)))):=by
   intro n
   induction n with
   |zero=>
    intro i hi;refine .go 60 ?_
    have h1:¬i<a.length:=by omega
    have h2:a.drop i=b.drop i:=by rw[br (by omega),br (by omega)]
    simp[h1,h2];exact .back (by simp)
   |succ n ih=>
    intro i hi
    have h1:i<a.length:=by omega
    have h2:i<b.length:=by omega
    obtain rfl:=ha.of h1;obtain rfl:=hb.of h2;have h4:=drop_eq h1 h2;refine .go 60 ?_
    by_cases h3:a[i]=b[i]
    ·simp(disch:=omega) [h1,h2,h3,h4];refine .aF ?_;simpa using ih (i+1) (by omega)
    ·simp(disch:=omega) [h1,h2,h3,h4];exact .back (by simp)
  simp[hl];refine .inLoop ?_;simpa[hl]using key a.length 0 (by omega)
 ·have h2:¬a=b:=fun e=>hl (by rw[e])
  simp[hl,h2];exact .back (by simp)
theorem VZ{φ:List Ob->Prop}{f:FuncId}{caps:List AV}{p:Int->Bool}{l:List Int}{k:Nat}{fl:Bool}(ha:iu Tryz.prog Γ φ f caps i64 p l)(hk:Kd 1 k l)(hs:l.length<2^60){h:List Ob}(hφ:φ h):
 ∀up,AM.Reach Tryz.prog Γ (.cl vK [.list fl k (l.map i64),.fn (.func f) [] caps] up h) (.back up (.int .i64 (eD p l 0)) h):=by
 intro up
 have key:∀n i:Nat,i+n=l.length->AM.Reach Tryz.prog Γ (yxW (.list fl k (l.map i64)) (.fn (.func f) [] caps) (.int .i64 l.length) (.int .i64 i) h ⟨[],.norm,h.length,up⟩) (.back up (.int .i64 (eD p (l.drop i) i)) h):=by
  intro n
  induction n with
  |zero=>
   intro i hi
   have h1:¬i<l.length:=by omega
   refine .aR 60 ?_;rw[br (by omega)];simp[h1,eD]
  |succ n ih=>
   intro i hi
   have h1:i<l.length:=by omega
   obtain rfl:=hk.of h1;have h2:=ha.2 l[i] (bx h1);rw[bL h1,eD];have hh:=ih (i+1) (by omega);refine .aR 60 ?_;simp[h1,ha.1];refine .aX 60 (fun up=>h2 up h hφ) ?_
   cases hp:p l[i]with
   |true=>simp(disch:=omega) [hp]
   |false=>
    simp(disch:=omega) [hp];refine .aF ?_;simp at hh⊢;exact hh
 refine .bt 60 UB ?_;simp;refine .inLoop ?_;have hh:=key l.length 0 (by omega);simp at hh⊢;exact hh
theorem DP{φ:List Ob->Prop}{f:FuncId}{caps:List AV}{p:Int->Bool}{l:List Int}{k:Nat}{fl:Bool}(ha:iu Tryz.prog Γ φ f caps i64 p l)(hk:Kd 1 k l)(hs:l.length<2^60){h:List Ob}(hφ:φ h):
 ∀up,AM.Reach Tryz.prog Γ (.cl s6 [.list fl k (l.map i64),.fn (.func f) [] caps] up h) (.back up (.bool (bu p l)) h):=by
 intro up;refine .bt 60 Uo ?_;simp;refine .aX 60 (VZ ha hk hs hφ) ?_;have h1:=Bq p l 0
 cases hp:bu p l with
 |true=>rw[hp]at h1;simp at h1;simp[h1]
 |false=>
  rw[hp]at h1
  have h2:¬0<=eD p l 0:=by rw[h1];simp
  simp[h2]
structure Gr where
 ins:Int
 next:List Int
 init:List Int
 ands:List (Int×Int)
 outs:List Int
 kn:Nat
 ki:Nat
 ka:Nat
 ko:Nat
 hn:Kd 1 kn next
 hi:Kd 1 ki init
 ha:Kd 2 ka ands
 ho:Kd 1 ko outs
abbrev df(p:Int×Int):AV:=.agg [.int .i64 p.1,.int .i64 p.2]
abbrev eP(g:Gr):AV:=.agg [.int .i64 g.ins,.list false g.kn (g.next.map i64),.list false g.ki (g.init.map i64),.list false g.ka (g.ands.map df),.list false g.ko (g.outs.map i64)]
def Gr.iy(g:Gr):Prop:=g.next.length<2^40/\g.init.length<2^40/\g.ands.length<2^40/\g.outs.length<2^40
def eh(n:Int)(a:Int):Bool:=decide (a<0)||decide (n<=a)
def sB(a:Int):Bool:=decide (a<0)||decide (2<a)
def nj:List (Int×Int)->Nat->Bool
 |[],_=>false
 |p::ps,n=>eh (2*n) p.1||eh (2*n) p.2||nj ps (n+1)
def Gr.first(g:Gr):Nat:=1+g.ins.toNat+g.next.length
def Gr.all(g:Gr):Nat:=g.first+g.ands.length
def Gr.lits(g:Gr):Nat:=2*g.all
def Gr.lV(g:Gr):Bool:=decide (g.ins<0)||decide (4000<g.ins)||decide (4000<g.ins+g.next.length+g.ands.length)||decide (4000<g.outs.length)
def Gr.check(g:Gr):Int:=
 if g.lV=true then 8 else if(!decide (g.init.length=g.next.length)||bu sB g.init||bu (eh g.lits) g.next||bu (eh g.lits) g.outs||nj g.ands g.first)=true then 1 else 0
theorem Pt{g:Gr}(h:g.lV=false):0<=g.ins/\g.ins<=4000/\g.ins+g.next.length+g.ands.length<=4000/\g.outs.length<=4000:=by
 simp only[Gr.lV,jV,jr]at h;omega
theorem p_(g:Gr)(h0:0<=g.ins)(h1:g.ins<=4000)(h2:g.next.length<=4000):aM Tryz.prog Γ lu [eP g] (.int .i64 g.first):=by
 refine .run 60 Kn (by simp) ?_
 have e1:1+g.ins+(g.next.length:Int)=(g.first:Int):=by unfold Gr.first;omega
 simp(disch:=omega) [e1];exact .back (by simp)
theorem PX(i:Nat)(all:Nat)(l:List Int):iu Tryz.prog Γ (fun h=>h[i]? =some (.cells [.int .i64 all])) zZ [.ptr i 0] i64 (eh all) l:=by
 refine⟨by simp,fun x _ up h hφ=>?_⟩;refine .bt 60 WS ?_;unfold eh
 by_cases h1:x<0
 ·simp[hφ,h1]
 ·simp[hφ,h1]
theorem ae2(l:List Int):iu Tryz.prog Γ (fun _=>True) z6 [] i64 sB l:=by
 refine⟨by simp,fun x _ up h hφ=>?_⟩;refine .bt 60 WM ?_;unfold sB
 by_cases h1:x<0
 ·simp[h1]
 ·simp[h1]
theorem Zx{l:List (Int×Int)}{i:Nat}(h:i<l.length)(n:Nat):nj (l.drop i) n=(eh (2*n) l[i].1||eh (2*n) l[i].2||nj (l.drop (i+1)) (n+1)):=by
 rw[bL h,nj]
set_option maxRecDepth 8000 in
theorem rB(g:Gr)(hf:g.iy):aM Tryz.prog Γ oM [eP g] (.int .i64 g.check):=by
 obtain⟨f1,f2,f3,f4⟩:=hf;refine .run 60 XS (by simp) ?_;unfold Gr.check
 cases hl:g.lV with
 |true=>
  simp only[cy];unfold Gr.lV at hl
  by_cases c1:g.ins<0
  ·simp[c1];exact .back (by simp)
  by_cases c2:4000<g.ins
  ·simp[c1,c2];exact .back (by simp)
  by_cases c3:4000<g.ins+g.next.length+g.ands.length
  ·simp(disch:=omega) [c1,c2,c3];exact .back (by simp)
  have c4:(4000:Int)<g.outs.length:=by
   simp only[c1,c2,c3,mY,nI,bj]at hl;omega
  simp(disch:=omega) [c1,c2,c3,c4];exact .back (by simp)
 |false=>
  obtain⟨l1,l2,l3,l4⟩:=Pt hl
  have c1:¬g.ins<0:=by omega
  have c2:¬4000<g.ins:=by omega
  have c3:¬4000<g.ins+g.next.length+g.ands.length:=by omega
  have c4:¬(4000:Int)<g.outs.length:=by omega
  have hpf:=p_ (Γ:=Γ) g l1 l2 (by omega)
  have e1:(g.first:Int)+g.ands.length=g.all:=by unfold Gr.all;omega
  have e2:2*(g.all:Int)=g.lits:=by unfold Gr.lits;omega
  have hfl:g.first<=8001:=by unfold Gr.first;omega
  have hal:g.all<=12001:=by unfold Gr.all;omega
  simp(disch:=omega) [c1,c2,c3,c4];refine .dr 60 ?_;simp;refine .quiet hpf (fun _=>rfl) (by simp) ?_;simp(disch:=omega) [e1,e2]
  by_cases d1:g.init.length=g.next.length
  ·simp[d1];refine .aX 60 (DP (ae2 g.init) g.hi (by omega) (by trivial)) ?_
   cases d2:bu sB g.init with
   |true=>simp;exact .back (by simp)
   |false=>
    simp;refine .aX 60 (DP (PX 1 g.lits g.next) g.hn (by omega) (by simp)) ?_
    cases d3:bu (eh g.lits) g.next with
    |true=>simp;exact .back (by simp)
    |false=>
     simp;refine .aX 60 (DP (PX 1 g.lits g.outs) g.ho (by omega) (by simp)) ?_
     cases d4:bu (eh g.lits) g.outs with
     |true=>simp;exact .back (by simp)
     |false=>
      simp;refine .inLoop ?_;simp
      have key:∀n i:Nat,i+n=g.ands.length->aw Tryz.prog Γ (yjR (.ptr 0 0) (.list false g.ka (g.ands.map df)) (.int .i64 g.ands.length) (.int .i64 i)
       [.cells [.int .i64 g.ins,.list false g.kn (g.next.map i64),.list false g.ki (g.init.map i64),.list false g.ka (g.ands.map df),.list false g.ko (g.outs.map i64)],.cells [.int .i64 g.lits]]) (.ret (.int .i64 (if nj (g.ands.drop i) (g.first+i)=true then 1 else 0))):=by
       intro n
       induction n with
       |zero=>
        intro i hi
        have q1:¬i<g.ands.length:=by omega
        refine .go 60 ?_;rw[br (by omega)];simp[q1,nj];exact .back (by simp)
       |succ n ih=>
        intro i hi
        have q1:i<g.ands.length:=by omega
        have q2:=bP (g.ha.of q1);have hh:=ih (i+1) (by omega)
        have q3:2*((g.first:Int)+i)=((2*(g.first+i):Nat):Int):=by omega
        rw[Zx q1];unfold eh;refine .go 60 ?_;simp(disch:=omega) [q1,q2];refine .call 60 (by simp) hpf ?_
        by_cases r1:g.ands[i].1<0
        ·simp(disch:=omega) [r1];exact .back (by simp)
        by_cases r2:g.ands[i].2<0
        ·simp(disch:=omega) [r1,r2];exact .back (by simp)
        by_cases r3:2*((g.first:Int)+i)<=g.ands[i].1
        ·simp(disch:=omega) [r1,r2,r3];exact .back (by simp)
        by_cases r4:2*((g.first:Int)+i)<=g.ands[i].2
        ·simp(disch:=omega) [r1,r2,r3,r4];exact .back (by simp)
        simp(disch:=omega) [r1,r2,r3,r4];refine .aF ?_;simp;refine .drop 2 rfl (by simp) (by simp) (by simp) ?_;simp at hh⊢;rw[show g.first+(i+1)=g.first+i+1 by omega]at hh;exact hh
      have hh:=key g.ands.length 0 (by omega);simp at hh⊢;exact hh
  ·simp[d1];exact .back (by simp)
def bG(v:List Bool)(a:Nat):Bool:=v.getD (a/2) false !=decide (a%2=1)
theorem aej{v:List Bool}{a:Nat}(h:a/2<v.length):bG v a=!decide (v[a/2]=decide (a%2=1)):=by
 unfold bG;rw[bp,bm h]
 cases v[a/2]<;>by_cases h1:a%2=1<;>simp[h1]
theorem D'(v:List Bool)(a:Nat)(h:a/2<v.length)(ha:a<2^40):aM Tryz.prog Γ tH [.list false 1 (v.map .bool),.int .i64 a] (.bool (bG v a)):=by
 refine .run 60 XD (by simp) ?_;rw[aej h]
 have h2:((a%2:Nat):Int)=1↔a%2=1:=by omega
 have h3:((a/2:Nat):Int)<v.length:=by omega
 simp(disch:=omega) [-Int.natCast_ediv,-Int.natCast_emod,h,h2,h3];exact .back (by simp)
abbrev gR(x:Nat×List Bool):AV:=.list false x.1 (x.2.map AV.bool)
def cG:List (Nat×List Bool)->List Bool
 |[]=>[]
 |x::xs=>x.2++cG xs
theorem Kw(a b:List (Nat×List Bool)):cG (a++b)=cG a++cG b:=by
 induction a with
 |nil=>rfl
 |cons x a ih=>simp[cG,ih]
theorem L'(xs:List (Nat×List Bool))(i:Nat)(h:i<xs.length):cG (xs.take (i+1))=cG (xs.take i)++xs[i].2:=by
 rw[gG h,Kw];simp[cG]
theorem OF(xs:List (Nat×List Bool))(i:Nat):(cG (xs.take i)).length<=(cG xs).length:=by
 conv=>rhs;rw[<-lZ i xs,Kw]
 simp
set_option maxRecDepth 8000 in
theorem JO(xs:List (Nat×List Bool))(hk:∀x∈xs,Kd 1 x.1 x.2)(hn:xs.length<2^40)(hs:(cG xs).length<2^40)(hp:0<(cG xs).length):
 aM Tryz.prog Γ oF [.list false 1 (xs.map gR)] (.own 1 aV ((cG xs).map AV.bool)):=by
 refine .run 60 JN (by simp) ?_
 have key2:∀n i:Nat,i+n=xs.length->∀m:Nat,(cG (xs.take i)).length+m=(cG xs).length->
  aw Tryz.prog Γ (Tp (.sl 2 0 (cG (xs.take i)).length) (.list false 1 (xs.map gR)) (.int .i64 xs.length) (.int .i64 i) [.row 1 aV [] none true false,.row 1 aV [] none true false,.row 1 aV ((cG (xs.take i)).map AV.bool++List.replicate m (AV.bool false)) none true false])
   (.ret (.own 1 aV ((cG xs).map AV.bool))):=by
  intro n
  induction n with
  |zero=>
   intro i hi m hm
   have q1:¬i<xs.length:=by omega
   have q2:xs.take i=xs:=bR (by omega);rw[q2]at hm⊢
   have hm0:m=0:=by omega
   subst hm0;refine .go 60 ?_;simp[q1];exact .back (by simp)
  |succ n ih=>
   intro i hi m hm
   have q1:i<xs.length:=by omega
   have q2:=L' xs i q1;have q3:=OF xs (i+1);rw[q2,bQ]at q3;have q4:=hk xs[i] (bx q1);have q5:xs[i].1=1\/xs[i].2=[]:=q4;have hh:=ih (i+1) (by omega) (m-xs[i].2.length) (by rw[q2,bQ];omega);rw[q2]at hh
   have hd:(List.replicate m (AV.bool false)).drop xs[i].2.length=List.replicate (m-xs[i].2.length) (AV.bool false):=by simp
   refine .go 60 ?_
   by_cases q6:(cG (xs.take i)).length=(cG xs).length
   ·have q7:xs[i].2=[]:=ku.1 (by omega)
    have hm0:m=0:=by omega
    subst hm0;simp[q7]at hh;simp(disch:=(first|omega|(simp;omega))) [q1,q5,q7];refine .aF ?_;simp;exact hh
   ·simp(disch:=(first|omega|(simp;omega))) [q1,q5]
    by_cases q7:m=0
    ·omega
    ·have c1:¬(cG (List.take i xs)).length=(cG (List.take i xs)).length+m:=by omega
     have c2:(cG (List.take i xs)).length+xs[i].snd.length<=(cG (List.take i xs)).length+m:=by omega
     simp(disch:=(first|omega|(simp;omega))) [q1,q5,c1,c2,q7];refine .aF ?_;have mO:((cG (xs.take i)).map AV.bool).drop ((cG (xs.take i)).length+xs[i].2.length)=[]:=br (by simp);simp[sP,hd,mO]at hh⊢;exact hh
 have key1:∀n i:Nat,i+n=xs.length->
  aw Tryz.prog Γ (Rp (.list false 1 (xs.map gR)) (.int .i64 (cG (xs.take i)).length) (.list false 1 (xs.map gR)) (.int .i64 xs.length) (.int .i64 i) [.row 1 aV [] none true false])
   (.ret (.own 1 aV ((cG xs).map AV.bool))):=by
  intro n
  induction n with
  |zero=>
   intro i hi
   have q1:¬i<xs.length:=by omega
   have q2:xs.take i=xs:=bR (by omega);have q3:0<(cG xs).length:=hp;have hh:=key2 xs.length 0 (by omega) (cG xs).length (by simp[cG]);refine .go 60 ?_;rw[q2];simp[q1];refine .enter 60 JQ ?_
   have q4:¬(cG xs).length=0:=by omega
   have q5:cG xs≠[]:=fun e=>by rw[e]at hp;simp at hp
   obtain⟨m,hm⟩:∃m,(cG xs).length=m+1:=⟨(cG xs).length-1,by omega⟩
   have hrep:List.replicate (cG xs).length (AV.bool false)=(AV.bool false)::List.replicate m (AV.bool false):=by rw[hm];rfl
   simp(disch:=(first|omega|(simp;omega))) [q3,q4,q5,hrep];refine .inLoop ?_;simp[cG,hrep]at hh⊢;exact hh
  |succ n ih=>
   intro i hi
   have q1:i<xs.length:=by omega
   have q2:=L' xs i q1;have q3:=OF xs (i+1);rw[q2,bQ]at q3;have hh:=ih (i+1) (by omega);rw[q2]at hh;refine .go 60 ?_
   have q4:¬((cG (xs.take i)).length:Int)+xs[i].2.length<0:=by omega
   simp(disch:=(first|omega|(simp;omega))) [q1,q4];refine .aF ?_;simp at hh⊢;exact hh
 simp;refine .inLoop ?_;have hh:=key1 xs.length 0 (by omega);simp[cG]at hh⊢;exact hh
set_option maxRecDepth 8000 in
theorem Un(xs:List (Nat×List Bool))(hx:∀x∈xs,x.2=[])(hn:xs.length<2^40):
 aM Tryz.prog Γ oF [.list false 1 (xs.map gR)] (.own 1 aV []):=by
 refine .run 60 JN (by simp) ?_
 have key2:∀n i:Nat,i+n=xs.length->aw Tryz.prog Γ (Tp (.list true 0 []) (.list false 1 (xs.map gR)) (.int .i64 xs.length) (.int .i64 i) [.row 1 aV [] none true false,.row 1 aV [] none true false])
  (.ret (.own 1 aV [])):=by
  intro n
  induction n with
  |zero=>
   intro i hi
   have q1:¬i<xs.length:=by omega
   refine .nT 6 1 aV rfl (by omega) ?_;refine .go 60 ?_;simp[q1];exact .back (by simp)
  |succ n ih=>
   intro i hi
   have q1:i<xs.length:=by omega
   have q7:=hx xs[i] (bx q1);have hh:=ih (i+1) (by omega);refine .go 60 ?_;simp(disch:=(first|omega|(simp;omega))) [q1,q7];refine .aF ?_;simp at hh⊢;exact hh
 have key:∀n i:Nat,i+n=xs.length->aw Tryz.prog Γ (Rp (.list false 1 (xs.map gR)) (.int .i64 0) (.list false 1 (xs.map gR)) (.int .i64 xs.length) (.int .i64 i) [.row 1 aV [] none true false])
  (.ret (.own 1 aV [])):=by
  intro n
  induction n with
  |zero=>
   intro i hi
   have q1:¬i<xs.length:=by omega
   refine .go 60 ?_;simp[q1];refine .enter 60 JQ ?_;simp;refine .inLoop ?_;have hh:=key2 xs.length 0 (by omega);simp at hh⊢;exact hh
  |succ n ih=>
   intro i hi
   have q1:i<xs.length:=by omega
   have q7:=hx xs[i] (bx q1);have hh:=ih (i+1) (by omega);refine .go 60 ?_;simp(disch:=(first|omega|(simp;omega))) [q1,q7];refine .aF ?_;simp at hh⊢;exact hh
 simp;refine .inLoop ?_;have hh:=key xs.length 0 (by omega);simp at hh⊢;exact hh
theorem ab7{l:List (Int×Int)}{n:Nat}(h:nj l n=false):∀i(hi:i<l.length),(0<=l[i].1/\l[i].1<2*(n+i))/\0<=l[i].2/\l[i].2<2*(n+i):=by
 induction l generalizing n with
 |nil=>intro i hi;simp at hi
 |cons p l ih=>
  simp only[nj,jV,eh,jr]at h;intro i hi
  cases i with
  |zero=>simp;omega
  |succ i=>
   have:=ih h.2 i (by simpa using hi);simp at this⊢;omega
structure Gr.Ok(g:Gr):Prop where
 ins:0<=g.ins/\g.ins<=4000
 sum:g.ins+g.next.length+g.ands.length<=4000
 lM:g.outs.length<=4000
 same:g.init.length=g.next.length
 init:∀a∈g.init,0<=a/\a<=2
 next:∀a∈g.next,0<=a/\a<g.lits
 outs:∀a∈g.outs,0<=a/\a<g.lits
 ands:∀i(hi:i<g.ands.length),(0<=g.ands[i].1/\g.ands[i].1<2*(g.first+i))/\0<=g.ands[i].2/\g.ands[i].2<2*(g.first+i)
theorem Gr.qv{g:Gr}(h:g.check=0):g.Ok:=by
 unfold Gr.check at h
 split at h
 ·simp at h
 ·rename_i hl;have hl:=Pt (by simpa using hl)
  split at h
  ·simp at h
  ·rename_i hb;simp only[Bool.not_eq_true,jV,TZ,bj]at hb;obtain⟨⟨⟨⟨b1,b2⟩,b3⟩,b4⟩,b5⟩:=hb;refine⟨⟨hl.1,hl.2.1⟩,hl.2.2.1,hl.2.2.2,b1,?_,?_,?_,ab7 b5⟩
   ·intro a ha;have:=m9.1 b2 a ha;simp[sB]at this;omega
   ·intro a ha;have:=m9.1 b3 a ha;simp[eh]at this;omega
   ·intro a ha;have:=m9.1 b4 a ha;simp[eh]at this;omega
def bM:List (Int×Int)->List Bool->List Bool
 |[],v=>v
 |p::ps,v=>bM ps (v++[bG v p.1.toNat&&bG v p.2.toNat])
theorem rM:∀(l:List (Int×Int))(v:List Bool),(bM l v).length=v.length+l.length
 |[],v=>by simp[bM]
 |p::ps,v=>by rw[bM,rM ps];simp;omega
theorem tx:∀(a b:List (Int×Int))(v:List Bool),bM (a++b) v=bM b (bM a v)
 |[],b,v=>rfl
 |p::ps,b,v=>by rw[eR,bM,bM,tx ps]
def Gr.kf(g:Gr)(state ins:List Bool):List Bool:=bM g.ands (false::(ins++state))
def Gr.fits(g:Gr)(state ins:List Bool):Bool:=decide (state.length=g.next.length)&&decide ((ins.length:Int)=g.ins)
def Gr.ey(g:Gr)(state ins:List Bool):Int:=if g.check≠0 then g.check else if g.fits state ins=true then 0 else 11
def Gr.values(g:Gr)(state ins:List Bool):List Bool:=if g.ey state ins=0 then g.kf state ins else[]
theorem Zt{g:Gr}{i:Nat}(h:i<g.ands.length)(v:List Bool):bM (g.ands.take (i+1)) v=bM (g.ands.take i) v++[bG (bM (g.ands.take i) v) g.ands[i].1.toNat&&bG (bM (g.ands.take i) v) g.ands[i].2.toNat]:=by
 rw[gG h,tx];rfl
set_option maxRecDepth 8000 in
theorem Xr(g:Gr)(hf:g.iy)(state ins:List Bool){ks ki:Nat}(hs:Kd 1 ks state)(hi:Kd 1 ki ins)(hl1:state.length<2^40)(hl2:ins.length<2^40):
 aM Tryz.prog Γ wb [eP g,.list false ks (state.map .bool),.list false ki (ins.map .bool)] (.aB [.own 1 aV ((g.values state ins).map .bool),.int .i64 (g.ey state ins)]):=by
 refine .run 60 Xo (by simp) ?_;simp;refine .call 60 (by simp) (rB g hf) ?_;unfold Gr.values Gr.ey
 by_cases hc:g.check=0
 ·obtain ok:=Gr.qv hc;obtain⟨o1,o2⟩:=ok.ins;have o3:=ok.sum
  by_cases d1:state.length=g.next.length
  ·by_cases d2:(ins.length:Int)=g.ins
   ·have hcat:cG [(1,[false]),(ki,ins),(ks,state)]=false::(ins++state):=by simp[cG]
    have hcc:=JO (Γ:=Γ) [(1,[false]),(ki,ins),(ks,state)] (by simp;exact⟨.inl rfl,hi,hs⟩) (by simp) (by rw[hcat];simp;omega) (by rw[hcat];simp);rw[hcat]at hcc
    have hfit:g.fits state ins=true:=by simp[Gr.fits,d1,d2]
    have key:∀n i:Nat,i+n=g.ands.length->∀v:List Bool,v=bM (g.ands.take i) (false::(ins++state))->
     aw Tryz.prog Γ (ylR (.sl 2 0 v.length) (.list false g.ka (g.ands.map df)) (.int .i64 g.ands.length) (.int .i64 i)
      [.cells [.int .i64 g.ins,.list false g.kn (g.next.map i64),.list false g.ki (g.init.map i64),.list false g.ka (g.ands.map df),.list false g.ko (g.outs.map i64)],.row 1 aV [] none true false,.row 1 aV (v.map .bool) none true false])
      (.ret (.aB [.own 1 aV ((g.kf state ins).map .bool),.int .i64 0])):=by
     intro n
     induction n with
     |zero=>
      intro i hi v hv
      have q1:¬i<g.ands.length:=by omega
      have q2:g.ands.take i=g.ands:=bR (by omega);rw[q2]at hv;have q3:g.kf state ins=v:=hv.symm;rw[q3];refine .go 60 ?_;simp[q1];exact .back (by simp)
     |succ n ih=>
      intro i hi v hv
      have q1:i<g.ands.length:=by omega
      have q2:=bP (g.ha.of q1)
      have hlen:v.length=g.first+i:=by
       rw[hv,rM,fI];simp[Gr.first];omega
      have hfi:g.first<=4001:=by unfold Gr.first;omega
      obtain⟨⟨a1,a2⟩,a3,a4⟩:=ok.ands i q1;obtain⟨x,hx⟩:=ky a1;obtain⟨y,hy⟩:=ky a3;have hvx:=D' (Γ:=Γ) v x (by omega) (by omega);have hvy:=D' (Γ:=Γ) v y (by omega) (by omega);have hh:=ih (i+1) (by omega) _ rfl;rw[Zt q1,<-hv,hx,hy]at hh;simp only[gb]at hh;refine .go 60 ?_;simp(disch:=omega) [q1,q2,hx,hy];refine .call 60 (by simp) hvx ?_
      cases b1:bG v x with
      |true=>
       simp(disch:=omega) [q1,q2,hx,hy];refine .call 60 (by simp) hvy ?_;simp(disch:=(first|omega|(simp;omega))) [q1,q2,hx,hy];refine .aF ?_;simp;refine .drop 3 rfl (by simp) (by simp) (by simp) ?_;refine .reset (i:=2) rfl (by simp) (by simp) (by simp) ?_;simp[b1]at hh⊢;exact hh
      |false=>
       simp(disch:=(first|omega|(simp;omega))) [q1,q2,hx,hy];refine .aF ?_;simp;refine .drop 3 rfl (by simp) (by simp) (by simp) ?_;refine .reset (i:=2) rfl (by simp) (by simp) (by simp) ?_;simp[b1]at hh⊢;exact hh
    simp[hc,d1,d2,hfit];refine .call 60 (by simp) hcc ?_;simp;refine .inLoop ?_;have hh:=key g.ands.length 0 (by omega) (false::(ins++state)) (by simp[bM]);simp at hh⊢;exact hh
   ·have hfit:g.fits state ins=false:=by simp[Gr.fits,d1,d2]
    simp[hc,d1,d2,hfit];exact .back (by simp)
  ·have hfit:g.fits state ins=false:=by simp[Gr.fits,d1]
   simp[hc,d1,hfit];exact .back (by simp)
 ·simp[hc];exact .back (by simp[hc])
def j7(v:List Bool)(l:List Int):List Bool:=l.map fun a=>bG v a.toNat
@[simp] theorem azT(v:List Bool)(l:List Int):(j7 v l).length=l.length:=by simp[j7]
theorem Zp{v:List Bool}{l:List Int}{i:Nat}(h:i<l.length):j7 v (l.take (i+1))=j7 v (l.take i)++[bG v l[i].toNat]:=by
 rw[gG h];simp only[j7,iT,cd,lp]
set_option maxRecDepth 8000 in
theorem Kk(v:List Bool)(l:List Int){k:Nat}(hk:Kd 1 k l)(hs:l.length<2^40)(hvl:v.length<2^38)(i r:Nat){h:List Ob}(hi:h[i]? =some (.cells [.sl r 0 v.length]))(hr:h[r]? =some (.row 1 aV (v.map .bool) none true false))
 (hv:∀m,cJ (h.length+1) m h=true)(hl:∀a∈l,0<=a/\a<2*v.length):
 ∀up,AM.Reach Tryz.prog Γ (.cl wa [.list false k (l.map i64),.ptr i 0] up h) (.back up (.sl (h.length+1) 0 l.length) (h++[.row 1 aV [] none true false,.row 1 aV ((j7 v l).map .bool) none true false])):=by
 intro up
 have hi':∀os,(h++os)[i]? =some (.cells [.sl r 0 v.length]):=fun os=>dL hi os
 have hr':∀os,(h++os)[r]? =some (.row 1 aV (v.map .bool) none true false):=fun os=>dL hr os
 have key:∀n j:Nat,j+n=l.length->∀w,w=j7 v (l.take j)->AM.Reach Tryz.prog Γ (ymf (.ptr i 0) (.sl (h.length+1) 0 w.length) (.list false k (l.map i64)) (.int .i64 l.length) (.int .i64 j)
  (h++[.row 1 aV [] none true false,.row 1 aV (w.map .bool) none true false]) ⟨[],.norm,h.length,up⟩) (.back up (.sl (h.length+1) 0 l.length) (h++[.row 1 aV [] none true false,.row 1 aV ((j7 v l).map .bool) none true false])):=by
  intro n
  induction n with
  |zero=>
   intro j hj w hw
   have q1:¬j<l.length:=by omega
   rw[bR (by omega)]at hw;subst hw;refine .aR 60 ?_;simp[q1]
  |succ n ih=>
   intro j hj w hw
   have q1:j<l.length:=by omega
   have q2:=bP (hk.of q1);obtain⟨a1,a2⟩:=hl l[j] (bx q1);obtain⟨x,hx⟩:=ky a1
   have hwl:w.length=j:=by rw[hw];simp;omega
   have hc:=D' (Γ:=Γ) v x (by omega) (by omega);have hh:=ih (j+1) (by omega) _ rfl;rw[Zp q1,<-hw,hx]at hh;simp only[gb]at hh;refine .aR 60 ?_;simp(disch:=omega) [q1,q2,hi',hx];refine .jD 60 (by simp[hr']) hc ?_;simp(disch:=(first|omega|(simp;omega))) [q1,q2,hi',hr'];refine .aF ?_;simp;refine .lA (i:=h.length+1) (by simp;exact⟨rfl,rfl,rfl,rfl,rfl⟩) (by simp) (by simp) (by simp[hv]) ?_;simp at hh⊢;exact hh
 refine .bt 60 W6 ?_;simp;refine .inLoop ?_;have hh:=key l.length 0 (by omega) [] (by simp[j7]);simp at hh⊢;exact hh
theorem Gr.ab1(g:Gr)(state ins:List Bool):(g.kf state ins).length=1+ins.length+state.length+g.ands.length:=by
 rw[Gr.kf,rM];simp;omega
def Gr.dC(g:Gr)(state ins:List Bool):List Bool:=if g.ey state ins=0 then j7 (g.kf state ins) g.outs else[]
def Gr.je(g:Gr)(state ins:List Bool):List Bool:=if g.ey state ins=0 then j7 (g.kf state ins) g.next else[]
theorem Gr.P4{g:Gr}{state ins:List Bool}(h:g.ey state ins=0):g.Ok/\state.length=g.next.length/\(ins.length:Int)=g.ins:=by
 unfold Gr.ey at h
 by_cases hc:g.check=0
 ·refine⟨Gr.qv hc,?_⟩;simp only[hc,ne_eq,not_true,db]at h
  by_cases hf:g.fits state ins=true
  ·simp only[Gr.fits,av,bj]at hf;exact hf
  ·simp[hf]at h
 ·simp[hc]at h
set_option maxRecDepth 8000 in
theorem Zf(g:Gr)(hf:g.iy)(state ins:List Bool){ks ki:Nat}(hs:Kd 1 ks state)(hi:Kd 1 ki ins)(hl1:state.length<2^40)(hl2:ins.length<2^40):
 aM Tryz.prog Γ wD [eP g,.list false ks (state.map .bool),.list false ki (ins.map .bool)]
  (.aB [.own 1 aV ((g.dC state ins).map .bool),.own 1 aV ((g.je state ins).map .bool),.int .i64 (g.ey state ins)]):=by
 refine .run 60 Yv (by simp) ?_;simp;refine .call 60 (by simp) (Xr g hf state ins hs hi hl1 hl2) ?_;unfold Gr.dC Gr.je Gr.values
 by_cases hE:g.ey state ins=0
 ·obtain⟨ok,d1,d2⟩:=Gr.P4 hE;have hvl:=g.ab1 state ins;obtain⟨o1,o2⟩:=ok.ins;have o3:=ok.sum;have o4:=ok.lM
  have hlit:g.lits=2*(g.kf state ins).length:=by rw[hvl];simp[Gr.lits,Gr.all,Gr.first];omega
  have hO:∀a∈g.outs,0<=a/\a<2*(g.kf state ins).length:=fun a ha=>by have:=ok.outs a ha;omega
  have hN:∀a∈g.next,0<=a/\a<2*(g.kf state ins).length:=fun a ha=>by have:=ok.next a ha;omega
  simp[hE];generalize g.kf state ins=v at*;refine .dr 60 ?_;simp;refine .reach (by simp) (Kk v g.outs g.ho (by omega) (by omega) 4 3 (by simp) (by simp) (by simp) hO) ?_;simp;refine .reach (by simp) (Kk v g.next g.hn (by omega) (by omega) 4 3 (by simp) (by simp) (by simp) hN) ?_;simp;exact .back (by simp)
 ·simp[hE];exact .back (by simp[hE])
end Go.Proofs.YtihmomicdpkabaaGreatDoor
namespace Go.Proofs.YtihmomicdpkabaaGreatDoor
open Go.AM Go.Proofs
def gv(p:Int×Int):List (Int×Int)->Nat->Option Nat
 |[],_=>none
 |q::qs,i=>if q=p then some i else gv p qs (i+1)
theorem D3(p:Int×Int):∀(a b:List (Int×Int))(i:Nat),gv p (a++b) i=match gv p a i with|some j=>some j|none=>gv p b (i+a.length)
 |[],b,i=>by simp[gv]
 |q::a,b,i=>by
  rw[eR,gv,gv]
  by_cases h:q=p
  ·simp[h]
  ·rw[if_neg h,if_neg h,D3 p a b (i+1),bW,show i+1+a.length=i+(a.length+1) by omega]
theorem ET{p:Int×Int}:∀{l:List (Int×Int)}{i k:Nat},gv p l i=some k->i<=k/\∃h:k-i<l.length,l[k-i]=p
 |[],i,k,h=>by simp[gv]at h
 |q::l,i,k,h=>by
  rw[gv]at h
  by_cases hq:q=p
  ·rw[if_pos hq]at h
   cases h
   exact⟨aT _,by simp,by simp[hq]⟩
  ·rw[if_neg hq]at h;obtain⟨h1,h2,h3⟩:=ET h;refine⟨by omega,by simp;omega,?_⟩
   have e:k-i=(k-(i+1))+1:=by omega
   simp only[e,sX];exact h3
theorem E6{p:Int×Int}:∀{l:List (Int×Int)}{i:Nat},gv p l i=none↔p∉l
 |[],i=>by simp[gv]
 |q::l,i=>by
  rw[gv]
  by_cases hq:q=p
  ·simp[hq]
  ·rw[if_neg hq,E6 (l:=l)];simp[hq,Ne.symm hq]
def kY(p q:Nat):Option Nat:=if q=0\/p^^^1=q then some 0 else if q=1\/p=q then some p else none
def bN(first:Nat)(l:List (Int×Int))(a b:Nat):List (Int×Int)×Nat:=
 match kY (max a b) (min a b)with
 |some c=>(l,c)
 |none=>match gv (((max a b:Nat):Int),((min a b:Nat):Int)) l 0 with
  |some i=>(l,2*(first+i))
  |none=>(l++[(((max a b:Nat):Int),((min a b:Nat):Int))],2*(first+l.length))
def fS(p:Int×Int):List ((Int×Int)×Nat)->Option Nat
 |[]=>none
 |(q,n)::r=>if p=q then some n else fS p r
abbrev gy(x:(Int×Int)×Nat):AV×AV:=(df x.1,.int .i64 x.2)
theorem Fe(p q:Int×Int):cn (.ja [.int,.int]) (df p) (df q)=some (decide (p=q)):=by
 obtain⟨a,b⟩:=p;obtain⟨c,d⟩:=q;simp only[cn,bU,cz,gp,eL,bT]
 cases h1:(a==c)
 ·have:=vD.1 h1;simp[this]
 ·have e1:=eq_of_beq h1
  cases h2:(b==d)
  ·have:=vD.1 h2;simp[this]
  ·have e2:=eq_of_beq h2;simp[e1,e2]
theorem Ea(p:Int×Int):∀l:List ((Int×Int)×Nat),ez (.ja [.int,.int]) (df p) (l.map gy)=some ((fS p l).map fun n:Nat=>AV.int .i64 (n:Int))
 |[]=>rfl
 |(q,n)::r=>by
  simp only[cd,ez,Fe,fS]
  by_cases h:p=q
  ·simp[h]
  ·simp only[h,mY,db];exact Ea p r
theorem EE{p:Int×Int}{v:AV}:∀{l:List ((Int×Int)×Nat)},fS p l=none->ir (.ja [.int,.int]) (df p) v (l.map gy)=some (l.map gy++[(df p,v)])
 |[],_=>rfl
 |(q,n)::r,h=>by
  rw[fS]at h
  by_cases hq:p=q
  ·rw[if_pos hq]at h;cases h
  ·rw[if_neg hq]at h;simp only[cd,ir,Fe,hq,mY,EE h,dv,eR]
theorem Km(n:Nat):∀a b:List (AV×AV),fT n (a++b)=(fT n a&&fT n b)
 |[],b=>by simp[fT]
 |(x,y)::a,b=>by simp[fT,Km n a b,nL]
@[simp] theorem ZD(n:Nat):∀l:List ((Int×Int)×Nat),fT n (l.map gy)=true
 |[]=>rfl
 |x::r=>by simp[fT,ZD n r]
@[simp] theorem acV(n:Nat)(τ:List Nat):∀l:List ((Int×Int)×Nat),mM n τ (l.map gy)=l.map gy
 |[]=>rfl
 |x::r=>by simp[acV n τ r]
@[simp] theorem aby(n:Nat)(τ:List Nat):∀l:List ((Int×Int)×Nat),pI n τ (l.map gy)=true
 |[]=>rfl
 |x::r=>by simp[aby n τ r]
@[simp] theorem ZB(n m:Nat):∀l:List ((Int×Int)×Nat),nz n m (l.map gy)=true
 |[]=>rfl
 |x::r=>by simp[ZB n m r]
def jM(first:Nat)(l:List (Int×Int))(es:List ((Int×Int)×Nat)):Prop:=∀p,fS p es=(gv p l 0).map fun i=>2*(first+i)
theorem Ki(p:Int×Int):∀(a b:List ((Int×Int)×Nat)),fS p (a++b)=match fS p a with|some n=>some n|none=>fS p b
 |[],b=>rfl
 |(q,n)::a,b=>by
  rw[eR,fS,fS]
  by_cases h:p=q
  ·simp[h]
  ·rw[if_neg h,if_neg h,Ki p a b]
theorem FC(first:Nat):jM first [] []:=fun p=>rfl
theorem acn{first:Nat}{l:List (Int×Int)}{es:List ((Int×Int)×Nat)}(h:jM first l es){p:Int×Int}{n:Nat}(hp:fS p es=some n):jM first (l++[p]) es:=by
 intro q;rw[h q,D3]
 cases hq:gv q l 0 with
 |some j=>rfl
 |none=>
  have h2:=h p;rw[hp]at h2
  have hne:p≠q:=by
   rintro rfl
   rw[hq]at h2
   cases h2
  simp[gv,hne]
theorem MU{first:Nat}{l:List (Int×Int)}{es:List ((Int×Int)×Nat)}(h:jM first l es){p:Int×Int}(hp:fS p es=none):jM first (l++[p]) (es++[(p,2*(first+l.length))]):=by
 intro q;rw[Ki,D3,h q]
 cases hq:gv q l 0 with
 |some j=>rfl
 |none=>
  simp only[sO,fS,gv,iS]
  by_cases he:q=p
  ·simp[he]
  ·rw[if_neg he,if_neg (fun h1=>he h1.symm)];rfl
end Go.Proofs.YtihmomicdpkabaaGreatDoor
namespace Go.Proofs.YtihmomicdpkabaaGreatDoor
open Go.AM Go.Proofs
variable{Γ:Nat->Option AV}
theorem JM(l:List (Int×Int)){k:Nat}(hk:Kd 2 k l)(hl:l.length<2^40):aM Tryz.prog Γ zD [.list false k (l.map df)] (.own 2 cP (l.map df)):=by
 refine .run 60 Uy (by simp) ?_
 cases l with
 |nil=>
  simp;refine .either 0 (by simp) (fun b=>?_)
  cases b
  ·refine .go 9 ?_;simp;refine .nT 2 2 cP rfl (by omega) ?_;refine .go 60 ?_;simp;exact .back (by simp)
  ·refine .go 60 ?_;simp;exact .back (by simp)
 |cons x xs=>
  have hk0:k=2:=by
   rcases hk with h|h
   ·exact h
   ·cases h
  subst hk0;simp at hl;simp(disch:=(first|omega|(simp;omega)));exact .back (by simp)
def QK(h:List Ob):Prop:=∀m,h.length<=m->cI m h=true
abbrev cE(g:Gr):Ob:=.cells [.int .i64 g.ins,.list false g.kn (g.next.map i64),.list false g.ki (g.init.map i64),.list false g.ka (g.ands.map df),.list false g.ko (g.outs.map i64)]
def qx(first:Nat):List (Int×Int)->Nat->List ((Int×Int)×Nat)->List ((Int×Int)×Nat)
 |[],_,es=>es
 |p::ps,i,es=>qx first ps (i+1) (if(fS p es).isSome=true then es else es++[(p,2*(first+i))])
theorem NH(first:Nat):∀(ps l:List (Int×Int))(es:List ((Int×Int)×Nat)),jM first l es->jM first (l++ps) (qx first ps l.length es)
 |[],l,es,h=>by simpa[qx]using h
 |p::ps,l,es,h=>by
  rw[qx]
  have e:l++p::ps=(l++[p])++ps:=by simp
  have e2:l.length+1=(l++[p]).length:=by simp
  rw[e,e2]
  refine NH first ps (l++[p]) _ ?_
  cases hf:fS p es with
  |none=>simpa using MU h hf
  |some n=>simpa using acn h hf
def Gr.bg(g:Gr):List ((Int×Int)×Nat):=qx g.first g.ands 0 []
theorem Gr.On(g:Gr):jM g.first g.ands g.bg:=by
 have:=NH g.first g.ands [] [] (FC _)
 rw[lq]at this;exact this
abbrev GS(g:Gr)(r n m:Nat)(come:AV):Ob:=.cells [.int .i64 g.ins,.list false g.kn (g.next.map i64),.list false g.ki (g.init.map i64),.sl r 0 n,.list false g.ko (g.outs.map i64),.mp m,come]
set_option maxRecDepth 8000 in
theorem ab5(g:Gr)(ok:g.Ok)(h:List Ob)(hw:QK h)(up:List Fr):∀n i:Nat,i+n=g.ands.length->∀es,AM.Reach Tryz.prog Γ
 (ywO (.ptr h.length 0) (.ptr (h.length+2) 0) (.list false g.ka (g.ands.map df)) (.int .i64 g.ands.length) (.int .i64 i) (h++[cE g,.map (es.map gy) true,GS g (h.length+3) g.ands.length (h.length+1) (.list true 0 []),.row 2 cP (g.ands.map df) none true false]) ⟨[],.norm,h.length,up⟩)
 (.back up (.ptr (h.length+2) 0) (h++[cE g,.map ((qx g.first (g.ands.drop i) i es).map gy) true,GS g (h.length+3) g.ands.length (h.length+1) (.list true 0 []),.row 2 cP (g.ands.map df) none true false])):=by
 have o1:=ok.ins;have o3:=ok.sum;have hf:=p_ (Γ:=Γ) g o1.1 o1.2 (by omega)
 have hfb:g.first<=8001:=by unfold Gr.first;omega
 intro n
 induction n with
 |zero=>
  intro i hi es
  have q1:¬i<g.ands.length:=by omega
  rw[br (by omega)];refine .aR 60 ?_;simp[q1,qx]
 |succ n ih=>
  intro i hi es
  have q1:i<g.ands.length:=by omega
  have q2:=bP (g.ha.of q1);rw[bL q1,qx];have hfi:=Ea g.ands[i] es;have hbw:=hw (h.length+4) (by omega)
  cases hfe:fS g.ands[i] es with
  |some c=>
   rw[hfe]at hfi;have hh:=ih (i+1) (by omega) es;refine .aR 60 ?_;simp(disch:=omega) [q1,q2,hfi,isKey,bU,cz];refine .aF ?_;simp;refine .jz (h.length+4) (by simp;rfl) (by simp) (by simp) (by simp[hbw]) ?_;simp at hh⊢;exact hh
  |none=>
   rw[hfe]at hfi;have hh:=ih (i+1) (by omega) (es++[(g.ands[i],2*(g.first+i))]);have hput:=EE (v:=.int .i64 (2*((g.first:Int)+i))) hfe;refine .aR 60 ?_;simp[q1,q2,hfi,isKey,bU,cz];refine .nB 60 ?_;simp[q1,q2];refine .call (by simp) hf ?_;simp(disch:=omega) [hput,isKey,bU,cz];refine .aF ?_;simp;refine .jz (h.length+4) (by simp;rfl) (by simp) (by simp) (by simp[hbw,Km]) ?_;simp[hfe]at hh⊢;exact hh
set_option maxRecDepth 8000 in
theorem adk(g:Gr)(ok:g.Ok)(hfew:g.ands.length<2^40)(h:List Ob)(hw:QK h):∀up,AM.Reach Tryz.prog Γ (.cl rC [eP g] up h)
 (.back up (.ptr (h.length+2) 0) (h++[cE g,.map (g.bg.map gy) true,GS g (h.length+3) g.ands.length (h.length+1) (.list true 0 []),.row 2 cP (g.ands.map df) none true false])):=by
 intro up;refine .bt 60 Ky ?_;simp;refine .jD 60 (by simp) (JM (Γ:=Γ) g.ands g.ha hfew) ?_;simp;refine .inLoop ?_;have hh:=ab5 (Γ:=Γ) g ok h hw up g.ands.length 0 (by omega) [];simp at hh⊢;exact hh
abbrev Gr.jl(g:Gr)(l:List (Int×Int)):Gr:={g with ands:=l,ka:=2,ha:=.self}
@[simp] theorem Gr.azU(g:Gr)(l:List (Int×Int)):(g.jl l).first=g.first:=rfl
@[simp] theorem aAl(a b:Nat):pD (.int .i64 (a:Int)) [.int .i64 (b:Int)]=some (.int .i64 ((max a b:Nat):Int)):=by
 simp only[pD,cy];congr 2;split<;>omega
@[simp] theorem aAA(a b:Nat):lO (.int .i64 (a:Int)) [.int .i64 (b:Int)]=some (.int .i64 ((min a b:Nat):Int)):=by
 simp only[lO,cy];congr 2;split<;>omega
abbrev xX(g:Gr)(x1 x2 x4:AV)(r n m:Nat)(come:AV):Ob:=.cells [.int .i64 g.ins,x1,x2,.sl r 0 n,x4,.mp m,come]
section
set_option maxRecDepth 8000 in
theorem O9(a b c:Nat)(ha:a<2^20)(hb:b<2^20)(hk:kY (max a b) (min a b)=some c)(pb:AV)(h:List Ob):∀up,AM.Reach Tryz.prog Γ (.cl p6 [pb,.int .i64 a,.int .i64 b] up h) (.back up (.int .i64 c) h):=by
 intro up
 have hle:min a b<=max a b:=by omega
 have hM:max a b<2^20:=by omega
 generalize hM':max a b=M at*;generalize hm':min a b=m at*;refine .bt 60 DQ ?_;unfold kY at hk;have hx:=oV M
 by_cases c1:m=0
 ·subst c1;simp at hk;subst hk;simp[hM',hm']
 ·by_cases c2:M^^^1=m
  ·rw[if_pos (Or.inr c2)]at hk
   cases hk
   have c3:((M^^^1:Nat):Int)=m:=by omega
   simp(disch:=omega) [hM',hm',c1,c3,c2]
  ·rw[if_neg (by simp[c1,c2])]at hk
   have c3:¬((M^^^1:Nat):Int)=m:=by omega
   by_cases c4:m=1
   ·rw[if_pos (Or.inl c4)]at hk
    cases hk
    have c5:((m:Int)=1)=True:=bP (by omega);simp(disch:=omega) [hM',hm',c1,c3,c2,c5]
   ·by_cases c6:M=m
    ·rw[if_pos (Or.inr c6)]at hk
     cases hk
     subst c6;have c5:((c:Int)=1)=False:=ie (by omega);simp(disch:=omega) [hM',hm',c1,c3,c2,c5]
    ·rw[if_neg (by simp[c4,c6])]at hk
     cases hk
end
section
variable{p q:List Ob}{x1 x2 x4 come:AV}
theorem LJ{p q:Nat}(h:kY p q=none):q≠0/\p^^^1≠q/\q≠1/\p≠q:=by
 unfold kY at h
 split at h
 ·cases h
 ·split at h
  ·cases h
  ·omega
set_option maxRecDepth 8000 in
theorem O_(g:Gr)(hi:0<=g.ins/\g.ins<=4000)(hn:g.next.length<=4000)(l:List (Int×Int))(hl:l.length<2^20)(es:List ((Int×Int)×Nat))(he:jM g.first l es)(a b:Nat)(ha:a<2^20)(hb:b<2^20)(hk:kY (max a b) (min a b)=none)
 (hx1:∀s,view (p++s) x1=some (.list false g.kn (g.next.map i64)))(hx2:∀s,view (p++s) x2=some (.list false g.ki (g.init.map i64)))(hx4:∀s,view (p++s) x4=some (.list false g.ko (g.outs.map i64))):
 ∀up,AM.Reach Tryz.prog Γ (.cl p6 [.ptr (p.length+1) 0,.int .i64 a,.int .i64 b] up (p++.map (es.map gy) true::xX g x1 x2 x4 (p.length+2) l.length p.length come::.row 2 cP (l.map df) none true false::q))
  (match fS (((max a b:Nat):Int),((min a b:Nat):Int)) es with
   |some c=>.back up (.int .i64 c) (p++.map (es.map gy) true::xX g x1 x2 x4 (p.length+2) l.length p.length come::.row 2 cP (l.map df) none true false::(q++[.cells [.int .i64 ((max a b:Nat):Int),.int .i64 ((min a b:Nat):Int)]]))
   |none=>.back up (.int .i64 (2*(g.first+l.length):Nat)) (p++.map ((es++[((((max a b:Nat):Int),((min a b:Nat):Int)),2*(g.first+l.length))]).map gy) true::xX g x1 x2 x4 (p.length+2) (l.length+1) p.length come::
    .row 2 cP ((l++[(((max a b:Nat):Int),((min a b:Nat):Int))]).map df) (some 0) true false::(q++[.cells [.int .i64 ((max a b:Nat):Int),.int .i64 ((min a b:Nat):Int)]]))):=by
 intro up;obtain⟨k1,k2,k3,k4⟩:=LJ hk
 have hle:min a b<=max a b:=by omega
 have hM:max a b<2^20:=by omega
 generalize hM':max a b=M at*;generalize hm':min a b=m at*;have hx:=oV M
 have c3:¬((M^^^1:Nat):Int)=m:=by omega
 have hfe:=Ea ((M:Int),(m:Int)) es;have c5:((m:Int)=1)=False:=ie (by omega);have c7:((M:Int)=m)=False:=ie (by omega)
 cases hf:fS ((M:Int),(m:Int)) es with
 |some c=>
  rw[hf]at hfe;have hfe:ez (.ja [.int,.int]) (.agg [.int .i64 M,.int .i64 m]) (es.map gy)=some (some (.int .i64 (c:Int))):=hfe;simp only;refine .bt 60 DQ ?_;simp(disch:=omega) [hM',hm',k1,k2,k3,k4,c3,c5,c7,isKey,bU,cz,hfe];refine .aR 60 ?_;simp[isKey,bU,cz,hfe]
 |none=>
  rw[hf]at hfe;simp only;refine .bt 60 DQ ?_;have hfe:ez (.ja [.int,.int]) (.agg [.int .i64 M,.int .i64 m]) (es.map gy)=some none:=hfe;simp(disch:=omega) [hM',hm',k1,k2,k3,k4,c3,c5,c7,isKey,bU,cz,hfe];refine .aR 60 ?_;simp[isKey,bU,cz,hfe];have hf1:=p_ (Γ:=Γ) (g.jl l) hi.1 hi.2 hn
  have hfb:g.first<=8001:=by unfold Gr.first;omega
  have hput:=EE (v:=.int .i64 (2*((g.first:Int)+l.length))) hf;refine .nB 60 ?_;simp;refine .call (by simp[hx1,hx2,hx4]) hf1 ?_;simp(disch:=omega);refine .nB 60 ?_;simp(disch:=(first|omega|(simp;omega))) [isKey,bU,cz,hput];simp[gy]
end
def fD:Gr:=⟨0,[],[],[],[],0,0,0,0,.nil,.nil,.nil,.nil⟩
def Gr.k5(g:Gr)(a b:Int):Int:=if g.check≠0 then g.check else if eh g.lits a=true\/eh g.lits b=true then 1 else if 4000<g.ins+g.next.length+(bN g.first g.ands a.toNat b.toNat).1.length then 8 else 0
def Gr.eE(g:Gr)(a b:Int):Gr:=if g.k5 a b=0 then g.jl (bN g.first g.ands a.toNat b.toNat).1 else fD
def Gr.fB(g:Gr)(a b:Int):Nat:=if g.k5 a b=0 then(bN g.first g.ands a.toNat b.toNat).2 else 0
theorem A_(first:Nat)(l:List (Int×Int))(a b:Nat):(bN first l a b).1.length<=l.length+1:=by
 unfold bN
 split
 ·simp
 ·split<;>simp
theorem L1{first:Nat}{l:List (Int×Int)}{es:List ((Int×Int)×Nat)}(h:jM first l es){a b:Nat}(hk:kY (max a b) (min a b)=none):
 bN first l a b=match fS (((max a b:Nat):Int),((min a b:Nat):Int)) es with
  |some c=>(l,c)
  |none=>(l++[(((max a b:Nat):Int),((min a b:Nat):Int))],2*(first+l.length)):=by
 unfold bN;rw[hk,h]
 cases gv (((max a b:Nat):Int),((min a b:Nat):Int)) l 0<;>rfl
theorem ua{g:Gr}(ok:g.Ok)(l:List (Int×Int))(h1:g.ands.length<=l.length):((g.jl l).check=8)↔4000<g.ins+g.next.length+l.length:=by
 have o1:=ok.ins;have o2:=ok.lM;unfold Gr.check Gr.lV;simp only[Gr.jl]
 by_cases h:4000<g.ins+g.next.length+(l.length:Int)
 ·simp[h]
 ·have h2:(decide (g.ins<0)||decide (4000<g.ins)||decide (4000<g.ins+↑g.next.length+↑l.length)||decide (4000<g.outs.length))=false:=by simp;omega
  rw[if_neg (by rw[h2];simp)];simp only[h,iff_false]
  split<;>omega
theorem WX(g:Gr):aM Tryz.prog Γ lu [eP g] (.int .i64 (IntKind.i64.wrap (IntKind.i64.wrap (1+g.ins)+g.next.length))):=by
 refine .run 60 Kn (by simp) ?_;simp;exact .back (by simp)
theorem OT{g:Gr}{a:Int}(h:eh g.lits a=false):0<=a/\a.toNat<g.lits/\(a.toNat:Int)=a:=by
 simp[eh]at h;omega
set_option maxRecDepth 8000 in
theorem aap(g:Gr)(hf:g.iy)(a b:Int):aM Tryz.prog Γ Az [eP g,.int .i64 a,.int .i64 b] (.aB [eP (g.eE a b),.int .i64 (g.fB a b),.int .i64 (g.k5 a b)]):=by
 refine .run 60 aa0 (by simp) ?_;simp;refine .call 60 (by simp) (rB g hf) ?_;simp;refine .dr 60 ?_;simp;refine .call (by simp) (WX g) ?_
 by_cases hc:g.check=0
 ·have ok:=Gr.qv hc;have o1:=ok.ins;have o3:=ok.sum;have o4:=ok.lM
  have e1:IntKind.i64.wrap (IntKind.i64.wrap (1+g.ins)+g.next.length)=(g.first:Int):=by
   rw[wrap64 (n:=1+g.ins) (by omega) (by omega),wrap64 (by omega) (by omega)];unfold Gr.first;omega
  have hfb:g.first<=8001:=by unfold Gr.first;omega
  have hall:g.all<=12001:=by unfold Gr.all;omega
  have e2:(2*((g.first:Int)+g.ands.length))=(g.lits:Int):=by unfold Gr.lits Gr.all;omega
  rw[e1]
  by_cases h1:eh g.lits a=true\/eh g.lits b=true
  ·have k1:g.k5 a b=1:=by unfold Gr.k5;rw[if_neg (by simp[hc]),if_pos h1]
   have k2:g.eE a b=fD:=by unfold Gr.eE;rw[k1,if_neg (by omega)]
   have k3:g.fB a b=0:=by unfold Gr.fB;rw[k1,if_neg (by omega)]
   rw[k1,k2,k3];simp only[eh,fa,bj]at h1
   by_cases q1:a<0
   ·simp(disch:=omega) [hc,e2,q1,fD];exact .back (by simp)
   ·by_cases q2:b<0
    ·simp(disch:=omega) [hc,e2,q1,q2,fD];exact .back (by simp)
    ·by_cases q3:(g.lits:Int)<=a
     ·simp(disch:=omega) [hc,e2,q1,q2,q3,fD];exact .back (by simp)
     ·have q4:(g.lits:Int)<=b:=by omega
      simp(disch:=omega) [hc,e2,q1,q2,q3,q4,fD];exact .back (by simp)
  ·rw[not_or]at h1;obtain⟨a1,a2,a3⟩:=OT (Dz.2 h1.1);obtain⟨b1,b2,b3⟩:=OT (Dz.2 h1.2);have hlit:g.lits=2*g.all:=rfl;generalize hx:a.toNat=x at*;generalize hy:b.toNat=y at*;subst a3;subst b3
   have q1:¬((g.lits:Int)<=x):=by omega
   have q2:¬((g.lits:Int)<=y):=by omega
   simp(disch:=omega) [hc,e2,q1,q2];refine .aX 60 (adk g ok hf.2.2.1 _ (by intro m hm;simp at hm⊢;omega)) ?_;simp
   have hE0:g.k5 (x:Int) (y:Int)=if 4000<g.ins+g.next.length+(bN g.first g.ands x y).1.length then 8 else 0:=by
    unfold Gr.k5;rw[if_neg (by simp[hc]),if_neg (by rw[not_or];exact h1),gb,gb]
   cases hK:kY (max x y) (min x y)with
   |some c=>
    have hG:bN g.first g.ands x y=(g.ands,c):=by unfold bN;rw[hK]
    have hE:=hE0;rw[hG]at hE;refine .aX 60 (O9 x y c (by omega) (by omega) hK _ _) ?_;simp;refine .call 60 (by simp) (rB (Γ:=Γ) (g.jl g.ands) ⟨hf.1,hf.2.1,by first|exact hf.2.2.1|(simp;have:=hf.2.2.1;omega),hf.2.2.2⟩) ?_
    by_cases q8:(g.jl g.ands).check=8
    ·have k1:=hE;rw[if_pos ((ua ok g.ands (by simp)).1 q8)]at k1
     have k2:g.eE (x:Int) (y:Int)=fD:=by unfold Gr.eE;rw[k1,if_neg (by omega)]
     have k3:g.fB (x:Int) (y:Int)=0:=by unfold Gr.fB;rw[k1,if_neg (by omega)]
     rw[k1,k2,k3];simp[q8,fD];exact .back (by simp)
    ·have k1:=hE;rw[if_neg (fun hh=>q8 ((ua ok g.ands (by simp)).2 hh))]at k1
     have k2:g.eE (x:Int) (y:Int)=g.jl g.ands:=by unfold Gr.eE;rw[k1,if_pos rfl];simp[hG]
     have k3:(g.fB (x:Int) (y:Int):Int)=(bN g.first g.ands x y).2:=by unfold Gr.fB;rw[k1,if_pos rfl];simp
     rw[k1,k2,k3,hG];simp[q8];exact .back (by simp)
   |none=>
    have hG:=L1 g.On hK;have hE:=hE0
    have key:=O_ (Γ:=Γ) (p:=[cE g,.cells [.int .i64 0,.sl 2 0 0,.sl 3 0 0,.sl 4 0 0,.sl 5 0 0],.row 1 aq [] none true false,.row 1 aq [] none true false,.row 2 cP [] none true false,.row 1 aq [] none true false,cE g]) (q:=[])
     (x1:=.list false g.kn (g.next.map i64)) (x2:=.list false g.ki (g.init.map i64)) (x4:=.list false g.ko (g.outs.map i64)) (come:=.list true 0 []) g o1 (by omega) g.ands (by omega) g.bg g.On x y (by omega) (by omega) hK (fun s=>by simp) (fun s=>by simp) (fun s=>by simp)
    cases hF:fS (((max x y:Nat):Int),((min x y:Nat):Int)) g.bg with
    |some c=>
     rw[hF]at hG key;simp only at hG key;rw[hG]at hE;simp at key;refine .aX 60 key ?_;simp;refine .call 60 (by simp) (rB (Γ:=Γ) (g.jl g.ands) ⟨hf.1,hf.2.1,by first|exact hf.2.2.1|(simp;have:=hf.2.2.1;omega),hf.2.2.2⟩) ?_
     by_cases q8:(g.jl g.ands).check=8
     ·have k1:=hE;rw[if_pos ((ua ok g.ands (by simp)).1 q8)]at k1
      have k2:g.eE (x:Int) (y:Int)=fD:=by unfold Gr.eE;rw[k1,if_neg (by omega)]
      have k3:g.fB (x:Int) (y:Int)=0:=by unfold Gr.fB;rw[k1,if_neg (by omega)]
      rw[k1,k2,k3];simp[q8,fD];exact .back (by simp)
     ·have k1:=hE;rw[if_neg (fun hh=>q8 ((ua ok g.ands (by simp)).2 hh))]at k1
      have k2:g.eE (x:Int) (y:Int)=g.jl g.ands:=by unfold Gr.eE;rw[k1,if_pos rfl];simp[hG]
      have k3:(g.fB (x:Int) (y:Int):Int)=(bN g.first g.ands x y).2:=by unfold Gr.fB;rw[k1,if_pos rfl];simp
      rw[k1,k2,k3,hG];simp[q8];exact .back (by simp)
    |none=>
     rw[hF]at hG key;simp only at hG key;rw[hG]at hE;simp at key;refine .aX 60 key ?_;generalize hnew:(((max x y:Nat):Int),((min x y:Nat):Int))=new at*;simp;refine .call 60 (by simp;rw[bR (by simp)]) (rB (Γ:=Γ) (g.jl (g.ands++[new])) ⟨hf.1,hf.2.1,by first|exact hf.2.2.1|(simp;have:=hf.2.2.1;omega),hf.2.2.2⟩) ?_
     by_cases q8:(g.jl (g.ands++[new])).check=8
     ·have k1:=hE;rw[if_pos ((ua ok (g.ands++[new]) (by simp)).1 q8)]at k1
      have k2:g.eE (x:Int) (y:Int)=fD:=by unfold Gr.eE;rw[k1,if_neg (by omega)]
      have k3:g.fB (x:Int) (y:Int)=0:=by unfold Gr.fB;rw[k1,if_neg (by omega)]
      rw[k1,k2,k3];simp[q8,fD];exact .back (by simp)
     ·have k1:=hE;rw[if_neg (fun hh=>q8 ((ua ok (g.ands++[new]) (by simp)).2 hh))]at k1
      have k2:g.eE (x:Int) (y:Int)=g.jl (g.ands++[new]):=by unfold Gr.eE;rw[k1,if_pos rfl];simp[hG]
      have k3:(g.fB (x:Int) (y:Int):Int)=(bN g.first g.ands x y).2:=by unfold Gr.fB;rw[k1,if_pos rfl];simp
      rw[k1,k2,k3,hG];simp[q8];exact .back (by simp;rw[bR (by simp)])
 ·have h1:g.k5 a b=g.check:=by unfold Gr.k5;rw[if_pos hc]
  have h2:g.eE a b=fD:=by unfold Gr.eE;rw[h1,if_neg hc]
  have h3:g.fB a b=0:=by unfold Gr.fB;rw[h1,if_neg hc]
  simp[hc,h1,h2,h3,fD];exact .back (by simp)
theorem JS(l:List Int){k:Nat}(hk:Kd 1 k l)(hl:l.length<2^40):aM Tryz.prog Γ zF [.list false k (l.map i64)] (.own 1 aq (l.map i64)):=by
 refine .run 60 UQ (by simp) ?_
 cases l with
 |nil=>
  simp;refine .either 0 (by simp) (fun b=>?_)
  cases b
  ·refine .go 9 ?_;simp;refine .nT 2 1 aq rfl (by omega) ?_;refine .go 60 ?_;simp;exact .back (by simp)
  ·refine .go 60 ?_;simp;exact .back (by simp)
 |cons x xs=>
  have hk0:k=1:=by
   rcases hk with h|h
   ·exact h
   ·cases h
  subst hk0;simp at hl;simp(disch:=(first|omega|(simp;omega)));exact .back (by simp)
theorem PR{p q:List Ob}{x1 x2 x4 come:AV}(g:Gr)(hi:0<=g.ins/\g.ins<=4000)(hn:g.next.length<=4000)(l:List (Int×Int))(hl:l.length<2^20)(es:List ((Int×Int)×Nat))(he:jM g.first l es)(a b:Nat)(ha:a<2^20)(hb:b<2^20)
 (hx1:∀s,view (p++s) x1=some (.list false g.kn (g.next.map i64)))(hx2:∀s,view (p++s) x2=some (.list false g.ki (g.init.map i64)))(hx4:∀s,view (p++s) x4=some (.list false g.ko (g.outs.map i64))):
 ∃(es':List ((Int×Int)×Nat))(gr:Option Nat)(junk:List Ob),jM g.first (bN g.first l a b).1 es'/\(gr=none\/gr=some 0)/\(junk=[]\/∃x y:Int,junk=[.cells [.int .i64 x,.int .i64 y]])/\
 ∀up,AM.Reach Tryz.prog Γ (.cl p6 [.ptr (p.length+1) 0,.int .i64 a,.int .i64 b] up (p++.map (es.map gy) true::xX g x1 x2 x4 (p.length+2) l.length p.length come::.row 2 cP (l.map df) none true false::q))
  (.back up (.int .i64 ((bN g.first l a b).2:Nat)) (p++.map (es'.map gy) true::xX g x1 x2 x4 (p.length+2) (bN g.first l a b).1.length p.length come::.row 2 cP ((bN g.first l a b).1.map df) gr true false::(q++junk))):=by
 cases hK:kY (max a b) (min a b)with
 |some c=>
  have hG:bN g.first l a b=(l,c):=by unfold bN;rw[hK]
  rw[hG];exact⟨es,none,[],he,.inl rfl,.inl rfl,fun up=>by rw[eS];exact O9 a b c ha hb hK _ _ up⟩
 |none=>
  have hG:=L1 he hK;have key:=O_ (Γ:=Γ) (p:=p) (q:=q) (come:=come) g hi hn l hl es he a b ha hb hK hx1 hx2 hx4
  cases hF:fS (((max a b:Nat):Int),((min a b:Nat):Int)) es with
  |some c=>
   rw[hF]at hG key;simp only at hG key;rw[hG];exact⟨es,none,_,he,.inl rfl,.inr ⟨((max a b:Nat):Int),((min a b:Nat):Int),rfl⟩,key⟩
  |none=>
   rw[hF]at hG key;simp only at hG key;rw[hG];refine⟨_,some 0,_,MU he hF,.inr rfl,.inr ⟨((max a b:Nat):Int),((min a b:Nat):Int),rfl⟩,fun up=>?_⟩;have:=key up;simp only[bQ,bW,du,iS];exact this
theorem Ga{x a:Nat}(hx:(x:Int)<2^60):gA .xor .i64 (x:Int) ((a%2:Nat):Int)=some ((x^^^(a%2):Nat):Int):=by
 rcases(show a%2=0\/a%2=1 by omega)with h|h
 ·rw[h,DA]
  have h1:(BitVec.ofInt 64 (x:Int)^^^BitVec.ofInt 64 ((0:Nat):Int)).toNat=x:=by
   have e1:BitVec.ofInt 64 ((0:Nat):Int)=0#64:=by decide
   rw[e1,BitVec.xor_zero,TX];omega
  show some (IntKind.i64.wrap ((BitVec.ofInt 64 (x:Int)^^^BitVec.ofInt 64 ((0:Nat):Int)).toNat:Int))=_
  rw[h1,BZ (by omega)]
 ·rw[h];exact ag7 x hx
def bE(to:List Nat)(a:Nat):Nat:=to.getD (a/2) 0^^^(a%2)
def eB(to:List Nat)(l:List Int):List Nat:=l.map fun a=>bE to a.toNat
@[simp] theorem aAk(to:List Nat)(l:List Int):(eB to l).length=l.length:=by simp[eB]
theorem Mj{to:List Nat}{l:List Int}{i:Nat}(h:i<l.length):eB to (l.take (i+1))=eB to (l.take i)++[bE to l[i].toNat]:=by
 rw[gG h];simp only[eB,iT,cd,lp]
section
variable{c0 c1 c2 c3 c4 c5:AV}
theorem uE(to:List Nat)(hto:∀x∈to,x<2^40)(a:Nat)(h1:a/2<to.length)(ha:(a:Int)<2^60)(b r:Nat){E:TypeId}{gr:Option Nat}{fl sh:Bool}{h:List Ob}(hb:h[b]? =some (.cells [c0,c1,c2,c3,c4,c5,.sl r 0 to.length]))(hr:h[r]? =some (.row 1 E (to.map iN) gr fl sh))(hok:cH (to.map iN) gr 0 to.length=true):
 ∀up,AM.Reach Tryz.prog Γ (.cl nM [.ptr b 0,.int .i64 a] up h) (.back up (.int .i64 (bE to a)) h):=by
 intro up
 have h3:((a/2:Nat):Int)<to.length:=by omega
 have h4:=hto _ (bx h1)
 have h5:to.getD (a/2) 0=to[a/2]:=by rw[bp,bm h1];rfl
 have h6:=Ga (x:=to[a/2]) (a:=a) (by omega);refine .bt 60 Vm ?_;unfold bE;rw[h5];simp(disch:=omega) [-Int.natCast_ediv,-Int.natCast_emod,-cH,hok,hb,hr,h1,h3,h6]
end
set_option maxRecDepth 8000 in
theorem PM(to:List Nat)(hto:∀x∈to,x<2^40)(l:List Int){k:Nat}(hk:Kd 1 k l)(hl:l.length<2^40)(hlt:∀a∈l,0<=a/\a<2*to.length)(hbt:to.length<2^40){c0 c1 c2 c3 c4 c5:AV}(b r:Nat){E:TypeId}{h:List Ob}(hb:h[b]? =some (.cells [c0,c1,c2,c3,c4,c5,.sl r 0 to.length]))(hr:h[r]? =some (.row 1 E (to.map iN) none true false))
 (hv:∀m,cJ (h.length+1) m h=true):
 ∀up,AM.Reach Tryz.prog Γ (.cl rr [.ptr b 0,.list false k (l.map i64)] up h) (.back up (.sl (h.length+1) 0 l.length) (h++[.row 1 aq [] none true false,.row 1 aq ((eB to l).map iN) none true false])):=by
 intro up
 have hb':∀os,(h++os)[b]? =some (.cells [c0,c1,c2,c3,c4,c5,.sl r 0 to.length]):=fun os=>dL hb os
 have hr':∀os,(h++os)[r]? =some (.row 1 E (to.map iN) none true false):=fun os=>dL hr os
 have key:∀n j:Nat,j+n=l.length->∀w,w=eB to (l.take j)->AM.Reach Tryz.prog Γ (TG (.sl (h.length+1) 0 w.length) (.fn (.func nM) [.ptr b 0] []) (.list false k (l.map i64)) (.int .i64 l.length) (.int .i64 j)
  (h++[.row 1 aq [] none true false,.row 1 aq (w.map iN) none true false]) ⟨[],.norm,h.length,up⟩) (.back up (.sl (h.length+1) 0 l.length) (h++[.row 1 aq [] none true false,.row 1 aq ((eB to l).map iN) none true false])):=by
  intro n
  induction n with
  |zero=>
   intro j hj w hw
   have q1:¬j<l.length:=by omega
   rw[bR (by omega)]at hw;subst hw;refine .aR 60 ?_;simp[q1]
  |succ n ih=>
   intro j hj w hw
   have q1:j<l.length:=by omega
   have q2:=bP (hk.of q1);obtain⟨a1,a2⟩:=hlt l[j] (bx q1);obtain⟨x,hx⟩:=ky a1
   have hwl:w.length=j:=by rw[hw];simp;omega
   have hh:=ih (j+1) (by omega) _ rfl;rw[Mj q1,<-hw,hx]at hh;simp only[gb]at hh;have hc:=uE (Γ:=Γ) to hto x (by omega) (by omega) b r (hb' [.row 1 aq [] none true false,.row 1 aq (w.map iN) none true false]) (hr' _) (by simp);refine .aR 60 ?_;simp(disch:=omega) [q1,q2,hx];refine .aX 60 hc ?_;simp(disch:=(first|omega|(simp;omega))) [q1,q2];refine .aF ?_;simp;refine .lA (i:=h.length+1) (by simp;exact⟨rfl,rfl,rfl,rfl,rfl⟩) (by simp) (by simp) (by simp[hv]) ?_;simp at hh⊢;exact hh
 refine .bt 60 J1 ?_;simp;refine .inLoop ?_;have hh:=key l.length 0 (by omega) [] (by simp[eB]);simp at hh⊢;exact hh
set_option maxRecDepth 8000 in
theorem O6(to:List Nat)(hto:∀x∈to,x<2^40)(l:List Int)(hl:l.length<2^40)(hlt:∀a∈l,0<=a/\a<2*to.length)(hbt:to.length<2^40){c0 c1 c2 c3 c4 c5:AV}(b r qq:Nat){E E2:TypeId}{h:List Ob}(hb:h[b]? =some (.cells [c0,c1,c2,c3,c4,c5,.sl r 0 to.length]))(hr:h[r]? =some (.row 1 E (to.map iN) none true false))
 (hq:h[qq]? =some (.row 1 E2 (l.map i64) none true false))(hv:∀m,cJ (h.length+1) m h=true):
 ∀up,AM.Reach Tryz.prog Γ (.cl rr [.ptr b 0,.sl qq 0 l.length] up h) (.back up (.sl (h.length+1) 0 l.length) (h++[.row 1 aq [] none true false,.row 1 aq ((eB to l).map iN) none true false])):=by
 intro up
 have hb':∀os,(h++os)[b]? =some (.cells [c0,c1,c2,c3,c4,c5,.sl r 0 to.length]):=fun os=>dL hb os
 have hr':∀os,(h++os)[r]? =some (.row 1 E (to.map iN) none true false):=fun os=>dL hr os
 have hql:¬qq=h.length+1:=by have:=aZ hq;omega
 have hq':∀os,(h++os)[qq]? =some (.row 1 E2 (l.map i64) none true false):=fun os=>dL hq os
 have key:∀n j:Nat,j+n=l.length->∀w,w=eB to (l.take j)->AM.Reach Tryz.prog Γ (TG (.sl (h.length+1) 0 w.length) (.fn (.func nM) [.ptr b 0] []) (.sl qq 0 l.length) (.int .i64 l.length) (.int .i64 j)
  (h++[.row 1 aq [] none true false,.row 1 aq (w.map iN) none true false]) ⟨[],.norm,h.length,up⟩) (.back up (.sl (h.length+1) 0 l.length) (h++[.row 1 aq [] none true false,.row 1 aq ((eB to l).map iN) none true false])):=by
  intro n
  induction n with
  |zero=>
   intro j hj w hw
   have q1:¬j<l.length:=by omega
   rw[bR (by omega)]at hw;subst hw;refine .aR 60 ?_;simp[q1]
  |succ n ih=>
   intro j hj w hw
   have q1:j<l.length:=by omega
   obtain⟨a1,a2⟩:=hlt l[j] (bx q1);obtain⟨x,hx⟩:=ky a1
   have hwl:w.length=j:=by rw[hw];simp;omega
   have hh:=ih (j+1) (by omega) _ rfl;rw[Mj q1,<-hw,hx]at hh;simp only[gb]at hh;have hc:=uE (Γ:=Γ) to hto x (by omega) (by omega) b r (hb' [.row 1 aq [] none true false,.row 1 aq (w.map iN) none true false]) (hr' _) (by simp);refine .aR 60 ?_;simp(disch:=omega) [q1,hq',hx];refine .aX 60 hc ?_;simp(disch:=(first|omega|(simp;omega))) [q1,hq'];refine .aF ?_;simp;refine .lA (i:=h.length+1) (by simp;exact⟨rfl,rfl,rfl,rfl,rfl⟩) (by simp) (by simp[hql]) (by simp[hv]) ?_;simp at hh⊢;exact hh
 refine .bt 60 J1 ?_;simp;refine .inLoop ?_;have hh:=key l.length 0 (by omega) [] (by simp[eB]);simp at hh⊢;exact hh
abbrev pn(x:Nat×List Int):AV:=.list false x.1 (x.2.map i64)
def cC:List (Nat×List Int)->List Int
 |[]=>[]
 |x::xs=>x.2++cC xs
theorem Ku(a b:List (Nat×List Int)):cC (a++b)=cC a++cC b:=by
 induction a with
 |nil=>rfl
 |cons x a ih=>simp[cC,ih]
theorem LP(xs:List (Nat×List Int))(i:Nat)(h:i<xs.length):cC (xs.take (i+1))=cC (xs.take i)++xs[i].2:=by
 rw[gG h,Ku];simp[cC]
theorem Oo(xs:List (Nat×List Int))(i:Nat):(cC (xs.take i)).length<=(cC xs).length:=by
 conv=>rhs;rw[<-lZ i xs,Ku]
 simp
set_option maxRecDepth 8000 in
theorem UM(xs:List (Nat×List Int))(hk:∀x∈xs,Kd 1 x.1 x.2)(hn:xs.length<2^40)(hs:(cC xs).length<2^40)(hp:0<(cC xs).length):
 aM Tryz.prog Γ p5 [.list false 1 (xs.map pn)] (.own 1 aq ((cC xs).map i64)):=by
 refine .run 60 JP (by simp) ?_
 have key2:∀n i:Nat,i+n=xs.length->∀m:Nat,(cC (xs.take i)).length+m=(cC xs).length->
  aw Tryz.prog Γ (RQ (.sl 2 0 (cC (xs.take i)).length) (.list false 1 (xs.map pn)) (.int .i64 xs.length) (.int .i64 i) [.row 1 aq [] none true false,.row 1 aq [] none true false,.row 1 aq ((cC (xs.take i)).map i64++List.replicate m (AV.int .i64 0)) none true false])
   (.ret (.own 1 aq ((cC xs).map i64))):=by
  intro n
  induction n with
  |zero=>
   intro i hi m hm
   have q1:¬i<xs.length:=by omega
   have q2:xs.take i=xs:=bR (by omega);rw[q2]at hm⊢
   have hm0:m=0:=by omega
   subst hm0;refine .go 60 ?_;simp[q1];exact .back (by simp)
  |succ n ih=>
   intro i hi m hm
   have q1:i<xs.length:=by omega
   have q2:=LP xs i q1;have q3:=Oo xs (i+1);rw[q2,bQ]at q3;have q4:=hk xs[i] (bx q1);have q5:xs[i].1=1\/xs[i].2=[]:=q4;have hh:=ih (i+1) (by omega) (m-xs[i].2.length) (by rw[q2,bQ];omega);rw[q2]at hh
   have hd:(List.replicate m (AV.int .i64 0)).drop xs[i].2.length=List.replicate (m-xs[i].2.length) (AV.int .i64 0):=by simp
   refine .go 60 ?_
   by_cases q6:(cC (xs.take i)).length=(cC xs).length
   ·have q7:xs[i].2=[]:=ku.1 (by omega)
    have hm0:m=0:=by omega
    subst hm0;simp[q7]at hh;simp(disch:=(first|omega|(simp;omega))) [q1,q5,q7];refine .aF ?_;simp;exact hh
   ·simp(disch:=(first|omega|(simp;omega))) [q1,q5]
    by_cases q7:m=0
    ·omega
    ·have c1:¬(cC (List.take i xs)).length=(cC (List.take i xs)).length+m:=by omega
     have c2:(cC (List.take i xs)).length+xs[i].snd.length<=(cC (List.take i xs)).length+m:=by omega
     simp(disch:=(first|omega|(simp;omega))) [q1,q5,c1,c2,q7];refine .aF ?_;have mO:((cC (xs.take i)).map i64).drop ((cC (xs.take i)).length+xs[i].2.length)=[]:=br (by simp);simp[sP,hd,mO]at hh⊢;exact hh
 have key1:∀n i:Nat,i+n=xs.length->
  aw Tryz.prog Γ (SI (.list false 1 (xs.map pn)) (.int .i64 (cC (xs.take i)).length) (.list false 1 (xs.map pn)) (.int .i64 xs.length) (.int .i64 i) [.row 1 aq [] none true false])
   (.ret (.own 1 aq ((cC xs).map i64))):=by
  intro n
  induction n with
  |zero=>
   intro i hi
   have q1:¬i<xs.length:=by omega
   have q2:xs.take i=xs:=bR (by omega);have q3:0<(cC xs).length:=hp;have hh:=key2 xs.length 0 (by omega) (cC xs).length (by simp[cC]);refine .go 60 ?_;rw[q2];simp[q1];refine .enter 60 JU ?_
   have q4:¬(cC xs).length=0:=by omega
   have q5:cC xs≠[]:=fun e=>by rw[e]at hp;simp at hp
   obtain⟨m,hm⟩:∃m,(cC xs).length=m+1:=⟨(cC xs).length-1,by omega⟩
   have hrep:List.replicate (cC xs).length (AV.int .i64 0)=(AV.int .i64 0)::List.replicate m (AV.int .i64 0):=by rw[hm];rfl
   simp(disch:=(first|omega|(simp;omega))) [q3,q4,q5,hrep];refine .inLoop ?_;simp[cC,hrep]at hh⊢;exact hh
  |succ n ih=>
   intro i hi
   have q1:i<xs.length:=by omega
   have q2:=LP xs i q1;have q3:=Oo xs (i+1);rw[q2,bQ]at q3;have hh:=ih (i+1) (by omega);rw[q2]at hh;refine .go 60 ?_
   have q4:¬((cC (xs.take i)).length:Int)+xs[i].2.length<0:=by omega
   simp(disch:=(first|omega|(simp;omega))) [q1,q4];refine .aF ?_;simp at hh⊢;exact hh
 simp;refine .inLoop ?_;have hh:=key1 xs.length 0 (by omega);simp[cC]at hh⊢;exact hh
set_option maxRecDepth 8000 in
theorem Uw(xs:List (Nat×List Int))(hx:∀x∈xs,x.2=[])(hn:xs.length<2^40):
 aM Tryz.prog Γ p5 [.list false 1 (xs.map pn)] (.own 1 aq []):=by
 refine .run 60 JP (by simp) ?_
 have key2:∀n i:Nat,i+n=xs.length->aw Tryz.prog Γ (RQ (.list true 0 []) (.list false 1 (xs.map pn)) (.int .i64 xs.length) (.int .i64 i) [.row 1 aq [] none true false,.row 1 aq [] none true false])
  (.ret (.own 1 aq [])):=by
  intro n
  induction n with
  |zero=>
   intro i hi
   have q1:¬i<xs.length:=by omega
   refine .nT 6 1 aq rfl (by omega) ?_;refine .go 60 ?_;simp[q1];exact .back (by simp)
  |succ n ih=>
   intro i hi
   have q1:i<xs.length:=by omega
   have q7:=hx xs[i] (bx q1);have hh:=ih (i+1) (by omega);refine .go 60 ?_;simp(disch:=(first|omega|(simp;omega))) [q1,q7];refine .aF ?_;simp at hh⊢;exact hh
 have key:∀n i:Nat,i+n=xs.length->aw Tryz.prog Γ (SI (.list false 1 (xs.map pn)) (.int .i64 0) (.list false 1 (xs.map pn)) (.int .i64 xs.length) (.int .i64 i) [.row 1 aq [] none true false])
  (.ret (.own 1 aq [])):=by
  intro n
  induction n with
  |zero=>
   intro i hi
   have q1:¬i<xs.length:=by omega
   refine .go 60 ?_;simp[q1];refine .enter 60 JU ?_;simp;refine .inLoop ?_;have hh:=key2 xs.length 0 (by omega);simp at hh⊢;exact hh
  |succ n ih=>
   intro i hi
   have q1:i<xs.length:=by omega
   have q7:=hx xs[i] (bx q1);have hh:=ih (i+1) (by omega);refine .go 60 ?_;simp(disch:=(first|omega|(simp;omega))) [q1,q7];refine .aF ?_;simp at hh⊢;exact hh
 simp;refine .inLoop ?_;have hh:=key xs.length 0 (by omega);simp at hh⊢;exact hh
theorem UN(xs:List (Nat×List Int))(hk:∀x∈xs,Kd 1 x.1 x.2)(hn:xs.length<2^40)(hs:(cC xs).length<2^40):
 aM Tryz.prog Γ p5 [.list false 1 (xs.map pn)] (.own 1 aq ((cC xs).map i64)):=by
 rcases TV (cC xs).length with h|h
 ·have h0:cC xs=[]:=ku.1 h
  have hx:∀x∈xs,x.2=[]:=by
   clear hk hn hs h
   induction xs with
   |nil=>simp
   |cons y ys ih=>
    simp only[cC,JA]at h0;intro x hx
    rcases bw.1 hx with rfl|hx
    ·exact h0.1
    ·exact ih h0.2 x hx
  rw[h0];exact Uw xs hx hn
 ·exact UM xs hk hn hs h
def il:List Int->List Bool->List Bool
 |[],v=>v
 |a::l,v=>il l (v.set (a.toNat/2) true)
def iI(ands:List (Int×Int))(first:Nat):Nat->List Bool->List Bool
 |0,v=>v
 |i+1,v=>iI ands first i (if v.getD (first+i) false=true then(v.set ((ands.getD i (0,0)).1.toNat/2) true).set ((ands.getD i (0,0)).2.toNat/2) true else v)
def Gr.bl(g:Gr):List Bool:=iI g.ands g.first g.ands.length (il (g.next++g.outs) (List.replicate g.all false))
theorem wO:∀(l:List Int)(v:List Bool),(il l v).length=v.length
 |[],v=>rfl
 |a::l,v=>by rw[il,wO l,jn]
theorem LH(ands:List (Int×Int))(first:Nat):∀(i:Nat)(v:List Bool),(iI ands first i v).length=v.length
 |0,v=>rfl
 |i+1,v=>by rw[iI,LH ands first i];split<;>simp
theorem Kj:∀(a b:List Int)(v:List Bool),il (a++b) v=il b (il a v)
 |[],b,v=>rfl
 |x::a,b,v=>by rw[eR,il,il,Kj a b]
abbrev agY:List (List Nat):=[[0,1,2,3,4,5,6,7,8],[0,1,2,3,4,5,7,6,8],[0,1,2,3,4,7,5,6,8],[0,1,2,3,7,4,5,6,8],[0,1,2,7,3,4,5,6,8],[0,1,7,2,3,4,5,6,8],[0,2,1,3,4,5,6,7,8],[0,2,1,3,4,5,7,6,8],[0,2,1,3,4,7,5,6,8],[0,2,1,3,7,4,5,6,8],[0,2,1,7,3,4,5,6,8],[0,2,3,1,4,5,6,7,8],[0,2,3,1,4,5,7,6,8],[0,2,3,1,4,7,5,6,8],[0,2,3,1,7,4,5,6,8],[0,2,3,4,1,5,6,7,8],[0,2,3,4,1,5,7,6,8],[0,2,3,4,1,7,5,6,8],[0,2,3,4,7,1,5,6,8],[0,2,3,7,1,4,5,6,8],[0,2,3,7,4,1,5,6,8],[0,2,7,1,3,4,5,6,8],[0,2,7,3,1,4,5,6,8],[0,2,7,3,4,1,5,6,8],[0,7,1,2,3,4,5,6,8],[0,7,2,1,3,4,5,6,8],[0,7,2,3,1,4,5,6,8],[0,7,2,3,4,1,5,6,8],[2,0,1,3,4,5,6,7,8],[2,0,1,3,4,5,7,6,8],[2,0,1,3,4,7,5,6,8],[2,0,1,3,7,4,5,6,8],[2,0,1,7,3,4,5,6,8],[2,0,3,1,4,5,6,7,8],[2,0,3,1,4,5,7,6,8],[2,0,3,1,4,7,5,6,8],[2,0,3,1,7,4,5,6,8],[2,0,3,4,1,5,6,7,8],[2,0,3,4,1,5,7,6,8],[2,0,3,4,1,7,5,6,8],[2,0,3,4,7,1,5,6,8],[2,0,3,7,1,4,5,6,8],[2,0,3,7,4,1,5,6,8],[2,0,7,1,3,4,5,6,8],[2,0,7,3,1,4,5,6,8],[2,0,7,3,4,1,5,6,8],[2,3,0,1,4,5,6,7,8],[2,3,0,1,4,5,7,6,8],[2,3,0,1,4,7,5,6,8],[2,3,0,1,7,4,5,6,8],[2,3,0,4,1,5,6,7,8],[2,3,0,4,1,5,7,6,8],[2,3,0,4,1,7,5,6,8],[2,3,0,4,7,1,5,6,8],[2,3,0,7,1,4,5,6,8],[2,3,0,7,4,1,5,6,8],[2,3,4,0,1,5,6,7,8],[2,3,4,0,1,5,7,6,8],[2,3,4,0,1,7,5,6,8],[2,3,4,0,7,1,5,6,8],[2,3,4,7,0,1,5,6,8],[2,3,7,0,1,4,5,6,8],[2,3,7,0,4,1,5,6,8],[2,3,7,4,0,1,5,6,8],[2,7,0,1,3,4,5,6,8],[2,7,0,3,1,4,5,6,8],[2,7,0,3,4,1,5,6,8],[2,7,3,0,1,4,5,6,8],[2,7,3,0,4,1,5,6,8],[2,7,3,4,0,1,5,6,8],[7,0,1,2,3,4,5,6,8],[7,0,2,1,3,4,5,6,8],[7,0,2,3,1,4,5,6,8],[7,0,2,3,4,1,5,6,8],[7,2,0,1,3,4,5,6,8],[7,2,0,3,1,4,5,6,8],[7,2,0,3,4,1,5,6,8],[7,2,3,0,1,4,5,6,8],[7,2,3,0,4,1,5,6,8],[7,2,3,4,0,1,5,6,8]]
theorem adn:ff [[],[0],[],[2],[3],[1,4],[5,5],[],[7,6,1,0,1,2,3,4,5,6,7]] 9 []=agY:=by decide+kernel
abbrev xG(g:Gr):List Fr:=[⟨.run,rL,[.jv 6,.inBlock 0 [],.code (.seq (.ae Ii) .ret)],
 [eP g,.ptr 0 0,U,.ptr 2 0,U,U,U,U,U,U,U,U,eP g,.sl 1 0 g.all,.fn (.func oH) [] [.ptr 3 0,.ptr 4 0],U,U,U,U,U,U],[.mark 5],.norm,0⟩]
abbrev uS(g:Gr)(v:List Bool):List Ob:=[cE g,.row 1 aV (v.map .bool) none true false,.cells [.sl 1 0 g.all],cE g,.cells [.sl 1 0 g.all],.bA true,
 .loop .ready .none rL [U,U,U,.ptr 2 0,U,U,U,U,U,U,U,U,U,U,U,U,U,U,U,U,U] [15] (.ae Q1) R0,.cells [.cR 6]]
set_option maxRecDepth 8000 in
theorem afq(g:Gr)(ok:g.Ok)(L:List Int)(hL:∀a∈L,0<=a/\a<g.lits)(hl:L.length<2^40){o:Out}(v0:List Bool)(hv0:v0.length=g.all)
 (hc:aw Tryz.prog Γ (Hq (.ptr 3 0) (.ptr 4 0) (.ptr 7 0) (uS g (il L v0)++[.row 1 aq (L.map i64) none true false]) ⟨[],.norm,7,xG g⟩) o):
 ∀n i:Nat,i+n=L.length->∀v,v=il (L.take i) v0->aw Tryz.prog Γ (yyF (.ptr 3 0) (.ptr 4 0) (.ptr 7 0) (.sl 8 0 L.length) (.int .i64 L.length) (.int .i64 i) (uS g v++[.row 1 aq (L.map i64) none true false]) ⟨[],.norm,7,xG g⟩) o:=by
 intro n
 induction n with
 |zero=>
  intro i hi v hv;rw[bR (by omega)]at hv;subst hv
  have q1:¬i<L.length:=by omega
  refine .reach (.di 60 (c':=Hq (.ptr 3 0) (.ptr 4 0) (.ptr 7 0) (uS g (il L v0)++[.row 1 aq (L.map i64) none true false]) ⟨[],.norm,7,xG g⟩) ?_) hc;simp[q1];exact .exit rfl rfl
 |succ n ih=>
  intro i hi v hv
  have q1:i<L.length:=by omega
  obtain⟨b1,b2⟩:=hL L[i] (bx q1);obtain⟨x,hx⟩:=ky b1
  have hvl:v.length=g.all:=by rw[hv,wO,hv0]
  have hh:=ih (i+1) (by omega) (v.set (x/2) true) (by rw[gG q1,Kj,<-hv,il,il,hx];rfl);have e1:g.lits=2*g.all:=rfl;refine .go 60 ?_
  have q3:x/2<g.all:=by omega
  simp(disch:=omega) [q1,hx,j3,hvl,q3,-Int.natCast_ediv,-Int.natCast_emod];refine .aF ?_
  have e2:(v.map AV.bool).set (x/2) (.bool true)=(v.set (x/2) true).map AV.bool:=by rw[pX]
  rw[e2];simp[-List.map_set]at hh⊢;exact hh
abbrev afJ(g:Gr):List Fr:=⟨.run,oH,[.jv 11,.inBlock 2 []],[U,.ptr 3 0,.ptr 4 0,.ptr 7 0,U,U,U,U,U,U,U,U,U,U,U,U,U,U,U,U,U,U,U,U,
          .ptr 3 3,.list false g.ka (List.map df g.ands),.fn (.func vJ) [] [.ptr 9 0],U,U,U,U,U,U,U,U,U,U,U,U,U,U,U,U,U,U,U,U,U,U,U],[.mark 10],.norm,7⟩::xG g
abbrev agw(g:Gr)(v:List Bool)(rest:Ob):List Ob:=uS g v++[rest,.cells [.list false g.ka (List.map df g.ands)],.bA true,
 .loop .ready .none oH [U,.ptr 3 0,.ptr 4 0,.ptr 7 0,U,U,U,U,U,U,U,U,U,U,U,U,U,U,U,U,U,U,U,U,U,U,U,U,U,U,U,U,U,U,U,U,U,U,U,U,U,U,U,U,U,U,U,U,U,U] [27,28] IS Jj]
abbrev B0(g:Gr)(v:List Bool)(rest:Ob)(x y:Nat):List Ob:=uS g v++[rest,.cells [.list false g.ka (List.map df g.ands)],.bA true,
 .loop .busy .none oH [U,.ptr 3 0,.ptr 4 0,.ptr 7 0,U,U,U,U,U,U,U,U,U,U,U,U,U,U,U,U,U,U,U,U,U,U,U,U,U,U,U,U,U,U,U,U,U,U,U,U,U,U,U,U,U,U,U,U,U,U] [27,28] IS Jj,
 .cells [.int .i64 x,.int .i64 y]]
theorem Pd(g:Gr)(v:List Bool)(hv:v.length=g.all)(rest:Ob)(x y z:Nat)(hz:z/2<g.all)(hz2:(z:Int)<2^40):∀up,AM.Reach Tryz.prog Γ ((jj.yl 6).cfg [.int .i64 z] up (B0 g v rest x y)) (.back up (.bool true) (B0 g (v.set (z/2) true) rest x y)):=by
 intro up;simp;refine .aR 60 ?_;simp(disch:=omega) [hv,hz,-Int.natCast_ediv,-Int.natCast_emod,-Int.natCast_add]
set_option maxRecDepth 8000 in
theorem ae5(g:Gr)(ok:g.Ok)(L:List Int):∀i:Nat,i<=g.ands.length->∀v:List Bool,v.length=g.all->
 aw Tryz.prog Γ (yDI (.cR 11) (.ptr 9 0) (.int .i64 ((i:Int)-1)) (agw g v (.row 1 aq (L.map i64) none true false)) ⟨[],.norm,12,afJ g⟩) (.ret (.own 1 aV ((iI g.ands g.first i v).map .bool))):=by
 have o1:=ok.ins;have o3:=ok.sum;have hf:=p_ (Γ:=Γ) g o1.1 o1.2 (by omega);intro i
 induction i with
 |zero=>
  intro hi v hv;refine .go 60 ?_;simp;exact .back (by simp[iI,hv])
 |succ i ih=>
  intro hi v hv
  have q1:i<g.ands.length:=by omega
  have e0:((i+1:Nat):Int)-1=i:=by omega
  rw[e0];obtain⟨⟨b1,b2⟩,b3,b4⟩:=ok.ands i q1;obtain⟨x,hx⟩:=ky b1;obtain⟨y,hy⟩:=ky b3;have q2:=bP (g.ha.of q1);refine .go 60 ?_;simp(disch:=omega) [q1,q2,j3];refine .dr 60 ?_;simp(disch:=omega) [q1,q2];refine .call (by simp) hf ?_
  have e1:(g.first:Int)+i=((g.first+i:Nat):Int):=by omega
  have q3:g.first+i<v.length:=by rw[hv];unfold Gr.all;omega
  have q4:g.first+i<g.all:=by omega
  have hfb:g.first<=8001:=by unfold Gr.first;omega
  have q5:x/2<g.all:=by omega
  have q6:y/2<g.all:=by omega
  rw[iI,bp,bm q3,jU,bp,bm q1,jU,hx,hy];simp only[gb]
  by_cases hb:v[g.first+i]=true
  ·rw[if_pos hb];have hh:=ih (by omega) ((v.set (x/2) true).set (y/2) true) (by simp[hv]);simp(disch:=omega) [e1,q3,q4,hb,hv,hx,hy,q5,-Int.natCast_ediv,-Int.natCast_emod,-Int.natCast_add];have k1:=Pd (Γ:=Γ) g v hv (.row 1 aq (L.map i64) none true false) x y x q5 (by omega);have k2:=Pd (Γ:=Γ) g (v.set (x/2) true) (by simp[hv]) (.row 1 aq (L.map i64) none true false) x y y q6 (by omega);refine .go (.bool true) (B0 g (v.set (x/2) true) (.row 1 aq (L.map i64) none true false) x y) k1 ?_;simp(disch:=omega) [hb,hv,hx,hy,q5,q6,-List.map_set,-Int.natCast_ediv,-Int.natCast_emod,-Int.natCast_add];refine .go (.bool true) (B0 g ((v.set (x/2) true).set (y/2) true) (.row 1 aq (L.map i64) none true false) x y) k2 ?_;simp(disch:=omega) [hb,hv,hx,hy,q5,q6,-List.map_set,-Int.natCast_ediv,-Int.natCast_emod,-Int.natCast_add];refine .aF ?_;simp
   refine .drop 12 rfl (by simp) (by simp) (by simp) ?_;simp[e0]at hh⊢;exact hh
  ·rw[if_neg hb];have hh:=ih (by omega) v hv;simp(disch:=omega) [e1,q3,q4,hb,hv,-Int.natCast_add];refine .aF ?_;simp;refine .drop 12 rfl (by simp) (by simp) (by simp) ?_;simp[e0]at hh⊢;exact hh
set_option maxRecDepth 8000 in
theorem afy(g:Gr)(ok:g.Ok)(v0:List Bool)(hv0:v0.length=g.all)(L:List Int):aw Tryz.prog Γ (Hq (.ptr 3 0) (.ptr 4 0) (.ptr 7 0) (uS g v0++[.row 1 aq (L.map i64) none true false]) ⟨[],.norm,7,xG g⟩) (.ret (.own 1 aV ((iI g.ands g.first g.ands.length v0).map .bool))):=by
 have o3:=ok.sum;have o1:=ok.ins;refine .go 60 ?_;simp;refine .enter 60 Up ?_;simp;refine .enter 60 Uh ?_;simp(disch:=omega);refine .inLoop ?_;have hh:=ae5 (Γ:=Γ) g ok L g.ands.length (by omega) v0 hv0;simp at hh⊢;exact hh
set_option maxRecDepth 8000 in
theorem agi(g:Gr)(ok:g.Ok):aw Tryz.prog Γ (.fr ⟨.run,rL,[.ops [],.code (.seq (.seq (.ae Rf) (.block 0 [] Q7)) (.seq (.ae Ii) .ret))],
 [eP g,.ptr 0 0,U,.ptr 2 0,U,U,U,U,U,U,U,U,U,U,U,U,U,U,U,U,U],[],.norm,0⟩ [] [cE g,.row 1 aV (List.replicate g.all (.bool false)) none true false,.cells [.sl 1 0 g.all]]) (.ret (.own 1 aV (g.bl.map .bool))):=by
 have o1:=ok.ins;have o3:=ok.sum;refine .go 60 ?_;simp;refine .enter 60 WO ?_;simp;refine .enter 60 V3 ?_;simp
 have hcat:=UN (Γ:=Γ) [(g.kn,g.next),(g.ko,g.outs)] (by
  intro x hx;simp only[bw,p1,pP]at hx
  rcases hx with rfl|rfl
  ·exact g.hn
  ·exact g.ho) (by simp) (by simp[cC];have:=ok.lM;omega)
 simp[cC]at hcat;refine .call 60 (by simp) hcat ?_;simp;refine .inLoop ?_
 have hL:∀a∈g.next++g.outs,0<=a/\a<(g.lits:Int):=by
  intro a ha
  rcases bn.1 ha with ha|ha
  ·exact ok.next a ha
  ·exact ok.outs a ha
 have hh:=afq (Γ:=Γ) g ok (g.next++g.outs) hL (by simp;have:=ok.lM;omega) (List.replicate g.all false) (by simp)
  (afy g ok _ (by rw[wO];simp) _) (g.next++g.outs).length 0 (by omega) _ rfl
 simp[il]at hh⊢;exact hh
set_option maxRecDepth 20000 in
set_option maxHeartbeats 2000000 in
theorem ZG(g:Gr)(ok:g.Ok):aM Tryz.prog Γ rL [eP g] (.own 1 aV (g.bl.map .bool)):=by
 have o1:=ok.ins;have o3:=ok.sum;refine .run 60 aaB (by simp) ?_;simp;refine .ogO 60 ?_;simp only[bW,du,iS,Nat.reduceAdd,adn];have hf:=p_ (Γ:=Γ) g o1.1 o1.2 (by omega)
 have e1:(g.first:Int)+g.ands.length=(g.all:Int):=by unfold Gr.all;omega
 have hall:g.all<=12001:=by unfold Gr.all Gr.first;omega
 have hgen:=agi (Γ:=Γ) g ok;intro l hl;simp only[bw,p1,pP]at hl
 rcases hl with rfl|rfl|rfl|rfl|rfl|rfl|rfl|rfl|rfl|rfl|rfl|rfl|rfl|rfl|rfl|rfl|rfl|rfl|rfl|rfl|rfl|rfl|rfl|rfl|rfl|rfl|rfl|rfl|rfl|rfl|rfl|rfl|rfl|rfl|rfl|rfl|rfl|rfl|rfl|rfl|rfl|rfl|rfl|rfl|rfl|rfl|rfl|rfl|rfl|rfl|rfl|rfl|rfl|rfl|rfl|rfl|rfl|rfl|rfl|rfl|rfl|rfl|rfl|rfl|rfl|rfl|rfl|rfl|rfl|rfl|rfl|rfl|rfl|rfl|rfl|rfl|rfl|rfl|rfl|rfl
 all_goals
  simp;refine .xM 60 (by simp) hf ?_;simp(disch:=(first|omega|(simp;omega))) [e1];refine .lU [2,5,6,7,8,9,10,11] ?_;simp
  first
   |(refine .gc 1 [1,2] (by simp) (by decide) ?_;simp;exact hgen)
   |(refine .gc 1 [3,1] (by simp) (by decide) ?_;simp;exact hgen)
end Go.Proofs.YtihmomicdpkabaaGreatDoor
namespace Go.Proofs.YtihmomicdpkabaaGreatDoor
open Go.AM Go.Proofs
def ids(n:Nat):List Nat:=(List.range n).map (2*·)
@[simp] theorem OM(n:Nat):(ids n).length=n:=by simp[ids]
theorem ab4(n:Nat):ids (n+1)=ids n++[2*n]:=by simp[ids,List.range_succ]
def iH(first:Nat):List (Int×Int)->List (Int×Int)->List Nat->List (Int×Int)×List Nat
 |[],l,to=>(l,to)
 |p::ps,l,to=>iH first ps (bN first l (bE to p.1.toNat) (bE to p.2.toNat)).1 (to++[(bN first l (bE to p.1.toNat) (bE to p.2.toNat)).2])
def ef(first:Nat)(bl:List Bool):List (Int×Int)->Nat->List (Int×Int)->List Nat->List (Int×Int)×List Nat
 |[],_,l,to=>(l,to)
 |p::ps,i,l,to=>
  if bl.getD (first+i) false=true then ef first bl ps (i+1) (bN first l (bE to p.1.toNat) (bE to p.2.toNat)).1 (to++[(bN first l (bE to p.1.toNat) (bE to p.2.toNat)).2])
  else ef first bl ps (i+1) l (to++[0])
def Gr.dE(g:Gr)(r:List (Int×Int)×List Nat):Gr:=⟨g.ins,(eB r.2 g.next).map fun n:Nat=>(n:Int),g.init,r.1,(eB r.2 g.outs).map fun n:Nat=>(n:Int),1,1,2,1,.self,.self,.self,.self⟩
def Gr.gz(g:Gr):Gr:=g.dE (iH g.first g.ands [] (ids g.first))
def Gr.dO(x:Gr):Gr:=x.dE (ef x.first x.bl x.ands 0 [] (ids x.first))
def Gr.normal(g:Gr):Gr:=if g.check=0 then g.gz.dO else fD
structure mG(first:Nat)(l:List (Int×Int))(to:List Nat):Prop where
 lt:∀x∈to,x<2*(first+l.length)
theorem ur{first:Nat}{l:List (Int×Int)}{a b:Nat}(ha:a<2*(first+l.length))(hb:b<2*(first+l.length))(h1:1<=first):
 (bN first l a b).2<2*(first+(bN first l a b).1.length)/\l.length<=(bN first l a b).1.length:=by
 unfold bN
 split
 ·rename_i c hc;unfold kY at hc;refine⟨?_,aT _⟩;simp only
  split at hc
  ·cases hc;omega
  ·split at hc
   ·cases hc;omega
   ·cases hc
 ·split
  ·rename_i i hi;obtain⟨_,h2,_⟩:=ET hi;exact⟨by simp only;omega,aT _⟩
  ·exact⟨by simp only[bQ,bW,du];omega,by simp⟩
theorem ni{to:List Nat}{B a:Nat}(h:∀x∈to,x<2*B)(ha:a/2<to.length):bE to a<2*B:=by
 have h1:=h _ (bx ha);unfold bE;rw[bp,bm ha,jU]
 rcases(show a%2=0\/a%2=1 by omega)with h2|h2
 ·rw[h2,DA];exact h1
 ·rw[h2,oV];split<;>omega
theorem Oi(x:Gr):x.bl.length=x.all:=by unfold Gr.bl;rw[LH,wO,pW]
structure iK(first:Nat)(l:List (Int×Int)):Prop where
 at_:∀i(h:i<l.length),∃p q:Nat,l[i]=((p:Int),(q:Int))/\2<=q/\q<p/\p/2≠q/2/\p<2*(first+i)
 nd:l.Nodup
theorem Mg(first:Nat):iK first []:=⟨fun i h=>by simp at h,List.nodup_nil⟩
theorem iK.push{first:Nat}{l:List (Int×Int)}(h:iK first l){a b:Nat}(ha:a<2*(first+l.length))(hb:b<2*(first+l.length)):iK first (bN first l a b).1:=by
 unfold bN
 split
 ·exact h
 ·rename_i hk
  split
  ·exact h
  ·rename_i hi;obtain⟨k1,k2,k3,k4⟩:=LJ hk
   have hle:min a b<=max a b:=by omega
   have hx:=oV (max a b);refine⟨fun i hi2=>?_,?_⟩
   ·by_cases hil:i<l.length
    ·obtain⟨p,q,e,r⟩:=h.at_ i hil;exact⟨p,q,by simp only;rw[Jr hil];exact e,r⟩
    ·have e0:i=l.length:=by simp at hi2;omega
     subst e0;refine⟨max a b,min a b,by simp,by omega,by omega,?_,by omega⟩;intro hd;apply k2;rw[hx]
     split<;>omega
   ·rw[sY];refine⟨h.nd,by simp,?_⟩;intro x hx2 y hy he;subst he;simp at hy;subst hy;exact(E6.1 hi) hx2
theorem Ns(first:Nat)(h1:1<=first):∀(ps l:List (Int×Int))(to:List Nat),iK first l->mG first l to->(∀i(h:i<ps.length),ps[i].1.toNat/2<to.length+i/\ps[i].2.toNat/2<to.length+i)->
 iK first (iH first ps l to).1/\mG first (iH first ps l to).1 (iH first ps l to).2/\(iH first ps l to).2.length=to.length+ps.length/\(iH first ps l to).1.length<=l.length+ps.length
 |[],l,to,hl,ht,_=>⟨hl,ht,rfl,aT _⟩
 |p::ps,l,to,hl,ht,hp=>by
  have h0:=hp 0 (by simp);simp only[DB,ic]at h0;have ha:=ni ht.lt h0.1;have hb:=ni ht.lt h0.2;obtain⟨hlt,hge⟩:=ur ha hb h1
  have hlen:=A_ first l (bE to p.1.toNat) (bE to p.2.toNat)
  rw[iH]
  obtain⟨a1,a2,a3,a4⟩:=Ns first h1 ps (bN first l (bE to p.1.toNat) (bE to p.2.toNat)).1 (to++[(bN first l (bE to p.1.toNat) (bE to p.2.toNat)).2]) (hl.push ha hb) ⟨fun z hz=>by
   rcases bn.1 hz with hz|hz
   ·have:=ht.lt z hz;omega
   ·simp at hz;omega⟩ (fun i hi=>by
   have:=hp (i+1) (by simpa using hi);simp only[sX]at this
   simp;omega)
  refine⟨a1,a2,by rw[a3];simp;omega,by simp only[bW];omega⟩
theorem FA(first:Nat)(h1:1<=first)(bl:List Bool):∀(ps:List (Int×Int))(i:Nat)(l:List (Int×Int))(to:List Nat),iK first l->mG first l to->(∀i(h:i<ps.length),ps[i].1.toNat/2<to.length+i/\ps[i].2.toNat/2<to.length+i)->
 iK first (ef first bl ps i l to).1/\mG first (ef first bl ps i l to).1 (ef first bl ps i l to).2/\(ef first bl ps i l to).2.length=to.length+ps.length/\(ef first bl ps i l to).1.length<=l.length+ps.length
 |[],i,l,to,hl,ht,_=>⟨hl,ht,rfl,aT _⟩
 |p::ps,i,l,to,hl,ht,hp=>by
  have h0:=hp 0 (by simp);simp only[DB,ic]at h0;have ha:=ni ht.lt h0.1;have hb:=ni ht.lt h0.2;obtain⟨hlt,hge⟩:=ur ha hb h1
  have hlen:=A_ first l (bE to p.1.toNat) (bE to p.2.toNat)
  rw[ef]
  split
  ·obtain⟨a1,a2,a3,a4⟩:=FA first h1 bl ps (i+1) (bN first l (bE to p.1.toNat) (bE to p.2.toNat)).1 (to++[(bN first l (bE to p.1.toNat) (bE to p.2.toNat)).2]) (hl.push ha hb) ⟨fun z hz=>by
    rcases bn.1 hz with hz|hz
    ·have:=ht.lt z hz;omega
    ·simp at hz;omega⟩ (fun i hi=>by
    have:=hp (i+1) (by simpa using hi);simp only[sX]at this
    simp;omega)
   refine⟨a1,a2,by rw[a3];simp;omega,by simp only[bW];omega⟩
  ·obtain⟨a1,a2,a3,a4⟩:=FA first h1 bl ps (i+1) l (to++[0]) hl ⟨fun z hz=>by
    rcases bn.1 hz with hz|hz
    ·exact ht.lt z hz
    ·simp at hz;omega⟩ (fun i hi=>by
    have:=hp (i+1) (by simpa using hi);simp only[sX]at this
    simp;omega)
   refine⟨a1,a2,by rw[a3];simp;omega,by simp only[bW];omega⟩
theorem F1{g:Gr}(ok:g.Ok):∀i(h:i<g.ands.length),g.ands[i].1.toNat/2<(ids g.first).length+i/\g.ands[i].2.toNat/2<(ids g.first).length+i:=by
 intro i h;have:=ok.ands i h
 simp;omega
theorem BA(first:Nat):mG first [] (ids first):=⟨fun z hz=>by simp[ids]at hz;obtain⟨a,ha,rfl⟩:=hz;simp;omega⟩
theorem Pk{g:Gr}(ok:g.Ok){l:List (Int×Int)}{to:List Nat}(hl:iK g.first l)(ht:mG g.first l to)(h1:to.length=g.all)(h2:l.length<=g.ands.length):(g.dE (l,to)).Ok:=by
 have o1:=ok.ins;have o3:=ok.sum
 have hb:∀a:Int,0<=a->a<g.lits->bE to a.toNat<2*(g.first+l.length):=fun a h3 h4=>ni ht.lt (by have:g.lits=2*g.all:=rfl;omega)
 have hfst:(g.dE (l,to)).first=g.first:=by simp[Gr.first,Gr.dE]
 have hlits:(g.dE (l,to)).lits=2*(g.first+l.length):=by simp only[Gr.lits,Gr.all,hfst];rfl
 refine⟨o1,by simp[Gr.dE];omega,by simp[Gr.dE];exact ok.lM,by simp[Gr.dE];exact ok.same,ok.init,?_,?_,?_⟩
 ·intro a ha;rw[hlits];simp only[Gr.dE,cF,eB]at ha;obtain⟨n,⟨b,hb2,rfl⟩,rfl⟩:=ha;have h3:=ok.next b hb2;have:=hb b h3.1 h3.2;omega
 ·intro a ha;rw[hlits];simp only[Gr.dE,cF,eB]at ha;obtain⟨n,⟨b,hb2,rfl⟩,rfl⟩:=ha;have h3:=ok.outs b hb2;have:=hb b h3.1 h3.2;omega
 ·intro i hi;rw[hfst];obtain⟨p,q,e,r1,r2,r3,r4⟩:=hl.at_ i hi;have e2:(g.dE (l,to)).ands[i]=((p:Int),(q:Int)):=e;rw[e2];simp only;omega
theorem Bo{g:Gr}(ok:g.Ok):g.gz.Ok/\iK g.first g.gz.ands/\g.gz.ands.length<=g.ands.length:=by
 have o1:=ok.ins
 obtain⟨a1,a2,a3,a4⟩:=Ns g.first (by unfold Gr.first;omega) g.ands [] (ids g.first) (Mg _) (BA _) (F1 ok)
 refine⟨Pk ok a1 a2 (by rw[a3];simp[Gr.all]) (by simpa using a4),a1,?_⟩;rw[du,iS]at a4;exact a4
theorem Bu{g:Gr}(ok:g.Ok):g.dO.Ok/\iK g.first g.dO.ands/\g.dO.ands.length<=g.ands.length:=by
 have o1:=ok.ins
 obtain⟨a1,a2,a3,a4⟩:=FA g.first (by unfold Gr.first;omega) g.bl g.ands 0 [] (ids g.first) (Mg _) (BA _) (F1 ok)
 refine⟨Pk ok a1 a2 (by rw[a3];simp[Gr.all]) (by simpa using a4),a1,?_⟩;rw[du,iS]at a4;exact a4
end Go.Proofs.YtihmomicdpkabaaGreatDoor
namespace Go.Proofs.YtihmomicdpkabaaGreatDoor
open Go.AM Go.Proofs
variable{Γ:Nat->Option AV}
theorem Zh(a b c d:Int):cn (.ja [.int,.int]) (.agg [.int .i64 a,.int .i64 b]) (.agg [.int .i64 c,.int .i64 d])=some (decide ((a,b)=(c,d))):=Fe (a,b) (c,d)
theorem UD(a b:List (Int×Int)){ka kb:Nat}(ha:Kd 2 ka a)(hb:Kd 2 kb b)(hs:a.length<2^60):aM Tryz.prog Γ vL [.list false ka (a.map df),.list false kb (b.map df)] (.bool (decide (a=b))):=by
 refine .run 60 UA (by simp) ?_
 by_cases hl:a.length=b.length
 ·have key:∀n i:Nat,i+n=a.length->aw Tryz.prog Γ (ynb (.list false ka (a.map df)) (.list false kb (b.map df)) (.int .i64 a.length) (.int .i64 i) []) (.ret (.bool (decide (a.drop i=b.drop i)))):=by
   intro n
   induction n with
   |zero=>
    intro i hi;refine .go 60 ?_
    have h1:¬i<a.length:=by omega
    have h2:a.drop i=b.drop i:=by rw[br (by omega),br (by omega)]
    simp[h1,h2];exact .back (by simp)
   |succ n ih=>
    intro i hi
    have h1:i<a.length:=by omega
    have h2:i<b.length:=by omega
    obtain rfl:=ha.of h1;obtain rfl:=hb.of h2;have h4:=drop_eq h1 h2;have h5:=Zh a[i].1 a[i].2 b[i].1 b[i].2;refine .go 60 ?_
    by_cases h3:a[i]=b[i]
    ·have h6:((a[i].1,a[i].2)=(b[i].1,b[i].2))=True:=bP h3;have h7:(a[i]=b[i])=True:=bP h3;simp(disch:=omega) [h1,h2,h7,h4,h5,h6,-Prod.mk.injEq];refine .aF ?_;have hh:=ih (i+1) (by omega);simp at hh⊢;exact hh
    ·have h6:((a[i].1,a[i].2)=(b[i].1,b[i].2))=False:=ie h3;simp(disch:=omega) [h1,h2,h3,h4,h5,h6,-Prod.mk.injEq];exact .back (by simp)
  simp[hl];refine .inLoop ?_;have hh:=key a.length 0 (by omega);simp[hl]at hh⊢;exact hh
 ·have h2:¬a=b:=fun e=>hl (by rw[e])
  simp[hl,h2];exact .back (by simp)
def xv(a b:Gr):Bool:=decide (a.ins=b.ins)&&decide (a.next=b.next)&&decide (a.init=b.init)&&decide (a.ands=b.ands)&&decide (a.outs=b.outs)
theorem KQ(a b:Gr)(ha:a.iy):aM Tryz.prog Γ wE [eP a,eP b] (.bool (xv a b)):=by
 have f1:=ha.1;have f2:=ha.2.1;have f3:=ha.2.2.1;have f4:=ha.2.2.2
 refine .run 60 YR (by simp) ?_;unfold xv
 by_cases h1:a.ins=b.ins
 ·simp[h1];refine .call 60 (by simp) (DJ a.next b.next a.hn b.hn (by omega)) ?_
  by_cases h2:a.next=b.next
  ·have h2':=bP h2;simp[h2'];refine .call 60 (by simp) (DJ a.init b.init a.hi b.hi (by omega)) ?_
   by_cases h3:a.init=b.init
   ·have h3':=bP h3;simp[h3'];refine .call 60 (by simp) (UD a.ands b.ands a.ha b.ha (by omega)) ?_
    by_cases h4:a.ands=b.ands
    ·have h4':=bP h4;simp[h4'];refine .call 60 (by simp) (DJ a.outs b.outs a.ho b.ho (by omega)) ?_;simp;exact .back (by simp)
    ·simp[h4];exact .back (by simp)
   ·simp[h3];exact .back (by simp)
  ·simp[h2];exact .back (by simp)
 ·simp[h1];exact .back (by simp)
def Gr.Qi(g:Gr)(i:Nat):Bool:=
 decide ((g.ands.getD i (0,0)).1<=(g.ands.getD i (0,0)).2)||decide ((g.ands.getD i (0,0)).2<=1)||decide ((g.ands.getD i (0,0)).1.toNat/2=(g.ands.getD i (0,0)).2.toNat/2)||!g.bl.getD (g.first+i) false||decide (g.ands.getD i (0,0)∈g.ands.take i)
def Gr.strict(g:Gr):Bool:=decide (g.check=0)&&!bu g.Qi (List.range g.ands.length)
end Go.Proofs.YtihmomicdpkabaaGreatDoor
namespace Go.Proofs.YtihmomicdpkabaaGreatDoor
open Go.AM Go.Proofs
theorem abz{l:List (Int×Int)}{n:Nat}(h:∀i(hi:i<l.length),(0<=l[i].1/\l[i].1<2*(n+i))/\0<=l[i].2/\l[i].2<2*(n+i)):nj l n=false:=by
 induction l generalizing n with
 |nil=>rfl
 |cons p l ih=>
  have h0:=h 0 (by simp);simp only[DB]at h0;simp only[nj,jV,eh,jr];refine⟨by omega,ih fun i hi=>?_⟩;have:=h (i+1) (by simpa using hi);simp only[sX]at this;omega
theorem Gr.uc{g:Gr}(ok:g.Ok):g.check=0:=by
 obtain⟨h1,h2,h3,h4,h5,h6,h7,h8⟩:=ok;unfold Gr.check
 have e1:g.lV=false:=by simp[Gr.lV];omega
 have e2:bu sB g.init=false:=m9.2 fun a ha=>by have:=h5 a ha;simp[sB];omega
 have e3:bu (eh g.lits) g.next=false:=m9.2 fun a ha=>by have:=h6 a ha;simp[eh];omega
 have e4:bu (eh g.lits) g.outs=false:=m9.2 fun a ha=>by have:=h7 a ha;simp[eh];omega
 simp[e1,e2,e3,e4,h4,abz h8]
theorem Nc(first:Nat)(l:List (Int×Int))(a b:Nat):∃e,(bN first l a b).1=l++e:=by
 unfold bN
 split
 ·exact⟨[],by simp⟩
 ·split
  ·exact⟨[],by simp⟩
  ·exact⟨_,rfl⟩
theorem FD{v:List Bool}{a:Nat}(h:a/2<v.length)(e:List Bool):bG (v++e) a=bG v a:=by
 unfold bG;rw[bp,bp,cV h]
theorem E4:∀(l:List (Int×Int))(v:List Bool),∃e,bM l v=v++e
 |[],v=>⟨[],by simp[bM]⟩
 |p::ps,v=>by
  obtain⟨e,he⟩:=E4 ps (v++[bG v p.1.toNat&&bG v p.2.toNat]);exact⟨[bG v p.1.toNat&&bG v p.2.toNat]++e,by rw[bM,he,gf]⟩
theorem tY(l:List (Int×Int)){v:List Bool}{a:Nat}(h:a/2<v.length):bG (bM l v) a=bG v a:=by
 obtain⟨e,he⟩:=E4 l v;rw[he,FD h]
theorem Lv(w:List Bool)(x:Bool){n:Nat}(h:n=2*w.length):bG (w++[x]) n=x:=by
 subst h;unfold bG
 have e1:2*w.length/2=w.length:=by omega
 have e2:¬2*w.length%2=1:=by omega
 rw[e1,bp];simp[e2]
theorem EX{l:List (Int×Int)}{v:List Bool}{i:Nat}(hi:i<l.length)(h1:l[i].1.toNat/2<v.length+i)(h2:l[i].2.toNat/2<v.length+i):
 bG (bM l v) (2*(v.length+i))=(bG (bM l v) l[i].1.toNat&&bG (bM l v) l[i].2.toNat):=by
 have e:l=l.take i++(l[i]::l.drop (i+1)):=by rw[<-bL hi,lZ]
 have hl:(bM (l.take i) v).length=v.length+i:=by rw[rM,fI];omega
 have e2:bM l v=bM (l.drop (i+1)) (bM (l.take i) v++[bG (bM (l.take i) v) l[i].1.toNat&&bG (bM (l.take i) v) l[i].2.toNat]):=by
  conv=>lhs;rw[e,tx,bM]
 generalize bM (l.take i) v=w at*
 have s:∀c,c/2<w.length+1->bG (bM l v) c=bG (w++[bG w l[i].1.toNat&&bG w l[i].2.toNat]) c:=fun c hc=>by
  rw[e2];exact tY _ (by rw[bQ];exact hc)
 rw[s (2*(v.length+i)) (by omega),s l[i].1.toNat (by omega),s l[i].2.toNat (by omega),Lv _ _ (by omega),FD (by omega),FD (by omega)]
theorem A3{v:List Bool}{a:Nat}:bG v (a^^^1)=!bG v a:=by
 rw[oV];unfold bG
 split
 ·rename_i h
  have e1:(a+1)/2=a/2:=by omega
  have e2:(a+1)%2=1:=by omega
  rw[e1];simp[h,e2]
 ·rename_i h
  have e1:(a-1)/2=a/2:=by omega
  have e2:¬(a-1)%2=1:=by omega
  have e3:a%2=1:=by omega
  rw[e1];simp[e2,e3]
theorem abB{v:List Bool}(h:bG v 0=false):bG v 1=true:=by
 have:=A3 (v:=v) (a:=0)
 rw[h]at this;exact this
def oo(first:Nat)(l:List (Int×Int)):Prop:=∀i(h:i<l.length),(0<=l[i].1/\l[i].1<2*(first+i))/\0<=l[i].2/\l[i].2<2*(first+i)
theorem oo.push{first:Nat}{l:List (Int×Int)}(h:oo first l){p:Int×Int}(hp:(0<=p.1/\p.1<2*(first+l.length))/\0<=p.2/\p.2<2*(first+l.length)):oo first (l++[p]):=by
 intro i hi
 by_cases h2:i<l.length
 ·rw[Jr h2];exact h i h2
 ·have e:i=l.length:=by simp at hi;omega
  subst e;simp only[Dw (aT _),Dx,DB];omega
theorem oo.and{first:Nat}{l:List (Int×Int)}(h:oo first l){a b:Nat}(ha:a<2*(first+l.length))(hb:b<2*(first+l.length)):oo first (bN first l a b).1:=by
 unfold bN
 split
 ·exact h
 ·split
  ·exact h
  ·refine h.push ?_;have:=Nat.max_lt.2 ⟨ha,hb⟩
   have:min a b<=max a b:=by omega
   simp only;omega
theorem MK{first:Nat}{l:List (Int×Int)}{v:List Bool}(hv:v.length=first)(hz:bG v 0=false)(h1:1<=first)(wf:oo first l){a b:Nat}(ha:a<2*(first+l.length))(hb:b<2*(first+l.length)):
 bG (bM (bN first l a b).1 v) (bN first l a b).2=(bG (bM l v) a&&bG (bM l v) b):=by
 have hz2:bG (bM l v) 0=false:=by rw[tY _ (by omega)];exact hz
 have hM:max a b<2*(first+l.length):=Nat.max_lt.2 ⟨ha,hb⟩
 have hm:min a b<2*(first+l.length):=by omega
 have hL:(bM l v).length=first+l.length:=by rw[rM,hv]
 have key:(bG (bM l v) a&&bG (bM l v) b)=(bG (bM l v) (max a b)&&bG (bM l v) (min a b)):=by
  rcases Nat.le_total a b with h|h
  ·rw[Nat.max_eq_right h,qZ h,Bool.and_comm]
  ·rw[Nat.max_eq_left h,Nat.min_eq_right h]
 rw[key];unfold bN;generalize max a b=p at*;generalize min a b=q at*
 cases hk:kY p q with
 |some c=>
  simp only;unfold kY at hk
  split at hk
  ·rename_i h2
   cases hk
   rw[hz2]
   rcases h2 with rfl|rfl
   ·rw[hz2,Bool.and_false]
   ·rw[A3];cases bG (bM l v) p<;>rfl
  ·split at hk
   ·rename_i h2
    cases hk
    rcases h2 with rfl|rfl
    ·rw[abB hz2,oz]
    ·rw[mX]
   ·cases hk
 |none=>
  simp only
  cases hi:gv ((p:Int),(q:Int)) l 0 with
  |some i=>
   simp only;obtain⟨_,h2,h3⟩:=ET hi;simp only[Du]at h2 h3;have hw:=wf i h2;have:=EX (v:=v) h2 (by omega) (by omega);rw[hv,h3]at this;exact this
  |none=>
   simp only;rw[tx,bM,bM];rw[Lv _ _ (by omega)];rfl
theorem acf{first:Nat}{l:List (Int×Int)}{v:List Bool}(hv:v.length=first){a b c:Nat}(hc:c<2*(first+l.length)):bG (bM (bN first l a b).1 v) c=bG (bM l v) c:=by
 obtain⟨e,he⟩:=Nc first l a b
 rw[he,tx,tY _ (by rw[rM];omega)]
structure agn(g:Gr)(a b:Int):Prop where
 ok:g.Ok
 a1:0<=a/\a<g.lits
 b1:0<=b/\b<g.lits
 R:g.eE a b=g.jl (bN g.first g.ands a.toNat b.toNat).1
 C:g.fB a b=(bN g.first g.ands a.toNat b.toNat).2
 qS:(g.eE a b).Ok
 lt:g.fB a b<(g.eE a b).lits
 le:g.lits<=(g.eE a b).lits
theorem PH{g:Gr}{a b:Int}(h:g.k5 a b=0):agn g a b:=by
 have hR:g.eE a b=g.jl (bN g.first g.ands a.toNat b.toNat).1:=by unfold Gr.eE;rw[if_pos h]
 have hC:g.fB a b=(bN g.first g.ands a.toNat b.toNat).2:=by unfold Gr.fB;rw[if_pos h]
 unfold Gr.k5 at h
 split at h
 ·contradiction
 ·rename_i hc;have ok:=Gr.qv (Jp.1 hc)
  split at h
  ·cases h
  ·rename_i hl;rw[not_or]at hl;obtain⟨a1,a2⟩:=hl;simp[eh]at a1 a2
   split at h
   ·cases h
   ·rename_i hs;have hlits:g.lits=2*(g.first+g.ands.length):=rfl
    have ha:a.toNat<2*(g.first+g.ands.length):=by omega
    have hb:b.toNat<2*(g.first+g.ands.length):=by omega
    have h1:1<=g.first:=by unfold Gr.first;omega
    obtain⟨l1,l2⟩:=ur ha hb h1
    have wf:oo g.first (bN g.first g.ands a.toNat b.toNat).1:=oo.and ok.ands ha hb
    have hl2:(g.jl (bN g.first g.ands a.toNat b.toNat).1).lits=2*(g.first+(bN g.first g.ands a.toNat b.toNat).1.length):=rfl;refine⟨ok,by omega,by omega,hR,hC,?_,?_,?_⟩
    ·rw[hR];refine⟨ok.ins,by simp only;omega,ok.lM,ok.same,ok.init,fun x hx=>?_,fun x hx=>?_,wf⟩
     ·rw[hl2];have:=ok.next x hx;omega
     ·rw[hl2];have:=ok.outs x hx;omega
    ·rw[hC,hR,hl2];exact l1
    ·rw[hR,hl2,hlits];omega
end Go.Proofs.YtihmomicdpkabaaGreatDoor
namespace Go.Proofs.YtihmomicdpkabaaGreatDoor
open Go.AM Go.Proofs
variable{Γ:Nat->Option AV}
abbrev G1(p s:List Ob)(c0 c1 c2 c3 c4 c5:AV)(i:Nat):List Ob:=p++.cells [c0,c1,c2,c3,c4,c5,.sl (p.length+(s.length+1)) 0 i]::(s++[.row 1 aq ((ids i).map iN) none true false])
theorem O1(p s:List Ob)(c0 c1 c2 c3 c4 c5:AV)(f:Nat)(hf:f<2^20)(hp:∀m,cJ (p.length+(s.length+1)) m p=true)(hs:∀m,cJ (p.length+(s.length+1)) m s=true)
 (hc:∀m,c8 (p.length+(s.length+1)) m [c0,c1,c2,c3,c4,c5]=true)(base:Nat)(hb:base<=p.length+(s.length+1))(up:List Fr)(ds:List dt)(hds:ds=[]):
 ∀n i:Nat,i+n=f->AM.Reach Tryz.prog Γ (ypA (.ptr p.length 0) (.int .i64 f) (.int .i64 i) (G1 p s c0 c1 c2 c3 c4 c5 i) ⟨ds,.norm,base,up⟩)
  (ypB (.ptr p.length 0) (G1 p s c0 c1 c2 c3 c4 c5 f) ⟨ds,.norm,base,up⟩):=by
 subst hds;intro n
 induction n with
 |zero=>
  intro i hi
  obtain rfl:i=f:=by omega
  refine .di 60 ?_;simp;exact .exit rfl rfl
 |succ n ih=>
  intro i hi
  have q1:(i:Int)<f:=by omega
  have hh:=ih (i+1) (by omega);have h1:=hp (i+1);have h2:=hs (i+1);have h3:=hc (i+1);simp only[c8,av,oz]at h3;obtain⟨w0,w1,w2,w3,w4,w5⟩:=h3;refine .di 60 ?_;simp(disch:=(first|omega|(simp;omega))) [q1];refine .aF ?_;simp
  have e1:(List.map iN (ids i)++[AV.int .i64 (2*(i:Int))]).length=i+1:=by simp
  refine .lA (i:=p.length+(s.length+1)) (by simp;exact⟨rfl,rfl,rfl,rfl,rfl⟩) (by simpa using hb) (by simp) (by rw[e1];simp[h1,h2,w0,w1,w2,w3,w4,w5]) ?_;rw[G1,ab4]at hh;simp at hh⊢;exact hh
theorem NA(ins:Int)(x1 x2:AV)(h1:(∃f k l,x1=.list f k l)\/∃i o n,x1=.sl i o n)(h2:(∃f k l,x2=.list f k l)\/∃i o n,x2=.sl i o n)(h:List Ob):∀up,AM.Reach Tryz.prog Γ (.cl rC [.agg [.int .i64 ins,x1,x2,.list true 0 [],.list true 0 []]] up h)
 (.back up (.ptr (h.length+2) 0) (h++[.cells [.int .i64 ins,x1,x2,.list true 0 [],.list true 0 []],.map [] true,.cells [.int .i64 ins,x1,x2,.sl (h.length+3) 0 0,.list true 0 [],.mp (h.length+1),.list true 0 []],.row 2 cP [] none true false])):=by
 intro up;have hcl:=JM (Γ:=Γ) (k:=0) [] .nil (by simp)
 rcases h1 with⟨f1,k1,l1,rfl⟩|⟨i1,o1,n1,rfl⟩<;>rcases h2 with⟨f2,k2,l2,rfl⟩|⟨i2,o2,n2,rfl⟩
 all_goals
  refine .bt 60 Ky ?_;simp;refine .jD 60 (by simp) hcl ?_;simp;refine .inLoop ?_;refine .aR 60 ?_;simp
abbrev Qo(g:Gr):List Ob:=[cE g,.cells [.int .i64 0,.sl 2 0 0,.sl 3 0 0,.sl 4 0 0,.sl 5 0 0],.row 1 aq [] none true false,.row 1 aq [] none true false,.row 2 cP [] none true false,.row 1 aq [] none true false,
 cE g,.row 1 aq (g.init.map i64) none true false,.cells [.int .i64 g.ins,.list false g.kn (g.next.map i64),.sl 7 0 g.init.length,.list true 0 [],.list true 0 []]]
abbrev qG(g:Gr)(es:List ((Int×Int)×Nat))(l:List (Int×Int))(to:List Nat)(q:List Ob):List Ob:=
 Qo g++(.map (es.map gy) true::.cells [.int .i64 g.ins,.list false g.kn (g.next.map i64),.sl 7 0 g.init.length,.sl 11 0 l.length,.list true 0 [],.mp 9,.sl 12 0 to.length]::.row 2 cP (l.map df) none true false::.row 1 aq (to.map iN) none true false::q)
set_option maxRecDepth 8000 in
theorem ad3(g:Gr)(ok:g.Ok){o:Out}(l1:List (Int×Int))(to1:List Nat)(hfin:iH g.first g.ands [] (ids g.first)=(l1,to1))
 (hc:∀es,jM g.first l1 es->l1.length<=g.ands.length->to1.length=g.all->mG g.first l1 to1->aw Tryz.prog Γ (IV (.ptr 0 0) (.ptr 1 0) (.ptr 10 0) (qG g es l1 to1 [])) o):
 ∀n i:Nat,i+n=g.ands.length->∀es l to,jM g.first l es->l.length<=i->to.length=g.first+i->mG g.first l to->iH g.first (g.ands.drop i) l to=(l1,to1)->
  aw Tryz.prog Γ (yis (.ptr 0 0) (.ptr 1 0) (.ptr 10 0) (.list false g.ka (g.ands.map df)) (.int .i64 g.ands.length) (.int .i64 i) (qG g es l to [])) o:=by
 have o1:=ok.ins;have o3:=ok.sum;have o4:=ok.lM
 have hfb:g.first<=8001:=by unfold Gr.first;omega
 have hf1:1<=g.first:=by unfold Gr.first;omega
 intro n
 induction n with
 |zero=>
  intro i hi es l to he hl ht hok hS
  have q1:¬i<g.ands.length:=by omega
  rw[br (by omega)]at hS;simp only[iH,bT]at hS;obtain⟨rfl,rfl⟩:=hS;refine .reach (.di 60 (c':=IV (.ptr 0 0) (.ptr 1 0) (.ptr 10 0) (qG g es l to [])) ?_) (hc es he (by omega) (by unfold Gr.all;omega) hok);simp[q1];exact .exit rfl rfl
 |succ n ih=>
  intro i hi es l to he hl ht hok hS
  have q1:i<g.ands.length:=by omega
  have q2:=bP (g.ha.of q1);rw[bL q1,iH]at hS;obtain⟨⟨b1,b2⟩,b3,b4⟩:=ok.ands i q1;obtain⟨x,hx⟩:=ky b1;obtain⟨y,hy⟩:=ky b3;rw[hx,hy]at hS;simp only[gb]at hS
  have hx2:x/2<to.length:=by omega
  have hy2:y/2<to.length:=by omega
  have ha:=ni hok.lt hx2;have hb:=ni hok.lt hy2;obtain⟨hlt,hge⟩:=ur ha hb hf1
  have hto:∀z∈to,z<2^40:=fun z hz=>by have:=hok.lt z hz;omega
  have k1:=uE (Γ:=Γ) to hto x hx2 (by omega) 10 12 (h:=qG g es l to [.cells [.int .i64 x,.int .i64 y]]) rfl rfl (by simp);have k2:=uE (Γ:=Γ) to hto y hy2 (by omega) 10 12 (h:=qG g es l to [.cells [.int .i64 x,.int .i64 y]]) rfl rfl (by simp)
  have hgl:=A_ g.first l (bE to x) (bE to y)
  obtain⟨es',gr,junk,he',hgr,hjk,k3⟩:=PR (Γ:=Γ) (p:=Qo g) (q:=[.row 1 aq (to.map iN) none true false,.cells [.int .i64 x,.int .i64 y]]) (x1:=.list false g.kn (g.next.map i64)) (x2:=.sl 7 0 g.init.length) (x4:=.list true 0 []) (come:=.sl 12 0 to.length)
   ⟨g.ins,g.next,g.init,[],[],g.kn,1,2,0,g.hn,.self,.self,.nil⟩ o1 (by simp;omega) l (by omega) es he (bE to x) (bE to y) (by omega) (by omega) (fun s=>by simp) (fun s=>by simp) (fun s=>by simp)
  have hfe:(⟨g.ins,g.next,g.init,[],[],g.kn,1,2,0,g.hn,.self,.self,.nil⟩:Gr).first=g.first:=rfl
  rw[hfe]at k3 he'
  have hh:=ih (i+1) (by omega) es' (bN g.first l (bE to x) (bE to y)).1 (to++[(bN g.first l (bE to x) (bE to y)).2]) he' (by omega) (by simp;omega) ⟨fun z hz=>by
   rcases bn.1 hz with hz|hz
   ·have:=hok.lt z hz;omega
   ·simp at hz;omega⟩ hS
  generalize bN g.first l (bE to x) (bE to y)=r at*
  refine .go 60 ?_;simp[q1,q2];refine .dr 60 ?_;simp(disch:=omega) [hx,hy];refine .reach (by simp) k1 ?_;simp(disch:=omega) [hx,hy];refine .reach (by simp) k2 ?_;simp(disch:=omega) [hx,hy];refine .reach (by simp) k3 ?_
  rcases hjk with rfl|⟨jx,jy,rfl⟩
  ·simp(disch:=(first|omega|(simp;omega))) [hx,hy];refine .aF ?_;simp;refine .drop 13 rfl (by simp) (by simp) (by simp) ?_
   have e1:(to.map iN++[AV.int .i64 (r.2:Int)]).length=to.length+1:=by simp
   refine .mf (i:=11) rfl hgr (by simp) (by simp) (by simp) ?_;refine .mf (i:=12) rfl (.inr rfl) (by simp) (by simp) (by rw[e1];simp) ?_;simp at hh⊢;exact hh
  ·simp(disch:=(first|omega|(simp;omega))) [hx,hy];refine .aF ?_;simp;refine .drop 13 rfl (by simp) (by simp) (by simp) ?_
   have e1:(to.map iN++[AV.int .i64 (r.2:Int)]).length=to.length+1:=by simp
   refine .mf (i:=11) rfl hgr (by simp) (by simp) (by simp) ?_;refine .mf (i:=12) rfl (.inr rfl) (by simp) (by simp) (by rw[e1];simp) ?_;simp at hh⊢;exact hh
abbrev GB(x:Gr):List Ob:=
 [.cells [.int .i64 0,.sl 1 0 0,.sl 2 0 0,.sl 3 0 0,.sl 4 0 0],.row 1 aq [] none true false,.row 1 aq [] none true false,.row 2 cP [] none true false,.row 1 aq [] none true false,
  .cells [.int .i64 x.ins,.sl 6 0 x.next.length,.sl 7 0 x.init.length,.sl 8 0 x.ands.length,.sl 9 0 x.outs.length],.row 1 aq (x.next.map i64) none true false,.row 1 aq (x.init.map i64) none true false,.row 2 cP (x.ands.map df) none true false,.row 1 aq (x.outs.map i64) none true false,.row 1 aV (x.bl.map .bool) none true false]
abbrev GO(x:Gr):List Ob:=GB x++[.cells [.int .i64 x.ins,.sl 6 0 x.next.length,.sl 7 0 x.init.length,.sl 8 0 x.ands.length,.sl 9 0 x.outs.length],.row 1 aq (x.init.map i64) none true false,.cells [.int .i64 x.ins,.sl 6 0 x.next.length,.sl 12 0 x.init.length,.list true 0 [],.list true 0 []]]
abbrev sx(x:Gr)(es:List ((Int×Int)×Nat))(l:List (Int×Int))(to:List Nat)(q:List Ob):List Ob:=
 GO x++(.map (es.map gy) true::.cells [.int .i64 x.ins,.sl 6 0 x.next.length,.sl 12 0 x.init.length,.sl 16 0 l.length,.list true 0 [],.mp 14,.sl 17 0 to.length]::.row 2 cP (l.map df) none true false::.row 1 aq (to.map iN) none true false::q)
@[simp] theorem azV(to:List Nat)(l:List Int):(List.map iN (eB to l)).take l.length=List.map iN (eB to l):=by rw[bR];simp
set_option maxRecDepth 8000 in
theorem afu(x:Gr)(hstd:x.kn=1/\x.ki=1/\x.ka=2/\x.ko=1)(ok:x.Ok){o:Out}(l1:List (Int×Int))(to1:List Nat)
 (hc:∀es,jM x.first l1 es->l1.length<=x.ands.length->to1.length=x.all->mG x.first l1 to1->aw Tryz.prog Γ (Tv (.ptr 0 0) (.ptr 5 0) (.ptr 15 0) (sx x es l1 to1 [])) o):
 ∀n i:Nat,i+n=x.ands.length->∀es l to,jM x.first l es->l.length<=i->to.length=x.first+i->mG x.first l to->ef x.first x.bl (x.ands.drop i) i l to=(l1,to1)->
  aw Tryz.prog Γ (yip (.ptr 0 0) (.ptr 5 0) (.sl 10 0 x.all) (.ptr 15 0) (.sl 8 0 x.ands.length) (.int .i64 x.ands.length) (.int .i64 i) (sx x es l to [])) o:=by
 have o1:=ok.ins;have o3:=ok.sum;have o4:=ok.lM;obtain⟨s1,s2,s3,s4⟩:=hstd;have hfirst:=p_ (Γ:=Γ) x o1.1 o1.2 (by omega);rw[eP,s1,s2,s3,s4]at hfirst
 have hfb:x.first<=8001:=by unfold Gr.first;omega
 have hf1:1<=x.first:=by unfold Gr.first;omega
 have hll:=Oi x;intro n
 induction n with
 |zero=>
  intro i hi es l to he hl ht hok hS
  have q1:¬i<x.ands.length:=by omega
  rw[br (by omega)]at hS;simp only[ef,bT]at hS;obtain⟨rfl,rfl⟩:=hS;refine .reach (.di 60 (c':=Tv (.ptr 0 0) (.ptr 5 0) (.ptr 15 0) (sx x es l to [])) ?_) (hc es he (by omega) (by unfold Gr.all;omega) hok);simp[q1];exact .exit rfl rfl
 |succ n ih=>
  intro i hi es l to he hl ht hok hS
  have q1:i<x.ands.length:=by omega
  rw[bL q1,ef]at hS;obtain⟨⟨b1,b2⟩,b3,b4⟩:=ok.ands i q1;obtain⟨a,ha⟩:=ky b1;obtain⟨b,hb⟩:=ky b3;rw[ha,hb]at hS;simp only[gb]at hS
  have q3:x.first+i<x.all:=by unfold Gr.all;omega
  have e1:(x.first:Int)+i=((x.first+i:Nat):Int):=by omega
  rw[bp,bm (by omega),jU]at hS;refine .go 60 ?_;simp(disch:=omega) [q1];refine .call 60 (by simp) hfirst ?_
  by_cases hb0:x.bl[x.first+i]=true
  ·rw[if_pos hb0]at hS
   have hx2:a/2<to.length:=by omega
   have hy2:b/2<to.length:=by omega
   have hla:=ni hok.lt hx2;have hlb:=ni hok.lt hy2;obtain⟨hlt,hge⟩:=ur hla hlb hf1
   have hto:∀z∈to,z<2^40:=fun z hz=>by have:=hok.lt z hz;omega
   have k1:=uE (Γ:=Γ) to hto a hx2 (by omega) 15 17 (h:=sx x es l to [.cells [.int .i64 a,.int .i64 b]]) rfl rfl (by simp);have k2:=uE (Γ:=Γ) to hto b hy2 (by omega) 15 17 (h:=sx x es l to [.cells [.int .i64 a,.int .i64 b]]) rfl rfl (by simp)
   have hgl:=A_ x.first l (bE to a) (bE to b)
   obtain⟨es',gr,junk,he',hgr,hjk,k3⟩:=PR (Γ:=Γ) (p:=GO x) (q:=[.row 1 aq (to.map iN) none true false,.cells [.int .i64 a,.int .i64 b]]) (x1:=.sl 6 0 x.next.length) (x2:=.sl 12 0 x.init.length) (x4:=.list true 0 []) (come:=.sl 17 0 to.length)
    ⟨x.ins,x.next,x.init,[],[],1,1,2,0,.self,.self,.self,.nil⟩ o1 (by simp;omega) l (by omega) es he (bE to a) (bE to b) (by omega) (by omega) (fun s=>by simp) (fun s=>by simp) (fun s=>by simp)
   have hfe:(⟨x.ins,x.next,x.init,[],[],1,1,2,0,.self,.self,.self,.nil⟩:Gr).first=x.first:=rfl
   rw[hfe]at k3 he'
   have hh:=ih (i+1) (by omega) es' (bN x.first l (bE to a) (bE to b)).1 (to++[(bN x.first l (bE to a) (bE to b)).2]) he' (by omega) (by simp;omega) ⟨fun z hz=>by
    rcases bn.1 hz with hz|hz
    ·have:=hok.lt z hz;omega
    ·simp at hz;omega⟩ hS
   generalize bN x.first l (bE to a) (bE to b)=r at*
   simp(disch:=omega) [e1,q3,hll,hb0,-Int.natCast_add];refine .dr 60 ?_;simp(disch:=omega) [ha,hb];refine .reach (by simp) k1 ?_;simp(disch:=omega) [ha,hb];refine .reach (by simp) k2 ?_;simp(disch:=omega) [ha,hb];refine .reach (by simp) k3 ?_
   rcases hjk with rfl|⟨jx,jy,rfl⟩
   ·simp(disch:=(first|omega|(simp;omega))) [ha,hb];refine .aF ?_;simp;refine .drop 18 rfl (by simp) (by simp) (by simp) ?_
    have e2:(to.map iN++[AV.int .i64 (r.2:Int)]).length=to.length+1:=by simp
    refine .mf (i:=16) rfl hgr (by simp) (by simp) (by simp) ?_;refine .mf (i:=17) rfl (.inr rfl) (by simp) (by simp) (by rw[e2];simp) ?_;simp at hh⊢;exact hh
   ·simp(disch:=(first|omega|(simp;omega))) [ha,hb];refine .aF ?_;simp;refine .drop 18 rfl (by simp) (by simp) (by simp) ?_
    have e2:(to.map iN++[AV.int .i64 (r.2:Int)]).length=to.length+1:=by simp
    refine .mf (i:=16) rfl hgr (by simp) (by simp) (by simp) ?_;refine .mf (i:=17) rfl (.inr rfl) (by simp) (by simp) (by rw[e2];simp) ?_;simp at hh⊢;exact hh
  ·rw[if_neg hb0]at hS
   have hh:=ih (i+1) (by omega) es l (to++[0]) he (by omega) (by simp;omega) ⟨fun z hz=>by
    rcases bn.1 hz with hz|hz
    ·exact hok.lt z hz
    ·simp at hz;omega⟩ hS
   simp(disch:=(first|omega|(simp;omega))) [e1,q3,hll,hb0,-Int.natCast_add];refine .aF ?_;simp;refine .drop 18 rfl (by simp) (by simp) (by simp) ?_
   have e2:(to.map iN++[AV.int .i64 0]).length=to.length+1:=by simp
   refine .mf (i:=17) rfl (.inr rfl) (by simp) (by simp) (by rw[e2];simp) ?_;simp at hh⊢;exact hh
set_option maxRecDepth 8000 in
theorem aeQ(x:Gr)(hstd:x.kn=1/\x.ki=1/\x.ka=2/\x.ko=1)(ok:x.Ok):aw Tryz.prog Γ (.fr ⟨.run,oL,[.code (.seq (.ae HB) (.seq (.seq (.ae IH) (.block 2 Dm (.loop CT zd))) (.seq (.ae C7) .ret)))],
 [U,U,.ptr 0 0,U,U,U,U,U,.ptr 5 0,.sl 10 0 x.bl.length]++List.replicate 85 U,[],.norm,0⟩ [] (GB x)) (.ret (.aB [eP x.dO,.int .i64 0])):=by
 have o1:=ok.ins;have o3:=ok.sum;have o4:=ok.lM;have hs:=hstd;obtain⟨s1,s2,s3,s4⟩:=hs;have hfirst:=p_ (Γ:=Γ) x o1.1 o1.2 (by omega);rw[eP,s1,s2,s3,s4]at hfirst
 have hfb:x.first<=8001:=by unfold Gr.first;omega
 have hsame:=ok.same;rw[Oi];refine .go 60 ?_;simp;refine .enter 60 Kx ?_;simp;refine .dr 60 ?_;simp;refine .call (by simp) (JS (Γ:=Γ) x.init (k:=1) .self (by omega)) ?_;simp;refine .reach (by simp) (NA x.ins _ _ (.inr ⟨_,_,_,rfl⟩) (.inr ⟨_,_,_,rfl⟩) _) ?_;simp;refine .call 60 (by simp) hfirst ?_;simp;refine .qm 15 6 1 aq rfl rfl (by omega) ?_;simp;refine .inLoop ?_
 have kb:=fun up=>O1 (Γ:=Γ) (GO x++[.map [] true]) [.row 2 cP [] none true false]
  (.int .i64 x.ins) (.sl 6 0 x.next.length) (.sl 12 0 x.init.length) (.sl 16 0 0) (.list true 0 []) (.mp 14) x.first (by omega) (by intro m;simp) (by intro m;simp) (by intro m;simp) 11 (by simp) up [] rfl x.first 0 (by omega)
 simp[ids]at kb⊢;refine .reach (kb _) ?_;refine .go 60 ?_;simp;refine .inLoop ?_
 generalize hS:ef x.first x.bl x.ands 0 [] (ids x.first)=r
 obtain⟨l1,to1⟩:=r
 have hL:=afu (Γ:=Γ) x hstd ok (o:=.ret (.aB [eP x.dO,.int .i64 0])) l1 to1 ?_ x.ands.length 0 (by omega) [] [] (ids x.first) (FC _) (aT _) (by simp) ⟨fun z hz=>by
  simp[ids]at hz;obtain⟨a,ha,rfl⟩:=hz;simp;omega⟩ (by simpa using hS)
 ·simp[ids]at hL⊢;exact hL
 intro es he hl1 ht1 hto
 have hn2:x.dO=x.dE (l1,to1):=by unfold Gr.dO;rw[hS]
 have hall:x.all<=12001:=by unfold Gr.all;omega
 have hlits:x.lits=2*x.all:=rfl
 have ht40:∀z∈to1,z<2^40:=fun z hz=>by have:=hto.lt z hz;omega
 have kA:=fun q=>O6 (Γ:=Γ) to1 ht40 x.next (by omega) (fun a ha=>by have:=ok.next a ha;omega) (by omega) 15 17 6 (h:=sx x es l1 to1 (.cells [.int .i64 x.ins,.sl 6 0 x.next.length,.sl 7 0 x.init.length,.sl 8 0 x.ands.length,.sl 9 0 x.outs.length]::.cells [.int .i64 0,.sl 20 0 0,.sl 21 0 0,.sl 22 0 0,.sl 23 0 0]::q)) rfl rfl rfl
 have kB:=fun q=>O6 (Γ:=Γ) to1 ht40 x.outs (by omega) (fun a ha=>by have:=ok.outs a ha;omega) (by omega) 15 17 9 (h:=sx x es l1 to1 (.cells [.int .i64 x.ins,.sl 6 0 x.next.length,.sl 7 0 x.init.length,.sl 8 0 x.ands.length,.sl 9 0 x.outs.length]::.cells [.int .i64 0,.sl 20 0 0,.sl 21 0 0,.sl 22 0 0,.sl 23 0 0]::q)) rfl rfl rfl
 rw[hn2];refine .go 60 ?_;simp;refine .enter 60 J0 ?_;simp;refine .dr 60 ?_;simp;refine .reach (by simp) (kA [.row 1 aq [] none true false,.row 1 aq [] none true false,.row 2 cP [] none true false,.row 1 aq [] none true false] (by intro m;simp)) ?_;simp;refine .reach (by simp) (kB [.row 1 aq [] none true false,.row 1 aq [] none true false,.row 2 cP [] none true false,.row 1 aq [] none true false,.row 1 aq [] none true false,.row 1 aq ((eB to1 x.next).map iN) none true false] (by intro m;simp)) ?_;simp[Gr.dE];exact .back (by simp)
set_option maxRecDepth 8000 in
theorem ae7(g:Gr)(ok:g.Ok)(l1:List (Int×Int))(to1:List Nat)(hx:g.gz=g.dE (l1,to1))(okx:g.gz.Ok)(es:List ((Int×Int)×Nat))(hl1:l1.length<=g.ands.length)(ht1:to1.length=g.all)(hto:mG g.first l1 to1):
 aw Tryz.prog Γ (IV (.ptr 0 0) (.ptr 1 0) (.ptr 10 0) (qG g es l1 to1 [])) (.ret (.aB [eP g.gz.dO,.int .i64 0])):=by
 have o1:=ok.ins;have o3:=ok.sum;have o4:=ok.lM
 have hfb:g.first<=8001:=by unfold Gr.first;omega
 have hall:g.all<=12001:=by unfold Gr.all;omega
 have hlits:g.lits=2*g.all:=rfl
 have ht40:∀z∈to1,z<2^40:=fun z hz=>by have:=hto.lt z hz;omega
 have kA:=fun q=>PM (Γ:=Γ) to1 ht40 g.next g.hn (by omega) (fun a ha=>by have:=ok.next a ha;omega) (by omega) 10 12 (h:=qG g es l1 to1 (cE g::.cells [.int .i64 0,.sl 15 0 0,.sl 16 0 0,.sl 17 0 0,.sl 18 0 0]::q)) rfl rfl
 have kB:=fun q=>PM (Γ:=Γ) to1 ht40 g.outs g.ho (by omega) (fun a ha=>by have:=ok.outs a ha;omega) (by omega) 10 12 (h:=qG g es l1 to1 (cE g::.cells [.int .i64 0,.sl 15 0 0,.sl 16 0 0,.sl 17 0 0,.sl 18 0 0]::q)) rfl rfl
 refine .go 60 ?_;simp;refine .enter 60 J0 ?_;simp;refine .dr 60 ?_;simp;refine .reach (by simp) (kA [.row 1 aq [] none true false,.row 1 aq [] none true false,.row 2 cP [] none true false,.row 1 aq [] none true false] (by intro m;simp)) ?_;simp;refine .reach (by simp) (kB [.row 1 aq [] none true false,.row 1 aq [] none true false,.row 2 cP [] none true false,.row 1 aq [] none true false,.row 1 aq [] none true false,.row 1 aq ((eB to1 g.next).map iN) none true false] (by intro m;simp)) ?_;simp
 have ex:eP g.gz=.agg [.int .i64 g.ins,.list false 1 ((eB to1 g.next).map iN),.list false 1 (g.init.map i64),.list false 2 (l1.map df),.list false 1 ((eB to1 g.outs).map iN)]:=by
  rw[hx];simp[Gr.dE]
 have hled:=ZG (Γ:=Γ) g.gz okx;rw[ex]at hled;refine .call 3 (by simp) hled ?_;simp;refine .lU [1,5,49,50,51,52,53] ?_;simp;refine .gc 0 [1,2,3,4,5,23,20,7,11,22,28] (by simp) (by decide) ?_;have hh:=aeQ (Γ:=Γ) g.gz ⟨by rw[hx];rfl,by rw[hx];rfl,by rw[hx];rfl,by rw[hx];rfl⟩ okx;simp[GB,hx,Gr.dE]at hh⊢;exact hh
set_option maxRecDepth 8000 in
theorem Xj(g:Gr)(hf:g.iy):aM Tryz.prog Γ oL [eP g] (.aB [eP g.normal,.int .i64 g.check]):=by
 refine .run 60 W5 (by simp) ?_;simp;refine .call 60 (by simp) (rB g hf) ?_
 by_cases hc:g.check=0
 ·have ok:=Gr.qv hc;have o1:=ok.ins;have o3:=ok.sum;have o4:=ok.lM;have hfirst:=p_ (Γ:=Γ) g o1.1 o1.2 (by omega)
  have hn0:g.normal=g.gz.dO:=by unfold Gr.normal;rw[if_pos hc]
  rw[hn0];simp[hc];refine .enter 60 Kx ?_;simp;refine .dr 60 ?_;simp;refine .call (by simp) (JS (Γ:=Γ) g.init g.hi hf.2.1) ?_;simp;refine .reach (by simp) (NA g.ins _ _ (.inl ⟨_,_,_,rfl⟩) (.inr ⟨_,_,_,rfl⟩) _) ?_;simp;refine .call 60 (by simp) hfirst ?_;simp;refine .qm 10 6 1 aq rfl rfl (by omega) ?_;simp;refine .inLoop ?_
  have hfb:g.first<=8001:=by unfold Gr.first;omega
  have kb:=fun up=>O1 (Γ:=Γ) [cE g,.cells [.int .i64 0,.sl 2 0 0,.sl 3 0 0,.sl 4 0 0,.sl 5 0 0],.row 1 aq [] none true false,.row 1 aq [] none true false,.row 2 cP [] none true false,.row 1 aq [] none true false,
   cE g,.row 1 aq (g.init.map i64) none true false,.cells [.int .i64 g.ins,.list false g.kn (g.next.map i64),.sl 7 0 g.init.length,.list true 0 [],.list true 0 []],.map [] true] [.row 2 cP [] none true false]
   (.int .i64 g.ins) (.list false g.kn (g.next.map i64)) (.sl 7 0 g.init.length) (.sl 11 0 0) (.list true 0 []) (.mp 9) g.first (by omega) (by intro m;simp) (by intro m;simp) (by intro m;simp) 6 (by simp) up [] rfl g.first 0 (by omega)
  simp[ids]at kb⊢;refine .reach (kb _) ?_;refine .go 60 ?_;simp;refine .inLoop ?_;obtain⟨okx,_,hlen⟩:=Bo ok
  have hS:iH g.first g.ands [] (ids g.first)=((iH g.first g.ands [] (ids g.first)).1,(iH g.first g.ands [] (ids g.first)).2):=rfl
  have hL:=ad3 (Γ:=Γ) g ok (o:=.ret (.aB [eP g.gz.dO,.int .i64 0])) _ _ hS (fun es he hl1 ht1 hto=>ae7 g ok _ _ rfl okx es hl1 ht1 hto) g.ands.length 0 (by omega) [] [] (ids g.first) (FC _) (aT _) (by simp) (BA _) (by simp);simp[ids]at hL⊢;exact hL
 ·have hn0:g.normal=fD:=by unfold Gr.normal;rw[if_neg hc]
  rw[hn0];simp[hc,fD];exact .back (by simp)
@[simp] theorem aBp(n:Nat):((60:Int)<n)=(60<n):=propext (by omega)
@[simp] theorem aBs(n:Nat):((n:Int)<=60)=(n<=60):=propext (by omega)
@[simp] theorem aBt(n:Nat):((n:Int)<=40)=(n<=40):=propext (by omega)
theorem Gr.Ok.iy{g:Gr}(h:g.Ok):g.iy:=by
 have h1:=h.ins;have h2:=h.sum;have h3:=h.lM;have h4:=h.same
 unfold Gr.iy;omega
theorem N_:fD.iy:=by unfold Gr.iy fD;decide
abbrev GZ:Ob:=.row 1 aq [] none true false
abbrev ag5:Ob:=.row 2 cP [] none true false
end Go.Proofs.YtihmomicdpkabaaGreatDoor
namespace Go.Proofs.YtihmomicdpkabaaGreatDoor
open Go.AM Go.Proofs
def cr(h:List Ob):Prop:=∀m,h.length<=m->cI m h=true
theorem NO{m:Nat}{o:Ob}(ho:gC m o=true):∀{h:List Ob}(i:Nat),cI m h=true->cI m (h.set i o)=true
 |[],i,h1=>h1
 |o'::h,0,h1=>by
  simp only[cI,av,vn]at h1⊢;exact⟨ho,h1.2⟩
 |o'::h,i+1,h1=>by
  simp only[cI,av,pO]at h1⊢;exact⟨h1.1,NO ho i h1.2⟩
theorem cr.set{h:List Ob}(hw:cr h){o:Ob}(hb:∀m,h.length<=m->gC m o=true)(i:Nat):cr (h.set i o):=fun m hm=>by
 rw[jn]at hm;exact NO (hb m hm) i (hw m hm)
def dY(h:List Ob):Prop:=∀i m,h.length<=i->cJ i m h=true
end Go.Proofs.YtihmomicdpkabaaGreatDoor
namespace Go.Proofs.YtihmomicdpkabaaGreatDoor
open Go.AM Go.Proofs
variable{Γ:Nat->Option AV}
abbrev agA:AV:=.b_ D1 (.agg [])
def cO{α:Type}(ev:α->AV)(i:Nat)(up:List Fr)(h:List Ob)(r:Gr×Option α):AM.an:=
 match r.2 with
 |some a=>.back up (ev a) (h.set i (cE r.1))
 |none=>.die up agA (h.set i (cE r.1))
theorem rR{P:Program}{α:Type}{ev:α->AV}{i:Nat}{up:List Fr}{h:List Ob}(J:List Ob){f:FuncId}{args:List AV}{r:Gr×Option α}(hw:cr h)(hi:i<h.length)(hev:∀a,aI h.length (ev a)=true)
 (h1:AM.Reach P Γ (.cl f args up h) (cO ev i up (h++J) r)):AM.Reach P Γ (.cl f args up h) (cO ev i up h r):=by
 have e:∀o:Ob,((h++J).set i o).take h.length=h.set i o:=fun o=>by rw[kz _ _ hi,vF (by simp)]
 have hb:cI h.length (h.set i (cE r.1))=true:=hw.set (fun m _=>by simp) i h.length (by simp);unfold cO at h1⊢
 cases hr:r.2 with
 |some a=>
  rw[hr]at h1;have:=AM.Reach.leave h1 (hev a) (by rw[e];exact hb);rwa[e]at this
 |none=>
  rw[hr]at h1;have:=AM.Reach.Po h1 rfl (by rw[e];exact hb);rwa[e]at this
theorem xk{α:Type}{h:List α}{i:Nat}{o:α}(hi:h[i]? =some o):h.set i o=h:=by
 obtain⟨hl,rfl⟩:=cW.1 hi;exact List.set_getElem_self hl
theorem _root_.Go.AM.Reach.j8{P:Program}(n:Nat){f:FuncId}{args:List AV}{up:List Fr}{h h':List Ob}{v:AV}{c:AM.an}(h1:∀up,AM.Reach P Γ (.cl f args up h) (.die up v h'))(h2:AM.Reach P Γ (AM.go P Γ 2 n (AM.pop (.die up v h'))) c):AM.Reach P Γ (.cl f args up h) c:=.trans (h1 up) (.trans (.pop _) (.aR n h2))
def gV(x:Gr)(p q:Nat):Gr×Option Nat:=if x.k5 p q=0 then(x.eE p q,some (x.fB p q))else(x,none)
set_option maxRecDepth 8000 in
theorem BH(x:Gr)(ok:x.Ok)(p q:Nat){i:Nat}{h:List Ob}(hi:h[i]? =some (cE x))(hw:cr h)(up:List Fr):AM.Reach Tryz.prog Γ (.cl rp [.ptr i 0,iN p,iN q] up h) (cO iN i up h (gV x p q)):=by
 have hA:=aap (Γ:=Γ) x ok.iy p q;have hl:=aZ hi
 have hget:=fun os=>dL hi os
 have hset:∀os:List Ob,(h++os).set i (cE x)=h++os:=fun os=>xk (hget os)
 refine rR [cE (x.eE p q),GZ,GZ,ag5,GZ] hw hl (by simp) ?_;unfold gV cO;refine .bt 60 Ve ?_;simp[hi];refine .jD 60 (by simp) hA ?_
 by_cases e:x.k5 p q=0
 ·simp[e,hget]
 ·simp[e,hget,hset]
def lJ(turn:Nat):Gr->Nat->List Nat->Gr×Option Nat
 |x,c,[]=>(x,some c)
 |x,c,a::l=>match gV x c (a^^^turn)with
  |(y,some d)=>lJ turn y d l
  |(y,none)=>(y,none)
def jJ(turn:Nat)(x:Gr)(l:List Nat):Gr×Option Nat:=match l with
 |[]=>(x,some 0)
 |a::r=>lJ turn x (a^^^turn) r
structure gO(x y:Gr):Prop where
 ok:y.Ok
 ins:y.ins=x.ins
 next:y.next=x.next
 init:y.init=x.init
 outs:y.outs=x.outs
 ands:∃e,y.ands=x.ands++e
theorem gO.refl{x:Gr}(ok:x.Ok):gO x x:=⟨ok,rfl,rfl,rfl,rfl,[],by simp⟩
theorem gO.trans{x y z:Gr}(h:gO x y)(h2:gO y z):gO x z:=by
 obtain⟨e,he⟩:=h.ands;obtain⟨e2,he2⟩:=h2.ands;exact⟨h2.ok,h2.ins.trans h.ins,h2.next.trans h.next,h2.init.trans h.init,h2.outs.trans h.outs,e++e2,by rw[he2,he,gf]⟩
theorem gO.first{x y:Gr}(h:gO x y):y.first=x.first:=by unfold Gr.first;rw[h.ins,h.next]
theorem gO.lits{x y:Gr}(h:gO x y):x.lits<=y.lits:=by
 obtain⟨e,he⟩:=h.ands;unfold Gr.lits Gr.all
 rw[h.first,he,bQ];omega
theorem ZC{x y:Gr}{p q d:Nat}(h:gV x p q=(y,some d)):x.k5 p q=0/\y=x.eE p q/\d=x.fB p q:=by
 unfold gV at h
 split at h
 ·rename_i e;cases h;exact⟨e,rfl,rfl⟩
 ·cases h
theorem oP{x:Gr}(ok:x.Ok){p q:Nat}{y:Gr}{r:Option Nat}(h:gV x p q=(y,r)):gO x y/\∀d,r=some d->d<y.lits:=by
 unfold gV at h
 split at h
 ·rename_i e
  cases h
  have a:=PH e
  obtain⟨e1,he1⟩:=Nc x.first x.ands p q
  refine⟨⟨a.qS,by rw[a.R],by rw[a.R],by rw[a.R],by rw[a.R],e1,by rw[a.R];simpa using he1⟩,fun d hd=>by cases hd;exact a.lt⟩
 ·cases h
  exact⟨.refl ok,fun d hd=>by cases hd⟩
theorem KL(turn:Nat):∀(l:List Nat)(x:Gr)(c:Nat),x.Ok->c<x.lits->gO x (lJ turn x c l).1/\∀d,(lJ turn x c l).2=some d->d<(lJ turn x c l).1.lits
 |[],x,c,ok,hc=>⟨.refl ok,fun d hd=>by cases hd;exact hc⟩
 |a::l,x,c,ok,hc=>by
  rw[lJ]
  cases h:gV x c (a^^^turn)with
  |mk y r=>
   obtain⟨g1,g2⟩:=oP ok h
   cases r with
   |none=>exact⟨g1,fun d hd=>by cases hd⟩
   |some d=>
    obtain⟨h1,h2⟩:=KL turn l y d g1.ok (g2 d rfl);exact⟨g1.trans h1,h2⟩
theorem FV{a n:Nat}(h:a<2*n):a^^^1<2*n:=by
 have h2:(a^^^1)/2=a/2:=by
  have:=Nat.xor_div_two (a:=a) (b:=1);simpa using this
 omega
theorem um{a t n:Nat}(ht:t<=1)(h:a<2*n):a^^^t<2*n:=by
 obtain rfl|rfl:t=0\/t=1:=by omega
 ·simpa using h
 ·exact FV h
def fV{α β:Type}(f:α->β)(r:Gr×Option α):Gr×Option β:=(r.1,r.2.map f)
def iq{α β:Type}(r:Gr×Option α)(f:Gr->α->Gr×Option β):Gr×Option β:=match r with
 |(y,some a)=>f y a
 |(y,none)=>(y,none)
def B3(x:Gr)(c a:Nat):Gr×Option Nat:=iq (gV x c (a^^^1)) fun y p=>iq (gV y (c^^^1) a) fun z q=>fV (·^^^1) (gV z (p^^^1) (q^^^1))
def po:Gr->Nat->List Nat->Gr×Option Nat
 |x,c,[]=>(x,some c)
 |x,c,a::l=>iq (B3 x c a) fun y d=>po y d l
def xI(x:Gr)(l:List Nat):Gr×Option Nat:=match l with
 |[]=>(x,some 0)
 |a::r=>po x a r
def jK(x:Gr)(r:Gr×Option Nat):Prop:=gO x r.1/\∀d,r.2=some d->d<r.1.lits
theorem Fa{x:Gr}(ok:x.Ok)(p q:Nat):jK x (gV x p q):=oP ok (y:=(gV x p q).1) (r:=(gV x p q).2) rfl
theorem jK.Ca{x:Gr}{r:Gr×Option Nat}(h:jK x r){t:Nat}(ht:t<=1):jK x (fV (·^^^t) r):=⟨h.1,fun d hd=>by
 simp only[fV,bY]at hd;obtain⟨a,ha,rfl⟩:=hd
 exact um ht (h.2 a ha)⟩
theorem jK.then{x:Gr}{r:Gr×Option Nat}{f:Gr->Nat->Gr×Option Nat}(h:jK x r)(hf:∀y d,gO x y->d<y.lits->jK y (f y d)):jK x (iq r f):=by
 obtain⟨y,o⟩:=r
 cases o with
 |none=>exact⟨h.1,fun d hd=>by cases hd⟩
 |some d=>
  have:=hf y d h.1 (h.2 d rfl);exact⟨h.1.trans this.1,this.2⟩
theorem Mq{x:Gr}(ok:x.Ok)(c a:Nat):jK x (B3 x c a):=
 (Fa ok _ _).then fun y p g1 _=>(Fa g1.ok _ _).then fun z q g2 _=>(Fa g2.ok _ _).Ca (aT 1)
theorem KT:∀(l:List Nat)(x:Gr)(c:Nat),x.Ok->c<x.lits->jK x (po x c l)
 |[],x,c,ok,hc=>⟨.refl ok,fun d hd=>by cases hd;exact hc⟩
 |a::l,x,c,ok,hc=>(Mq ok c a).then fun y d g hd=>KT l y d g.ok hd
theorem YL(turn:Nat)(l:List Nat)(x:Gr)(c:Nat)(ok:x.Ok)(hc:c<x.lits):jK x (lJ turn x c l):=KL turn l x c ok hc
theorem w9(x:Gr):0<x.lits:=by unfold Gr.lits Gr.all Gr.first;omega
theorem wI{turn:Nat}(ht:turn<=1){x:Gr}(ok:x.Ok){l:List Nat}(hl:∀a∈l,a<x.lits):jK x (jJ turn x l):=by
 cases l with
 |nil=>exact⟨.refl ok,fun d hd=>by cases hd;exact w9 x⟩
 |cons a r=>exact YL turn r x _ ok (um (n:=x.all) ht (hl a (by simp)))
theorem Zm{x:Gr}(ok:x.Ok){l:List Nat}(hl:∀a∈l,a<x.lits):jK x (xI x l):=by
 cases l with
 |nil=>exact⟨.refl ok,fun d hd=>by cases hd;exact w9 x⟩
 |cons a r=>exact KT r x _ ok (hl a (by simp))
theorem PY{a t:Nat}(ht:t<=1)(ha:(a:Int)<2^60):gA .xor .i64 (a:Int) (t:Int)=some ((a^^^t:Nat):Int):=by
 have:=Ga (x:=a) (a:=t) ha;rwa[Nat.mod_eq_of_lt (by omega)]at this
theorem na{x:Gr}(ok:x.Ok):x.lits<=2^14:=by
 have h1:=ok.ins;have h2:=ok.sum
 unfold Gr.lits Gr.all Gr.first
 omega
theorem Nq(a t:Nat)(ht:t<=1)(ha:(a:Int)<2^60){q:Nat}{h:List Ob}(hq:h[q]? =some (.cells [iN t])):∀up,AM.Reach Tryz.prog Γ (.cl vM [iN a,.ptr q 0] up h) (.back up (iN (a^^^t)) h):=by
 intro up;refine .bt 60 UO ?_;simp[hq,PY ht ha]
set_option maxRecDepth 8000 in
theorem adN(turn:Nat)(ht:turn<=1)(l:List Nat)(hl:l.length<2^40){fl:Bool}{k:Nat}(hk:Kd 1 k l)(i L:Nat)(up:List Fr):∀n j:Nat,j+n=l.length->∀(x:Gr)(c:Nat)(h:List Ob),h.length=L->h[i]? =some (cE x)->cr h->x.Ok->c<x.lits->(∀a∈l,a<x.lits)->
 AM.Reach Tryz.prog Γ (yDi (.ptr i 0) (.fn (.func vM) [] [.ptr L 0]) (iN c) (.list fl k (l.map iN)) (.int .i64 l.length) (.int .i64 j) (h++[.cells [iN turn]]) ⟨[],.norm,L,up⟩) (cO iN i up (h++[.cells [iN turn]]) (lJ turn x c (l.drop j))):=by
 intro n
 induction n with
 |zero=>
  intro j hj x c h hL hi hw ok hc hlt
  have q1:¬j<l.length:=by omega
  have hset:(h++[Ob.cells [iN turn]]).set i (cE x)=h++[.cells [iN turn]]:=xk (dL hi _);rw[br (by omega),lJ];unfold cO;rw[hset];refine .aR 60 ?_;simp[q1]
 |succ n ih=>
  intro j hj x c h hL hi hw ok hc hlt;subst hL
  have q1:j<l.length:=by omega
  have q2:=bP (hk.of q1);have hle:=na ok;have ha:=hlt _ (bx q1);have hil:=aZ hi;have hT:=Nq (Γ:=Γ) l[j] turn ht (by omega) (q:=h.length) (h:=h++[.cells [iN turn]]) (by simp)
  have hA:=fun up=>BH (Γ:=Γ) x ok c (l[j]^^^turn) (i:=i) (h:=h++[.cells [iN turn]]) (dL hi _) (by
   intro m hm;simp at hm
   simp[hw m (by omega)]) up
  rw[bL q1,lJ]
  have hset:∀o:Ob,(h++[Ob.cells [iN turn]]).set i o=h.set i o++[.cells [iN turn]]:=fun o=>kz _ _ hil
  have hset2:∀o o2:Ob,(h.set i o++[Ob.cells [iN turn]]).set i o2=h.set i o2++[.cells [iN turn]]:=fun o o2=>by rw[kz _ _ (by simpa using hil),rh]
  refine .aR 60 ?_;simp[q1,q2];refine .aX 60 hT ?_;simp
  cases h9:gV x c (l[j]^^^turn)with
  |mk y r=>
   rw[h9]at hA;obtain⟨g1,g2⟩:=oP ok h9;unfold cO at hA⊢;simp only[hset]at hA⊢
   cases r with
   |none=>
    simp only at hA⊢;refine .j8 60 hA ?_;simp
   |some d=>
    simp only at hA⊢;have hh:=ih (j+1) (by omega) y d (h.set i (cE y)) (by simp) (by simp[hil]) (hw.set (fun m _=>by simp) i) g1.ok (g2 d rfl) (fun a ha=>kv (hlt a ha) g1.lits);unfold cO at hh;simp only[hset2]at hh;refine .aX 60 hA ?_;simp(disch:=omega);refine .aF ?_;simp[q2]at hh⊢;exact hh
set_option maxRecDepth 8000 in
theorem N8(turn:Nat)(ht:turn<=1)(l:List Nat)(h0:l≠[])(hl:l.length<2^40){fl:Bool}{k:Nat}(hk:Kd 1 k l){i:Nat}(x:Gr){h:List Ob}(hi:h[i]? =some (cE x))(hw:cr h)(ok:x.Ok)(hlt:∀a∈l,a<x.lits)(up:List Fr):
 AM.Reach Tryz.prog Γ (.cl s_ [.ptr i 0,.list fl k (l.map iN),iN turn] up h) (cO iN i up h (jJ turn x l)):=by
 cases l with
 |nil=>exact absurd rfl h0
 |cons a r=>
  have hle:=na ok;have hil:=aZ hi;have ha:=hlt a (by simp);simp at hl;obtain rfl:k=1:=hk.of (i:=0) (by simp);have hT:=Nq (Γ:=Γ) a turn ht (by omega) (q:=h.length) (h:=h++[.cells [iN turn]]) (by simp);have hh:=adN (Γ:=Γ) turn ht r (by omega) (fl:=fl) (k:=1) .self i h.length up r.length 0 (by omega) x (a^^^turn) h rfl hi hw ok (um (n:=x.all) ht ha) (fun b hb=>hlt b (by simp[hb]));refine rR [.cells [iN turn]] hw hil (by simp) ?_;rw[jJ];refine .bt 60 UY ?_;simp(disch:=omega);refine .aX 60 hT ?_;simp(disch:=omega);refine .inLoop ?_;simp at hh⊢;exact hh
theorem Pj(l:List Nat)(h0:l≠[])(hl:l.length<2^40){fl:Bool}{k:Nat}(hk:Kd 1 k l){i:Nat}(x:Gr){h:List Ob}(hi:h[i]? =some (cE x))(hw:cr h)(ok:x.Ok)(hlt:∀a∈l,a<x.lits)(up:List Fr):
 AM.Reach Tryz.prog Γ (.cl ta [.ptr i 0,.list fl k (l.map iN)] up h) (cO iN i up h (jJ 0 x l)):=by
 have hA:=N8 (Γ:=Γ) 0 (by omega) l h0 hl (fl:=fl) hk x hi hw ok hlt;refine .bt 60 Vd ?_;simp;unfold cO at hA⊢
 cases h9:(jJ 0 x l).2<;>simp only[h9]at hA⊢
 ·refine .j8 60 hA ?_;simp
 ·refine .aX 60 hA ?_;simp
theorem Ph(l:List Nat)(h0:l≠[])(hl:l.length<2^40){fl:Bool}{k:Nat}(hk:Kd 1 k l){i:Nat}(x:Gr){h:List Ob}(hi:h[i]? =some (cE x))(hw:cr h)(ok:x.Ok)(hlt:∀a∈l,a<x.lits)(up:List Fr):
 AM.Reach Tryz.prog Γ (.cl tc [.ptr i 0,.list fl k (l.map iN)] up h) (cO iN i up h (fV (·^^^1) (jJ 1 x l))):=by
 have hA:=N8 (Γ:=Γ) 1 (by omega) l h0 hl (fl:=fl) hk x hi hw ok hlt;have hf:=wI (turn:=1) (by omega) ok hlt;have hle:=na hf.1.ok;refine .bt 60 Vf ?_;simp;unfold cO at hA⊢;unfold fV
 cases h9:(jJ 1 x l).2 with
 |none=>
  simp only[h9,sO]at hA⊢;refine .j8 60 hA ?_;simp
 |some d=>
  have:=hf.2 d h9;simp only[h9,dv]at hA⊢;refine .aX 60 hA ?_;simp(disch:=omega) []
theorem aeA{i:Nat}{a:AV}{h:List Ob}(up:List Fr):AM.Reach Tryz.prog Γ (.cl vQ [.ptr i 0,a] up h) (.back up (.int .i64 0) h):=by
 refine .bt 60 U5 ?_;simp
set_option maxRecDepth 8000 in
theorem adm(l:List Nat)(hl:l.length<2^40){fl:Bool}{k:Nat}(hk:Kd 1 k l)(i base:Nat)(up:List Fr):∀n j:Nat,j+n=l.length->∀(x:Gr)(c:Nat)(h:List Ob),h[i]? =some (cE x)->cr h->x.Ok->c<x.lits->(∀a∈l,a<x.lits)->
 AM.Reach Tryz.prog Γ (yHk (.ptr i 0) (iN c) (.list fl k (l.map iN)) (.int .i64 l.length) (.int .i64 j) h ⟨[],.norm,base,up⟩) (cO iN i up h (po x c (l.drop j))):=by
 intro n
 induction n with
 |zero=>
  intro j hj x c h hi hw ok hc hlt
  have q1:¬j<l.length:=by omega
  rw[br (by omega),po];unfold cO;simp only[xk hi];refine .aR 60 ?_;simp[q1]
 |succ n ih=>
  intro j hj x c h hi hw ok hc hlt
  have q1:j<l.length:=by omega
  have q2:=bP (hk.of q1);have hle:=na ok;have ha:=hlt _ (bx q1);have hil:=aZ hi
  have hW:∀y:Gr,cr (h.set i (cE y)):=fun y=>hw.set (fun m _=>by simp) i
  have hI:∀y:Gr,(h.set i (cE y))[i]? =some (cE y):=fun y=>by simp[hil]
  have hA:=fun up=>BH (Γ:=Γ) x ok c (l[j]^^^1) hi hw up
  rw[bL q1,po,B3];refine .aR 60 ?_;simp(disch:=omega) [q1,q2]
  cases h9:gV x c (l[j]^^^1)with
  |mk y r=>
   rw[h9]at hA;obtain⟨g1,g2⟩:=oP ok h9
   cases r with
   |none=>
    simp only[cO,iq]at hA⊢;refine .j8 60 hA ?_;simp
   |some p=>
    have hp:=g2 p rfl;have hl1:=g1.lits;have hle1:=na g1.ok
    have hB:=fun up=>BH (Γ:=Γ) y g1.ok (c^^^1) l[j] (hI y) (hW y) up
    simp only[cO,iq]at hA⊢;refine .aX 60 hA ?_;simp(disch:=omega) []
    cases h10:gV y (c^^^1) l[j]with
    |mk z r=>
     rw[h10]at hB;obtain⟨g3,g4⟩:=oP g1.ok h10
     cases r with
     |none=>
      simp only[cO,rh]at hB⊢;refine .j8 60 hB ?_;simp
     |some q=>
      have hq:=g4 q rfl;have hl2:=g3.lits;have hle2:=na g3.ok
      have hC:=fun up=>BH (Γ:=Γ) z g3.ok (p^^^1) (q^^^1) (hI z) (hW z) up
      simp only[cO,rh]at hB⊢;refine .aX 60 hB ?_;simp(disch:=omega) []
      cases h11:gV z (p^^^1) (q^^^1)with
      |mk w r=>
       rw[h11]at hC;obtain⟨g5,g6⟩:=oP g3.ok h11
       cases r with
       |none=>
        simp only[cO,rh,fV,sO]at hC⊢;refine .j8 60 hC ?_;simp
       |some d=>
        have hd:=g6 d rfl;have hle3:=na g5.ok;simp only[cO,rh,fV,dv]at hC⊢;have hh:=ih (j+1) (by omega) w (d^^^1) (h.set i (cE w)) (hI w) (hW w) g5.ok (FV (n:=w.all) hd) (fun a ha=>kv (hlt a ha) ((g1.trans g3).trans g5).lits);simp only[cO,rh]at hh;refine .aX 60 hC ?_;simp(disch:=omega) [];refine .aF ?_;simp[q2]at hh⊢;exact hh
theorem aeU(l:List Nat)(h0:l≠[])(hl:l.length<2^40){fl:Bool}{k:Nat}(hk:Kd 1 k l){i:Nat}(x:Gr){h:List Ob}(hi:h[i]? =some (cE x))(hw:cr h)(ok:x.Ok)(hlt:∀a∈l,a<x.lits)(up:List Fr):
 AM.Reach Tryz.prog Γ (.cl td [.ptr i 0,.list fl k (l.map iN)] up h) (cO iN i up h (xI x l)):=by
 cases l with
 |nil=>exact absurd rfl h0
 |cons a r=>
  simp at hl;obtain rfl:k=1:=hk.of (i:=0) (by simp);have hh:=adm (Γ:=Γ) r (by omega) (fl:=fl) (k:=1) .self i h.length up r.length 0 (by omega) x a h hi hw ok (hlt a (by simp)) (fun b hb=>hlt b (by simp[hb]));rw[xI];refine .bt 60 U' ?_;simp(disch:=omega);refine .inLoop ?_;simp at hh⊢;exact hh
abbrev Bs:=List UInt8
structure Lt where
 name:Bs
 next:Bs
 init:Int
 deriving DecidableEq
abbrev nD(q:Lt):AV:=.agg [.str q.name,.str q.next,.int .i64 q.init]
structure Gt where
 name:Bs
 op:Int
 ins:List Bs
 rows:List Bs
 off:Bool
 ki:Nat
 kr:Nat
 hi:Kd 1 ki ins
 hr:Kd 1 kr rows
abbrev cU(g:Gt):AV:=.agg [.str g.name,.int .i64 g.op,.list false g.ki (g.ins.map .str),.list false g.kr (g.rows.map .str),.bool g.off]
structure Ct where
 aG:List Bs
 bf:List Bs
 ai:List Lt
 af:List Gt
 kI:Nat
 kO:Nat
 kL:Nat
 kG:Nat
 hI:Kd 1 kI aG
 hO:Kd 1 kO bf
 hL:Kd 3 kL ai
 hG:Kd 5 kG af
abbrev bH(c:Ct):AV:=.agg [.list false c.kI (c.aG.map .str),.list false c.kO (c.bf.map .str),.list false c.kL (c.ai.map nD),.list false c.kG (c.af.map cU)]
def sk(g:Gt):Prop:=g.name.length<2^40/\g.ins.length<2^10/\g.rows.length<2^10/\(∀s∈g.ins,s.length<2^40)/\∀s∈g.rows,s.length<2^40
def bX(c:Ct):Prop:=c.aG.length<2^10/\c.bf.length<2^10/\c.ai.length<2^10/\c.af.length<2^10/\(∀g∈c.af,sk g)/\
 (∀s∈c.aG,s.length<2^40)/\(∀s∈c.bf,s.length<2^40)/\∀q∈c.ai,q.name.length<2^40/\q.next.length<2^40
theorem GP{α β:Type}(a:List β)(f:α->β)(l:List α){i:Nat}(h:i<l.length):a++(l.drop i).map f=a++[f l[i]]++(l.drop (i+1)).map f:=by
 rw[bL h,cd,gf];rfl
def aD(c:Ct):List Bs:=c.aG++c.ai.map (·.name)++c.af.map (·.name)
structure Fm where
 kind:Int
 lit:Int
 kids:Int
 deriving DecidableEq
abbrev bd(f:Fm):AV:=.agg [.int .i64 f.kind,.int .i64 f.lit,.int .i64 f.kids]
end Go.Proofs.YtihmomicdpkabaaGreatDoor
