/- Forms: the reader. -/
import Derived.Test.YtihmomicdpkabaaGreatDoorF
import Derived.Shelf.Strings.SlTrimAscii
import Derived.Test.YtihmomicdpkabaaGreatDoorShelf
import Derived.Test.YtihmomicdpkabaaGreatDoorCode
import Derived.Test.YtihmomicdpkabaaGreatDoorAMd
import Derived.Laws.RangeString
import Derived.Laws.RangeAny
set_option linter.unusedSimpArgs false
set_option linter.unusedVariables false
namespace Go.Proofs.YtihmomicdpkabaaGreatDoor
open Go.AM Go.Proofs
variable{Γ:Nat->Option AV}
def ep(n:Int)(x:Fm):Bool:=
 if x.kind=2 then decide (0<=x.lit)&&(decide (x.lit/2<n)&&decide (x.kids=0))
 else if x.kind=3\/x.kind=4 then decide (x.lit=0)&&decide (2<=x.kids)
 else if x.kind=0\/x.kind=1 then decide (x.lit=0)&&decide (x.kids=0)
 else false
def eU(rd:List Fm->Option (Bool×List Fm))(a:Bool):Nat->Bool->List Fm->Option (Bool×List Fm)
 |0,v,l=>some (v,l)
 |k+1,v,l=>match rd l with
  |none=>none
  |some (w,l')=>eU rd a k (if a then w&&v else w||v) l'
def eg(n:Int)(val:Int->Bool):Nat->List Fm->Option (Bool×List Fm)
 |0,_=>none
 |_+1,[]=>none
 |f+1,x::l=>if ep n x=true then(if x.kind=2 then some (val x.lit,l)else eU (eg n val f) (decide (x.kind=3)) x.kids.toNat (decide (x.kind=1)||decide (x.kind=3)) l)else none
section
variable{n:Int}{F:AV}{i:Nat}
end
theorem JU{rd:List Fm->Option (Bool×List Fm)}{a:Bool}(hr:∀l v l',rd l=some (v,l')->l'.length<l.length):∀(k:Nat)(v:Bool)(l:List Fm)(w:Bool)(l':List Fm),eU rd a k v l=some (w,l')->l'.length<=l.length
 |0,v,l,w,l',h=>by simp only[eU,aj,bN]at h;rw[h.2];exact aW _
 |k+1,v,l,w,l',h=>by
  simp only[eU]at h
  split at h
  ·cases h
  ·rename_i u l1 hu;have h1:=hr _ _ _ hu;have h2:=JU hr k _ _ _ _ h;omega
theorem DZ(n:Int)(val:Int->Bool):∀(f:Nat)(l:List Fm)(v:Bool)(l':List Fm),eg n val f l=some (v,l')->l'.length<l.length
 |0,l,v,l',h=>by simp[eg]at h
 |f+1,[],v,l',h=>by simp[eg]at h
 |f+1,x::l,v,l',h=>by
  simp only[eg]at h
  split at h
  ·split at h
   ·simp only[aj,bN]at h
    rw[<-h.2,b9];omega
   ·have:=JU (DZ n val f) _ _ _ _ _ h
    rw[b9];omega
  ·cases h
section
variable{n:Int}{i:Nat}{φ:List Ob->Prop}{f:FuncId}{caps:List AV}{val:Int->Bool}
end
def Ay(n:Int)(val:Int->Bool)(l:List Fm):Option Bool:=
 if l.length<=4000/\0<=n/\n<=4000 then(match eg n val l.length l with
  |some (v,[])=>some v
  |_=>none)else none
def Oa:Option Bool->Int
 |some _=>0
 |none=>1
@[simp] theorem awV(v:Bool):Oa (some v)=0:=rfl
@[simp] theorem axl:Oa none=1:=rfl
def oL(v:List Bool)(a:Int):Bool:=!decide (v.getD (a/2).toNat false=decide (a%2=1))
def jb(rd:Gr->List Fm->Gr×Option (Nat×List Fm)):Nat->Gr->List Nat->List Fm->Gr×Option (List Nat×List Fm)
 |0,x,ks,l=>(x,some (ks,l))
 |k+1,x,ks,l=>eD (rd x l) fun y p=>jb rd k y (ks++[p.1]) p.2
def pU(t:Fm)(y:Gr)(p:List Nat×List Fm):Gr×Option (Nat×List Fm):=eo (fun c=>(c,p.2)) (if t.kind=3 then iJ 0 y p.1 else eo (·^^^1) (iJ 1 y p.1))
def gA(ins:List Nat):Nat->Gr->List Fm->Gr×Option (Nat×List Fm)
 |0,x,_=>(x,none)
 |_+1,x,[]=>(x,none)
 |f+1,x,t::l=>if t.kind=2 then(x,some (ins.getD (t.lit/2).toNat 0^^^(t.lit%2).toNat,l))
  else if t.kind=0\/t.kind=1 then(x,some (t.kind.toNat,l))
  else eD (jb (gA ins f) t.kids.toNat x [] l) (pU t)
def FF(x:Gr)(r:Gr×Option (Nat×List Fm)):Prop:=eB x r.1/\∀p,r.2=some p->p.1<r.1.lits
def acN(x:Gr)(r:Gr×Option (List Nat×List Fm)):Prop:=eB x r.1/\∀p,r.2=some p->∀a∈p.1,a<r.1.lits
theorem y6{rd:Gr->List Fm->Gr×Option (Nat×List Fm)}(ins:List Nat)(hr:∀x l,x.Ok->(∀a∈ins,a<x.lits)->FF x (rd x l)):∀(k:Nat)(x:Gr)(ks:List Nat)(l:List Fm),x.Ok->(∀a∈ins,a<x.lits)->(∀a∈ks,a<x.lits)->acN x (jb rd k x ks l)
 |0,x,ks,l,ok,hi,hk=>⟨.refl ok,fun p hp=>by cases hp;exact hk⟩
 |k+1,x,ks,l,ok,hi,hk=>by
  rw[jb];have h1:=hr x l ok hi
  cases h:rd x l with
  |mk y r=>
   rw[h]at h1
   cases r with
   |none=>exact⟨h1.1,fun p hp=>by cases hp⟩
   |some p=>
    have h2:=h1.2 p rfl
    have:=y6 ins hr k y (ks++[p.1]) p.2 h1.1.ok (fun a ha=>jO (hi a ha) h1.1.lits) (fun a ha=>by
     rcases bF.1 ha with ha|ha
     ·exact jO (hk a ha) h1.1.lits
     ·simp only[dA]at ha;subst ha;exact h2)
    exact⟨h1.1.trans this.1,this.2⟩
theorem XL{t:Fm}{y:Gr}{p:List Nat×List Fm}(ok:y.Ok)(hp:∀a∈p.1,a<y.lits):FF y (pU t y p):=by
 have h3:jj y (if t.kind=3 then iJ 0 y p.1 else eo (·^^^1) (iJ 1 y p.1)):=by
  split
  ·exact ve (by omega) ok hp
  ·exact(ve (by omega) ok hp).AS (by omega)
 refine⟨h3.1,fun q hq=>?_⟩;simp only[pU,eo,bO]at hq;obtain⟨c,hc,rfl⟩:=hq;exact h3.2 c hc
theorem ZK(x:Gr):2<=x.lits:=by unfold Gr.lits Gr.all Gr.first;omega
theorem Xg(x:Gr):x.lits=2*x.all:=rfl
theorem qJ(ins:List Nat):∀(f:Nat)(x:Gr)(l:List Fm),x.Ok->(∀a∈ins,a<x.lits)->FF x (gA ins f x l)
 |0,x,l,ok,hi=>⟨.refl ok,fun p hp=>by cases hp⟩
 |f+1,x,[],ok,hi=>⟨.refl ok,fun p hp=>by cases hp⟩
 |f+1,x,t::l,ok,hi=>by
  rw[gA]
  split
  ·refine⟨.refl ok,fun p hp=>?_⟩
   cases hp
   refine tg (n:=x.all) (by omega) ?_;rw[<-Xg];rw[bG]
   cases h:ins[(t.lit/2).toNat]? with
   |none=>exact vE x
   |some a=>exact hi a (gX h)
  ·split
   ·rename_i h;refine⟨.refl ok,fun p hp=>?_⟩
    cases hp
    have:=ZK x
    simp only;omega
   ·have h1:=y6 ins (qJ ins f) t.kids.toNat x [] l ok hi (fun a ha=>by cases ha)
    cases h:jb (gA ins f) t.kids.toNat x [] l with
    |mk y r=>
     rw[h]at h1
     cases r with
     |none=>exact⟨h1.1,fun p hp=>by cases hp⟩
     |some p=>
      have h2:=XL (t:=t) h1.1.ok (h1.2 p rfl);exact⟨h1.1.trans h2.1,h2.2⟩
theorem LC{rd:List Fm->Option (Bool×List Fm)}{a:Bool}(hr:∀l v l',rd l=some (v,l')->l'.length<l.length):∀(k:Nat)(v:Bool)(l:List Fm)(w:Bool)(l':List Fm),eU rd a k v l=some (w,l')->k<=l.length
 |0,v,l,w,l',h=>wS _
 |k+1,v,l,w,l',h=>by
  rw[eU]at h
  cases h1:rd l with
  |none=>rw[h1]at h;cases h
  |some u=>
   rw[h1]at h;obtain⟨u1,u2⟩:=u;have:=hr l u1 u2 h1;have:=LC hr k _ _ _ _ h;omega
theorem Jt{rd:Gr->List Fm->Gr×Option (Nat×List Fm)}{rf:List Fm->Option (Bool×List Fm)}{b:Bool}(hr:∀x l y c l2 v l3,rd x l=(y,some (c,l2))->rf l=some (v,l3)->l2=l3):∀(k:Nat)(x:Gr)(ks:List Nat)(l:List Fm)(v:Bool){y:Gr}{q:List Nat}{l2:List Fm}{w:Bool}{l3:List Fm},jb rd k x ks l=(y,some (q,l2))->eU rf b k v l=some (w,l3)->l2=l3
 |0,x,ks,l,v,y,q,l2,w,l3,h1,h2=>by
  rw[jb]at h1;rw[eU]at h2;cases h1;cases h2;rfl
 |k+1,x,ks,l,v,y,q,l2,w,l3,h1,h2=>by
  rw[jb]at h1;rw[eU]at h2
  cases h:rd x l with
  |mk z r=>
   rw[h]at h1
   cases r with
   |none=>cases h1
   |some p=>
    cases h3:rf l with
    |none=>rw[h3]at h2;cases h2
    |some u=>
     rw[h3]at h2;obtain⟨c,l4⟩:=p;obtain⟨u1,u2⟩:=u;have:=hr x l z c l4 u1 u2 h h3;subst this;exact Jt hr k z _ _ _ h1 h2
theorem Du(ins:List Nat)(n:Int)(val:Int->Bool):∀(f:Nat)(x:Gr)(l:List Fm)(y:Gr)(c:Nat)(l2:List Fm)(v:Bool)(l3:List Fm),gA ins f x l=(y,some (c,l2))->eg n val f l=some (v,l3)->l2=l3
 |0,x,l,y,c,l2,v,l3,h1,h2=>by cases h1
 |f+1,x,[],y,c,l2,v,l3,h1,h2=>by cases h1
 |f+1,x,t::l,y,c,l2,v,l3,h1,h2=>by
  rw[gA]at h1;rw[eg]at h2
  split at h2
  ·rename_i ho
   split at h2
   ·rename_i k2;rw[if_pos k2]at h1
    cases h1;cases h2;rfl
   ·rename_i k2;rw[if_neg k2]at h1
    split at h1
    ·rename_i k01
     have hk:t.kids=0:=by
      unfold ep at ho;rw[if_neg k2,if_neg (by omega),if_pos k01]at ho;simp at ho;exact ho.2
     rw[hk]at h2
     cases h1
     simp only[Int.toNat_zero,eU]at h2
     cases h2;rfl
    ·cases h:jb (gA ins f) t.kids.toNat x [] l with
     |mk z r=>
      rw[h]at h1
      cases r with
      |none=>cases h1
      |some p=>
       obtain⟨q,l4⟩:=p;have:=Jt (Du ins n val f) _ _ _ _ _ h h2;subst this;simp only[eD,pU,eo,bN,bO]at h1;obtain⟨_,d,_,_,rfl⟩:=h1;rfl
  ·cases h2
def nE:Bs:=[48,49,45]
def kZ(c:UInt8):Bool:=decide (c=48)||(decide (c=49)||decide (c=45))
def nk(n:Nat)(s:Bs):Bool:=s.all kZ&&decide (s.length=n)
theorem aab(c:UInt8):nE.contains c=kZ c:=by
 revert c
 rw[show(∀c:UInt8,nE.contains c=kZ c)↔∀n:Fin 256,nE.contains (UInt8.ofNat n)=kZ (UInt8.ofNat n)from
  ⟨fun h n=>h _,fun h c=>by have:=h ⟨c.toNat,c.toNat_lt⟩;simpa using this⟩]
 decide+kernel
theorem qA{α:Type}{p:α->Bool}:∀{l:List α},l.dropWhile p=[]↔∀x∈l,p x=true
 |[]=>by simp
 |a::l=>by
  rw[List.dropWhile_cons]
  cases h:p a with
  |true=>simp[qA (l:=l),h]
  |false=>simp[h]
theorem dropWhile_nil{α:Type}(p:α->Bool)(l:List α)(h:∀x∈l.dropWhile p,p x=true):l.dropWhile p=[]:=by
 cases hd:l.dropWhile p with
 |nil=>rfl
 |cons a t=>
  have h1:=List.head_dropWhile_not p (l:=l) (by rw[hd];simp);simp only[hd,List.head_cons]at h1;rw[h a (by rw[hd];simp)]at h1
  cases h1
theorem KZ(s:Bs):(Lib.trimS s nE=[])↔s.all kZ=true:=by
 have e:(fun c=>nE.contains c)=kZ:=funext aab;unfold Lib.trimS Lib.trimLeftS Lib.trimRightS;rw[e];constructor
 ·intro h
  have h1:=dropWhile_nil kZ s.reverse fun x hx=>by
   have:=qA.1 h x (by simpa using hx);exact this
  have h2:=qA.1 h1;rw[dy];intro x hx;exact h2 x (by simpa using hx)
 ·intro h
  have h1:s.reverse.dropWhile kZ=[]:=qA.2 fun x hx=>dy.1 h x (by simpa using hx)
  rw[h1];rfl
theorem Nu(s:Bs)(hs:s.length<2^40):aS Tryz.prog Γ sm [.str s,.str nE] (.str (Lib.trimS s nE)):=by
 refine aS.Ou (by simp) (fun _=>rfl) rfl fun N g h w us _ hV=>?_
 obtain⟨us,rfl,h1⟩:=Au hV;obtain⟨us,rfl,h2⟩:=Au h1;obtain rfl:=MS h2;refine(Any.strings_Trim_laid Tryz.MB (by kernel_rfl) ⟨s.toArray⟩ ⟨nE.toArray⟩ w (by simp[ByteArray.size];omega) (by decide) (ascii_of_all (by decide))).mono ?_
 rintro e' w' ⟨rfl,hB⟩
 exact⟨⟨_,rfl,fun _ _=>by simp[V]⟩,hB⟩
theorem adj(s:Bs)(n:Nat)(hs:s.length<2^40):aS Tryz.prog Γ zi [.str s,.int .i64 n] (.bool (nk n s)):=by
 refine .run 60 W4 (by simp) ?_;unfold nk
 by_cases h:s.length=n
 ·have h':(s.length:Int)=n:=by omega
  have hT:=Nu (Γ:=Γ) s hs;unfold nE at hT
  have h2:decide (Lib.trimS s [48,49,45]=[])=s.all kZ:=by
   rw[fN,Ru];exact KZ s
  simp[h,h'];refine .call 60 (by simp) hT ?_;simp[h2];exact .back (by simp[h2,h])
 ·have h':¬(s.length:Int)=n:=by omega
  simp[h,h'];exact .back (by simp[h])
end Go.Proofs.YtihmomicdpkabaaGreatDoor
namespace Go.Proofs.YtihmomicdpkabaaGreatDoor
abbrev wi:Nat:=1
abbrev Oo:Nat:=0
end Go.Proofs.YtihmomicdpkabaaGreatDoor
namespace Go.Proofs.YtihmomicdpkabaaGreatDoor
open Go.AM Go.Proofs
variable{Γ:Nat->Option AV}
theorem Tu{φ:List Ob->Prop}{f:FuncId}{caps:List AV}{p:(List UInt8)->Bool}{l:List (List UInt8)}{k:Nat}{fl:Bool}(ha:ic Tryz.prog Γ φ f caps AV.str p l)(hk:Kd 1 k l)(hs:l.length<2^60){h:List Ob}(hφ:φ h):
 ∀up,AM.Reach Tryz.prog Γ (.cl qp [.list fl k (l.map AV.str),.fn (.func f) [] caps] up h) (.back up (.int .i64 (eh p l 0)) h):=by
 intro up
 have key:∀n i:Nat,i+n=l.length->AM.Reach Tryz.prog Γ (P2 (.list fl k (l.map AV.str)) (.fn (.func f) [] caps) (.int .i64 l.length) (.int .i64 i) h ⟨[],.norm,h.length,up⟩) (.back up (.int .i64 (eh p (l.drop i) i)) h):=by
  intro n
  induction n with
  |zero=>
   intro i hi
   have h1:¬i<l.length:=by omega
   refine .ba 60 ?_;rw[bu (by omega)];simp[h1,eh]
  |succ n ih=>
   intro i hi
   have h1:i<l.length:=by omega
   obtain rfl:=hk.of h1;have h2:=ha.2 l[i] (bC h1);rw[bT h1,eh];have hh:=ih (i+1) (by omega);refine .ba 60 ?_;simp[h1,ha.1];refine .a_ 60 (fun up=>h2 up h hφ) ?_
   cases hp:p l[i]with
   |true=>simp(disch:=omega) [hp]
   |false=>
    simp(disch:=omega) [hp];refine .aN ?_;simp at hh⊢;exact hh
 refine .bB 60 Im ?_;simp;refine .inLoop ?_;have hh:=key l.length 0 (by omega);simp at hh⊢;exact hh
theorem xy{φ:List Ob->Prop}{f:FuncId}{caps:List AV}{p:(List UInt8)->Bool}{l:List (List UInt8)}{k:Nat}{fl:Bool}(ha:ic Tryz.prog Γ φ f caps AV.str p l)(hk:Kd 1 k l)(hs:l.length<2^60){h:List Ob}(hφ:φ h):
 ∀up,AM.Reach Tryz.prog Γ (.cl o8 [.list fl k (l.map AV.str),.fn (.func f) [] caps] up h) (.back up (.bool (bo p l)) h):=by
 intro up;refine .bB 60 RF ?_;simp;refine .a_ 60 (Tu ha hk hs hφ) ?_;have h1:=z_ p l 0
 cases hp:bo p l with
 |true=>rw[hp]at h1;simp at h1;simp[h1]
 |false=>
  rw[hp]at h1
  have h2:¬0<=eh p l 0:=by rw[h1];simp
  simp[h2]
abbrev p2(a b:Int):AV:=.agg [.int .i64 a,.int .i64 b]
def FQ(n:Int):Option AV:=if 4<=n/\n<=9 then some (p2 2 8)else if n=0\/n=1 then some (p2 0 0)else if n=2\/n=3 then some (p2 1 1)else if n=10 then some (p2 0 8)else none
def jh(Γ:Nat->Option AV):Prop:=∃ks vs,Γ wi=some (.c8 ks vs)/\∀n:Int,ew (.sc .int) (.int .i64 n) (ks.zip vs)=some (FQ n)
def mH(op:Int)(n:Nat):Bool:=if 4<=op/\op<=9 then decide (2<=n/\n<=8)else if op=0\/op=1 then decide (n=0)else if op=2\/op=3 then decide (n=1)else false
def hasB(op:Int)(n:Nat):Bool:=if op=10 then decide (n<=8)else mH op n
def kR(g:Gt):Bool:=
 if g.op=10 then decide (g.ins.length<=8)&&(decide (g.rows.length<=128)&&!bo (fun s=>!nk g.ins.length s) g.rows)else !(decide (0<g.rows.length)||g.off)&&mH g.op g.ins.length
theorem zU{ks vs:List AV}(hG:Γ wi=some (.c8 ks vs)){op a b:Int}(hF:ew (.sc .int) (.int .i64 op) (ks.zip vs)=some (some (p2 a b)))(n:Int):aS Tryz.prog Γ sM [.int .i64 op,.int .i64 n] (.bool (decide (a<=n)&&decide (n<=b))):=by
 simp only[wi]at hG;refine .run 60 KC (by simp) ?_
 by_cases h:a<=n
 ·simp[hG,hF,h,isKey,b_,cM];exact .back (by simp)
 ·simp[hG,hF,h,isKey,b_,cM];exact .back (by simp)
theorem Yq{ks vs:List AV}(hG:Γ wi=some (.c8 ks vs)){op:Int}(hF:ew (.sc .int) (.int .i64 op) (ks.zip vs)=some none)(n:Int):aS Tryz.prog Γ sM [.int .i64 op,.int .i64 n] (.bool false):=by
 simp only[wi]at hG;refine .run 60 KC (by simp) ?_;simp[hG,hF,isKey,b_,cM];exact .back (by simp)
theorem adr(hΓ:jh Γ)(op:Int)(n:Nat):aS Tryz.prog Γ sM [.int .i64 op,.int .i64 n] (.bool (hasB op n)):=by
 obtain⟨ks,vs,hG,hF⟩:=hΓ;have h1:=hF op;unfold FQ at h1
 by_cases a:4<=op/\op<=9
 ·rw[if_pos a]at h1
  have e:hasB op n=(decide ((2:Int)<=n)&&decide ((n:Int)<=8)):=by
   unfold hasB mH;rw[if_neg (by omega),if_pos a,fN]
   simp only[aw,bd];omega
  rw[e];exact zU hG h1 n
 ·rw[if_neg a]at h1
  by_cases b:op=0\/op=1
  ·rw[if_pos b]at h1
   have e:hasB op n=(decide ((0:Int)<=n)&&decide ((n:Int)<=0)):=by
    unfold hasB mH;rw[if_neg (by omega),if_neg a,if_pos b,fN]
    simp only[aw,bd];omega
   rw[e];exact zU hG h1 n
  ·rw[if_neg b]at h1
   by_cases c:op=2\/op=3
   ·rw[if_pos c]at h1
    have e:hasB op n=(decide ((1:Int)<=n)&&decide ((n:Int)<=1)):=by
     unfold hasB mH;rw[if_neg (by omega),if_neg a,if_neg b,if_pos c,fN]
     simp only[aw,bd];omega
    rw[e];exact zU hG h1 n
   ·rw[if_neg c]at h1
    by_cases d:op=10
    ·rw[if_pos d]at h1
     have e:hasB op n=(decide ((0:Int)<=n)&&decide ((n:Int)<=8)):=by
      unfold hasB;rw[if_pos d,fN]
      simp only[aw,bd];omega
     rw[e];exact zU hG h1 n
    ·rw[if_neg d]at h1
     have e:hasB op n=false:=by
      unfold hasB mH;rw[if_neg d,if_neg a,if_neg b,if_neg c]
     rw[e];exact Yq hG h1 n
theorem Zv(g:Gt)(i:Nat)(hg:wc g):ic Tryz.prog Γ (fun h=>h[i]? =some (.cells (AV.cells (cZ g)))) xN [.ptr i 0] AV.str (fun s=>!nk g.ins.length s) g.rows:=by
 refine⟨by simp,fun s hs up h hφ=>?_⟩;refine .bB 60 Uz ?_;simp[hφ];refine .na 60 (by simp) (adj s g.ins.length (hg.2.2.2.2 s hs)) ?_;simp
theorem acy(hΓ:jh Γ)(g:Gt)(hg:wc g):aS Tryz.prog Γ u_ [cZ g] (.bool (kR g)):=by
 have b1:=hg.2.1;have b2:=hg.2.2.1;refine .run 60 Wk (by simp) ?_;unfold kR;have hH:=adr hΓ g.op g.ins.length;have hC:=xy (Γ:=Γ) (fl:=false) (Zv g 0 hg) g.hr (by omega) (h:=[.cells (AV.cells (cZ g))]) rfl
 by_cases ho:g.op=10
 ·simp[ho];rw[ho]at hH;refine .call 60 (by simp) hH ?_;have e:((g.ins.length:Int)<=8)=(g.ins.length<=8):=propext (by omega);have e2:((g.rows.length:Int)<=128)=(g.rows.length<=128):=propext (by omega)
  by_cases h1:g.ins.length<=8
  ·by_cases h2:g.rows.length<=128
   ·simp[hasB,h1,h2,e2];simp[ho]at hC;refine .a_ 60 hC ?_;simp;exact .back (by simp)
   ·simp[hasB,h1,h2,e2];exact .back (by simp)
  ·simp[hasB,h1];exact .back (by simp)
 ·simp only[if_neg ho]
  by_cases h1:0<g.rows.length
  ·have e:((0:Int)<g.rows.length)=True:=cF (by omega);simp[ho,h1,e];exact .back (by simp)
  ·have e:((0:Int)<g.rows.length)=False:=lf (by omega)
   cases h2:g.off with
   |true=>
    simp[ho,h1,h2,e];exact .back (by simp)
   |false=>
    have h0:g.rows=[]:=kq.1 (by omega);simp[ho,h0,h2];refine .call 60 (by simp) hH ?_
    cases h3:mH g.op g.ins.length with
    |false=>
     simp[hasB,ho,h3];exact .back (by simp)
    |true=>
     simp[hasB,ho,h3];simp only[h0,h2,AV.cells,lZ]at hC;refine .a_ 60 hC ?_;simp[qP];exact .back (by simp)
theorem r9(l:List (List UInt8)){k:Nat}(hk:Kd 1 k l)(hl:l.length<2^40):aS Tryz.prog Γ nQ [.list false k (l.map AV.str)] (.own 1 aD (l.map AV.str)):=by
 refine .run 60 RX (by simp) ?_
 cases l with
 |nil=>
  simp;refine .either 0 (by simp) (fun b=>?_)
  cases b
  ·refine .go 9 ?_;simp;refine .pz 2 1 aD rfl (by omega) ?_;refine .go 60 ?_;simp;exact .back (by simp)
  ·refine .go 60 ?_;simp;exact .back (by simp)
 |cons x xs=>
  have hk0:k=1:=by
   rcases hk with h|h
   ·exact h
   ·cases h
  subst hk0;simp at hl;simp(disch:=(first|omega|(simp;omega)));exact .back (by simp)
theorem aa7(c:Ct)(hc:bY c):∀n i:Nat,i+n=c.af.length->∀l:List Bs,l.length+n<2^40->
 az Tryz.prog Γ (yfO (.sl 2 0 l.length) (.list false c.kG (c.af.map cZ)) (.int .i64 c.af.length) (.int .i64 i) [.cells (AV.cells (bR c)),.row 1 aD [] none true false,.row 1 aD (l.map .str) none true false]) (.ret (.own 1 aD ((l++(c.af.drop i).map (·.name)).map .str))):=by
 have hG:=c.hG;have hl:=hc.2.2.2.1;intro n
 induction n with
 |zero=>
  intro i hi l hL
  have q1:¬i<c.af.length:=by omega
  rw[bu (by omega)];refine .go 60 ?_;simp[q1];exact .back (by simp)
 |succ n ih=>
  intro i hi l hL
  have q1:i<c.af.length:=by omega
  have q2:=hG.of q1;have hh:=ih (i+1) (by omega) (l++[c.af[i].name]) (by simp;omega);have e:l++(c.af.drop i).map (·.name)=l++[c.af[i].name]++(c.af.drop (i+1)).map (·.name):=FB l (·.name) _ q1;rw[e];refine .go 60 ?_;simp(disch:=omega) [q1,q2];refine .aN ?_;simp;refine .drop 3 rfl (by simp) (by simp) (by simp) ?_;refine .reset (i:=2) rfl (by simp) (by simp) (by simp) ?_;simp[q2]at hh⊢;exact hh
theorem aaz(c:Ct)(hc:bY c):∀n i:Nat,i+n=c.an.length->∀l:List Bs,l.length+n<2^39->
 az Tryz.prog Γ (yfQ (.ptr 0 0) (.sl 2 0 l.length) (.list false c.kL (c.an.map oP)) (.int .i64 c.an.length) (.int .i64 i) [.cells (AV.cells (bR c)),.row 1 aD [] none true false,.row 1 aD (l.map .str) none true false]) (.ret (.own 1 aD ((l++(c.an.drop i).map (·.name)++c.af.map (·.name)).map .str))):=by
 have hG:=c.hL;have hl:=hc.2.2.1;have hl2:=hc.2.2.2.1;intro n
 induction n with
 |zero=>
  intro i hi l hL
  have q1:¬i<c.an.length:=by omega
  have hh:=aa7 (Γ:=Γ) c hc c.af.length 0 (by omega) l (by omega);rw[bu (by omega)];refine .go 60 ?_;simp[q1];refine .inLoop ?_;simp at hh⊢;exact hh
 |succ n ih=>
  intro i hi l hL
  have q1:i<c.an.length:=by omega
  have q2:=hG.of q1;have hh:=ih (i+1) (by omega) (l++[c.an[i].name]) (by simp;omega);have e:l++(c.an.drop i).map (·.name)=l++[c.an[i].name]++(c.an.drop (i+1)).map (·.name):=FB l (·.name) _ q1;rw[e];refine .go 60 ?_;simp(disch:=omega) [q1,q2];refine .aN ?_;simp;refine .drop 3 rfl (by simp) (by simp) (by simp) ?_;refine .reset (i:=2) rfl (by simp) (by simp) (by simp) ?_;simp[q2]at hh⊢;exact hh
theorem Fg(c:Ct)(hc:bY c):aS Tryz.prog Γ n3 [bR c] (.own 1 aD ((aK c).map .str)):=by
 have h1:=hc.1;have h2:=hc.2.2.1;refine .run 60 Wd (by simp) ?_;simp;refine .call 60 (by simp) (r9 c.aM c.hI (by omega)) ?_;simp;refine .inLoop ?_;have hh:=aaz (Γ:=Γ) c hc c.an.length 0 (by omega) c.aM (by omega);simp[aK]at hh⊢;exact hh
abbrev mz(x:Nat×List (List UInt8)):AV:=.list false x.1 (x.2.map AV.str)
def bZ:List (Nat×List (List UInt8))->List (List UInt8)
 |[]=>[]
 |x::xs=>x.2++bZ xs
theorem IY(a b:List (Nat×List (List UInt8))):bZ (a++b)=bZ a++bZ b:=by
 induction a with
 |nil=>rfl
 |cons x a ih=>simp[bZ,ih]
theorem KB(xs:List (Nat×List (List UInt8)))(i:Nat)(h:i<xs.length):bZ (xs.take (i+1))=bZ (xs.take i)++xs[i].2:=by
 rw[kz h,IY];simp[bZ]
theorem L'(xs:List (Nat×List (List UInt8)))(i:Nat):(bZ (xs.take i)).length<=(bZ xs).length:=by
 conv=>rhs;rw[<-nH i xs,IY]
 simp
set_option maxRecDepth 8000 in
theorem Ip(xs:List (Nat×List (List UInt8)))(hk:∀x∈xs,Kd 1 x.1 x.2)(hn:xs.length<2^40)(hs:(bZ xs).length<2^40)(hp:0<(bZ xs).length):
 aS Tryz.prog Γ l9 [.list false 1 (xs.map mz)] (.own 1 aD ((bZ xs).map AV.str)):=by
 refine .run 60 Io (by simp) ?_
 have key2:∀n i:Nat,i+n=xs.length->∀m:Nat,(bZ (xs.take i)).length+m=(bZ xs).length->
  az Tryz.prog Γ (O8 (.sl 2 0 (bZ (xs.take i)).length) (.list false 1 (xs.map mz)) (.int .i64 xs.length) (.int .i64 i) [.row 1 aD [] none true false,.row 1 aD [] none true false,.row 1 aD ((bZ (xs.take i)).map AV.str++List.replicate m (AV.str [])) none true false])
   (.ret (.own 1 aD ((bZ xs).map AV.str))):=by
  intro n
  induction n with
  |zero=>
   intro i hi m hm
   have q1:¬i<xs.length:=by omega
   have q2:xs.take i=xs:=cL (by omega);rw[q2]at hm⊢
   have hm0:m=0:=by omega
   subst hm0;refine .go 60 ?_;simp[q1];exact .back (by simp)
  |succ n ih=>
   intro i hi m hm
   have q1:i<xs.length:=by omega
   have q2:=KB xs i q1;have q3:=L' xs (i+1);rw[q2,bM]at q3;have q4:=hk xs[i] (bC q1);have q5:xs[i].1=1\/xs[i].2=[]:=q4;have hh:=ih (i+1) (by omega) (m-xs[i].2.length) (by rw[q2,bM];omega);rw[q2]at hh
   have hd:(List.replicate m (AV.str [])).drop xs[i].2.length=List.replicate (m-xs[i].2.length) (AV.str []):=by simp
   refine .go 60 ?_
   by_cases q6:(bZ (xs.take i)).length=(bZ xs).length
   ·have q7:xs[i].2=[]:=kq.1 (by omega)
    have hm0:m=0:=by omega
    subst hm0;simp[q7]at hh;simp(disch:=(first|omega|(simp;omega))) [q1,q5,q7];refine .aN ?_;simp;exact hh
   ·simp(disch:=(first|omega|(simp;omega))) [q1,q5]
    by_cases q7:m=0
    ·omega
    ·have c1:¬(bZ (List.take i xs)).length=(bZ (List.take i xs)).length+m:=by omega
     have c2:(bZ (List.take i xs)).length+xs[i].snd.length<=(bZ (List.take i xs)).length+m:=by omega
     simp(disch:=(first|omega|(simp;omega))) [q1,q5,c1,c2,q7];refine .aN ?_;have nB:((bZ (xs.take i)).map AV.str).drop ((bZ (xs.take i)).length+xs[i].2.length)=[]:=bu (by simp);simp[ug,hd,nB]at hh⊢;exact hh
 have key1:∀n i:Nat,i+n=xs.length->
  az Tryz.prog Γ (QV (.list false 1 (xs.map mz)) (.int .i64 (bZ (xs.take i)).length) (.list false 1 (xs.map mz)) (.int .i64 xs.length) (.int .i64 i) [.row 1 aD [] none true false])
   (.ret (.own 1 aD ((bZ xs).map AV.str))):=by
  intro n
  induction n with
  |zero=>
   intro i hi
   have q1:¬i<xs.length:=by omega
   have q2:xs.take i=xs:=cL (by omega);have q3:0<(bZ xs).length:=hp;have hh:=key2 xs.length 0 (by omega) (bZ xs).length (by simp[bZ]);refine .go 60 ?_;rw[q2];simp[q1];refine .enter 60 Iq ?_
   have q4:¬(bZ xs).length=0:=by omega
   have q5:bZ xs≠[]:=fun e=>by rw[e]at hp;simp at hp
   obtain⟨m,hm⟩:∃m,(bZ xs).length=m+1:=⟨(bZ xs).length-1,by omega⟩
   have hrep:List.replicate (bZ xs).length (AV.str [])=(AV.str [])::List.replicate m (AV.str []):=by rw[hm];rfl
   simp(disch:=(first|omega|(simp;omega))) [q3,q4,q5,hrep];refine .inLoop ?_;simp[bZ,hrep]at hh⊢;exact hh
  |succ n ih=>
   intro i hi
   have q1:i<xs.length:=by omega
   have q2:=KB xs i q1;have q3:=L' xs (i+1);rw[q2,bM]at q3;have hh:=ih (i+1) (by omega);rw[q2]at hh;refine .go 60 ?_
   have q4:¬((bZ (xs.take i)).length:Int)+xs[i].2.length<0:=by omega
   simp(disch:=(first|omega|(simp;omega))) [q1,q4];refine .aN ?_;simp at hh⊢;exact hh
 simp;refine .inLoop ?_;have hh:=key1 xs.length 0 (by omega);simp[bZ]at hh⊢;exact hh
set_option maxRecDepth 8000 in
theorem Ik(xs:List (Nat×List (List UInt8)))(hx:∀x∈xs,x.2=[])(hn:xs.length<2^40):
 aS Tryz.prog Γ l9 [.list false 1 (xs.map mz)] (.own 1 aD []):=by
 refine .run 60 Io (by simp) ?_
 have key2:∀n i:Nat,i+n=xs.length->az Tryz.prog Γ (O8 (.list true 0 []) (.list false 1 (xs.map mz)) (.int .i64 xs.length) (.int .i64 i) [.row 1 aD [] none true false,.row 1 aD [] none true false])
  (.ret (.own 1 aD [])):=by
  intro n
  induction n with
  |zero=>
   intro i hi
   have q1:¬i<xs.length:=by omega
   refine .pz 6 1 aD rfl (by omega) ?_;refine .go 60 ?_;simp[q1];exact .back (by simp)
  |succ n ih=>
   intro i hi
   have q1:i<xs.length:=by omega
   have q7:=hx xs[i] (bC q1);have hh:=ih (i+1) (by omega);refine .go 60 ?_;simp(disch:=(first|omega|(simp;omega))) [q1,q7];refine .aN ?_;simp at hh⊢;exact hh
 have key:∀n i:Nat,i+n=xs.length->az Tryz.prog Γ (QV (.list false 1 (xs.map mz)) (.int .i64 0) (.list false 1 (xs.map mz)) (.int .i64 xs.length) (.int .i64 i) [.row 1 aD [] none true false])
  (.ret (.own 1 aD [])):=by
  intro n
  induction n with
  |zero=>
   intro i hi
   have q1:¬i<xs.length:=by omega
   refine .go 60 ?_;simp[q1];refine .enter 60 Iq ?_;simp;refine .inLoop ?_;have hh:=key2 xs.length 0 (by omega);simp at hh⊢;exact hh
  |succ n ih=>
   intro i hi
   have q1:i<xs.length:=by omega
   have q7:=hx xs[i] (bC q1);have hh:=ih (i+1) (by omega);refine .go 60 ?_;simp(disch:=(first|omega|(simp;omega))) [q1,q7];refine .aN ?_;simp at hh⊢;exact hh
 simp;refine .inLoop ?_;have hh:=key xs.length 0 (by omega);simp at hh⊢;exact hh
theorem RU(xs:List (Nat×List (List UInt8)))(hk:∀x∈xs,Kd 1 x.1 x.2)(hn:xs.length<2^40)(hs:(bZ xs).length<2^40):
 aS Tryz.prog Γ l9 [.list false 1 (xs.map mz)] (.own 1 aD ((bZ xs).map AV.str)):=by
 rcases Rk (bZ xs).length with h|h
 ·have h0:bZ xs=[]:=kq.1 h
  have hx:∀x∈xs,x.2=[]:=by
   clear hk hn hs h
   induction xs with
   |nil=>simp
   |cons y ys ih=>
    simp only[bZ,Rs]at h0;intro x hx
    rcases bq.1 hx with rfl|hx
    ·exact h0.1
    ·exact ih h0.2 x hx
  rw[h0];exact Ik xs hx hn
 ·exact Ip xs hk hn hs h
theorem Fq{α β:Type}(a:List β)(f:α->List β)(l:List α){i:Nat}(h:i<l.length):a++(l.drop i).flatMap f=a++f l[i]++(l.drop (i+1)).flatMap f:=by
 rw[bT h,mP,eQ]
def nb(l:List Gt):List Bs:=l.flatMap (·.ins)
def pO(l:List Lt):List Bs:=l.flatMap fun q=>[q.name,q.next]
def oz(l:List Gt):List Bs:=l.flatMap fun g=>g.name::g.ins
def gz(c:Ct):List Bs:=c.bg++c.an.map (·.next)++nb c.af
def pR(c:Ct):List Bs:=c.aM++c.bg++pO c.an++oz c.af
theorem Ac{α β:Type}(f:α->List β)(n:Nat):∀l:List α,(∀x∈l,(f x).length<=n)->(l.flatMap f).length<=l.length*n
 |[],_=>by simp
 |x::l,h=>by
  have h1:=Ac f n l fun y hy=>h y (dY _ hy)
  have h2:=h x (qm ..);rw[mP,bM,b9,Cf];omega
theorem vu{c:Ct}(hc:bY c):(nb c.af).length<=2^20:=by
 have h1:=Ac (·.ins) (2^10) c.af fun g hg=>by have:=(hc.2.2.2.2.1 g hg).2.1;omega
 have h2:=hc.2.2.2.1;unfold nb;omega
theorem vC{c:Ct}(hc:bY c):(oz c.af).length<=2^20:=by
 have h1:=Ac (fun g:Gt=>g.name::g.ins) (2^10) c.af fun g hg=>by have:=(hc.2.2.2.2.1 g hg).2.1;simp;omega
 have h2:=hc.2.2.2.1;unfold oz;omega
theorem sZ{c:Ct}(hc:bY c):(pO c.an).length<=2^20:=by
 have h1:=Ac (fun q:Lt=>[q.name,q.next]) 2 c.an fun g hg=>by simp
 have h2:=hc.2.2.1;unfold pO;omega
theorem abr(c:Ct)(hc:bY c):∀n i:Nat,i+n=c.af.length->∀l:List Bs,l.length+(nb (c.af.drop i)).length<2^40->
 az Tryz.prog Γ (yqM (.sl 2 0 l.length) (.list false c.kG (c.af.map cZ)) (.int .i64 c.af.length) (.int .i64 i) [.cells (AV.cells (bR c)),.row 1 aD [] none true false,.row 1 aD (l.map .str) none true false]) (.ret (.own 1 aD ((l++nb (c.af.drop i)).map .str))):=by
 have hG:=c.hG;have hl:=hc.2.2.1;have hl2:=hc.2.2.2.1;have b1:=vu hc;have b2:=vC hc;have b3:=sZ hc;intro n
 induction n with
 |zero=>
  intro i hi l hL
  have q1:¬i<c.af.length:=by omega
  rw[bu (by omega)];refine .go 60 ?_;simp[q1];exact .back (by simp[nb])
 |succ n ih=>
  intro i hi l hL
  have q1:i<c.af.length:=by omega
  have q2:=hG.of q1;have q3:=(hc.2.2.2.2.1 c.af[i] (bC q1)).2.1;have q4:=c.af[i].hi;have q5:c.af[i].ki=1\/c.af[i].ins=[]:=q4;have e:l++nb (c.af.drop i)=l++c.af[i].ins++nb (c.af.drop (i+1)):=Fq l (fun g:Gt=>g.ins) _ q1;have e2:=congrArg List.length e;simp only[bM,b9,dq]at e2;have hh:=ih (i+1) (by omega) (l++c.af[i].ins) (by simp only[bM,b9,dq];omega);rw[e];refine .go 60 ?_;simp(disch:=omega) [q1,q2,q5];refine .aN ?_;simp;refine .drop 3 rfl (by simp) (by simp) (by simp) ?_;refine .ly (i:=2) rfl (by first|(simp;done)|(by_cases hq:c.af[i].ins=[]<;>simp[hq])) (by simp) (by simp<;>omega) (by simp) ?_;simp[q2]at hh⊢;exact hh
theorem abd(c:Ct)(hc:bY c):∀n i:Nat,i+n=c.an.length->∀l:List Bs,l.length+((c.an.drop i).map (·.next)).length<2^39->
 az Tryz.prog Γ (yqO (.ptr 0 0) (.sl 2 0 l.length) (.list false c.kL (c.an.map oP)) (.int .i64 c.an.length) (.int .i64 i) [.cells (AV.cells (bR c)),.row 1 aD [] none true false,.row 1 aD (l.map .str) none true false]) (.ret (.own 1 aD ((l++(c.an.drop i).map (·.next)++nb c.af).map .str))):=by
 have hG:=c.hL;have hl:=hc.2.2.1;have hl2:=hc.2.2.2.1;have b1:=vu hc;have b2:=vC hc;have b3:=sZ hc;intro n
 induction n with
 |zero=>
  intro i hi l hL
  have q1:¬i<c.an.length:=by omega
  have hh:=abr (Γ:=Γ) c hc c.af.length 0 (by omega) l (by rw[iu];omega);rw[bu (by omega)];refine .go 60 ?_;simp[q1];refine .inLoop ?_;simp at hh⊢;exact hh
 |succ n ih=>
  intro i hi l hL
  have q1:i<c.an.length:=by omega
  have q2:=hG.of q1;have e:l++(c.an.drop i).map (·.next)=l++[c.an[i].next]++(c.an.drop (i+1)).map (·.next):=FB l (·.next) _ q1;have e2:=congrArg List.length e;simp only[bM,b9,dq]at e2;have hh:=ih (i+1) (by omega) (l++[c.an[i].next]) (by simp only[bM,b9,dq];omega);rw[e];refine .go 60 ?_;simp(disch:=omega) [q1,q2];refine .aN ?_;simp;refine .drop 3 rfl (by simp) (by simp) (by simp) ?_;refine .reset (i:=2) rfl (by simp) (by simp) (by simp) ?_;simp[q2]at hh⊢;exact hh
theorem acr(c:Ct)(hc:bY c):aS Tryz.prog Γ sK [bR c] (.own 1 aD ((gz c).map .str)):=by
 have h1:=hc.2.1;have h2:=hc.2.2.1;refine .run 60 WG (by simp) ?_;simp;refine .call 60 (by simp) (r9 c.bg c.hO (by omega)) ?_;simp;refine .inLoop ?_;have hh:=abd (Γ:=Γ) c hc c.an.length 0 (by omega) c.bg (by rw[iu,iq];omega);simp[gz]at hh⊢;exact hh
theorem aaq(c:Ct)(hc:bY c):∀n i:Nat,i+n=c.af.length->∀l:List Bs,l.length+(oz (c.af.drop i)).length<2^40->
 az Tryz.prog Γ (ypQ (.sl 2 0 l.length) (.list false c.kG (c.af.map cZ)) (.int .i64 c.af.length) (.int .i64 i) [.cells (AV.cells (bR c)),.row 1 aD [] none true false,.row 1 aD (l.map .str) none true false]) (.ret (.own 1 aD ((l++oz (c.af.drop i)).map .str))):=by
 have hG:=c.hG;have hl:=hc.2.2.1;have hl2:=hc.2.2.2.1;have b1:=vu hc;have b2:=vC hc;have b3:=sZ hc;intro n
 induction n with
 |zero=>
  intro i hi l hL
  have q1:¬i<c.af.length:=by omega
  rw[bu (by omega)];refine .go 60 ?_;simp[q1];exact .back (by simp[oz])
 |succ n ih=>
  intro i hi l hL
  have q1:i<c.af.length:=by omega
  have q2:=hG.of q1;have q3:=(hc.2.2.2.2.1 c.af[i] (bC q1)).2.1;have q4:=c.af[i].hi;have q5:c.af[i].ki=1\/c.af[i].ins=[]:=q4;have e:l++oz (c.af.drop i)=l++(c.af[i].name::c.af[i].ins)++oz (c.af.drop (i+1)):=Fq l (fun g:Gt=>g.name::g.ins) _ q1;have e2:=congrArg List.length e;simp only[bM,b9,dq]at e2;have hh:=ih (i+1) (by omega) (l++(c.af[i].name::c.af[i].ins)) (by simp only[bM,b9,dq];omega);rw[e];refine .go 60 ?_;simp(disch:=omega) [q1,q2,q5];refine .dr 60 ?_;simp(disch:=omega) [q1,q2,q5];refine .aN ?_;simp;refine .drop 3 rfl (by simp) (by simp) (by simp) ?_;refine .ly (i:=2) rfl (by first|(simp;done)|(by_cases hq:c.af[i].ins=[]<;>simp[hq])) (by simp) (by simp<;>omega) (by simp) ?_
  have e3:l.length+(c.af[i].ins.length+1)=l.length+1+c.af[i].ins.length:=by omega
  simp[q2,e3]at hh⊢;exact hh
theorem Z1(c:Ct)(hc:bY c):∀n i:Nat,i+n=c.an.length->∀l:List Bs,l.length+(pO (c.an.drop i)).length<2^39->
 az Tryz.prog Γ (ypS (.ptr 0 0) (.sl 2 0 l.length) (.list false c.kL (c.an.map oP)) (.int .i64 c.an.length) (.int .i64 i) [.cells (AV.cells (bR c)),.row 1 aD [] none true false,.row 1 aD (l.map .str) none true false]) (.ret (.own 1 aD ((l++pO (c.an.drop i)++oz c.af).map .str))):=by
 have hG:=c.hL;have hl:=hc.2.2.1;have hl2:=hc.2.2.2.1;have b1:=vu hc;have b2:=vC hc;have b3:=sZ hc;intro n
 induction n with
 |zero=>
  intro i hi l hL
  have q1:¬i<c.an.length:=by omega
  have hh:=aaq (Γ:=Γ) c hc c.af.length 0 (by omega) l (by rw[iu];omega);rw[bu (by omega)];refine .go 60 ?_;simp[q1];refine .inLoop ?_;simp[pO]at hh⊢;exact hh
 |succ n ih=>
  intro i hi l hL
  have q1:i<c.an.length:=by omega
  have q2:=hG.of q1;have e:l++pO (c.an.drop i)=l++[c.an[i].name,c.an[i].next]++pO (c.an.drop (i+1)):=Fq l (fun q:Lt=>[q.name,q.next]) _ q1;have e2:=congrArg List.length e;simp only[bM,b9,dq]at e2;have hh:=ih (i+1) (by omega) (l++[c.an[i].name,c.an[i].next]) (by simp only[bM,b9,dq];omega);rw[e];refine .go 60 ?_;simp(disch:=omega) [q1,q2];refine .aN ?_;simp;refine .drop 3 rfl (by simp) (by simp) (by simp) ?_;refine .reset (i:=2) rfl (by simp) (by simp) (by simp) ?_;simp[q2]at hh⊢;exact hh
theorem abC(c:Ct)(hc:bY c):aS Tryz.prog Γ sH [bR c] (.own 1 aD ((pR c).map .str)):=by
 have h1:=hc.1;have h2:=hc.2.1;have h3:=hc.2.2.1;have b3:=sZ hc
 have hx:∀x∈[(c.kI,c.aM),(c.kO,c.bg)],Kd 1 x.1 x.2:=by
  intro x hx;simp only[bq,nP,nG]at hx
  rcases hx with rfl|rfl
  ·exact c.hI
  ·exact c.hO
 have hx2:bZ [(c.kI,c.aM),(c.kO,c.bg)]=c.aM++c.bg:=by simp[bZ]
 have hC:=RU (Γ:=Γ) [(c.kI,c.aM),(c.kO,c.bg)] hx (by simp) (by rw[hx2];simp;omega);rw[hx2]at hC;refine .run 60 V1 (by simp) ?_;simp;refine .call 60 (by simp) hC ?_;simp;refine .inLoop ?_;have hh:=Z1 (Γ:=Γ) c hc c.an.length 0 (by omega) (c.aM++c.bg) (by rw[iu,bM];omega);simp[pR]at hh⊢;exact hh
abbrev Fa(e:Int)(s:Bs):AV:=.bS Dd (.agg [.int .i64 e,.str s])
theorem q_(e:Int)(s:Bs):aS Tryz.prog Γ mV [.bool true,.int .i64 e,.str s] (.aG []):=by
 refine .run 60 Jj (by simp) ?_;simp;exact .back (by simp)
theorem lg(e:Int)(s:Bs):kM Tryz.prog Γ mV [.bool false,.int .i64 e,.str s] (Fa e s):=by
 refine kM.of (hh:=[]) (by simp) (vy Jj _ (.go 60 ?_)) (by simp) (by simp);simp
def mn:List Bs->List Bs->Option Bs
 |_,[]=>none
 |seen,s::l=>if s∈seen then some s else mn (seen++[s]) l
def iD(l:List Bs):Option Bs:=mn [] l
abbrev je(s:Bs):AV×AV:=(.str s,.bool true)
theorem u9(s:Bs):∀l:List Bs,ew (.sc .str) (.str s) (l.map je)=some (if s∈l then some (.bool true)else none)
 |[]=>rfl
 |a::l=>by
  simp only[cn,ew,bX,ez]
  cases h:(s==a)
  ·have h2:=ux.1 h;simp[u9 s l,h2]
  ·have h2:=eq_of_beq h;simp[h2]
theorem y_{s:Bs}{v:AV}:∀{l:List Bs},s∉l->gR (.sc .str) (.str s) v (l.map je)=some (l.map je++[(.str s,v)])
 |[],_=>rfl
 |a::l,h=>by
  simp only[bq,not_or]at h;simp only[cn,gR,bX,ez];have h2:(s==a)=false:=ux.2 h.1;simp[h2,y_ (v:=v) h.2]
@[simp] theorem WZ(n:Nat):∀l:List Bs,fE n (l.map je)=true
 |[]=>rfl
 |x::r=>by simp[fE,WZ n r]
@[simp] theorem W6(n m:Nat):∀l:List Bs,mE n m (l.map je)=true
 |[]=>rfl
 |x::r=>by simp[W6 n m r]
@[simp] theorem Ym(n:Nat)(τ:List Nat):∀l:List Bs,lY n τ (l.map je)=l.map je
 |[]=>rfl
 |x::r=>by simp[Ym n τ r]
@[simp] theorem Zd(n:Nat)(τ:List Nat):∀l:List Bs,oS n τ (l.map je)=true
 |[]=>rfl
 |x::r=>by simp[Zd n τ r]
def B5(h:List Ob):Prop:=∀m,h.length<=m->cw m h=true
theorem aaA(l:List Bs){fl:Bool}{k:Nat}(hk:Kd 1 k l)(hl:l.length<2^40)(h:List Ob)(hw:B5 h)(up:List Fr):∀n i:Nat,i+n=l.length->∀seen,mn seen (l.drop i)=none->AM.Reach Tryz.prog Γ
 (Q0 (.mp h.length) (.list fl k (l.map .str)) (.int .i64 l.length) (.int .i64 i) (h++[.map (seen.map je) true]) ⟨[],.norm,h.length,up⟩)
 (.back up (.mp h.length) (h++[.map ((seen++l.drop i).map je) true])):=by
 intro n
 induction n with
 |zero=>
  intro i hi seen hs
  have q1:¬i<l.length:=by omega
  rw[bu (by omega)];refine .ba 60 ?_;simp[q1]
 |succ n ih=>
  intro i hi seen hs
  have q1:i<l.length:=by omega
  obtain rfl:=hk.of q1;rw[bT q1]at hs⊢;rw[mn]at hs;have hfi:=u9 l[i] seen;have hbw:=hw (h.length+1) (by omega)
  by_cases hm:l[i]∈seen
  ·rw[if_pos hm]at hs;cases hs
  ·rw[if_neg hm]at hs hfi;have hh:=ih (i+1) (by omega) (seen++[l[i]]) hs;have hput:=y_ (v:=.bool true) hm;refine .ba 60 ?_;simp(disch:=omega) [q1,hfi,isKey,b_,cM];refine .na 60 (by simp) (q_ 5 l[i]) ?_;simp(disch:=omega) [hput,isKey,b_,cM];refine .aN ?_;simp at hh⊢;exact hh
theorem Wn(l:List Bs){fl:Bool}{k:Nat}(hk:Kd 1 k l)(hl:l.length<2^40)(h:List Ob)(hw:B5 h)(up:List Fr)(s0:Bs):∀n i:Nat,i+n=l.length->∀seen,mn seen (l.drop i)=some s0->∃h',AM.Reach Tryz.prog Γ
 (Q0 (.mp h.length) (.list fl k (l.map .str)) (.int .i64 l.length) (.int .i64 i) (h++[.map (seen.map je) true]) ⟨[],.norm,h.length,up⟩)
 (.die up (Fa 5 s0) (h++h')):=by
 intro n
 induction n with
 |zero=>
  intro i hi seen hs;rw[bu (by omega)]at hs
  cases hs
 |succ n ih=>
  intro i hi seen hs
  have q1:i<l.length:=by omega
  obtain rfl:=hk.of q1;rw[bT q1]at hs;rw[mn]at hs;have hfi:=u9 l[i] seen;have hbw:=hw (h.length+1) (by omega)
  by_cases hm:l[i]∈seen
  ·rw[if_pos hm]at hs hfi;obtain rfl:=Option.some.inj hs;refine⟨[.map (seen.map je) true],?_⟩;refine .ba 60 ?_;simp(disch:=omega) [q1,hfi,isKey,b_,cM];refine .kV 2 (by simp) (lg 5 l[i]) ?_;simp
  ·rw[if_neg hm]at hs hfi;obtain⟨h',hh⟩:=ih (i+1) (by omega) (seen++[l[i]]) hs;refine⟨h',?_⟩;have hput:=y_ (v:=.bool true) hm;refine .ba 60 ?_;simp(disch:=omega) [q1,hfi,isKey,b_,cM];refine .na 60 (by simp) (q_ 5 l[i]) ?_;simp(disch:=omega) [hput,isKey,b_,cM];refine .aN ?_;simp at hh⊢;exact hh
theorem No(l:List Bs){fl:Bool}{k:Nat}(hk:Kd 1 k l)(hl:l.length<2^40)(h:List Ob)(hw:B5 h)(ht:iD l=none):∀up,AM.Reach Tryz.prog Γ
 (.cl qI [.list fl k (l.map .str)] up h) (.back up (.mp h.length) (h++[.map (l.map je) true])):=by
 intro up;refine .bB 60 Jm ?_;simp;refine .inLoop ?_;have hh:=aaA (Γ:=Γ) (fl:=fl) l hk hl h hw up l.length 0 (by omega) [] ht;simp at hh⊢;exact hh
theorem Mt(l:List Bs){fl:Bool}{k:Nat}(hk:Kd 1 k l)(hl:l.length<2^40)(h:List Ob)(hw:B5 h){s0:Bs}(ht:iD l=some s0):∀up,∃h',AM.Reach Tryz.prog Γ
 (.cl qI [.list fl k (l.map .str)] up h) (.die up (Fa 5 s0) (h++h')):=by
 intro up;have hh:=Wn (Γ:=Γ) (fl:=fl) l hk hl h hw up s0 l.length 0 (by omega) [] ht;obtain⟨h',hh⟩:=hh;refine⟨h',?_⟩;refine .bB 60 Jm ?_;simp;refine .inLoop ?_;simp at hh⊢;exact hh
def oK(c:UInt8):Bool:=decide (c<33)||decide (126<c)
def iK(s:List UInt8):Bool:=!bo oK s&&(decide (1<=s.length)&&decide (s.length<=40))
def oO:List UInt8->Nat->Int
 |[],_=>-1
 |c::s,i=>if oK c=true then(i:Int)else oO s (i+1)
theorem LB:∀(s:List UInt8)(i:Nat),decide (oO s i<0)=!bo oK s
 |[],i=>by simp[oO,qP]
 |c::s,i=>by
  rw[oO,iy]
  cases h:oK c with
  |true=>simp
  |false=>simpa using LB s (i+1)
theorem Kh(r:Int):aS Tryz.prog Γ qw [.int .i32 r] (.bool (decide (r<=32)||decide (126<r))):=by
 refine .run 60 Sw (by simp) ?_
 by_cases h:r<=32<;>simp[h]<;>exact .back (by simp[h])
theorem T3{s:List UInt8}{i:Nat}(h:i<s.length)(ha:s[i].toNat<128):Utf8.decode ⟨s.toArray⟩ i=(s[i].toNat,1):=by
 exact decode_ascii ⟨s.toArray⟩ i (show i<s.toArray.size by simpa using h) ha
theorem Uu{s:List UInt8}{i:Nat}(h:i<s.length)(ha:128<=s[i].toNat):128<=(Utf8.decode ⟨s.toArray⟩ i).1:=by
 exact(decode_high ⟨s.toArray⟩ i (show i<s.toArray.size by simpa using h) ha).1
set_option maxRecDepth 8000 in
theorem U'(s:List UInt8)(hs:s.length<2^40):aS Tryz.prog Γ uM [.str s,.fn (.func qw) [] [],.bool true] (.int .i64 (oO s 0)):=by
 have key:∀n i:Nat,i+n=s.length->az Tryz.prog Γ (yEP (.fn (.func qw) [] []) (.bool true) (.it 0) [.gB s i]) (.ret (.int .i64 (oO (s.drop i) i))):=by
  intro n
  induction n with
  |zero=>
   intro i hi;rw[bu (by omega),oO]
   have q1:¬i<s.length:=by omega
   refine .go 60 ?_;simp[q1];exact .back (by simp)
  |succ n ih=>
   intro i hi
   have q1:i<s.length:=by omega
   rw[bT q1,oO];have hh:=ih (i+1) (by omega)
   by_cases ha:s[i].toNat<128
   ·have hd:=T3 q1 ha
    have e:(decide ((s[i].toNat:Int)<=32)||decide (126<(s[i].toNat:Int)))=oK s[i]:=by
     unfold oK;simp only[UInt8.lt_iff_toNat_lt,show(33:UInt8).toNat=33 from rfl,show(126:UInt8).toNat=126 from rfl]
     congr 1<;>exact decide_eq_decide.2 (by omega)
    have hc:=Kh (Γ:=Γ) (s[i].toNat:Int);rw[e]at hc;refine .go 60 ?_;simp[q1,hd];refine .call 60 (by simp) hc ?_
    cases ho:oK s[i]with
    |true=>simp;exact .back (by simp)
    |false=>
     simp;refine .aN ?_;simp at hh⊢;exact hh
   ·have hd:=Uu q1 (by omega)
    have ho:oK s[i]=true:=by unfold oK;simp only[UInt8.lt_iff_toNat_lt,show(33:UInt8).toNat=33 from rfl,show(126:UInt8).toNat=126 from rfl,eH,bd];omega
    rw[ho];have hc:=Kh (Γ:=Γ) ((Utf8.decode ⟨s.toArray⟩ i).1:Int)
    have e:(decide (((Utf8.decode ⟨s.toArray⟩ i).1:Int)<=32)||decide (126<((Utf8.decode ⟨s.toArray⟩ i).1:Int)))=true:=by
     simp only[eH,bd];right;omega
    rw[e]at hc;refine .go 60 ?_;simp[q1];refine .call 60 (by simp) hc ?_;simp;exact .back (by simp)
 refine .run 60 SB (by simp) ?_;simp;refine .inLoop ?_;have hh:=key s.length 0 (by omega);simp at hh⊢;exact hh
theorem Vn(s:List UInt8)(hs:s.length<2^40):aS Tryz.prog Γ xv [.str s,.fn (.func qw) [] []] (.int .i64 (oO s 0)):=by
 refine .run 60 SH (by simp) ?_;simp;refine .call 60 (by simp) (U' s hs) ?_;simp;exact .back (by simp)
theorem abn(s:List UInt8):aS Tryz.prog Γ xz [.str s] (.bool (iK s)):=by
 refine .run 60 SQ (by simp) ?_;unfold iK
 by_cases h0:s=[]
 ·subst h0;simp;exact .back (by simp)
 ·have h1:1<=s.length:=qk.2 h0;have h0':¬s=[]:=h0
  by_cases h2:s.length<=40
  ·have h2':(s.length:Int)<=40:=by omega
   simp[h0,h2,h2'];refine .call 60 (by simp) (Vn s (by omega)) ?_;have e:=LB s 0;simp[e];exact .back (by simp[h0,h1,h2])
  ·have h2':¬(s.length:Int)<=40:=by omega
   simp[h0,h2,h2'];exact .back (by simp[h2])
theorem NF(s:List UInt8):aS Tryz.prog Γ uV [.str s] (.bool (iK s)):=by
 refine .run 60 UD (by simp) ?_;simp;refine .call 60 (by simp) (abn s) ?_;simp;exact .back (by simp)
theorem Tb{φ:List Ob->Prop}{f:FuncId}{caps:List AV}{p:Gt->Bool}{l:List Gt}{k:Nat}{fl:Bool}(ha:ic Tryz.prog Γ φ f caps cZ p l)(hk:Kd 5 k l)(hs:l.length<2^60){h:List Ob}(hφ:φ h):
 ∀up,AM.Reach Tryz.prog Γ (.cl uC [.list fl k (l.map cZ),.fn (.func f) [] caps] up h) (.back up (.int .i64 (eh p l 0)) h):=by
 intro up
 have key:∀n i:Nat,i+n=l.length->AM.Reach Tryz.prog Γ (yws (.list fl k (l.map cZ)) (.fn (.func f) [] caps) (.int .i64 l.length) (.int .i64 i) h ⟨[],.norm,h.length,up⟩) (.back up (.int .i64 (eh p (l.drop i) i)) h):=by
  intro n
  induction n with
  |zero=>
   intro i hi
   have h1:¬i<l.length:=by omega
   refine .ba 60 ?_;rw[bu (by omega)];simp[h1,eh]
  |succ n ih=>
   intro i hi
   have h1:i<l.length:=by omega
   obtain rfl:=hk.of h1;have h2:=ha.2 l[i] (bC h1);rw[bT h1,eh];have hh:=ih (i+1) (by omega);refine .ba 60 ?_;simp[h1,ha.1];refine .a_ 60 (fun up=>h2 up h hφ) ?_
   cases hp:p l[i]with
   |true=>simp(disch:=omega) [hp]
   |false=>
    simp(disch:=omega) [hp];refine .aN ?_;simp at hh⊢;exact hh
 refine .bB 60 RE ?_;simp;refine .inLoop ?_;have hh:=key l.length 0 (by omega);simp at hh⊢;exact hh
theorem Ix{φ:List Ob->Prop}{f:FuncId}{caps:List AV}{p:Gt->Bool}{l:List Gt}{k:Nat}{fl:Bool}(ha:ic Tryz.prog Γ φ f caps cZ p l)(hk:Kd 5 k l)(hs:l.length<2^60){h:List Ob}(hφ:φ h):
 ∀up,AM.Reach Tryz.prog Γ (.cl xg [.list fl k (l.map cZ),.fn (.func f) [] caps] up h) (.back up (.bool (bo p l)) h):=by
 intro up;refine .bB 60 RA ?_;simp;refine .a_ 60 (Tb ha hk hs hφ) ?_;have h1:=z_ p l 0
 cases hp:bo p l with
 |true=>rw[hp]at h1;simp at h1;simp[h1]
 |false=>
  rw[hp]at h1
  have h2:¬0<=eh p l 0:=by rw[h1];simp
  simp[h2]
def rj(g:Gt):Bool:=decide (8<g.ins.length)||decide (128<g.rows.length)
def iO(c:Ct):Bool:=bo rj c.af||(decide (200<c.aM.length+c.an.length+c.af.length)||decide (200<c.bg.length))
def gO(N:List Bs):List Bs->Int×Bs
 |[]=>(0,[])
 |s::l=>if s∈N then gO N l else(6,s)
def jd(r:Int×Bs):List Gt->Int×Bs
 |[]=>r
 |g::l=>if kR g=true then jd r l else(1,g.name)
def lr(q:Lt):Bool:=decide (0<=q.init)&&decide (q.init<=2)
def j_(r:Int×Bs):List Lt->Int×Bs
 |[]=>r
 |q::l=>if lr q=true then j_ r l else(1,q.name)
def m8(r:Int×Bs):List Bs->Int×Bs
 |[]=>r
 |s::l=>if iK s=true then m8 r l else(4,s)
def lR:Option Bs->Int×Bs->Int×Bs
 |some s,_=>(5,s)
 |none,r=>r
def h_(c:Ct):Int×Bs:=
 if iO c=true then(8,[])else m8 (lR (iD (aK c)) (lR (iD c.bg) (j_ (jd (gO (aK c) (gz c)) c.af) c.an))) (pR c)
abbrev rC(r:Int×Bs):AV:=.aG [.int .i64 r.1,.str r.2]
theorem aa4(g:Gt):aS Tryz.prog Γ uS [cZ g] (.bool (rj g)):=by
 refine .run 60 TZ (by simp) ?_;unfold rj;have e1:((8:Int)<g.ins.length)=(8<g.ins.length):=propext (by omega);have e2:((128:Int)<g.rows.length)=(128<g.rows.length):=propext (by omega)
 by_cases h1:8<g.ins.length<;>simp[e1,e2,h1]<;>exact .back (by simp[h1])
theorem Mp(l:List Gt):ic Tryz.prog Γ (fun _=>True) uS [] cZ rj l:=by
 refine⟨by simp,fun g hg up h hφ=>?_⟩;exact Reach.adD (by simp) (aa4 g) (fun _=>rfl) (by simp) up
abbrev BX:Cx:=⟨[.call xI [.ptr 1 0,.ptr 2 0]],.norm,0,[]⟩
abbrev Gx(c:Ct):List Ob:=[.cells (AV.cells (bR c)),.cells [.int .i64 0],.cells [.str []]]
abbrev rI(c:Ct)(N:List Bs):List Ob:=[.cells (AV.cells (bR c)),.cells [.int .i64 0],.cells [.str []],.map (N.map je) true]
set_option maxRecDepth 8000 in
theorem acM(c:Ct)(N:List Bs)(l:List Bs)(hl:l.length<2^40):∀n i:Nat,i+n=l.length->
 az Tryz.prog Γ (yiC (.ptr 1 0) (.ptr 2 0) (.mp 3) (.list false 1 (l.map .str)) (.int .i64 l.length) (.int .i64 i) (rI c N) BX) (.ret (rC (gO N (l.drop i)))):=by
 intro n
 induction n with
 |zero=>
  intro i hi
  have q1:¬i<l.length:=by omega
  rw[bu (by omega),gO];refine .go 160 ?_;simp[q1];exact .back (by simp)
 |succ n ih=>
  intro i hi
  have q1:i<l.length:=by omega
  have hfi:=u9 l[i] N;rw[bT q1,gO];have hh:=ih (i+1) (by omega);refine .go 160 ?_
  by_cases hm:l[i]∈N
  ·rw[if_pos hm]at hfi⊢;simp[q1,hfi,isKey,b_,cM];refine .call 160 (by simp) (q_ 6 l[i]) ?_;simp(disch:=omega);refine .aN ?_;simp at hh⊢;exact hh
  ·rw[if_neg hm]at hfi⊢;simp[q1,hfi,isKey,b_,cM];refine .kV 160 (by simp) (lg 6 l[i]) ?_;simp;refine .dr 90 ?_;simp;exact .back (by simp)
theorem abE:eL (mF GR) GR.length []=[[0,1,2,3,4],[0,2,1,3,4],[0,2,3,1,4],[2,0,1,3,4],[2,0,3,1,4],[2,3,0,1,4]]:=by rfl
set_option maxRecDepth 8000 in
theorem acO(hΓ:jh Γ)(c:Ct)(hc:bY c)(N:List Bs):∀n i:Nat,i+n=c.af.length->
 az Tryz.prog Γ (yiE (.ptr 0 0) (.ptr 1 0) (.ptr 2 0) (.mp 3) (.list false c.kG (c.af.map cZ)) (.int .i64 c.af.length) (.int .i64 i) (rI c N) BX) (.ret (rC (jd (gO N (gz c)) (c.af.drop i)))):=by
 have b:=hc.2.2.2.1;have b1:=vu hc;have b2:=hc.2.1;have b3:=hc.2.2.1;intro n
 induction n with
 |zero=>
  intro i hi
  have q1:¬i<c.af.length:=by omega
  have hh:=acM (Γ:=Γ) c N (gz c) (by simp only[gz,bM,iq];omega) (gz c).length 0 (by omega);rw[bu (by omega),jd];refine .go 160 ?_;simp[q1];refine .call 1 (by simp) (acr c hc) ?_;simp;refine .trees [92] ?_;refine .drop 4 rfl (by simp) (by simp) (by simp) ?_;refine .go 60 ?_;simp;refine .inLoop ?_;simp at hh⊢;exact hh
 |succ n ih=>
  intro i hi
  have q1:i<c.af.length:=by omega
  have q2:=c.hG.of q1;have hG:=acy hΓ c.af[i] (hc.2.2.2.2.1 _ (bC q1));rw[bT q1,jd];have hh:=ih (i+1) (by omega)
  cases hb:kR c.af[i]with
  |true=>
   rw[hb]at hG;refine .go 160 ?_;simp[q1,q2];refine .dr 160 ?_;simp;refine f_.call (by simp) hG ?_;simp;refine f_.call (by simp) (q_ 1 c.af[i].name) ?_;simp(disch:=omega);refine .aN ?_;simp;refine .drop 4 rfl (by simp) (by simp) (by simp) ?_;simp[q2,rI]at hh⊢;exact hh
  |false=>
   rw[hb]at hG;refine .go 160 ?_;simp[q1,q2];refine .O4 60 ?_;rw[abE];intro l hl;simp only[bq,nP,nG]at hl
   rcases hl with rfl|rfl|rfl|rfl|rfl|rfl
   all_goals
    simp;refine .wb 60 (by simp) hG ?_;simp;refine .kV 160 (by simp) (lg 1 c.af[i].name) ?_;simp;refine .dr 90 ?_;simp;exact .back (by simp)
set_option maxRecDepth 8000 in
theorem acQ(hΓ:jh Γ)(c:Ct)(hc:bY c)(N:List Bs):∀n i:Nat,i+n=c.an.length->
 az Tryz.prog Γ (yiG (.ptr 0 0) (.ptr 1 0) (.ptr 2 0) (.mp 3) (.list false c.kL (c.an.map oP)) (.int .i64 c.an.length) (.int .i64 i) (rI c N) BX) (.ret (rC (j_ (jd (gO N (gz c)) c.af) (c.an.drop i)))):=by
 have b:=hc.2.2.2.1;have b3:=hc.2.2.1;intro n
 induction n with
 |zero=>
  intro i hi
  have q1:¬i<c.an.length:=by omega
  have hh:=acO (Γ:=Γ) hΓ c hc N c.af.length 0 (by omega);rw[bu (by omega),j_];refine .go 160 ?_;simp[q1];refine .inLoop ?_;simp[rI]at hh⊢;exact hh
 |succ n ih=>
  intro i hi
  have q1:i<c.an.length:=by omega
  have q2:=c.hL.of q1;rw[bT q1,j_];have hh:=ih (i+1) (by omega);refine .go 160 ?_
  by_cases h1:0<=c.an[i].init
  ·by_cases h2:c.an[i].init<=2
   ·have e:lr c.an[i]=true:=by simp[lr,h1,h2]
    simp[q1,q2,h1,h2,e];refine .call 160 (by simp) (q_ 1 c.an[i].name) ?_;simp(disch:=omega);refine .aN ?_;simp;refine .drop 4 rfl (by simp) (by simp) (by simp) ?_;simp[q2,rI]at hh⊢;exact hh
   ·have e:lr c.an[i]=false:=by simp[lr,h2]
    simp[q1,q2,h1,h2,e];refine .kV 160 (by simp) (lg 1 c.an[i].name) ?_;simp;refine .dr 90 ?_;simp;exact .back (by simp)
  ·have e:lr c.an[i]=false:=by simp[lr,h1]
   simp[q1,q2,h1,e];refine .kV 160 (by simp) (lg 1 c.an[i].name) ?_;simp;refine .dr 90 ?_;simp;exact .back (by simp)
theorem az.jG{P:Program}(n:Nat){f:FuncId}{args:List AV}{up:List Fr}{h:List Ob}{v:AV}{o:Out}(h1:∀up,∃h',AM.Reach P Γ (.cl f args up h) (.die up v (h++h')))(h2:∀h',az P Γ (AM.go P Γ 0 n (.die up v (h++h'))) o):az P Γ (.cl f args up h) o:=by
 obtain⟨h',hr⟩:=h1 up;exact .reach hr (.go n (h2 h'))
set_option maxRecDepth 8000 in
theorem acV(hΓ:jh Γ)(c:Ct)(hc:bY c)(l:List Bs):∀n i:Nat,i+n=l.length->l.length<2^40->
 az Tryz.prog Γ (yiI (.ptr 0 0) (.ptr 1 0) (.ptr 2 0) (.list false 1 (l.map .str)) (.int .i64 l.length) (.int .i64 i) (Gx c) BX)
  (.ret (rC (m8 (lR (iD (aK c)) (lR (iD c.bg) (j_ (jd (gO (aK c) (gz c)) c.af) c.an))) (l.drop i)))):=by
 have b0:=hc.1;have b1:=hc.2.1;have b3:=hc.2.2.1;have b4:=hc.2.2.2.1;intro n
 induction n with
 |zero=>
  intro i hi hL
  have q1:¬i<l.length:=by omega
  have hN:(aK c).length<2^40:=by simp[aK];omega
  rw[bu (by omega),m8];refine .go 160 ?_;simp[q1];refine .call 1 (by simp) (Fg c hc) ?_;simp;refine .trees [54] ?_;simp;refine .go 2 ?_;simp
  cases ht:iD (aK c)with
  |some s0=>
   refine az.jG 160 (Mt (Γ:=Γ) (fl:=false) (aK c) .self hN _ (by intro m hm;simp) ht) (fun h'=>?_);simp;refine .dr 90 ?_;simp;exact .back (by simp[lR])
  |none=>
   refine .a_ 160 (No (Γ:=Γ) (fl:=false) (aK c) .self hN _ (by intro m hm;simp) ht) ?_;simp
   cases hu:iD c.bg with
   |some s0=>
    refine az.jG 160 (Mt (Γ:=Γ) (fl:=false) c.bg c.hO (by omega) _ (by intro m hm;simp) hu) (fun h'=>?_);simp;refine .dr 90 ?_;simp;exact .back (by simp[lR])
   |none=>
    have hh:=acQ (Γ:=Γ) hΓ c hc (aK c) c.an.length 0 (by omega);refine .a_ 160 (No (Γ:=Γ) (fl:=false) c.bg c.hO (by omega) _ (by intro m hm;simp) hu) ?_;simp;refine .inLoop ?_;simp;refine .gc 3 [1] (by simp) (by decide) ?_;simp[rI,lR]at hh⊢;exact hh
 |succ n ih=>
  intro i hi hL
  have q1:i<l.length:=by omega
  rw[bT q1,m8];have hh:=ih (i+1) (by omega) hL;refine .go 160 ?_;simp[q1];refine .call 160 (by simp) (NF l[i]) ?_
  cases hb:iK l[i]with
  |true=>
   simp;refine .call 160 (by simp) (q_ 4 l[i]) ?_;simp(disch:=omega);refine .aN ?_;simp at hh⊢;exact hh
  |false=>
   simp;refine .kV 160 (by simp) (lg 4 l[i]) ?_;simp;refine .dr 90 ?_;simp;exact .back (by simp)
set_option maxRecDepth 8000 in
theorem aav(hΓ:jh Γ)(c:Ct)(hc:bY c):aS Tryz.prog Γ mT [bR c] (rC (h_ c)):=by
 have b0:=hc.1;have b1:=hc.2.1;have b3:=hc.2.2.1;have b4:=hc.2.2.2.1;have t1:=sZ hc;have t2:=vC hc;have hC:=Ix (Γ:=Γ) (fl:=false) (Mp c.af) c.hG (by omega) (h:=Gx c) trivial;have e0:((c.aM.length:Int)+c.an.length+c.af.length<=200)=(c.aM.length+c.an.length+c.af.length<=200):=propext (by omega);have e1:((c.bg.length:Int)<=200)=(c.bg.length<=200):=propext (by omega);refine .run 160 I6 (by simp) ?_;unfold h_
 by_cases h1:c.aM.length+c.an.length+c.af.length<=200
 ·by_cases h2:c.bg.length<=200
  ·simp(disch:=omega) [e0,e1,h1,h2];refine .a_ 160 hC ?_
   cases h3:bo rj c.af with
   |true=>
    have hl:iO c=true:=by simp[iO,h3]
    simp;refine .kV 160 (by simp) (lg 8 []) ?_;simp;refine .dr 90 ?_;simp;exact .back (by simp[hl])
   |false=>
    have hl:iO c=false:=by
     simp only[iO,h3,mN,ju,iV];omega
    have hh:=acV (Γ:=Γ) hΓ c hc (pR c) (pR c).length 0 (by omega) (by simp[pR];omega);simp;refine .call 160 (by simp) (q_ 8 []) ?_;simp;refine .call 1 (by simp) (abC c hc) ?_;simp;refine .trees [42] ?_;simp;refine .drop 3 rfl (by simp) (by simp) (by simp) ?_;refine .go 60 ?_;simp;refine .inLoop ?_;simp[hl]at hh⊢;exact hh
  ·have hl:iO c=true:=by
    simp only[iO,eH,bd];right;right;omega
   simp(disch:=omega) [e0,e1,h1,h2];refine .kV 160 (by simp) (lg 8 []) ?_;simp;refine .dr 90 ?_;simp;exact .back (by simp[hl])
 ·have hl:iO c=true:=by
   simp only[iO,eH,bd];right;left;omega
  simp(disch:=omega) [e0,e1,h1];refine .kV 160 (by simp) (lg 8 []) ?_;simp;refine .dr 90 ?_;simp;exact .back (by simp[hl])
def ie(s:List UInt8):List (List UInt8)->Nat->Int
 |[],_=>-1
 |a::l,i=>if s=a then(i:Int)else ie s l (i+1)
theorem Ld(s:List UInt8):∀(l:List (List UInt8))(i:Nat),decide (0<=ie s l i)=l.contains s
 |[],i=>by simp[ie]
 |a::l,i=>by
  rw[ie,List.contains_cons]
  by_cases h:s=a
  ·rw[if_pos h];simp[h]
  ·rw[if_neg h,Ld s l (i+1)]
   have:(s==a)=false:=by simpa using h
   rw[this];rfl
theorem En(l:List (List UInt8))(s:List UInt8){k:Nat}(hk:Kd 1 k l)(hl:l.length<2^40):aS Tryz.prog Γ qt [.list false k (l.map .str),.str s] (.int .i64 (ie s l 0)):=by
 have key:∀n i:Nat,i+n=l.length->az Tryz.prog Γ (yfr (.list false k (l.map .str)) (.str s) (.int .i64 l.length) (.int .i64 i) []) (.ret (.int .i64 (ie s (l.drop i) i))):=by
  intro n
  induction n with
  |zero=>
   intro i hi
   have q1:¬i<l.length:=by omega
   rw[bu (by omega),ie];refine .go 60 ?_;simp[q1];exact .back (by simp)
  |succ n ih=>
   intro i hi
   have q1:i<l.length:=by omega
   have q2:=cF (hk.of q1);have hh:=ih (i+1) (by omega);rw[bT q1,ie];refine .go 60 ?_
   by_cases h:s=l[i]
   ·simp[q1,q2,h];exact .back (by simp)
   ·simp(disch:=omega) [q1,q2,h];refine .aN ?_;simp at hh⊢;exact hh
 refine .run 60 RW (by simp) ?_;simp;refine .inLoop ?_;have hh:=key l.length 0 (by omega);simp at hh⊢;exact hh
theorem Cm(a b:List (List UInt8)){ka kb:Nat}(ha:Kd 1 ka a)(hb:Kd 1 kb b)(hs:a.length<2^60):aS Tryz.prog Γ qu [.list false ka (a.map AV.str),.list false kb (b.map AV.str)] (.bool (decide (a=b))):=by
 refine .run 60 RY (by simp) ?_
 by_cases hl:a.length=b.length
 ·have key:∀n i:Nat,i+n=a.length->az Tryz.prog Γ (ymC (.list false ka (a.map AV.str)) (.list false kb (b.map AV.str)) (.int .i64 a.length) (.int .i64 i) []) (.ret (.bool (decide (a.drop i=b.drop i)))):=by
   intro n
   induction n with
   |zero=>
    intro i hi;refine .go 60 ?_
    have h1:¬i<a.length:=by omega
    have h2:a.drop i=b.drop i:=by rw[bu (by omega),bu (by omega)]
    simp[h1,h2];exact .back (by simp)
   |succ n ih=>
    intro i hi
    have h1:i<a.length:=by omega
    have h2:i<b.length:=by omega
    obtain rfl:=ha.of h1;obtain rfl:=hb.of h2;have h4:=drop_eq h1 h2;refine .go 60 ?_
    by_cases h3:a[i]=b[i]
    ·simp(disch:=omega) [h1,h2,h3,h4];refine .aN ?_;simpa using ih (i+1) (by omega)
    ·simp(disch:=omega) [h1,h2,h3,h4];exact .back (by simp)
  simp[hl];refine .inLoop ?_;simpa[hl]using key a.length 0 (by omega)
 ·have h2:¬a=b:=fun e=>hl (by rw[e])
  simp[hl,h2];exact .back (by simp)
theorem UP(a b:List (List UInt8)){ka kb:Nat}(ha:Kd 1 ka a)(hb:Kd 1 kb b)(hs:a.length<2^60):aS Tryz.prog Γ u5 [.list false ka (a.map .str),.list false kb (b.map .str)] (.bool (decide (a=b))):=by
 refine .run 60 VA (by simp) ?_
 by_cases hl:a.length=b.length
 ·have key:∀n i:Nat,i+n=a.length->az Tryz.prog Γ (ycM (.list false ka (a.map .str)) (.list false kb (b.map .str)) (.int .i64 i) []) (.ret (.bool (decide (a.drop i=b.drop i)))):=by
   intro n
   induction n with
   |zero=>
    intro i hi;refine .go 60 ?_
    have h1:¬i<a.length:=by omega
    have h2:a.drop i=b.drop i:=by rw[bu (by omega),bu (by omega)]
    simp[h1,h2];exact .back (by simp)
   |succ n ih=>
    intro i hi
    have h1:i<a.length:=by omega
    have h2:i<b.length:=by omega
    obtain rfl:=ha.of h1;obtain rfl:=hb.of h2;have h4:=drop_eq h1 h2;refine .go 60 ?_
    by_cases h3:a[i]=b[i]
    ·simp(disch:=omega) [h1,h2,h3,h4];refine .aN ?_;simpa using ih (i+1) (by omega)
    ·simp(disch:=omega) [h1,h2,h3,h4];exact .back (by simp)
  simp[hl];refine .inLoop ?_;simpa[hl]using key a.length 0 (by omega)
 ·have h2:¬a=b:=fun e=>hl (by rw[e])
  simp[hl,h2];exact .back (by simp)
theorem ME{c:Ct}(hc:bY c):(aK c).length<2^12:=by
 have b0:=hc.1;have b3:=hc.2.2.1;have b4:=hc.2.2.2.1
 simp[aK];omega
def Fc(c:Ct)(s:Bs):Int:=ie s (aK c) 0
theorem aaV(c:Ct)(hc:bY c)(s:Bs):aS Tryz.prog Γ y0 [bR c,.str s] (.int .i64 (Fc c s)):=by
 have hN:=ME hc;refine .run 60 U5 (by simp) ?_;simp;refine .call 60 (by simp) (Fg c hc) ?_;simp;refine .call 60 (by simp) (En (aK c) s (k:=1) .self (by omega)) ?_;simp;exact .back (by simp[Fc])
abbrev Gt.key(g:Gt):Bs×Int×Bool×List Bs×List Bs:=(g.name,g.op,g.off,g.ins,g.rows)
end Go.Proofs.YtihmomicdpkabaaGreatDoor
namespace Go.Proofs.YtihmomicdpkabaaGreatDoor
open Go.AM Go.Proofs
theorem pH(a b:List UInt8):bX (.sc .str) (.str a) (.str b)=some (decide (a=b)):=by
 simp only[bX,ez]
 by_cases h:a=b<;>simp[h]
theorem Ak(a b:Nat):bX (.sc .int) (.int .i64 a) (.int .i64 b)=some (decide (a=b)):=by
 simp only[bX,ez]
 by_cases h:a=b
 ·simp[h]
 ·have h2:¬(a:Int)=b:=by omega
  simp[h,h2]
section
variable{K:Type}[DecidableEq K]{E:EK}{e:K->AV}(he:∀a b,bX E (e a) (e b)=some (decide (a=b)))
def getM{V:Type}(k:K):List (K×V)->Option V
 |[]=>none
 |(a,v)::l=>if k=a then some v else getM k l
def nr{V:Type}(k:K)(l:List (K×V)):List (K×V):=l.filter fun x=>decide (¬x.1=k)
theorem getM_none{V:Type}{k:K}:∀{l:List (K×V)},getM k l=none↔∀x∈l,¬x.1=k
 |[]=>by simp[getM]
 |(a,v)::l=>by
  rw[getM]
  by_cases h:k=a
  ·rw[if_pos h];simp[h]
  ·rw[if_neg h,getM_none];simp only[bq,Ii];exact⟨fun h1=>⟨fun h2=>h h2.symm,h1⟩,fun h1=>h1.2⟩
include he
theorem y5{V:Type}(ev:V->AV)(k:K):∀l:List (K×V),ew E (e k) (l.map fun x=>(e x.1,ev x.2))=some ((getM k l).map ev)
 |[]=>rfl
 |(a,v)::l=>by
  simp only[cn,ew,he,getM]
  by_cases h:k=a
  ·simp[h]
  ·simp only[h,l6,de];exact y5 ev k l
theorem D3{V:Type}(ev:V->AV){k:K}(v:V):∀{l:List (K×V)},getM k l=none->gR E (e k) (ev v) (l.map fun x=>(e x.1,ev x.2))=some ((l++[(k,v)]).map fun x=>(e x.1,ev x.2))
 |[],_=>rfl
 |(a,u)::l,h=>by
  rw[getM]at h
  by_cases h2:k=a
  ·rw[if_pos h2]at h;cases h
  ·rw[if_neg h2]at h;simp only[cn,gR,he,h2,l6,D3 ev v h,dp,fh]
theorem Kt{V:Type}(ev:V->AV)(k:K):∀{l:List (K×V)},(l.map (·.1)).Nodup->lH E (e k) (l.map fun x=>(e x.1,ev x.2))=some ((nr k l).map fun x=>(e x.1,ev x.2))
 |[],_=>rfl
 |(a,u)::l,h=>by
  simp only[cn,l8]at h
  by_cases h2:k=a
  ·subst h2
   have h3:nr k l=l:=by
    unfold nr;rw[w9];intro x hx
    refine qo fun hn=>h.1 ?_
    rw[<-hn];exact rY hx
   have h4:nr k ((k,u)::l)=l:=by rw[<-h3];simp[nr]
   simp only[cn,lH,he,decide_true,h4]
  ·have h4:nr k ((a,u)::l)=(a,u)::nr k l:=by
    unfold nr;rw[xd,if_pos (by simpa using fun h=>h2 h.symm)]
   simp only[cn,lH,he,h2,l6,Kt ev k h.2,dp,h4]
end
end Go.Proofs.YtihmomicdpkabaaGreatDoor
namespace Go.Proofs.YtihmomicdpkabaaGreatDoor
open Go.AM Go.Proofs
variable{Γ:Nat->Option AV}
def bW(c:Ct):List (Bs×Nat):=c.af.zipIdx.map fun x=>(x.1.name,x.2)
abbrev gH(x:Bs×Nat):AV×AV:=(.str x.1,.int .i64 x.2)
theorem m6(m:Nat):∀l:List (Bs×Nat),fE m (l.map gH)=true
 |[]=>rfl
 |x::l=>by simp[m6 m l]
theorem s9(c:Ct):(bW c).length=c.af.length:=by simp[bW]
theorem vM(c:Ct)(i:Nat)(h:i<c.af.length):(bW c)[i]'(by rw[s9];exact h)=(c.af[i].name,i):=by simp[bW]
theorem Yo(c:Ct):(bW c).map (·.1)=c.af.map (·.name):=by
 apply List.ext_getElem
 ·simp[bW]
 ·intro i h1 h2;simp[bW]
theorem Yl{c:Ct}(hd:(c.af.map (·.name)).Nodup){i:Nat}(h:i<c.af.length):getM c.af[i].name ((bW c).take i)=none:=by
 rw[getM_none];intro x hx hn;obtain⟨j,hj,rfl⟩:=o7 hx
 have hj':j<i:=by simp at hj;omega
 rw[rS,vM c j (by omega)]at hn
 have h1:(c.af.map (·.name))[j]'(by simp;omega)=(c.af.map (·.name))[i]'(by simp;omega):=by simpa using hn
 have:=(Cg hd).1 h1;omega
set_option maxRecDepth 8000 in
theorem LA(c:Ct)(hc:bY c)(hd:(c.af.map (·.name)).Nodup){h:List Ob}(hw:cI h)(up:List Fr):
 AM.Reach Tryz.prog Γ (.cl sn [bR c] up h) (.back up (.mp (h.length+1)) (h++[.cells (AV.cells (bR c)),.map ((bW c).map gH) true])):=by
 have hG:=c.hG;have hb:=hw (h.length+2) (by omega)
 have key:∀n i:Nat,i+n=c.af.length->AM.Reach Tryz.prog Γ (ynx (.mp (h.length+1)) (.list false c.kG (c.af.map cZ)) (.int .i64 c.af.length) (.int .i64 i) (h++[.cells (AV.cells (bR c)),.map (((bW c).take i).map gH) true]) ⟨[],.norm,h.length,up⟩)
  (.back up (.mp (h.length+1)) (h++[.cells (AV.cells (bR c)),.map ((bW c).map gH) true])):=by
  intro n
  induction n with
  |zero=>
   intro i hi
   have q1:¬i<c.af.length:=by omega
   rw[cL (by rw[s9];omega)];refine .ba 60 ?_;simp[q1]
  |succ n ih=>
   intro i hi
   have q1:i<c.af.length:=by omega
   have q2:=cF (hG.of q1);have hh:=ih (i+1) (by omega)
   have q3:i<(bW c).length:=by rw[s9];exact q1
   have e1:(bW c).take (i+1)=(bW c).take i++[(c.af[i].name,i)]:=by rw[kz q3,vM c i q1]
   rw[e1]at hh;have hput:=D3 (E:=.sc .str) (e:=AV.str) pH (fun n:Nat=>AV.int .i64 n) i (Yl hd q1);have hbp:=m6 (h.length+2) ((bW c).take i++[(c.af[i].name,i)])
   have hi2:i<2^10:=by have:=hc.2.2.2.1;omega
   generalize(bW c).take i=P at*;refine .ba 60 ?_;simp(disch:=omega) [q1,q2,isKey,b_,cM,hput];refine .aN ?_;simp;refine .ml (h.length+2) (by simp;rfl) (by simp) (by simp) (by simp[hb]at hbp⊢;exact hbp) ?_;simp at hh⊢;exact hh
 refine .bB 60 TK ?_;simp;refine .inLoop ?_;have hh:=key c.af.length 0 (by omega);simp at hh⊢;exact hh
abbrev gL(c:Ct):AV:=.list false c.kG (c.af.map cZ)
abbrev tR(p:Nat)(x2 x3 a b c d e f g h i w:AV):List AV:=[U,.ptr p 0,x2,x3,w,U,U,U,U,U,U,U,U,a,b,c,d,e,f,g,h,i]++List.replicate 58 U
abbrev hW(c:Ct)(n:Nat):List Ob:=[.cells [.sl (n+1) 0 c.af.length,.sl (n+2) 0 c.af.length],.row 1 jv (List.replicate c.af.length .cY) none true false,.row 1 iC (List.replicate c.af.length (.list true 0 [])) none true false]
abbrev ny:=List Nat×List Nat
abbrev F3:List (List Nat):=[[],[0],[1],[2,2],[],[4],[5],[6,6],[3,7],[],[9,8,0,1,2,3,4,5,6,7,8,9]]
abbrev Qe(x:ny):List Nat:=(List.range 11).filter (j6 F3 x.1)
def FV(i:Nat):List Nat->List Nat
 |[]=>[i]
 |a::l=>if i<a then i::a::l else a::FV i l
def mG(i:Nat)(x:ny):ny:=(FV i x.1,if i==3||i==7||i==9 then x.2++[i]else x.2)
def lV(y:Nat):List Nat->Nat
 |[]=>0
 |a::l=>if a==y then 0 else(if a==9 then 3 else 1)+lV y l
abbrev sG(c:Ct)(H:List Ob)(j:Nat):AV:=.sl (H.length+j) 0 c.af.length
def yW(c:Ct)(p:Nat)(H:List Ob)(x:ny):Nat->AV
 |0=>.ptr p 3|4=>.ptr p 3|1=>gL c|5=>gL c|2=>.int .i64 c.af.length|6=>.int .i64 c.af.length
 |3=>sG c H (lV 3 x.2)|7=>sG c H (lV 7 x.2)|8=>.agg [sG c H (lV 3 x.2),sG c H (lV 7 x.2)]|9=>.ptr (H.length+lV 9 x.2) 0|_=>.aG []
def zW(c:Ct)(p:Nat)(H:List Ob)(x:ny)(i:Nat):AV:=if x.1.contains i then yW c p H x i else U
def tW(c:Ct)(p:Nat)(x2 x3:AV)(H:List Ob)(x:ny):List AV:=tR p x2 x3 (zW c p H x 0) (zW c p H x 1) (zW c p H x 2) (zW c p H x 3) (zW c p H x 4) (zW c p H x 5) (zW c p H x 6) (zW c p H x 7) (zW c p H x 8) (zW c p H x 9)
def Gy(c:Ct)(H:List Ob)(x:ny)(i:Nat):List Ob:=
 if i==3 then[.row 1 jv (List.replicate c.af.length .cY) none true false]else if i==7 then[.row 1 iC (List.replicate c.af.length (.list true 0 [])) none true false]
 else[.cells (if x.1.contains 10 then[sG c H (lV 3 x.2),sG c H (lV 7 x.2)]else[.sl (H.length+(lV 9 x.2+1)) 0 0,.sl (H.length+(lV 9 x.2+2)) 0 0]),.row 1 jv [] none true false,.row 1 iC [] none true false]
def p1(c:Ct)(H:List Ob)(x:ny):List Ob:=H++x.2.flatMap (Gy c H x)
abbrev tQ:List ny:=[([],[]),([0],[]),([4],[]),([9],[9]),([0,1],[]),([0,4],[]),([0,9],[9]),([4,5],[]),([4,9],[9]),([0,1,2],[]),([0,1,4],[]),([0,1,9],[9]),([0,4,5],[]),([0,4,9],[9]),([4,5,6],[]),([4,5,9],[9]),([0,1,2,3],[3]),([0,1,2,4],[]),([0,1,2,9],[9]),([0,1,4,5],[]),([0,1,4,9],[9]),([0,4,5,6],[]),([0,4,5,9],[9]),([4,5,6,7],[7]),([4,5,6,9],[9]),([0,1,2,3,4],[3]),([0,1,2,3,9],[3,9]),([0,1,2,3,9],[9,3]),([0,1,2,4,5],[]),([0,1,2,4,9],[9]),([0,1,4,5,6],[]),([0,1,4,5,9],[9]),([0,4,5,6,7],[7]),([0,4,5,6,9],[9]),([4,5,6,7,9],[7,9]),([4,5,6,7,9],[9,7]),([0,1,2,3,4,5],[3]),([0,1,2,3,4,9],[3,9]),([0,1,2,3,4,9],[9,3]),([0,1,2,4,5,6],[]),([0,1,2,4,5,9],[9]),([0,1,4,5,6,7],[7]),([0,1,4,5,6,9],[9]),([0,4,5,6,7,9],[7,9]),([0,4,5,6,7,9],[9,7]),([0,1,2,3,4,5,6],[3]),([0,1,2,3,4,5,9],[3,9]),([0,1,2,3,4,5,9],[9,3]),([0,1,2,4,5,6,7],[7]),([0,1,2,4,5,6,9],[9]),([0,1,4,5,6,7,9],[7,9]),([0,1,4,5,6,7,9],[9,7]),([0,1,2,3,4,5,6,7],[3,7]),([0,1,2,3,4,5,6,7],[7,3]),([0,1,2,3,4,5,6,9],[3,9]),([0,1,2,3,4,5,6,9],[9,3]),([0,1,2,4,5,6,7,9],[7,9]),([0,1,2,4,5,6,7,9],[9,7]),([0,1,2,3,4,5,6,7,8],[3,7]),([0,1,2,3,4,5,6,7,8],[7,3]),([0,1,2,3,4,5,6,7,9],[3,7,9]),([0,1,2,3,4,5,6,7,9],[3,9,7]),([0,1,2,3,4,5,6,7,9],[7,3,9]),([0,1,2,3,4,5,6,7,9],[7,9,3]),([0,1,2,3,4,5,6,7,9],[9,3,7]),([0,1,2,3,4,5,6,7,9],[9,7,3]),([0,1,2,3,4,5,6,7,8,9],[3,7,9]),([0,1,2,3,4,5,6,7,8,9],[3,9,7]),([0,1,2,3,4,5,6,7,8,9],[7,3,9]),([0,1,2,3,4,5,6,7,8,9],[7,9,3]),([0,1,2,3,4,5,6,7,8,9],[9,3,7]),([0,1,2,3,4,5,6,7,8,9],[9,7,3]),([0,1,2,3,4,5,6,7,8,9,10],[3,7,9]),([0,1,2,3,4,5,6,7,8,9,10],[3,9,7]),([0,1,2,3,4,5,6,7,8,9,10],[7,3,9]),([0,1,2,3,4,5,6,7,8,9,10],[7,9,3]),([0,1,2,3,4,5,6,7,8,9,10],[9,3,7]),([0,1,2,3,4,5,6,7,8,9,10],[9,7,3])]
section
variable{c:Ct}{p:Nat}{x2 x3:AV}{H:List Ob}{up:List Fr}{base:Nat}{k:List It}{C:AM.ar}
abbrev AW(Γ:Nat->Option AV)(c:Ct)(p:Nat)(x2 x3:AV)(k:List It)(base:Nat)(up:List Fr)(C:AM.ar)(H:List Ob)(x:ny):Prop:=kY Tryz.prog Γ F3 Bt l_ k [] .norm base up C x.1 (11-x.1.length) (tW c p x2 x3 H x) (p1 c H x)
theorem ZA:(tQ.all fun x=>(decide (x.1.length<11)||(tQ.drop 72).contains x)&&(Qe x).all fun i=>(tQ.contains (mG i x))&&(i::x.1).isPerm (mG i x).1&&decide ((i::x.1).length=(mG i x).1.length))=true:=by decide+kernel
set_option maxRecDepth 8000 in
theorem adA(hc:bY c)(hp:H[p]? =some (.cells (AV.cells (bR c)))):∀x∈tQ,∀i∈Qe x,∃d op,Bt.getD i default=⟨d,none,op⟩/\
 (ay Tryz.prog Γ (tW c p x2 x3 H x) (p1 c H x) op=.val (yW c p H (mG i x) i) (p1 c H (mG i x))\/yW c p H (mG i x) i=.aG []/\ay Tryz.prog Γ (tW c p x2 x3 H x) (p1 c H x) op=.skip (p1 c H (mG i x)))/\
 aX (tW c p x2 x3 H x) d (yW c p H (mG i x) i)=tW c p x2 x3 H (mG i x):=by
 have hG:=hc.2.2.2.1
 have hget:=fun os=>fq hp os
 have b8:((c.af.length:Int)*8<=140737488355328/\(c.af.length:Int)<=140737488355328)=True:=cF (by omega);have b24:((c.af.length:Int)*24<=140737488355328/\(c.af.length:Int)<=140737488355328)=True:=cF (by omega)
 repeat' (first|refine H7.2 ⟨?_,?_⟩|exact Rv _)
 all_goals exact ⟨_,_,rfl,by simp[tW,p1,zW,yW,lV,mG,FV,Gy,hp,hget,b8,b24],rfl⟩
set_option maxRecDepth 8000 in
theorem adM(hw:cw H.length H=true)(hb:base<=H.length)(hp:p<H.length)(h2:aF H.length x2=true)(h3:aF H.length x3=true)(hk:fF H.length k=true)
 (hC:AM.Reach Tryz.prog Γ (.fr ⟨.run,l_,.ops []::k,tR p x2 x3 U U U U U U U U U (.ptr H.length 0),[],.norm,base⟩ up (H++hW c H.length)) C):∀x∈tQ.drop 72,AW Γ c p x2 x3 k base up C H x:=by
 have hlt:∀j,(H.length+j<H.length)=False:=fun j=>lf (by omega)
 simp at hC
 repeat' (first|refine H7.2 ⟨?_,?_⟩|exact Rv _)
 all_goals
  refine .trans (.lN [13,14,15,16,17,18,19,20,21] _) ?_;simp[lM,tW,p1,zW,yW,lV,Gy]
  first
  |refine .pW H.length [2,0,1] (by simp[px hw,iA h2,iA h3,hk,hb,hp];done) (by decide) ?_
   simp[pD hw,iB h2,iB h3,hp,hlt];exact hC
  |refine .pW H.length [1,0,4] (by simp[px hw,iA h2,iA h3,hk,hb,hp];done) (by decide) ?_
   simp[pD hw,iB h2,iB h3,hp,hlt];exact hC
  |refine .pW H.length [2,1,0] (by simp[px hw,iA h2,iA h3,hk,hb,hp];done) (by decide) ?_
   simp[pD hw,iB h2,iB h3,hp,hlt];exact hC
  |refine .pW H.length [1,4,0] (by simp[px hw,iA h2,iA h3,hk,hb,hp];done) (by decide) ?_
   simp[pD hw,iB h2,iB h3,hp,hlt];exact hC
  |refine .pW H.length [0,3,4] (by simp[px hw,iA h2,iA h3,hk,hb,hp];done) (by decide) ?_
   simp[pD hw,iB h2,iB h3,hp,hlt];exact hC
  |refine .pW H.length [0,4,3] (by simp[px hw,iA h2,iA h3,hk,hb,hp];done) (by decide) ?_
   simp[pD hw,iB h2,iB h3,hp,hlt];exact hC
set_option maxRecDepth 8000 in
theorem aaY(hc:bY c)(hp:H[p]? =some (.cells (AV.cells (bR c))))(hw:cw H.length H=true)(hb:base<=H.length)(h2:aF H.length x2=true)(h3:aF H.length x3=true)(hk:fF H.length k=true)
 (hC:AM.Reach Tryz.prog Γ (.fr ⟨.run,l_,.ops []::k,tR p x2 x3 U U U U U U U U U (.ptr H.length 0),[],.norm,base⟩ up (H++hW c H.length)) C):
 AM.Reach Tryz.prog Γ (.fr ⟨.run,l_,.code (.ea F3 Bt)::k,tR p x2 x3 U U U U U U U U U U,[],.norm,base⟩ up H) C:=by
 have ha:=ZA;simp only[dy,aw,eH,Rr,List.isPerm_iff,bd]at ha
 have key:∀n,∀x∈tQ,11-x.1.length=n->AW Γ c p x2 x3 k base up C H x:=by
  intro n
  induction n with
  |zero=>exact fun x hx hn=>adM hw hb (aV hp) h2 h3 hk hC x ((ha x hx).1.resolve_left (by omega))
  |succ n ih=>
   intro x hx hn;rw[AW,hn]
   refine .step fun i hi=>?_
   obtain⟨d,op,e1,e2,e3⟩:=adA hc hp x hx i hi;obtain⟨⟨a1,a2⟩,a3⟩:=(ha x hx).2 i hi;refine⟨d,op,_,_,e1,e2,?_⟩;rw[e3]
   have a4:11-(mG i x).1.length=n:=by simp at a3;omega
   have:=ih _ a1 a4;rw[AW,a4]at this;exact this.perm a2.symm
 have h:=key 11 ([],[]) (by decide) rfl;rw[AW,p1,List.flatMap_nil,fM]at h;exact kY.all h
end
abbrev eK(k:Nat):AV×AV:=(.int .i64 k,.bool true)
def eY(l:List Nat):Ob:=.row 1 aq (l.map iN) none true false
def gG(l:List Nat):Ob:=.map (l.map eK) true
def dv(n N m:Nat):List AV:=(List.range m).map (fun i=>AV.mp (n+(3+(N+i))))++List.replicate (N-m) .cY
def fa(n:Nat)(b:List (List Nat)):List AV:=b.mapIdx fun j l=>AV.sl (n+(3+j)) 0 l.length
def hF(n N m:Nat)(b:List (List Nat)):List Ob:=[.cells [.sl (n+1) 0 N,.sl (n+2) 0 N],.row 1 jv (dv n N m) none (decide (m=0)) false,.row 1 iC (fa n b) none (decide (b.length=0)) false]
def hQ(H:List Ob)(nd b:List (List Nat)):List Ob:=H++(hF H.length b.length nd.length b++(b.map eY++nd.map gG))
section
variable{H:List Ob}{nd b:List (List Nat)}
theorem kK:(hQ H nd b).length=H.length+(3+(b.length+nd.length)):=by simp[hQ,hF];omega
theorem FE{i:Nat}(h:i<H.length):(hQ H nd b)[i]? =H[i]? :=by rw[hQ,dz h]
theorem vX(i:Nat):(hQ H nd b)[H.length+i]? =(hF H.length b.length nd.length b++(b.map eY++nd.map gG))[i]? :=by
 rw[hQ,dL (by omega)];congr 1;omega
theorem FZ:(hQ H nd b)[H.length]? =some (.cells [.sl (H.length+1) 0 b.length,.sl (H.length+2) 0 b.length]):=vX 0
theorem FU:(hQ H nd b)[H.length+1]? =some (.row 1 jv (dv H.length b.length nd.length) none (decide (nd.length=0)) false):=vX 1
theorem Oq:(hQ H nd b)[H.length+2]? =some (.row 1 iC (fa H.length b) none (decide (b.length=0)) false):=vX 2
theorem FP{k:Nat}(h:k<b.length):(hQ H nd b)[H.length+(3+k)]? =some (eY b[k]):=by
 rw[vX,dL (by simp[hF]),dz (by simp[hF];omega)];simp[hF,h]
theorem Od{i:Nat}(h:i<nd.length):(hQ H nd b)[H.length+(3+(b.length+i))]? =some (gG nd[i]):=by
 rw[vX,dL (by simp[hF]),dL (by simp[hF])];simp[hF,h]
theorem DS{n N m i:Nat}(h:i<m):(dv n N m)[i]? =some (.mp (n+(3+(N+i)))):=by
 rw[dv,dz (by simpa using h)];simp[h]
theorem zk{n N m:Nat}(h:m<=N):(dv n N m).length=N:=by simp[dv];omega
theorem pA(n:Nat)(b:List (List Nat)):(fa n b).length=b.length:=by simp[fa]
theorem qU{n k:Nat}(h:k<b.length):(fa n b)[k]? =some (.sl (n+(3+k)) 0 b[k].length):=by simp[fa,h]
theorem Z'{n k:Nat}(l:List Nat)(h:k<b.length):(fa n b).set k (.sl (n+(3+k)) 0 l.length)=fa n (b.set k l):=by
 apply iU;intro j
 by_cases hj:k=j
 ·subst hj;rw[ef (by rw[pA];exact h),qU (by simpa using h)];simp
 ·rw[dx hj]
  by_cases hjb:j<b.length
  ·rw[qU hjb,qU (by simpa using hjb),Ch hj]
  ·rw[jq (by rw[pA];omega),jq (by rw[pA];simp;omega)]
theorem MP{i:Nat}(l:List Nat)(h:i<nd.length):(hQ H nd b).set (H.length+(3+(b.length+i))) (gG l)=hQ H (nd.set i l) b:=by
 have e:H.length+(3+(b.length+i))=H.length+((hF H.length b.length nd.length b).length+((b.map eY).length+i)):=by simp[hF]
 have ap:∀(a c:List Ob)(j:Nat)(o:Ob),(a++c).set (a.length+j) o=a++c.set j o:=fun a c j o=>by
  rw[uA _ _ (by omega)];congr 2;omega
 rw[hQ,e,ap,ap,ap,hQ,kx,<-o6]
theorem Ao(a c:List Ob)(j:Nat)(o:Ob):(a++c).set (a.length+j) o=a++c.set j o:=by rw[uA _ _ (by omega)];congr 2;omega
theorem aaf{k:Nat}(l:List Nat)(h:k<b.length):((hQ H nd b).set (H.length+(3+k)) (eY l)).set (H.length+2) (.row 1 iC (fa H.length (b.set k l)) none (decide (b.length=0)) false)=hQ H nd (b.set k l):=by
 have e:H.length+(3+k)=H.length+((hF H.length b.length nd.length b).length+k):=by simp[hF]
 have ap:∀(a c:List Ob)(j:Nat)(o:Ob),(a++c).set (a.length+j) o=a++c.set j o:=fun a c j o=>by
  rw[uA _ _ (by omega)];congr 2;omega
 rw[hQ,e,ap,ap,ap,hQ,kx,show((b.map eY++nd.map gG).set k (eY l))=(b.map eY).set k (eY l)++nd.map gG from jS _ _ (by simpa using h),<-o6];simp[hF]
theorem Mz{n m:Nat}(b:List (List Nat))(h:n+(3+b.length)<=m):aI m (fa n b)=true:=by
 have:∀(l:List (List Nat))(q:Nat),q+(3+l.length)<=m->aI m (l.mapIdx fun j x=>AV.sl (q+(3+j)) 0 x.length)=true:=by
  intro l
  induction l with
  |nil=>intro q _;rfl
  |cons a l ih=>
   intro q hq;simp only[b9]at hq;have h2:=ih (q+1) (by omega)
   have e:(fun(i:Nat) (x:List Nat)=>AV.sl (q+(3+(i+1))) 0 x.length)=fun j x=>AV.sl (q+1+(3+j)) 0 x.length:=by
    funext j x;congr 1;omega
   rw[List.mapIdx_cons,e]
   simp only[aI,h2,aF,nJ,bd];omega
 exact this b n h
theorem DY{n N m q:Nat}(h:n+(3+(N+m))<=q):aI q (dv n N m)=true:=by
 have h1:∀l:List Nat,(∀i∈l,i<m)->aI q (l.map fun i=>AV.mp (n+(3+(N+i))))=true:=by
  intro l
  induction l with
  |nil=>intro _;rfl
  |cons a l ih=>
   intro hl;have:=hl a (by simp)
   simp only[cn,aI,aF,ih fun i hi=>hl i (by simp[hi]),nJ,bd];omega
 have h2:∀k,aI q (List.replicate k AV.cY)=true:=by
  intro k
  induction k with
  |zero=>rfl
  |succ k ih=>simp[ku,ih]
 rw[dv,C9,h1 _ (fun i hi=>by simpa using hi),h2];rfl
theorem D_(m:Nat):∀b:List (List Nat),cw m (b.map eY)=true
 |[]=>rfl
 |l::b=>by simp[eY,D_ m b]
theorem Ng(m:Nat):∀l:List Nat,fE m (l.map eK)=true
 |[]=>rfl
 |l::b=>by simp[Ng m b]
theorem Ea(m:Nat):∀b:List (List Nat),cw m (b.map gG)=true
 |[]=>rfl
 |l::b=>by
  have:=Ng m l;simp only[cn,cw,gG,fW,this,uq];exact Ea m b
theorem ac6(hw:cI H):cI (hQ H nd b):=fun m hm=>by
 rw[kK]at hm;have h1:=hw m (by omega);have h2:=Mz (n:=H.length) (m:=m) b (by omega);have h3:=DY (n:=H.length) (N:=b.length) (m:=nd.length) (q:=m) (by omega);rw[hQ,nX,nX,nX,h1,D_,Ea];simp[hF,h2,h3];omega
theorem EU{n i m:Nat}(b:List (List Nat))(h:∀j(hj:j<b.length),n+(3+j)=i->b[j].length=m):cW i m (fa n b)=true:=by
 have:∀l:List AV,(∀a∈l,ik i m a=true)->cW i m l=true:=by
  intro l
  induction l with
  |nil=>intro _;rfl
  |cons a l ih=>intro hl;simp only[cW,hl a (by simp),ih fun x hx=>hl x (by simp[hx]),l5]
 refine this _ fun a ha=>?_
 obtain⟨j,hj,rfl⟩:=o7 ha;rw[pA]at hj
 have e:(fa n b)[j]'(by rw[pA];exact hj)=.sl (n+(3+j)) 0 b[j].length:=by
  have:=qU (n:=n) hj;exact(dB.1 this).2
 rw[e];simp only[ik,eH,jR,ux,il,lb]
 by_cases hi:n+(3+j)=i
 ·exact .inr (h j hj hi)
 ·exact .inl hi
theorem DJ{n N m i q:Nat}:cW i q (dv n N m)=true:=by
 have:∀l:List AV,(∀a∈l,ik i q a=true)->cW i q l=true:=by
  intro l
  induction l with
  |nil=>intro _;rfl
  |cons a l ih=>intro hl;simp only[cW,hl a (by simp),ih fun x hx=>hl x (by simp[hx]),l5]
 refine this _ fun a ha=>?_
 simp only[dv,bF,dn,eu,Rw]at ha
 rcases ha with⟨j,_,rfl⟩|⟨_,rfl⟩<;>rfl
theorem zM(i m:Nat):∀b:List (List Nat),cD i m (b.map eY)=true
 |[]=>rfl
 |l::b=>by simp[eY,zM i m b]
theorem Nt(i m:Nat):∀l:List Nat,mE i m (l.map eK)=true
 |[]=>rfl
 |l::b=>by simp[Nt i m b]
theorem zJ(i m:Nat):∀b:List (List Nat),cD i m (b.map gG)=true
 |[]=>rfl
 |l::b=>by
  have:=Nt i m l;simp only[cn,cD,gG,k6,this,uq];exact zJ i m b
theorem iv(i m:Nat):∀a b:List Ob,cD i m (a++b)=(cD i m a&&cD i m b)
 |[],b=>rfl
 |o::a,b=>by simp[cD,iv i m a b,mQ]
theorem abS(hv:fL H){k:Nat}(h:k<b.length):cD (H.length+(3+k)) b[k].length (hQ H nd b)=true:=by
 have h1:=hv (H.length+(3+k)) b[k].length (by omega)
 have h2:cW (H.length+(3+k)) b[k].length (fa H.length b)=true:=EU b fun j hj he=>by
  obtain rfl:j=k:=by omega
  rfl
 have h3:=DJ (n:=H.length) (N:=b.length) (m:=nd.length) (i:=H.length+(3+k)) (q:=b[k].length);rw[hQ,iv,iv,iv,h1,zM,zJ];simp[hF,h2,h3];omega
end
def kT(n N j:Nat):List AV:=(List.range j).map (fun i=>AV.sl (n+(3+i)) 0 0)++List.replicate (N-j) (.list true 0 [])
def iZ(H:List Ob)(N j:Nat):List Ob:=H++([.cells [.sl (H.length+1) 0 N,.sl (H.length+2) 0 N],.row 1 jv (dv H.length N 0) none true false,.row 1 iC (kT H.length N j) none (decide (j=0)) false]++List.replicate j (eY []))
theorem XU(H:List Ob)(N j:Nat):(iZ H N j).length=H.length+(3+j):=by simp[iZ];omega
theorem ab5(H:List Ob)(N:Nat)(f:Fr)(up:List Fr):∀m j:Nat,j+m=N->AM.Reach Tryz.prog Γ (.fr f up (iZ H N j)) (.fr f up (iZ H N N)):=by
 intro m
 induction m with
 |zero=>
  intro j hj
  obtain rfl:j=N:=by omega
  exact .refl _
 |succ m ih=>
  intro j hj;have hlen:=XU H N j
  have hi:(iZ H N j)[H.length+2]? =some (.row 1 iC (kT H.length N j) none (decide (j=0)) false):=by
   rw[iZ,dL (by omega),show H.length+2-H.length=2 by omega];rfl
  have hj2:(kT H.length N j)[j]? =some (.list true 0 []):=by
   rw[kT,dL (by simp),iq,wW,Ca,show N-j=(N-(j+1))+1 by omega,ku];rfl
  have hst:=AM.Reach.Ad (P:=Tryz.prog) (Γ:=Γ) (f:=f) (up:=up) (k:=1) aq hi hj2 (by omega);refine .trans hst ?_
  have e:((iZ H N j++[Ob.row 1 aq [] none true false]).set (H.length+2) (.row 1 iC ((kT H.length N j).set j (.sl (iZ H N j).length 0 0)) none false false))=iZ H N (j+1):=by
   have e1:(kT H.length N j).set j (.sl (iZ H N j).length 0 0)=kT H.length N (j+1):=by
    rw[hlen,kT,uA _ _ (by simp)]
    have e2:List.replicate (N-j) (AV.list true 0 [])=.list true 0 []::List.replicate (N-(j+1)) (.list true 0 []):=by
     rw[show N-j=(N-(j+1))+1 by omega,ku]
    rw[e2];simp[kT,List.range_succ]
   rw[e1,iZ,iZ,eQ,Ao];have e3:List.replicate (j+1) (eY [])=List.replicate j (eY [])++[eY []]:=List.replicate_succ';rw[e3];simp[eY]
  rw[e];exact ih (j+1) (by omega)
theorem WH(c:Ct)(H:List Ob):iZ H c.af.length 0=H++hW c H.length:=by simp[iZ,hW,dv,kT]
theorem XV(H:List Ob)(N:Nat):iZ H N N=hQ H [] (List.replicate N []):=by
 have e:kT H.length N N=fa H.length (List.replicate N []):=by
  apply iU;intro j
  by_cases hj:j<N
  ·rw[qU (by simpa using hj)];simp[kT,hj]
  ·rw[jq (by simp[kT];omega),jq (by rw[pA];simp;omega)]
 simp[iZ,hQ,hF,e]
theorem Lm(k:Nat):∀l:List Nat,ew (.sc .int) (.int .i64 k) (l.map eK)=some (if k∈l then some (.bool true)else none)
 |[]=>rfl
 |a::l=>by
  simp only[cn,ew,Ak]
  by_cases h:k=a
  ·simp[h]
  ·simp[h,Lm k l]
theorem Mc{k:Nat}:∀{l:List Nat},k∉l->gR (.sc .int) (.int .i64 k) (.bool true) (l.map eK)=some ((l++[k]).map eK)
 |[],_=>rfl
 |a::l,h=>by
  simp only[bq,not_or]at h;simp only[cn,gR,Ak,h.1,l6,Mc h.2,dp,fh]
theorem ab8{c:Ct}{s:Bs}{k:Nat}(h:getM s (bW c)=some k):k<c.af.length:=by
 have:∀l:List (Bs×Nat),getM s l=some k->∃x∈l,x.2=k:=by
  intro l
  induction l with
  |nil=>intro h;cases h
  |cons x l ih=>
   obtain⟨a,v⟩:=x;intro h;rw[getM]at h
   split at h
   ·exact⟨(a,v),by simp,Option.some.inj h⟩
   ·obtain⟨x,h1,h2⟩:=ih h;exact⟨x,by simp[h1],h2⟩
 obtain⟨x,h1,rfl⟩:=this _ h;obtain⟨j,hj,rfl⟩:=o7 h1;rw[s9]at hj
 rw[vM c j hj];exact hj
def eA(pl:List (Bs×Nat)):List Bs->List Nat->List Nat
 |[],a=>a
 |s::r,a=>match getM s pl with
  |none=>eA pl r a
  |some k=>eA pl r (if k∈a then a else a++[k])
def iS(pl:List (Bs×Nat))(i:Nat):List Bs->List Nat->List (List Nat)->List (List Nat)
 |[],_,b=>b
 |s::r,a,b=>match getM s pl with
  |none=>iS pl i r a b
  |some k=>iS pl i r (if k∈a then a else a++[k]) (if k∈a then b else b.set k (b.getD k []++[i]))
theorem ZR{A:List Ob}{r s:Nat}(h:s≠r)(o o1 o2:Ob):((A.set r o1).set s o2).set r o=(A.set r o).set s o2:=by
 rw[List.set_comm _ _ h,qn]
theorem ace{h:List Ob}{i:Nat}{o:Ob}(hi:h[i]? =some o):h.set i o=h:=by
 apply iU;intro j
 by_cases hj:i=j
 ·subst hj;rw[ef (aV hi),hi]
 ·rw[dx hj]
theorem Ej{i m:Nat}{o:Ob}(ho:k6 i m o=true):∀{h:List Ob}(j:Nat),cD i m h=true->cD i m (h.set j o)=true
 |[],_,h1=>h1
 |o'::h,0,h1=>by
  simp only[cD,aw,ue]at h1⊢;exact⟨ho,h1.2⟩
 |o'::h,j+1,h1=>by
  simp only[cD,aw,oW]at h1⊢;exact⟨h1.1,Ej ho j h1.2⟩
set_option maxRecDepth 8000 in
theorem aai(c:Ct)(hc:bY c){H:List Ob}(hw:cI H)(hv:fL H){m0:Nat}(hm:H[m0]? =some (.map ((bW c).map gH) true))(nd:List (List Nat))(i:Nat)(hi:i<c.af.length)(hnd:nd.length=i)(up:List Fr)(base:Nat)(hbase:base<=H.length)(p2:Nat):∀n q:Nat,q+n=c.af[i].ins.length->∀(cur:List Nat)(b:List (List Nat)),b.length=c.af.length->(∀l∈b,l.length<=2^20+i*2^10+q)->
 AM.Reach Tryz.prog Γ (yui (.ptr p2 0) (.mp m0) (.ptr H.length 0) (.int .i64 i) (.list false c.kG (c.af.map cZ)) (.int .i64 c.af.length) (.int .i64 i) (.list false c.af[i].ki (c.af[i].ins.map .str)) (.int .i64 c.af[i].ins.length) (.int .i64 q) (hQ H (nd++[cur]) b) ⟨[],.norm,base,up⟩)
  (yuj (.ptr p2 0) (.mp m0) (.ptr H.length 0) (.list false c.kG (c.af.map cZ)) (.int .i64 c.af.length) (.int .i64 i) (hQ H (nd++[eA (bW c) (c.af[i].ins.drop q) cur]) (iS (bW c) i (c.af[i].ins.drop q) cur b)) ⟨[],.norm,base,up⟩):=by
 have hiB:i<2^10:=by have:=hc.2.2.2.1;omega
 have hqB:c.af[i].ins.length<2^10:=(hc.2.2.2.2.1 _ (bC hi)).2.1;intro n
 induction n with
 |zero=>
  intro q hq cur b hb hbl
  have q1:¬q<c.af[i].ins.length:=by omega
  rw[bu (by omega),eA,iS];refine .dK 60 ?_;simp[q1];exact .exit rfl rfl
 |succ n ih=>
  intro q hqn cur b hb hbl
  have hq:q<c.af[i].ins.length:=by omega
  have q2:=cF (c.af[i].hi.of hq)
  have hget:(hQ H (nd++[cur]) b)[m0]? =some (.map ((bW c).map gH) true):=by rw[FE (aV hm)];exact hm
  have hfi:=y5 (E:=.sc .str) (e:=AV.str) pH (fun n:Nat=>AV.int .i64 n) c.af[i].ins[q] (bW c);rw[bT hq,eA,iS]
  cases hk:getM c.af[i].ins[q] (bW c)with
  |none=>
   rw[hk]at hfi;have hh:=ih (q+1) (by omega) cur b hb (fun l hl=>by have:=hbl l hl;omega);refine .dK 60 ?_;simp(disch:=omega) [hq,q2,hget,hfi,isKey,b_,cM];refine .aN ?_;simp at hh⊢;exact hh
  |some k=>
   rw[hk]at hfi;have hkl:=ab8 hk
   have hkb:k<b.length:=by omega
   have xw:=FZ (H:=H) (nd:=nd++[cur]) (b:=b);have xn:=FU (H:=H) (nd:=nd++[cur]) (b:=b)
   have hii:i<(nd++[cur]).length:=by simp;omega
   have xm:=Od (H:=H) (b:=b) hii
   have ecur:(nd++[cur])[i]=cur:=by rw[Ia (by omega)];simp[hnd]
   have yn:=DS (n:=H.length) (N:=b.length) hii
   have hm1:(nd++[cur]).length=nd.length+1:=by simp
   have yl:=zk (n:=H.length) (N:=b.length) (m:=nd.length+1) (by omega);have yt:List.take b.length (dv H.length b.length (nd.length+1))=dv H.length b.length (nd.length+1):=cL (by rw[yl];exact aW _);have fc:=Lm k cur;rw[ecur]at xm;rw[hm1]at yn xn;rw[hb]at xm yn xw xn yl yt;obtain⟨_,yn'⟩:=dB.1 yn
   by_cases hkc:k∈cur
   ·rw[if_pos hkc]at fc;have hh:=ih (q+1) (by omega) cur b hb (fun l hl=>by have:=hbl l hl;omega);simp only[if_pos hkc];generalize hQ H (nd++[cur]) b=X at*;refine .dK 60 ?_;simp(disch:=omega) [hq,q2,hget,hfi,isKey,b_,cM,xw,xn,xm,yn,yl,yt,yn',hi,gG,fc];refine .aN ?_;simp at hh⊢;exact hh
   ·rw[if_neg hkc]at fc;have pc:=Mc hkc;have xb:=Oq (H:=H) (nd:=nd++[cur]) (b:=b);have xr:=FP (H:=H) (nd:=nd++[cur]) hkb;have yb:=qU (n:=H.length) hkb
    have hh:=ih (q+1) (by omega) (cur++[k]) (b.set k (b.getD k []++[i])) (by simpa using hb) (fun l hl=>by
     rcases nK hl with h1|h1
     ·have:=hbl l h1;omega
     ·have egd:b.getD k []=b[k]:=by rw[bG,bn hkb];rfl
      have:=hbl _ (bC hkb)
      rw[h1,egd,bM,rU];omega)
    simp only[if_neg hkc]
    have fin:((((hQ H (nd++[cur]) b).set (H.length+(3+(c.af.length+i))) (.map (List.map eK cur++[eK k]) true)).set (H.length+(3+k)) (.row 1 aq (List.map iN b[k]++[.int .i64 i]) (some 0) true false)).set (H.length+2) (.row 1 iC ((fa H.length b).set k (.sl (H.length+(3+k)) 0 (b[k].length+1))) none false false))=
     (hQ H (nd++[cur++[k]]) (b.set k (b[k]++[i]))).set (H.length+(3+k)) (.row 1 aq (List.map iN b[k]++[.int .i64 i]) (some 0) true false):=by
     have f1:=MP (H:=H) (b:=b) (cur++[k]) hii;have f2:=aaf (H:=H) (nd:=nd++[cur++[k]]) (b[k]++[i]) hkb;have f3:=Z' (n:=H.length) (b[k]++[i]) hkb
     have f4:(nd++[cur]).set i (cur++[k])=nd++[cur++[k]]:=by rw[uA _ _ (by omega)];simp[hnd]
     have f5:gG (cur++[k])=.map (List.map eK cur++[eK k]) true:=by simp[gG]
     have f6:decide (b.length=0)=false:=uB (by omega)
     have f7:(b[k]++[i]).length=b[k].length+1:=by simp
     rw[f4,f5,hb]at f1;rw[f6]at f2;rw[f7]at f3;rw[f1,f3,<-f2,ZR (by omega)]
    have vfin:=abS (H:=H) (nd:=nd++[cur++[k]]) (b:=b.set k (b[k]++[i])) hv (k:=k) (by simpa using hkb);have zget:=FP (H:=H) (nd:=nd++[cur++[k]]) (b:=b.set k (b[k]++[i])) (k:=k) (by simpa using hkb);have zlen:=kK (H:=H) (nd:=nd++[cur++[k]]) (b:=b.set k (b[k]++[i]));rw[Rx]at vfin zget;have zl:=pA H.length b;have zt:List.take b.length (fa H.length b)=fa H.length b:=cL (by rw[zl];exact aW _);rw[hb]at xb zl zt;obtain⟨_,yb'⟩:=dB.1 yb;generalize hQ H (nd++[cur]) b=X at*;clear zlen;refine .dK 60 ?_;simp(disch:=omega) [hq,q2,hget,hfi,isKey,b_,cM,xw,xn,xm,yn,yl,yt,yn',hi,gG,fc,pc];refine .drS 60 ?_
    have d1:¬c.af.length+i=k:=by omega
    have b8:(b[k].length+1)*8<=140737488355328:=by have:=hbl _ (bC hkb);omega
    simp(disch:=omega) [xw,xb,xr,yb,yb',zl,zt,eY,d1,b8];rw[fin];have zlen:=kK (H:=H) (nd:=nd++[cur++[k]]) (b:=b.set k (b[k]++[i]))
    have egd:b.getD k []=b[k]:=by rw[bG,bn hkb];rfl
    rw[egd]at hh
    try rw [egd]
    generalize hQ H (nd++[cur++[k]]) (b.set k (b[k]++[i]))=Z at*
    have zlt:H.length+(3+k)<Z.length:=by rw[zlen];simp;omega
    refine .aN ?_;simp
    refine .pF (i:=H.length+(3+k)) (k:=1) (E:=aq) (es:=(b[k]++[i]).map iN) (fl:=true) (sh:=false) (by rw[ef zlt];simp) (by simp;omega) (by simp) (by
     simp only[iq]
     exact Ej (by simp[k6]) _ vfin) ?_
    rw[qn,show Ob.row 1 aq ((b[k]++[i]).map iN) none true false=eY (b[k]++[i])from rfl,ace zget];simp at hh⊢;exact hh
theorem fL.set{h:List Ob}(hw:fL h){o:Ob}(hb:∀i m,h.length<=i->k6 i m o=true)(j:Nat):fL (h.set j o):=fun i m hi=>by
 rw[kx]at hi;exact Ej (hb i m hi) j (hw i m hi)
abbrev BK(p:Nat×List Fm):AV:=.aG [iN p.1,.list false 3 (p.2.map aY)]
abbrev HA(h:List Ob)(t:Fm)(ks:List Nat):List Ob:=h++[.row 3 aR [] none true false,.cells (aY t).cells,.row 1 aq (ks.map iN) none true false]
def Nf(P:Program)(Γ:Nat->Option AV)(ins:List Nat)(ki:Nat)(val:Int->Bool)(f:Nat):Prop:=
 ∀(l:List Fm),l.length<2^40->∀{v:Bool}{l':List Fm},eg ins.length val f l=some (v,l')->∀(x:Gr)(h:List Ob)(i:Nat),h[i]? =some (cv x)->cI h->fL h->x.Ok->(∀a∈ins,a<x.lits)->∀up,
  AM.Reach P Γ (.cl sa [.ptr i 0,.list false 3 (l.map aY),.list false ki (ins.map iN)] up h) (cG BK i up h (gA ins f x l))
theorem adn{h os:List Ob}{a b c:Ob}:(h++a::b::c::os)[h.length+2]? =some c:=by simp
theorem NU{h os:List Ob}{a b c:Ob}{f:Ob->Ob}:(h++a::b::c::os).modify (h.length+2) f=h++a::b::f c::os:=by
 induction h with
 |nil=>rfl
 |cons x h ih=>simpa using ih
set_option maxRecDepth 8000 in
theorem abf(ins:List Nat){ki:Nat}(hli:ins.length<2^40)(val:Int->Bool)(f:Nat)(ih:Nf Tryz.prog Γ ins ki val f)(t:Fm)(ht:t.kind=3\/t.kind=4)(ht2:2<=t.kids)(ht3:t.kids<2^40)(i L:Nat)(up:List Fr):
 ∀m j:Nat,j+m=t.kids.toNat->∀(ks:List Nat)(l:List Fm)(x:Gr)(h:List Ob)(v w:Bool)(l':List Fm),ks.length=j->l.length<2^40->eU (eg ins.length val f) (decide (t.kind=3)) m v l=some (w,l')->h.length=L->h[i]? =some (cv x)->cI h->fL h->x.Ok->(∀a∈ins,a<x.lits)->(∀a∈ks,a<x.lits)->
  ∃J,AM.Reach Tryz.prog Γ (yov (.ptr i 0) (.list false ki (ins.map iN)) (.ptr (L+1) 0) (.list false 3 (l.map aY)) (.sl (L+2) 0 ks.length) (.int .i64 t.kids) (.int .i64 j) (HA h t ks) ⟨[],.norm,L,up⟩)
   (cG BK i up (h++J) (eD (jb (gA ins f) m x ks l) (pU t))):=by
 intro m
 induction m with
 |zero=>
  intro j hj ks l x h v w l' hkl hl hr hL hi hw hv ok hlt hks;subst hL
  have q1:¬(j:Int)<t.kids:=by omega
  have hil:=aV hi
  have hget:=fun os=>fq hi os
  have h0:ks≠[]:=by
   intro h0;subst h0
   simp at hkl;omega
  have hW:∀b,cI (h++[.row 3 aR [] none true false,.cells (aY t).cells,.row 1 aq (ks.map iN) none true b]):=fun b m hm=>by
   simp at hm;simp[hw m (by omega)]
  have hset:∀(o:Ob)(os:List Ob),(h++os).set i o=h.set i o++os:=fun o os=>jS _ _ hil
  refine⟨[.row 3 aR [] none true false,.cells (aY t).cells,.row 1 aq (ks.map iN) none true true],?_⟩;rw[jb,eD,pU];refine .dK 60 ?_;simp[q1];refine .trans (.exit rfl rfl) ?_;refine .trees [10] ?_;simp[NU,iz];have htk:(ks.map iN).take ks.length=ks.map iN:=cL (by simp);obtain⟨kd,lt,kk⟩:=t;simp only at ht ht2 ht3 hj q1 hW⊢
  rcases ht with rfl|rfl
  ·have hA:=Nd (Γ:=Γ) ks h0 (by omega) (fl:=false) (k:=1) .self x (h:=h++[.row 3 aR [] none true false,.cells (aY ⟨3,lt,kk⟩).cells,.row 1 aq (ks.map iN) none true true]) (hget _) (hW true) ok hks;refine .ba 60 ?_;simp[htk];unfold cG at hA⊢;unfold eo
   cases h9:(iJ 0 x ks).2<;>simp only[h9,hset]at hA⊢
   ·refine .jG 60 hA ?_;simp[h9,hset]
   ·refine .a_ 60 hA ?_;simp[h9,hset]
  ·have hA:=NA (Γ:=Γ) ks h0 (by omega) (fl:=false) (k:=1) .self x (h:=h++[.row 3 aR [] none true false,.cells (aY ⟨4,lt,kk⟩).cells,.row 1 aq (ks.map iN) none true true]) (hget _) (hW true) ok hks;refine .ba 60 ?_;simp[htk];unfold cG at hA⊢;unfold eo at hA⊢
   cases h9:(iJ 1 x ks).2<;>simp only[h9,hset,rR,dp]at hA⊢
   ·refine .jG 60 hA ?_;simp[h9,hset]
   ·refine .a_ 60 hA ?_;simp[h9,hset]
 |succ m ihm=>
  intro j hj ks l x h v w l' hkl hl hr hL hi hw hv ok hlt hks;subst hL
  have q1:(j:Int)<t.kids:=by omega
  have hil:=aV hi
  have hget:=fun os=>fq hi os
  have hset:∀(o:Ob)(os:List Ob),(h++os).set i o=h.set i o++os:=fun o os=>jS _ _ hil
  rw[eU]at hr
  cases h2:eg ins.length val f l with
  |none=>rw[h2]at hr;cases hr
  |some u=>
   rw[h2]at hr;obtain⟨u1,l1⟩:=u;simp only at hr;have hll:=DZ _ _ _ _ _ _ h2
   have hc:=ih l hl h2 x (HA h t ks) i (hget _) (by
    intro m hm;simp at hm
    simp[hw m (by omega)]) (by
    intro m k hm;simp at hm
    simp[hv m k (by omega)]) ok hlt
   have hf:=qJ ins f x l ok hlt;rw[jb]
   cases h9:gA ins f x l with
   |mk y r=>
    rw[h9]at hc hf
    cases r with
    |none=>
     refine⟨[.row 3 aR [] none true false,.cells (aY t).cells,.row 1 aq (ks.map iN) none true false],?_⟩;simp only[cG,eD,hset]at hc⊢;refine .ba 60 ?_;simp[q1];refine .jG 60 hc ?_;simp
    |some p=>
     obtain⟨c,l2⟩:=p;have:=Du ins _ val f x l y c l2 u1 l1 h9 h2;subst this;have hc2:=hf.2 _ rfl;simp only at hc2
     obtain⟨J,hh⟩:=ihm (j+1) (by omega) (ks++[c]) l2 y (h.set i (cv y)) _ w l' (by simp[hkl]) (by omega) hr (by simp) (by simp[hil]) (hw.set (fun m _=>by simp) i) (hv.set (fun m k _=>by simp) i) hf.1.ok (fun a ha=>jO (hlt a ha) hf.1.lits) (fun a ha=>by
      rcases bF.1 ha with ha|ha
      ·exact jO (hks a ha) hf.1.lits
      ·simp only[dA]at ha;subst ha;exact hc2)
     refine⟨J,?_⟩
     have hs2:∀r:Gr×Option (Nat×List Fm),cG BK i up (h.set i (cv y)++J) r=cG BK i up (h++J) r:=fun r=>by
      unfold cG
      have:∀o:Ob,(h.set i (cv y)++J).set i o=(h++J).set i o:=fun o=>by
       rw[jS _ _ (by simpa using hil),jS _ _ hil,qn]
      simp only[this]
     rw[hs2]at hh;simp only[cG,eD,hset]at hc;simp only[eD]at hh⊢
     have hvv:=fun m=>(hv.set (o:=cv y) (fun m k _=>by simp) i) (h.length+2) m (by simp)
     have hsl:(h.set i (cv y)).length=h.length:=by simp
     generalize h.set i (cv y)=H at*
     have hk40:(ks.length:Int)+1<=140737488355328:=by omega
     refine .ba 60 ?_;simp[q1];refine .a_ 60 hc ?_;simp(disch:=omega) [<-hsl,hk40];refine .aN ?_;simp;refine .pF (i:=H.length+2) adn (by simp[hsl]) (by simp) (by simp[hsl,hvv]) ?_;simp[hsl,HA]at hh⊢;exact hh
set_option maxRecDepth 8000 in
theorem M3(ins:List Nat){ki:Nat}(hki:Kd 1 ki ins)(hli:ins.length<2^30)(val:Int->Bool):∀f,Nf Tryz.prog Γ ins ki val f
 |0,l,_,v,l',h2,_,_,_,_,_,_,_,_,_=>by simp[eg]at h2
 |f+1,[],_,v,l',h2,_,_,_,_,_,_,_,_,_=>by simp[eg]at h2
 |f+1,t::l,hl,v,l',h2,x,h,i,hi,hw,hv,ok,hlt,up=>by
  rw[eg]at h2
  split at h2
  ·rename_i ho;have hil:=aV hi;have hle:=mh ok
   have hget:=fun os=>fq hi os
   have hset:∀os:List Ob,(h++os).set i (cv x)=h++os:=fun os=>vG (hget os)
   simp at hl;obtain⟨kd,lt,kk⟩:=t;unfold ep at ho;simp only at ho h2
   by_cases k2:kd=2
   ·subst k2;simp at ho;obtain⟨n,rfl⟩:=l7 ho.1
    have q1:n/2<ins.length:=by omega
    have q2:=cF (hki.of q1);have hx:=hlt _ (bC q1);obtain rfl:=ho.2.2;refine qS [.row 3 aR [] none true false,.cells (aY ⟨2,n,0⟩).cells] hw hil (by simp) ?_;rw[gA];simp only[cu,cG,hset];refine .bB 60 Cy ?_;simp(disch:=omega) [q1,q2]
    have e1:((n:Int)/2).toNat=n/2:=by omega
    have e4:((n:Int)%2).toNat=n%2:=by omega
    have e3:fV .xor .i64 (ins[n/2]:Int) ((n:Int)%2)=some ((ins[n/2]^^^(n%2):Nat):Int):=by
     rw[show(n:Int)%2=((n%2:Nat):Int) by omega];exact EB (by omega)
    refine .nw 60 ?_
    have e5:ins.getD (n/2) 0=ins[n/2]:=by rw[bG,bn q1];rfl
    simp(disch:=omega) [q1,q2,e1,e3,e4,e5]
   ·rw[if_neg k2]at ho h2
    by_cases k34:kd=3\/kd=4
    ·rw[if_pos k34]at ho;simp at ho;obtain⟨rfl,h2k⟩:=ho
     have hvi:decide (kd=1)=false:=by simp;omega
     have n0:¬kd=0:=by omega
     have n1:¬kd=1:=by omega
     have hwk:=abf (Γ:=Γ) ins (by omega) val f (M3 ins hki hli val f) ⟨kd,0,kk⟩ k34 h2k (by
      have:=LC (fun l v l' h=>DZ _ val f l v l' h) _ _ _ _ _ h2
      simp only;omega) i h.length up kk.toNat 0 (by simp) [] l x h _ v l' rfl (by omega) h2 rfl hi hw hv ok hlt (fun a ha=>by cases ha)
     obtain⟨J,hJ⟩:=hwk;refine qS J hw hil (by simp) ?_;rw[gA];simp only[if_neg k2,if_neg (show¬(kd=0\/kd=1) by omega)];refine .bB 60 Cy ?_;simp;refine .nw 60 ?_;simp(disch:=omega) [n0,n1,k2];refine .inLoop ?_;simp at hJ⊢;exact hJ
    ·rw[if_neg k34]at ho
     split at ho
     ·rename_i k01;simp at ho;obtain⟨rfl,rfl⟩:=ho;refine qS [.row 3 aR [] none true false,.cells (aY ⟨kd,0,0⟩).cells] hw hil (by simp) ?_;rw[gA];simp only[if_neg k2,if_pos k01,cG,hset];refine .bB 60 Cy ?_;simp;refine .nw 60 ?_
      rcases k01 with rfl|rfl<;>simp(disch:=omega)<;>exact .refl _
     ·cases ho
  ·cases h2
abbrev Li:Type:=Nat×UInt8
abbrev dG(x:Li):AV:=.agg [.int .i64 x.1,.int .i64 x.2.toNat]
def bj:Bs->Nat->List Li
 |[],_=>[]
 |c::s,i=>if c=45 then bj s (i+1)else(i,c)::bj s (i+1)
def cC(x:Li)(s:Bs):Bool:=decide (x∈bj s 0)
def dO(x:Li):Fm:=⟨2,if x.2=48 then 2*x.1+1 else 2*x.1,0⟩
theorem X9(a b:Li):bX (.iG [.int,.int]) (dG a) (dG b)=some (decide (a=b)):=by
 obtain⟨i,c⟩:=a;obtain⟨j,d⟩:=b;simp only[bX,b_,cM,fT,ez,cu]
 by_cases h1:i=j
 ·subst h1
  by_cases h2:c=d
  ·subst h2;simp
  ·have h3:¬(c.toNat:Int)=d.toNat:=by
    intro h;exact h2 (Ig.1 (by omega))
   have h4:((c.toNat:Int)==d.toNat)=false:=ux.2 h3;simp[h2,h4]
 ·have h3:¬(i:Int)=j:=by omega
  have h4:((i:Int)==j)=false:=ux.2 h3;simp[h1,h4]
theorem acs(x:Li)(hx:x.1<2^40):aS Tryz.prog Γ xt [dG x] (aY (dO x)):=by
 obtain⟨i,c⟩:=x;simp only at hx;refine .run 60 Sy (by simp) ?_;have e:((c.toNat:Int)=48)=(c=48):=propext ⟨fun h=>Ig.1 (by rw[show((48:UInt8).toNat)=48 from rfl];omega),fun h=>by rw[h];rfl⟩
 by_cases h:c=48
 ·simp(disch:=omega) [e,h];exact .back (by simp[dO,h])
 ·simp(disch:=omega) [e,h];exact .back (by simp[dO,h])
theorem Dq(s:Bs){h:List Ob}:∀up,AM.Reach Tryz.prog Γ (.cl sg [.str s] up h) (.back up (.fn (.func qy) [] [.ptr h.length 0]) (h++[.cells [.str s]])):=by
 intro up;refine .bB 60 Te ?_;simp
abbrev adi(s:Bs)(i n:Nat)(up:List Fr):List Fr:=⟨.run,nU,[It.iX (n+3),It.inBlock 0 [],It.code ((ah.ae Qm).seq ah.ret)],
 [.str s,.ptr i 0,U,.ptr n 0,U,.str s,.fn (.func qy) [] [.ptr (n+1) 0],U,U,U,U],[.mark (n+2)],.norm,n⟩::up
abbrev adO(s:Bs)(i n:Nat):List Ob:=[.cells [.bool false],.cells [.str s],.br true,
 .loop .ready .none nU [U,.ptr i 0,U,.ptr n 0,U,U,U,U,U,U,U] [7] (.ae OR) PF]
def Left(P:Program)(Γ:Nat->Option AV)(c:AM.ar)(up:List Fr)(v:AV)(h:List Ob):Prop:=∃J,AM.Reach P Γ c (.back up v (h++J))
section
variable{P:Program}{c c':AM.ar}{up up':List Fr}{v:AV}{h h':List Ob}
theorem Left.to(h1:AM.Reach P Γ c c')(h2:Left P Γ c' up v h):Left P Γ c up v h:=h2.imp fun _ h3=>.trans h1 h3
theorem Left.ba(n:Nat)(h1:Left P Γ (AM.go P Γ 2 n c) up v h):Left P Γ c up v h:=.to (Reach.goes n c) h1
theorem Left.pop(n:Nat)(h1:Left P Γ (AM.go P Γ 2 n (AM.pop c)) up v h):Left P Γ c up v h:=.to (.pop c) (.ba n h1)
theorem Left.back(J:List Ob):Left P Γ (.back up v (h++J)) up v h:=⟨J,.refl _⟩
theorem Left.aN{fn:FuncId}{its:List It}{t:List AV}{ds:List da}{kind:FK}{base:Nat}{m:List Bool}{b:ah}
 (h1:Left P Γ (.fr ⟨.run,fn,.code b::.inLoop m b::its,c9 m t,ds,kind,base⟩ up' h') up v h):Left P Γ (.fr ⟨.run,fn,.inLoop m b::its,t,ds,kind,base⟩ up' h') up v h:=.to (AM.Reach.aN (.refl _)) h1
theorem Left.inLoop{fn:FuncId}{its:List It}{t:List AV}{ds:List da}{kind:FK}{base:Nat}{m:List Bool}{b:ah}
 (h1:Left P Γ (.fr ⟨.run,fn,.code b::.inLoop m b::its,c9 m t,ds,kind,base⟩ up' h') up v h):Left P Γ (.fr ⟨.run,fn,.code (.loop m b)::its,t,ds,kind,base⟩ up' h') up v h:=.to (AM.Reach.inLoop (.refl _)) h1
theorem Left.ml{f:Fr}{h1:List Ob}(n:Nat)(hh:h'.take n=h1)(b1:f.base<=n)(b2:jJ n f=true)(b3:cw n h1=true)(h4:Left P Γ (.fr f up' h1) up v h):Left P Γ (.fr f up' h') up v h:=.to (AM.Reach.ml n hh b1 b2 b3 (.refl _)) h4
theorem Left.a_(n:Nat){f:FuncId}{args:List AV}{v0:AV}{h0:List Ob}(h1:∀up,AM.Reach P Γ (.cl f args up h0) (.back up v0 h'))(h2:Left P Γ (AM.go P Γ 2 n (AM.pop (.back up' v0 h'))) up v h):Left P Γ (.cl f args up' h0) up v h:=.to (h1 up') (.pop n h2)
theorem Left.bB(n:Nat){g:FuncId}{F:aB}{args:List AV}(hF:aA P g=some F)(h1:Left P Γ (AM.go P Γ 2 n (.fr ⟨.run,g,[.code F.body],args++List.replicate (F.nt-args.length) .undef,[],.norm,h'.length⟩ up' h')) up v h):Left P Γ (.cl g args up' h') up v h:=.to (vy hF args (.ba n (.refl _))) h1
theorem Left.leave{f:FuncId}{args:List AV}(h1:Left P Γ (.cl f args up h) up v h)(hv:aF h.length v=true)(hw:cI h):AM.Reach P Γ (.cl f args up h) (.back up v h):=by
 obtain⟨J,h2⟩:=h1;have h3:=AM.Reach.leave h2 hv (by rw[uz rfl];exact hw _ (aW _));rw[uz rfl]at h3;exact h3
end
set_option maxRecDepth 8000 in
theorem acC(x:Li)(i:Nat)(s:Bs)(hs:s.length<2^40){h:List Ob}(hi:h[i]? =some (.cells (dG x).cells))(hw:cI h)(up:List Fr):∀n j:Nat,j+n=s.length->
 Left Tryz.prog Γ (GF (.cQ (h.length+3)) (.ptr (h.length+1) 0) (.int .i64 s.length) (.int .i64 j) (h++adO s i h.length) ⟨[],.norm,h.length+4,adi s i h.length up⟩) up (.bool (decide (x∈bj (s.drop j) j))) h:=by
 have hil:=aV hi;have e21:h.length+2+1=h.length+3:=rfl
 have hwr:∀c:UInt8,IntKind.i64.wrap (c.toNat:Int)=c.toNat:=fun c=>wrap64 (by omega) (by have:=c.toNat_lt;omega)
 have hget:=fun os=>fq hi os
 have hb4:=hw (h.length+4) (by omega);intro n
 induction n with
 |zero=>
  intro j hj
  have q1:¬j<s.length:=by omega
  rw[bu (by omega),bj];refine .ba 60 ?_;simp[q1];refine .pop 60 ?_;simp;exact .back _
 |succ n ih=>
  intro j hj
  have q1:j<s.length:=by omega
  have hh:=ih (j+1) (by omega);rw[bT q1,bj]
  by_cases a:s[j]=45
  ·refine .ba 60 ?_;simp(disch:=omega) [q1,a];refine .aN ?_;simp at hh⊢;exact hh
  ·have e:decide (x∈(if s[j]=45 then bj (s.drop (j+1)) (j+1)else(j,s[j])::bj (s.drop (j+1)) (j+1)))=(decide ((j,s[j])=x)||decide (x∈bj (s.drop (j+1)) (j+1))):=by
    rw[if_neg a,fN];simp only[bd,bq,eH];exact or_congr_left eq_comm
   rw[e];have hq:=X9 (j,s[j]) x
   by_cases b:(j,s[j])=x
   ·refine .ba 60 ?_;simp(disch:=omega) [q1,a,hget,jD,hq,b,hwr];refine .pop 60 ?_;simp;refine .pop 60 ?_;simp;exact .back _
   ·refine .ba 60 ?_;simp(disch:=omega) [q1,a,hget,jD,hq,b,hwr];refine .pop 60 ?_;simp(disch:=omega);refine .aN ?_;simp;refine .ml (h.length+4) (by simp;rfl) (by simp) (by simp) (by simp[hb4];omega) ?_;simp at hh⊢;exact hh
theorem Fs(x:Li)(i:Nat)(l:List Bs)(hl:∀s∈l,s.length<2^40):ic Tryz.prog Γ (fun h=>h[i]? =some (.cells (dG x).cells)/\cI h) nU [.ptr i 0] AV.str (cC x) l:=by
 refine⟨by simp,fun s hs up h hφ=>?_⟩;obtain⟨hi,hw⟩:=hφ;refine Left.leave ?_ (by simp) hw;have hh:=acC (Γ:=Γ) x i s (hl s hs) hi hw up s.length 0 (by omega);refine .bB 60 T8 ?_;simp;refine .a_ 60 (Dq s) ?_;simp;refine .bB 60 CB ?_;simp;refine .inLoop ?_;simp[cC]at hh⊢;exact hh
theorem NT(x:Li){h:List Ob}:∀up,AM.Reach Tryz.prog Γ (.cl uZ [dG x] up h) (.back up (.fn (.func nU) [] [.ptr h.length 0]) (h++[.cells (dG x).cells])):=by
 intro up;refine .bB 60 Ve ?_;simp
end Go.Proofs.YtihmomicdpkabaaGreatDoor
