/- Forms: the reader. -/
import Derived.Test.YtihmomicdpkabaaGreatDoorF
import Derived.Shelf.Strings.SlTrimAscii
import Derived.Test.YtihmomicdpkabaaGreatDoorShelf
import Derived.Test.YtihmomicdpkabaaGreatDoorCode
import Derived.Test.YtihmomicdpkabaaGreatDoorAMd
import Derived.Laws.RangeString
import Derived.Laws.RangeAny
set_option linter.unusedSimpArgs false
set_option linter.unusedVariables false
namespace Go.Proofs.YtihmomicdpkabaaGreatDoor
open Go.AM Go.Proofs
variable{Γ:Nat->Option AV}
def eF(n:Int)(x:Fm):Bool:=
 if x.kind=2 then decide (0<=x.lit)&&(decide (x.lit/2<n)&&decide (x.kids=0))
 else if x.kind=3\/x.kind=4 then decide (x.lit=0)&&decide (2<=x.kids)
 else if x.kind=0\/x.kind=1 then decide (x.lit=0)&&decide (x.kids=0)
 else false
def fm(rd:List Fm->Option (Bool×List Fm))(a:Bool):Nat->Bool->List Fm->Option (Bool×List Fm)
 |0,v,l=>some (v,l)
 |k+1,v,l=>match rd l with
  |none=>none
  |some (w,l')=>fm rd a k (if a then w&&v else w||v) l'
def eA(n:Int)(val:Int->Bool):Nat->List Fm->Option (Bool×List Fm)
 |0,_=>none
 |_+1,[]=>none
 |f+1,x::l=>if eF n x=true then(if x.kind=2 then some (val x.lit,l)else fm (eA n val f) (decide (x.kind=3)) x.kids.toNat (decide (x.kind=1)||decide (x.kind=3)) l)else none
section
variable{n:Int}{F:AV}{i:Nat}
end
theorem LG{rd:List Fm->Option (Bool×List Fm)}{a:Bool}(hr:∀l v l',rd l=some (v,l')->l'.length<l.length):∀(k:Nat)(v:Bool)(l:List Fm)(w:Bool)(l':List Fm),fm rd a k v l=some (w,l')->l'.length<=l.length
 |0,v,l,w,l',h=>by simp only[fm,ak,bT]at h;rw[h.2];exact aT _
 |k+1,v,l,w,l',h=>by
  simp only[fm]at h
  split at h
  ·cases h
  ·rename_i u l1 hu;have h1:=hr _ _ _ hu;have h2:=LG hr k _ _ _ _ h;omega
theorem E7(n:Int)(val:Int->Bool):∀(f:Nat)(l:List Fm)(v:Bool)(l':List Fm),eA n val f l=some (v,l')->l'.length<l.length
 |0,l,v,l',h=>by simp[eA]at h
 |f+1,[],v,l',h=>by simp[eA]at h
 |f+1,x::l,v,l',h=>by
  simp only[eA]at h
  split at h
  ·split at h
   ·simp only[ak,bT]at h
    rw[<-h.2,bW];omega
   ·have:=LG (E7 n val f) _ _ _ _ _ h
    rw[bW];omega
  ·cases h
section
variable{n:Int}{i:Nat}{φ:List Ob->Prop}{f:FuncId}{caps:List AV}{val:Int->Bool}
end
def B1(n:Int)(val:Int->Bool)(l:List Fm):Option Bool:=
 if l.length<=4000/\0<=n/\n<=4000 then(match eA n val l.length l with
  |some (v,[])=>some v
  |_=>none)else none
def Qh:Option Bool->Int
 |some _=>0
 |none=>1
@[simp] theorem azW(v:Bool):Qh (some v)=0:=rfl
@[simp] theorem az9:Qh none=1:=rfl
def pG(v:List Bool)(a:Int):Bool:=!decide (v.getD (a/2).toNat false=decide (a%2=1))
def j6(rd:Gr->List Fm->Gr×Option (Nat×List Fm)):Nat->Gr->List Nat->List Fm->Gr×Option (List Nat×List Fm)
 |0,x,ks,l=>(x,some (ks,l))
 |k+1,x,ks,l=>iq (rd x l) fun y p=>j6 rd k y (ks++[p.1]) p.2
def uW(t:Fm)(y:Gr)(p:List Nat×List Fm):Gr×Option (Nat×List Fm):=fV (fun c=>(c,p.2)) (if t.kind=3 then jJ 0 y p.1 else fV (·^^^1) (jJ 1 y p.1))
def iJ(ins:List Nat):Nat->Gr->List Fm->Gr×Option (Nat×List Fm)
 |0,x,_=>(x,none)
 |_+1,x,[]=>(x,none)
 |f+1,x,t::l=>if t.kind=2 then(x,some (ins.getD (t.lit/2).toNat 0^^^(t.lit%2).toNat,l))
  else if t.kind=0\/t.kind=1 then(x,some (t.kind.toNat,l))
  else iq (j6 (iJ ins f) t.kids.toNat x [] l) (uW t)
def GM(x:Gr)(r:Gr×Option (Nat×List Fm)):Prop:=gO x r.1/\∀p,r.2=some p->p.1<r.1.lits
def agf(x:Gr)(r:Gr×Option (List Nat×List Fm)):Prop:=gO x r.1/\∀p,r.2=some p->∀a∈p.1,a<r.1.lits
theorem Al{rd:Gr->List Fm->Gr×Option (Nat×List Fm)}(ins:List Nat)(hr:∀x l,x.Ok->(∀a∈ins,a<x.lits)->GM x (rd x l)):∀(k:Nat)(x:Gr)(ks:List Nat)(l:List Fm),x.Ok->(∀a∈ins,a<x.lits)->(∀a∈ks,a<x.lits)->agf x (j6 rd k x ks l)
 |0,x,ks,l,ok,hi,hk=>⟨.refl ok,fun p hp=>by cases hp;exact hk⟩
 |k+1,x,ks,l,ok,hi,hk=>by
  rw[j6];have h1:=hr x l ok hi
  cases h:rd x l with
  |mk y r=>
   rw[h]at h1
   cases r with
   |none=>exact⟨h1.1,fun p hp=>by cases hp⟩
   |some p=>
    have h2:=h1.2 p rfl
    have:=Al ins hr k y (ks++[p.1]) p.2 h1.1.ok (fun a ha=>kv (hi a ha) h1.1.lits) (fun a ha=>by
     rcases bn.1 ha with ha|ha
     ·exact kv (hk a ha) h1.1.lits
     ·simp only[dG]at ha;subst ha;exact h2)
    exact⟨h1.1.trans this.1,this.2⟩
theorem aai{t:Fm}{y:Gr}{p:List Nat×List Fm}(ok:y.Ok)(hp:∀a∈p.1,a<y.lits):GM y (uW t y p):=by
 have h3:jK y (if t.kind=3 then jJ 0 y p.1 else fV (·^^^1) (jJ 1 y p.1)):=by
  split
  ·exact wI (by omega) ok hp
  ·exact(wI (by omega) ok hp).Ca (by omega)
 refine⟨h3.1,fun q hq=>?_⟩;simp only[uW,fV,bY]at hq;obtain⟨c,hc,rfl⟩:=hq;exact h3.2 c hc
theorem acw(x:Gr):2<=x.lits:=by unfold Gr.lits Gr.all Gr.first;omega
theorem abf(x:Gr):x.lits=2*x.all:=rfl
theorem rI(ins:List Nat):∀(f:Nat)(x:Gr)(l:List Fm),x.Ok->(∀a∈ins,a<x.lits)->GM x (iJ ins f x l)
 |0,x,l,ok,hi=>⟨.refl ok,fun p hp=>by cases hp⟩
 |f+1,x,[],ok,hi=>⟨.refl ok,fun p hp=>by cases hp⟩
 |f+1,x,t::l,ok,hi=>by
  rw[iJ]
  split
  ·refine⟨.refl ok,fun p hp=>?_⟩
   cases hp
   refine um (n:=x.all) (by omega) ?_;rw[<-abf];rw[bp]
   cases h:ins[(t.lit/2).toNat]? with
   |none=>exact w9 x
   |some a=>exact hi a (iA h)
  ·split
   ·rename_i h;refine⟨.refl ok,fun p hp=>?_⟩
    cases hp
    have:=acw x
    simp only;omega
   ·have h1:=Al ins (rI ins f) t.kids.toNat x [] l ok hi (fun a ha=>by cases ha)
    cases h:j6 (iJ ins f) t.kids.toNat x [] l with
    |mk y r=>
     rw[h]at h1
     cases r with
     |none=>exact⟨h1.1,fun p hp=>by cases hp⟩
     |some p=>
      have h2:=aai (t:=t) h1.1.ok (h1.2 p rfl);exact⟨h1.1.trans h2.1,h2.2⟩
theorem Nl{rd:List Fm->Option (Bool×List Fm)}{a:Bool}(hr:∀l v l',rd l=some (v,l')->l'.length<l.length):∀(k:Nat)(v:Bool)(l:List Fm)(w:Bool)(l':List Fm),fm rd a k v l=some (w,l')->k<=l.length
 |0,v,l,w,l',h=>zj _
 |k+1,v,l,w,l',h=>by
  rw[fm]at h
  cases h1:rd l with
  |none=>rw[h1]at h;cases h
  |some u=>
   rw[h1]at h;obtain⟨u1,u2⟩:=u;have:=hr l u1 u2 h1;have:=Nl hr k _ _ _ _ h;omega
theorem K0{rd:Gr->List Fm->Gr×Option (Nat×List Fm)}{rf:List Fm->Option (Bool×List Fm)}{b:Bool}(hr:∀x l y c l2 v l3,rd x l=(y,some (c,l2))->rf l=some (v,l3)->l2=l3):∀(k:Nat)(x:Gr)(ks:List Nat)(l:List Fm)(v:Bool){y:Gr}{q:List Nat}{l2:List Fm}{w:Bool}{l3:List Fm},j6 rd k x ks l=(y,some (q,l2))->fm rf b k v l=some (w,l3)->l2=l3
 |0,x,ks,l,v,y,q,l2,w,l3,h1,h2=>by
  rw[j6]at h1;rw[fm]at h2;cases h1;cases h2;rfl
 |k+1,x,ks,l,v,y,q,l2,w,l3,h1,h2=>by
  rw[j6]at h1;rw[fm]at h2
  cases h:rd x l with
  |mk z r=>
   rw[h]at h1
   cases r with
   |none=>cases h1
   |some p=>
    cases h3:rf l with
    |none=>rw[h3]at h2;cases h2
    |some u=>
     rw[h3]at h2;obtain⟨c,l4⟩:=p;obtain⟨u1,u2⟩:=u;have:=hr x l z c l4 u1 u2 h h3;subst this;exact K0 hr k z _ _ _ h1 h2
theorem EC(ins:List Nat)(n:Int)(val:Int->Bool):∀(f:Nat)(x:Gr)(l:List Fm)(y:Gr)(c:Nat)(l2:List Fm)(v:Bool)(l3:List Fm),iJ ins f x l=(y,some (c,l2))->eA n val f l=some (v,l3)->l2=l3
 |0,x,l,y,c,l2,v,l3,h1,h2=>by cases h1
 |f+1,x,[],y,c,l2,v,l3,h1,h2=>by cases h1
 |f+1,x,t::l,y,c,l2,v,l3,h1,h2=>by
  rw[iJ]at h1;rw[eA]at h2
  split at h2
  ·rename_i ho
   split at h2
   ·rename_i k2;rw[if_pos k2]at h1
    cases h1;cases h2;rfl
   ·rename_i k2;rw[if_neg k2]at h1
    split at h1
    ·rename_i k01
     have hk:t.kids=0:=by
      unfold eF at ho;rw[if_neg k2,if_neg (by omega),if_pos k01]at ho;simp at ho;exact ho.2
     rw[hk]at h2
     cases h1
     simp only[Int.toNat_zero,fm]at h2
     cases h2;rfl
    ·cases h:j6 (iJ ins f) t.kids.toNat x [] l with
     |mk z r=>
      rw[h]at h1
      cases r with
      |none=>cases h1
      |some p=>
       obtain⟨q,l4⟩:=p;have:=K0 (EC ins n val f) _ _ _ _ _ h h2;subst this;simp only[iq,uW,fV,bT,bY]at h1;obtain⟨_,d,_,_,rfl⟩:=h1;rfl
  ·cases h2
def ov:Bs:=[48,49,45]
def lP(c:UInt8):Bool:=decide (c=48)||(decide (c=49)||decide (c=45))
def nw(n:Nat)(s:Bs):Bool:=s.all lP&&decide (s.length=n)
theorem adL(c:UInt8):ov.contains c=lP c:=by
 revert c
 rw[show(∀c:UInt8,ov.contains c=lP c)↔∀n:Fin 256,ov.contains (UInt8.ofNat n)=lP (UInt8.ofNat n)from
  ⟨fun h n=>h _,fun h c=>by have:=h ⟨c.toNat,c.toNat_lt⟩;simpa using this⟩]
 decide+kernel
theorem ru{α:Type}{p:α->Bool}:∀{l:List α},l.dropWhile p=[]↔∀x∈l,p x=true
 |[]=>by simp
 |a::l=>by
  rw[List.dropWhile_cons]
  cases h:p a with
  |true=>simp[ru (l:=l),h]
  |false=>simp[h]
theorem dropWhile_nil{α:Type}(p:α->Bool)(l:List α)(h:∀x∈l.dropWhile p,p x=true):l.dropWhile p=[]:=by
 cases hd:l.dropWhile p with
 |nil=>rfl
 |cons a t=>
  have h1:=List.head_dropWhile_not p (l:=l) (by rw[hd];simp);simp only[hd,List.head_cons]at h1;rw[h a (by rw[hd];simp)]at h1
  cases h1
theorem MT(s:Bs):(Lib.trimS s ov=[])↔s.all lP=true:=by
 have e:(fun c=>ov.contains c)=lP:=funext adL;unfold Lib.trimS Lib.trimLeftS Lib.trimRightS;rw[e];constructor
 ·intro h
  have h1:=dropWhile_nil lP s.reverse fun x hx=>by
   have:=ru.1 h x (by simpa using hx);exact this
  have h2:=ru.1 h1;rw[dw];intro x hx;exact h2 x (by simpa using hx)
 ·intro h
  have h1:s.reverse.dropWhile lP=[]:=ru.2 fun x hx=>dw.1 h x (by simpa using hx)
  rw[h1];rfl
theorem Pg(s:Bs)(hs:s.length<2^40):aM Tryz.prog Γ tm [.str s,.str ov] (.str (Lib.trimS s ov)):=by
 refine aM.Qp (by simp) (fun _=>rfl) rfl fun N g h w us _ hV=>?_
 obtain⟨us,rfl,h1⟩:=Bx hV;obtain⟨us,rfl,h2⟩:=Bx h1;obtain rfl:=OB h2;refine(Any.strings_Trim_laid Tryz.OD (by kernel_rfl) ⟨s.toArray⟩ ⟨ov.toArray⟩ w (by simp[ByteArray.size];omega) (by decide) (ascii_of_all (by decide))).mono ?_
 rintro e' w' ⟨rfl,hB⟩
 exact⟨⟨_,rfl,fun _ _=>by simp[V]⟩,hB⟩
theorem agz(s:Bs)(n:Nat)(hs:s.length<2^40):aM Tryz.prog Γ AI [.str s,.int .i64 n] (.bool (nw n s)):=by
 refine .run 60 aaJ (by simp) ?_;unfold nw
 by_cases h:s.length=n
 ·have h':(s.length:Int)=n:=by omega
  have hT:=Pg (Γ:=Γ) s hs;unfold ov at hT
  have h2:decide (Lib.trimS s [48,49,45]=[])=s.all lP:=by
   rw[fJ,T0];exact MT s
  simp[h,h'];refine .call 60 (by simp) hT ?_;simp[h2];exact .back (by simp[h2,h])
 ·have h':¬(s.length:Int)=n:=by omega
  simp[h,h'];exact .back (by simp[h])
end Go.Proofs.YtihmomicdpkabaaGreatDoor
namespace Go.Proofs.YtihmomicdpkabaaGreatDoor
abbrev xO:Nat:=1
abbrev PZ:Nat:=0
end Go.Proofs.YtihmomicdpkabaaGreatDoor
namespace Go.Proofs.YtihmomicdpkabaaGreatDoor
open Go.AM Go.Proofs
variable{Γ:Nat->Option AV}
theorem VQ{φ:List Ob->Prop}{f:FuncId}{caps:List AV}{p:(List UInt8)->Bool}{l:List (List UInt8)}{k:Nat}{fl:Bool}(ha:iu Tryz.prog Γ φ f caps AV.str p l)(hk:Kd 1 k l)(hs:l.length<2^60){h:List Ob}(hφ:φ h):
 ∀up,AM.Reach Tryz.prog Γ (.cl rj [.list fl k (l.map AV.str),.fn (.func f) [] caps] up h) (.back up (.int .i64 (eD p l 0)) h):=by
 intro up
 have key:∀n i:Nat,i+n=l.length->AM.Reach Tryz.prog Γ (RM (.list fl k (l.map AV.str)) (.fn (.func f) [] caps) (.int .i64 l.length) (.int .i64 i) h ⟨[],.norm,h.length,up⟩) (.back up (.int .i64 (eD p (l.drop i) i)) h):=by
  intro n
  induction n with
  |zero=>
   intro i hi
   have h1:¬i<l.length:=by omega
   refine .aR 60 ?_;rw[br (by omega)];simp[h1,eD]
  |succ n ih=>
   intro i hi
   have h1:i<l.length:=by omega
   obtain rfl:=hk.of h1;have h2:=ha.2 l[i] (bx h1);rw[bL h1,eD];have hh:=ih (i+1) (by omega);refine .aR 60 ?_;simp[h1,ha.1];refine .aX 60 (fun up=>h2 up h hφ) ?_
   cases hp:p l[i]with
   |true=>simp(disch:=omega) [hp]
   |false=>
    simp(disch:=omega) [hp];refine .aF ?_;simp at hh⊢;exact hh
 refine .bt 60 JI ?_;simp;refine .inLoop ?_;have hh:=key l.length 0 (by omega);simp at hh⊢;exact hh
theorem vT{φ:List Ob->Prop}{f:FuncId}{caps:List AV}{p:(List UInt8)->Bool}{l:List (List UInt8)}{k:Nat}{fl:Bool}(ha:iu Tryz.prog Γ φ f caps AV.str p l)(hk:Kd 1 k l)(hs:l.length<2^60){h:List Ob}(hφ:φ h):
 ∀up,AM.Reach Tryz.prog Γ (.cl p3 [.list fl k (l.map AV.str),.fn (.func f) [] caps] up h) (.back up (.bool (bu p l)) h):=by
 intro up;refine .bt 60 T' ?_;simp;refine .aX 60 (VQ ha hk hs hφ) ?_;have h1:=Bq p l 0
 cases hp:bu p l with
 |true=>rw[hp]at h1;simp at h1;simp[h1]
 |false=>
  rw[hp]at h1
  have h2:¬0<=eD p l 0:=by rw[h1];simp
  simp[h2]
abbrev p2(a b:Int):AV:=.agg [.int .i64 a,.int .i64 b]
def G4(n:Int):Option AV:=if 4<=n/\n<=9 then some (p2 2 8)else if n=0\/n=1 then some (p2 0 0)else if n=2\/n=3 then some (p2 1 1)else if n=10 then some (p2 0 8)else none
def ek(Γ:Nat->Option AV):Prop:=∃ks vs,Γ xO=some (.dg ks vs)/\∀n:Int,ez (.sc .int) (.int .i64 n) (ks.zip vs)=some (G4 n)
def mQ(op:Int)(n:Nat):Bool:=if 4<=op/\op<=9 then decide (2<=n/\n<=8)else if op=0\/op=1 then decide (n=0)else if op=2\/op=3 then decide (n=1)else false
def hasB(op:Int)(n:Nat):Bool:=if op=10 then decide (n<=8)else mQ op n
def jB(g:Gt):Bool:=
 if g.op=10 then decide (g.ins.length<=8)&&(decide (g.rows.length<=128)&&!bu (fun s=>!nw g.ins.length s) g.rows)else !(decide (0<g.rows.length)||g.off)&&mQ g.op g.ins.length
theorem A6{ks vs:List AV}(hG:Γ xO=some (.dg ks vs)){op a b:Int}(hF:ez (.sc .int) (.int .i64 op) (ks.zip vs)=some (some (p2 a b)))(n:Int):aM Tryz.prog Γ tX [.int .i64 op,.int .i64 n] (.bool (decide (a<=n)&&decide (n<=b))):=by
 simp only[xO]at hG;refine .run 60 LV (by simp) ?_
 by_cases h:a<=n
 ·simp[hG,hF,h,isKey,bU,cz];exact .back (by simp)
 ·simp[hG,hF,h,isKey,bU,cz];exact .back (by simp)
theorem abS{ks vs:List AV}(hG:Γ xO=some (.dg ks vs)){op:Int}(hF:ez (.sc .int) (.int .i64 op) (ks.zip vs)=some none)(n:Int):aM Tryz.prog Γ tX [.int .i64 op,.int .i64 n] (.bool false):=by
 simp only[xO]at hG;refine .run 60 LV (by simp) ?_;simp[hG,hF,isKey,bU,cz];exact .back (by simp)
theorem agk(hΓ:ek Γ)(op:Int)(n:Nat):aM Tryz.prog Γ tX [.int .i64 op,.int .i64 n] (.bool (hasB op n)):=by
 obtain⟨ks,vs,hG,hF⟩:=hΓ;have h1:=hF op;unfold G4 at h1
 by_cases a:4<=op/\op<=9
 ·rw[if_pos a]at h1
  have e:hasB op n=(decide ((2:Int)<=n)&&decide ((n:Int)<=8)):=by
   unfold hasB mQ;rw[if_neg (by omega),if_pos a,fJ]
   simp only[av,bj];omega
  rw[e];exact A6 hG h1 n
 ·rw[if_neg a]at h1
  by_cases b:op=0\/op=1
  ·rw[if_pos b]at h1
   have e:hasB op n=(decide ((0:Int)<=n)&&decide ((n:Int)<=0)):=by
    unfold hasB mQ;rw[if_neg (by omega),if_neg a,if_pos b,fJ]
    simp only[av,bj];omega
   rw[e];exact A6 hG h1 n
  ·rw[if_neg b]at h1
   by_cases c:op=2\/op=3
   ·rw[if_pos c]at h1
    have e:hasB op n=(decide ((1:Int)<=n)&&decide ((n:Int)<=1)):=by
     unfold hasB mQ;rw[if_neg (by omega),if_neg a,if_neg b,if_pos c,fJ]
     simp only[av,bj];omega
    rw[e];exact A6 hG h1 n
   ·rw[if_neg c]at h1
    by_cases d:op=10
    ·rw[if_pos d]at h1
     have e:hasB op n=(decide ((0:Int)<=n)&&decide ((n:Int)<=8)):=by
      unfold hasB;rw[if_pos d,fJ]
      simp only[av,bj];omega
     rw[e];exact A6 hG h1 n
    ·rw[if_neg d]at h1
     have e:hasB op n=false:=by
      unfold hasB mQ;rw[if_neg d,if_neg a,if_neg b,if_neg c]
     rw[e];exact abS hG h1 n
theorem abK(g:Gt)(i:Nat)(hg:sk g):iu Tryz.prog Γ (fun h=>h[i]? =some (.cells (AV.cells (cU g)))) Ab [.ptr i 0] AV.str (fun s=>!nw g.ins.length s) g.rows:=by
 refine⟨by simp,fun s hs up h hφ=>?_⟩;refine .bt 60 WW ?_;simp[hφ];refine .jD 60 (by simp) (agz s g.ins.length (hg.2.2.2.2 s hs)) ?_;simp
theorem O4(hΓ:ek Γ)(g:Gt)(hg:sk g):aM Tryz.prog Γ wG [cU g] (.bool (jB g)):=by
 have b1:=hg.2.1;have b2:=hg.2.2.1;refine .run 60 Zr (by simp) ?_;unfold jB;have hH:=agk hΓ g.op g.ins.length;have hC:=vT (Γ:=Γ) (fl:=false) (abK g 0 hg) g.hr (by omega) (h:=[.cells (AV.cells (cU g))]) rfl
 by_cases ho:g.op=10
 ·simp[ho];rw[ho]at hH;refine .call 60 (by simp) hH ?_;have e:((g.ins.length:Int)<=8)=(g.ins.length<=8):=propext (by omega);have e2:((g.rows.length:Int)<=128)=(g.rows.length<=128):=propext (by omega)
  by_cases h1:g.ins.length<=8
  ·by_cases h2:g.rows.length<=128
   ·simp[hasB,h1,h2,e2];simp[ho]at hC;refine .aX 60 hC ?_;simp;exact .back (by simp)
   ·simp[hasB,h1,h2,e2];exact .back (by simp)
  ·simp[hasB,h1];exact .back (by simp)
 ·simp only[if_neg ho]
  by_cases h1:0<g.rows.length
  ·have e:((0:Int)<g.rows.length)=True:=bP (by omega);simp[ho,h1,e];exact .back (by simp)
  ·have e:((0:Int)<g.rows.length)=False:=ie (by omega)
   cases h2:g.off with
   |true=>
    simp[ho,h1,h2,e];exact .back (by simp)
   |false=>
    have h0:g.rows=[]:=ku.1 (by omega);simp[ho,h0,h2];refine .call 60 (by simp) hH ?_
    cases h3:mQ g.op g.ins.length with
    |false=>
     simp[hasB,ho,h3];exact .back (by simp)
    |true=>
     simp[hasB,ho,h3];simp only[h0,h2,AV.cells,lp]at hC;refine .aX 60 hC ?_;simp[rO];exact .back (by simp)
theorem s7(l:List (List UInt8)){k:Nat}(hk:Kd 1 k l)(hl:l.length<2^40):aM Tryz.prog Γ oE [.list false k (l.map AV.str)] (.own 1 aE (l.map AV.str)):=by
 refine .run 60 Ut (by simp) ?_
 cases l with
 |nil=>
  simp;refine .either 0 (by simp) (fun b=>?_)
  cases b
  ·refine .go 9 ?_;simp;refine .nT 2 1 aE rfl (by omega) ?_;refine .go 60 ?_;simp;exact .back (by simp)
  ·refine .go 60 ?_;simp;exact .back (by simp)
 |cons x xs=>
  have hk0:k=1:=by
   rcases hk with h|h
   ·exact h
   ·cases h
  subst hk0;simp at hl;simp(disch:=(first|omega|(simp;omega)));exact .back (by simp)
theorem aeM(c:Ct)(hc:bX c):∀n i:Nat,i+n=c.af.length->∀l:List Bs,l.length+n<2^40->
 aw Tryz.prog Γ (ygy (.sl 2 0 l.length) (.list false c.kG (c.af.map cU)) (.int .i64 c.af.length) (.int .i64 i) [.cells (AV.cells (bH c)),.row 1 aE [] none true false,.row 1 aE (l.map .str) none true false]) (.ret (.own 1 aE ((l++(c.af.drop i).map (·.name)).map .str))):=by
 have hG:=c.hG;have hl:=hc.2.2.2.1;intro n
 induction n with
 |zero=>
  intro i hi l hL
  have q1:¬i<c.af.length:=by omega
  rw[br (by omega)];refine .go 60 ?_;simp[q1];exact .back (by simp)
 |succ n ih=>
  intro i hi l hL
  have q1:i<c.af.length:=by omega
  have q2:=hG.of q1;have hh:=ih (i+1) (by omega) (l++[c.af[i].name]) (by simp;omega);have e:l++(c.af.drop i).map (·.name)=l++[c.af[i].name]++(c.af.drop (i+1)).map (·.name):=GP l (·.name) _ q1;rw[e];refine .go 60 ?_;simp(disch:=omega) [q1,q2];refine .aF ?_;simp;refine .drop 3 rfl (by simp) (by simp) (by simp) ?_;refine .reset (i:=2) rfl (by simp) (by simp) (by simp) ?_;simp[q2]at hh⊢;exact hh
theorem aek(c:Ct)(hc:bX c):∀n i:Nat,i+n=c.ai.length->∀l:List Bs,l.length+n<2^39->
 aw Tryz.prog Γ (ygA (.ptr 0 0) (.sl 2 0 l.length) (.list false c.kL (c.ai.map nD)) (.int .i64 c.ai.length) (.int .i64 i) [.cells (AV.cells (bH c)),.row 1 aE [] none true false,.row 1 aE (l.map .str) none true false]) (.ret (.own 1 aE ((l++(c.ai.drop i).map (·.name)++c.af.map (·.name)).map .str))):=by
 have hG:=c.hL;have hl:=hc.2.2.1;have hl2:=hc.2.2.2.1;intro n
 induction n with
 |zero=>
  intro i hi l hL
  have q1:¬i<c.ai.length:=by omega
  have hh:=aeM (Γ:=Γ) c hc c.af.length 0 (by omega) l (by omega);rw[br (by omega)];refine .go 60 ?_;simp[q1];refine .inLoop ?_;simp at hh⊢;exact hh
 |succ n ih=>
  intro i hi l hL
  have q1:i<c.ai.length:=by omega
  have q2:=hG.of q1;have hh:=ih (i+1) (by omega) (l++[c.ai[i].name]) (by simp;omega);have e:l++(c.ai.drop i).map (·.name)=l++[c.ai[i].name]++(c.ai.drop (i+1)).map (·.name):=GP l (·.name) _ q1;rw[e];refine .go 60 ?_;simp(disch:=omega) [q1,q2];refine .aF ?_;simp;refine .drop 3 rfl (by simp) (by simp) (by simp) ?_;refine .reset (i:=2) rfl (by simp) (by simp) (by simp) ?_;simp[q2]at hh⊢;exact hh
theorem Gj(c:Ct)(hc:bX c):aM Tryz.prog Γ qd [bH c] (.own 1 aE ((aD c).map .str)):=by
 have h1:=hc.1;have h2:=hc.2.2.1;refine .run 60 Y2 (by simp) ?_;simp;refine .call 60 (by simp) (s7 c.aG c.hI (by omega)) ?_;simp;refine .inLoop ?_;have hh:=aek (Γ:=Γ) c hc c.ai.length 0 (by omega) c.aG (by omega);simp[aD]at hh⊢;exact hh
abbrev nr(x:Nat×List (List UInt8)):AV:=.list false x.1 (x.2.map AV.str)
def cp:List (Nat×List (List UInt8))->List (List UInt8)
 |[]=>[]
 |x::xs=>x.2++cp xs
theorem KB(a b:List (Nat×List (List UInt8))):cp (a++b)=cp a++cp b:=by
 induction a with
 |nil=>rfl
 |cons x a ih=>simp[cp,ih]
theorem LS(xs:List (Nat×List (List UInt8)))(i:Nat)(h:i<xs.length):cp (xs.take (i+1))=cp (xs.take i)++xs[i].2:=by
 rw[gG h,KB];simp[cp]
theorem Od(xs:List (Nat×List (List UInt8)))(i:Nat):(cp (xs.take i)).length<=(cp xs).length:=by
 conv=>rhs;rw[<-lZ i xs,KB]
 simp
set_option maxRecDepth 8000 in
theorem JJ(xs:List (Nat×List (List UInt8)))(hk:∀x∈xs,Kd 1 x.1 x.2)(hn:xs.length<2^40)(hs:(cp xs).length<2^40)(hp:0<(cp xs).length):
 aM Tryz.prog Γ m3 [.list false 1 (xs.map nr)] (.own 1 aE ((cp xs).map AV.str)):=by
 refine .run 60 JK (by simp) ?_
 have key2:∀n i:Nat,i+n=xs.length->∀m:Nat,(cp (xs.take i)).length+m=(cp xs).length->
  aw Tryz.prog Γ (QL (.sl 2 0 (cp (xs.take i)).length) (.list false 1 (xs.map nr)) (.int .i64 xs.length) (.int .i64 i) [.row 1 aE [] none true false,.row 1 aE [] none true false,.row 1 aE ((cp (xs.take i)).map AV.str++List.replicate m (AV.str [])) none true false])
   (.ret (.own 1 aE ((cp xs).map AV.str))):=by
  intro n
  induction n with
  |zero=>
   intro i hi m hm
   have q1:¬i<xs.length:=by omega
   have q2:xs.take i=xs:=bR (by omega);rw[q2]at hm⊢
   have hm0:m=0:=by omega
   subst hm0;refine .go 60 ?_;simp[q1];exact .back (by simp)
  |succ n ih=>
   intro i hi m hm
   have q1:i<xs.length:=by omega
   have q2:=LS xs i q1;have q3:=Od xs (i+1);rw[q2,bQ]at q3;have q4:=hk xs[i] (bx q1);have q5:xs[i].1=1\/xs[i].2=[]:=q4;have hh:=ih (i+1) (by omega) (m-xs[i].2.length) (by rw[q2,bQ];omega);rw[q2]at hh
   have hd:(List.replicate m (AV.str [])).drop xs[i].2.length=List.replicate (m-xs[i].2.length) (AV.str []):=by simp
   refine .go 60 ?_
   by_cases q6:(cp (xs.take i)).length=(cp xs).length
   ·have q7:xs[i].2=[]:=ku.1 (by omega)
    have hm0:m=0:=by omega
    subst hm0;simp[q7]at hh;simp(disch:=(first|omega|(simp;omega))) [q1,q5,q7];refine .aF ?_;simp;exact hh
   ·simp(disch:=(first|omega|(simp;omega))) [q1,q5]
    by_cases q7:m=0
    ·omega
    ·have c1:¬(cp (List.take i xs)).length=(cp (List.take i xs)).length+m:=by omega
     have c2:(cp (List.take i xs)).length+xs[i].snd.length<=(cp (List.take i xs)).length+m:=by omega
     simp(disch:=(first|omega|(simp;omega))) [q1,q5,c1,c2,q7];refine .aF ?_;have mO:((cp (xs.take i)).map AV.str).drop ((cp (xs.take i)).length+xs[i].2.length)=[]:=br (by simp);simp[sP,hd,mO]at hh⊢;exact hh
 have key1:∀n i:Nat,i+n=xs.length->
  aw Tryz.prog Γ (TM (.list false 1 (xs.map nr)) (.int .i64 (cp (xs.take i)).length) (.list false 1 (xs.map nr)) (.int .i64 xs.length) (.int .i64 i) [.row 1 aE [] none true false])
   (.ret (.own 1 aE ((cp xs).map AV.str))):=by
  intro n
  induction n with
  |zero=>
   intro i hi
   have q1:¬i<xs.length:=by omega
   have q2:xs.take i=xs:=bR (by omega);have q3:0<(cp xs).length:=hp;have hh:=key2 xs.length 0 (by omega) (cp xs).length (by simp[cp]);refine .go 60 ?_;rw[q2];simp[q1];refine .enter 60 JL ?_
   have q4:¬(cp xs).length=0:=by omega
   have q5:cp xs≠[]:=fun e=>by rw[e]at hp;simp at hp
   obtain⟨m,hm⟩:∃m,(cp xs).length=m+1:=⟨(cp xs).length-1,by omega⟩
   have hrep:List.replicate (cp xs).length (AV.str [])=(AV.str [])::List.replicate m (AV.str []):=by rw[hm];rfl
   simp(disch:=(first|omega|(simp;omega))) [q3,q4,q5,hrep];refine .inLoop ?_;simp[cp,hrep]at hh⊢;exact hh
  |succ n ih=>
   intro i hi
   have q1:i<xs.length:=by omega
   have q2:=LS xs i q1;have q3:=Od xs (i+1);rw[q2,bQ]at q3;have hh:=ih (i+1) (by omega);rw[q2]at hh;refine .go 60 ?_
   have q4:¬((cp (xs.take i)).length:Int)+xs[i].2.length<0:=by omega
   simp(disch:=(first|omega|(simp;omega))) [q1,q4];refine .aF ?_;simp at hh⊢;exact hh
 simp;refine .inLoop ?_;have hh:=key1 xs.length 0 (by omega);simp[cp]at hh⊢;exact hh
set_option maxRecDepth 8000 in
theorem JH(xs:List (Nat×List (List UInt8)))(hx:∀x∈xs,x.2=[])(hn:xs.length<2^40):
 aM Tryz.prog Γ m3 [.list false 1 (xs.map nr)] (.own 1 aE []):=by
 refine .run 60 JK (by simp) ?_
 have key2:∀n i:Nat,i+n=xs.length->aw Tryz.prog Γ (QL (.list true 0 []) (.list false 1 (xs.map nr)) (.int .i64 xs.length) (.int .i64 i) [.row 1 aE [] none true false,.row 1 aE [] none true false])
  (.ret (.own 1 aE [])):=by
  intro n
  induction n with
  |zero=>
   intro i hi
   have q1:¬i<xs.length:=by omega
   refine .nT 6 1 aE rfl (by omega) ?_;refine .go 60 ?_;simp[q1];exact .back (by simp)
  |succ n ih=>
   intro i hi
   have q1:i<xs.length:=by omega
   have q7:=hx xs[i] (bx q1);have hh:=ih (i+1) (by omega);refine .go 60 ?_;simp(disch:=(first|omega|(simp;omega))) [q1,q7];refine .aF ?_;simp at hh⊢;exact hh
 have key:∀n i:Nat,i+n=xs.length->aw Tryz.prog Γ (TM (.list false 1 (xs.map nr)) (.int .i64 0) (.list false 1 (xs.map nr)) (.int .i64 xs.length) (.int .i64 i) [.row 1 aE [] none true false])
  (.ret (.own 1 aE [])):=by
  intro n
  induction n with
  |zero=>
   intro i hi
   have q1:¬i<xs.length:=by omega
   refine .go 60 ?_;simp[q1];refine .enter 60 JL ?_;simp;refine .inLoop ?_;have hh:=key2 xs.length 0 (by omega);simp at hh⊢;exact hh
  |succ n ih=>
   intro i hi
   have q1:i<xs.length:=by omega
   have q7:=hx xs[i] (bx q1);have hh:=ih (i+1) (by omega);refine .go 60 ?_;simp(disch:=(first|omega|(simp;omega))) [q1,q7];refine .aF ?_;simp at hh⊢;exact hh
 simp;refine .inLoop ?_;have hh:=key xs.length 0 (by omega);simp at hh⊢;exact hh
theorem Uk(xs:List (Nat×List (List UInt8)))(hk:∀x∈xs,Kd 1 x.1 x.2)(hn:xs.length<2^40)(hs:(cp xs).length<2^40):
 aM Tryz.prog Γ m3 [.list false 1 (xs.map nr)] (.own 1 aE ((cp xs).map AV.str)):=by
 rcases TV (cp xs).length with h|h
 ·have h0:cp xs=[]:=ku.1 h
  have hx:∀x∈xs,x.2=[]:=by
   clear hk hn hs h
   induction xs with
   |nil=>simp
   |cons y ys ih=>
    simp only[cp,JA]at h0;intro x hx
    rcases bw.1 hx with rfl|hx
    ·exact h0.1
    ·exact ih h0.2 x hx
  rw[h0];exact JH xs hx hn
 ·exact JJ xs hk hn hs h
theorem GN{α β:Type}(a:List β)(f:α->List β)(l:List α){i:Nat}(h:i<l.length):a++(l.drop i).flatMap f=a++f l[i]++(l.drop (i+1)).flatMap f:=by
 rw[bL h,nK,gf]
def mr(l:List Gt):List Bs:=l.flatMap (·.ins)
def qE(l:List Lt):List Bs:=l.flatMap fun q=>[q.name,q.next]
def pt(l:List Gt):List Bs:=l.flatMap fun g=>g.name::g.ins
def eV(c:Ct):List Bs:=c.bf++c.ai.map (·.next)++mr c.af
def qw(c:Ct):List Bs:=c.aG++c.bf++qE c.ai++pt c.af
theorem Bd{α β:Type}(f:α->List β)(n:Nat):∀l:List α,(∀x∈l,(f x).length<=n)->(l.flatMap f).length<=l.length*n
 |[],_=>by simp
 |x::l,h=>by
  have h1:=Bd f n l fun y hy=>h y (ee _ hy)
  have h2:=h x (pZ ..);rw[nK,bQ,bW,DC];omega
theorem wU{c:Ct}(hc:bX c):(mr c.af).length<=2^20:=by
 have h1:=Bd (·.ins) (2^10) c.af fun g hg=>by have:=(hc.2.2.2.2.1 g hg).2.1;omega
 have h2:=hc.2.2.2.1;unfold mr;omega
theorem w_{c:Ct}(hc:bX c):(pt c.af).length<=2^20:=by
 have h1:=Bd (fun g:Gt=>g.name::g.ins) (2^10) c.af fun g hg=>by have:=(hc.2.2.2.2.1 g hg).2.1;simp;omega
 have h2:=hc.2.2.2.1;unfold pt;omega
theorem ug{c:Ct}(hc:bX c):(qE c.ai).length<=2^20:=by
 have h1:=Bd (fun q:Lt=>[q.name,q.next]) 2 c.ai fun g hg=>by simp
 have h2:=hc.2.2.1;unfold qE;omega
theorem adH(c:Ct)(hc:bX c):∀n i:Nat,i+n=c.af.length->∀l:List Bs,l.length+(mr (c.af.drop i)).length<2^40->
 aw Tryz.prog Γ (yrD (.sl 2 0 l.length) (.list false c.kG (c.af.map cU)) (.int .i64 c.af.length) (.int .i64 i) [.cells (AV.cells (bH c)),.row 1 aE [] none true false,.row 1 aE (l.map .str) none true false]) (.ret (.own 1 aE ((l++mr (c.af.drop i)).map .str))):=by
 have hG:=c.hG;have hl:=hc.2.2.1;have hl2:=hc.2.2.2.1;have b1:=wU hc;have b2:=w_ hc;have b3:=ug hc;intro n
 induction n with
 |zero=>
  intro i hi l hL
  have q1:¬i<c.af.length:=by omega
  rw[br (by omega)];refine .go 60 ?_;simp[q1];exact .back (by simp[mr])
 |succ n ih=>
  intro i hi l hL
  have q1:i<c.af.length:=by omega
  have q2:=hG.of q1;have q3:=(hc.2.2.2.2.1 c.af[i] (bx q1)).2.1;have q4:=c.af[i].hi;have q5:c.af[i].ki=1\/c.af[i].ins=[]:=q4;have e:l++mr (c.af.drop i)=l++c.af[i].ins++mr (c.af.drop (i+1)):=GN l (fun g:Gt=>g.ins) _ q1;have e2:=congrArg List.length e;simp only[bQ,bW,du]at e2;have hh:=ih (i+1) (by omega) (l++c.af[i].ins) (by simp only[bQ,bW,du];omega);rw[e];refine .go 60 ?_;simp(disch:=omega) [q1,q2,q5];refine .aF ?_;simp;refine .drop 3 rfl (by simp) (by simp) (by simp) ?_;refine .mf (i:=2) rfl (by first|(simp;done)|(by_cases hq:c.af[i].ins=[]<;>simp[hq])) (by simp) (by simp<;>omega) (by simp) ?_;simp[q2]at hh⊢;exact hh
theorem adq(c:Ct)(hc:bX c):∀n i:Nat,i+n=c.ai.length->∀l:List Bs,l.length+((c.ai.drop i).map (·.next)).length<2^39->
 aw Tryz.prog Γ (yrF (.ptr 0 0) (.sl 2 0 l.length) (.list false c.kL (c.ai.map nD)) (.int .i64 c.ai.length) (.int .i64 i) [.cells (AV.cells (bH c)),.row 1 aE [] none true false,.row 1 aE (l.map .str) none true false]) (.ret (.own 1 aE ((l++(c.ai.drop i).map (·.next)++mr c.af).map .str))):=by
 have hG:=c.hL;have hl:=hc.2.2.1;have hl2:=hc.2.2.2.1;have b1:=wU hc;have b2:=w_ hc;have b3:=ug hc;intro n
 induction n with
 |zero=>
  intro i hi l hL
  have q1:¬i<c.ai.length:=by omega
  have hh:=adH (Γ:=Γ) c hc c.af.length 0 (by omega) l (by rw[eT];omega);rw[br (by omega)];refine .go 60 ?_;simp[q1];refine .inLoop ?_;simp at hh⊢;exact hh
 |succ n ih=>
  intro i hi l hL
  have q1:i<c.ai.length:=by omega
  have q2:=hG.of q1;have e:l++(c.ai.drop i).map (·.next)=l++[c.ai[i].next]++(c.ai.drop (i+1)).map (·.next):=GP l (·.next) _ q1;have e2:=congrArg List.length e;simp only[bQ,bW,du]at e2;have hh:=ih (i+1) (by omega) (l++[c.ai[i].next]) (by simp only[bQ,bW,du];omega);rw[e];refine .go 60 ?_;simp(disch:=omega) [q1,q2];refine .aF ?_;simp;refine .drop 3 rfl (by simp) (by simp) (by simp) ?_;refine .reset (i:=2) rfl (by simp) (by simp) (by simp) ?_;simp[q2]at hh⊢;exact hh
theorem afg(c:Ct)(hc:bX c):aM Tryz.prog Γ tM [bH c] (.own 1 aE ((eV c).map .str)):=by
 have h1:=hc.2.1;have h2:=hc.2.2.1;refine .run 60 YJ (by simp) ?_;simp;refine .call 60 (by simp) (s7 c.bf c.hO (by omega)) ?_;simp;refine .inLoop ?_;have hh:=adq (Γ:=Γ) c hc c.ai.length 0 (by omega) c.bf (by rw[eT,iB];omega);simp[eV]at hh⊢;exact hh
theorem adK(c:Ct)(hc:bX c):∀n i:Nat,i+n=c.af.length->∀l:List Bs,l.length+(pt (c.af.drop i)).length<2^40->
 aw Tryz.prog Γ (yqH (.sl 2 0 l.length) (.list false c.kG (c.af.map cU)) (.int .i64 c.af.length) (.int .i64 i) [.cells (AV.cells (bH c)),.row 1 aE [] none true false,.row 1 aE (l.map .str) none true false]) (.ret (.own 1 aE ((l++pt (c.af.drop i)).map .str))):=by
 have hG:=c.hG;have hl:=hc.2.2.1;have hl2:=hc.2.2.2.1;have b1:=wU hc;have b2:=w_ hc;have b3:=ug hc;intro n
 induction n with
 |zero=>
  intro i hi l hL
  have q1:¬i<c.af.length:=by omega
  rw[br (by omega)];refine .go 60 ?_;simp[q1];exact .back (by simp[pt])
 |succ n ih=>
  intro i hi l hL
  have q1:i<c.af.length:=by omega
  have q2:=hG.of q1;have q3:=(hc.2.2.2.2.1 c.af[i] (bx q1)).2.1;have q4:=c.af[i].hi;have q5:c.af[i].ki=1\/c.af[i].ins=[]:=q4;have e:l++pt (c.af.drop i)=l++(c.af[i].name::c.af[i].ins)++pt (c.af.drop (i+1)):=GN l (fun g:Gt=>g.name::g.ins) _ q1;have e2:=congrArg List.length e;simp only[bQ,bW,du]at e2;have hh:=ih (i+1) (by omega) (l++(c.af[i].name::c.af[i].ins)) (by simp only[bQ,bW,du];omega);rw[e];refine .go 60 ?_;simp(disch:=omega) [q1,q2,q5];refine .dr 60 ?_;simp(disch:=omega) [q1,q2,q5];refine .aF ?_;simp;refine .drop 3 rfl (by simp) (by simp) (by simp) ?_;refine .mf (i:=2) rfl (by first|(simp;done)|(by_cases hq:c.af[i].ins=[]<;>simp[hq])) (by simp) (by simp<;>omega) (by simp) ?_
  have e3:l.length+(c.af[i].ins.length+1)=l.length+1+c.af[i].ins.length:=by omega
  simp[q2,e3]at hh⊢;exact hh
theorem adO(c:Ct)(hc:bX c):∀n i:Nat,i+n=c.ai.length->∀l:List Bs,l.length+(qE (c.ai.drop i)).length<2^39->
 aw Tryz.prog Γ (yqJ (.ptr 0 0) (.sl 2 0 l.length) (.list false c.kL (c.ai.map nD)) (.int .i64 c.ai.length) (.int .i64 i) [.cells (AV.cells (bH c)),.row 1 aE [] none true false,.row 1 aE (l.map .str) none true false]) (.ret (.own 1 aE ((l++qE (c.ai.drop i)++pt c.af).map .str))):=by
 have hG:=c.hL;have hl:=hc.2.2.1;have hl2:=hc.2.2.2.1;have b1:=wU hc;have b2:=w_ hc;have b3:=ug hc;intro n
 induction n with
 |zero=>
  intro i hi l hL
  have q1:¬i<c.ai.length:=by omega
  have hh:=adK (Γ:=Γ) c hc c.af.length 0 (by omega) l (by rw[eT];omega);rw[br (by omega)];refine .go 60 ?_;simp[q1];refine .inLoop ?_;simp[qE]at hh⊢;exact hh
 |succ n ih=>
  intro i hi l hL
  have q1:i<c.ai.length:=by omega
  have q2:=hG.of q1;have e:l++qE (c.ai.drop i)=l++[c.ai[i].name,c.ai[i].next]++qE (c.ai.drop (i+1)):=GN l (fun q:Lt=>[q.name,q.next]) _ q1;have e2:=congrArg List.length e;simp only[bQ,bW,du]at e2;have hh:=ih (i+1) (by omega) (l++[c.ai[i].name,c.ai[i].next]) (by simp only[bQ,bW,du];omega);rw[e];refine .go 60 ?_;simp(disch:=omega) [q1,q2];refine .aF ?_;simp;refine .drop 3 rfl (by simp) (by simp) (by simp) ?_;refine .reset (i:=2) rfl (by simp) (by simp) (by simp) ?_;simp[q2]at hh⊢;exact hh
theorem aeZ(c:Ct)(hc:bX c):aM Tryz.prog Γ tN [bH c] (.own 1 aE ((qw c).map .str)):=by
 have h1:=hc.1;have h2:=hc.2.1;have h3:=hc.2.2.1;have b3:=ug hc
 have hx:∀x∈[(c.kI,c.aG),(c.kO,c.bf)],Kd 1 x.1 x.2:=by
  intro x hx;simp only[bw,p1,pP]at hx
  rcases hx with rfl|rfl
  ·exact c.hI
  ·exact c.hO
 have hx2:cp [(c.kI,c.aG),(c.kO,c.bf)]=c.aG++c.bf:=by simp[cp]
 have hC:=Uk (Γ:=Γ) [(c.kI,c.aG),(c.kO,c.bf)] hx (by simp) (by rw[hx2];simp;omega);rw[hx2]at hC;refine .run 60 Y' (by simp) ?_;simp;refine .call 60 (by simp) hC ?_;simp;refine .inLoop ?_;have hh:=adO (Γ:=Γ) c hc c.ai.length 0 (by omega) (c.aG++c.bf) (by rw[eT,bQ];omega);simp[qw]at hh⊢;exact hh
abbrev Gu(e:Int)(s:Bs):AV:=.b_ D_ (.agg [.int .i64 e,.str s])
theorem rY(e:Int)(s:Bs):aM Tryz.prog Γ nQ [.bool true,.int .i64 e,.str s] (.aB []):=by
 refine .run 60 KV (by simp) ?_;simp;exact .back (by simp)
theorem l7(e:Int)(s:Bs):lB Tryz.prog Γ nQ [.bool false,.int .i64 e,.str s] (Gu e s):=by
 refine lB.of (hh:=[]) (by simp) (xd KV _ (.go 60 ?_)) (by simp) (by simp);simp
def ng:List Bs->List Bs->Option Bs
 |_,[]=>none
 |seen,s::l=>if s∈seen then some s else ng (seen++[s]) l
def i_(l:List Bs):Option Bs:=ng [] l
abbrev jG(s:Bs):AV×AV:=(.str s,.bool true)
theorem wx(s:Bs):∀l:List Bs,ez (.sc .str) (.str s) (l.map jG)=some (if s∈l then some (.bool true)else none)
 |[]=>rfl
 |a::l=>by
  simp only[cd,ez,cn,eL]
  cases h:(s==a)
  ·have h2:=vD.1 h;simp[wx s l,h2]
  ·have h2:=eq_of_beq h;simp[h2]
theorem Am{s:Bs}{v:AV}:∀{l:List Bs},s∉l->ir (.sc .str) (.str s) v (l.map jG)=some (l.map jG++[(.str s,v)])
 |[],_=>rfl
 |a::l,h=>by
  simp only[bw,not_or]at h;simp only[cd,ir,cn,eL];have h2:(s==a)=false:=vD.2 h.1;simp[h2,Am (v:=v) h.2]
@[simp] theorem Z2(n:Nat):∀l:List Bs,fT n (l.map jG)=true
 |[]=>rfl
 |x::r=>by simp[fT,Z2 n r]
@[simp] theorem Z3(n m:Nat):∀l:List Bs,nz n m (l.map jG)=true
 |[]=>rfl
 |x::r=>by simp[Z3 n m r]
@[simp] theorem abo(n:Nat)(τ:List Nat):∀l:List Bs,mM n τ (l.map jG)=l.map jG
 |[]=>rfl
 |x::r=>by simp[abo n τ r]
@[simp] theorem abv(n:Nat)(τ:List Nat):∀l:List Bs,pI n τ (l.map jG)=true
 |[]=>rfl
 |x::r=>by simp[abv n τ r]
def CE(h:List Ob):Prop:=∀m,h.length<=m->cI m h=true
theorem aem(l:List Bs){fl:Bool}{k:Nat}(hk:Kd 1 k l)(hl:l.length<2^40)(h:List Ob)(hw:CE h)(up:List Fr):∀n i:Nat,i+n=l.length->∀seen,ng seen (l.drop i)=none->AM.Reach Tryz.prog Γ
 (Rs (.mp h.length) (.list fl k (l.map .str)) (.int .i64 l.length) (.int .i64 i) (h++[.map (seen.map jG) true]) ⟨[],.norm,h.length,up⟩)
 (.back up (.mp h.length) (h++[.map ((seen++l.drop i).map jG) true])):=by
 intro n
 induction n with
 |zero=>
  intro i hi seen hs
  have q1:¬i<l.length:=by omega
  rw[br (by omega)];refine .aR 60 ?_;simp[q1]
 |succ n ih=>
  intro i hi seen hs
  have q1:i<l.length:=by omega
  obtain rfl:=hk.of q1;rw[bL q1]at hs⊢;rw[ng]at hs;have hfi:=wx l[i] seen;have hbw:=hw (h.length+1) (by omega)
  by_cases hm:l[i]∈seen
  ·rw[if_pos hm]at hs;cases hs
  ·rw[if_neg hm]at hs hfi;have hh:=ih (i+1) (by omega) (seen++[l[i]]) hs;have hput:=Am (v:=.bool true) hm;refine .aR 60 ?_;simp(disch:=omega) [q1,hfi,isKey,bU,cz];refine .jD 60 (by simp) (rY 5 l[i]) ?_;simp(disch:=omega) [hput,isKey,bU,cz];refine .aF ?_;simp at hh⊢;exact hh
theorem Zi(l:List Bs){fl:Bool}{k:Nat}(hk:Kd 1 k l)(hl:l.length<2^40)(h:List Ob)(hw:CE h)(up:List Fr)(s0:Bs):∀n i:Nat,i+n=l.length->∀seen,ng seen (l.drop i)=some s0->∃h',AM.Reach Tryz.prog Γ
 (Rs (.mp h.length) (.list fl k (l.map .str)) (.int .i64 l.length) (.int .i64 i) (h++[.map (seen.map jG) true]) ⟨[],.norm,h.length,up⟩)
 (.die up (Gu 5 s0) (h++h')):=by
 intro n
 induction n with
 |zero=>
  intro i hi seen hs;rw[br (by omega)]at hs
  cases hs
 |succ n ih=>
  intro i hi seen hs
  have q1:i<l.length:=by omega
  obtain rfl:=hk.of q1;rw[bL q1]at hs;rw[ng]at hs;have hfi:=wx l[i] seen;have hbw:=hw (h.length+1) (by omega)
  by_cases hm:l[i]∈seen
  ·rw[if_pos hm]at hs hfi;obtain rfl:=Option.some.inj hs;refine⟨[.map (seen.map jG) true],?_⟩;refine .aR 60 ?_;simp(disch:=omega) [q1,hfi,isKey,bU,cz];refine .lN 2 (by simp) (l7 5 l[i]) ?_;simp
  ·rw[if_neg hm]at hs hfi;obtain⟨h',hh⟩:=ih (i+1) (by omega) (seen++[l[i]]) hs;refine⟨h',?_⟩;have hput:=Am (v:=.bool true) hm;refine .aR 60 ?_;simp(disch:=omega) [q1,hfi,isKey,bU,cz];refine .jD 60 (by simp) (rY 5 l[i]) ?_;simp(disch:=omega) [hput,isKey,bU,cz];refine .aF ?_;simp at hh⊢;exact hh
theorem O5(l:List Bs){fl:Bool}{k:Nat}(hk:Kd 1 k l)(hl:l.length<2^40)(h:List Ob)(hw:CE h)(ht:i_ l=none):∀up,AM.Reach Tryz.prog Γ
 (.cl rF [.list fl k (l.map .str)] up h) (.back up (.mp h.length) (h++[.map (l.map jG) true])):=by
 intro up;refine .bt 60 K4 ?_;simp;refine .inLoop ?_;have hh:=aem (Γ:=Γ) (fl:=fl) l hk hl h hw up l.length 0 (by omega) [] ht;simp at hh⊢;exact hh
theorem NR(l:List Bs){fl:Bool}{k:Nat}(hk:Kd 1 k l)(hl:l.length<2^40)(h:List Ob)(hw:CE h){s0:Bs}(ht:i_ l=some s0):∀up,∃h',AM.Reach Tryz.prog Γ
 (.cl rF [.list fl k (l.map .str)] up h) (.die up (Gu 5 s0) (h++h')):=by
 intro up;have hh:=Zi (Γ:=Γ) (fl:=fl) l hk hl h hw up s0 l.length 0 (by omega) [] ht;obtain⟨h',hh⟩:=hh;refine⟨h',?_⟩;refine .bt 60 K4 ?_;simp;refine .inLoop ?_;simp at hh⊢;exact hh
def pE(c:UInt8):Bool:=decide (c<33)||decide (126<c)
def jd(s:List UInt8):Bool:=!bu pE s&&(decide (1<=s.length)&&decide (s.length<=40))
def pC:List UInt8->Nat->Int
 |[],_=>-1
 |c::s,i=>if pE c=true then(i:Int)else pC s (i+1)
theorem MN:∀(s:List UInt8)(i:Nat),decide (pC s i<0)=!bu pE s
 |[],i=>by simp[pC,rO]
 |c::s,i=>by
  rw[pC,iW]
  cases h:pE c with
  |true=>simp
  |false=>simpa using MN s (i+1)
theorem Ll(r:Int):aM Tryz.prog Γ rm [.int .i32 r] (.bool (decide (r<=32)||decide (126<r))):=by
 refine .run 60 U1 (by simp) ?_
 by_cases h:r<=32<;>simp[h]<;>exact .back (by simp[h])
theorem WQ{s:List UInt8}{i:Nat}(h:i<s.length)(ha:s[i].toNat<128):Utf8.decode ⟨s.toArray⟩ i=(s[i].toNat,1):=by
 exact decode_ascii ⟨s.toArray⟩ i (show i<s.toArray.size by simpa using h) ha
theorem W0{s:List UInt8}{i:Nat}(h:i<s.length)(ha:128<=s[i].toNat):128<=(Utf8.decode ⟨s.toArray⟩ i).1:=by
 exact(decode_high ⟨s.toArray⟩ i (show i<s.toArray.size by simpa using h) ha).1
set_option maxRecDepth 8000 in
theorem Xw(s:List UInt8)(hs:s.length<2^40):aM Tryz.prog Γ vS [.str s,.fn (.func rm) [] [],.bool true] (.int .i64 (pC s 0)):=by
 have key:∀n i:Nat,i+n=s.length->aw Tryz.prog Γ (yFW (.fn (.func rm) [] []) (.bool true) (.it 0) [.gQ s i]) (.ret (.int .i64 (pC (s.drop i) i))):=by
  intro n
  induction n with
  |zero=>
   intro i hi;rw[br (by omega),pC]
   have q1:¬i<s.length:=by omega
   refine .go 60 ?_;simp[q1];exact .back (by simp)
  |succ n ih=>
   intro i hi
   have q1:i<s.length:=by omega
   rw[bL q1,pC];have hh:=ih (i+1) (by omega)
   by_cases ha:s[i].toNat<128
   ·have hd:=WQ q1 ha
    have e:(decide ((s[i].toNat:Int)<=32)||decide (126<(s[i].toNat:Int)))=pE s[i]:=by
     unfold pE;simp only[UInt8.lt_iff_toNat_lt,show(33:UInt8).toNat=33 from rfl,show(126:UInt8).toNat=126 from rfl]
     congr 1<;>exact decide_eq_decide.2 (by omega)
    have hc:=Ll (Γ:=Γ) (s[i].toNat:Int);rw[e]at hc;refine .go 60 ?_;simp[q1,hd];refine .call 60 (by simp) hc ?_
    cases ho:pE s[i]with
    |true=>simp;exact .back (by simp)
    |false=>
     simp;refine .aF ?_;simp at hh⊢;exact hh
   ·have hd:=W0 q1 (by omega)
    have ho:pE s[i]=true:=by unfold pE;simp only[UInt8.lt_iff_toNat_lt,show(33:UInt8).toNat=33 from rfl,show(126:UInt8).toNat=126 from rfl,fa,bj];omega
    rw[ho];have hc:=Ll (Γ:=Γ) ((Utf8.decode ⟨s.toArray⟩ i).1:Int)
    have e:(decide (((Utf8.decode ⟨s.toArray⟩ i).1:Int)<=32)||decide (126<((Utf8.decode ⟨s.toArray⟩ i).1:Int)))=true:=by
     simp only[fa,bj];right;omega
    rw[e]at hc;refine .go 60 ?_;simp[q1];refine .call 60 (by simp) hc ?_;simp;exact .back (by simp)
 refine .run 60 Vb (by simp) ?_;simp;refine .inLoop ?_;have hh:=key s.length 0 (by omega);simp at hh⊢;exact hh
theorem XN(s:List UInt8)(hs:s.length<2^40):aM Tryz.prog Γ zK [.str s,.fn (.func rm) [] []] (.int .i64 (pC s 0)):=by
 refine .run 60 U9 (by simp) ?_;simp;refine .call 60 (by simp) (Xw s hs) ?_;simp;exact .back (by simp)
theorem ad5(s:List UInt8):aM Tryz.prog Γ zL [.str s] (.bool (jd s)):=by
 refine .run 60 Vh (by simp) ?_;unfold jd
 by_cases h0:s=[]
 ·subst h0;simp;exact .back (by simp)
 ·have h1:1<=s.length:=pV.2 h0;have h0':¬s=[]:=h0
  by_cases h2:s.length<=40
  ·have h2':(s.length:Int)<=40:=by omega
   simp[h0,h2,h2'];refine .call 60 (by simp) (XN s (by omega)) ?_;have e:=MN s 0;simp[e];exact .back (by simp[h0,h1,h2])
  ·have h2':¬(s.length:Int)<=40:=by omega
   simp[h0,h2,h2'];exact .back (by simp[h2])
theorem OY(s:List UInt8):aM Tryz.prog Γ we [.str s] (.bool (jd s)):=by
 refine .run 60 Xu (by simp) ?_;simp;refine .call 60 (by simp) (ad5 s) ?_;simp;exact .back (by simp)
theorem VD{φ:List Ob->Prop}{f:FuncId}{caps:List AV}{p:Gt->Bool}{l:List Gt}{k:Nat}{fl:Bool}(ha:iu Tryz.prog Γ φ f caps cU p l)(hk:Kd 5 k l)(hs:l.length<2^60){h:List Ob}(hφ:φ h):
 ∀up,AM.Reach Tryz.prog Γ (.cl vI [.list fl k (l.map cU),.fn (.func f) [] caps] up h) (.back up (.int .i64 (eD p l 0)) h):=by
 intro up
 have key:∀n i:Nat,i+n=l.length->AM.Reach Tryz.prog Γ (yxx (.list fl k (l.map cU)) (.fn (.func f) [] caps) (.int .i64 l.length) (.int .i64 i) h ⟨[],.norm,h.length,up⟩) (.back up (.int .i64 (eD p (l.drop i) i)) h):=by
  intro n
  induction n with
  |zero=>
   intro i hi
   have h1:¬i<l.length:=by omega
   refine .aR 60 ?_;rw[br (by omega)];simp[h1,eD]
  |succ n ih=>
   intro i hi
   have h1:i<l.length:=by omega
   obtain rfl:=hk.of h1;have h2:=ha.2 l[i] (bx h1);rw[bL h1,eD];have hh:=ih (i+1) (by omega);refine .aR 60 ?_;simp[h1,ha.1];refine .aX 60 (fun up=>h2 up h hφ) ?_
   cases hp:p l[i]with
   |true=>simp(disch:=omega) [hp]
   |false=>
    simp(disch:=omega) [hp];refine .aF ?_;simp at hh⊢;exact hh
 refine .bt 60 T_ ?_;simp;refine .inLoop ?_;have hh:=key l.length 0 (by omega);simp at hh⊢;exact hh
theorem JY{φ:List Ob->Prop}{f:FuncId}{caps:List AV}{p:Gt->Bool}{l:List Gt}{k:Nat}{fl:Bool}(ha:iu Tryz.prog Γ φ f caps cU p l)(hk:Kd 5 k l)(hs:l.length<2^60){h:List Ob}(hφ:φ h):
 ∀up,AM.Reach Tryz.prog Γ (.cl zz [.list fl k (l.map cU),.fn (.func f) [] caps] up h) (.back up (.bool (bu p l)) h):=by
 intro up;refine .bt 60 T6 ?_;simp;refine .aX 60 (VD ha hk hs hφ) ?_;have h1:=Bq p l 0
 cases hp:bu p l with
 |true=>rw[hp]at h1;simp at h1;simp[h1]
 |false=>
  rw[hp]at h1
  have h2:¬0<=eD p l 0:=by rw[h1];simp
  simp[h2]
def r_(g:Gt):Bool:=decide (8<g.ins.length)||decide (128<g.rows.length)
def jg(c:Ct):Bool:=bu r_ c.af||(decide (200<c.aG.length+c.ai.length+c.af.length)||decide (200<c.bf.length))
def ik(N:List Bs):List Bs->Int×Bs
 |[]=>(0,[])
 |s::l=>if s∈N then ik N l else(6,s)
def jE(r:Int×Bs):List Gt->Int×Bs
 |[]=>r
 |g::l=>if jB g=true then jE r l else(1,g.name)
def me(q:Lt):Bool:=decide (0<=q.init)&&decide (q.init<=2)
def kW(r:Int×Bs):List Lt->Int×Bs
 |[]=>r
 |q::l=>if me q=true then kW r l else(1,q.name)
def n4(r:Int×Bs):List Bs->Int×Bs
 |[]=>r
 |s::l=>if jd s=true then n4 r l else(4,s)
def mL:Option Bs->Int×Bs->Int×Bs
 |some s,_=>(5,s)
 |none,r=>r
def iF(c:Ct):Int×Bs:=
 if jg c=true then(8,[])else n4 (mL (i_ (aD c)) (mL (i_ c.bf) (kW (jE (ik (aD c) (eV c)) c.af) c.ai))) (qw c)
abbrev sE(r:Int×Bs):AV:=.aB [.int .i64 r.1,.str r.2]
theorem aeF(g:Gt):aM Tryz.prog Γ vY [cU g] (.bool (r_ g)):=by
 refine .run 60 Wt (by simp) ?_;unfold r_;have e1:((8:Int)<g.ins.length)=(8<g.ins.length):=propext (by omega);have e2:((128:Int)<g.rows.length)=(128<g.rows.length):=propext (by omega)
 by_cases h1:8<g.ins.length<;>simp[e1,e2,h1]<;>exact .back (by simp[h1])
theorem NZ(l:List Gt):iu Tryz.prog Γ (fun _=>True) vY [] cU r_ l:=by
 refine⟨by simp,fun g hg up h hφ=>?_⟩;exact Reach.agW (by simp) (aeF g) (fun _=>rfl) (by simp) up
abbrev Cp:Cx:=⟨[.call z8 [.ptr 1 0,.ptr 2 0]],.norm,0,[]⟩
abbrev Ic(c:Ct):List Ob:=[.cells (AV.cells (bH c)),.cells [.int .i64 0],.cells [.str []]]
abbrev sN(c:Ct)(N:List Bs):List Ob:=[.cells (AV.cells (bH c)),.cells [.int .i64 0],.cells [.str []],.map (N.map jG) true]
set_option maxRecDepth 8000 in
theorem af0(c:Ct)(N:List Bs)(l:List Bs)(hl:l.length<2^40):∀n i:Nat,i+n=l.length->
 aw Tryz.prog Γ (yjm (.ptr 1 0) (.ptr 2 0) (.mp 3) (.list false 1 (l.map .str)) (.int .i64 l.length) (.int .i64 i) (sN c N) Cp) (.ret (sE (ik N (l.drop i)))):=by
 intro n
 induction n with
 |zero=>
  intro i hi
  have q1:¬i<l.length:=by omega
  rw[br (by omega),ik];refine .go 160 ?_;simp[q1];exact .back (by simp)
 |succ n ih=>
  intro i hi
  have q1:i<l.length:=by omega
  have hfi:=wx l[i] N;rw[bL q1,ik];have hh:=ih (i+1) (by omega);refine .go 160 ?_
  by_cases hm:l[i]∈N
  ·rw[if_pos hm]at hfi⊢;simp[q1,hfi,isKey,bU,cz];refine .call 160 (by simp) (rY 6 l[i]) ?_;simp(disch:=omega);refine .aF ?_;simp at hh⊢;exact hh
  ·rw[if_neg hm]at hfi⊢;simp[q1,hfi,isKey,bU,cz];refine .lN 160 (by simp) (l7 6 l[i]) ?_;simp;refine .dr 90 ?_;simp;exact .back (by simp)
theorem afe:ff (ny Hj) Hj.length []=[[0,1,2,3,4],[0,2,1,3,4],[0,2,3,1,4],[2,0,1,3,4],[2,0,3,1,4],[2,3,0,1,4]]:=by rfl
set_option maxRecDepth 8000 in
theorem afW(hΓ:ek Γ)(c:Ct)(hc:bX c)(N:List Bs):∀n i:Nat,i+n=c.af.length->
 aw Tryz.prog Γ (yjo (.ptr 0 0) (.ptr 1 0) (.ptr 2 0) (.mp 3) (.list false c.kG (c.af.map cU)) (.int .i64 c.af.length) (.int .i64 i) (sN c N) Cp) (.ret (sE (jE (ik N (eV c)) (c.af.drop i)))):=by
 have b:=hc.2.2.2.1;have b1:=wU hc;have b2:=hc.2.1;have b3:=hc.2.2.1;intro n
 induction n with
 |zero=>
  intro i hi
  have q1:¬i<c.af.length:=by omega
  have hh:=af0 (Γ:=Γ) c N (eV c) (by simp only[eV,bQ,iB];omega) (eV c).length 0 (by omega);rw[br (by omega),jE];refine .go 160 ?_;simp[q1];refine .call 1 (by simp) (afg c hc) ?_;simp;refine .trees [92] ?_;refine .drop 4 rfl (by simp) (by simp) (by simp) ?_;refine .go 60 ?_;simp;refine .inLoop ?_;simp at hh⊢;exact hh
 |succ n ih=>
  intro i hi
  have q1:i<c.af.length:=by omega
  have q2:=c.hG.of q1;have hG:=O4 hΓ c.af[i] (hc.2.2.2.2.1 _ (bx q1));rw[bL q1,jE];have hh:=ih (i+1) (by omega)
  cases hb:jB c.af[i]with
  |true=>
   rw[hb]at hG;refine .go 160 ?_;simp[q1,q2];refine .dr 160 ?_;simp;refine e_.call (by simp) hG ?_;simp;refine e_.call (by simp) (rY 1 c.af[i].name) ?_;simp(disch:=omega);refine .aF ?_;simp;refine .drop 4 rfl (by simp) (by simp) (by simp) ?_;simp[q2,sN]at hh⊢;exact hh
  |false=>
   rw[hb]at hG;refine .go 160 ?_;simp[q1,q2];refine .Tt 60 ?_;rw[afe];intro l hl;simp only[bw,p1,pP]at hl
   rcases hl with rfl|rfl|rfl|rfl|rfl|rfl
   all_goals
    simp;refine .xM 60 (by simp) hG ?_;simp;refine .lN 160 (by simp) (l7 1 c.af[i].name) ?_;simp;refine .dr 90 ?_;simp;exact .back (by simp)
set_option maxRecDepth 8000 in
theorem agx(hΓ:ek Γ)(c:Ct)(hc:bX c)(N:List Bs):∀n i:Nat,i+n=c.ai.length->
 aw Tryz.prog Γ (yjq (.ptr 0 0) (.ptr 1 0) (.ptr 2 0) (.mp 3) (.list false c.kL (c.ai.map nD)) (.int .i64 c.ai.length) (.int .i64 i) (sN c N) Cp) (.ret (sE (kW (jE (ik N (eV c)) c.af) (c.ai.drop i)))):=by
 have b:=hc.2.2.2.1;have b3:=hc.2.2.1;intro n
 induction n with
 |zero=>
  intro i hi
  have q1:¬i<c.ai.length:=by omega
  have hh:=afW (Γ:=Γ) hΓ c hc N c.af.length 0 (by omega);rw[br (by omega),kW];refine .go 160 ?_;simp[q1];refine .inLoop ?_;simp[sN]at hh⊢;exact hh
 |succ n ih=>
  intro i hi
  have q1:i<c.ai.length:=by omega
  have q2:=c.hL.of q1;rw[bL q1,kW];have hh:=ih (i+1) (by omega);refine .go 160 ?_
  by_cases h1:0<=c.ai[i].init
  ·by_cases h2:c.ai[i].init<=2
   ·have e:me c.ai[i]=true:=by simp[me,h1,h2]
    simp[q1,q2,h1,h2,e];refine .call 160 (by simp) (rY 1 c.ai[i].name) ?_;simp(disch:=omega);refine .aF ?_;simp;refine .drop 4 rfl (by simp) (by simp) (by simp) ?_;simp[q2,sN]at hh⊢;exact hh
   ·have e:me c.ai[i]=false:=by simp[me,h2]
    simp[q1,q2,h1,h2,e];refine .lN 160 (by simp) (l7 1 c.ai[i].name) ?_;simp;refine .dr 90 ?_;simp;exact .back (by simp)
  ·have e:me c.ai[i]=false:=by simp[me,h1]
   simp[q1,q2,h1,e];refine .lN 160 (by simp) (l7 1 c.ai[i].name) ?_;simp;refine .dr 90 ?_;simp;exact .back (by simp)
theorem aw.j8{P:Program}(n:Nat){f:FuncId}{args:List AV}{up:List Fr}{h:List Ob}{v:AV}{o:Out}(h1:∀up,∃h',AM.Reach P Γ (.cl f args up h) (.die up v (h++h')))(h2:∀h',aw P Γ (AM.go P Γ 0 n (.die up v (h++h'))) o):aw P Γ (.cl f args up h) o:=by
 obtain⟨h',hr⟩:=h1 up;exact .reach hr (.go n (h2 h'))
set_option maxRecDepth 8000 in
theorem agl(hΓ:ek Γ)(c:Ct)(hc:bX c)(l:List Bs):∀n i:Nat,i+n=l.length->l.length<2^40->
 aw Tryz.prog Γ (yjs (.ptr 0 0) (.ptr 1 0) (.ptr 2 0) (.list false 1 (l.map .str)) (.int .i64 l.length) (.int .i64 i) (Ic c) Cp)
  (.ret (sE (n4 (mL (i_ (aD c)) (mL (i_ c.bf) (kW (jE (ik (aD c) (eV c)) c.af) c.ai))) (l.drop i)))):=by
 have b0:=hc.1;have b1:=hc.2.1;have b3:=hc.2.2.1;have b4:=hc.2.2.2.1;intro n
 induction n with
 |zero=>
  intro i hi hL
  have q1:¬i<l.length:=by omega
  have hN:(aD c).length<2^40:=by simp[aD];omega
  rw[br (by omega),n4];refine .go 160 ?_;simp[q1];refine .call 1 (by simp) (Gj c hc) ?_;simp;refine .trees [54] ?_;simp;refine .go 2 ?_;simp
  cases ht:i_ (aD c)with
  |some s0=>
   refine aw.j8 160 (NR (Γ:=Γ) (fl:=false) (aD c) .self hN _ (by intro m hm;simp) ht) (fun h'=>?_);simp;refine .dr 90 ?_;simp;exact .back (by simp[mL])
  |none=>
   refine .aX 160 (O5 (Γ:=Γ) (fl:=false) (aD c) .self hN _ (by intro m hm;simp) ht) ?_;simp
   cases hu:i_ c.bf with
   |some s0=>
    refine aw.j8 160 (NR (Γ:=Γ) (fl:=false) c.bf c.hO (by omega) _ (by intro m hm;simp) hu) (fun h'=>?_);simp;refine .dr 90 ?_;simp;exact .back (by simp[mL])
   |none=>
    have hh:=agx (Γ:=Γ) hΓ c hc (aD c) c.ai.length 0 (by omega);refine .aX 160 (O5 (Γ:=Γ) (fl:=false) c.bf c.hO (by omega) _ (by intro m hm;simp) hu) ?_;simp;refine .inLoop ?_;simp;refine .gc 3 [1] (by simp) (by decide) ?_;simp[sN,mL]at hh⊢;exact hh
 |succ n ih=>
  intro i hi hL
  have q1:i<l.length:=by omega
  rw[bL q1,n4];have hh:=ih (i+1) (by omega) hL;refine .go 160 ?_;simp[q1];refine .call 160 (by simp) (OY l[i]) ?_
  cases hb:jd l[i]with
  |true=>
   simp;refine .call 160 (by simp) (rY 4 l[i]) ?_;simp(disch:=omega);refine .aF ?_;simp at hh⊢;exact hh
  |false=>
   simp;refine .lN 160 (by simp) (l7 4 l[i]) ?_;simp;refine .dr 90 ?_;simp;exact .back (by simp)
set_option maxRecDepth 8000 in
theorem aeD(hΓ:ek Γ)(c:Ct)(hc:bX c):aM Tryz.prog Γ nO [bH c] (sE (iF c)):=by
 have b0:=hc.1;have b1:=hc.2.1;have b3:=hc.2.2.1;have b4:=hc.2.2.2.1;have t1:=ug hc;have t2:=w_ hc;have hC:=JY (Γ:=Γ) (fl:=false) (NZ c.af) c.hG (by omega) (h:=Ic c) trivial;have e0:((c.aG.length:Int)+c.ai.length+c.af.length<=200)=(c.aG.length+c.ai.length+c.af.length<=200):=propext (by omega);have e1:((c.bf.length:Int)<=200)=(c.bf.length<=200):=propext (by omega);refine .run 160 Kt (by simp) ?_;unfold iF
 by_cases h1:c.aG.length+c.ai.length+c.af.length<=200
 ·by_cases h2:c.bf.length<=200
  ·simp(disch:=omega) [e0,e1,h1,h2];refine .aX 160 hC ?_
   cases h3:bu r_ c.af with
   |true=>
    have hl:jg c=true:=by simp[jg,h3]
    simp;refine .lN 160 (by simp) (l7 8 []) ?_;simp;refine .dr 90 ?_;simp;exact .back (by simp[hl])
   |false=>
    have hl:jg c=false:=by
     simp only[jg,h3,nI,jV,jr];omega
    have hh:=agl (Γ:=Γ) hΓ c hc (qw c) (qw c).length 0 (by omega) (by simp[qw];omega);simp;refine .call 160 (by simp) (rY 8 []) ?_;simp;refine .call 1 (by simp) (aeZ c hc) ?_;simp;refine .trees [42] ?_;simp;refine .drop 3 rfl (by simp) (by simp) (by simp) ?_;refine .go 60 ?_;simp;refine .inLoop ?_;simp[hl]at hh⊢;exact hh
  ·have hl:jg c=true:=by
    simp only[jg,fa,bj];right;right;omega
   simp(disch:=omega) [e0,e1,h1,h2];refine .lN 160 (by simp) (l7 8 []) ?_;simp;refine .dr 90 ?_;simp;exact .back (by simp[hl])
 ·have hl:jg c=true:=by
   simp only[jg,fa,bj];right;left;omega
  simp(disch:=omega) [e0,e1,h1];refine .lN 160 (by simp) (l7 8 []) ?_;simp;refine .dr 90 ?_;simp;exact .back (by simp[hl])
def jh(s:List UInt8):List (List UInt8)->Nat->Int
 |[],_=>-1
 |a::l,i=>if s=a then(i:Int)else jh s l (i+1)
theorem MH(s:List UInt8):∀(l:List (List UInt8))(i:Nat),decide (0<=jh s l i)=l.contains s
 |[],i=>by simp[jh]
 |a::l,i=>by
  rw[jh,List.contains_cons]
  by_cases h:s=a
  ·rw[if_pos h];simp[h]
  ·rw[if_neg h,MH s l (i+1)]
   have:(s==a)=false:=by simpa using h
   rw[this];rfl
theorem Ms(l:List (List UInt8))(s:List UInt8){k:Nat}(hk:Kd 1 k l)(hl:l.length<2^40):aM Tryz.prog Γ s8 [.list false k (l.map .str),.str s] (.int .i64 (jh s l 0)):=by
 have key:∀n i:Nat,i+n=l.length->aw Tryz.prog Γ (ygb (.list false k (l.map .str)) (.str s) (.int .i64 l.length) (.int .i64 i) []) (.ret (.int .i64 (jh s (l.drop i) i))):=by
  intro n
  induction n with
  |zero=>
   intro i hi
   have q1:¬i<l.length:=by omega
   rw[br (by omega),jh];refine .go 60 ?_;simp[q1];exact .back (by simp)
  |succ n ih=>
   intro i hi
   have q1:i<l.length:=by omega
   have q2:=bP (hk.of q1);have hh:=ih (i+1) (by omega);rw[bL q1,jh];refine .go 60 ?_
   by_cases h:s=l[i]
   ·simp[q1,q2,h];exact .back (by simp)
   ·simp(disch:=omega) [q1,q2,h];refine .aF ?_;simp at hh⊢;exact hh
 refine .run 60 Uq (by simp) ?_;simp;refine .inLoop ?_;have hh:=key l.length 0 (by omega);simp at hh⊢;exact hh
theorem DG(a b:List (List UInt8)){ka kb:Nat}(ha:Kd 1 ka a)(hb:Kd 1 kb b)(hs:a.length<2^60):aM Tryz.prog Γ rk [.list false ka (a.map AV.str),.list false kb (b.map AV.str)] (.bool (decide (a=b))):=by
 refine .run 60 Ur (by simp) ?_
 by_cases hl:a.length=b.length
 ·have key:∀n i:Nat,i+n=a.length->aw Tryz.prog Γ (ynt (.list false ka (a.map AV.str)) (.list false kb (b.map AV.str)) (.int .i64 a.length) (.int .i64 i) []) (.ret (.bool (decide (a.drop i=b.drop i)))):=by
   intro n
   induction n with
   |zero=>
    intro i hi;refine .go 60 ?_
    have h1:¬i<a.length:=by omega
    have h2:a.drop i=b.drop i:=by rw[br (by omega),br (by omega)]
    simp[h1,h2];exact .back (by simp)
   |succ n ih=>
    intro i hi
    have h1:i<a.length:=by omega
    have h2:i<b.length:=by omega
    obtain rfl:=ha.of h1;obtain rfl:=hb.of h2;have h4:=drop_eq h1 h2;refine .go 60 ?_
    by_cases h3:a[i]=b[i]
    ·simp(disch:=omega) [h1,h2,h3,h4];refine .aF ?_;simpa using ih (i+1) (by omega)
    ·simp(disch:=omega) [h1,h2,h3,h4];exact .back (by simp)
  simp[hl];refine .inLoop ?_;simpa[hl]using key a.length 0 (by omega)
 ·have h2:¬a=b:=fun e=>hl (by rw[e])
  simp[hl,h2];exact .back (by simp)
theorem Yf(a b:List (List UInt8)){ka kb:Nat}(ha:Kd 1 ka a)(hb:Kd 1 kb b)(hs:a.length<2^60):aM Tryz.prog Γ wj [.list false ka (a.map .str),.list false kb (b.map .str)] (.bool (decide (a=b))):=by
 refine .run 60 XZ (by simp) ?_
 by_cases hl:a.length=b.length
 ·have key:∀n i:Nat,i+n=a.length->aw Tryz.prog Γ (ycX (.list false ka (a.map .str)) (.list false kb (b.map .str)) (.int .i64 i) []) (.ret (.bool (decide (a.drop i=b.drop i)))):=by
   intro n
   induction n with
   |zero=>
    intro i hi;refine .go 60 ?_
    have h1:¬i<a.length:=by omega
    have h2:a.drop i=b.drop i:=by rw[br (by omega),br (by omega)]
    simp[h1,h2];exact .back (by simp)
   |succ n ih=>
    intro i hi
    have h1:i<a.length:=by omega
    have h2:i<b.length:=by omega
    obtain rfl:=ha.of h1;obtain rfl:=hb.of h2;have h4:=drop_eq h1 h2;refine .go 60 ?_
    by_cases h3:a[i]=b[i]
    ·simp(disch:=omega) [h1,h2,h3,h4];refine .aF ?_;simpa using ih (i+1) (by omega)
    ·simp(disch:=omega) [h1,h2,h3,h4];exact .back (by simp)
  simp[hl];refine .inLoop ?_;simpa[hl]using key a.length 0 (by omega)
 ·have h2:¬a=b:=fun e=>hl (by rw[e])
  simp[hl,h2];exact .back (by simp)
theorem OQ{c:Ct}(hc:bX c):(aD c).length<2^12:=by
 have b0:=hc.1;have b3:=hc.2.2.1;have b4:=hc.2.2.2.1
 simp[aD];omega
abbrev Gt.key(g:Gt):Bs×Int×Bool×List Bs×List Bs:=(g.name,g.op,g.off,g.ins,g.rows)
end Go.Proofs.YtihmomicdpkabaaGreatDoor
namespace Go.Proofs.YtihmomicdpkabaaGreatDoor
open Go.AM Go.Proofs
theorem nh(a b:List UInt8):cn (.sc .str) (.str a) (.str b)=some (decide (a=b)):=by
 simp only[cn,eL]
 by_cases h:a=b<;>simp[h]
theorem BF(a b:Nat):cn (.sc .int) (.int .i64 a) (.int .i64 b)=some (decide (a=b)):=by
 simp only[cn,eL]
 by_cases h:a=b
 ·simp[h]
 ·have h2:¬(a:Int)=b:=by omega
  simp[h,h2]
section
variable{K:Type}[DecidableEq K]{E:EK}{e:K->AV}(he:∀a b,cn E (e a) (e b)=some (decide (a=b)))
def getM{V:Type}(k:K):List (K×V)->Option V
 |[]=>none
 |(a,v)::l=>if k=a then some v else getM k l
def oj{V:Type}(k:K)(l:List (K×V)):List (K×V):=l.filter fun x=>decide (¬x.1=k)
theorem getM_none{V:Type}{k:K}:∀{l:List (K×V)},getM k l=none↔∀x∈l,¬x.1=k
 |[]=>by simp[getM]
 |(a,v)::l=>by
  rw[getM]
  by_cases h:k=a
  ·rw[if_pos h];simp[h]
  ·rw[if_neg h,getM_none];simp only[bw,JB];exact⟨fun h1=>⟨fun h2=>h h2.symm,h1⟩,fun h1=>h1.2⟩
include he
theorem wB{V:Type}(ev:V->AV)(k:K):∀l:List (K×V),ez E (e k) (l.map fun x=>(e x.1,ev x.2))=some ((getM k l).map ev)
 |[]=>rfl
 |(a,v)::l=>by
  simp only[cd,ez,he,getM]
  by_cases h:k=a
  ·simp[h]
  ·simp only[h,mY,db];exact wB ev k l
theorem wJ{V:Type}(ev:V->AV){k:K}(v:V):∀{l:List (K×V)},getM k l=none->ir E (e k) (ev v) (l.map fun x=>(e x.1,ev x.2))=some ((l++[(k,v)]).map fun x=>(e x.1,ev x.2))
 |[],_=>rfl
 |(a,u)::l,h=>by
  rw[getM]at h
  by_cases h2:k=a
  ·rw[if_pos h2]at h;cases h
  ·rw[if_neg h2]at h;simp only[cd,ir,he,h2,mY,wJ ev v h,dv,eR]
theorem L_{V:Type}(ev:V->AV)(k:K):∀{l:List (K×V)},(l.map (·.1)).Nodup->mA E (e k) (l.map fun x=>(e x.1,ev x.2))=some ((oj k l).map fun x=>(e x.1,ev x.2))
 |[],_=>rfl
 |(a,u)::l,h=>by
  simp only[cd,l5]at h
  by_cases h2:k=a
  ·subst h2
   have h3:oj k l=l:=by
    unfold oj;rw[zr];intro x hx
    refine ri fun hn=>h.1 ?_
    rw[<-hn];exact pY hx
   have h4:oj k ((k,u)::l)=l:=by rw[<-h3];simp[oj]
   simp only[cd,mA,he,decide_true,h4]
  ·have h4:oj k ((a,u)::l)=(a,u)::oj k l:=by
    unfold oj;rw[zu,if_pos (by simpa using fun h=>h2 h.symm)]
   simp only[cd,mA,he,h2,mY,L_ ev k h.2,dv,h4]
end
end Go.Proofs.YtihmomicdpkabaaGreatDoor
namespace Go.Proofs.YtihmomicdpkabaaGreatDoor
open Go.AM Go.Proofs
variable{Γ:Nat->Option AV}
def cj(c:Ct):List (Bs×Nat):=c.af.zipIdx.map fun x=>(x.1.name,x.2)
abbrev g_(x:Bs×Nat):AV×AV:=(.str x.1,.int .i64 x.2)
theorem nX(m:Nat):∀l:List (Bs×Nat),fT m (l.map g_)=true
 |[]=>rfl
 |x::l=>by simp[nX m l]
theorem uo(c:Ct):(cj c).length=c.af.length:=by simp[cj]
theorem xf(c:Ct)(i:Nat)(h:i<c.af.length):(cj c)[i]'(by rw[uo];exact h)=(c.af[i].name,i):=by simp[cj]
theorem abV(c:Ct):(cj c).map (·.1)=c.af.map (·.name):=by
 apply List.ext_getElem
 ·simp[cj]
 ·intro i h1 h2;simp[cj]
theorem aa1{c:Ct}(hd:(c.af.map (·.name)).Nodup){i:Nat}(h:i<c.af.length):getM c.af[i].name ((cj c).take i)=none:=by
 rw[getM_none];intro x hx hn;obtain⟨j,hj,rfl⟩:=kC hx
 have hj':j<i:=by simp at hj;omega
 rw[ox,xf c j (by omega)]at hn
 have h1:(c.af.map (·.name))[j]'(by simp;omega)=(c.af.map (·.name))[i]'(by simp;omega):=by simpa using hn
 have:=(zw hd).1 h1;omega
set_option maxRecDepth 8000 in
theorem Ny(c:Ct)(hc:bX c)(hd:(c.af.map (·.name)).Nodup){h:List Ob}(hw:cr h)(up:List Fr):
 AM.Reach Tryz.prog Γ (.cl tn [bH c] up h) (.back up (.mp (h.length+1)) (h++[.cells (AV.cells (bH c)),.map ((cj c).map g_) true])):=by
 have hG:=c.hG;have hb:=hw (h.length+2) (by omega)
 have key:∀n i:Nat,i+n=c.af.length->AM.Reach Tryz.prog Γ (yoo (.mp (h.length+1)) (.list false c.kG (c.af.map cU)) (.int .i64 c.af.length) (.int .i64 i) (h++[.cells (AV.cells (bH c)),.map (((cj c).take i).map g_) true]) ⟨[],.norm,h.length,up⟩)
  (.back up (.mp (h.length+1)) (h++[.cells (AV.cells (bH c)),.map ((cj c).map g_) true])):=by
  intro n
  induction n with
  |zero=>
   intro i hi
   have q1:¬i<c.af.length:=by omega
   rw[bR (by rw[uo];omega)];refine .aR 60 ?_;simp[q1]
  |succ n ih=>
   intro i hi
   have q1:i<c.af.length:=by omega
   have q2:=bP (hG.of q1);have hh:=ih (i+1) (by omega)
   have q3:i<(cj c).length:=by rw[uo];exact q1
   have e1:(cj c).take (i+1)=(cj c).take i++[(c.af[i].name,i)]:=by rw[gG q3,xf c i q1]
   rw[e1]at hh;have hput:=wJ (E:=.sc .str) (e:=AV.str) nh (fun n:Nat=>AV.int .i64 n) i (aa1 hd q1);have hbp:=nX (h.length+2) ((cj c).take i++[(c.af[i].name,i)])
   have hi2:i<2^10:=by have:=hc.2.2.2.1;omega
   generalize(cj c).take i=P at*;refine .aR 60 ?_;simp(disch:=omega) [q1,q2,isKey,bU,cz,hput];refine .aF ?_;simp;refine .jz (h.length+2) (by simp;rfl) (by simp) (by simp) (by simp[hb]at hbp⊢;exact hbp) ?_;simp at hh⊢;exact hh
 refine .bt 60 Wd ?_;simp;refine .inLoop ?_;have hh:=key c.af.length 0 (by omega);simp at hh⊢;exact hh
abbrev gL(c:Ct):AV:=.list false c.kG (c.af.map cU)
abbrev tR(p:Nat)(x2 x3 a b c d e f g h i w:AV):List AV:=[U,.ptr p 0,x2,x3,w,U,U,U,U,U,U,U,U,a,b,c,d,e,f,g,h,i]++List.replicate 58 U
abbrev hW(c:Ct)(n:Nat):List Ob:=[.cells [.sl (n+1) 0 c.af.length,.sl (n+2) 0 c.af.length],.row 1 jW (List.replicate c.af.length .c_) none true false,.row 1 iZ (List.replicate c.af.length (.list true 0 [])) none true false]
abbrev oq:=List Nat×List Nat
abbrev Hd:List (List Nat):=[[],[0],[1],[2,2],[],[4],[5],[6,6],[3,7],[],[9,8,0,1,2,3,4,5,6,7,8,9]]
abbrev TN(x:oq):List Nat:=(List.range 11).filter (kS Hd x.1)
def GR(i:Nat):List Nat->List Nat
 |[]=>[i]
 |a::l=>if i<a then i::a::l else a::GR i l
def nA(i:Nat)(x:oq):oq:=(GR i x.1,if i==3||i==7||i==9 then x.2++[i]else x.2)
def mP(y:Nat):List Nat->Nat
 |[]=>0
 |a::l=>if a==y then 0 else(if a==9 then 3 else 1)+mP y l
abbrev sG(c:Ct)(H:List Ob)(j:Nat):AV:=.sl (H.length+j) 0 c.af.length
def yW(c:Ct)(p:Nat)(H:List Ob)(x:oq):Nat->AV
 |0=>.ptr p 3|4=>.ptr p 3|1=>gL c|5=>gL c|2=>.int .i64 c.af.length|6=>.int .i64 c.af.length
 |3=>sG c H (mP 3 x.2)|7=>sG c H (mP 7 x.2)|8=>.agg [sG c H (mP 3 x.2),sG c H (mP 7 x.2)]|9=>.ptr (H.length+mP 9 x.2) 0|_=>.aB []
def zW(c:Ct)(p:Nat)(H:List Ob)(x:oq)(i:Nat):AV:=if x.1.contains i then yW c p H x i else U
def tW(c:Ct)(p:Nat)(x2 x3:AV)(H:List Ob)(x:oq):List AV:=tR p x2 x3 (zW c p H x 0) (zW c p H x 1) (zW c p H x 2) (zW c p H x 3) (zW c p H x 4) (zW c p H x 5) (zW c p H x 6) (zW c p H x 7) (zW c p H x 8) (zW c p H x 9)
def IC(c:Ct)(H:List Ob)(x:oq)(i:Nat):List Ob:=
 if i==3 then[.row 1 jW (List.replicate c.af.length .c_) none true false]else if i==7 then[.row 1 iZ (List.replicate c.af.length (.list true 0 [])) none true false]
 else[.cells (if x.1.contains 10 then[sG c H (mP 3 x.2),sG c H (mP 7 x.2)]else[.sl (H.length+(mP 9 x.2+1)) 0 0,.sl (H.length+(mP 9 x.2+2)) 0 0]),.row 1 jW [] none true false,.row 1 iZ [] none true false]
def qN(c:Ct)(H:List Ob)(x:oq):List Ob:=H++x.2.flatMap (IC c H x)
abbrev uO:List oq:=[([],[]),([0],[]),([4],[]),([9],[9]),([0,1],[]),([0,4],[]),([0,9],[9]),([4,5],[]),([4,9],[9]),([0,1,2],[]),([0,1,4],[]),([0,1,9],[9]),([0,4,5],[]),([0,4,9],[9]),([4,5,6],[]),([4,5,9],[9]),([0,1,2,3],[3]),([0,1,2,4],[]),([0,1,2,9],[9]),([0,1,4,5],[]),([0,1,4,9],[9]),([0,4,5,6],[]),([0,4,5,9],[9]),([4,5,6,7],[7]),([4,5,6,9],[9]),([0,1,2,3,4],[3]),([0,1,2,3,9],[3,9]),([0,1,2,3,9],[9,3]),([0,1,2,4,5],[]),([0,1,2,4,9],[9]),([0,1,4,5,6],[]),([0,1,4,5,9],[9]),([0,4,5,6,7],[7]),([0,4,5,6,9],[9]),([4,5,6,7,9],[7,9]),([4,5,6,7,9],[9,7]),([0,1,2,3,4,5],[3]),([0,1,2,3,4,9],[3,9]),([0,1,2,3,4,9],[9,3]),([0,1,2,4,5,6],[]),([0,1,2,4,5,9],[9]),([0,1,4,5,6,7],[7]),([0,1,4,5,6,9],[9]),([0,4,5,6,7,9],[7,9]),([0,4,5,6,7,9],[9,7]),([0,1,2,3,4,5,6],[3]),([0,1,2,3,4,5,9],[3,9]),([0,1,2,3,4,5,9],[9,3]),([0,1,2,4,5,6,7],[7]),([0,1,2,4,5,6,9],[9]),([0,1,4,5,6,7,9],[7,9]),([0,1,4,5,6,7,9],[9,7]),([0,1,2,3,4,5,6,7],[3,7]),([0,1,2,3,4,5,6,7],[7,3]),([0,1,2,3,4,5,6,9],[3,9]),([0,1,2,3,4,5,6,9],[9,3]),([0,1,2,4,5,6,7,9],[7,9]),([0,1,2,4,5,6,7,9],[9,7]),([0,1,2,3,4,5,6,7,8],[3,7]),([0,1,2,3,4,5,6,7,8],[7,3]),([0,1,2,3,4,5,6,7,9],[3,7,9]),([0,1,2,3,4,5,6,7,9],[3,9,7]),([0,1,2,3,4,5,6,7,9],[7,3,9]),([0,1,2,3,4,5,6,7,9],[7,9,3]),([0,1,2,3,4,5,6,7,9],[9,3,7]),([0,1,2,3,4,5,6,7,9],[9,7,3]),([0,1,2,3,4,5,6,7,8,9],[3,7,9]),([0,1,2,3,4,5,6,7,8,9],[3,9,7]),([0,1,2,3,4,5,6,7,8,9],[7,3,9]),([0,1,2,3,4,5,6,7,8,9],[7,9,3]),([0,1,2,3,4,5,6,7,8,9],[9,3,7]),([0,1,2,3,4,5,6,7,8,9],[9,7,3]),([0,1,2,3,4,5,6,7,8,9,10],[3,7,9]),([0,1,2,3,4,5,6,7,8,9,10],[3,9,7]),([0,1,2,3,4,5,6,7,8,9,10],[7,3,9]),([0,1,2,3,4,5,6,7,8,9,10],[7,9,3]),([0,1,2,3,4,5,6,7,8,9,10],[9,3,7]),([0,1,2,3,4,5,6,7,8,9,10],[9,7,3])]
section
variable{c:Ct}{p:Nat}{x2 x3:AV}{H:List Ob}{up:List Fr}{base:Nat}{k:List It}{C:AM.an}
abbrev AW(Γ:Nat->Option AV)(c:Ct)(p:Nat)(x2 x3:AV)(k:List It)(base:Nat)(up:List Fr)(C:AM.an)(H:List Ob)(x:oq):Prop:=lR Tryz.prog Γ Hd CM m4 k [] .norm base up C x.1 (11-x.1.length) (tW c p x2 x3 H x) (qN c H x)
theorem abi:(uO.all fun x=>(decide (x.1.length<11)||(uO.drop 72).contains x)&&(TN x).all fun i=>(uO.contains (nA i x))&&(i::x.1).isPerm (nA i x).1&&decide ((i::x.1).length=(nA i x).1.length))=true:=by decide+kernel
set_option maxRecDepth 8000 in
theorem agR(hc:bX c)(hp:H[p]? =some (.cells (AV.cells (bH c)))):∀x∈uO,∀i∈TN x,∃d op,CM.getD i default=⟨d,none,op⟩/\
 (ay Tryz.prog Γ (tW c p x2 x3 H x) (qN c H x) op=.val (yW c p H (nA i x) i) (qN c H (nA i x))\/yW c p H (nA i x) i=.aB []/\ay Tryz.prog Γ (tW c p x2 x3 H x) (qN c H x) op=.skip (qN c H (nA i x)))/\
 a8 (tW c p x2 x3 H x) d (yW c p H (nA i x) i)=tW c p x2 x3 H (nA i x):=by
 have hG:=hc.2.2.2.1
 have hget:=fun os=>dL hp os
 have b8:((c.af.length:Int)*8<=140737488355328/\(c.af.length:Int)<=140737488355328)=True:=bP (by omega);have b24:((c.af.length:Int)*24<=140737488355328/\(c.af.length:Int)<=140737488355328)=True:=bP (by omega)
 repeat' (first|refine TQ.2 ⟨?_,?_⟩|exact List.forall_mem_nil _)
 all_goals exact ⟨_,_,rfl,by simp[tW,qN,zW,yW,mP,nA,GR,IC,hp,hget,b8,b24],rfl⟩
set_option maxRecDepth 8000 in
theorem ahb(hw:cI H.length H=true)(hb:base<=H.length)(hp:p<H.length)(h2:aI H.length x2=true)(h3:aI H.length x3=true)(hk:fZ H.length k=true)
 (hC:AM.Reach Tryz.prog Γ (.fr ⟨.run,m4,.ops []::k,tR p x2 x3 U U U U U U U U U (.ptr H.length 0),[],.norm,base⟩ up (H++hW c H.length)) C):∀x∈uO.drop 72,AW Γ c p x2 x3 k base up C H x:=by
 have hlt:∀j,(H.length+j<H.length)=False:=fun j=>ie (by omega)
 simp at hC
 repeat' (first|refine TQ.2 ⟨?_,?_⟩|exact List.forall_mem_nil _)
 all_goals
  refine .trans (.lU [13,14,15,16,17,18,19,20,21] _) ?_;simp[lS,tW,qN,zW,yW,mP,IC]
  first
  |refine .mE H.length [2,0,1] (by simp[l_ hw,iX h2,iX h3,hk,hb,hp];done) (by decide) ?_
   simp[mb hw,iY h2,iY h3,hp,hlt];exact hC
  |refine .mE H.length [1,0,4] (by simp[l_ hw,iX h2,iX h3,hk,hb,hp];done) (by decide) ?_
   simp[mb hw,iY h2,iY h3,hp,hlt];exact hC
  |refine .mE H.length [2,1,0] (by simp[l_ hw,iX h2,iX h3,hk,hb,hp];done) (by decide) ?_
   simp[mb hw,iY h2,iY h3,hp,hlt];exact hC
  |refine .mE H.length [1,4,0] (by simp[l_ hw,iX h2,iX h3,hk,hb,hp];done) (by decide) ?_
   simp[mb hw,iY h2,iY h3,hp,hlt];exact hC
  |refine .mE H.length [0,3,4] (by simp[l_ hw,iX h2,iX h3,hk,hb,hp];done) (by decide) ?_
   simp[mb hw,iY h2,iY h3,hp,hlt];exact hC
  |refine .mE H.length [0,4,3] (by simp[l_ hw,iX h2,iX h3,hk,hb,hp];done) (by decide) ?_
   simp[mb hw,iY h2,iY h3,hp,hlt];exact hC
set_option maxRecDepth 8000 in
theorem aew(hc:bX c)(hp:H[p]? =some (.cells (AV.cells (bH c))))(hw:cI H.length H=true)(hb:base<=H.length)(h2:aI H.length x2=true)(h3:aI H.length x3=true)(hk:fZ H.length k=true)
 (hC:AM.Reach Tryz.prog Γ (.fr ⟨.run,m4,.ops []::k,tR p x2 x3 U U U U U U U U U (.ptr H.length 0),[],.norm,base⟩ up (H++hW c H.length)) C):
 AM.Reach Tryz.prog Γ (.fr ⟨.run,m4,.code (.fv Hd CM)::k,tR p x2 x3 U U U U U U U U U U,[],.norm,base⟩ up H) C:=by
 have ha:=abi;simp only[dw,av,fa,TY,List.isPerm_iff,bj]at ha
 have key:∀n,∀x∈uO,11-x.1.length=n->AW Γ c p x2 x3 k base up C H x:=by
  intro n
  induction n with
  |zero=>exact fun x hx hn=>ahb hw hb (aZ hp) h2 h3 hk hC x ((ha x hx).1.resolve_left (by omega))
  |succ n ih=>
   intro x hx hn;rw[AW,hn]
   refine .step fun i hi=>?_
   obtain⟨d,op,e1,e2,e3⟩:=agR hc hp x hx i hi;obtain⟨⟨a1,a2⟩,a3⟩:=(ha x hx).2 i hi;refine⟨d,op,_,_,e1,e2,?_⟩;rw[e3]
   have a4:11-(nA i x).1.length=n:=by simp at a3;omega
   have:=ih _ a1 a4;rw[AW,a4]at this;exact this.perm a2.symm
 have h:=key 11 ([],[]) (by decide) rfl;rw[AW,qN,List.flatMap_nil,eS]at h;exact lR.all h
end
abbrev eK(k:Nat):AV×AV:=(.int .i64 k,.bool true)
def fA(l:List Nat):Ob:=.row 1 aq (l.map iN) none true false
def gX(l:List Nat):Ob:=.map (l.map eK) true
def dz(n N m:Nat):List AV:=(List.range m).map (fun i=>AV.mp (n+(3+(N+i))))++List.replicate (N-m) .c_
def fF(n:Nat)(b:List (List Nat)):List AV:=b.mapIdx fun j l=>AV.sl (n+(3+j)) 0 l.length
def hF(n N m:Nat)(b:List (List Nat)):List Ob:=[.cells [.sl (n+1) 0 N,.sl (n+2) 0 N],.row 1 jW (dz n N m) none (decide (m=0)) false,.row 1 iZ (fF n b) none (decide (b.length=0)) false]
def hQ(H:List Ob)(nd b:List (List Nat)):List Ob:=H++(hF H.length b.length nd.length b++(b.map fA++nd.map gX))
section
variable{H:List Ob}{nd b:List (List Nat)}
theorem lD:(hQ H nd b).length=H.length+(3+(b.length+nd.length)):=by simp[hQ,hF];omega
theorem GK{i:Nat}(h:i<H.length):(hQ H nd b)[i]? =H[i]? :=by rw[hQ,cV h]
theorem xF(i:Nat):(hQ H nd b)[H.length+i]? =(hF H.length b.length nd.length b++(b.map fA++nd.map gX))[i]? :=by
 rw[hQ,dF (by omega)];congr 1;omega
theorem G5:(hQ H nd b)[H.length]? =some (.cells [.sl (H.length+1) 0 b.length,.sl (H.length+2) 0 b.length]):=xF 0
theorem G7:(hQ H nd b)[H.length+1]? =some (.row 1 jW (dz H.length b.length nd.length) none (decide (nd.length=0)) false):=xF 1
theorem Ql:(hQ H nd b)[H.length+2]? =some (.row 1 iZ (fF H.length b) none (decide (b.length=0)) false):=xF 2
theorem GQ{k:Nat}(h:k<b.length):(hQ H nd b)[H.length+(3+k)]? =some (fA b[k]):=by
 rw[xF,dF (by simp[hF]),cV (by simp[hF];omega)];simp[hF,h]
theorem P8{i:Nat}(h:i<nd.length):(hQ H nd b)[H.length+(3+(b.length+i))]? =some (gX nd[i]):=by
 rw[xF,dF (by simp[hF]),dF (by simp[hF])];simp[hF,h]
theorem E1{n N m i:Nat}(h:i<m):(dz n N m)[i]? =some (.mp (n+(3+(N+i)))):=by
 rw[dz,cV (by simpa using h)];simp[h]
theorem Ax{n N m:Nat}(h:m<=N):(dz n N m).length=N:=by simp[dz];omega
theorem ql(n:Nat)(b:List (List Nat)):(fF n b).length=b.length:=by simp[fF]
theorem rU{n k:Nat}(h:k<b.length):(fF n b)[k]? =some (.sl (n+(3+k)) 0 b[k].length):=by simp[fF,h]
theorem aen{n k:Nat}(l:List Nat)(h:k<b.length):(fF n b).set k (.sl (n+(3+k)) 0 l.length)=fF n (b.set k l):=by
 apply jq;intro j
 by_cases hj:k=j
 ·subst hj;rw[eu (by rw[ql];exact h),rU (by simpa using h)];simp
 ·rw[dB hj]
  by_cases hjb:j<b.length
  ·rw[rU hjb,rU (by simpa using hjb),JC hj]
  ·rw[jS (by rw[ql];omega),jS (by rw[ql];simp;omega)]
theorem OA{i:Nat}(l:List Nat)(h:i<nd.length):(hQ H nd b).set (H.length+(3+(b.length+i))) (gX l)=hQ H (nd.set i l) b:=by
 have e:H.length+(3+(b.length+i))=H.length+((hF H.length b.length nd.length b).length+((b.map fA).length+i)):=by simp[hF]
 have ap:∀(a c:List Ob)(j:Nat)(o:Ob),(a++c).set (a.length+j) o=a++c.set j o:=fun a c j o=>by
  rw[vG _ _ (by omega)];congr 2;omega
 rw[hQ,e,ap,ap,ap,hQ,jn,<-pX]
theorem BE(a c:List Ob)(j:Nat)(o:Ob):(a++c).set (a.length+j) o=a++c.set j o:=by rw[vG _ _ (by omega)];congr 2;omega
theorem ael{k:Nat}(l:List Nat)(h:k<b.length):((hQ H nd b).set (H.length+(3+k)) (fA l)).set (H.length+2) (.row 1 iZ (fF H.length (b.set k l)) none (decide (b.length=0)) false)=hQ H nd (b.set k l):=by
 have e:H.length+(3+k)=H.length+((hF H.length b.length nd.length b).length+k):=by simp[hF]
 have ap:∀(a c:List Ob)(j:Nat)(o:Ob),(a++c).set (a.length+j) o=a++c.set j o:=fun a c j o=>by
  rw[vG _ _ (by omega)];congr 2;omega
 rw[hQ,e,ap,ap,ap,hQ,jn,show((b.map fA++nd.map gX).set k (fA l))=(b.map fA).set k (fA l)++nd.map gX from kz _ _ (by simpa using h),<-pX];simp[hF]
theorem Oh{n m:Nat}(b:List (List Nat))(h:n+(3+b.length)<=m):aK m (fF n b)=true:=by
 have:∀(l:List (List Nat))(q:Nat),q+(3+l.length)<=m->aK m (l.mapIdx fun j x=>AV.sl (q+(3+j)) 0 x.length)=true:=by
  intro l
  induction l with
  |nil=>intro q _;rfl
  |cons a l ih=>
   intro q hq;simp only[bW]at hq;have h2:=ih (q+1) (by omega)
   have e:(fun(i:Nat) (x:List Nat)=>AV.sl (q+(3+(i+1))) 0 x.length)=fun j x=>AV.sl (q+1+(3+j)) 0 x.length:=by
    funext j x;congr 1;omega
   rw[List.mapIdx_cons,e]
   simp only[aK,h2,aI,oz,bj];omega
 exact this b n h
theorem EP{n N m q:Nat}(h:n+(3+(N+m))<=q):aK q (dz n N m)=true:=by
 have h1:∀l:List Nat,(∀i∈l,i<m)->aK q (l.map fun i=>AV.mp (n+(3+(N+i))))=true:=by
  intro l
  induction l with
  |nil=>intro _;rfl
  |cons a l ih=>
   intro hl;have:=hl a (by simp)
   simp only[cd,aK,aI,ih fun i hi=>hl i (by simp[hi]),oz,bj];omega
 have h2:∀k,aK q (List.replicate k AV.c_)=true:=by
  intro k
  induction k with
  |zero=>rfl
  |succ k ih=>simp[lh,ih]
 rw[dz,Ei,h1 _ (fun i hi=>by simpa using hi),h2];rfl
theorem FI(m:Nat):∀b:List (List Nat),cI m (b.map fA)=true
 |[]=>rfl
 |l::b=>by simp[fA,FI m b]
theorem Pn(m:Nat):∀l:List Nat,fT m (l.map eK)=true
 |[]=>rfl
 |l::b=>by simp[Pn m b]
theorem Fp(m:Nat):∀b:List (List Nat),cI m (b.map gX)=true
 |[]=>rfl
 |l::b=>by
  have:=Pn m l;simp only[cd,cI,gX,gC,this,sV];exact Fp m b
theorem agp(hw:cr H):cr (hQ H nd b):=fun m hm=>by
 rw[lD]at hm;have h1:=hw m (by omega);have h2:=Oh (n:=H.length) (m:=m) b (by omega);have h3:=EP (n:=H.length) (N:=b.length) (m:=nd.length) (q:=m) (by omega);rw[hQ,oN,oN,oN,h1,FI,Fp];simp[hF,h2,h3];omega
theorem FW{n i m:Nat}(b:List (List Nat))(h:∀j(hj:j<b.length),n+(3+j)=i->b[j].length=m):c8 i m (fF n b)=true:=by
 have:∀l:List AV,(∀a∈l,iQ i m a=true)->c8 i m l=true:=by
  intro l
  induction l with
  |nil=>intro _;rfl
  |cons a l ih=>intro hl;simp only[c8,hl a (by simp),ih fun x hx=>hl x (by simp[hx]),mX]
 refine this _ fun a ha=>?_
 obtain⟨j,hj,rfl⟩:=kC ha;rw[ql]at hj
 have e:(fF n b)[j]'(by rw[ql];exact hj)=.sl (n+(3+j)) 0 b[j].length:=by
  have:=rU (n:=n) hj;exact(cW.1 this).2
 rw[e];simp only[iQ,fa,ju,vD,iS,l0]
 by_cases hi:n+(3+j)=i
 ·exact .inr (h j hj hi)
 ·exact .inl hi
theorem EY{n N m i q:Nat}:c8 i q (dz n N m)=true:=by
 have:∀l:List AV,(∀a∈l,iQ i q a=true)->c8 i q l=true:=by
  intro l
  induction l with
  |nil=>intro _;rfl
  |cons a l ih=>intro hl;simp only[c8,hl a (by simp),ih fun x hx=>hl x (by simp[hx]),mX]
 refine this _ fun a ha=>?_
 simp only[dz,bn,cF,ew,T1]at ha
 rcases ha with⟨j,_,rfl⟩|⟨_,rfl⟩<;>rfl
theorem Bb(i m:Nat):∀b:List (List Nat),cJ i m (b.map fA)=true
 |[]=>rfl
 |l::b=>by simp[fA,Bb i m b]
theorem Pe(i m:Nat):∀l:List Nat,nz i m (l.map eK)=true
 |[]=>rfl
 |l::b=>by simp[Pe i m b]
theorem AQ(i m:Nat):∀b:List (List Nat),cJ i m (b.map gX)=true
 |[]=>rfl
 |l::b=>by
  have:=Pe i m l;simp only[cd,cJ,gX,lQ,this,sV];exact AQ i m b
theorem iU(i m:Nat):∀a b:List Ob,cJ i m (a++b)=(cJ i m a&&cJ i m b)
 |[],b=>rfl
 |o::a,b=>by simp[cJ,iU i m a b,nL]
theorem ae6(hv:dY H){k:Nat}(h:k<b.length):cJ (H.length+(3+k)) b[k].length (hQ H nd b)=true:=by
 have h1:=hv (H.length+(3+k)) b[k].length (by omega)
 have h2:c8 (H.length+(3+k)) b[k].length (fF H.length b)=true:=FW b fun j hj he=>by
  obtain rfl:j=k:=by omega
  rfl
 have h3:=EY (n:=H.length) (N:=b.length) (m:=nd.length) (i:=H.length+(3+k)) (q:=b[k].length);rw[hQ,iU,iU,iU,h1,Bb,AQ];simp[hF,h2,h3];omega
end
def lL(n N j:Nat):List AV:=(List.range j).map (fun i=>AV.sl (n+(3+i)) 0 0)++List.replicate (N-j) (.list true 0 [])
def jC(H:List Ob)(N j:Nat):List Ob:=H++([.cells [.sl (H.length+1) 0 N,.sl (H.length+2) 0 N],.row 1 jW (dz H.length N 0) none true false,.row 1 iZ (lL H.length N j) none (decide (j=0)) false]++List.replicate j (fA []))
theorem ZN(H:List Ob)(N j:Nat):(jC H N j).length=H.length+(3+j):=by simp[jC];omega
theorem afU(H:List Ob)(N:Nat)(f:Fr)(up:List Fr):∀m j:Nat,j+m=N->AM.Reach Tryz.prog Γ (.fr f up (jC H N j)) (.fr f up (jC H N N)):=by
 intro m
 induction m with
 |zero=>
  intro j hj
  obtain rfl:j=N:=by omega
  exact .refl _
 |succ m ih=>
  intro j hj;have hlen:=ZN H N j
  have hi:(jC H N j)[H.length+2]? =some (.row 1 iZ (lL H.length N j) none (decide (j=0)) false):=by
   rw[jC,dF (by omega),show H.length+2-H.length=2 by omega];rfl
  have hj2:(lL H.length N j)[j]? =some (.list true 0 []):=by
   rw[lL,dF (by simp),iB,zm,Dx,show N-j=(N-(j+1))+1 by omega,lh];rfl
  have hst:=AM.Reach.Bn (P:=Tryz.prog) (Γ:=Γ) (f:=f) (up:=up) (k:=1) aq hi hj2 (by omega);refine .trans hst ?_
  have e:((jC H N j++[Ob.row 1 aq [] none true false]).set (H.length+2) (.row 1 iZ ((lL H.length N j).set j (.sl (jC H N j).length 0 0)) none false false))=jC H N (j+1):=by
   have e1:(lL H.length N j).set j (.sl (jC H N j).length 0 0)=lL H.length N (j+1):=by
    rw[hlen,lL,vG _ _ (by simp)]
    have e2:List.replicate (N-j) (AV.list true 0 [])=.list true 0 []::List.replicate (N-(j+1)) (.list true 0 []):=by
     rw[show N-j=(N-(j+1))+1 by omega,lh]
    rw[e2];simp[lL,List.range_succ]
   rw[e1,jC,jC,gf,BE];have e3:List.replicate (j+1) (fA [])=List.replicate j (fA [])++[fA []]:=List.replicate_succ';rw[e3];simp[fA]
  rw[e];exact ih (j+1) (by omega)
theorem Y3(c:Ct)(H:List Ob):jC H c.af.length 0=H++hW c H.length:=by simp[jC,hW,dz,lL]
theorem aaS(H:List Ob)(N:Nat):jC H N N=hQ H [] (List.replicate N []):=by
 have e:lL H.length N N=fF H.length (List.replicate N []):=by
  apply jq;intro j
  by_cases hj:j<N
  ·rw[rU (by simpa using hj)];simp[lL,hj]
  ·rw[jS (by simp[lL];omega),jS (by rw[ql];simp;omega)]
 simp[jC,hQ,hF,e]
theorem Nx(k:Nat):∀l:List Nat,ez (.sc .int) (.int .i64 k) (l.map eK)=some (if k∈l then some (.bool true)else none)
 |[]=>rfl
 |a::l=>by
  simp only[cd,ez,BF]
  by_cases h:k=a
  ·simp[h]
  ·simp[h,Nx k l]
theorem OI{k:Nat}:∀{l:List Nat},k∉l->ir (.sc .int) (.int .i64 k) (.bool true) (l.map eK)=some ((l++[k]).map eK)
 |[],_=>rfl
 |a::l,h=>by
  simp only[bw,not_or]at h;simp only[cd,ir,BF,h.1,mY,OI h.2,dv,eR]
theorem afw{c:Ct}{s:Bs}{k:Nat}(h:getM s (cj c)=some k):k<c.af.length:=by
 have:∀l:List (Bs×Nat),getM s l=some k->∃x∈l,x.2=k:=by
  intro l
  induction l with
  |nil=>intro h;cases h
  |cons x l ih=>
   obtain⟨a,v⟩:=x;intro h;rw[getM]at h
   split at h
   ·exact⟨(a,v),by simp,Option.some.inj h⟩
   ·obtain⟨x,h1,h2⟩:=ih h;exact⟨x,by simp[h1],h2⟩
 obtain⟨x,h1,rfl⟩:=this _ h;obtain⟨j,hj,rfl⟩:=kC h1;rw[uo]at hj
 rw[xf c j hj];exact hj
def eJ(pl:List (Bs×Nat)):List Bs->List Nat->List Nat
 |[],a=>a
 |s::r,a=>match getM s pl with
  |none=>eJ pl r a
  |some k=>eJ pl r (if k∈a then a else a++[k])
def jm(pl:List (Bs×Nat))(i:Nat):List Bs->List Nat->List (List Nat)->List (List Nat)
 |[],_,b=>b
 |s::r,a,b=>match getM s pl with
  |none=>jm pl i r a b
  |some k=>jm pl i r (if k∈a then a else a++[k]) (if k∈a then b else b.set k (b.getD k []++[i]))
theorem acL{A:List Ob}{r s:Nat}(h:s≠r)(o o1 o2:Ob):((A.set r o1).set s o2).set r o=(A.set r o).set s o2:=by
 rw[List.set_comm _ _ h,rh]
theorem afz{h:List Ob}{i:Nat}{o:Ob}(hi:h[i]? =some o):h.set i o=h:=by
 apply jq;intro j
 by_cases hj:i=j
 ·subst hj;rw[eu (aZ hi),hi]
 ·rw[dB hj]
theorem FE{i m:Nat}{o:Ob}(ho:lQ i m o=true):∀{h:List Ob}(j:Nat),cJ i m h=true->cJ i m (h.set j o)=true
 |[],_,h1=>h1
 |o'::h,0,h1=>by
  simp only[cJ,av,vn]at h1⊢;exact⟨ho,h1.2⟩
 |o'::h,j+1,h1=>by
  simp only[cJ,av,pO]at h1⊢;exact⟨h1.1,FE ho j h1.2⟩
set_option maxRecDepth 8000 in
theorem ad8(c:Ct)(hc:bX c){H:List Ob}(hw:cr H)(hv:dY H){m0:Nat}(hm:H[m0]? =some (.map ((cj c).map g_) true))(nd:List (List Nat))(i:Nat)(hi:i<c.af.length)(hnd:nd.length=i)(up:List Fr)(base:Nat)(hbase:base<=H.length)(p2:Nat):∀n q:Nat,q+n=c.af[i].ins.length->∀(cur:List Nat)(b:List (List Nat)),b.length=c.af.length->(∀l∈b,l.length<=2^20+i*2^10+q)->
 AM.Reach Tryz.prog Γ (yvn (.ptr p2 0) (.mp m0) (.ptr H.length 0) (.int .i64 i) (.list false c.kG (c.af.map cU)) (.int .i64 c.af.length) (.int .i64 i) (.list false c.af[i].ki (c.af[i].ins.map .str)) (.int .i64 c.af[i].ins.length) (.int .i64 q) (hQ H (nd++[cur]) b) ⟨[],.norm,base,up⟩)
  (yvo (.ptr p2 0) (.mp m0) (.ptr H.length 0) (.list false c.kG (c.af.map cU)) (.int .i64 c.af.length) (.int .i64 i) (hQ H (nd++[eJ (cj c) (c.af[i].ins.drop q) cur]) (jm (cj c) i (c.af[i].ins.drop q) cur b)) ⟨[],.norm,base,up⟩):=by
 have hiB:i<2^10:=by have:=hc.2.2.2.1;omega
 have hqB:c.af[i].ins.length<2^10:=(hc.2.2.2.2.1 _ (bx hi)).2.1;intro n
 induction n with
 |zero=>
  intro q hq cur b hb hbl
  have q1:¬q<c.af[i].ins.length:=by omega
  rw[br (by omega),eJ,jm];refine .di 60 ?_;simp[q1];exact .exit rfl rfl
 |succ n ih=>
  intro q hqn cur b hb hbl
  have hq:q<c.af[i].ins.length:=by omega
  have q2:=bP (c.af[i].hi.of hq)
  have hget:(hQ H (nd++[cur]) b)[m0]? =some (.map ((cj c).map g_) true):=by rw[GK (aZ hm)];exact hm
  have hfi:=wB (E:=.sc .str) (e:=AV.str) nh (fun n:Nat=>AV.int .i64 n) c.af[i].ins[q] (cj c);rw[bL hq,eJ,jm]
  cases hk:getM c.af[i].ins[q] (cj c)with
  |none=>
   rw[hk]at hfi;have hh:=ih (q+1) (by omega) cur b hb (fun l hl=>by have:=hbl l hl;omega);refine .di 60 ?_;simp(disch:=omega) [hq,q2,hget,hfi,isKey,bU,cz];refine .aF ?_;simp at hh⊢;exact hh
  |some k=>
   rw[hk]at hfi;have hkl:=afw hk
   have hkb:k<b.length:=by omega
   have xw:=G5 (H:=H) (nd:=nd++[cur]) (b:=b);have xn:=G7 (H:=H) (nd:=nd++[cur]) (b:=b)
   have hii:i<(nd++[cur]).length:=by simp;omega
   have xm:=P8 (H:=H) (b:=b) hii
   have ecur:(nd++[cur])[i]=cur:=by rw[Dw (by omega)];simp[hnd]
   have yn:=E1 (n:=H.length) (N:=b.length) hii
   have hm1:(nd++[cur]).length=nd.length+1:=by simp
   have yl:=Ax (n:=H.length) (N:=b.length) (m:=nd.length+1) (by omega);have yt:List.take b.length (dz H.length b.length (nd.length+1))=dz H.length b.length (nd.length+1):=bR (by rw[yl];exact aT _);have fc:=Nx k cur;rw[ecur]at xm;rw[hm1]at yn xn;rw[hb]at xm yn xw xn yl yt;obtain⟨_,yn'⟩:=cW.1 yn
   by_cases hkc:k∈cur
   ·rw[if_pos hkc]at fc;have hh:=ih (q+1) (by omega) cur b hb (fun l hl=>by have:=hbl l hl;omega);simp only[if_pos hkc];generalize hQ H (nd++[cur]) b=X at*;refine .di 60 ?_;simp(disch:=omega) [hq,q2,hget,hfi,isKey,bU,cz,xw,xn,xm,yn,yl,yt,yn',hi,gX,fc];refine .aF ?_;simp at hh⊢;exact hh
   ·rw[if_neg hkc]at fc;have pc:=OI hkc;have xb:=Ql (H:=H) (nd:=nd++[cur]) (b:=b);have xr:=GQ (H:=H) (nd:=nd++[cur]) hkb;have yb:=rU (n:=H.length) hkb
    have hh:=ih (q+1) (by omega) (cur++[k]) (b.set k (b.getD k []++[i])) (by simpa using hb) (fun l hl=>by
     rcases oA hl with h1|h1
     ·have:=hbl l h1;omega
     ·have egd:b.getD k []=b[k]:=by rw[bp,bm hkb];rfl
      have:=hbl _ (bx hkb)
      rw[h1,egd,bQ,sR];omega)
    simp only[if_neg hkc]
    have fin:((((hQ H (nd++[cur]) b).set (H.length+(3+(c.af.length+i))) (.map (List.map eK cur++[eK k]) true)).set (H.length+(3+k)) (.row 1 aq (List.map iN b[k]++[.int .i64 i]) (some 0) true false)).set (H.length+2) (.row 1 iZ ((fF H.length b).set k (.sl (H.length+(3+k)) 0 (b[k].length+1))) none false false))=
     (hQ H (nd++[cur++[k]]) (b.set k (b[k]++[i]))).set (H.length+(3+k)) (.row 1 aq (List.map iN b[k]++[.int .i64 i]) (some 0) true false):=by
     have f1:=OA (H:=H) (b:=b) (cur++[k]) hii;have f2:=ael (H:=H) (nd:=nd++[cur++[k]]) (b[k]++[i]) hkb;have f3:=aen (n:=H.length) (b[k]++[i]) hkb
     have f4:(nd++[cur]).set i (cur++[k])=nd++[cur++[k]]:=by rw[vG _ _ (by omega)];simp[hnd]
     have f5:gX (cur++[k])=.map (List.map eK cur++[eK k]) true:=by simp[gX]
     have f6:decide (b.length=0)=false:=vH (by omega)
     have f7:(b[k]++[i]).length=b[k].length+1:=by simp
     rw[f4,f5,hb]at f1;rw[f6]at f2;rw[f7]at f3;rw[f1,f3,<-f2,acL (by omega)]
    have vfin:=ae6 (H:=H) (nd:=nd++[cur++[k]]) (b:=b.set k (b[k]++[i])) hv (k:=k) (by simpa using hkb);have zget:=GQ (H:=H) (nd:=nd++[cur++[k]]) (b:=b.set k (b[k]++[i])) (k:=k) (by simpa using hkb);have zlen:=lD (H:=H) (nd:=nd++[cur++[k]]) (b:=b.set k (b[k]++[i]));rw[List.getElem_set_self]at vfin zget;have zl:=ql H.length b;have zt:List.take b.length (fF H.length b)=fF H.length b:=bR (by rw[zl];exact aT _);rw[hb]at xb zl zt;obtain⟨_,yb'⟩:=cW.1 yb;generalize hQ H (nd++[cur]) b=X at*;clear zlen;refine .di 60 ?_;simp(disch:=omega) [hq,q2,hget,hfi,isKey,bU,cz,xw,xn,xm,yn,yl,yt,yn',hi,gX,fc,pc];refine .QE 60 ?_
    have d1:¬c.af.length+i=k:=by omega
    have b8:(b[k].length+1)*8<=140737488355328:=by have:=hbl _ (bx hkb);omega
    simp(disch:=omega) [xw,xb,xr,yb,yb',zl,zt,fA,d1,b8];rw[fin];have zlen:=lD (H:=H) (nd:=nd++[cur++[k]]) (b:=b.set k (b[k]++[i]))
    have egd:b.getD k []=b[k]:=by rw[bp,bm hkb];rfl
    rw[egd]at hh
    try rw [egd]
    generalize hQ H (nd++[cur++[k]]) (b.set k (b[k]++[i]))=Z at*
    have zlt:H.length+(3+k)<Z.length:=by rw[zlen];simp;omega
    refine .aF ?_;simp
    refine .lA (i:=H.length+(3+k)) (k:=1) (E:=aq) (es:=(b[k]++[i]).map iN) (fl:=true) (sh:=false) (by rw[eu zlt];simp) (by simp;omega) (by simp) (by
     simp only[iB]
     exact FE (by simp[lQ]) _ vfin) ?_
    rw[rh,show Ob.row 1 aq ((b[k]++[i]).map iN) none true false=fA (b[k]++[i])from rfl,afz zget];simp at hh⊢;exact hh
theorem dY.set{h:List Ob}(hw:dY h){o:Ob}(hb:∀i m,h.length<=i->lQ i m o=true)(j:Nat):dY (h.set j o):=fun i m hi=>by
 rw[jn]at hi;exact FE (hb i m hi) j (hw i m hi)
abbrev Dp(p:Nat×List Fm):AV:=.aB [iN p.1,.list false 3 (p.2.map bd)]
abbrev He(h:List Ob)(t:Fm)(ks:List Nat):List Ob:=h++[.row 3 aU [] none true false,.cells (bd t).cells,.row 1 aq (ks.map iN) none true false]
def Pc(P:Program)(Γ:Nat->Option AV)(ins:List Nat)(ki:Nat)(val:Int->Bool)(f:Nat):Prop:=
 ∀(l:List Fm),l.length<2^40->∀{v:Bool}{l':List Fm},eA ins.length val f l=some (v,l')->∀(x:Gr)(h:List Ob)(i:Nat),h[i]? =some (cE x)->cr h->dY h->x.Ok->(∀a∈ins,a<x.lits)->∀up,
  AM.Reach P Γ (.cl s9 [.ptr i 0,.list false 3 (l.map bd),.list false ki (ins.map iN)] up h) (cO Dp i up h (iJ ins f x l))
theorem agK{h os:List Ob}{a b c:Ob}:(h++a::b::c::os)[h.length+2]? =some c:=by simp
theorem Pz{h os:List Ob}{a b c:Ob}{f:Ob->Ob}:(h++a::b::c::os).modify (h.length+2) f=h++a::b::f c::os:=by
 induction h with
 |nil=>rfl
 |cons x h ih=>simpa using ih
set_option maxRecDepth 8000 in
theorem adQ(ins:List Nat){ki:Nat}(hli:ins.length<2^40)(val:Int->Bool)(f:Nat)(ih:Pc Tryz.prog Γ ins ki val f)(t:Fm)(ht:t.kind=3\/t.kind=4)(ht2:2<=t.kids)(ht3:t.kids<2^40)(i L:Nat)(up:List Fr):
 ∀m j:Nat,j+m=t.kids.toNat->∀(ks:List Nat)(l:List Fm)(x:Gr)(h:List Ob)(v w:Bool)(l':List Fm),ks.length=j->l.length<2^40->fm (eA ins.length val f) (decide (t.kind=3)) m v l=some (w,l')->h.length=L->h[i]? =some (cE x)->cr h->dY h->x.Ok->(∀a∈ins,a<x.lits)->(∀a∈ks,a<x.lits)->
  ∃J,AM.Reach Tryz.prog Γ (ypm (.ptr i 0) (.list false ki (ins.map iN)) (.ptr (L+1) 0) (.list false 3 (l.map bd)) (.sl (L+2) 0 ks.length) (.int .i64 t.kids) (.int .i64 j) (He h t ks) ⟨[],.norm,L,up⟩)
   (cO Dp i up (h++J) (iq (j6 (iJ ins f) m x ks l) (uW t))):=by
 intro m
 induction m with
 |zero=>
  intro j hj ks l x h v w l' hkl hl hr hL hi hw hv ok hlt hks;subst hL
  have q1:¬(j:Int)<t.kids:=by omega
  have hil:=aZ hi
  have hget:=fun os=>dL hi os
  have h0:ks≠[]:=by
   intro h0;subst h0
   simp at hkl;omega
  have hW:∀b,cr (h++[.row 3 aU [] none true false,.cells (bd t).cells,.row 1 aq (ks.map iN) none true b]):=fun b m hm=>by
   simp at hm;simp[hw m (by omega)]
  have hset:∀(o:Ob)(os:List Ob),(h++os).set i o=h.set i o++os:=fun o os=>kz _ _ hil
  refine⟨[.row 3 aU [] none true false,.cells (bd t).cells,.row 1 aq (ks.map iN) none true true],?_⟩;rw[j6,iq,uW];refine .di 60 ?_;simp[q1];refine .trans (.exit rfl rfl) ?_;refine .trees [10] ?_;simp[Pz,gI];have htk:(ks.map iN).take ks.length=ks.map iN:=bR (by simp);obtain⟨kd,lt,kk⟩:=t;simp only at ht ht2 ht3 hj q1 hW⊢
  rcases ht with rfl|rfl
  ·have hA:=Pj (Γ:=Γ) ks h0 (by omega) (fl:=false) (k:=1) .self x (h:=h++[.row 3 aU [] none true false,.cells (bd ⟨3,lt,kk⟩).cells,.row 1 aq (ks.map iN) none true true]) (hget _) (hW true) ok hks;refine .aR 60 ?_;simp[htk];unfold cO at hA⊢;unfold fV
   cases h9:(jJ 0 x ks).2<;>simp only[h9,hset]at hA⊢
   ·refine .j8 60 hA ?_;simp[h9,hset]
   ·refine .aX 60 hA ?_;simp[h9,hset]
  ·have hA:=Ph (Γ:=Γ) ks h0 (by omega) (fl:=false) (k:=1) .self x (h:=h++[.row 3 aU [] none true false,.cells (bd ⟨4,lt,kk⟩).cells,.row 1 aq (ks.map iN) none true true]) (hget _) (hW true) ok hks;refine .aR 60 ?_;simp[htk];unfold cO at hA⊢;unfold fV at hA⊢
   cases h9:(jJ 1 x ks).2<;>simp only[h9,hset,sO,dv]at hA⊢
   ·refine .j8 60 hA ?_;simp[h9,hset]
   ·refine .aX 60 hA ?_;simp[h9,hset]
 |succ m ihm=>
  intro j hj ks l x h v w l' hkl hl hr hL hi hw hv ok hlt hks;subst hL
  have q1:(j:Int)<t.kids:=by omega
  have hil:=aZ hi
  have hget:=fun os=>dL hi os
  have hset:∀(o:Ob)(os:List Ob),(h++os).set i o=h.set i o++os:=fun o os=>kz _ _ hil
  rw[fm]at hr
  cases h2:eA ins.length val f l with
  |none=>rw[h2]at hr;cases hr
  |some u=>
   rw[h2]at hr;obtain⟨u1,l1⟩:=u;simp only at hr;have hll:=E7 _ _ _ _ _ _ h2
   have hc:=ih l hl h2 x (He h t ks) i (hget _) (by
    intro m hm;simp at hm
    simp[hw m (by omega)]) (by
    intro m k hm;simp at hm
    simp[hv m k (by omega)]) ok hlt
   have hf:=rI ins f x l ok hlt;rw[j6]
   cases h9:iJ ins f x l with
   |mk y r=>
    rw[h9]at hc hf
    cases r with
    |none=>
     refine⟨[.row 3 aU [] none true false,.cells (bd t).cells,.row 1 aq (ks.map iN) none true false],?_⟩;simp only[cO,iq,hset]at hc⊢;refine .aR 60 ?_;simp[q1];refine .j8 60 hc ?_;simp
    |some p=>
     obtain⟨c,l2⟩:=p;have:=EC ins _ val f x l y c l2 u1 l1 h9 h2;subst this;have hc2:=hf.2 _ rfl;simp only at hc2
     obtain⟨J,hh⟩:=ihm (j+1) (by omega) (ks++[c]) l2 y (h.set i (cE y)) _ w l' (by simp[hkl]) (by omega) hr (by simp) (by simp[hil]) (hw.set (fun m _=>by simp) i) (hv.set (fun m k _=>by simp) i) hf.1.ok (fun a ha=>kv (hlt a ha) hf.1.lits) (fun a ha=>by
      rcases bn.1 ha with ha|ha
      ·exact kv (hks a ha) hf.1.lits
      ·simp only[dG]at ha;subst ha;exact hc2)
     refine⟨J,?_⟩
     have hs2:∀r:Gr×Option (Nat×List Fm),cO Dp i up (h.set i (cE y)++J) r=cO Dp i up (h++J) r:=fun r=>by
      unfold cO
      have:∀o:Ob,(h.set i (cE y)++J).set i o=(h++J).set i o:=fun o=>by
       rw[kz _ _ (by simpa using hil),kz _ _ hil,rh]
      simp only[this]
     rw[hs2]at hh;simp only[cO,iq,hset]at hc;simp only[iq]at hh⊢
     have hvv:=fun m=>(hv.set (o:=cE y) (fun m k _=>by simp) i) (h.length+2) m (by simp)
     have hsl:(h.set i (cE y)).length=h.length:=by simp
     generalize h.set i (cE y)=H at*
     have hk40:(ks.length:Int)+1<=140737488355328:=by omega
     refine .aR 60 ?_;simp[q1];refine .aX 60 hc ?_;simp(disch:=omega) [<-hsl,hk40];refine .aF ?_;simp;refine .lA (i:=H.length+2) agK (by simp[hsl]) (by simp) (by simp[hsl,hvv]) ?_;simp[hsl,He]at hh⊢;exact hh
set_option maxRecDepth 8000 in
theorem N0(ins:List Nat){ki:Nat}(hki:Kd 1 ki ins)(hli:ins.length<2^30)(val:Int->Bool):∀f,Pc Tryz.prog Γ ins ki val f
 |0,l,_,v,l',h2,_,_,_,_,_,_,_,_,_=>by simp[eA]at h2
 |f+1,[],_,v,l',h2,_,_,_,_,_,_,_,_,_=>by simp[eA]at h2
 |f+1,t::l,hl,v,l',h2,x,h,i,hi,hw,hv,ok,hlt,up=>by
  rw[eA]at h2
  split at h2
  ·rename_i ho;have hil:=aZ hi;have hle:=na ok
   have hget:=fun os=>dL hi os
   have hset:∀os:List Ob,(h++os).set i (cE x)=h++os:=fun os=>xk (hget os)
   simp at hl;obtain⟨kd,lt,kk⟩:=t;unfold eF at ho;simp only at ho h2
   by_cases k2:kd=2
   ·subst k2;simp at ho;obtain⟨n,rfl⟩:=ky ho.1
    have q1:n/2<ins.length:=by omega
    have q2:=bP (hki.of q1);have hx:=hlt _ (bx q1);obtain rfl:=ho.2.2;refine rR [.row 3 aU [] none true false,.cells (bd ⟨2,n,0⟩).cells] hw hil (by simp) ?_;rw[iJ];simp only[cy,cO,hset];refine .bt 60 DM ?_;simp(disch:=omega) [q1,q2]
    have e1:((n:Int)/2).toNat=n/2:=by omega
    have e4:((n:Int)%2).toNat=n%2:=by omega
    have e3:gA .xor .i64 (ins[n/2]:Int) ((n:Int)%2)=some ((ins[n/2]^^^(n%2):Nat):Int):=by
     rw[show(n:Int)%2=((n%2:Nat):Int) by omega];exact Ga (by omega)
    refine .nB 60 ?_
    have e5:ins.getD (n/2) 0=ins[n/2]:=by rw[bp,bm q1];rfl
    simp(disch:=omega) [q1,q2,e1,e3,e4,e5]
   ·rw[if_neg k2]at ho h2
    by_cases k34:kd=3\/kd=4
    ·rw[if_pos k34]at ho;simp at ho;obtain⟨rfl,h2k⟩:=ho
     have hvi:decide (kd=1)=false:=by simp;omega
     have n0:¬kd=0:=by omega
     have n1:¬kd=1:=by omega
     have hwk:=adQ (Γ:=Γ) ins (by omega) val f (N0 ins hki hli val f) ⟨kd,0,kk⟩ k34 h2k (by
      have:=Nl (fun l v l' h=>E7 _ val f l v l' h) _ _ _ _ _ h2
      simp only;omega) i h.length up kk.toNat 0 (by simp) [] l x h _ v l' rfl (by omega) h2 rfl hi hw hv ok hlt (fun a ha=>by cases ha)
     obtain⟨J,hJ⟩:=hwk;refine rR J hw hil (by simp) ?_;rw[iJ];simp only[if_neg k2,if_neg (show¬(kd=0\/kd=1) by omega)];refine .bt 60 DM ?_;simp;refine .nB 60 ?_;simp(disch:=omega) [n0,n1,k2];refine .inLoop ?_;simp at hJ⊢;exact hJ
    ·rw[if_neg k34]at ho
     split at ho
     ·rename_i k01;simp at ho;obtain⟨rfl,rfl⟩:=ho;refine rR [.row 3 aU [] none true false,.cells (bd ⟨kd,0,0⟩).cells] hw hil (by simp) ?_;rw[iJ];simp only[if_neg k2,if_pos k01,cO,hset];refine .bt 60 DM ?_;simp;refine .nB 60 ?_
      rcases k01 with rfl|rfl<;>simp(disch:=omega)<;>exact .refl _
     ·cases ho
  ·cases h2
abbrev Li:Type:=Nat×UInt8
abbrev dK(x:Li):AV:=.agg [.int .i64 x.1,.int .i64 x.2.toNat]
def bo:Bs->Nat->List Li
 |[],_=>[]
 |c::s,i=>if c=45 then bo s (i+1)else(i,c)::bo s (i+1)
def cK(x:Li)(s:Bs):Bool:=decide (x∈bo s 0)
def dV(x:Li):Fm:=⟨2,if x.2=48 then 2*x.1+1 else 2*x.1,0⟩
theorem aaL(a b:Li):cn (.ja [.int,.int]) (dK a) (dK b)=some (decide (a=b)):=by
 obtain⟨i,c⟩:=a;obtain⟨j,d⟩:=b;simp only[cn,bU,cz,gp,eL,cy]
 by_cases h1:i=j
 ·subst h1
  by_cases h2:c=d
  ·subst h2;simp
  ·have h3:¬(c.toNat:Int)=d.toNat:=by
    intro h;exact h2 (Jw.1 (by omega))
   have h4:((c.toNat:Int)==d.toNat)=false:=vD.2 h3;simp[h2,h4]
 ·have h3:¬(i:Int)=j:=by omega
  have h4:((i:Int)==j)=false:=vD.2 h3;simp[h1,h4]
theorem aeS(x:Li)(hx:x.1<2^40):aM Tryz.prog Γ zH [dK x] (bd (dV x)):=by
 obtain⟨i,c⟩:=x;simp only at hx;refine .run 60 U4 (by simp) ?_;have e:((c.toNat:Int)=48)=(c=48):=propext ⟨fun h=>Jw.1 (by rw[show((48:UInt8).toNat)=48 from rfl];omega),fun h=>by rw[h];rfl⟩
 by_cases h:c=48
 ·simp(disch:=omega) [e,h];exact .back (by simp[dV,h])
 ·simp(disch:=omega) [e,h];exact .back (by simp[dV,h])
theorem Ew(s:Bs){h:List Ob}:∀up,AM.Reach Tryz.prog Γ (.cl th [.str s] up h) (.back up (.fn (.func rq) [] [.ptr h.length 0]) (h++[.cells [.str s]])):=by
 intro up;refine .bt 60 VM ?_;simp
abbrev age(s:Bs)(i n:Nat)(up:List Fr):List Fr:=⟨.run,oJ,[It.jv (n+3),It.inBlock 0 [],It.code ((ah.ae Sm).seq ah.ret)],
 [.str s,.ptr i 0,U,.ptr n 0,U,.str s,.fn (.func rq) [] [.ptr (n+1) 0],U,U,U,U],[.mark (n+2)],.norm,n⟩::up
abbrev agS(s:Bs)(i n:Nat):List Ob:=[.cells [.bool false],.cells [.str s],.bA true,
 .loop .ready .none oJ [U,.ptr i 0,U,.ptr n 0,U,U,U,U,U,U,U] [7] (.ae QM) RD]
def Left(P:Program)(Γ:Nat->Option AV)(c:AM.an)(up:List Fr)(v:AV)(h:List Ob):Prop:=∃J,AM.Reach P Γ c (.back up v (h++J))
section
variable{P:Program}{c c':AM.an}{up up':List Fr}{v:AV}{h h':List Ob}
theorem Left.to(h1:AM.Reach P Γ c c')(h2:Left P Γ c' up v h):Left P Γ c up v h:=h2.imp fun _ h3=>.trans h1 h3
theorem Left.aR(n:Nat)(h1:Left P Γ (AM.go P Γ 2 n c) up v h):Left P Γ c up v h:=.to (Reach.goes n c) h1
theorem Left.pop(n:Nat)(h1:Left P Γ (AM.go P Γ 2 n (AM.pop c)) up v h):Left P Γ c up v h:=.to (.pop c) (.aR n h1)
theorem Left.back(J:List Ob):Left P Γ (.back up v (h++J)) up v h:=⟨J,.refl _⟩
theorem Left.aF{fn:FuncId}{its:List It}{t:List AV}{ds:List dt}{kind:FK}{base:Nat}{m:List Bool}{b:ah}
 (h1:Left P Γ (.fr ⟨.run,fn,.code b::.inLoop m b::its,dh m t,ds,kind,base⟩ up' h') up v h):Left P Γ (.fr ⟨.run,fn,.inLoop m b::its,t,ds,kind,base⟩ up' h') up v h:=.to (AM.Reach.aF (.refl _)) h1
theorem Left.inLoop{fn:FuncId}{its:List It}{t:List AV}{ds:List dt}{kind:FK}{base:Nat}{m:List Bool}{b:ah}
 (h1:Left P Γ (.fr ⟨.run,fn,.code b::.inLoop m b::its,dh m t,ds,kind,base⟩ up' h') up v h):Left P Γ (.fr ⟨.run,fn,.code (.loop m b)::its,t,ds,kind,base⟩ up' h') up v h:=.to (AM.Reach.inLoop (.refl _)) h1
theorem Left.jz{f:Fr}{h1:List Ob}(n:Nat)(hh:h'.take n=h1)(b1:f.base<=n)(b2:ke n f=true)(b3:cI n h1=true)(h4:Left P Γ (.fr f up' h1) up v h):Left P Γ (.fr f up' h') up v h:=.to (AM.Reach.jz n hh b1 b2 b3 (.refl _)) h4
theorem Left.aX(n:Nat){f:FuncId}{args:List AV}{v0:AV}{h0:List Ob}(h1:∀up,AM.Reach P Γ (.cl f args up h0) (.back up v0 h'))(h2:Left P Γ (AM.go P Γ 2 n (AM.pop (.back up' v0 h'))) up v h):Left P Γ (.cl f args up' h0) up v h:=.to (h1 up') (.pop n h2)
theorem Left.bt(n:Nat){g:FuncId}{F:aA}{args:List AV}(hF:az P g=some F)(h1:Left P Γ (AM.go P Γ 2 n (.fr ⟨.run,g,[.code F.body],args++List.replicate (F.nt-args.length) .undef,[],.norm,h'.length⟩ up' h')) up v h):Left P Γ (.cl g args up' h') up v h:=.to (xd hF args (.aR n (.refl _))) h1
theorem Left.leave{f:FuncId}{args:List AV}(h1:Left P Γ (.cl f args up h) up v h)(hv:aI h.length v=true)(hw:cr h):AM.Reach P Γ (.cl f args up h) (.back up v h):=by
 obtain⟨J,h2⟩:=h1;have h3:=AM.Reach.leave h2 hv (by rw[vF rfl];exact hw _ (aT _));rw[vF rfl]at h3;exact h3
end
set_option maxRecDepth 8000 in
theorem aeT(x:Li)(i:Nat)(s:Bs)(hs:s.length<2^40){h:List Ob}(hi:h[i]? =some (.cells (dK x).cells))(hw:cr h)(up:List Fr):∀n j:Nat,j+n=s.length->
 Left Tryz.prog Γ (IW (.cR (h.length+3)) (.ptr (h.length+1) 0) (.int .i64 s.length) (.int .i64 j) (h++agS s i h.length) ⟨[],.norm,h.length+4,age s i h.length up⟩) up (.bool (decide (x∈bo (s.drop j) j))) h:=by
 have hil:=aZ hi;have e21:h.length+2+1=h.length+3:=rfl
 have hwr:∀c:UInt8,IntKind.i64.wrap (c.toNat:Int)=c.toNat:=fun c=>wrap64 (by omega) (by have:=c.toNat_lt;omega)
 have hget:=fun os=>dL hi os
 have hb4:=hw (h.length+4) (by omega);intro n
 induction n with
 |zero=>
  intro j hj
  have q1:¬j<s.length:=by omega
  rw[br (by omega),bo];refine .aR 60 ?_;simp[q1];refine .pop 60 ?_;simp;exact .back _
 |succ n ih=>
  intro j hj
  have q1:j<s.length:=by omega
  have hh:=ih (j+1) (by omega);rw[bL q1,bo]
  by_cases a:s[j]=45
  ·refine .aR 60 ?_;simp(disch:=omega) [q1,a];refine .aF ?_;simp at hh⊢;exact hh
  ·have e:decide (x∈(if s[j]=45 then bo (s.drop (j+1)) (j+1)else(j,s[j])::bo (s.drop (j+1)) (j+1)))=(decide ((j,s[j])=x)||decide (x∈bo (s.drop (j+1)) (j+1))):=by
    rw[if_neg a,fJ];simp only[bj,bw,fa];exact or_congr_left eq_comm
   rw[e];have hq:=aaL (j,s[j]) x
   by_cases b:(j,s[j])=x
   ·refine .aR 60 ?_;simp(disch:=omega) [q1,a,hget,j3,hq,b,hwr];refine .pop 60 ?_;simp;refine .pop 60 ?_;simp;exact .back _
   ·refine .aR 60 ?_;simp(disch:=omega) [q1,a,hget,j3,hq,b,hwr];refine .pop 60 ?_;simp(disch:=omega);refine .aF ?_;simp;refine .jz (h.length+4) (by simp;rfl) (by simp) (by simp) (by simp[hb4];omega) ?_;simp at hh⊢;exact hh
theorem GL(x:Li)(i:Nat)(l:List Bs)(hl:∀s∈l,s.length<2^40):iu Tryz.prog Γ (fun h=>h[i]? =some (.cells (dK x).cells)/\cr h) oJ [.ptr i 0] AV.str (cK x) l:=by
 refine⟨by simp,fun s hs up h hφ=>?_⟩;obtain⟨hi,hw⟩:=hφ;refine Left.leave ?_ (by simp) hw;have hh:=aeT (Γ:=Γ) x i s (hl s hs) hi hw up s.length 0 (by omega);refine .bt 60 WL ?_;simp;refine .aX 60 (Ew s) ?_;simp;refine .bt 60 DO ?_;simp;refine .inLoop ?_;simp[cK]at hh⊢;exact hh
theorem Py(x:Li){h:List Ob}:∀up,AM.Reach Tryz.prog Γ (.cl wu [dK x] up h) (.back up (.fn (.func oJ) [] [.ptr h.length 0]) (h++[.cells (dK x).cells])):=by
 intro up;refine .bt 60 X7 ?_;simp
end Go.Proofs.YtihmomicdpkabaaGreatDoor
