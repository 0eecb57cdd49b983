/- Forms: the reader. -/
import Derived.Test.YtihmomicdpkabaaGreatDoorF
import Derived.Shelf.Strings.SlTrimAscii
import Derived.Test.YtihmomicdpkabaaGreatDoorShelf
import Derived.Test.YtihmomicdpkabaaGreatDoorCode
import Derived.Test.YtihmomicdpkabaaGreatDoorAMd
import Derived.Laws.RangeString
import Derived.Laws.RangeAny
set_option linter.unusedSimpArgs false
set_option linter.unusedVariables false
namespace Go.Proofs.YtihmomicdpkabaaGreatDoor
open Go.AM Go.Proofs
variable{Γ:Nat->Option AV}
def ep(n:Int)(x:Fm):Bool:=
 if x.kind=2 then decide (0<=x.lit)&&(decide (x.lit/2<n)&&decide (x.kids=0))
 else if x.kind=3\/x.kind=4 then decide (x.lit=0)&&decide (2<=x.kids)
 else if x.kind=0\/x.kind=1 then decide (x.lit=0)&&decide (x.kids=0)
 else false
def ef(rd:List Fm->Option (Bool×List Fm))(a:Bool):Nat->Bool->List Fm->Option (Bool×List Fm)
 |0,v,l=>some (v,l)
 |k+1,v,l=>match rd l with
  |none=>none
  |some (w,l')=>ef rd a k (if a then w&&v else w||v) l'
def dY(n:Int)(val:Int->Bool):Nat->List Fm->Option (Bool×List Fm)
 |0,_=>none
 |_+1,[]=>none
 |f+1,x::l=>if ep n x=true then(if x.kind=2 then some (val x.lit,l)else ef (dY n val f) (decide (x.kind=3)) x.kids.toNat (decide (x.kind=1)||decide (x.kind=3)) l)else none
section
variable{n:Int}{F:AV}{i:Nat}
end
theorem KU{rd:List Fm->Option (Bool×List Fm)}{a:Bool}(hr:∀l v l',rd l=some (v,l')->l'.length<l.length):∀(k:Nat)(v:Bool)(l:List Fm)(w:Bool)(l':List Fm),ef rd a k v l=some (w,l')->l'.length<=l.length
 |0,v,l,w,l',h=>by simp only[ef,aj,bL]at h;rw[h.2];exact aU _
 |k+1,v,l,w,l',h=>by
  simp only[ef]at h
  split at h
  ·cases h
  ·rename_i u l1 hu;have h1:=hr _ _ _ hu;have h2:=KU hr k _ _ _ _ h;omega
theorem EV(n:Int)(val:Int->Bool):∀(f:Nat)(l:List Fm)(v:Bool)(l':List Fm),dY n val f l=some (v,l')->l'.length<l.length
 |0,l,v,l',h=>by simp[dY]at h
 |f+1,[],v,l',h=>by simp[dY]at h
 |f+1,x::l,v,l',h=>by
  simp only[dY]at h
  split at h
  ·split at h
   ·simp only[aj,bL]at h
    rw[<-h.2,bP];omega
   ·have:=KU (EV n val f) _ _ _ _ _ h
    rw[bP];omega
  ·cases h
section
variable{n:Int}{i:Nat}{φ:List Ob->Prop}{f:FuncId}{caps:List AV}{val:Int->Bool}
end
def xa(n:Int)(val:Int->Bool)(l:List Fm):Option Bool:=
 if l.length<=4000/\0<=n/\n<=4000 then(match dY n val l.length l with
  |some (v,[])=>some v
  |_=>none)else none
def Ps:Option Bool->Int
 |some _=>0
 |none=>1
@[simp] theorem ayR(v:Bool):Ps (some v)=0:=rfl
@[simp] theorem ayF:Ps none=1:=rfl
def pv(v:List Bool)(a:Int):Bool:=!decide (v.getD (a/2).toNat false=decide (a%2=1))
def gN(rd:Gr->List Fm->Gr×Option (Nat×List Fm)):Nat->Gr->List Nat->List Fm->Gr×Option (List Nat×List Fm)
 |0,x,ks,l=>(x,some (ks,l))
 |k+1,x,ks,l=>eF (rd x l) fun y p=>gN rd k y (ks++[p.1]) p.2
def sg(t:Fm)(y:Gr)(p:List Nat×List Fm):Gr×Option (Nat×List Fm):=dZ (fun c=>(c,p.2)) (if t.kind=3 then fN 0 y p.1 else dZ (·^^^1) (fN 1 y p.1))
def gk(ins:List Nat):Nat->Gr->List Fm->Gr×Option (Nat×List Fm)
 |0,x,_=>(x,none)
 |_+1,x,[]=>(x,none)
 |f+1,x,t::l=>if t.kind=2 then(x,some (ins.getD (t.lit/2).toNat 0^^^(t.lit%2).toNat,l))
  else if t.kind=0\/t.kind=1 then(x,some (t.kind.toNat,l))
  else eF (gN (gk ins f) t.kids.toNat x [] l) (sg t)
def Bu(x:Gr)(r:Gr×Option (Nat×List Fm)):Prop:=fK x r.1/\∀p,r.2=some p->p.1<r.1.lits
def aeW(x:Gr)(r:Gr×Option (List Nat×List Fm)):Prop:=fK x r.1/\∀p,r.2=some p->∀a∈p.1,a<r.1.lits
theorem vV{rd:Gr->List Fm->Gr×Option (Nat×List Fm)}(ins:List Nat)(hr:∀x l,x.Ok->(∀a∈ins,a<x.lits)->Bu x (rd x l)):∀(k:Nat)(x:Gr)(ks:List Nat)(l:List Fm),x.Ok->(∀a∈ins,a<x.lits)->(∀a∈ks,a<x.lits)->aeW x (gN rd k x ks l)
 |0,x,ks,l,ok,hi,hk=>⟨.refl ok,fun p hp=>by cases hp;exact hk⟩
 |k+1,x,ks,l,ok,hi,hk=>by
  rw[gN];have h1:=hr x l ok hi
  cases h:rd x l with
  |mk y r=>
   rw[h]at h1
   cases r with
   |none=>exact⟨h1.1,fun p hp=>by cases hp⟩
   |some p=>
    have h2:=h1.2 p rfl
    have:=vV ins hr k y (ks++[p.1]) p.2 h1.1.ok (fun a ha=>gD (hi a ha) h1.1.lits) (fun a ha=>by
     rcases bl.1 ha with ha|ha
     ·exact gD (hk a ha) h1.1.lits
     ·simp only[dC]at ha;subst ha;exact h2)
    exact⟨h1.1.trans this.1,this.2⟩
theorem Yb{t:Fm}{y:Gr}{p:List Nat×List Fm}(ok:y.Ok)(hp:∀a∈p.1,a<y.lits):Bu y (sg t y p):=by
 have h3:jC y (if t.kind=3 then fN 0 y p.1 else dZ (·^^^1) (fN 1 y p.1)):=by
  split
  ·exact wa (by omega) ok hp
  ·exact(wa (by omega) ok hp).BN (by omega)
 refine⟨h3.1,fun q hq=>?_⟩;simp only[sg,dZ,bS]at hq;obtain⟨c,hc,rfl⟩:=hq;exact h3.2 c hc
theorem ZP(x:Gr):2<=x.lits:=by unfold Gr.lits Gr.all Gr.first;omega
theorem Zj(x:Gr):x.lits=2*x.all:=rfl
theorem oC(ins:List Nat):∀(f:Nat)(x:Gr)(l:List Fm),x.Ok->(∀a∈ins,a<x.lits)->Bu x (gk ins f x l)
 |0,x,l,ok,hi=>⟨.refl ok,fun p hp=>by cases hp⟩
 |f+1,x,[],ok,hi=>⟨.refl ok,fun p hp=>by cases hp⟩
 |f+1,x,t::l,ok,hi=>by
  rw[gk]
  split
  ·refine⟨.refl ok,fun p hp=>?_⟩
   cases hp
   refine lQ (n:=x.all) (by omega) ?_;rw[<-Zj];rw[bo]
   cases h:ins[(t.lit/2).toNat]? with
   |none=>exact wu x
   |some a=>exact hi a (ik h)
  ·split
   ·rename_i h;refine⟨.refl ok,fun p hp=>?_⟩
    cases hp
    have:=ZP x
    simp only;omega
   ·have h1:=vV ins (oC ins f) t.kids.toNat x [] l ok hi (fun a ha=>by cases ha)
    cases h:gN (gk ins f) t.kids.toNat x [] l with
    |mk y r=>
     rw[h]at h1
     cases r with
     |none=>exact⟨h1.1,fun p hp=>by cases hp⟩
     |some p=>
      have h2:=Yb (t:=t) h1.1.ok (h1.2 p rfl);exact⟨h1.1.trans h2.1,h2.2⟩
theorem Nb{rd:List Fm->Option (Bool×List Fm)}{a:Bool}(hr:∀l v l',rd l=some (v,l')->l'.length<l.length):∀(k:Nat)(v:Bool)(l:List Fm)(w:Bool)(l':List Fm),ef rd a k v l=some (w,l')->k<=l.length
 |0,v,l,w,l',h=>xQ _
 |k+1,v,l,w,l',h=>by
  rw[ef]at h
  cases h1:rd l with
  |none=>rw[h1]at h;cases h
  |some u=>
   rw[h1]at h;obtain⟨u1,u2⟩:=u;have:=hr l u1 u2 h1;have:=Nb hr k _ _ _ _ h;omega
theorem Km{rd:Gr->List Fm->Gr×Option (Nat×List Fm)}{rf:List Fm->Option (Bool×List Fm)}{b:Bool}(hr:∀x l y c l2 v l3,rd x l=(y,some (c,l2))->rf l=some (v,l3)->l2=l3):∀(k:Nat)(x:Gr)(ks:List Nat)(l:List Fm)(v:Bool){y:Gr}{q:List Nat}{l2:List Fm}{w:Bool}{l3:List Fm},gN rd k x ks l=(y,some (q,l2))->ef rf b k v l=some (w,l3)->l2=l3
 |0,x,ks,l,v,y,q,l2,w,l3,h1,h2=>by
  rw[gN]at h1;rw[ef]at h2;cases h1;cases h2;rfl
 |k+1,x,ks,l,v,y,q,l2,w,l3,h1,h2=>by
  rw[gN]at h1;rw[ef]at h2
  cases h:rd x l with
  |mk z r=>
   rw[h]at h1
   cases r with
   |none=>cases h1
   |some p=>
    cases h3:rf l with
    |none=>rw[h3]at h2;cases h2
    |some u=>
     rw[h3]at h2;obtain⟨c,l4⟩:=p;obtain⟨u1,u2⟩:=u;have:=hr x l z c l4 u1 u2 h h3;subst this;exact Km hr k z _ _ _ h1 h2
theorem Ea(ins:List Nat)(n:Int)(val:Int->Bool):∀(f:Nat)(x:Gr)(l:List Fm)(y:Gr)(c:Nat)(l2:List Fm)(v:Bool)(l3:List Fm),gk ins f x l=(y,some (c,l2))->dY n val f l=some (v,l3)->l2=l3
 |0,x,l,y,c,l2,v,l3,h1,h2=>by cases h1
 |f+1,x,[],y,c,l2,v,l3,h1,h2=>by cases h1
 |f+1,x,t::l,y,c,l2,v,l3,h1,h2=>by
  rw[gk]at h1;rw[dY]at h2
  split at h2
  ·rename_i ho
   split at h2
   ·rename_i k2;rw[if_pos k2]at h1
    cases h1;cases h2;rfl
   ·rename_i k2;rw[if_neg k2]at h1
    split at h1
    ·rename_i k01
     have hk:t.kids=0:=by
      unfold ep at ho;rw[if_neg k2,if_neg (by omega),if_pos k01]at ho;simp at ho;exact ho.2
     rw[hk]at h2
     cases h1
     simp only[Int.toNat_zero,ef]at h2
     cases h2;rfl
    ·cases h:gN (gk ins f) t.kids.toNat x [] l with
     |mk z r=>
      rw[h]at h1
      cases r with
      |none=>cases h1
      |some p=>
       obtain⟨q,l4⟩:=p;have:=Km (Ea ins n val f) _ _ _ _ _ h h2;subst this;simp only[eF,sg,dZ,bL,bS]at h1;obtain⟨_,d,_,_,rfl⟩:=h1;rfl
  ·cases h2
def n_:Bs:=[48,49,45]
def lF(c:UInt8):Bool:=decide (c=48)||(decide (c=49)||decide (c=45))
def nY(n:Nat)(s:Bs):Bool:=s.all lF&&decide (s.length=n)
theorem acQ(c:UInt8):n_.contains c=lF c:=by
 revert c
 rw[show(∀c:UInt8,n_.contains c=lF c)↔∀n:Fin 256,n_.contains (UInt8.ofNat n)=lF (UInt8.ofNat n)from
  ⟨fun h n=>h _,fun h c=>by have:=h ⟨c.toNat,c.toNat_lt⟩;simpa using this⟩]
 decide+kernel
theorem rl{α:Type}{p:α->Bool}:∀{l:List α},l.dropWhile p=[]↔∀x∈l,p x=true
 |[]=>by simp
 |a::l=>by
  rw[List.dropWhile_cons]
  cases h:p a with
  |true=>simp[rl (l:=l),h]
  |false=>simp[h]
theorem dropWhile_nil{α:Type}(p:α->Bool)(l:List α)(h:∀x∈l.dropWhile p,p x=true):l.dropWhile p=[]:=by
 cases hd:l.dropWhile p with
 |nil=>rfl
 |cons a t=>
  have h1:=List.head_dropWhile_not p (l:=l) (by rw[hd];simp);simp only[hd,List.head_cons]at h1;rw[h a (by rw[hd];simp)]at h1
  cases h1
theorem MK(s:Bs):(Lib.trimS s n_=[])↔s.all lF=true:=by
 have e:(fun c=>n_.contains c)=lF:=funext acQ;unfold Lib.trimS Lib.trimLeftS Lib.trimRightS;rw[e];constructor
 ·intro h
  have h1:=dropWhile_nil lF s.reverse fun x hx=>by
   have:=rl.1 h x (by simpa using hx);exact this
  have h2:=rl.1 h1;rw[dE];intro x hx;exact h2 x (by simpa using hx)
 ·intro h
  have h1:s.reverse.dropWhile lF=[]:=rl.2 fun x hx=>dE.1 h x (by simpa using hx)
  rw[h1];rfl
theorem Ou(s:Bs)(hs:s.length<2^40):aP Tryz.prog Γ s_ [.str s,.str n_] (.str (Lib.trimS s n_)):=by
 refine aP.Py (by simp) (fun _=>rfl) rfl fun N g h w us _ hV=>?_
 obtain⟨us,rfl,h1⟩:=A_ hV;obtain⟨us,rfl,h2⟩:=A_ h1;obtain rfl:=NX h2;refine(Any.strings_Trim_laid Tryz.Oa (by kernel_rfl) ⟨s.toArray⟩ ⟨n_.toArray⟩ w (by simp[ByteArray.size];omega) (by decide) (ascii_of_all (by decide))).mono ?_
 rintro e' w' ⟨rfl,hB⟩
 exact⟨⟨_,rfl,fun _ _=>by simp[V]⟩,hB⟩
theorem aek(s:Bs)(n:Nat)(hs:s.length<2^40):aP Tryz.prog Γ z_ [.str s,.int .i64 n] (.bool (nY n s)):=by
 refine .run 60 Zw (by simp) ?_;unfold nY
 by_cases h:s.length=n
 ·have h':(s.length:Int)=n:=by omega
  have hT:=Ou (Γ:=Γ) s hs;unfold n_ at hT
  have h2:decide (Lib.trimS s [48,49,45]=[])=s.all lF:=by
   rw[eZ,SH];exact MK s
  simp[h,h'];refine .call 60 (by simp) hT ?_;simp[h2];exact .back (by simp[h2,h])
 ·have h':¬(s.length:Int)=n:=by omega
  simp[h,h'];exact .back (by simp[h])
end Go.Proofs.YtihmomicdpkabaaGreatDoor
namespace Go.Proofs.YtihmomicdpkabaaGreatDoor
abbrev xo:Nat:=1
abbrev PD:Nat:=0
end Go.Proofs.YtihmomicdpkabaaGreatDoor
namespace Go.Proofs.YtihmomicdpkabaaGreatDoor
open Go.AM Go.Proofs
variable{Γ:Nat->Option AV}
theorem UO{φ:List Ob->Prop}{f:FuncId}{caps:List AV}{p:(List UInt8)->Bool}{l:List (List UInt8)}{k:Nat}{fl:Bool}(ha:iH Tryz.prog Γ φ f caps AV.str p l)(hk:Kd 1 k l)(hs:l.length<2^60){h:List Ob}(hφ:φ h):
 ∀up,AM.Reach Tryz.prog Γ (.cl ra [.list fl k (l.map AV.str),.fn (.func f) [] caps] up h) (.back up (.int .i64 (ey p l 0)) h):=by
 intro up
 have key:∀n i:Nat,i+n=l.length->AM.Reach Tryz.prog Γ (RH (.list fl k (l.map AV.str)) (.fn (.func f) [] caps) (.int .i64 l.length) (.int .i64 i) h ⟨[],.norm,h.length,up⟩) (.back up (.int .i64 (ey p (l.drop i) i)) h):=by
  intro n
  induction n with
  |zero=>
   intro i hi
   have h1:¬i<l.length:=by omega
   refine .bf 60 ?_;rw[bw (by omega)];simp[h1,ey]
  |succ n ih=>
   intro i hi
   have h1:i<l.length:=by omega
   obtain rfl:=hk.of h1;have h2:=ha.2 l[i] (bC h1);rw[bM h1,ey];have hh:=ih (i+1) (by omega);refine .bf 60 ?_;simp[h1,ha.1];refine .bd 60 (fun up=>h2 up h hφ) ?_
   cases hp:p l[i]with
   |true=>simp(disch:=omega) [hp]
   |false=>
    simp(disch:=omega) [hp];refine .aL ?_;simp at hh⊢;exact hh
 refine .bF 60 Jo ?_;simp;refine .inLoop ?_;have hh:=key l.length 0 (by omega);simp at hh⊢;exact hh
theorem zb{φ:List Ob->Prop}{f:FuncId}{caps:List AV}{p:(List UInt8)->Bool}{l:List (List UInt8)}{k:Nat}{fl:Bool}(ha:iH Tryz.prog Γ φ f caps AV.str p l)(hk:Kd 1 k l)(hs:l.length<2^60){h:List Ob}(hφ:φ h):
 ∀up,AM.Reach Tryz.prog Γ (.cl pP [.list fl k (l.map AV.str),.fn (.func f) [] caps] up h) (.back up (.bool (br p l)) h):=by
 intro up;refine .bF 60 SU ?_;simp;refine .bd 60 (UO ha hk hs hφ) ?_;have h1:=AY p l 0
 cases hp:br p l with
 |true=>rw[hp]at h1;simp at h1;simp[h1]
 |false=>
  rw[hp]at h1
  have h2:¬0<=ey p l 0:=by rw[h1];simp
  simp[h2]
abbrev p2(a b:Int):AV:=.agg [.int .i64 a,.int .i64 b]
def GH(n:Int):Option AV:=if 4<=n/\n<=9 then some (p2 2 8)else if n=0\/n=1 then some (p2 0 0)else if n=2\/n=3 then some (p2 1 1)else if n=10 then some (p2 0 8)else none
def jB(Γ:Nat->Option AV):Prop:=∃ks vs,Γ xo=some (.db ks vs)/\∀n:Int,eD (.sc .int) (.int .i64 n) (ks.zip vs)=some (GH n)
def nb(op:Int)(n:Nat):Bool:=if 4<=op/\op<=9 then decide (2<=n/\n<=8)else if op=0\/op=1 then decide (n=0)else if op=2\/op=3 then decide (n=1)else false
def hasB(op:Int)(n:Nat):Bool:=if op=10 then decide (n<=8)else nb op n
def jV(g:Gt):Bool:=
 if g.op=10 then decide (g.ins.length<=8)&&(decide (g.rows.length<=128)&&!br (fun s=>!nY g.ins.length s) g.rows)else !(decide (0<g.rows.length)||g.off)&&nb g.op g.ins.length
theorem At{ks vs:List AV}(hG:Γ xo=some (.db ks vs)){op a b:Int}(hF:eD (.sc .int) (.int .i64 op) (ks.zip vs)=some (some (p2 a b)))(n:Int):aP Tryz.prog Γ tA [.int .i64 op,.int .i64 n] (.bool (decide (a<=n)&&decide (n<=b))):=by
 simp only[xo]at hG;refine .run 60 LD (by simp) ?_
 by_cases h:a<=n
 ·simp[hG,hF,h,isKey,cf,cP];exact .back (by simp)
 ·simp[hG,hF,h,isKey,cf,cP];exact .back (by simp)
theorem ZC{ks vs:List AV}(hG:Γ xo=some (.db ks vs)){op:Int}(hF:eD (.sc .int) (.int .i64 op) (ks.zip vs)=some none)(n:Int):aP Tryz.prog Γ tA [.int .i64 op,.int .i64 n] (.bool false):=by
 simp only[xo]at hG;refine .run 60 LD (by simp) ?_;simp[hG,hF,isKey,cf,cP];exact .back (by simp)
theorem ael(hΓ:jB Γ)(op:Int)(n:Nat):aP Tryz.prog Γ tA [.int .i64 op,.int .i64 n] (.bool (hasB op n)):=by
 obtain⟨ks,vs,hG,hF⟩:=hΓ;have h1:=hF op;unfold GH at h1
 by_cases a:4<=op/\op<=9
 ·rw[if_pos a]at h1
  have e:hasB op n=(decide ((2:Int)<=n)&&decide ((n:Int)<=8)):=by
   unfold hasB nb;rw[if_neg (by omega),if_pos a,eZ]
   simp only[av,a_];omega
  rw[e];exact At hG h1 n
 ·rw[if_neg a]at h1
  by_cases b:op=0\/op=1
  ·rw[if_pos b]at h1
   have e:hasB op n=(decide ((0:Int)<=n)&&decide ((n:Int)<=0)):=by
    unfold hasB nb;rw[if_neg (by omega),if_neg a,if_pos b,eZ]
    simp only[av,a_];omega
   rw[e];exact At hG h1 n
  ·rw[if_neg b]at h1
   by_cases c:op=2\/op=3
   ·rw[if_pos c]at h1
    have e:hasB op n=(decide ((1:Int)<=n)&&decide ((n:Int)<=1)):=by
     unfold hasB nb;rw[if_neg (by omega),if_neg a,if_neg b,if_pos c,eZ]
     simp only[av,a_];omega
    rw[e];exact At hG h1 n
   ·rw[if_neg c]at h1
    by_cases d:op=10
    ·rw[if_pos d]at h1
     have e:hasB op n=(decide ((0:Int)<=n)&&decide ((n:Int)<=8)):=by
      unfold hasB;rw[if_pos d,eZ]
      simp only[av,a_];omega
     rw[e];exact At hG h1 n
    ·rw[if_neg d]at h1
     have e:hasB op n=false:=by
      unfold hasB nb;rw[if_neg d,if_neg a,if_neg b,if_neg c]
     rw[e];exact ZC hG h1 n
theorem aaM(g:Gt)(i:Nat)(hg:w7 g):iH Tryz.prog Γ (fun h=>h[i]? =some (.cells (AV.cells (dg g)))) zz [.ptr i 0] AV.str (fun s=>!nY g.ins.length s) g.rows:=by
 refine⟨by simp,fun s hs up h hφ=>?_⟩;refine .bF 60 VF ?_;simp[hφ];refine .nM 60 (by simp) (aek s g.ins.length (hg.2.2.2.2 s hs)) ?_;simp
theorem adl(hΓ:jB Γ)(g:Gt)(hg:w7 g):aP Tryz.prog Γ v8 [dg g] (.bool (jV g)):=by
 have b1:=hg.2.1;have b2:=hg.2.2.1;refine .run 60 W5 (by simp) ?_;unfold jV;have hH:=ael hΓ g.op g.ins.length;have hC:=zb (Γ:=Γ) (fl:=false) (aaM g 0 hg) g.hr (by omega) (h:=[.cells (AV.cells (dg g))]) rfl
 by_cases ho:g.op=10
 ·simp[ho];rw[ho]at hH;refine .call 60 (by simp) hH ?_;have e:((g.ins.length:Int)<=8)=(g.ins.length<=8):=propext (by omega);have e2:((g.rows.length:Int)<=128)=(g.rows.length<=128):=propext (by omega)
  by_cases h1:g.ins.length<=8
  ·by_cases h2:g.rows.length<=128
   ·simp[hasB,h1,h2,e2];simp[ho]at hC;refine .bd 60 hC ?_;simp;exact .back (by simp)
   ·simp[hasB,h1,h2,e2];exact .back (by simp)
  ·simp[hasB,h1];exact .back (by simp)
 ·simp only[if_neg ho]
  by_cases h1:0<g.rows.length
  ·have e:((0:Int)<g.rows.length)=True:=cv (by omega);simp[ho,h1,e];exact .back (by simp)
  ·have e:((0:Int)<g.rows.length)=False:=j7 (by omega)
   cases h2:g.off with
   |true=>
    simp[ho,h1,h2,e];exact .back (by simp)
   |false=>
    have h0:g.rows=[]:=kU.1 (by omega);simp[ho,h0,h2];refine .call 60 (by simp) hH ?_
    cases h3:nb g.op g.ins.length with
    |false=>
     simp[hasB,ho,h3];exact .back (by simp)
    |true=>
     simp[hasB,ho,h3];simp only[h0,h2,AV.cells,mC]at hC;refine .bd 60 hC ?_;simp[rF];exact .back (by simp)
theorem sS(l:List (List UInt8)){k:Nat}(hk:Kd 1 k l)(hl:l.length<2^40):aP Tryz.prog Γ oq [.list false k (l.map AV.str)] (.own 1 aE (l.map AV.str)):=by
 refine .run 60 Th (by simp) ?_
 cases l with
 |nil=>
  simp;refine .either 0 (by simp) (fun b=>?_)
  cases b
  ·refine .go 9 ?_;simp;refine .qd 2 1 aE rfl (by omega) ?_;refine .go 60 ?_;simp;exact .back (by simp)
  ·refine .go 60 ?_;simp;exact .back (by simp)
 |cons x xs=>
  have hk0:k=1:=by
   rcases hk with h|h
   ·exact h
   ·cases h
  subst hk0;simp at hl;simp(disch:=(first|omega|(simp;omega)));exact .back (by simp)
theorem acq(c:Ct)(hc:cj c):∀n i:Nat,i+n=c.af.length->∀l:List Bs,l.length+n<2^40->
 ay Tryz.prog Γ (ygr (.sl 2 0 l.length) (.list false c.kG (c.af.map dg)) (.int .i64 c.af.length) (.int .i64 i) [.cells (AV.cells (bX c)),.row 1 aE [] none true false,.row 1 aE (l.map .str) none true false]) (.ret (.own 1 aE ((l++(c.af.drop i).map (·.name)).map .str))):=by
 have hG:=c.hG;have hl:=hc.2.2.2.1;intro n
 induction n with
 |zero=>
  intro i hi l hL
  have q1:¬i<c.af.length:=by omega
  rw[bw (by omega)];refine .go 60 ?_;simp[q1];exact .back (by simp)
 |succ n ih=>
  intro i hi l hL
  have q1:i<c.af.length:=by omega
  have q2:=hG.of q1;have hh:=ih (i+1) (by omega) (l++[c.af[i].name]) (by simp;omega);have e:l++(c.af.drop i).map (·.name)=l++[c.af[i].name]++(c.af.drop (i+1)).map (·.name):=Gy l (·.name) _ q1;rw[e];refine .go 60 ?_;simp(disch:=omega) [q1,q2];refine .aL ?_;simp;refine .drop 3 rfl (by simp) (by simp) (by simp) ?_;refine .reset (i:=2) rfl (by simp) (by simp) (by simp) ?_;simp[q2]at hh⊢;exact hh
theorem ac1(c:Ct)(hc:cj c):∀n i:Nat,i+n=c.ak.length->∀l:List Bs,l.length+n<2^39->
 ay Tryz.prog Γ (ygt (.ptr 0 0) (.sl 2 0 l.length) (.list false c.kL (c.ak.map pC)) (.int .i64 c.ak.length) (.int .i64 i) [.cells (AV.cells (bX c)),.row 1 aE [] none true false,.row 1 aE (l.map .str) none true false]) (.ret (.own 1 aE ((l++(c.ak.drop i).map (·.name)++c.af.map (·.name)).map .str))):=by
 have hG:=c.hL;have hl:=hc.2.2.1;have hl2:=hc.2.2.2.1;intro n
 induction n with
 |zero=>
  intro i hi l hL
  have q1:¬i<c.ak.length:=by omega
  have hh:=acq (Γ:=Γ) c hc c.af.length 0 (by omega) l (by omega);rw[bw (by omega)];refine .go 60 ?_;simp[q1];refine .inLoop ?_;simp at hh⊢;exact hh
 |succ n ih=>
  intro i hi l hL
  have q1:i<c.ak.length:=by omega
  have q2:=hG.of q1;have hh:=ih (i+1) (by omega) (l++[c.ak[i].name]) (by simp;omega);have e:l++(c.ak.drop i).map (·.name)=l++[c.ak[i].name]++(c.ak.drop (i+1)).map (·.name):=Gy l (·.name) _ q1;rw[e];refine .go 60 ?_;simp(disch:=omega) [q1,q2];refine .aL ?_;simp;refine .drop 3 rfl (by simp) (by simp) (by simp) ?_;refine .reset (i:=2) rfl (by simp) (by simp) (by simp) ?_;simp[q2]at hh⊢;exact hh
theorem Ot(c:Ct)(hc:cj c):aP Tryz.prog Γ pY [bX c] (.own 1 aE ((aD c).map .str)):=by
 have h1:=hc.1;have h2:=hc.2.2.1;refine .run 60 W0 (by simp) ?_;simp;refine .call 60 (by simp) (sS c.aB c.hI (by omega)) ?_;simp;refine .inLoop ?_;have hh:=ac1 (Γ:=Γ) c hc c.ak.length 0 (by omega) c.aB (by omega);simp[aD]at hh⊢;exact hh
abbrev mY(x:Nat×List (List UInt8)):AV:=.list false x.1 (x.2.map AV.str)
def cd:List (Nat×List (List UInt8))->List (List UInt8)
 |[]=>[]
 |x::xs=>x.2++cd xs
theorem Ke(a b:List (Nat×List (List UInt8))):cd (a++b)=cd a++cd b:=by
 induction a with
 |nil=>rfl
 |cons x a ih=>simp[cd,ih]
theorem Lp(xs:List (Nat×List (List UInt8)))(i:Nat)(h:i<xs.length):cd (xs.take (i+1))=cd (xs.take i)++xs[i].2:=by
 rw[k5 h,Ke];simp[cd]
theorem NI(xs:List (Nat×List (List UInt8)))(i:Nat):(cd (xs.take i)).length<=(cd xs).length:=by
 conv=>rhs;rw[<-ng i xs,Ke]
 simp
set_option maxRecDepth 8000 in
theorem Jp(xs:List (Nat×List (List UInt8)))(hk:∀x∈xs,Kd 1 x.1 x.2)(hn:xs.length<2^40)(hs:(cd xs).length<2^40)(hp:0<(cd xs).length):
 aP Tryz.prog Γ mG [.list false 1 (xs.map mY)] (.own 1 aE ((cd xs).map AV.str)):=by
 refine .run 60 Jq (by simp) ?_
 have key2:∀n i:Nat,i+n=xs.length->∀m:Nat,(cd (xs.take i)).length+m=(cd xs).length->
  ay Tryz.prog Γ (PX (.sl 2 0 (cd (xs.take i)).length) (.list false 1 (xs.map mY)) (.int .i64 xs.length) (.int .i64 i) [.row 1 aE [] none true false,.row 1 aE [] none true false,.row 1 aE ((cd (xs.take i)).map AV.str++List.replicate m (AV.str [])) none true false])
   (.ret (.own 1 aE ((cd xs).map AV.str))):=by
  intro n
  induction n with
  |zero=>
   intro i hi m hm
   have q1:¬i<xs.length:=by omega
   have q2:xs.take i=xs:=cS (by omega);rw[q2]at hm⊢
   have hm0:m=0:=by omega
   subst hm0;refine .go 60 ?_;simp[q1];exact .back (by simp)
  |succ n ih=>
   intro i hi m hm
   have q1:i<xs.length:=by omega
   have q2:=Lp xs i q1;have q3:=NI xs (i+1);rw[q2,bR]at q3;have q4:=hk xs[i] (bC q1);have q5:xs[i].1=1\/xs[i].2=[]:=q4;have hh:=ih (i+1) (by omega) (m-xs[i].2.length) (by rw[q2,bR];omega);rw[q2]at hh
   have hd:(List.replicate m (AV.str [])).drop xs[i].2.length=List.replicate (m-xs[i].2.length) (AV.str []):=by simp
   refine .go 60 ?_
   by_cases q6:(cd (xs.take i)).length=(cd xs).length
   ·have q7:xs[i].2=[]:=kU.1 (by omega)
    have hm0:m=0:=by omega
    subst hm0;simp[q7]at hh;simp(disch:=(first|omega|(simp;omega))) [q1,q5,q7];refine .aL ?_;simp;exact hh
   ·simp(disch:=(first|omega|(simp;omega))) [q1,q5]
    by_cases q7:m=0
    ·omega
    ·have c1:¬(cd (List.take i xs)).length=(cd (List.take i xs)).length+m:=by omega
     have c2:(cd (List.take i xs)).length+xs[i].snd.length<=(cd (List.take i xs)).length+m:=by omega
     simp(disch:=(first|omega|(simp;omega))) [q1,q5,c1,c2,q7];refine .aL ?_;have n9:((cd (xs.take i)).map AV.str).drop ((cd (xs.take i)).length+xs[i].2.length)=[]:=bw (by simp);simp[u6,hd,n9]at hh⊢;exact hh
 have key1:∀n i:Nat,i+n=xs.length->
  ay Tryz.prog Γ (P4 (.list false 1 (xs.map mY)) (.int .i64 (cd (xs.take i)).length) (.list false 1 (xs.map mY)) (.int .i64 xs.length) (.int .i64 i) [.row 1 aE [] none true false])
   (.ret (.own 1 aE ((cd xs).map AV.str))):=by
  intro n
  induction n with
  |zero=>
   intro i hi
   have q1:¬i<xs.length:=by omega
   have q2:xs.take i=xs:=cS (by omega);have q3:0<(cd xs).length:=hp;have hh:=key2 xs.length 0 (by omega) (cd xs).length (by simp[cd]);refine .go 60 ?_;rw[q2];simp[q1];refine .enter 60 Jr ?_
   have q4:¬(cd xs).length=0:=by omega
   have q5:cd xs≠[]:=fun e=>by rw[e]at hp;simp at hp
   obtain⟨m,hm⟩:∃m,(cd xs).length=m+1:=⟨(cd xs).length-1,by omega⟩
   have hrep:List.replicate (cd xs).length (AV.str [])=(AV.str [])::List.replicate m (AV.str []):=by rw[hm];rfl
   simp(disch:=(first|omega|(simp;omega))) [q3,q4,q5,hrep];refine .inLoop ?_;simp[cd,hrep]at hh⊢;exact hh
  |succ n ih=>
   intro i hi
   have q1:i<xs.length:=by omega
   have q2:=Lp xs i q1;have q3:=NI xs (i+1);rw[q2,bR]at q3;have hh:=ih (i+1) (by omega);rw[q2]at hh;refine .go 60 ?_
   have q4:¬((cd (xs.take i)).length:Int)+xs[i].2.length<0:=by omega
   simp(disch:=(first|omega|(simp;omega))) [q1,q4];refine .aL ?_;simp at hh⊢;exact hh
 simp;refine .inLoop ?_;have hh:=key1 xs.length 0 (by omega);simp[cd]at hh⊢;exact hh
set_option maxRecDepth 8000 in
theorem Jn(xs:List (Nat×List (List UInt8)))(hx:∀x∈xs,x.2=[])(hn:xs.length<2^40):
 aP Tryz.prog Γ mG [.list false 1 (xs.map mY)] (.own 1 aE []):=by
 refine .run 60 Jq (by simp) ?_
 have key2:∀n i:Nat,i+n=xs.length->ay Tryz.prog Γ (PX (.list true 0 []) (.list false 1 (xs.map mY)) (.int .i64 xs.length) (.int .i64 i) [.row 1 aE [] none true false,.row 1 aE [] none true false])
  (.ret (.own 1 aE [])):=by
  intro n
  induction n with
  |zero=>
   intro i hi
   have q1:¬i<xs.length:=by omega
   refine .qd 6 1 aE rfl (by omega) ?_;refine .go 60 ?_;simp[q1];exact .back (by simp)
  |succ n ih=>
   intro i hi
   have q1:i<xs.length:=by omega
   have q7:=hx xs[i] (bC q1);have hh:=ih (i+1) (by omega);refine .go 60 ?_;simp(disch:=(first|omega|(simp;omega))) [q1,q7];refine .aL ?_;simp at hh⊢;exact hh
 have key:∀n i:Nat,i+n=xs.length->ay Tryz.prog Γ (P4 (.list false 1 (xs.map mY)) (.int .i64 0) (.list false 1 (xs.map mY)) (.int .i64 xs.length) (.int .i64 i) [.row 1 aE [] none true false])
  (.ret (.own 1 aE [])):=by
  intro n
  induction n with
  |zero=>
   intro i hi
   have q1:¬i<xs.length:=by omega
   refine .go 60 ?_;simp[q1];refine .enter 60 Jr ?_;simp;refine .inLoop ?_;have hh:=key2 xs.length 0 (by omega);simp at hh⊢;exact hh
  |succ n ih=>
   intro i hi
   have q1:i<xs.length:=by omega
   have q7:=hx xs[i] (bC q1);have hh:=ih (i+1) (by omega);refine .go 60 ?_;simp(disch:=(first|omega|(simp;omega))) [q1,q7];refine .aL ?_;simp at hh⊢;exact hh
 simp;refine .inLoop ?_;have hh:=key xs.length 0 (by omega);simp at hh⊢;exact hh
theorem Tb(xs:List (Nat×List (List UInt8)))(hk:∀x∈xs,Kd 1 x.1 x.2)(hn:xs.length<2^40)(hs:(cd xs).length<2^40):
 aP Tryz.prog Γ mG [.list false 1 (xs.map mY)] (.own 1 aE ((cd xs).map AV.str)):=by
 rcases SB (cd xs).length with h|h
 ·have h0:cd xs=[]:=kU.1 h
  have hx:∀x∈xs,x.2=[]:=by
   clear hk hn hs h
   induction xs with
   |nil=>simp
   |cons y ys ih=>
    simp only[cd,SG]at h0;intro x hx
    rcases bt.1 hx with rfl|hx
    ·exact h0.1
    ·exact ih h0.2 x hx
  rw[h0];exact Jn xs hx hn
 ·exact Jp xs hk hn hs h
theorem GB{α β:Type}(a:List β)(f:α->List β)(l:List α){i:Nat}(h:i<l.length):a++(l.drop i).flatMap f=a++f l[i]++(l.drop (i+1)).flatMap f:=by
 rw[bM h,nq,eQ]
def mb(l:List Gt):List Bs:=l.flatMap (·.ins)
def o6(l:List Lt):List Bs:=l.flatMap fun q=>[q.name,q.next]
def o7(l:List Gt):List Bs:=l.flatMap fun g=>g.name::g.ins
def eS(c:Ct):List Bs:=c.aW++c.ak.map (·.next)++mb c.af
def l9(c:Ct):List Bs:=c.aB++c.aW++o6 c.ak++o7 c.af
theorem A3{α β:Type}(f:α->List β)(n:Nat):∀l:List α,(∀x∈l,(f x).length<=n)->(l.flatMap f).length<=l.length*n
 |[],_=>by simp
 |x::l,h=>by
  have h1:=A3 f n l fun y hy=>h y (ec _ hy)
  have h2:=h x (pN ..);rw[nq,bR,bP,C7];omega
theorem wo{c:Ct}(hc:cj c):(mb c.af).length<=2^20:=by
 have h1:=A3 (·.ins) (2^10) c.af fun g hg=>by have:=(hc.2.2.2.2.1 g hg).2.1;omega
 have h2:=hc.2.2.2.1;unfold mb;omega
theorem wz{c:Ct}(hc:cj c):(o7 c.af).length<=2^20:=by
 have h1:=A3 (fun g:Gt=>g.name::g.ins) (2^10) c.af fun g hg=>by have:=(hc.2.2.2.2.1 g hg).2.1;simp;omega
 have h2:=hc.2.2.2.1;unfold o7;omega
theorem tT{c:Ct}(hc:cj c):(o6 c.ak).length<=2^20:=by
 have h1:=A3 (fun q:Lt=>[q.name,q.next]) 2 c.ak fun g hg=>by simp
 have h2:=hc.2.2.1;unfold o6;omega
theorem abB(c:Ct)(hc:cj c):∀n i:Nat,i+n=c.af.length->∀l:List Bs,l.length+(mb (c.af.drop i)).length<2^40->
 ay Tryz.prog Γ (yrr (.sl 2 0 l.length) (.list false c.kG (c.af.map dg)) (.int .i64 c.af.length) (.int .i64 i) [.cells (AV.cells (bX c)),.row 1 aE [] none true false,.row 1 aE (l.map .str) none true false]) (.ret (.own 1 aE ((l++mb (c.af.drop i)).map .str))):=by
 have hG:=c.hG;have hl:=hc.2.2.1;have hl2:=hc.2.2.2.1;have b1:=wo hc;have b2:=wz hc;have b3:=tT hc;intro n
 induction n with
 |zero=>
  intro i hi l hL
  have q1:¬i<c.af.length:=by omega
  rw[bw (by omega)];refine .go 60 ?_;simp[q1];exact .back (by simp[mb])
 |succ n ih=>
  intro i hi l hL
  have q1:i<c.af.length:=by omega
  have q2:=hG.of q1;have q3:=(hc.2.2.2.2.1 c.af[i] (bC q1)).2.1;have q4:=c.af[i].hi;have q5:c.af[i].ki=1\/c.af[i].ins=[]:=q4;have e:l++mb (c.af.drop i)=l++c.af[i].ins++mb (c.af.drop (i+1)):=GB l (fun g:Gt=>g.ins) _ q1;have e2:=congrArg List.length e;simp only[bR,bP,dh]at e2;have hh:=ih (i+1) (by omega) (l++c.af[i].ins) (by simp only[bR,bP,dh];omega);rw[e];refine .go 60 ?_;simp(disch:=omega) [q1,q2,q5];refine .aL ?_;simp;refine .drop 3 rfl (by simp) (by simp) (by simp) ?_;refine .lT (i:=2) rfl (by first|(simp;done)|(by_cases hq:c.af[i].ins=[]<;>simp[hq])) (by simp) (by simp<;>omega) (by simp) ?_;simp[q2]at hh⊢;exact hh
theorem acs(c:Ct)(hc:cj c):∀n i:Nat,i+n=c.ak.length->∀l:List Bs,l.length+((c.ak.drop i).map (·.next)).length<2^39->
 ay Tryz.prog Γ (yrt (.ptr 0 0) (.sl 2 0 l.length) (.list false c.kL (c.ak.map pC)) (.int .i64 c.ak.length) (.int .i64 i) [.cells (AV.cells (bX c)),.row 1 aE [] none true false,.row 1 aE (l.map .str) none true false]) (.ret (.own 1 aE ((l++(c.ak.drop i).map (·.next)++mb c.af).map .str))):=by
 have hG:=c.hL;have hl:=hc.2.2.1;have hl2:=hc.2.2.2.1;have b1:=wo hc;have b2:=wz hc;have b3:=tT hc;intro n
 induction n with
 |zero=>
  intro i hi l hL
  have q1:¬i<c.ak.length:=by omega
  have hh:=abB (Γ:=Γ) c hc c.af.length 0 (by omega) l (by rw[iq];omega);rw[bw (by omega)];refine .go 60 ?_;simp[q1];refine .inLoop ?_;simp at hh⊢;exact hh
 |succ n ih=>
  intro i hi l hL
  have q1:i<c.ak.length:=by omega
  have q2:=hG.of q1;have e:l++(c.ak.drop i).map (·.next)=l++[c.ak[i].next]++(c.ak.drop (i+1)).map (·.next):=Gy l (·.next) _ q1;have e2:=congrArg List.length e;simp only[bR,bP,dh]at e2;have hh:=ih (i+1) (by omega) (l++[c.ak[i].next]) (by simp only[bR,bP,dh];omega);rw[e];refine .go 60 ?_;simp(disch:=omega) [q1,q2];refine .aL ?_;simp;refine .drop 3 rfl (by simp) (by simp) (by simp) ?_;refine .reset (i:=2) rfl (by simp) (by simp) (by simp) ?_;simp[q2]at hh⊢;exact hh
theorem ad4(c:Ct)(hc:cj c):aP Tryz.prog Γ tz [bX c] (.own 1 aE ((eS c).map .str)):=by
 have h1:=hc.2.1;have h2:=hc.2.2.1;refine .run 60 XP (by simp) ?_;simp;refine .call 60 (by simp) (sS c.aW c.hO (by omega)) ?_;simp;refine .inLoop ?_;have hh:=acs (Γ:=Γ) c hc c.ak.length 0 (by omega) c.aW (by rw[iq,il];omega);simp[eS]at hh⊢;exact hh
theorem abG(c:Ct)(hc:cj c):∀n i:Nat,i+n=c.af.length->∀l:List Bs,l.length+(o7 (c.af.drop i)).length<2^40->
 ay Tryz.prog Γ (yqv (.sl 2 0 l.length) (.list false c.kG (c.af.map dg)) (.int .i64 c.af.length) (.int .i64 i) [.cells (AV.cells (bX c)),.row 1 aE [] none true false,.row 1 aE (l.map .str) none true false]) (.ret (.own 1 aE ((l++o7 (c.af.drop i)).map .str))):=by
 have hG:=c.hG;have hl:=hc.2.2.1;have hl2:=hc.2.2.2.1;have b1:=wo hc;have b2:=wz hc;have b3:=tT hc;intro n
 induction n with
 |zero=>
  intro i hi l hL
  have q1:¬i<c.af.length:=by omega
  rw[bw (by omega)];refine .go 60 ?_;simp[q1];exact .back (by simp[o7])
 |succ n ih=>
  intro i hi l hL
  have q1:i<c.af.length:=by omega
  have q2:=hG.of q1;have q3:=(hc.2.2.2.2.1 c.af[i] (bC q1)).2.1;have q4:=c.af[i].hi;have q5:c.af[i].ki=1\/c.af[i].ins=[]:=q4;have e:l++o7 (c.af.drop i)=l++(c.af[i].name::c.af[i].ins)++o7 (c.af.drop (i+1)):=GB l (fun g:Gt=>g.name::g.ins) _ q1;have e2:=congrArg List.length e;simp only[bR,bP,dh]at e2;have hh:=ih (i+1) (by omega) (l++(c.af[i].name::c.af[i].ins)) (by simp only[bR,bP,dh];omega);rw[e];refine .go 60 ?_;simp(disch:=omega) [q1,q2,q5];refine .dr 60 ?_;simp(disch:=omega) [q1,q2,q5];refine .aL ?_;simp;refine .drop 3 rfl (by simp) (by simp) (by simp) ?_;refine .lT (i:=2) rfl (by first|(simp;done)|(by_cases hq:c.af[i].ins=[]<;>simp[hq])) (by simp) (by simp<;>omega) (by simp) ?_
  have e3:l.length+(c.af[i].ins.length+1)=l.length+1+c.af[i].ins.length:=by omega
  simp[q2,e3]at hh⊢;exact hh
theorem abP(c:Ct)(hc:cj c):∀n i:Nat,i+n=c.ak.length->∀l:List Bs,l.length+(o6 (c.ak.drop i)).length<2^39->
 ay Tryz.prog Γ (yqx (.ptr 0 0) (.sl 2 0 l.length) (.list false c.kL (c.ak.map pC)) (.int .i64 c.ak.length) (.int .i64 i) [.cells (AV.cells (bX c)),.row 1 aE [] none true false,.row 1 aE (l.map .str) none true false]) (.ret (.own 1 aE ((l++o6 (c.ak.drop i)++o7 c.af).map .str))):=by
 have hG:=c.hL;have hl:=hc.2.2.1;have hl2:=hc.2.2.2.1;have b1:=wo hc;have b2:=wz hc;have b3:=tT hc;intro n
 induction n with
 |zero=>
  intro i hi l hL
  have q1:¬i<c.ak.length:=by omega
  have hh:=abG (Γ:=Γ) c hc c.af.length 0 (by omega) l (by rw[iq];omega);rw[bw (by omega)];refine .go 60 ?_;simp[q1];refine .inLoop ?_;simp[o6]at hh⊢;exact hh
 |succ n ih=>
  intro i hi l hL
  have q1:i<c.ak.length:=by omega
  have q2:=hG.of q1;have e:l++o6 (c.ak.drop i)=l++[c.ak[i].name,c.ak[i].next]++o6 (c.ak.drop (i+1)):=GB l (fun q:Lt=>[q.name,q.next]) _ q1;have e2:=congrArg List.length e;simp only[bR,bP,dh]at e2;have hh:=ih (i+1) (by omega) (l++[c.ak[i].name,c.ak[i].next]) (by simp only[bR,bP,dh];omega);rw[e];refine .go 60 ?_;simp(disch:=omega) [q1,q2];refine .aL ?_;simp;refine .drop 3 rfl (by simp) (by simp) (by simp) ?_;refine .reset (i:=2) rfl (by simp) (by simp) (by simp) ?_;simp[q2]at hh⊢;exact hh
theorem adC(c:Ct)(hc:cj c):aP Tryz.prog Γ tu [bX c] (.own 1 aE ((l9 c).map .str)):=by
 have h1:=hc.1;have h2:=hc.2.1;have h3:=hc.2.2.1;have b3:=tT hc
 have hx:∀x∈[(c.kI,c.aB),(c.kO,c.aW)],Kd 1 x.1 x.2:=by
  intro x hx;simp only[bt,pO,pG]at hx
  rcases hx with rfl|rfl
  ·exact c.hI
  ·exact c.hO
 have hx2:cd [(c.kI,c.aB),(c.kO,c.aW)]=c.aB++c.aW:=by simp[cd]
 have hC:=Tb (Γ:=Γ) [(c.kI,c.aB),(c.kO,c.aW)] hx (by simp) (by rw[hx2];simp;omega);rw[hx2]at hC;refine .run 60 Xu (by simp) ?_;simp;refine .call 60 (by simp) hC ?_;simp;refine .inLoop ?_;have hh:=abP (Γ:=Γ) c hc c.ak.length 0 (by omega) (c.aB++c.aW) (by rw[iq,bR];omega);simp[l9]at hh⊢;exact hh
abbrev Ga(e:Int)(s:Bs):AV:=.bW DP (.agg [.int .i64 e,.str s])
theorem rR(e:Int)(s:Bs):aP Tryz.prog Γ nA [.bool true,.int .i64 e,.str s] (.aH []):=by
 refine .run 60 Ku (by simp) ?_;simp;exact .back (by simp)
theorem lL(e:Int)(s:Bs):ll Tryz.prog Γ nA [.bool false,.int .i64 e,.str s] (Ga e s):=by
 refine ll.of (hh:=[]) (by simp) (wA Ku _ (.go 60 ?_)) (by simp) (by simp);simp
def lp:List Bs->List Bs->Option Bs
 |_,[]=>none
 |seen,s::l=>if s∈seen then some s else lp (seen++[s]) l
def iy(l:List Bs):Option Bs:=lp [] l
abbrev jr(s:Bs):AV×AV:=(.str s,.bool true)
theorem vQ(s:Bs):∀l:List Bs,eD (.sc .str) (.str s) (l.map jr)=some (if s∈l then some (.bool true)else none)
 |[]=>rfl
 |a::l=>by
  simp only[b9,eD,b_,eI]
  cases h:(s==a)
  ·have h2:=vm.1 h;simp[vQ s l,h2]
  ·have h2:=eq_of_beq h;simp[h2]
theorem zK{s:Bs}{v:AV}:∀{l:List Bs},s∉l->h_ (.sc .str) (.str s) v (l.map jr)=some (l.map jr++[(.str s,v)])
 |[],_=>rfl
 |a::l,h=>by
  simp only[bt,not_or]at h;simp only[b9,h_,b_,eI];have h2:(s==a)=false:=vm.2 h.1;simp[h2,zK (v:=v) h.2]
@[simp] theorem X8(n:Nat):∀l:List Bs,fT n (l.map jr)=true
 |[]=>rfl
 |x::r=>by simp[fT,X8 n r]
@[simp] theorem Zg(n m:Nat):∀l:List Bs,m6 n m (l.map jr)=true
 |[]=>rfl
 |x::r=>by simp[Zg n m r]
@[simp] theorem aaG(n:Nat)(τ:List Nat):∀l:List Bs,my n τ (l.map jr)=l.map jr
 |[]=>rfl
 |x::r=>by simp[aaG n τ r]
@[simp] theorem ZY(n:Nat)(τ:List Nat):∀l:List Bs,pA n τ (l.map jr)=true
 |[]=>rfl
 |x::r=>by simp[ZY n τ r]
def B0(h:List Ob):Prop:=∀m,h.length<=m->cE m h=true
theorem abX(l:List Bs){fl:Bool}{k:Nat}(hk:Kd 1 k l)(hl:l.length<2^40)(h:List Ob)(hw:B0 h)(up:List Fr):∀n i:Nat,i+n=l.length->∀seen,lp seen (l.drop i)=none->AM.Reach Tryz.prog Γ
 (Qt (.mp h.length) (.list fl k (l.map .str)) (.int .i64 l.length) (.int .i64 i) (h++[.map (seen.map jr) true]) ⟨[],.norm,h.length,up⟩)
 (.back up (.mp h.length) (h++[.map ((seen++l.drop i).map jr) true])):=by
 intro n
 induction n with
 |zero=>
  intro i hi seen hs
  have q1:¬i<l.length:=by omega
  rw[bw (by omega)];refine .bf 60 ?_;simp[q1]
 |succ n ih=>
  intro i hi seen hs
  have q1:i<l.length:=by omega
  obtain rfl:=hk.of q1;rw[bM q1]at hs⊢;rw[lp]at hs;have hfi:=vQ l[i] seen;have hbw:=hw (h.length+1) (by omega)
  by_cases hm:l[i]∈seen
  ·rw[if_pos hm]at hs;cases hs
  ·rw[if_neg hm]at hs hfi;have hh:=ih (i+1) (by omega) (seen++[l[i]]) hs;have hput:=zK (v:=.bool true) hm;refine .bf 60 ?_;simp(disch:=omega) [q1,hfi,isKey,cf,cP];refine .nM 60 (by simp) (rR 5 l[i]) ?_;simp(disch:=omega) [hput,isKey,cf,cP];refine .aL ?_;simp at hh⊢;exact hh
theorem WZ(l:List Bs){fl:Bool}{k:Nat}(hk:Kd 1 k l)(hl:l.length<2^40)(h:List Ob)(hw:B0 h)(up:List Fr)(s0:Bs):∀n i:Nat,i+n=l.length->∀seen,lp seen (l.drop i)=some s0->∃h',AM.Reach Tryz.prog Γ
 (Qt (.mp h.length) (.list fl k (l.map .str)) (.int .i64 l.length) (.int .i64 i) (h++[.map (seen.map jr) true]) ⟨[],.norm,h.length,up⟩)
 (.die up (Ga 5 s0) (h++h')):=by
 intro n
 induction n with
 |zero=>
  intro i hi seen hs;rw[bw (by omega)]at hs
  cases hs
 |succ n ih=>
  intro i hi seen hs
  have q1:i<l.length:=by omega
  obtain rfl:=hk.of q1;rw[bM q1]at hs;rw[lp]at hs;have hfi:=vQ l[i] seen;have hbw:=hw (h.length+1) (by omega)
  by_cases hm:l[i]∈seen
  ·rw[if_pos hm]at hs hfi;obtain rfl:=Option.some.inj hs;refine⟨[.map (seen.map jr) true],?_⟩;refine .bf 60 ?_;simp(disch:=omega) [q1,hfi,isKey,cf,cP];refine .lz 2 (by simp) (lL 5 l[i]) ?_;simp
  ·rw[if_neg hm]at hs hfi;obtain⟨h',hh⟩:=ih (i+1) (by omega) (seen++[l[i]]) hs;refine⟨h',?_⟩;have hput:=zK (v:=.bool true) hm;refine .bf 60 ?_;simp(disch:=omega) [q1,hfi,isKey,cf,cP];refine .nM 60 (by simp) (rR 5 l[i]) ?_;simp(disch:=omega) [hput,isKey,cf,cP];refine .aL ?_;simp at hh⊢;exact hh
theorem OH(l:List Bs){fl:Bool}{k:Nat}(hk:Kd 1 k l)(hl:l.length<2^40)(h:List Ob)(hw:B0 h)(ht:iy l=none):∀up,AM.Reach Tryz.prog Γ
 (.cl rB [.list fl k (l.map .str)] up h) (.back up (.mp h.length) (h++[.map (l.map jr) true])):=by
 intro up;refine .bF 60 Ky ?_;simp;refine .inLoop ?_;have hh:=abX (Γ:=Γ) (fl:=fl) l hk hl h hw up l.length 0 (by omega) [] ht;simp at hh⊢;exact hh
theorem N2(l:List Bs){fl:Bool}{k:Nat}(hk:Kd 1 k l)(hl:l.length<2^40)(h:List Ob)(hw:B0 h){s0:Bs}(ht:iy l=some s0):∀up,∃h',AM.Reach Tryz.prog Γ
 (.cl rB [.list fl k (l.map .str)] up h) (.die up (Ga 5 s0) (h++h')):=by
 intro up;have hh:=WZ (Γ:=Γ) (fl:=fl) l hk hl h hw up s0 l.length 0 (by omega) [] ht;obtain⟨h',hh⟩:=hh;refine⟨h',?_⟩;refine .bF 60 Ky ?_;simp;refine .inLoop ?_;simp at hh⊢;exact hh
def po(c:UInt8):Bool:=decide (c<33)||decide (126<c)
def iC(s:List UInt8):Bool:=!br po s&&(decide (1<=s.length)&&decide (s.length<=40))
def pk:List UInt8->Nat->Int
 |[],_=>-1
 |c::s,i=>if po c=true then(i:Int)else pk s (i+1)
theorem Nc:∀(s:List UInt8)(i:Nat),decide (pk s i<0)=!br po s
 |[],i=>by simp[pk,rF]
 |c::s,i=>by
  rw[pk,gX]
  cases h:po c with
  |true=>simp
  |false=>simpa using Nc s (i+1)
theorem K4(r:Int):aP Tryz.prog Γ rh [.int .i32 r] (.bool (decide (r<=32)||decide (126<r))):=by
 refine .run 60 TR (by simp) ?_
 by_cases h:r<=32<;>simp[h]<;>exact .back (by simp[h])
theorem Vn{s:List UInt8}{i:Nat}(h:i<s.length)(ha:s[i].toNat<128):Utf8.decode ⟨s.toArray⟩ i=(s[i].toNat,1):=by
 exact decode_ascii ⟨s.toArray⟩ i (show i<s.toArray.size by simpa using h) ha
theorem VV{s:List UInt8}{i:Nat}(h:i<s.length)(ha:128<=s[i].toNat):128<=(Utf8.decode ⟨s.toArray⟩ i).1:=by
 exact(decode_high ⟨s.toArray⟩ i (show i<s.toArray.size by simpa using h) ha).1
set_option maxRecDepth 8000 in
theorem WG(s:List UInt8)(hs:s.length<2^40):aP Tryz.prog Γ vC [.str s,.fn (.func rh) [] [],.bool true] (.int .i64 (pk s 0)):=by
 have key:∀n i:Nat,i+n=s.length->ay Tryz.prog Γ (yFJ (.fn (.func rh) [] []) (.bool true) (.it 0) [.gK s i]) (.ret (.int .i64 (pk (s.drop i) i))):=by
  intro n
  induction n with
  |zero=>
   intro i hi;rw[bw (by omega),pk]
   have q1:¬i<s.length:=by omega
   refine .go 60 ?_;simp[q1];exact .back (by simp)
  |succ n ih=>
   intro i hi
   have q1:i<s.length:=by omega
   rw[bM q1,pk];have hh:=ih (i+1) (by omega)
   by_cases ha:s[i].toNat<128
   ·have hd:=Vn q1 ha
    have e:(decide ((s[i].toNat:Int)<=32)||decide (126<(s[i].toNat:Int)))=po s[i]:=by
     unfold po;simp only[UInt8.lt_iff_toNat_lt,show(33:UInt8).toNat=33 from rfl,show(126:UInt8).toNat=126 from rfl]
     congr 1<;>exact decide_eq_decide.2 (by omega)
    have hc:=K4 (Γ:=Γ) (s[i].toNat:Int);rw[e]at hc;refine .go 60 ?_;simp[q1,hd];refine .call 60 (by simp) hc ?_
    cases ho:po s[i]with
    |true=>simp;exact .back (by simp)
    |false=>
     simp;refine .aL ?_;simp at hh⊢;exact hh
   ·have hd:=VV q1 (by omega)
    have ho:po s[i]=true:=by unfold po;simp only[UInt8.lt_iff_toNat_lt,show(33:UInt8).toNat=33 from rfl,show(126:UInt8).toNat=126 from rfl,eY,a_];omega
    rw[ho];have hc:=K4 (Γ:=Γ) ((Utf8.decode ⟨s.toArray⟩ i).1:Int)
    have e:(decide (((Utf8.decode ⟨s.toArray⟩ i).1:Int)<=32)||decide (126<((Utf8.decode ⟨s.toArray⟩ i).1:Int)))=true:=by
     simp only[eY,a_];right;omega
    rw[e]at hc;refine .go 60 ?_;simp[q1];refine .call 60 (by simp) hc ?_;simp;exact .back (by simp)
 refine .run 60 T5 (by simp) ?_;simp;refine .inLoop ?_;have hh:=key s.length 0 (by omega);simp at hh⊢;exact hh
theorem Wo(s:List UInt8)(hs:s.length<2^40):aP Tryz.prog Γ y_ [.str s,.fn (.func rh) [] []] (.int .i64 (pk s 0)):=by
 refine .run 60 T7 (by simp) ?_;simp;refine .call 60 (by simp) (WG s hs) ?_;simp;exact .back (by simp)
theorem acB(s:List UInt8):aP Tryz.prog Γ zd [.str s] (.bool (iC s)):=by
 refine .run 60 Ub (by simp) ?_;unfold iC
 by_cases h0:s=[]
 ·subst h0;simp;exact .back (by simp)
 ·have h1:1<=s.length:=qU.2 h0;have h0':¬s=[]:=h0
  by_cases h2:s.length<=40
  ·have h2':(s.length:Int)<=40:=by omega
   simp[h0,h2,h2'];refine .call 60 (by simp) (Wo s (by omega)) ?_;have e:=Nc s 0;simp[e];exact .back (by simp[h0,h1,h2])
  ·have h2':¬(s.length:Int)<=40:=by omega
   simp[h0,h2,h2'];exact .back (by simp[h2])
theorem OT(s:List UInt8):aP Tryz.prog Γ vL [.str s] (.bool (iC s)):=by
 refine .run 60 VH (by simp) ?_;simp;refine .call 60 (by simp) (acB s) ?_;simp;exact .back (by simp)
theorem UF{φ:List Ob->Prop}{f:FuncId}{caps:List AV}{p:Gt->Bool}{l:List Gt}{k:Nat}{fl:Bool}(ha:iH Tryz.prog Γ φ f caps dg p l)(hk:Kd 5 k l)(hs:l.length<2^60){h:List Ob}(hφ:φ h):
 ∀up,AM.Reach Tryz.prog Γ (.cl vq [.list fl k (l.map dg),.fn (.func f) [] caps] up h) (.back up (.int .i64 (ey p l 0)) h):=by
 intro up
 have key:∀n i:Nat,i+n=l.length->AM.Reach Tryz.prog Γ (yxm (.list fl k (l.map dg)) (.fn (.func f) [] caps) (.int .i64 l.length) (.int .i64 i) h ⟨[],.norm,h.length,up⟩) (.back up (.int .i64 (ey p (l.drop i) i)) h):=by
  intro n
  induction n with
  |zero=>
   intro i hi
   have h1:¬i<l.length:=by omega
   refine .bf 60 ?_;rw[bw (by omega)];simp[h1,ey]
  |succ n ih=>
   intro i hi
   have h1:i<l.length:=by omega
   obtain rfl:=hk.of h1;have h2:=ha.2 l[i] (bC h1);rw[bM h1,ey];have hh:=ih (i+1) (by omega);refine .bf 60 ?_;simp[h1,ha.1];refine .bd 60 (fun up=>h2 up h hφ) ?_
   cases hp:p l[i]with
   |true=>simp(disch:=omega) [hp]
   |false=>
    simp(disch:=omega) [hp];refine .aL ?_;simp at hh⊢;exact hh
 refine .bF 60 SS ?_;simp;refine .inLoop ?_;have hh:=key l.length 0 (by omega);simp at hh⊢;exact hh
theorem Jx{φ:List Ob->Prop}{f:FuncId}{caps:List AV}{p:Gt->Bool}{l:List Gt}{k:Nat}{fl:Bool}(ha:iH Tryz.prog Γ φ f caps dg p l)(hk:Kd 5 k l)(hs:l.length<2^60){h:List Ob}(hφ:φ h):
 ∀up,AM.Reach Tryz.prog Γ (.cl yD [.list fl k (l.map dg),.fn (.func f) [] caps] up h) (.back up (.bool (br p l)) h):=by
 intro up;refine .bF 60 SN ?_;simp;refine .bd 60 (UF ha hk hs hφ) ?_;have h1:=AY p l 0
 cases hp:br p l with
 |true=>rw[hp]at h1;simp at h1;simp[h1]
 |false=>
  rw[hp]at h1
  have h2:¬0<=ey p l 0:=by rw[h1];simp
  simp[h2]
def rU(g:Gt):Bool:=decide (8<g.ins.length)||decide (128<g.rows.length)
def iZ(c:Ct):Bool:=br rU c.af||(decide (200<c.aB.length+c.ak.length+c.af.length)||decide (200<c.aW.length))
def ic(N:List Bs):List Bs->Int×Bs
 |[]=>(0,[])
 |s::l=>if s∈N then ic N l else(6,s)
def ju(r:Int×Bs):List Gt->Int×Bs
 |[]=>r
 |g::l=>if jV g=true then ju r l else(1,g.name)
def lW(q:Lt):Bool:=decide (0<=q.init)&&decide (q.init<=2)
def kz(r:Int×Bs):List Lt->Int×Bs
 |[]=>r
 |q::l=>if lW q=true then kz r l else(1,q.name)
def nP(r:Int×Bs):List Bs->Int×Bs
 |[]=>r
 |s::l=>if iC s=true then nP r l else(4,s)
def mq:Option Bs->Int×Bs->Int×Bs
 |some s,_=>(5,s)
 |none,r=>r
def iw(c:Ct):Int×Bs:=
 if iZ c=true then(8,[])else nP (mq (iy (aD c)) (mq (iy c.aW) (kz (ju (ic (aD c) (eS c)) c.af) c.ak))) (l9 c)
abbrev sn(r:Int×Bs):AV:=.aH [.int .i64 r.1,.str r.2]
theorem acJ(g:Gt):aP Tryz.prog Γ vH [dg g] (.bool (rU g)):=by
 refine .run 60 Vd (by simp) ?_;unfold rU;have e1:((8:Int)<g.ins.length)=(8<g.ins.length):=propext (by omega);have e2:((128:Int)<g.rows.length)=(128<g.rows.length):=propext (by omega)
 by_cases h1:8<g.ins.length<;>simp[e1,e2,h1]<;>exact .back (by simp[h1])
theorem NU(l:List Gt):iH Tryz.prog Γ (fun _=>True) vH [] dg rU l:=by
 refine⟨by simp,fun g hg up h hφ=>?_⟩;exact Reach.aff (by simp) (acJ g) (fun _=>rfl) (by simp) up
abbrev Cd:Cx:=⟨[.call zo [.ptr 1 0,.ptr 2 0]],.norm,0,[]⟩
abbrev Hu(c:Ct):List Ob:=[.cells (AV.cells (bX c)),.cells [.int .i64 0],.cells [.str []]]
abbrev sB(c:Ct)(N:List Bs):List Ob:=[.cells (AV.cells (bX c)),.cells [.int .i64 0],.cells [.str []],.map (N.map jr) true]
set_option maxRecDepth 8000 in
theorem aeR(c:Ct)(N:List Bs)(l:List Bs)(hl:l.length<2^40):∀n i:Nat,i+n=l.length->
 ay Tryz.prog Γ (yjf (.ptr 1 0) (.ptr 2 0) (.mp 3) (.list false 1 (l.map .str)) (.int .i64 l.length) (.int .i64 i) (sB c N) Cd) (.ret (sn (ic N (l.drop i)))):=by
 intro n
 induction n with
 |zero=>
  intro i hi
  have q1:¬i<l.length:=by omega
  rw[bw (by omega),ic];refine .go 160 ?_;simp[q1];exact .back (by simp)
 |succ n ih=>
  intro i hi
  have q1:i<l.length:=by omega
  have hfi:=vQ l[i] N;rw[bM q1,ic];have hh:=ih (i+1) (by omega);refine .go 160 ?_
  by_cases hm:l[i]∈N
  ·rw[if_pos hm]at hfi⊢;simp[q1,hfi,isKey,cf,cP];refine .call 160 (by simp) (rR 6 l[i]) ?_;simp(disch:=omega);refine .aL ?_;simp at hh⊢;exact hh
  ·rw[if_neg hm]at hfi⊢;simp[q1,hfi,isKey,cf,cP];refine .lz 160 (by simp) (lL 6 l[i]) ?_;simp;refine .dr 90 ?_;simp;exact .back (by simp)
theorem adH:fa (m8 Hv) Hv.length []=[[0,1,2,3,4],[0,2,1,3,4],[0,2,3,1,4],[2,0,1,3,4],[2,0,3,1,4],[2,3,0,1,4]]:=by rfl
set_option maxRecDepth 8000 in
theorem aee(hΓ:jB Γ)(c:Ct)(hc:cj c)(N:List Bs):∀n i:Nat,i+n=c.af.length->
 ay Tryz.prog Γ (yjh (.ptr 0 0) (.ptr 1 0) (.ptr 2 0) (.mp 3) (.list false c.kG (c.af.map dg)) (.int .i64 c.af.length) (.int .i64 i) (sB c N) Cd) (.ret (sn (ju (ic N (eS c)) (c.af.drop i)))):=by
 have b:=hc.2.2.2.1;have b1:=wo hc;have b2:=hc.2.1;have b3:=hc.2.2.1;intro n
 induction n with
 |zero=>
  intro i hi
  have q1:¬i<c.af.length:=by omega
  have hh:=aeR (Γ:=Γ) c N (eS c) (by simp only[eS,bR,il];omega) (eS c).length 0 (by omega);rw[bw (by omega),ju];refine .go 160 ?_;simp[q1];refine .call 1 (by simp) (ad4 c hc) ?_;simp;refine .trees [92] ?_;refine .drop 4 rfl (by simp) (by simp) (by simp) ?_;refine .go 60 ?_;simp;refine .inLoop ?_;simp at hh⊢;exact hh
 |succ n ih=>
  intro i hi
  have q1:i<c.af.length:=by omega
  have q2:=c.hG.of q1;have hG:=adl hΓ c.af[i] (hc.2.2.2.2.1 _ (bC q1));rw[bM q1,ju];have hh:=ih (i+1) (by omega)
  cases hb:jV c.af[i]with
  |true=>
   rw[hb]at hG;refine .go 160 ?_;simp[q1,q2];refine .dr 160 ?_;simp;refine gB.call (by simp) hG ?_;simp;refine gB.call (by simp) (rR 1 c.af[i].name) ?_;simp(disch:=omega);refine .aL ?_;simp;refine .drop 4 rfl (by simp) (by simp) (by simp) ?_;simp[q2,sB]at hh⊢;exact hh
  |false=>
   rw[hb]at hG;refine .go 160 ?_;simp[q1,q2];refine .QC 60 ?_;rw[adH];intro l hl;simp only[bt,pO,pG]at hl
   rcases hl with rfl|rfl|rfl|rfl|rfl|rfl
   all_goals
    simp;refine .wZ 60 (by simp) hG ?_;simp;refine .lz 160 (by simp) (lL 1 c.af[i].name) ?_;simp;refine .dr 90 ?_;simp;exact .back (by simp)
set_option maxRecDepth 8000 in
theorem aeo(hΓ:jB Γ)(c:Ct)(hc:cj c)(N:List Bs):∀n i:Nat,i+n=c.ak.length->
 ay Tryz.prog Γ (yjj (.ptr 0 0) (.ptr 1 0) (.ptr 2 0) (.mp 3) (.list false c.kL (c.ak.map pC)) (.int .i64 c.ak.length) (.int .i64 i) (sB c N) Cd) (.ret (sn (kz (ju (ic N (eS c)) c.af) (c.ak.drop i)))):=by
 have b:=hc.2.2.2.1;have b3:=hc.2.2.1;intro n
 induction n with
 |zero=>
  intro i hi
  have q1:¬i<c.ak.length:=by omega
  have hh:=aee (Γ:=Γ) hΓ c hc N c.af.length 0 (by omega);rw[bw (by omega),kz];refine .go 160 ?_;simp[q1];refine .inLoop ?_;simp[sB]at hh⊢;exact hh
 |succ n ih=>
  intro i hi
  have q1:i<c.ak.length:=by omega
  have q2:=c.hL.of q1;rw[bM q1,kz];have hh:=ih (i+1) (by omega);refine .go 160 ?_
  by_cases h1:0<=c.ak[i].init
  ·by_cases h2:c.ak[i].init<=2
   ·have e:lW c.ak[i]=true:=by simp[lW,h1,h2]
    simp[q1,q2,h1,h2,e];refine .call 160 (by simp) (rR 1 c.ak[i].name) ?_;simp(disch:=omega);refine .aL ?_;simp;refine .drop 4 rfl (by simp) (by simp) (by simp) ?_;simp[q2,sB]at hh⊢;exact hh
   ·have e:lW c.ak[i]=false:=by simp[lW,h2]
    simp[q1,q2,h1,h2,e];refine .lz 160 (by simp) (lL 1 c.ak[i].name) ?_;simp;refine .dr 90 ?_;simp;exact .back (by simp)
  ·have e:lW c.ak[i]=false:=by simp[lW,h1]
   simp[q1,q2,h1,e];refine .lz 160 (by simp) (lL 1 c.ak[i].name) ?_;simp;refine .dr 90 ?_;simp;exact .back (by simp)
theorem ay.jW{P:Program}(n:Nat){f:FuncId}{args:List AV}{up:List Fr}{h:List Ob}{v:AV}{o:Out}(h1:∀up,∃h',AM.Reach P Γ (.cl f args up h) (.die up v (h++h')))(h2:∀h',ay P Γ (AM.go P Γ 0 n (.die up v (h++h'))) o):ay P Γ (.cl f args up h) o:=by
 obtain⟨h',hr⟩:=h1 up;exact .reach hr (.go n (h2 h'))
set_option maxRecDepth 8000 in
theorem aeC(hΓ:jB Γ)(c:Ct)(hc:cj c)(l:List Bs):∀n i:Nat,i+n=l.length->l.length<2^40->
 ay Tryz.prog Γ (yjl (.ptr 0 0) (.ptr 1 0) (.ptr 2 0) (.list false 1 (l.map .str)) (.int .i64 l.length) (.int .i64 i) (Hu c) Cd)
  (.ret (sn (nP (mq (iy (aD c)) (mq (iy c.aW) (kz (ju (ic (aD c) (eS c)) c.af) c.ak))) (l.drop i)))):=by
 have b0:=hc.1;have b1:=hc.2.1;have b3:=hc.2.2.1;have b4:=hc.2.2.2.1;intro n
 induction n with
 |zero=>
  intro i hi hL
  have q1:¬i<l.length:=by omega
  have hN:(aD c).length<2^40:=by simp[aD];omega
  rw[bw (by omega),nP];refine .go 160 ?_;simp[q1];refine .call 1 (by simp) (Ot c hc) ?_;simp;refine .trees [54] ?_;simp;refine .go 2 ?_;simp
  cases ht:iy (aD c)with
  |some s0=>
   refine ay.jW 160 (N2 (Γ:=Γ) (fl:=false) (aD c) .self hN _ (by intro m hm;simp) ht) (fun h'=>?_);simp;refine .dr 90 ?_;simp;exact .back (by simp[mq])
  |none=>
   refine .bd 160 (OH (Γ:=Γ) (fl:=false) (aD c) .self hN _ (by intro m hm;simp) ht) ?_;simp
   cases hu:iy c.aW with
   |some s0=>
    refine ay.jW 160 (N2 (Γ:=Γ) (fl:=false) c.aW c.hO (by omega) _ (by intro m hm;simp) hu) (fun h'=>?_);simp;refine .dr 90 ?_;simp;exact .back (by simp[mq])
   |none=>
    have hh:=aeo (Γ:=Γ) hΓ c hc (aD c) c.ak.length 0 (by omega);refine .bd 160 (OH (Γ:=Γ) (fl:=false) c.aW c.hO (by omega) _ (by intro m hm;simp) hu) ?_;simp;refine .inLoop ?_;simp;refine .gc 3 [1] (by simp) (by decide) ?_;simp[sB,mq]at hh⊢;exact hh
 |succ n ih=>
  intro i hi hL
  have q1:i<l.length:=by omega
  rw[bM q1,nP];have hh:=ih (i+1) (by omega) hL;refine .go 160 ?_;simp[q1];refine .call 160 (by simp) (OT l[i]) ?_
  cases hb:iC l[i]with
  |true=>
   simp;refine .call 160 (by simp) (rR 4 l[i]) ?_;simp(disch:=omega);refine .aL ?_;simp at hh⊢;exact hh
  |false=>
   simp;refine .lz 160 (by simp) (lL 4 l[i]) ?_;simp;refine .dr 90 ?_;simp;exact .back (by simp)
set_option maxRecDepth 8000 in
theorem abL(hΓ:jB Γ)(c:Ct)(hc:cj c):aP Tryz.prog Γ nz [bX c] (sn (iw c)):=by
 have b0:=hc.1;have b1:=hc.2.1;have b3:=hc.2.2.1;have b4:=hc.2.2.2.1;have t1:=tT hc;have t2:=wz hc;have hC:=Jx (Γ:=Γ) (fl:=false) (NU c.af) c.hG (by omega) (h:=Hu c) trivial;have e0:((c.aB.length:Int)+c.ak.length+c.af.length<=200)=(c.aB.length+c.ak.length+c.af.length<=200):=propext (by omega);have e1:((c.aW.length:Int)<=200)=(c.aW.length<=200):=propext (by omega);refine .run 160 J9 (by simp) ?_;unfold iw
 by_cases h1:c.aB.length+c.ak.length+c.af.length<=200
 ·by_cases h2:c.aW.length<=200
  ·simp(disch:=omega) [e0,e1,h1,h2];refine .bd 160 hC ?_
   cases h3:br rU c.af with
   |true=>
    have hl:iZ c=true:=by simp[iZ,h3]
    simp;refine .lz 160 (by simp) (lL 8 []) ?_;simp;refine .dr 90 ?_;simp;exact .back (by simp[hl])
   |false=>
    have hl:iZ c=false:=by
     simp only[iZ,h3,nn,jK,iO];omega
    have hh:=aeC (Γ:=Γ) hΓ c hc (l9 c) (l9 c).length 0 (by omega) (by simp[l9];omega);simp;refine .call 160 (by simp) (rR 8 []) ?_;simp;refine .call 1 (by simp) (adC c hc) ?_;simp;refine .trees [42] ?_;simp;refine .drop 3 rfl (by simp) (by simp) (by simp) ?_;refine .go 60 ?_;simp;refine .inLoop ?_;simp[hl]at hh⊢;exact hh
  ·have hl:iZ c=true:=by
    simp only[iZ,eY,a_];right;right;omega
   simp(disch:=omega) [e0,e1,h1,h2];refine .lz 160 (by simp) (lL 8 []) ?_;simp;refine .dr 90 ?_;simp;exact .back (by simp[hl])
 ·have hl:iZ c=true:=by
   simp only[iZ,eY,a_];right;left;omega
  simp(disch:=omega) [e0,e1,h1];refine .lz 160 (by simp) (lL 8 []) ?_;simp;refine .dr 90 ?_;simp;exact .back (by simp[hl])
def eM(s:List UInt8):List (List UInt8)->Nat->Int
 |[],_=>-1
 |a::l,i=>if s=a then(i:Int)else eM s l (i+1)
theorem MW(s:List UInt8):∀(l:List (List UInt8))(i:Nat),decide (0<=eM s l i)=l.contains s
 |[],i=>by simp[eM]
 |a::l,i=>by
  rw[eM,List.contains_cons]
  by_cases h:s=a
  ·rw[if_pos h];simp[h]
  ·rw[if_neg h,MW s l (i+1)]
   have:(s==a)=false:=by simpa using h
   rw[this];rfl
theorem Na(l:List (List UInt8))(s:List UInt8){k:Nat}(hk:Kd 1 k l)(hl:l.length<2^40):aP Tryz.prog Γ sR [.list false k (l.map .str),.str s] (.int .i64 (eM s l 0)):=by
 have key:∀n i:Nat,i+n=l.length->ay Tryz.prog Γ (yfU (.list false k (l.map .str)) (.str s) (.int .i64 l.length) (.int .i64 i) []) (.ret (.int .i64 (eM s (l.drop i) i))):=by
  intro n
  induction n with
  |zero=>
   intro i hi
   have q1:¬i<l.length:=by omega
   rw[bw (by omega),eM];refine .go 60 ?_;simp[q1];exact .back (by simp)
  |succ n ih=>
   intro i hi
   have q1:i<l.length:=by omega
   have q2:=cv (hk.of q1);have hh:=ih (i+1) (by omega);rw[bM q1,eM];refine .go 60 ?_
   by_cases h:s=l[i]
   ·simp[q1,q2,h];exact .back (by simp)
   ·simp(disch:=omega) [q1,q2,h];refine .aL ?_;simp at hh⊢;exact hh
 refine .run 60 Tf (by simp) ?_;simp;refine .inLoop ?_;have hh:=key l.length 0 (by omega);simp at hh⊢;exact hh
theorem Db(a b:List (List UInt8)){ka kb:Nat}(ha:Kd 1 ka a)(hb:Kd 1 kb b)(hs:a.length<2^60):aP Tryz.prog Γ rb [.list false ka (a.map AV.str),.list false kb (b.map AV.str)] (.bool (decide (a=b))):=by
 refine .run 60 Tg (by simp) ?_
 by_cases hl:a.length=b.length
 ·have key:∀n i:Nat,i+n=a.length->ay Tryz.prog Γ (ynh (.list false ka (a.map AV.str)) (.list false kb (b.map AV.str)) (.int .i64 a.length) (.int .i64 i) []) (.ret (.bool (decide (a.drop i=b.drop i)))):=by
   intro n
   induction n with
   |zero=>
    intro i hi;refine .go 60 ?_
    have h1:¬i<a.length:=by omega
    have h2:a.drop i=b.drop i:=by rw[bw (by omega),bw (by omega)]
    simp[h1,h2];exact .back (by simp)
   |succ n ih=>
    intro i hi
    have h1:i<a.length:=by omega
    have h2:i<b.length:=by omega
    obtain rfl:=ha.of h1;obtain rfl:=hb.of h2;have h4:=drop_eq h1 h2;refine .go 60 ?_
    by_cases h3:a[i]=b[i]
    ·simp(disch:=omega) [h1,h2,h3,h4];refine .aL ?_;simpa using ih (i+1) (by omega)
    ·simp(disch:=omega) [h1,h2,h3,h4];exact .back (by simp)
  simp[hl];refine .inLoop ?_;simpa[hl]using key a.length 0 (by omega)
 ·have h2:¬a=b:=fun e=>hl (by rw[e])
  simp[hl,h2];exact .back (by simp)
theorem DH(a b:List (List UInt8)){ka kb:Nat}(ha:Kd 1 ka a)(hb:Kd 1 kb b)(hs:a.length<2^60):aP Tryz.prog Γ oA [.list false ka (a.map .str),.list false kb (b.map .str)] (.bool (decide (a=b))):=by
 refine .run 60 Wf (by simp) ?_
 by_cases hl:a.length=b.length
 ·have key:∀n i:Nat,i+n=a.length->ay Tryz.prog Γ (ycV (.list false ka (a.map .str)) (.list false kb (b.map .str)) (.int .i64 i) []) (.ret (.bool (decide (a.drop i=b.drop i)))):=by
   intro n
   induction n with
   |zero=>
    intro i hi;refine .go 60 ?_
    have h1:¬i<a.length:=by omega
    have h2:a.drop i=b.drop i:=by rw[bw (by omega),bw (by omega)]
    simp[h1,h2];exact .back (by simp)
   |succ n ih=>
    intro i hi
    have h1:i<a.length:=by omega
    have h2:i<b.length:=by omega
    obtain rfl:=ha.of h1;obtain rfl:=hb.of h2;have h4:=drop_eq h1 h2;refine .go 60 ?_
    by_cases h3:a[i]=b[i]
    ·simp(disch:=omega) [h1,h2,h3,h4];refine .aL ?_;simpa using ih (i+1) (by omega)
    ·simp(disch:=omega) [h1,h2,h3,h4];exact .back (by simp)
  simp[hl];refine .inLoop ?_;simpa[hl]using key a.length 0 (by omega)
 ·have h2:¬a=b:=fun e=>hl (by rw[e])
  simp[hl,h2];exact .back (by simp)
theorem acT{c:Ct}(hc:cj c):(aD c).length<2^12:=by
 have b0:=hc.1;have b3:=hc.2.2.1;have b4:=hc.2.2.2.1
 simp[aD];omega
abbrev Gt.key(g:Gt):Bs×Int×Bool×List Bs×List Bs:=(g.name,g.op,g.off,g.ins,g.rows)
end Go.Proofs.YtihmomicdpkabaaGreatDoor
namespace Go.Proofs.YtihmomicdpkabaaGreatDoor
open Go.AM Go.Proofs
theorem qf(a b:List UInt8):b_ (.sc .str) (.str a) (.str b)=some (decide (a=b)):=by
 simp only[b_,eI]
 by_cases h:a=b<;>simp[h]
theorem A'(a b:Nat):b_ (.sc .int) (.int .i64 a) (.int .i64 b)=some (decide (a=b)):=by
 simp only[b_,eI]
 by_cases h:a=b
 ·simp[h]
 ·have h2:¬(a:Int)=b:=by omega
  simp[h,h2]
section
variable{K:Type}[DecidableEq K]{E:EK}{e:K->AV}(he:∀a b,b_ E (e a) (e b)=some (decide (a=b)))
def getM{V:Type}(k:K):List (K×V)->Option V
 |[]=>none
 |(a,v)::l=>if k=a then some v else getM k l
def nT{V:Type}(k:K)(l:List (K×V)):List (K×V):=l.filter fun x=>decide (¬x.1=k)
theorem getM_none{V:Type}{k:K}:∀{l:List (K×V)},getM k l=none↔∀x∈l,¬x.1=k
 |[]=>by simp[getM]
 |(a,v)::l=>by
  rw[getM]
  by_cases h:k=a
  ·rw[if_pos h];simp[h]
  ·rw[if_neg h,getM_none];simp only[bt,Ji];exact⟨fun h1=>⟨fun h2=>h h2.symm,h1⟩,fun h1=>h1.2⟩
include he
theorem zS{V:Type}(ev:V->AV)(k:K):∀l:List (K×V),eD E (e k) (l.map fun x=>(e x.1,ev x.2))=some ((getM k l).map ev)
 |[]=>rfl
 |(a,v)::l=>by
  simp only[b9,eD,he,getM]
  by_cases h:k=a
  ·simp[h]
  ·simp only[h,mE,c9];exact zS ev k l
theorem Es{V:Type}(ev:V->AV){k:K}(v:V):∀{l:List (K×V)},getM k l=none->h_ E (e k) (ev v) (l.map fun x=>(e x.1,ev x.2))=some ((l++[(k,v)]).map fun x=>(e x.1,ev x.2))
 |[],_=>rfl
 |(a,u)::l,h=>by
  rw[getM]at h
  by_cases h2:k=a
  ·rw[if_pos h2]at h;cases h
  ·rw[if_neg h2]at h;simp only[b9,h_,he,h2,mE,Es ev v h,dt,eP]
theorem Le{V:Type}(ev:V->AV)(k:K):∀{l:List (K×V)},(l.map (·.1)).Nodup->ma E (e k) (l.map fun x=>(e x.1,ev x.2))=some ((nT k l).map fun x=>(e x.1,ev x.2))
 |[],_=>rfl
 |(a,u)::l,h=>by
  simp only[b9,k7]at h
  by_cases h2:k=a
  ·subst h2
   have h3:nT k l=l:=by
    unfold nT;rw[xY];intro x hx
    refine oo fun hn=>h.1 ?_
    rw[<-hn];exact qW hx
   have h4:nT k ((k,u)::l)=l:=by rw[<-h3];simp[nT]
   simp only[b9,ma,he,decide_true,h4]
  ·have h4:nT k ((a,u)::l)=(a,u)::nT k l:=by
    unfold nT;rw[xZ,if_pos (by simpa using fun h=>h2 h.symm)]
   simp only[b9,ma,he,h2,mE,Le ev k h.2,dt,h4]
end
end Go.Proofs.YtihmomicdpkabaaGreatDoor
namespace Go.Proofs.YtihmomicdpkabaaGreatDoor
open Go.AM Go.Proofs
variable{Γ:Nat->Option AV}
def bZ(c:Ct):List (Bs×Nat):=c.af.zipIdx.map fun x=>(x.1.name,x.2)
abbrev gT(x:Bs×Nat):AV×AV:=(.str x.1,.int .i64 x.2)
theorem nG(m:Nat):∀l:List (Bs×Nat),fT m (l.map gT)=true
 |[]=>rfl
 |x::l=>by simp[nG m l]
theorem tZ(c:Ct):(bZ c).length=c.af.length:=by simp[bZ]
theorem wM(c:Ct)(i:Nat)(h:i<c.af.length):(bZ c)[i]'(by rw[tZ];exact h)=(c.af[i].name,i):=by simp[bZ]
theorem Z6(c:Ct):(bZ c).map (·.1)=c.af.map (·.name):=by
 apply List.ext_getElem
 ·simp[bZ]
 ·intro i h1 h2;simp[bZ]
theorem X7{c:Ct}(hd:(c.af.map (·.name)).Nodup){i:Nat}(h:i<c.af.length):getM c.af[i].name ((bZ c).take i)=none:=by
 rw[getM_none];intro x hx hn;obtain⟨j,hj,rfl⟩:=k8 hx
 have hj':j<i:=by simp at hj;omega
 rw[qQ,wM c j (by omega)]at hn
 have h1:(c.af.map (·.name))[j]'(by simp;omega)=(c.af.map (·.name))[i]'(by simp;omega):=by simpa using hn
 have:=(C8 hd).1 h1;omega
set_option maxRecDepth 8000 in
theorem MD(c:Ct)(hc:cj c)(hd:(c.af.map (·.name)).Nodup){h:List Ob}(hw:cO h)(up:List Fr):
 AM.Reach Tryz.prog Γ (.cl s9 [bX c] up h) (.back up (.mp (h.length+1)) (h++[.cells (AV.cells (bX c)),.map ((bZ c).map gT) true])):=by
 have hG:=c.hG;have hb:=hw (h.length+2) (by omega)
 have key:∀n i:Nat,i+n=c.af.length->AM.Reach Tryz.prog Γ (yoc (.mp (h.length+1)) (.list false c.kG (c.af.map dg)) (.int .i64 c.af.length) (.int .i64 i) (h++[.cells (AV.cells (bX c)),.map (((bZ c).take i).map gT) true]) ⟨[],.norm,h.length,up⟩)
  (.back up (.mp (h.length+1)) (h++[.cells (AV.cells (bX c)),.map ((bZ c).map gT) true])):=by
  intro n
  induction n with
  |zero=>
   intro i hi
   have q1:¬i<c.af.length:=by omega
   rw[cS (by rw[tZ];omega)];refine .bf 60 ?_;simp[q1]
  |succ n ih=>
   intro i hi
   have q1:i<c.af.length:=by omega
   have q2:=cv (hG.of q1);have hh:=ih (i+1) (by omega)
   have q3:i<(bZ c).length:=by rw[tZ];exact q1
   have e1:(bZ c).take (i+1)=(bZ c).take i++[(c.af[i].name,i)]:=by rw[k5 q3,wM c i q1]
   rw[e1]at hh;have hput:=Es (E:=.sc .str) (e:=AV.str) qf (fun n:Nat=>AV.int .i64 n) i (X7 hd q1);have hbp:=nG (h.length+2) ((bZ c).take i++[(c.af[i].name,i)])
   have hi2:i<2^10:=by have:=hc.2.2.2.1;omega
   generalize(bZ c).take i=P at*;refine .bf 60 ?_;simp(disch:=omega) [q1,q2,isKey,cf,cP,hput];refine .aL ?_;simp;refine .mT (h.length+2) (by simp;rfl) (by simp) (by simp) (by simp[hb]at hbp⊢;exact hbp) ?_;simp at hh⊢;exact hh
 refine .bF 60 UW ?_;simp;refine .inLoop ?_;have hh:=key c.af.length 0 (by omega);simp at hh⊢;exact hh
abbrev gL(c:Ct):AV:=.list false c.kG (c.af.map dg)
abbrev tR(p:Nat)(x2 x3 a b c d e f g h i w:AV):List AV:=[U,.ptr p 0,x2,x3,w,U,U,U,U,U,U,U,U,a,b,c,d,e,f,g,h,i]++List.replicate 58 U
abbrev hW(c:Ct)(n:Nat):List Ob:=[.cells [.sl (n+1) 0 c.af.length,.sl (n+2) 0 c.af.length],.row 1 jL (List.replicate c.af.length .c_) none true false,.row 1 iT (List.replicate c.af.length (.list true 0 [])) none true false]
abbrev od:=List Nat×List Nat
abbrev Hs:List (List Nat):=[[],[0],[1],[2,2],[],[4],[5],[6,6],[3,7],[],[9,8,0,1,2,3,4,5,6,7,8,9]]
abbrev PK(x:od):List Nat:=(List.range 11).filter (ku Hs x.1)
def GF(i:Nat):List Nat->List Nat
 |[]=>[i]
 |a::l=>if i<a then i::a::l else a::GF i l
def nc(i:Nat)(x:od):od:=(GF i x.1,if i==3||i==7||i==9 then x.2++[i]else x.2)
def mz(y:Nat):List Nat->Nat
 |[]=>0
 |a::l=>if a==y then 0 else(if a==9 then 3 else 1)+mz y l
abbrev sG(c:Ct)(H:List Ob)(j:Nat):AV:=.sl (H.length+j) 0 c.af.length
def yW(c:Ct)(p:Nat)(H:List Ob)(x:od):Nat->AV
 |0=>.ptr p 3|4=>.ptr p 3|1=>gL c|5=>gL c|2=>.int .i64 c.af.length|6=>.int .i64 c.af.length
 |3=>sG c H (mz 3 x.2)|7=>sG c H (mz 7 x.2)|8=>.agg [sG c H (mz 3 x.2),sG c H (mz 7 x.2)]|9=>.ptr (H.length+mz 9 x.2) 0|_=>.aH []
def zW(c:Ct)(p:Nat)(H:List Ob)(x:od)(i:Nat):AV:=if x.1.contains i then yW c p H x i else U
def tW(c:Ct)(p:Nat)(x2 x3:AV)(H:List Ob)(x:od):List AV:=tR p x2 x3 (zW c p H x 0) (zW c p H x 1) (zW c p H x 2) (zW c p H x 3) (zW c p H x 4) (zW c p H x 5) (zW c p H x 6) (zW c p H x 7) (zW c p H x 8) (zW c p H x 9)
def Hy(c:Ct)(H:List Ob)(x:od)(i:Nat):List Ob:=
 if i==3 then[.row 1 jL (List.replicate c.af.length .c_) none true false]else if i==7 then[.row 1 iT (List.replicate c.af.length (.list true 0 [])) none true false]
 else[.cells (if x.1.contains 10 then[sG c H (mz 3 x.2),sG c H (mz 7 x.2)]else[.sl (H.length+(mz 9 x.2+1)) 0 0,.sl (H.length+(mz 9 x.2+2)) 0 0]),.row 1 jL [] none true false,.row 1 iT [] none true false]
def qE(c:Ct)(H:List Ob)(x:od):List Ob:=H++x.2.flatMap (Hy c H x)
abbrev uL:List od:=[([],[]),([0],[]),([4],[]),([9],[9]),([0,1],[]),([0,4],[]),([0,9],[9]),([4,5],[]),([4,9],[9]),([0,1,2],[]),([0,1,4],[]),([0,1,9],[9]),([0,4,5],[]),([0,4,9],[9]),([4,5,6],[]),([4,5,9],[9]),([0,1,2,3],[3]),([0,1,2,4],[]),([0,1,2,9],[9]),([0,1,4,5],[]),([0,1,4,9],[9]),([0,4,5,6],[]),([0,4,5,9],[9]),([4,5,6,7],[7]),([4,5,6,9],[9]),([0,1,2,3,4],[3]),([0,1,2,3,9],[3,9]),([0,1,2,3,9],[9,3]),([0,1,2,4,5],[]),([0,1,2,4,9],[9]),([0,1,4,5,6],[]),([0,1,4,5,9],[9]),([0,4,5,6,7],[7]),([0,4,5,6,9],[9]),([4,5,6,7,9],[7,9]),([4,5,6,7,9],[9,7]),([0,1,2,3,4,5],[3]),([0,1,2,3,4,9],[3,9]),([0,1,2,3,4,9],[9,3]),([0,1,2,4,5,6],[]),([0,1,2,4,5,9],[9]),([0,1,4,5,6,7],[7]),([0,1,4,5,6,9],[9]),([0,4,5,6,7,9],[7,9]),([0,4,5,6,7,9],[9,7]),([0,1,2,3,4,5,6],[3]),([0,1,2,3,4,5,9],[3,9]),([0,1,2,3,4,5,9],[9,3]),([0,1,2,4,5,6,7],[7]),([0,1,2,4,5,6,9],[9]),([0,1,4,5,6,7,9],[7,9]),([0,1,4,5,6,7,9],[9,7]),([0,1,2,3,4,5,6,7],[3,7]),([0,1,2,3,4,5,6,7],[7,3]),([0,1,2,3,4,5,6,9],[3,9]),([0,1,2,3,4,5,6,9],[9,3]),([0,1,2,4,5,6,7,9],[7,9]),([0,1,2,4,5,6,7,9],[9,7]),([0,1,2,3,4,5,6,7,8],[3,7]),([0,1,2,3,4,5,6,7,8],[7,3]),([0,1,2,3,4,5,6,7,9],[3,7,9]),([0,1,2,3,4,5,6,7,9],[3,9,7]),([0,1,2,3,4,5,6,7,9],[7,3,9]),([0,1,2,3,4,5,6,7,9],[7,9,3]),([0,1,2,3,4,5,6,7,9],[9,3,7]),([0,1,2,3,4,5,6,7,9],[9,7,3]),([0,1,2,3,4,5,6,7,8,9],[3,7,9]),([0,1,2,3,4,5,6,7,8,9],[3,9,7]),([0,1,2,3,4,5,6,7,8,9],[7,3,9]),([0,1,2,3,4,5,6,7,8,9],[7,9,3]),([0,1,2,3,4,5,6,7,8,9],[9,3,7]),([0,1,2,3,4,5,6,7,8,9],[9,7,3]),([0,1,2,3,4,5,6,7,8,9,10],[3,7,9]),([0,1,2,3,4,5,6,7,8,9,10],[3,9,7]),([0,1,2,3,4,5,6,7,8,9,10],[7,3,9]),([0,1,2,3,4,5,6,7,8,9,10],[7,9,3]),([0,1,2,3,4,5,6,7,8,9,10],[9,3,7]),([0,1,2,3,4,5,6,7,8,9,10],[9,7,3])]
section
variable{c:Ct}{p:Nat}{x2 x3:AV}{H:List Ob}{up:List Fr}{base:Nat}{k:List It}{C:AM.aq}
abbrev AW(Γ:Nat->Option AV)(c:Ct)(p:Nat)(x2 x3:AV)(k:List It)(base:Nat)(up:List Fr)(C:AM.aq)(H:List Ob)(x:od):Prop:=lD Tryz.prog Γ Hs Cn mI k [] .norm base up C x.1 (11-x.1.length) (tW c p x2 x3 H x) (qE c H x)
theorem aaP:(uL.all fun x=>(decide (x.1.length<11)||(uL.drop 72).contains x)&&(PK x).all fun i=>(uL.contains (nc i x))&&(i::x.1).isPerm (nc i x).1&&decide ((i::x.1).length=(nc i x).1.length))=true:=by decide+kernel
set_option maxRecDepth 8000 in
theorem aeZ(hc:cj c)(hp:H[p]? =some (.cells (AV.cells (bX c)))):∀x∈uL,∀i∈PK x,∃d op,Cn.getD i default=⟨d,none,op⟩/\
 (aw Tryz.prog Γ (tW c p x2 x3 H x) (qE c H x) op=.val (yW c p H (nc i x) i) (qE c H (nc i x))\/yW c p H (nc i x) i=.aH []/\aw Tryz.prog Γ (tW c p x2 x3 H x) (qE c H x) op=.skip (qE c H (nc i x)))/\
 aY (tW c p x2 x3 H x) d (yW c p H (nc i x) i)=tW c p x2 x3 H (nc i x):=by
 have hG:=hc.2.2.2.1
 have hget:=fun os=>fE hp os
 have b8:((c.af.length:Int)*8<=140737488355328/\(c.af.length:Int)<=140737488355328)=True:=cv (by omega);have b24:((c.af.length:Int)*24<=140737488355328/\(c.af.length:Int)<=140737488355328)=True:=cv (by omega)
 repeat' (first|refine Sx.2 ⟨?_,?_⟩|exact List.forall_mem_nil _)
 all_goals exact ⟨_,_,rfl,by simp[tW,qE,zW,yW,mz,nc,GF,Hy,hp,hget,b8,b24],rfl⟩
set_option maxRecDepth 8000 in
theorem afa(hw:cE H.length H=true)(hb:base<=H.length)(hp:p<H.length)(h2:aG H.length x2=true)(h3:aG H.length x3=true)(hk:fS H.length k=true)
 (hC:AM.Reach Tryz.prog Γ (.fr ⟨.run,mI,.ops []::k,tR p x2 x3 U U U U U U U U U (.ptr H.length 0),[],.norm,base⟩ up (H++hW c H.length)) C):∀x∈uL.drop 72,AW Γ c p x2 x3 k base up C H x:=by
 have hlt:∀j,(H.length+j<H.length)=False:=fun j=>j7 (by omega)
 simp at hC
 repeat' (first|refine Sx.2 ⟨?_,?_⟩|exact List.forall_mem_nil _)
 all_goals
  refine .trans (.m9 [13,14,15,16,17,18,19,20,21] _) ?_;simp[m7,tW,qE,zW,yW,mz,Hy]
  first
  |refine .qB H.length [2,0,1] (by simp[p_ hw,iU h2,iU h3,hk,hb,hp];done) (by decide) ?_
   simp[qe hw,iS h2,iS h3,hp,hlt];exact hC
  |refine .qB H.length [1,0,4] (by simp[p_ hw,iU h2,iU h3,hk,hb,hp];done) (by decide) ?_
   simp[qe hw,iS h2,iS h3,hp,hlt];exact hC
  |refine .qB H.length [2,1,0] (by simp[p_ hw,iU h2,iU h3,hk,hb,hp];done) (by decide) ?_
   simp[qe hw,iS h2,iS h3,hp,hlt];exact hC
  |refine .qB H.length [1,4,0] (by simp[p_ hw,iU h2,iU h3,hk,hb,hp];done) (by decide) ?_
   simp[qe hw,iS h2,iS h3,hp,hlt];exact hC
  |refine .qB H.length [0,3,4] (by simp[p_ hw,iU h2,iU h3,hk,hb,hp];done) (by decide) ?_
   simp[qe hw,iS h2,iS h3,hp,hlt];exact hC
  |refine .qB H.length [0,4,3] (by simp[p_ hw,iU h2,iU h3,hk,hb,hp];done) (by decide) ?_
   simp[qe hw,iS h2,iS h3,hp,hlt];exact hC
set_option maxRecDepth 8000 in
theorem acF(hc:cj c)(hp:H[p]? =some (.cells (AV.cells (bX c))))(hw:cE H.length H=true)(hb:base<=H.length)(h2:aG H.length x2=true)(h3:aG H.length x3=true)(hk:fS H.length k=true)
 (hC:AM.Reach Tryz.prog Γ (.fr ⟨.run,mI,.ops []::k,tR p x2 x3 U U U U U U U U U (.ptr H.length 0),[],.norm,base⟩ up (H++hW c H.length)) C):
 AM.Reach Tryz.prog Γ (.fr ⟨.run,mI,.code (.fj Hs Cn)::k,tR p x2 x3 U U U U U U U U U U,[],.norm,base⟩ up H) C:=by
 have ha:=aaP;simp only[dE,av,eY,SE,List.isPerm_iff,a_]at ha
 have key:∀n,∀x∈uL,11-x.1.length=n->AW Γ c p x2 x3 k base up C H x:=by
  intro n
  induction n with
  |zero=>exact fun x hx hn=>afa hw hb (aV hp) h2 h3 hk hC x ((ha x hx).1.resolve_left (by omega))
  |succ n ih=>
   intro x hx hn;rw[AW,hn]
   refine .step fun i hi=>?_
   obtain⟨d,op,e1,e2,e3⟩:=aeZ hc hp x hx i hi;obtain⟨⟨a1,a2⟩,a3⟩:=(ha x hx).2 i hi;refine⟨d,op,_,_,e1,e2,?_⟩;rw[e3]
   have a4:11-(nc i x).1.length=n:=by simp at a3;omega
   have:=ih _ a1 a4;rw[AW,a4]at this;exact this.perm a2.symm
 have h:=key 11 ([],[]) (by decide) rfl;rw[AW,qE,List.flatMap_nil,fZ]at h;exact lD.all h
end
abbrev eK(k:Nat):AV×AV:=(.int .i64 k,.bool true)
def fo(l:List Nat):Ob:=.row 1 an (l.map iN) none true false
def gS(l:List Nat):Ob:=.map (l.map eK) true
def dw(n N m:Nat):List AV:=(List.range m).map (fun i=>AV.mp (n+(3+(N+i))))++List.replicate (N-m) .c_
def fy(n:Nat)(b:List (List Nat)):List AV:=b.mapIdx fun j l=>AV.sl (n+(3+j)) 0 l.length
def hF(n N m:Nat)(b:List (List Nat)):List Ob:=[.cells [.sl (n+1) 0 N,.sl (n+2) 0 N],.row 1 jL (dw n N m) none (decide (m=0)) false,.row 1 iT (fy n b) none (decide (b.length=0)) false]
def hQ(H:List Ob)(nd b:List (List Nat)):List Ob:=H++(hF H.length b.length nd.length b++(b.map fo++nd.map gS))
section
variable{H:List Ob}{nd b:List (List Nat)}
theorem lh:(hQ H nd b).length=H.length+(3+(b.length+nd.length)):=by simp[hQ,hF];omega
theorem Gw{i:Nat}(h:i<H.length):(hQ H nd b)[i]? =H[i]? :=by rw[hQ,cR h]
theorem wW(i:Nat):(hQ H nd b)[H.length+i]? =(hF H.length b.length nd.length b++(b.map fo++nd.map gS))[i]? :=by
 rw[hQ,dF (by omega)];congr 1;omega
theorem GO:(hQ H nd b)[H.length]? =some (.cells [.sl (H.length+1) 0 b.length,.sl (H.length+2) 0 b.length]):=wW 0
theorem GQ:(hQ H nd b)[H.length+1]? =some (.row 1 jL (dw H.length b.length nd.length) none (decide (nd.length=0)) false):=wW 1
theorem PF:(hQ H nd b)[H.length+2]? =some (.row 1 iT (fy H.length b) none (decide (b.length=0)) false):=wW 2
theorem GI{k:Nat}(h:k<b.length):(hQ H nd b)[H.length+(3+k)]? =some (fo b[k]):=by
 rw[wW,dF (by simp[hF]),cR (by simp[hF];omega)];simp[hF,h]
theorem Px{i:Nat}(h:i<nd.length):(hQ H nd b)[H.length+(3+(b.length+i))]? =some (gS nd[i]):=by
 rw[wW,dF (by simp[hF]),dF (by simp[hF])];simp[hF,h]
theorem ET{n N m i:Nat}(h:i<m):(dw n N m)[i]? =some (.mp (n+(3+(N+i)))):=by
 rw[dw,cR (by simpa using h)];simp[h]
theorem Ac{n N m:Nat}(h:m<=N):(dw n N m).length=N:=by simp[dw];omega
theorem p7(n:Nat)(b:List (List Nat)):(fy n b).length=b.length:=by simp[fy]
theorem rL{n k:Nat}(h:k<b.length):(fy n b)[k]? =some (.sl (n+(3+k)) 0 b[k].length):=by simp[fy,h]
theorem acK{n k:Nat}(l:List Nat)(h:k<b.length):(fy n b).set k (.sl (n+(3+k)) 0 l.length)=fy n (b.set k l):=by
 apply ji;intro j
 by_cases hj:k=j
 ·subst hj;rw[er (by rw[p7];exact h),rL (by simpa using h)];simp
 ·rw[dB hj]
  by_cases hjb:j<b.length
  ·rw[rL hjb,rL (by simpa using hjb),Jj hj]
  ·rw[jJ (by rw[p7];omega),jJ (by rw[p7];simp;omega)]
theorem Oe{i:Nat}(l:List Nat)(h:i<nd.length):(hQ H nd b).set (H.length+(3+(b.length+i))) (gS l)=hQ H (nd.set i l) b:=by
 have e:H.length+(3+(b.length+i))=H.length+((hF H.length b.length nd.length b).length+((b.map fo).length+i)):=by simp[hF]
 have ap:∀(a c:List Ob)(j:Nat)(o:Ob),(a++c).set (a.length+j) o=a++c.set j o:=fun a c j o=>by
  rw[vo _ _ (by omega)];congr 2;omega
 rw[hQ,e,ap,ap,ap,hQ,jg,<-pL]
theorem A9(a c:List Ob)(j:Nat)(o:Ob):(a++c).set (a.length+j) o=a++c.set j o:=by rw[vo _ _ (by omega)];congr 2;omega
theorem acL{k:Nat}(l:List Nat)(h:k<b.length):((hQ H nd b).set (H.length+(3+k)) (fo l)).set (H.length+2) (.row 1 iT (fy H.length (b.set k l)) none (decide (b.length=0)) false)=hQ H nd (b.set k l):=by
 have e:H.length+(3+k)=H.length+((hF H.length b.length nd.length b).length+k):=by simp[hF]
 have ap:∀(a c:List Ob)(j:Nat)(o:Ob),(a++c).set (a.length+j) o=a++c.set j o:=fun a c j o=>by
  rw[vo _ _ (by omega)];congr 2;omega
 rw[hQ,e,ap,ap,ap,hQ,jg,show((b.map fo++nd.map gS).set k (fo l))=(b.map fo).set k (fo l)++nd.map gS from j8 _ _ (by simpa using h),<-pL];simp[hF]
theorem N0{n m:Nat}(b:List (List Nat))(h:n+(3+b.length)<=m):aK m (fy n b)=true:=by
 have:∀(l:List (List Nat))(q:Nat),q+(3+l.length)<=m->aK m (l.mapIdx fun j x=>AV.sl (q+(3+j)) 0 x.length)=true:=by
  intro l
  induction l with
  |nil=>intro q _;rfl
  |cons a l ih=>
   intro q hq;simp only[bP]at hq;have h2:=ih (q+1) (by omega)
   have e:(fun(i:Nat) (x:List Nat)=>AV.sl (q+(3+(i+1))) 0 x.length)=fun j x=>AV.sl (q+1+(3+j)) 0 x.length:=by
    funext j x;congr 1;omega
   rw[List.mapIdx_cons,e]
   simp only[aK,h2,aG,og,a_];omega
 exact this b n h
theorem EA{n N m q:Nat}(h:n+(3+(N+m))<=q):aK q (dw n N m)=true:=by
 have h1:∀l:List Nat,(∀i∈l,i<m)->aK q (l.map fun i=>AV.mp (n+(3+(N+i))))=true:=by
  intro l
  induction l with
  |nil=>intro _;rfl
  |cons a l ih=>
   intro hl;have:=hl a (by simp)
   simp only[b9,aK,aG,ih fun i hi=>hl i (by simp[hi]),og,a_];omega
 have h2:∀k,aK q (List.replicate k AV.c_)=true:=by
  intro k
  induction k with
  |zero=>rfl
  |succ k ih=>simp[kV,ih]
 rw[dw,DJ,h1 _ (fun i hi=>by simpa using hi),h2];rfl
theorem Fk(m:Nat):∀b:List (List Nat),cE m (b.map fo)=true
 |[]=>rfl
 |l::b=>by simp[fo,Fk m b]
theorem Oy(m:Nat):∀l:List Nat,fT m (l.map eK)=true
 |[]=>rfl
 |l::b=>by simp[Oy m b]
theorem Fq(m:Nat):∀b:List (List Nat),cE m (b.map gS)=true
 |[]=>rfl
 |l::b=>by
  have:=Oy m l;simp only[b9,cE,gS,gA,this,sM];exact Fq m b
theorem aeA(hw:cO H):cO (hQ H nd b):=fun m hm=>by
 rw[lh]at hm;have h1:=hw m (by omega);have h2:=N0 (n:=H.length) (m:=m) b (by omega);have h3:=EA (n:=H.length) (N:=b.length) (m:=nd.length) (q:=m) (by omega);rw[hQ,oB,oB,oB,h1,Fk,Fq];simp[hF,h2,h3];omega
theorem FN{n i m:Nat}(b:List (List Nat))(h:∀j(hj:j<b.length),n+(3+j)=i->b[j].length=m):cY i m (fy n b)=true:=by
 have:∀l:List AV,(∀a∈l,iJ i m a=true)->cY i m l=true:=by
  intro l
  induction l with
  |nil=>intro _;rfl
  |cons a l ih=>intro hl;simp only[cY,hl a (by simp),ih fun x hx=>hl x (by simp[hx]),mD]
 refine this _ fun a ha=>?_
 obtain⟨j,hj,rfl⟩:=k8 ha;rw[p7]at hj
 have e:(fy n b)[j]'(by rw[p7];exact hj)=.sl (n+(3+j)) 0 b[j].length:=by
  have:=rL (n:=n) hj;exact(dD.1 this).2
 rw[e];simp only[iJ,eY,jl,vm,iM,lK]
 by_cases hi:n+(3+j)=i
 ·exact .inr (h j hj hi)
 ·exact .inl hi
theorem EH{n N m i q:Nat}:cY i q (dw n N m)=true:=by
 have:∀l:List AV,(∀a∈l,iJ i q a=true)->cY i q l=true:=by
  intro l
  induction l with
  |nil=>intro _;rfl
  |cons a l ih=>intro hl;simp only[cY,hl a (by simp),ih fun x hx=>hl x (by simp[hx]),mD]
 refine this _ fun a ha=>?_
 simp only[dw,bl,cC,eu,SI]at ha
 rcases ha with⟨j,_,rfl⟩|⟨_,rfl⟩<;>rfl
theorem AD(i m:Nat):∀b:List (List Nat),cH i m (b.map fo)=true
 |[]=>rfl
 |l::b=>by simp[fo,AD i m b]
theorem OI(i m:Nat):∀l:List Nat,m6 i m (l.map eK)=true
 |[]=>rfl
 |l::b=>by simp[OI i m b]
theorem Al(i m:Nat):∀b:List (List Nat),cH i m (b.map gS)=true
 |[]=>rfl
 |l::b=>by
  have:=OI i m l;simp only[b9,cH,gS,lB,this,sM];exact Al i m b
theorem iP(i m:Nat):∀a b:List Ob,cH i m (a++b)=(cH i m a&&cH i m b)
 |[],b=>rfl
 |o::a,b=>by simp[cH,iP i m a b,nr]
theorem adZ(hv:fX H){k:Nat}(h:k<b.length):cH (H.length+(3+k)) b[k].length (hQ H nd b)=true:=by
 have h1:=hv (H.length+(3+k)) b[k].length (by omega)
 have h2:cY (H.length+(3+k)) b[k].length (fy H.length b)=true:=FN b fun j hj he=>by
  obtain rfl:j=k:=by omega
  rfl
 have h3:=EH (n:=H.length) (N:=b.length) (m:=nd.length) (i:=H.length+(3+k)) (q:=b[k].length);rw[hQ,iP,iP,iP,h1,AD,Al];simp[hF,h2,h3];omega
end
def lA(n N j:Nat):List AV:=(List.range j).map (fun i=>AV.sl (n+(3+i)) 0 0)++List.replicate (N-j) (.list true 0 [])
def jv(H:List Ob)(N j:Nat):List Ob:=H++([.cells [.sl (H.length+1) 0 N,.sl (H.length+2) 0 N],.row 1 jL (dw H.length N 0) none true false,.row 1 iT (lA H.length N j) none (decide (j=0)) false]++List.replicate j (fo []))
theorem Zd(H:List Ob)(N j:Nat):(jv H N j).length=H.length+(3+j):=by simp[jv];omega
theorem adX(H:List Ob)(N:Nat)(f:Fr)(up:List Fr):∀m j:Nat,j+m=N->AM.Reach Tryz.prog Γ (.fr f up (jv H N j)) (.fr f up (jv H N N)):=by
 intro m
 induction m with
 |zero=>
  intro j hj
  obtain rfl:j=N:=by omega
  exact .refl _
 |succ m ih=>
  intro j hj;have hlen:=Zd H N j
  have hi:(jv H N j)[H.length+2]? =some (.row 1 iT (lA H.length N j) none (decide (j=0)) false):=by
   rw[jv,dF (by omega),show H.length+2-H.length=2 by omega];rfl
  have hj2:(lA H.length N j)[j]? =some (.list true 0 []):=by
   rw[lA,dF (by simp),il,xT,C2,show N-j=(N-(j+1))+1 by omega,kV];rfl
  have hst:=AM.Reach.AN (P:=Tryz.prog) (Γ:=Γ) (f:=f) (up:=up) (k:=1) an hi hj2 (by omega);refine .trans hst ?_
  have e:((jv H N j++[Ob.row 1 an [] none true false]).set (H.length+2) (.row 1 iT ((lA H.length N j).set j (.sl (jv H N j).length 0 0)) none false false))=jv H N (j+1):=by
   have e1:(lA H.length N j).set j (.sl (jv H N j).length 0 0)=lA H.length N (j+1):=by
    rw[hlen,lA,vo _ _ (by simp)]
    have e2:List.replicate (N-j) (AV.list true 0 [])=.list true 0 []::List.replicate (N-(j+1)) (.list true 0 []):=by
     rw[show N-j=(N-(j+1))+1 by omega,kV]
    rw[e2];simp[lA,List.range_succ]
   rw[e1,jv,jv,eQ,A9];have e3:List.replicate (j+1) (fo [])=List.replicate j (fo [])++[fo []]:=List.replicate_succ';rw[e3];simp[fo]
  rw[e];exact ih (j+1) (by omega)
theorem XQ(c:Ct)(H:List Ob):jv H c.af.length 0=H++hW c H.length:=by simp[jv,hW,dw,lA]
theorem Y0(H:List Ob)(N:Nat):jv H N N=hQ H [] (List.replicate N []):=by
 have e:lA H.length N N=fy H.length (List.replicate N []):=by
  apply ji;intro j
  by_cases hj:j<N
  ·rw[rL (by simpa using hj)];simp[lA,hj]
  ·rw[jJ (by simp[lA];omega),jJ (by rw[p7];simp;omega)]
 simp[jv,hQ,hF,e]
theorem Mj(k:Nat):∀l:List Nat,eD (.sc .int) (.int .i64 k) (l.map eK)=some (if k∈l then some (.bool true)else none)
 |[]=>rfl
 |a::l=>by
  simp only[b9,eD,A']
  by_cases h:k=a
  ·simp[h]
  ·simp[h,Mj k l]
theorem NA{k:Nat}:∀{l:List Nat},k∉l->h_ (.sc .int) (.int .i64 k) (.bool true) (l.map eK)=some ((l++[k]).map eK)
 |[],_=>rfl
 |a::l,h=>by
  simp only[bt,not_or]at h;simp only[b9,h_,A',h.1,mE,NA h.2,dt,eP]
theorem adU{c:Ct}{s:Bs}{k:Nat}(h:getM s (bZ c)=some k):k<c.af.length:=by
 have:∀l:List (Bs×Nat),getM s l=some k->∃x∈l,x.2=k:=by
  intro l
  induction l with
  |nil=>intro h;cases h
  |cons x l ih=>
   obtain⟨a,v⟩:=x;intro h;rw[getM]at h
   split at h
   ·exact⟨(a,v),by simp,Option.some.inj h⟩
   ·obtain⟨x,h1,h2⟩:=ih h;exact⟨x,by simp[h1],h2⟩
 obtain⟨x,h1,rfl⟩:=this _ h;obtain⟨j,hj,rfl⟩:=k8 h1;rw[tZ]at hj
 rw[wM c j hj];exact hj
def eJ(pl:List (Bs×Nat)):List Bs->List Nat->List Nat
 |[],a=>a
 |s::r,a=>match getM s pl with
  |none=>eJ pl r a
  |some k=>eJ pl r (if k∈a then a else a++[k])
def je(pl:List (Bs×Nat))(i:Nat):List Bs->List Nat->List (List Nat)->List (List Nat)
 |[],_,b=>b
 |s::r,a,b=>match getM s pl with
  |none=>je pl i r a b
  |some k=>je pl i r (if k∈a then a else a++[k]) (if k∈a then b else b.set k (b.getD k []++[i]))
theorem Z'{A:List Ob}{r s:Nat}(h:s≠r)(o o1 o2:Ob):((A.set r o1).set s o2).set r o=(A.set r o).set s o2:=by
 rw[List.set_comm _ _ h,q_]
theorem adr{h:List Ob}{i:Nat}{o:Ob}(hi:h[i]? =some o):h.set i o=h:=by
 apply ji;intro j
 by_cases hj:i=j
 ·subst hj;rw[er (aV hi),hi]
 ·rw[dB hj]
theorem Ff{i m:Nat}{o:Ob}(ho:lB i m o=true):∀{h:List Ob}(j:Nat),cH i m h=true->cH i m (h.set j o)=true
 |[],_,h1=>h1
 |o'::h,0,h1=>by
  simp only[cH,av,u0]at h1⊢;exact⟨ho,h1.2⟩
 |o'::h,j+1,h1=>by
  simp only[cH,av,pF]at h1⊢;exact⟨h1.1,Ff ho j h1.2⟩
set_option maxRecDepth 8000 in
theorem acr(c:Ct)(hc:cj c){H:List Ob}(hw:cO H)(hv:fX H){m0:Nat}(hm:H[m0]? =some (.map ((bZ c).map gT) true))(nd:List (List Nat))(i:Nat)(hi:i<c.af.length)(hnd:nd.length=i)(up:List Fr)(base:Nat)(hbase:base<=H.length)(p2:Nat):∀n q:Nat,q+n=c.af[i].ins.length->∀(cur:List Nat)(b:List (List Nat)),b.length=c.af.length->(∀l∈b,l.length<=2^20+i*2^10+q)->
 AM.Reach Tryz.prog Γ (yvc (.ptr p2 0) (.mp m0) (.ptr H.length 0) (.int .i64 i) (.list false c.kG (c.af.map dg)) (.int .i64 c.af.length) (.int .i64 i) (.list false c.af[i].ki (c.af[i].ins.map .str)) (.int .i64 c.af[i].ins.length) (.int .i64 q) (hQ H (nd++[cur]) b) ⟨[],.norm,base,up⟩)
  (yvd (.ptr p2 0) (.mp m0) (.ptr H.length 0) (.list false c.kG (c.af.map dg)) (.int .i64 c.af.length) (.int .i64 i) (hQ H (nd++[eJ (bZ c) (c.af[i].ins.drop q) cur]) (je (bZ c) i (c.af[i].ins.drop q) cur b)) ⟨[],.norm,base,up⟩):=by
 have hiB:i<2^10:=by have:=hc.2.2.2.1;omega
 have hqB:c.af[i].ins.length<2^10:=(hc.2.2.2.2.1 _ (bC hi)).2.1;intro n
 induction n with
 |zero=>
  intro q hq cur b hb hbl
  have q1:¬q<c.af[i].ins.length:=by omega
  rw[bw (by omega),eJ,je];refine .dN 60 ?_;simp[q1];exact .exit rfl rfl
 |succ n ih=>
  intro q hqn cur b hb hbl
  have hq:q<c.af[i].ins.length:=by omega
  have q2:=cv (c.af[i].hi.of hq)
  have hget:(hQ H (nd++[cur]) b)[m0]? =some (.map ((bZ c).map gT) true):=by rw[Gw (aV hm)];exact hm
  have hfi:=zS (E:=.sc .str) (e:=AV.str) qf (fun n:Nat=>AV.int .i64 n) c.af[i].ins[q] (bZ c);rw[bM hq,eJ,je]
  cases hk:getM c.af[i].ins[q] (bZ c)with
  |none=>
   rw[hk]at hfi;have hh:=ih (q+1) (by omega) cur b hb (fun l hl=>by have:=hbl l hl;omega);refine .dN 60 ?_;simp(disch:=omega) [hq,q2,hget,hfi,isKey,cf,cP];refine .aL ?_;simp at hh⊢;exact hh
  |some k=>
   rw[hk]at hfi;have hkl:=adU hk
   have hkb:k<b.length:=by omega
   have xw:=GO (H:=H) (nd:=nd++[cur]) (b:=b);have xn:=GQ (H:=H) (nd:=nd++[cur]) (b:=b)
   have hii:i<(nd++[cur]).length:=by simp;omega
   have xm:=Px (H:=H) (b:=b) hii
   have ecur:(nd++[cur])[i]=cur:=by rw[C1 (by omega)];simp[hnd]
   have yn:=ET (n:=H.length) (N:=b.length) hii
   have hm1:(nd++[cur]).length=nd.length+1:=by simp
   have yl:=Ac (n:=H.length) (N:=b.length) (m:=nd.length+1) (by omega);have yt:List.take b.length (dw H.length b.length (nd.length+1))=dw H.length b.length (nd.length+1):=cS (by rw[yl];exact aU _);have fc:=Mj k cur;rw[ecur]at xm;rw[hm1]at yn xn;rw[hb]at xm yn xw xn yl yt;obtain⟨_,yn'⟩:=dD.1 yn
   by_cases hkc:k∈cur
   ·rw[if_pos hkc]at fc;have hh:=ih (q+1) (by omega) cur b hb (fun l hl=>by have:=hbl l hl;omega);simp only[if_pos hkc];generalize hQ H (nd++[cur]) b=X at*;refine .dN 60 ?_;simp(disch:=omega) [hq,q2,hget,hfi,isKey,cf,cP,xw,xn,xm,yn,yl,yt,yn',hi,gS,fc];refine .aL ?_;simp at hh⊢;exact hh
   ·rw[if_neg hkc]at fc;have pc:=NA hkc;have xb:=PF (H:=H) (nd:=nd++[cur]) (b:=b);have xr:=GI (H:=H) (nd:=nd++[cur]) hkb;have yb:=rL (n:=H.length) hkb
    have hh:=ih (q+1) (by omega) (cur++[k]) (b.set k (b.getD k []++[i])) (by simpa using hb) (fun l hl=>by
     rcases oh hl with h1|h1
     ·have:=hbl l h1;omega
     ·have egd:b.getD k []=b[k]:=by rw[bo,bg hkb];rfl
      have:=hbl _ (bC hkb)
      rw[h1,egd,bR,sJ];omega)
    simp only[if_neg hkc]
    have fin:((((hQ H (nd++[cur]) b).set (H.length+(3+(c.af.length+i))) (.map (List.map eK cur++[eK k]) true)).set (H.length+(3+k)) (.row 1 an (List.map iN b[k]++[.int .i64 i]) (some 0) true false)).set (H.length+2) (.row 1 iT ((fy H.length b).set k (.sl (H.length+(3+k)) 0 (b[k].length+1))) none false false))=
     (hQ H (nd++[cur++[k]]) (b.set k (b[k]++[i]))).set (H.length+(3+k)) (.row 1 an (List.map iN b[k]++[.int .i64 i]) (some 0) true false):=by
     have f1:=Oe (H:=H) (b:=b) (cur++[k]) hii;have f2:=acL (H:=H) (nd:=nd++[cur++[k]]) (b[k]++[i]) hkb;have f3:=acK (n:=H.length) (b[k]++[i]) hkb
     have f4:(nd++[cur]).set i (cur++[k])=nd++[cur++[k]]:=by rw[vo _ _ (by omega)];simp[hnd]
     have f5:gS (cur++[k])=.map (List.map eK cur++[eK k]) true:=by simp[gS]
     have f6:decide (b.length=0)=false:=vp (by omega)
     have f7:(b[k]++[i]).length=b[k].length+1:=by simp
     rw[f4,f5,hb]at f1;rw[f6]at f2;rw[f7]at f3;rw[f1,f3,<-f2,Z' (by omega)]
    have vfin:=adZ (H:=H) (nd:=nd++[cur++[k]]) (b:=b.set k (b[k]++[i])) hv (k:=k) (by simpa using hkb);have zget:=GI (H:=H) (nd:=nd++[cur++[k]]) (b:=b.set k (b[k]++[i])) (k:=k) (by simpa using hkb);have zlen:=lh (H:=H) (nd:=nd++[cur++[k]]) (b:=b.set k (b[k]++[i]));rw[List.getElem_set_self]at vfin zget;have zl:=p7 H.length b;have zt:List.take b.length (fy H.length b)=fy H.length b:=cS (by rw[zl];exact aU _);rw[hb]at xb zl zt;obtain⟨_,yb'⟩:=dD.1 yb;generalize hQ H (nd++[cur]) b=X at*;clear zlen;refine .dN 60 ?_;simp(disch:=omega) [hq,q2,hget,hfi,isKey,cf,cP,xw,xn,xm,yn,yl,yt,yn',hi,gS,fc,pc];refine .drS 60 ?_
    have d1:¬c.af.length+i=k:=by omega
    have b8:(b[k].length+1)*8<=140737488355328:=by have:=hbl _ (bC hkb);omega
    simp(disch:=omega) [xw,xb,xr,yb,yb',zl,zt,fo,d1,b8];rw[fin];have zlen:=lh (H:=H) (nd:=nd++[cur++[k]]) (b:=b.set k (b[k]++[i]))
    have egd:b.getD k []=b[k]:=by rw[bo,bg hkb];rfl
    rw[egd]at hh
    try rw [egd]
    generalize hQ H (nd++[cur++[k]]) (b.set k (b[k]++[i]))=Z at*
    have zlt:H.length+(3+k)<Z.length:=by rw[zlen];simp;omega
    refine .aL ?_;simp
    refine .qb (i:=H.length+(3+k)) (k:=1) (E:=an) (es:=(b[k]++[i]).map iN) (fl:=true) (sh:=false) (by rw[er zlt];simp) (by simp;omega) (by simp) (by
     simp only[il]
     exact Ff (by simp[lB]) _ vfin) ?_
    rw[q_,show Ob.row 1 an ((b[k]++[i]).map iN) none true false=fo (b[k]++[i])from rfl,adr zget];simp at hh⊢;exact hh
theorem fX.set{h:List Ob}(hw:fX h){o:Ob}(hb:∀i m,h.length<=i->lB i m o=true)(j:Nat):fX (h.set j o):=fun i m hi=>by
 rw[jg]at hi;exact Ff (hb i m hi) j (hw i m hi)
abbrev B_(p:Nat×List Fm):AV:=.aH [iN p.1,.list false 3 (p.2.map a8)]
abbrev G8(h:List Ob)(t:Fm)(ks:List Nat):List Ob:=h++[.row 3 aS [] none true false,.cells (a8 t).cells,.row 1 an (ks.map iN) none true false]
def OF(P:Program)(Γ:Nat->Option AV)(ins:List Nat)(ki:Nat)(val:Int->Bool)(f:Nat):Prop:=
 ∀(l:List Fm),l.length<2^40->∀{v:Bool}{l':List Fm},dY ins.length val f l=some (v,l')->∀(x:Gr)(h:List Ob)(i:Nat),h[i]? =some (cz x)->cO h->fX h->x.Ok->(∀a∈ins,a<x.lits)->∀up,
  AM.Reach P Γ (.cl sU [.ptr i 0,.list false 3 (l.map a8),.list false ki (ins.map iN)] up h) (cK B_ i up h (gk ins f x l))
theorem aeJ{h os:List Ob}{a b c:Ob}:(h++a::b::c::os)[h.length+2]? =some c:=by simp
theorem O0{h os:List Ob}{a b c:Ob}{f:Ob->Ob}:(h++a::b::c::os).modify (h.length+2) f=h++a::b::f c::os:=by
 induction h with
 |nil=>rfl
 |cons x h ih=>simpa using ih
set_option maxRecDepth 8000 in
theorem acA(ins:List Nat){ki:Nat}(hli:ins.length<2^40)(val:Int->Bool)(f:Nat)(ih:OF Tryz.prog Γ ins ki val f)(t:Fm)(ht:t.kind=3\/t.kind=4)(ht2:2<=t.kids)(ht3:t.kids<2^40)(i L:Nat)(up:List Fr):
 ∀m j:Nat,j+m=t.kids.toNat->∀(ks:List Nat)(l:List Fm)(x:Gr)(h:List Ob)(v w:Bool)(l':List Fm),ks.length=j->l.length<2^40->ef (dY ins.length val f) (decide (t.kind=3)) m v l=some (w,l')->h.length=L->h[i]? =some (cz x)->cO h->fX h->x.Ok->(∀a∈ins,a<x.lits)->(∀a∈ks,a<x.lits)->
  ∃J,AM.Reach Tryz.prog Γ (ypa (.ptr i 0) (.list false ki (ins.map iN)) (.ptr (L+1) 0) (.list false 3 (l.map a8)) (.sl (L+2) 0 ks.length) (.int .i64 t.kids) (.int .i64 j) (G8 h t ks) ⟨[],.norm,L,up⟩)
   (cK B_ i up (h++J) (eF (gN (gk ins f) m x ks l) (sg t))):=by
 intro m
 induction m with
 |zero=>
  intro j hj ks l x h v w l' hkl hl hr hL hi hw hv ok hlt hks;subst hL
  have q1:¬(j:Int)<t.kids:=by omega
  have hil:=aV hi
  have hget:=fun os=>fE hi os
  have h0:ks≠[]:=by
   intro h0;subst h0
   simp at hkl;omega
  have hW:∀b,cO (h++[.row 3 aS [] none true false,.cells (a8 t).cells,.row 1 an (ks.map iN) none true b]):=fun b m hm=>by
   simp at hm;simp[hw m (by omega)]
  have hset:∀(o:Ob)(os:List Ob),(h++os).set i o=h.set i o++os:=fun o os=>j8 _ _ hil
  refine⟨[.row 3 aS [] none true false,.cells (a8 t).cells,.row 1 an (ks.map iN) none true true],?_⟩;rw[gN,eF,sg];refine .dN 60 ?_;simp[q1];refine .trans (.exit rfl rfl) ?_;refine .trees [10] ?_;simp[O0,iR];have htk:(ks.map iN).take ks.length=ks.map iN:=cS (by simp);obtain⟨kd,lt,kk⟩:=t;simp only at ht ht2 ht3 hj q1 hW⊢
  rcases ht with rfl|rfl
  ·have hA:=OQ (Γ:=Γ) ks h0 (by omega) (fl:=false) (k:=1) .self x (h:=h++[.row 3 aS [] none true false,.cells (a8 ⟨3,lt,kk⟩).cells,.row 1 an (ks.map iN) none true true]) (hget _) (hW true) ok hks;refine .bf 60 ?_;simp[htk];unfold cK at hA⊢;unfold dZ
   cases h9:(fN 0 x ks).2<;>simp only[h9,hset]at hA⊢
   ·refine .jW 60 hA ?_;simp[h9,hset]
   ·refine .bd 60 hA ?_;simp[h9,hset]
  ·have hA:=OO (Γ:=Γ) ks h0 (by omega) (fl:=false) (k:=1) .self x (h:=h++[.row 3 aS [] none true false,.cells (a8 ⟨4,lt,kk⟩).cells,.row 1 an (ks.map iN) none true true]) (hget _) (hW true) ok hks;refine .bf 60 ?_;simp[htk];unfold cK at hA⊢;unfold dZ at hA⊢
   cases h9:(fN 1 x ks).2<;>simp only[h9,hset,sH,dt]at hA⊢
   ·refine .jW 60 hA ?_;simp[h9,hset]
   ·refine .bd 60 hA ?_;simp[h9,hset]
 |succ m ihm=>
  intro j hj ks l x h v w l' hkl hl hr hL hi hw hv ok hlt hks;subst hL
  have q1:(j:Int)<t.kids:=by omega
  have hil:=aV hi
  have hget:=fun os=>fE hi os
  have hset:∀(o:Ob)(os:List Ob),(h++os).set i o=h.set i o++os:=fun o os=>j8 _ _ hil
  rw[ef]at hr
  cases h2:dY ins.length val f l with
  |none=>rw[h2]at hr;cases hr
  |some u=>
   rw[h2]at hr;obtain⟨u1,l1⟩:=u;simp only at hr;have hll:=EV _ _ _ _ _ _ h2
   have hc:=ih l hl h2 x (G8 h t ks) i (hget _) (by
    intro m hm;simp at hm
    simp[hw m (by omega)]) (by
    intro m k hm;simp at hm
    simp[hv m k (by omega)]) ok hlt
   have hf:=oC ins f x l ok hlt;rw[gN]
   cases h9:gk ins f x l with
   |mk y r=>
    rw[h9]at hc hf
    cases r with
    |none=>
     refine⟨[.row 3 aS [] none true false,.cells (a8 t).cells,.row 1 an (ks.map iN) none true false],?_⟩;simp only[cK,eF,hset]at hc⊢;refine .bf 60 ?_;simp[q1];refine .jW 60 hc ?_;simp
    |some p=>
     obtain⟨c,l2⟩:=p;have:=Ea ins _ val f x l y c l2 u1 l1 h9 h2;subst this;have hc2:=hf.2 _ rfl;simp only at hc2
     obtain⟨J,hh⟩:=ihm (j+1) (by omega) (ks++[c]) l2 y (h.set i (cz y)) _ w l' (by simp[hkl]) (by omega) hr (by simp) (by simp[hil]) (hw.set (fun m _=>by simp) i) (hv.set (fun m k _=>by simp) i) hf.1.ok (fun a ha=>gD (hlt a ha) hf.1.lits) (fun a ha=>by
      rcases bl.1 ha with ha|ha
      ·exact gD (hks a ha) hf.1.lits
      ·simp only[dC]at ha;subst ha;exact hc2)
     refine⟨J,?_⟩
     have hs2:∀r:Gr×Option (Nat×List Fm),cK B_ i up (h.set i (cz y)++J) r=cK B_ i up (h++J) r:=fun r=>by
      unfold cK
      have:∀o:Ob,(h.set i (cz y)++J).set i o=(h++J).set i o:=fun o=>by
       rw[j8 _ _ (by simpa using hil),j8 _ _ hil,q_]
      simp only[this]
     rw[hs2]at hh;simp only[cK,eF,hset]at hc;simp only[eF]at hh⊢
     have hvv:=fun m=>(hv.set (o:=cz y) (fun m k _=>by simp) i) (h.length+2) m (by simp)
     have hsl:(h.set i (cz y)).length=h.length:=by simp
     generalize h.set i (cz y)=H at*
     have hk40:(ks.length:Int)+1<=140737488355328:=by omega
     refine .bf 60 ?_;simp[q1];refine .bd 60 hc ?_;simp(disch:=omega) [<-hsl,hk40];refine .aL ?_;simp;refine .qb (i:=H.length+2) aeJ (by simp[hsl]) (by simp) (by simp[hsl,hvv]) ?_;simp[hsl,G8]at hh⊢;exact hh
set_option maxRecDepth 8000 in
theorem No(ins:List Nat){ki:Nat}(hki:Kd 1 ki ins)(hli:ins.length<2^30)(val:Int->Bool):∀f,OF Tryz.prog Γ ins ki val f
 |0,l,_,v,l',h2,_,_,_,_,_,_,_,_,_=>by simp[dY]at h2
 |f+1,[],_,v,l',h2,_,_,_,_,_,_,_,_,_=>by simp[dY]at h2
 |f+1,t::l,hl,v,l',h2,x,h,i,hi,hw,hv,ok,hlt,up=>by
  rw[dY]at h2
  split at h2
  ·rename_i ho;have hil:=aV hi;have hle:=mL ok
   have hget:=fun os=>fE hi os
   have hset:∀os:List Ob,(h++os).set i (cz x)=h++os:=fun os=>wJ (hget os)
   simp at hl;obtain⟨kd,lt,kk⟩:=t;unfold ep at ho;simp only at ho h2
   by_cases k2:kd=2
   ·subst k2;simp at ho;obtain⟨n,rfl⟩:=k6 ho.1
    have q1:n/2<ins.length:=by omega
    have q2:=cv (hki.of q1);have hx:=hlt _ (bC q1);obtain rfl:=ho.2.2;refine rI [.row 3 aS [] none true false,.cells (a8 ⟨2,n,0⟩).cells] hw hil (by simp) ?_;rw[gk];simp only[cq,cK,hset];refine .bF 60 Dj ?_;simp(disch:=omega) [q1,q2]
    have e1:((n:Int)/2).toNat=n/2:=by omega
    have e4:((n:Int)%2).toNat=n%2:=by omega
    have e3:gv .xor .i64 (ins[n/2]:Int) ((n:Int)%2)=some ((ins[n/2]^^^(n%2):Nat):Int):=by
     rw[show(n:Int)%2=((n%2:Nat):Int) by omega];exact F0 (by omega)
    refine .n7 60 ?_
    have e5:ins.getD (n/2) 0=ins[n/2]:=by rw[bo,bg q1];rfl
    simp(disch:=omega) [q1,q2,e1,e3,e4,e5]
   ·rw[if_neg k2]at ho h2
    by_cases k34:kd=3\/kd=4
    ·rw[if_pos k34]at ho;simp at ho;obtain⟨rfl,h2k⟩:=ho
     have hvi:decide (kd=1)=false:=by simp;omega
     have n0:¬kd=0:=by omega
     have n1:¬kd=1:=by omega
     have hwk:=acA (Γ:=Γ) ins (by omega) val f (No ins hki hli val f) ⟨kd,0,kk⟩ k34 h2k (by
      have:=Nb (fun l v l' h=>EV _ val f l v l' h) _ _ _ _ _ h2
      simp only;omega) i h.length up kk.toNat 0 (by simp) [] l x h _ v l' rfl (by omega) h2 rfl hi hw hv ok hlt (fun a ha=>by cases ha)
     obtain⟨J,hJ⟩:=hwk;refine rI J hw hil (by simp) ?_;rw[gk];simp only[if_neg k2,if_neg (show¬(kd=0\/kd=1) by omega)];refine .bF 60 Dj ?_;simp;refine .n7 60 ?_;simp(disch:=omega) [n0,n1,k2];refine .inLoop ?_;simp at hJ⊢;exact hJ
    ·rw[if_neg k34]at ho
     split at ho
     ·rename_i k01;simp at ho;obtain⟨rfl,rfl⟩:=ho;refine rI [.row 3 aS [] none true false,.cells (a8 ⟨kd,0,0⟩).cells] hw hil (by simp) ?_;rw[gk];simp only[if_neg k2,if_pos k01,cK,hset];refine .bF 60 Dj ?_;simp;refine .n7 60 ?_
      rcases k01 with rfl|rfl<;>simp(disch:=omega)<;>exact .refl _
     ·cases ho
  ·cases h2
abbrev Li:Type:=Nat×UInt8
abbrev dK(x:Li):AV:=.agg [.int .i64 x.1,.int .i64 x.2.toNat]
def bn:Bs->Nat->List Li
 |[],_=>[]
 |c::s,i=>if c=45 then bn s (i+1)else(i,c)::bn s (i+1)
def cJ(x:Li)(s:Bs):Bool:=decide (x∈bn s 0)
def dT(x:Li):Fm:=⟨2,if x.2=48 then 2*x.1+1 else 2*x.1,0⟩
theorem Zz(a b:Li):b_ (.iE [.int,.int]) (dK a) (dK b)=some (decide (a=b)):=by
 obtain⟨i,c⟩:=a;obtain⟨j,d⟩:=b;simp only[b_,cf,cP,gn,eI,cq]
 by_cases h1:i=j
 ·subst h1
  by_cases h2:c=d
  ·subst h2;simp
  ·have h3:¬(c.toNat:Int)=d.toNat:=by
    intro h;exact h2 (Je.1 (by omega))
   have h4:((c.toNat:Int)==d.toNat)=false:=vm.2 h3;simp[h2,h4]
 ·have h3:¬(i:Int)=j:=by omega
  have h4:((i:Int)==j)=false:=vm.2 h3;simp[h1,h4]
theorem adi(x:Li)(hx:x.1<2^40):aP Tryz.prog Γ y8 [dK x] (a8 (dT x)):=by
 obtain⟨i,c⟩:=x;simp only at hx;refine .run 60 TO (by simp) ?_;have e:((c.toNat:Int)=48)=(c=48):=propext ⟨fun h=>Je.1 (by rw[show((48:UInt8).toNat)=48 from rfl];omega),fun h=>by rw[h];rfl⟩
 by_cases h:c=48
 ·simp(disch:=omega) [e,h];exact .back (by simp[dT,h])
 ·simp(disch:=omega) [e,h];exact .back (by simp[dT,h])
theorem El(s:Bs){h:List Ob}:∀up,AM.Reach Tryz.prog Γ (.cl s6 [.str s] up h) (.back up (.fn (.func rj) [] [.ptr h.length 0]) (h++[.cells [.str s]])):=by
 intro up;refine .bF 60 UD ?_;simp
abbrev aeH(s:Bs)(i n:Nat)(up:List Fr):List Fr:=⟨.run,ov,[It.jm (n+3),It.inBlock 0 [],It.code ((ah.ae RM).seq ah.ret)],
 [.str s,.ptr i 0,U,.ptr n 0,U,.str s,.fn (.func rj) [] [.ptr (n+1) 0],U,U,U,U],[.mark (n+2)],.norm,n⟩::up
abbrev ae7(s:Bs)(i n:Nat):List Ob:=[.cells [.bool false],.cells [.str s],.bx true,
 .loop .ready .none ov [U,.ptr i 0,U,.ptr n 0,U,U,U,U,U,U,U] [7] (.ae R4) R6]
def Left(P:Program)(Γ:Nat->Option AV)(c:AM.aq)(up:List Fr)(v:AV)(h:List Ob):Prop:=∃J,AM.Reach P Γ c (.back up v (h++J))
section
variable{P:Program}{c c':AM.aq}{up up':List Fr}{v:AV}{h h':List Ob}
theorem Left.to(h1:AM.Reach P Γ c c')(h2:Left P Γ c' up v h):Left P Γ c up v h:=h2.imp fun _ h3=>.trans h1 h3
theorem Left.bf(n:Nat)(h1:Left P Γ (AM.go P Γ 2 n c) up v h):Left P Γ c up v h:=.to (Reach.goes n c) h1
theorem Left.pop(n:Nat)(h1:Left P Γ (AM.go P Γ 2 n (AM.pop c)) up v h):Left P Γ c up v h:=.to (.pop c) (.bf n h1)
theorem Left.back(J:List Ob):Left P Γ (.back up v (h++J)) up v h:=⟨J,.refl _⟩
theorem Left.aL{fn:FuncId}{its:List It}{t:List AV}{ds:List dn}{kind:FK}{base:Nat}{m:List Bool}{b:ah}
 (h1:Left P Γ (.fr ⟨.run,fn,.code b::.inLoop m b::its,dd m t,ds,kind,base⟩ up' h') up v h):Left P Γ (.fr ⟨.run,fn,.inLoop m b::its,t,ds,kind,base⟩ up' h') up v h:=.to (AM.Reach.aL (.refl _)) h1
theorem Left.inLoop{fn:FuncId}{its:List It}{t:List AV}{ds:List dn}{kind:FK}{base:Nat}{m:List Bool}{b:ah}
 (h1:Left P Γ (.fr ⟨.run,fn,.code b::.inLoop m b::its,dd m t,ds,kind,base⟩ up' h') up v h):Left P Γ (.fr ⟨.run,fn,.code (.loop m b)::its,t,ds,kind,base⟩ up' h') up v h:=.to (AM.Reach.inLoop (.refl _)) h1
theorem Left.mT{f:Fr}{h1:List Ob}(n:Nat)(hh:h'.take n=h1)(b1:f.base<=n)(b2:jX n f=true)(b3:cE n h1=true)(h4:Left P Γ (.fr f up' h1) up v h):Left P Γ (.fr f up' h') up v h:=.to (AM.Reach.mT n hh b1 b2 b3 (.refl _)) h4
theorem Left.bd(n:Nat){f:FuncId}{args:List AV}{v0:AV}{h0:List Ob}(h1:∀up,AM.Reach P Γ (.cl f args up h0) (.back up v0 h'))(h2:Left P Γ (AM.go P Γ 2 n (AM.pop (.back up' v0 h'))) up v h):Left P Γ (.cl f args up' h0) up v h:=.to (h1 up') (.pop n h2)
theorem Left.bF(n:Nat){g:FuncId}{F:aA}{args:List AV}(hF:az P g=some F)(h1:Left P Γ (AM.go P Γ 2 n (.fr ⟨.run,g,[.code F.body],args++List.replicate (F.nt-args.length) .undef,[],.norm,h'.length⟩ up' h')) up v h):Left P Γ (.cl g args up' h') up v h:=.to (wA hF args (.bf n (.refl _))) h1
theorem Left.leave{f:FuncId}{args:List AV}(h1:Left P Γ (.cl f args up h) up v h)(hv:aG h.length v=true)(hw:cO h):AM.Reach P Γ (.cl f args up h) (.back up v h):=by
 obtain⟨J,h2⟩:=h1;have h3:=AM.Reach.leave h2 hv (by rw[vn rfl];exact hw _ (aU _));rw[vn rfl]at h3;exact h3
end
set_option maxRecDepth 8000 in
theorem adW(x:Li)(i:Nat)(s:Bs)(hs:s.length<2^40){h:List Ob}(hi:h[i]? =some (.cells (dK x).cells))(hw:cO h)(up:List Fr):∀n j:Nat,j+n=s.length->
 Left Tryz.prog Γ (H5 (.cV (h.length+3)) (.ptr (h.length+1) 0) (.int .i64 s.length) (.int .i64 j) (h++ae7 s i h.length) ⟨[],.norm,h.length+4,aeH s i h.length up⟩) up (.bool (decide (x∈bn (s.drop j) j))) h:=by
 have hil:=aV hi;have e21:h.length+2+1=h.length+3:=rfl
 have hwr:∀c:UInt8,IntKind.i64.wrap (c.toNat:Int)=c.toNat:=fun c=>wrap64 (by omega) (by have:=c.toNat_lt;omega)
 have hget:=fun os=>fE hi os
 have hb4:=hw (h.length+4) (by omega);intro n
 induction n with
 |zero=>
  intro j hj
  have q1:¬j<s.length:=by omega
  rw[bw (by omega),bn];refine .bf 60 ?_;simp[q1];refine .pop 60 ?_;simp;exact .back _
 |succ n ih=>
  intro j hj
  have q1:j<s.length:=by omega
  have hh:=ih (j+1) (by omega);rw[bM q1,bn]
  by_cases a:s[j]=45
  ·refine .bf 60 ?_;simp(disch:=omega) [q1,a];refine .aL ?_;simp at hh⊢;exact hh
  ·have e:decide (x∈(if s[j]=45 then bn (s.drop (j+1)) (j+1)else(j,s[j])::bn (s.drop (j+1)) (j+1)))=(decide ((j,s[j])=x)||decide (x∈bn (s.drop (j+1)) (j+1))):=by
    rw[if_neg a,eZ];simp only[a_,bt,eY];exact or_congr_left eq_comm
   rw[e];have hq:=Zz (j,s[j]) x
   by_cases b:(j,s[j])=x
   ·refine .bf 60 ?_;simp(disch:=omega) [q1,a,hget,jR,hq,b,hwr];refine .pop 60 ?_;simp;refine .pop 60 ?_;simp;exact .back _
   ·refine .bf 60 ?_;simp(disch:=omega) [q1,a,hget,jR,hq,b,hwr];refine .pop 60 ?_;simp(disch:=omega);refine .aL ?_;simp;refine .mT (h.length+4) (by simp;rfl) (by simp) (by simp) (by simp[hb4];omega) ?_;simp at hh⊢;exact hh
theorem Gv(x:Li)(i:Nat)(l:List Bs)(hl:∀s∈l,s.length<2^40):iH Tryz.prog Γ (fun h=>h[i]? =some (.cells (dK x).cells)/\cO h) ov [.ptr i 0] AV.str (cJ x) l:=by
 refine⟨by simp,fun s hs up h hφ=>?_⟩;obtain⟨hi,hw⟩:=hφ;refine Left.leave ?_ (by simp) hw;have hh:=adW (Γ:=Γ) x i s (hl s hs) hi hw up s.length 0 (by omega);refine .bF 60 Vf ?_;simp;refine .bd 60 (El s) ?_;simp;refine .bF 60 Dm ?_;simp;refine .inLoop ?_;simp[cJ]at hh⊢;exact hh
theorem Pd(x:Li){h:List Ob}:∀up,AM.Reach Tryz.prog Γ (.cl vR [dK x] up h) (.back up (.fn (.func ov) [] [.ptr h.length 0]) (h++[.cells (dK x).cells])):=by
 intro up;refine .bF 60 Wj ?_;simp
end Go.Proofs.YtihmomicdpkabaaGreatDoor
