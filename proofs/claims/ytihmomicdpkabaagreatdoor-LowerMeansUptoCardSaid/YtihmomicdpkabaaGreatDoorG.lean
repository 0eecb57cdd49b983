/- Forms: the reader. -/
import Derived.Test.YtihmomicdpkabaaGreatDoorF
import Derived.Shelf.Strings.SlTrimAscii
import Derived.Test.YtihmomicdpkabaaGreatDoorShelf
import Derived.Test.YtihmomicdpkabaaGreatDoorCode
import Derived.Test.YtihmomicdpkabaaGreatDoorAMd
import Derived.Laws.RangeString
import Derived.Laws.RangeAny
set_option linter.unusedSimpArgs false
set_option linter.unusedVariables false
namespace Go.Proofs.YtihmomicdpkabaaGreatDoor
open Go.AM Go.Proofs
variable{Γ:Nat->Option AV}
def eD(n:Int)(x:Fm):Bool:=
 if x.kind=2 then decide (0<=x.lit)&&(decide (x.lit/2<n)&&decide (x.kids=0))
 else if x.kind=3\/x.kind=4 then decide (x.lit=0)&&decide (2<=x.kids)
 else if x.kind=0\/x.kind=1 then decide (x.lit=0)&&decide (x.kids=0)
 else false
def ff(rd:List Fm->Option (Bool×List Fm))(a:Bool):Nat->Bool->List Fm->Option (Bool×List Fm)
 |0,v,l=>some (v,l)
 |k+1,v,l=>match rd l with
  |none=>none
  |some (w,l')=>ff rd a k (if a then w&&v else w||v) l'
def ey(n:Int)(val:Int->Bool):Nat->List Fm->Option (Bool×List Fm)
 |0,_=>none
 |_+1,[]=>none
 |f+1,x::l=>if eD n x=true then(if x.kind=2 then some (val x.lit,l)else ff (ey n val f) (decide (x.kind=3)) x.kids.toNat (decide (x.kind=1)||decide (x.kind=3)) l)else none
section
variable{n:Int}{F:AV}{i:Nat}
end
theorem LP{rd:List Fm->Option (Bool×List Fm)}{a:Bool}(hr:∀l v l',rd l=some (v,l')->l'.length<l.length):∀(k:Nat)(v:Bool)(l:List Fm)(w:Bool)(l':List Fm),ff rd a k v l=some (w,l')->l'.length<=l.length
 |0,v,l,w,l',h=>by simp only[ff,aj,bP]at h;rw[h.2];exact aR _
 |k+1,v,l,w,l',h=>by
  simp only[ff]at h
  split at h
  ·cases h
  ·rename_i u l1 hu;have h1:=hr _ _ _ hu;have h2:=LP hr k _ _ _ _ h;omega
theorem Ev(n:Int)(val:Int->Bool):∀(f:Nat)(l:List Fm)(v:Bool)(l':List Fm),ey n val f l=some (v,l')->l'.length<l.length
 |0,l,v,l',h=>by simp[ey]at h
 |f+1,[],v,l',h=>by simp[ey]at h
 |f+1,x::l,v,l',h=>by
  simp only[ey]at h
  split at h
  ·split at h
   ·simp only[aj,bP]at h
    rw[<-h.2,bX];omega
   ·have:=LP (Ev n val f) _ _ _ _ _ h
    rw[bX];omega
  ·cases h
section
variable{n:Int}{i:Nat}{φ:List Ob->Prop}{f:FuncId}{caps:List AV}{val:Int->Bool}
end
def BG(n:Int)(val:Int->Bool)(l:List Fm):Option Bool:=
 if l.length<=4000/\0<=n/\n<=4000 then(match ey n val l.length l with
  |some (v,[])=>some v
  |_=>none)else none
def PA:Option Bool->Int
 |some _=>0
 |none=>1
@[simp] theorem ayR(v:Bool):PA (some v)=0:=rfl
@[simp] theorem ayL:PA none=1:=rfl
def pr(v:List Bool)(a:Int):Bool:=!decide (v.getD (a/2).toNat false=decide (a%2=1))
def j3(rd:Gr->List Fm->Gr×Option (Nat×List Fm)):Nat->Gr->List Nat->List Fm->Gr×Option (List Nat×List Fm)
 |0,x,ks,l=>(x,some (ks,l))
 |k+1,x,ks,l=>hY (rd x l) fun y p=>j3 rd k y (ks++[p.1]) p.2
def uD(t:Fm)(y:Gr)(p:List Nat×List Fm):Gr×Option (Nat×List Fm):=fO (fun c=>(c,p.2)) (if t.kind=3 then jz 0 y p.1 else fO (·^^^1) (jz 1 y p.1))
def iF(ins:List Nat):Nat->Gr->List Fm->Gr×Option (Nat×List Fm)
 |0,x,_=>(x,none)
 |_+1,x,[]=>(x,none)
 |f+1,x,t::l=>if t.kind=2 then(x,some (ins.getD (t.lit/2).toNat 0^^^(t.lit%2).toNat,l))
  else if t.kind=0\/t.kind=1 then(x,some (t.kind.toNat,l))
  else hY (j3 (iF ins f) t.kids.toNat x [] l) (uD t)
def Gd(x:Gr)(r:Gr×Option (Nat×List Fm)):Prop:=gJ x r.1/\∀p,r.2=some p->p.1<r.1.lits
def afn(x:Gr)(r:Gr×Option (List Nat×List Fm)):Prop:=gJ x r.1/\∀p,r.2=some p->∀a∈p.1,a<r.1.lits
theorem z6{rd:Gr->List Fm->Gr×Option (Nat×List Fm)}(ins:List Nat)(hr:∀x l,x.Ok->(∀a∈ins,a<x.lits)->Gd x (rd x l)):∀(k:Nat)(x:Gr)(ks:List Nat)(l:List Fm),x.Ok->(∀a∈ins,a<x.lits)->(∀a∈ks,a<x.lits)->afn x (j3 rd k x ks l)
 |0,x,ks,l,ok,hi,hk=>⟨.refl ok,fun p hp=>by cases hp;exact hk⟩
 |k+1,x,ks,l,ok,hi,hk=>by
  rw[j3];have h1:=hr x l ok hi
  cases h:rd x l with
  |mk y r=>
   rw[h]at h1
   cases r with
   |none=>exact⟨h1.1,fun p hp=>by cases hp⟩
   |some p=>
    have h2:=h1.2 p rfl
    have:=z6 ins hr k y (ks++[p.1]) p.2 h1.1.ok (fun a ha=>kj (hi a ha) h1.1.lits) (fun a ha=>by
     rcases bm.1 ha with ha|ha
     ·exact kj (hk a ha) h1.1.lits
     ·simp only[dE]at ha;subst ha;exact h2)
    exact⟨h1.1.trans this.1,this.2⟩
theorem Zi{t:Fm}{y:Gr}{p:List Nat×List Fm}(ok:y.Ok)(hp:∀a∈p.1,a<y.lits):Gd y (uD t y p):=by
 have h3:jI y (if t.kind=3 then jz 0 y p.1 else fO (·^^^1) (jz 1 y p.1)):=by
  split
  ·exact wa (by omega) ok hp
  ·exact(wa (by omega) ok hp).BV (by omega)
 refine⟨h3.1,fun q hq=>?_⟩;simp only[uD,fO,bU]at hq;obtain⟨c,hc,rfl⟩:=hq;exact h3.2 c hc
theorem abM(x:Gr):2<=x.lits:=by unfold Gr.lits Gr.all Gr.first;omega
theorem Z_(x:Gr):x.lits=2*x.all:=rfl
theorem ru(ins:List Nat):∀(f:Nat)(x:Gr)(l:List Fm),x.Ok->(∀a∈ins,a<x.lits)->Gd x (iF ins f x l)
 |0,x,l,ok,hi=>⟨.refl ok,fun p hp=>by cases hp⟩
 |f+1,x,[],ok,hi=>⟨.refl ok,fun p hp=>by cases hp⟩
 |f+1,x,t::l,ok,hi=>by
  rw[iF]
  split
  ·refine⟨.refl ok,fun p hp=>?_⟩
   cases hp
   refine ua (n:=x.all) (by omega) ?_;rw[<-Z_];rw[bp]
   cases h:ins[(t.lit/2).toNat]? with
   |none=>exact wN x
   |some a=>exact hi a (il h)
  ·split
   ·rename_i h;refine⟨.refl ok,fun p hp=>?_⟩
    cases hp
    have:=abM x
    simp only;omega
   ·have h1:=z6 ins (ru ins f) t.kids.toNat x [] l ok hi (fun a ha=>by cases ha)
    cases h:j3 (iF ins f) t.kids.toNat x [] l with
    |mk y r=>
     rw[h]at h1
     cases r with
     |none=>exact⟨h1.1,fun p hp=>by cases hp⟩
     |some p=>
      have h2:=Zi (t:=t) h1.1.ok (h1.2 p rfl);exact⟨h1.1.trans h2.1,h2.2⟩
theorem MH{rd:List Fm->Option (Bool×List Fm)}{a:Bool}(hr:∀l v l',rd l=some (v,l')->l'.length<l.length):∀(k:Nat)(v:Bool)(l:List Fm)(w:Bool)(l':List Fm),ff rd a k v l=some (w,l')->k<=l.length
 |0,v,l,w,l',h=>y5 _
 |k+1,v,l,w,l',h=>by
  rw[ff]at h
  cases h1:rd l with
  |none=>rw[h1]at h;cases h
  |some u=>
   rw[h1]at h;obtain⟨u1,u2⟩:=u;have:=hr l u1 u2 h1;have:=MH hr k _ _ _ _ h;omega
theorem KG{rd:Gr->List Fm->Gr×Option (Nat×List Fm)}{rf:List Fm->Option (Bool×List Fm)}{b:Bool}(hr:∀x l y c l2 v l3,rd x l=(y,some (c,l2))->rf l=some (v,l3)->l2=l3):∀(k:Nat)(x:Gr)(ks:List Nat)(l:List Fm)(v:Bool){y:Gr}{q:List Nat}{l2:List Fm}{w:Bool}{l3:List Fm},j3 rd k x ks l=(y,some (q,l2))->ff rf b k v l=some (w,l3)->l2=l3
 |0,x,ks,l,v,y,q,l2,w,l3,h1,h2=>by
  rw[j3]at h1;rw[ff]at h2;cases h1;cases h2;rfl
 |k+1,x,ks,l,v,y,q,l2,w,l3,h1,h2=>by
  rw[j3]at h1;rw[ff]at h2
  cases h:rd x l with
  |mk z r=>
   rw[h]at h1
   cases r with
   |none=>cases h1
   |some p=>
    cases h3:rf l with
    |none=>rw[h3]at h2;cases h2
    |some u=>
     rw[h3]at h2;obtain⟨c,l4⟩:=p;obtain⟨u1,u2⟩:=u;have:=hr x l z c l4 u1 u2 h h3;subst this;exact KG hr k z _ _ _ h1 h2
theorem D0(ins:List Nat)(n:Int)(val:Int->Bool):∀(f:Nat)(x:Gr)(l:List Fm)(y:Gr)(c:Nat)(l2:List Fm)(v:Bool)(l3:List Fm),iF ins f x l=(y,some (c,l2))->ey n val f l=some (v,l3)->l2=l3
 |0,x,l,y,c,l2,v,l3,h1,h2=>by cases h1
 |f+1,x,[],y,c,l2,v,l3,h1,h2=>by cases h1
 |f+1,x,t::l,y,c,l2,v,l3,h1,h2=>by
  rw[iF]at h1;rw[ey]at h2
  split at h2
  ·rename_i ho
   split at h2
   ·rename_i k2;rw[if_pos k2]at h1
    cases h1;cases h2;rfl
   ·rename_i k2;rw[if_neg k2]at h1
    split at h1
    ·rename_i k01
     have hk:t.kids=0:=by
      unfold eD at ho;rw[if_neg k2,if_neg (by omega),if_pos k01]at ho;simp at ho;exact ho.2
     rw[hk]at h2
     cases h1
     simp only[Int.toNat_zero,ff]at h2
     cases h2;rfl
    ·cases h:j3 (iF ins f) t.kids.toNat x [] l with
     |mk z r=>
      rw[h]at h1
      cases r with
      |none=>cases h1
      |some p=>
       obtain⟨q,l4⟩:=p;have:=KG (D0 ins n val f) _ _ _ _ _ h h2;subst this;simp only[hY,uD,fO,bP,bU]at h1;obtain⟨_,d,_,_,rfl⟩:=h1;rfl
  ·cases h2
def oc:Bs:=[48,49,45]
def lN(c:UInt8):Bool:=decide (c=48)||(decide (c=49)||decide (c=45))
def nk(n:Nat)(s:Bs):Bool:=s.all lN&&decide (s.length=n)
theorem adA(c:UInt8):oc.contains c=lN c:=by
 revert c
 rw[show(∀c:UInt8,oc.contains c=lN c)↔∀n:Fin 256,oc.contains (UInt8.ofNat n)=lN (UInt8.ofNat n)from
  ⟨fun h n=>h _,fun h c=>by have:=h ⟨c.toNat,c.toNat_lt⟩;simpa using this⟩]
 decide+kernel
theorem re{α:Type}{p:α->Bool}:∀{l:List α},l.dropWhile p=[]↔∀x∈l,p x=true
 |[]=>by simp
 |a::l=>by
  rw[List.dropWhile_cons]
  cases h:p a with
  |true=>simp[re (l:=l),h]
  |false=>simp[h]
theorem dropWhile_nil{α:Type}(p:α->Bool)(l:List α)(h:∀x∈l.dropWhile p,p x=true):l.dropWhile p=[]:=by
 cases hd:l.dropWhile p with
 |nil=>rfl
 |cons a t=>
  have h1:=List.head_dropWhile_not p (l:=l) (by rw[hd];simp);simp only[hd,List.head_cons]at h1;rw[h a (by rw[hd];simp)]at h1
  cases h1
theorem Nb(s:Bs):(Lib.trimS s oc=[])↔s.all lN=true:=by
 have e:(fun c=>oc.contains c)=lN:=funext adA;unfold Lib.trimS Lib.trimLeftS Lib.trimRightS;rw[e];constructor
 ·intro h
  have h1:=dropWhile_nil lN s.reverse fun x hx=>by
   have:=re.1 h x (by simpa using hx);exact this
  have h2:=re.1 h1;rw[dA];intro x hx;exact h2 x (by simpa using hx)
 ·intro h
  have h1:s.reverse.dropWhile lN=[]:=re.2 fun x hx=>dA.1 h x (by simpa using hx)
  rw[h1];rfl
theorem ON(s:Bs)(hs:s.length<2^40):aL Tryz.prog Γ s8 [.str s,.str oc] (.str (Lib.trimS s oc)):=by
 refine aL.PV (by simp) (fun _=>rfl) rfl fun N g h w us _ hV=>?_
 obtain⟨us,rfl,h1⟩:=Bp hV;obtain⟨us,rfl,h2⟩:=Bp h1;obtain rfl:=Nu h2;refine(Any.strings_Trim_laid Tryz.N9 (by kernel_rfl) ⟨s.toArray⟩ ⟨oc.toArray⟩ w (by simp[ByteArray.size];omega) (by decide) (ascii_of_all (by decide))).mono ?_
 rintro e' w' ⟨rfl,hB⟩
 exact⟨⟨_,rfl,fun _ _=>by simp[V]⟩,hB⟩
theorem afS(s:Bs)(n:Nat)(hs:s.length<2^40):aL Tryz.prog Γ Ah [.str s,.int .i64 n] (.bool (nk n s)):=by
 refine .run 60 Z3 (by simp) ?_;unfold nk
 by_cases h:s.length=n
 ·have h':(s.length:Int)=n:=by omega
  have hT:=ON (Γ:=Γ) s hs;unfold oc at hT
  have h2:decide (Lib.trimS s [48,49,45]=[])=s.all lN:=by
   rw[fE,To];exact Nb s
  simp[h,h'];refine .call 60 (by simp) hT ?_;simp[h2];exact .back (by simp[h2,h])
 ·have h':¬(s.length:Int)=n:=by omega
  simp[h,h'];exact .back (by simp[h])
end Go.Proofs.YtihmomicdpkabaaGreatDoor
namespace Go.Proofs.YtihmomicdpkabaaGreatDoor
abbrev xy:Nat:=1
abbrev PX:Nat:=0
end Go.Proofs.YtihmomicdpkabaaGreatDoor
namespace Go.Proofs.YtihmomicdpkabaaGreatDoor
open Go.AM Go.Proofs
variable{Γ:Nat->Option AV}
theorem Vd{φ:List Ob->Prop}{f:FuncId}{caps:List AV}{p:(List UInt8)->Bool}{l:List (List UInt8)}{k:Nat}{fl:Bool}(ha:ij Tryz.prog Γ φ f caps AV.str p l)(hk:Kd 1 k l)(hs:l.length<2^60){h:List Ob}(hφ:φ h):
 ∀up,AM.Reach Tryz.prog Γ (.cl qW [.list fl k (l.map AV.str),.fn (.func f) [] caps] up h) (.back up (.int .i64 (eB p l 0)) h):=by
 intro up
 have key:∀n i:Nat,i+n=l.length->AM.Reach Tryz.prog Γ (Q8 (.list fl k (l.map AV.str)) (.fn (.func f) [] caps) (.int .i64 l.length) (.int .i64 i) h ⟨[],.norm,h.length,up⟩) (.back up (.int .i64 (eB p (l.drop i) i)) h):=by
  intro n
  induction n with
  |zero=>
   intro i hi
   have h1:¬i<l.length:=by omega
   refine .aU 60 ?_;rw[bw (by omega)];simp[h1,eB]
  |succ n ih=>
   intro i hi
   have h1:i<l.length:=by omega
   obtain rfl:=hk.of h1;have h2:=ha.2 l[i] (bz h1);rw[bQ h1,eB];have hh:=ih (i+1) (by omega);refine .aU 60 ?_;simp[h1,ha.1];refine .aX 60 (fun up=>h2 up h hφ) ?_
   cases hp:p l[i]with
   |true=>simp(disch:=omega) [hp]
   |false=>
    simp(disch:=omega) [hp];refine .aH ?_;simp at hh⊢;exact hh
 refine .br 60 Jl ?_;simp;refine .inLoop ?_;have hh:=key l.length 0 (by omega);simp at hh⊢;exact hh
theorem vE{φ:List Ob->Prop}{f:FuncId}{caps:List AV}{p:(List UInt8)->Bool}{l:List (List UInt8)}{k:Nat}{fl:Bool}(ha:ij Tryz.prog Γ φ f caps AV.str p l)(hk:Kd 1 k l)(hs:l.length<2^60){h:List Ob}(hφ:φ h):
 ∀up,AM.Reach Tryz.prog Γ (.cl pS [.list fl k (l.map AV.str),.fn (.func f) [] caps] up h) (.back up (.bool (bt p l)) h):=by
 intro up;refine .br 60 TA ?_;simp;refine .aX 60 (Vd ha hk hs hφ) ?_;have h1:=A4 p l 0
 cases hp:bt p l with
 |true=>rw[hp]at h1;simp at h1;simp[h1]
 |false=>
  rw[hp]at h1
  have h2:¬0<=eB p l 0:=by rw[h1];simp
  simp[h2]
abbrev p2(a b:Int):AV:=.agg [.int .i64 a,.int .i64 b]
def GJ(n:Int):Option AV:=if 4<=n/\n<=9 then some (p2 2 8)else if n=0\/n=1 then some (p2 0 0)else if n=2\/n=3 then some (p2 1 1)else if n=10 then some (p2 0 8)else none
def eT(Γ:Nat->Option AV):Prop:=∃ks vs,Γ xy=some (.de ks vs)/\∀n:Int,ew (.sc .int) (.int .i64 n) (ks.zip vs)=some (GJ n)
def mD(op:Int)(n:Nat):Bool:=if 4<=op/\op<=9 then decide (2<=n/\n<=8)else if op=0\/op=1 then decide (n=0)else if op=2\/op=3 then decide (n=1)else false
def hasB(op:Int)(n:Nat):Bool:=if op=10 then decide (n<=8)else mD op n
def jE(g:Gt):Bool:=
 if g.op=10 then decide (g.ins.length<=8)&&(decide (g.rows.length<=128)&&!bt (fun s=>!nk g.ins.length s) g.rows)else !(decide (0<g.rows.length)||g.off)&&mD g.op g.ins.length
theorem AY{ks vs:List AV}(hG:Γ xy=some (.de ks vs)){op a b:Int}(hF:ew (.sc .int) (.int .i64 op) (ks.zip vs)=some (some (p2 a b)))(n:Int):aL Tryz.prog Γ tG [.int .i64 op,.int .i64 n] (.bool (decide (a<=n)&&decide (n<=b))):=by
 simp only[xy]at hG;refine .run 60 Lw (by simp) ?_
 by_cases h:a<=n
 ·simp[hG,hF,h,isKey,bR,cz];exact .back (by simp)
 ·simp[hG,hF,h,isKey,bR,cz];exact .back (by simp)
theorem aaO{ks vs:List AV}(hG:Γ xy=some (.de ks vs)){op:Int}(hF:ew (.sc .int) (.int .i64 op) (ks.zip vs)=some none)(n:Int):aL Tryz.prog Γ tG [.int .i64 op,.int .i64 n] (.bool false):=by
 simp only[xy]at hG;refine .run 60 Lw (by simp) ?_;simp[hG,hF,isKey,bR,cz];exact .back (by simp)
theorem afu(hΓ:eT Γ)(op:Int)(n:Nat):aL Tryz.prog Γ tG [.int .i64 op,.int .i64 n] (.bool (hasB op n)):=by
 obtain⟨ks,vs,hG,hF⟩:=hΓ;have h1:=hF op;unfold GJ at h1
 by_cases a:4<=op/\op<=9
 ·rw[if_pos a]at h1
  have e:hasB op n=(decide ((2:Int)<=n)&&decide ((n:Int)<=8)):=by
   unfold hasB mD;rw[if_neg (by omega),if_pos a,fE]
   simp only[av,bf];omega
  rw[e];exact AY hG h1 n
 ·rw[if_neg a]at h1
  by_cases b:op=0\/op=1
  ·rw[if_pos b]at h1
   have e:hasB op n=(decide ((0:Int)<=n)&&decide ((n:Int)<=0)):=by
    unfold hasB mD;rw[if_neg (by omega),if_neg a,if_pos b,fE]
    simp only[av,bf];omega
   rw[e];exact AY hG h1 n
  ·rw[if_neg b]at h1
   by_cases c:op=2\/op=3
   ·rw[if_pos c]at h1
    have e:hasB op n=(decide ((1:Int)<=n)&&decide ((n:Int)<=1)):=by
     unfold hasB mD;rw[if_neg (by omega),if_neg a,if_neg b,if_pos c,fE]
     simp only[av,bf];omega
    rw[e];exact AY hG h1 n
   ·rw[if_neg c]at h1
    by_cases d:op=10
    ·rw[if_pos d]at h1
     have e:hasB op n=(decide ((0:Int)<=n)&&decide ((n:Int)<=8)):=by
      unfold hasB;rw[if_pos d,fE]
      simp only[av,bf];omega
     rw[e];exact AY hG h1 n
    ·rw[if_neg d]at h1
     have e:hasB op n=false:=by
      unfold hasB mD;rw[if_neg d,if_neg a,if_neg b,if_neg c]
     rw[e];exact aaO hG h1 n
theorem abQ(g:Gt)(i:Nat)(hg:r8 g):ij Tryz.prog Γ (fun h=>h[i]? =some (.cells (AV.cells (cR g)))) zQ [.ptr i 0] AV.str (fun s=>!nk g.ins.length s) g.rows:=by
 refine⟨by simp,fun s hs up h hφ=>?_⟩;refine .br 60 Wk ?_;simp[hφ];refine .jB 60 (by simp) (afS s g.ins.length (hg.2.2.2.2 s hs)) ?_;simp
theorem O1(hΓ:eT Γ)(g:Gt)(hg:r8 g):aL Tryz.prog Γ v8 [cR g] (.bool (jE g)):=by
 have b1:=hg.2.1;have b2:=hg.2.2.1;refine .run 60 Yr (by simp) ?_;unfold jE;have hH:=afu hΓ g.op g.ins.length;have hC:=vE (Γ:=Γ) (fl:=false) (abQ g 0 hg) g.hr (by omega) (h:=[.cells (AV.cells (cR g))]) rfl
 by_cases ho:g.op=10
 ·simp[ho];rw[ho]at hH;refine .call 60 (by simp) hH ?_;have e:((g.ins.length:Int)<=8)=(g.ins.length<=8):=propext (by omega);have e2:((g.rows.length:Int)<=128)=(g.rows.length<=128):=propext (by omega)
  by_cases h1:g.ins.length<=8
  ·by_cases h2:g.rows.length<=128
   ·simp[hasB,h1,h2,e2];simp[ho]at hC;refine .aX 60 hC ?_;simp;exact .back (by simp)
   ·simp[hasB,h1,h2,e2];exact .back (by simp)
  ·simp[hasB,h1];exact .back (by simp)
 ·simp only[if_neg ho]
  by_cases h1:0<g.rows.length
  ·have e:((0:Int)<g.rows.length)=True:=bY (by omega);simp[ho,h1,e];exact .back (by simp)
  ·have e:((0:Int)<g.rows.length)=False:=iu (by omega)
   cases h2:g.off with
   |true=>
    simp[ho,h1,h2,e];exact .back (by simp)
   |false=>
    have h0:g.rows=[]:=kh.1 (by omega);simp[ho,h0,h2];refine .call 60 (by simp) hH ?_
    cases h3:mD g.op g.ins.length with
    |false=>
     simp[hasB,ho,h3];exact .back (by simp)
    |true=>
     simp[hasB,ho,h3];simp only[h0,h2,AV.cells,ld]at hC;refine .aX 60 hC ?_;simp[rD];exact .back (by simp)
theorem sQ(l:List (List UInt8)){k:Nat}(hk:Kd 1 k l)(hl:l.length<2^40):aL Tryz.prog Γ ot [.list false k (l.map AV.str)] (.own 1 aF (l.map AV.str)):=by
 refine .run 60 TT (by simp) ?_
 cases l with
 |nil=>
  simp;refine .either 0 (by simp) (fun b=>?_)
  cases b
  ·refine .go 9 ?_;simp;refine .oS 2 1 aF rfl (by omega) ?_;refine .go 60 ?_;simp;exact .back (by simp)
  ·refine .go 60 ?_;simp;exact .back (by simp)
 |cons x xs=>
  have hk0:k=1:=by
   rcases hk with h|h
   ·exact h
   ·cases h
  subst hk0;simp at hl;simp(disch:=(first|omega|(simp;omega)));exact .back (by simp)
theorem adv(c:Ct)(hc:bW c):∀n i:Nat,i+n=c.af.length->∀l:List Bs,l.length+n<2^40->
 aw Tryz.prog Γ (yfx (.sl 2 0 l.length) (.list false c.kG (c.af.map cR)) (.int .i64 c.af.length) (.int .i64 i) [.cells (AV.cells (bL c)),.row 1 aF [] none true false,.row 1 aF (l.map .str) none true false]) (.ret (.own 1 aF ((l++(c.af.drop i).map (·.name)).map .str))):=by
 have hG:=c.hG;have hl:=hc.2.2.2.1;intro n
 induction n with
 |zero=>
  intro i hi l hL
  have q1:¬i<c.af.length:=by omega
  rw[bw (by omega)];refine .go 60 ?_;simp[q1];exact .back (by simp)
 |succ n ih=>
  intro i hi l hL
  have q1:i<c.af.length:=by omega
  have q2:=hG.of q1;have hh:=ih (i+1) (by omega) (l++[c.af[i].name]) (by simp;omega);have e:l++(c.af.drop i).map (·.name)=l++[c.af[i].name]++(c.af.drop (i+1)).map (·.name):=Gq l (·.name) _ q1;rw[e];refine .go 60 ?_;simp(disch:=omega) [q1,q2];refine .aH ?_;simp;refine .drop 3 rfl (by simp) (by simp) (by simp) ?_;refine .reset (i:=2) rfl (by simp) (by simp) (by simp) ?_;simp[q2]at hh⊢;exact hh
theorem acB(c:Ct)(hc:bW c):∀n i:Nat,i+n=c.ak.length->∀l:List Bs,l.length+n<2^39->
 aw Tryz.prog Γ (yfz (.ptr 0 0) (.sl 2 0 l.length) (.list false c.kL (c.ak.map od)) (.int .i64 c.ak.length) (.int .i64 i) [.cells (AV.cells (bL c)),.row 1 aF [] none true false,.row 1 aF (l.map .str) none true false]) (.ret (.own 1 aF ((l++(c.ak.drop i).map (·.name)++c.af.map (·.name)).map .str))):=by
 have hG:=c.hL;have hl:=hc.2.2.1;have hl2:=hc.2.2.2.1;intro n
 induction n with
 |zero=>
  intro i hi l hL
  have q1:¬i<c.ak.length:=by omega
  have hh:=adv (Γ:=Γ) c hc c.af.length 0 (by omega) l (by omega);rw[bw (by omega)];refine .go 60 ?_;simp[q1];refine .inLoop ?_;simp at hh⊢;exact hh
 |succ n ih=>
  intro i hi l hL
  have q1:i<c.ak.length:=by omega
  have q2:=hG.of q1;have hh:=ih (i+1) (by omega) (l++[c.ak[i].name]) (by simp;omega);have e:l++(c.ak.drop i).map (·.name)=l++[c.ak[i].name]++(c.ak.drop (i+1)).map (·.name):=Gq l (·.name) _ q1;rw[e];refine .go 60 ?_;simp(disch:=omega) [q1,q2];refine .aH ?_;simp;refine .drop 3 rfl (by simp) (by simp) (by simp) ?_;refine .reset (i:=2) rfl (by simp) (by simp) (by simp) ?_;simp[q2]at hh⊢;exact hh
theorem F7(c:Ct)(hc:bW c):aL Tryz.prog Γ p3 [bL c] (.own 1 aF ((aD c).map .str)):=by
 have h1:=hc.1;have h2:=hc.2.2.1;refine .run 60 YG (by simp) ?_;simp;refine .call 60 (by simp) (sQ c.aE c.hI (by omega)) ?_;simp;refine .inLoop ?_;have hh:=acB (Γ:=Γ) c hc c.ak.length 0 (by omega) c.aE (by omega);simp[aD]at hh⊢;exact hh
abbrev nb(x:Nat×List (List UInt8)):AV:=.list false x.1 (x.2.map AV.str)
def cp:List (Nat×List (List UInt8))->List (List UInt8)
 |[]=>[]
 |x::xs=>x.2++cp xs
theorem Kp(a b:List (Nat×List (List UInt8))):cp (a++b)=cp a++cp b:=by
 induction a with
 |nil=>rfl
 |cons x a ih=>simp[cp,ih]
theorem L2(xs:List (Nat×List (List UInt8)))(i:Nat)(h:i<xs.length):cp (xs.take (i+1))=cp (xs.take i)++xs[i].2:=by
 rw[gC h,Kp];simp[cp]
theorem NQ(xs:List (Nat×List (List UInt8)))(i:Nat):(cp (xs.take i)).length<=(cp xs).length:=by
 conv=>rhs;rw[<-lU i xs,Kp]
 simp
set_option maxRecDepth 8000 in
theorem Jm(xs:List (Nat×List (List UInt8)))(hk:∀x∈xs,Kd 1 x.1 x.2)(hn:xs.length<2^40)(hs:(cp xs).length<2^40)(hp:0<(cp xs).length):
 aL Tryz.prog Γ mT [.list false 1 (xs.map nb)] (.own 1 aF ((cp xs).map AV.str)):=by
 refine .run 60 Jn (by simp) ?_
 have key2:∀n i:Nat,i+n=xs.length->∀m:Nat,(cp (xs.take i)).length+m=(cp xs).length->
  aw Tryz.prog Γ (Te (.sl 2 0 (cp (xs.take i)).length) (.list false 1 (xs.map nb)) (.int .i64 xs.length) (.int .i64 i) [.row 1 aF [] none true false,.row 1 aF [] none true false,.row 1 aF ((cp (xs.take i)).map AV.str++List.replicate m (AV.str [])) none true false])
   (.ret (.own 1 aF ((cp xs).map AV.str))):=by
  intro n
  induction n with
  |zero=>
   intro i hi m hm
   have q1:¬i<xs.length:=by omega
   have q2:xs.take i=xs:=cd (by omega);rw[q2]at hm⊢
   have hm0:m=0:=by omega
   subst hm0;refine .go 60 ?_;simp[q1];exact .back (by simp)
  |succ n ih=>
   intro i hi m hm
   have q1:i<xs.length:=by omega
   have q2:=L2 xs i q1;have q3:=NQ xs (i+1);rw[q2,bN]at q3;have q4:=hk xs[i] (bz q1);have q5:xs[i].1=1\/xs[i].2=[]:=q4;have hh:=ih (i+1) (by omega) (m-xs[i].2.length) (by rw[q2,bN];omega);rw[q2]at hh
   have hd:(List.replicate m (AV.str [])).drop xs[i].2.length=List.replicate (m-xs[i].2.length) (AV.str []):=by simp
   refine .go 60 ?_
   by_cases q6:(cp (xs.take i)).length=(cp xs).length
   ·have q7:xs[i].2=[]:=kh.1 (by omega)
    have hm0:m=0:=by omega
    subst hm0;simp[q7]at hh;simp(disch:=(first|omega|(simp;omega))) [q1,q5,q7];refine .aH ?_;simp;exact hh
   ·simp(disch:=(first|omega|(simp;omega))) [q1,q5]
    by_cases q7:m=0
    ·omega
    ·have c1:¬(cp (List.take i xs)).length=(cp (List.take i xs)).length+m:=by omega
     have c2:(cp (List.take i xs)).length+xs[i].snd.length<=(cp (List.take i xs)).length+m:=by omega
     simp(disch:=(first|omega|(simp;omega))) [q1,q5,c1,c2,q7];refine .aH ?_;have mL:((cp (xs.take i)).map AV.str).drop ((cp (xs.take i)).length+xs[i].2.length)=[]:=bw (by simp);simp[sE,hd,mL]at hh⊢;exact hh
 have key1:∀n i:Nat,i+n=xs.length->
  aw Tryz.prog Γ (Rx (.list false 1 (xs.map nb)) (.int .i64 (cp (xs.take i)).length) (.list false 1 (xs.map nb)) (.int .i64 xs.length) (.int .i64 i) [.row 1 aF [] none true false])
   (.ret (.own 1 aF ((cp xs).map AV.str))):=by
  intro n
  induction n with
  |zero=>
   intro i hi
   have q1:¬i<xs.length:=by omega
   have q2:xs.take i=xs:=cd (by omega);have q3:0<(cp xs).length:=hp;have hh:=key2 xs.length 0 (by omega) (cp xs).length (by simp[cp]);refine .go 60 ?_;rw[q2];simp[q1];refine .enter 60 Jo ?_
   have q4:¬(cp xs).length=0:=by omega
   have q5:cp xs≠[]:=fun e=>by rw[e]at hp;simp at hp
   obtain⟨m,hm⟩:∃m,(cp xs).length=m+1:=⟨(cp xs).length-1,by omega⟩
   have hrep:List.replicate (cp xs).length (AV.str [])=(AV.str [])::List.replicate m (AV.str []):=by rw[hm];rfl
   simp(disch:=(first|omega|(simp;omega))) [q3,q4,q5,hrep];refine .inLoop ?_;simp[cp,hrep]at hh⊢;exact hh
  |succ n ih=>
   intro i hi
   have q1:i<xs.length:=by omega
   have q2:=L2 xs i q1;have q3:=NQ xs (i+1);rw[q2,bN]at q3;have hh:=ih (i+1) (by omega);rw[q2]at hh;refine .go 60 ?_
   have q4:¬((cp (xs.take i)).length:Int)+xs[i].2.length<0:=by omega
   simp(disch:=(first|omega|(simp;omega))) [q1,q4];refine .aH ?_;simp at hh⊢;exact hh
 simp;refine .inLoop ?_;have hh:=key1 xs.length 0 (by omega);simp[cp]at hh⊢;exact hh
set_option maxRecDepth 8000 in
theorem Jj(xs:List (Nat×List (List UInt8)))(hx:∀x∈xs,x.2=[])(hn:xs.length<2^40):
 aL Tryz.prog Γ mT [.list false 1 (xs.map nb)] (.own 1 aF []):=by
 refine .run 60 Jn (by simp) ?_
 have key2:∀n i:Nat,i+n=xs.length->aw Tryz.prog Γ (Te (.list true 0 []) (.list false 1 (xs.map nb)) (.int .i64 xs.length) (.int .i64 i) [.row 1 aF [] none true false,.row 1 aF [] none true false])
  (.ret (.own 1 aF [])):=by
  intro n
  induction n with
  |zero=>
   intro i hi
   have q1:¬i<xs.length:=by omega
   refine .oS 6 1 aF rfl (by omega) ?_;refine .go 60 ?_;simp[q1];exact .back (by simp)
  |succ n ih=>
   intro i hi
   have q1:i<xs.length:=by omega
   have q7:=hx xs[i] (bz q1);have hh:=ih (i+1) (by omega);refine .go 60 ?_;simp(disch:=(first|omega|(simp;omega))) [q1,q7];refine .aH ?_;simp at hh⊢;exact hh
 have key:∀n i:Nat,i+n=xs.length->aw Tryz.prog Γ (Rx (.list false 1 (xs.map nb)) (.int .i64 0) (.list false 1 (xs.map nb)) (.int .i64 xs.length) (.int .i64 i) [.row 1 aF [] none true false])
  (.ret (.own 1 aF [])):=by
  intro n
  induction n with
  |zero=>
   intro i hi
   have q1:¬i<xs.length:=by omega
   refine .go 60 ?_;simp[q1];refine .enter 60 Jo ?_;simp;refine .inLoop ?_;have hh:=key2 xs.length 0 (by omega);simp at hh⊢;exact hh
  |succ n ih=>
   intro i hi
   have q1:i<xs.length:=by omega
   have q7:=hx xs[i] (bz q1);have hh:=ih (i+1) (by omega);refine .go 60 ?_;simp(disch:=(first|omega|(simp;omega))) [q1,q7];refine .aH ?_;simp at hh⊢;exact hh
 simp;refine .inLoop ?_;have hh:=key xs.length 0 (by omega);simp at hh⊢;exact hh
theorem TL(xs:List (Nat×List (List UInt8)))(hk:∀x∈xs,Kd 1 x.1 x.2)(hn:xs.length<2^40)(hs:(cp xs).length<2^40):
 aL Tryz.prog Γ mT [.list false 1 (xs.map nb)] (.own 1 aF ((cp xs).map AV.str)):=by
 rcases Tj (cp xs).length with h|h
 ·have h0:cp xs=[]:=kh.1 h
  have hx:∀x∈xs,x.2=[]:=by
   clear hk hn hs h
   induction xs with
   |nil=>simp
   |cons y ys ih=>
    simp only[cp,Jd]at h0;intro x hx
    rcases bu.1 hx with rfl|hx
    ·exact h0.1
    ·exact ih h0.2 x hx
  rw[h0];exact Jj xs hx hn
 ·exact Jm xs hk hn hs h
theorem Gm{α β:Type}(a:List β)(f:α->List β)(l:List α){i:Nat}(h:i<l.length):a++(l.drop i).flatMap f=a++f l[i]++(l.drop (i+1)).flatMap f:=by
 rw[bQ h,nB,fY]
def mh(l:List Gt):List Bs:=l.flatMap (·.ins)
def qo(l:List Lt):List Bs:=l.flatMap fun q=>[q.name,q.next]
def pg(l:List Gt):List Bs:=l.flatMap fun g=>g.name::g.ins
def eS(c:Ct):List Bs:=c.bg++c.ak.map (·.next)++mh c.af
def qf(c:Ct):List Bs:=c.aE++c.bg++qo c.ak++pg c.af
theorem A6{α β:Type}(f:α->List β)(n:Nat):∀l:List α,(∀x∈l,(f x).length<=n)->(l.flatMap f).length<=l.length*n
 |[],_=>by simp
 |x::l,h=>by
  have h1:=A6 f n l fun y hy=>h y (ec _ hy)
  have h2:=h x (pQ ..);rw[nB,bN,bX,De];omega
theorem wK{c:Ct}(hc:bW c):(mh c.af).length<=2^20:=by
 have h1:=A6 (·.ins) (2^10) c.af fun g hg=>by have:=(hc.2.2.2.2.1 g hg).2.1;omega
 have h2:=hc.2.2.2.1;unfold mh;omega
theorem wB{c:Ct}(hc:bW c):(pg c.af).length<=2^20:=by
 have h1:=A6 (fun g:Gt=>g.name::g.ins) (2^10) c.af fun g hg=>by have:=(hc.2.2.2.2.1 g hg).2.1;simp;omega
 have h2:=hc.2.2.2.1;unfold pg;omega
theorem tX{c:Ct}(hc:bW c):(qo c.ak).length<=2^20:=by
 have h1:=A6 (fun q:Lt=>[q.name,q.next]) 2 c.ak fun g hg=>by simp
 have h2:=hc.2.2.1;unfold qo;omega
theorem ac4(c:Ct)(hc:bW c):∀n i:Nat,i+n=c.af.length->∀l:List Bs,l.length+(mh (c.af.drop i)).length<2^40->
 aw Tryz.prog Γ (yqC (.sl 2 0 l.length) (.list false c.kG (c.af.map cR)) (.int .i64 c.af.length) (.int .i64 i) [.cells (AV.cells (bL c)),.row 1 aF [] none true false,.row 1 aF (l.map .str) none true false]) (.ret (.own 1 aF ((l++mh (c.af.drop i)).map .str))):=by
 have hG:=c.hG;have hl:=hc.2.2.1;have hl2:=hc.2.2.2.1;have b1:=wK hc;have b2:=wB hc;have b3:=tX hc;intro n
 induction n with
 |zero=>
  intro i hi l hL
  have q1:¬i<c.af.length:=by omega
  rw[bw (by omega)];refine .go 60 ?_;simp[q1];exact .back (by simp[mh])
 |succ n ih=>
  intro i hi l hL
  have q1:i<c.af.length:=by omega
  have q2:=hG.of q1;have q3:=(hc.2.2.2.2.1 c.af[i] (bz q1)).2.1;have q4:=c.af[i].hi;have q5:c.af[i].ki=1\/c.af[i].ins=[]:=q4;have e:l++mh (c.af.drop i)=l++c.af[i].ins++mh (c.af.drop (i+1)):=Gm l (fun g:Gt=>g.ins) _ q1;have e2:=congrArg List.length e;simp only[bN,bX,dt]at e2;have hh:=ih (i+1) (by omega) (l++c.af[i].ins) (by simp only[bN,bX,dt];omega);rw[e];refine .go 60 ?_;simp(disch:=omega) [q1,q2,q5];refine .aH ?_;simp;refine .drop 3 rfl (by simp) (by simp) (by simp) ?_;refine .mc (i:=2) rfl (by first|(simp;done)|(by_cases hq:c.af[i].ins=[]<;>simp[hq])) (by simp) (by simp<;>omega) (by simp) ?_;simp[q2]at hh⊢;exact hh
theorem adK(c:Ct)(hc:bW c):∀n i:Nat,i+n=c.ak.length->∀l:List Bs,l.length+((c.ak.drop i).map (·.next)).length<2^39->
 aw Tryz.prog Γ (yqE (.ptr 0 0) (.sl 2 0 l.length) (.list false c.kL (c.ak.map od)) (.int .i64 c.ak.length) (.int .i64 i) [.cells (AV.cells (bL c)),.row 1 aF [] none true false,.row 1 aF (l.map .str) none true false]) (.ret (.own 1 aF ((l++(c.ak.drop i).map (·.next)++mh c.af).map .str))):=by
 have hG:=c.hL;have hl:=hc.2.2.1;have hl2:=hc.2.2.2.1;have b1:=wK hc;have b2:=wB hc;have b3:=tX hc;intro n
 induction n with
 |zero=>
  intro i hi l hL
  have q1:¬i<c.ak.length:=by omega
  have hh:=ac4 (Γ:=Γ) c hc c.af.length 0 (by omega) l (by rw[ir];omega);rw[bw (by omega)];refine .go 60 ?_;simp[q1];refine .inLoop ?_;simp at hh⊢;exact hh
 |succ n ih=>
  intro i hi l hL
  have q1:i<c.ak.length:=by omega
  have q2:=hG.of q1;have e:l++(c.ak.drop i).map (·.next)=l++[c.ak[i].next]++(c.ak.drop (i+1)).map (·.next):=Gq l (·.next) _ q1;have e2:=congrArg List.length e;simp only[bN,bX,dt]at e2;have hh:=ih (i+1) (by omega) (l++[c.ak[i].next]) (by simp only[bN,bX,dt];omega);rw[e];refine .go 60 ?_;simp(disch:=omega) [q1,q2];refine .aH ?_;simp;refine .drop 3 rfl (by simp) (by simp) (by simp) ?_;refine .reset (i:=2) rfl (by simp) (by simp) (by simp) ?_;simp[q2]at hh⊢;exact hh
theorem aeY(c:Ct)(hc:bW c):aL Tryz.prog Γ tB [bL c] (.own 1 aF ((eS c).map .str)):=by
 have h1:=hc.2.1;have h2:=hc.2.2.1;refine .run 60 Yn (by simp) ?_;simp;refine .call 60 (by simp) (sQ c.bg c.hO (by omega)) ?_;simp;refine .inLoop ?_;have hh:=adK (Γ:=Γ) c hc c.ak.length 0 (by omega) c.bg (by rw[ir,iq];omega);simp[eS]at hh⊢;exact hh
theorem acM(c:Ct)(hc:bW c):∀n i:Nat,i+n=c.af.length->∀l:List Bs,l.length+(pg (c.af.drop i)).length<2^40->
 aw Tryz.prog Γ (ypG (.sl 2 0 l.length) (.list false c.kG (c.af.map cR)) (.int .i64 c.af.length) (.int .i64 i) [.cells (AV.cells (bL c)),.row 1 aF [] none true false,.row 1 aF (l.map .str) none true false]) (.ret (.own 1 aF ((l++pg (c.af.drop i)).map .str))):=by
 have hG:=c.hG;have hl:=hc.2.2.1;have hl2:=hc.2.2.2.1;have b1:=wK hc;have b2:=wB hc;have b3:=tX hc;intro n
 induction n with
 |zero=>
  intro i hi l hL
  have q1:¬i<c.af.length:=by omega
  rw[bw (by omega)];refine .go 60 ?_;simp[q1];exact .back (by simp[pg])
 |succ n ih=>
  intro i hi l hL
  have q1:i<c.af.length:=by omega
  have q2:=hG.of q1;have q3:=(hc.2.2.2.2.1 c.af[i] (bz q1)).2.1;have q4:=c.af[i].hi;have q5:c.af[i].ki=1\/c.af[i].ins=[]:=q4;have e:l++pg (c.af.drop i)=l++(c.af[i].name::c.af[i].ins)++pg (c.af.drop (i+1)):=Gm l (fun g:Gt=>g.name::g.ins) _ q1;have e2:=congrArg List.length e;simp only[bN,bX,dt]at e2;have hh:=ih (i+1) (by omega) (l++(c.af[i].name::c.af[i].ins)) (by simp only[bN,bX,dt];omega);rw[e];refine .go 60 ?_;simp(disch:=omega) [q1,q2,q5];refine .dr 60 ?_;simp(disch:=omega) [q1,q2,q5];refine .aH ?_;simp;refine .drop 3 rfl (by simp) (by simp) (by simp) ?_;refine .mc (i:=2) rfl (by first|(simp;done)|(by_cases hq:c.af[i].ins=[]<;>simp[hq])) (by simp) (by simp<;>omega) (by simp) ?_
  have e3:l.length+(c.af[i].ins.length+1)=l.length+1+c.af[i].ins.length:=by omega
  simp[q2,e3]at hh⊢;exact hh
theorem acg(c:Ct)(hc:bW c):∀n i:Nat,i+n=c.ak.length->∀l:List Bs,l.length+(qo (c.ak.drop i)).length<2^39->
 aw Tryz.prog Γ (ypI (.ptr 0 0) (.sl 2 0 l.length) (.list false c.kL (c.ak.map od)) (.int .i64 c.ak.length) (.int .i64 i) [.cells (AV.cells (bL c)),.row 1 aF [] none true false,.row 1 aF (l.map .str) none true false]) (.ret (.own 1 aF ((l++qo (c.ak.drop i)++pg c.af).map .str))):=by
 have hG:=c.hL;have hl:=hc.2.2.1;have hl2:=hc.2.2.2.1;have b1:=wK hc;have b2:=wB hc;have b3:=tX hc;intro n
 induction n with
 |zero=>
  intro i hi l hL
  have q1:¬i<c.ak.length:=by omega
  have hh:=acM (Γ:=Γ) c hc c.af.length 0 (by omega) l (by rw[ir];omega);rw[bw (by omega)];refine .go 60 ?_;simp[q1];refine .inLoop ?_;simp[qo]at hh⊢;exact hh
 |succ n ih=>
  intro i hi l hL
  have q1:i<c.ak.length:=by omega
  have q2:=hG.of q1;have e:l++qo (c.ak.drop i)=l++[c.ak[i].name,c.ak[i].next]++qo (c.ak.drop (i+1)):=Gm l (fun q:Lt=>[q.name,q.next]) _ q1;have e2:=congrArg List.length e;simp only[bN,bX,dt]at e2;have hh:=ih (i+1) (by omega) (l++[c.ak[i].name,c.ak[i].next]) (by simp only[bN,bX,dt];omega);rw[e];refine .go 60 ?_;simp(disch:=omega) [q1,q2];refine .aH ?_;simp;refine .drop 3 rfl (by simp) (by simp) (by simp) ?_;refine .reset (i:=2) rfl (by simp) (by simp) (by simp) ?_;simp[q2]at hh⊢;exact hh
theorem aeh(c:Ct)(hc:bW c):aL Tryz.prog Γ tE [bL c] (.own 1 aF ((qf c).map .str)):=by
 have h1:=hc.1;have h2:=hc.2.1;have h3:=hc.2.2.1;have b3:=tX hc
 have hx:∀x∈[(c.kI,c.aE),(c.kO,c.bg)],Kd 1 x.1 x.2:=by
  intro x hx;simp only[bu,pR,pG]at hx
  rcases hx with rfl|rfl
  ·exact c.hI
  ·exact c.hO
 have hx2:cp [(c.kI,c.aE),(c.kO,c.bg)]=c.aE++c.bg:=by simp[cp]
 have hC:=TL (Γ:=Γ) [(c.kI,c.aE),(c.kO,c.bg)] hx (by simp) (by rw[hx2];simp;omega);rw[hx2]at hC;refine .run 60 YB (by simp) ?_;simp;refine .call 60 (by simp) hC ?_;simp;refine .inLoop ?_;have hh:=acg (Γ:=Γ) c hc c.ak.length 0 (by omega) (c.aE++c.bg) (by rw[ir,bN];omega);simp[qf]at hh⊢;exact hh
abbrev F6(e:Int)(s:Bs):AV:=.b9 DQ (.agg [.int .i64 e,.str s])
theorem rQ(e:Int)(s:Bs):aL Tryz.prog Γ nH [.bool true,.int .i64 e,.str s] (.aB []):=by
 refine .run 60 KA (by simp) ?_;simp;exact .back (by simp)
theorem lY(e:Int)(s:Bs):lx Tryz.prog Γ nH [.bool false,.int .i64 e,.str s] (F6 e s):=by
 refine lx.of (hh:=[]) (by simp) (wA KA _ (.go 60 ?_)) (by simp) (by simp);simp
def m6:List Bs->List Bs->Option Bs
 |_,[]=>none
 |seen,s::l=>if s∈seen then some s else m6 (seen++[s]) l
def iX(l:List Bs):Option Bs:=m6 [] l
abbrev jw(s:Bs):AV×AV:=(.str s,.bool true)
theorem vY(s:Bs):∀l:List Bs,ew (.sc .str) (.str s) (l.map jw)=some (if s∈l then some (.bool true)else none)
 |[]=>rfl
 |a::l=>by
  simp only[b_,ew,cn,eG]
  cases h:(s==a)
  ·have h2:=vn.1 h;simp[vY s l,h2]
  ·have h2:=eq_of_beq h;simp[h2]
theorem Ae{s:Bs}{v:AV}:∀{l:List Bs},s∉l->h_ (.sc .str) (.str s) v (l.map jw)=some (l.map jw++[(.str s,v)])
 |[],_=>rfl
 |a::l,h=>by
  simp only[bu,not_or]at h;simp only[b_,h_,cn,eG];have h2:(s==a)=false:=vn.2 h.1;simp[h2,Ae (v:=v) h.2]
@[simp] theorem Z1(n:Nat):∀l:List Bs,fR n (l.map jw)=true
 |[]=>rfl
 |x::r=>by simp[fR,Z1 n r]
@[simp] theorem Zg(n m:Nat):∀l:List Bs,nj n m (l.map jw)=true
 |[]=>rfl
 |x::r=>by simp[Zg n m r]
@[simp] theorem ab0(n:Nat)(τ:List Nat):∀l:List Bs,mO n τ (l.map jw)=l.map jw
 |[]=>rfl
 |x::r=>by simp[ab0 n τ r]
@[simp] theorem abk(n:Nat)(τ:List Nat):∀l:List Bs,pD n τ (l.map jw)=true
 |[]=>rfl
 |x::r=>by simp[abk n τ r]
def CN(h:List Ob):Prop:=∀m,h.length<=m->cG m h=true
theorem acP(l:List Bs){fl:Bool}{k:Nat}(hk:Kd 1 k l)(hl:l.length<2^40)(h:List Ob)(hw:CN h)(up:List Fr):∀n i:Nat,i+n=l.length->∀seen,m6 seen (l.drop i)=none->AM.Reach Tryz.prog Γ
 (SG (.mp h.length) (.list fl k (l.map .str)) (.int .i64 l.length) (.int .i64 i) (h++[.map (seen.map jw) true]) ⟨[],.norm,h.length,up⟩)
 (.back up (.mp h.length) (h++[.map ((seen++l.drop i).map jw) true])):=by
 intro n
 induction n with
 |zero=>
  intro i hi seen hs
  have q1:¬i<l.length:=by omega
  rw[bw (by omega)];refine .aU 60 ?_;simp[q1]
 |succ n ih=>
  intro i hi seen hs
  have q1:i<l.length:=by omega
  obtain rfl:=hk.of q1;rw[bQ q1]at hs⊢;rw[m6]at hs;have hfi:=vY l[i] seen;have hbw:=hw (h.length+1) (by omega)
  by_cases hm:l[i]∈seen
  ·rw[if_pos hm]at hs;cases hs
  ·rw[if_neg hm]at hs hfi;have hh:=ih (i+1) (by omega) (seen++[l[i]]) hs;have hput:=Ae (v:=.bool true) hm;refine .aU 60 ?_;simp(disch:=omega) [q1,hfi,isKey,bR,cz];refine .jB 60 (by simp) (rQ 5 l[i]) ?_;simp(disch:=omega) [hput,isKey,bR,cz];refine .aH ?_;simp at hh⊢;exact hh
theorem X0(l:List Bs){fl:Bool}{k:Nat}(hk:Kd 1 k l)(hl:l.length<2^40)(h:List Ob)(hw:CN h)(up:List Fr)(s0:Bs):∀n i:Nat,i+n=l.length->∀seen,m6 seen (l.drop i)=some s0->∃h',AM.Reach Tryz.prog Γ
 (SG (.mp h.length) (.list fl k (l.map .str)) (.int .i64 l.length) (.int .i64 i) (h++[.map (seen.map jw) true]) ⟨[],.norm,h.length,up⟩)
 (.die up (F6 5 s0) (h++h')):=by
 intro n
 induction n with
 |zero=>
  intro i hi seen hs;rw[bw (by omega)]at hs
  cases hs
 |succ n ih=>
  intro i hi seen hs
  have q1:i<l.length:=by omega
  obtain rfl:=hk.of q1;rw[bQ q1]at hs;rw[m6]at hs;have hfi:=vY l[i] seen;have hbw:=hw (h.length+1) (by omega)
  by_cases hm:l[i]∈seen
  ·rw[if_pos hm]at hs hfi;obtain rfl:=Option.some.inj hs;refine⟨[.map (seen.map jw) true],?_⟩;refine .aU 60 ?_;simp(disch:=omega) [q1,hfi,isKey,bR,cz];refine .lD 2 (by simp) (lY 5 l[i]) ?_;simp
  ·rw[if_neg hm]at hs hfi;obtain⟨h',hh⟩:=ih (i+1) (by omega) (seen++[l[i]]) hs;refine⟨h',?_⟩;have hput:=Ae (v:=.bool true) hm;refine .aU 60 ?_;simp(disch:=omega) [q1,hfi,isKey,bR,cz];refine .jB 60 (by simp) (rQ 5 l[i]) ?_;simp(disch:=omega) [hput,isKey,bR,cz];refine .aH ?_;simp at hh⊢;exact hh
theorem OT(l:List Bs){fl:Bool}{k:Nat}(hk:Kd 1 k l)(hl:l.length<2^40)(h:List Ob)(hw:CN h)(ht:iX l=none):∀up,AM.Reach Tryz.prog Γ
 (.cl rq [.list fl k (l.map .str)] up h) (.back up (.mp h.length) (h++[.map (l.map jw) true])):=by
 intro up;refine .br 60 Kv ?_;simp;refine .inLoop ?_;have hh:=acP (Γ:=Γ) (fl:=fl) l hk hl h hw up l.length 0 (by omega) [] ht;simp at hh⊢;exact hh
theorem N5(l:List Bs){fl:Bool}{k:Nat}(hk:Kd 1 k l)(hl:l.length<2^40)(h:List Ob)(hw:CN h){s0:Bs}(ht:iX l=some s0):∀up,∃h',AM.Reach Tryz.prog Γ
 (.cl rq [.list fl k (l.map .str)] up h) (.die up (F6 5 s0) (h++h')):=by
 intro up;have hh:=X0 (Γ:=Γ) (fl:=fl) l hk hl h hw up s0 l.length 0 (by omega) [] ht;obtain⟨h',hh⟩:=hh;refine⟨h',?_⟩;refine .br 60 Kv ?_;simp;refine .inLoop ?_;simp at hh⊢;exact hh
def px(c:UInt8):Bool:=decide (c<33)||decide (126<c)
def ja(s:List UInt8):Bool:=!bt px s&&(decide (1<=s.length)&&decide (s.length<=40))
def pz:List UInt8->Nat->Int
 |[],_=>-1
 |c::s,i=>if px c=true then(i:Int)else pz s (i+1)
theorem Mu:∀(s:List UInt8)(i:Nat),decide (pz s i<0)=!bt px s
 |[],i=>by simp[pz,rD]
 |c::s,i=>by
  rw[pz,iT]
  cases h:px c with
  |true=>simp
  |false=>simpa using Mu s (i+1)
theorem K6(r:Int):aL Tryz.prog Γ qZ [.int .i32 r] (.bool (decide (r<=32)||decide (126<r))):=by
 refine .run 60 Uo (by simp) ?_
 by_cases h:r<=32<;>simp[h]<;>exact .back (by simp[h])
theorem VX{s:List UInt8}{i:Nat}(h:i<s.length)(ha:s[i].toNat<128):Utf8.decode ⟨s.toArray⟩ i=(s[i].toNat,1):=by
 exact decode_ascii ⟨s.toArray⟩ i (show i<s.toArray.size by simpa using h) ha
theorem Wt{s:List UInt8}{i:Nat}(h:i<s.length)(ha:128<=s[i].toNat):128<=(Utf8.decode ⟨s.toArray⟩ i).1:=by
 exact(decode_high ⟨s.toArray⟩ i (show i<s.toArray.size by simpa using h) ha).1
set_option maxRecDepth 8000 in
theorem Xj(s:List UInt8)(hs:s.length<2^40):aL Tryz.prog Γ vD [.str s,.fn (.func qZ) [] [],.bool true] (.int .i64 (pz s 0)):=by
 have key:∀n i:Nat,i+n=s.length->aw Tryz.prog Γ (yET (.fn (.func qZ) [] []) (.bool true) (.it 0) [.gK s i]) (.ret (.int .i64 (pz (s.drop i) i))):=by
  intro n
  induction n with
  |zero=>
   intro i hi;rw[bw (by omega),pz]
   have q1:¬i<s.length:=by omega
   refine .go 60 ?_;simp[q1];exact .back (by simp)
  |succ n ih=>
   intro i hi
   have q1:i<s.length:=by omega
   rw[bQ q1,pz];have hh:=ih (i+1) (by omega)
   by_cases ha:s[i].toNat<128
   ·have hd:=VX q1 ha
    have e:(decide ((s[i].toNat:Int)<=32)||decide (126<(s[i].toNat:Int)))=px s[i]:=by
     unfold px;simp only[UInt8.lt_iff_toNat_lt,show(33:UInt8).toNat=33 from rfl,show(126:UInt8).toNat=126 from rfl]
     congr 1<;>exact decide_eq_decide.2 (by omega)
    have hc:=K6 (Γ:=Γ) (s[i].toNat:Int);rw[e]at hc;refine .go 60 ?_;simp[q1,hd];refine .call 60 (by simp) hc ?_
    cases ho:px s[i]with
    |true=>simp;exact .back (by simp)
    |false=>
     simp;refine .aH ?_;simp at hh⊢;exact hh
   ·have hd:=Wt q1 (by omega)
    have ho:px s[i]=true:=by unfold px;simp only[UInt8.lt_iff_toNat_lt,show(33:UInt8).toNat=33 from rfl,show(126:UInt8).toNat=126 from rfl,eX,bf];omega
    rw[ho];have hc:=K6 (Γ:=Γ) ((Utf8.decode ⟨s.toArray⟩ i).1:Int)
    have e:(decide (((Utf8.decode ⟨s.toArray⟩ i).1:Int)<=32)||decide (126<((Utf8.decode ⟨s.toArray⟩ i).1:Int)))=true:=by
     simp only[eX,bf];right;omega
    rw[e]at hc;refine .go 60 ?_;simp[q1];refine .call 60 (by simp) hc ?_;simp;exact .back (by simp)
 refine .run 60 Uz (by simp) ?_;simp;refine .inLoop ?_;have hh:=key s.length 0 (by omega);simp at hh⊢;exact hh
theorem Xf(s:List UInt8)(hs:s.length<2^40):aL Tryz.prog Γ zp [.str s,.fn (.func qZ) [] []] (.int .i64 (pz s 0)):=by
 refine .run 60 Uw (by simp) ?_;simp;refine .call 60 (by simp) (Xj s hs) ?_;simp;exact .back (by simp)
theorem ada(s:List UInt8):aL Tryz.prog Γ zq [.str s] (.bool (ja s)):=by
 refine .run 60 UG (by simp) ?_;unfold ja
 by_cases h0:s=[]
 ·subst h0;simp;exact .back (by simp)
 ·have h1:1<=s.length:=pM.2 h0;have h0':¬s=[]:=h0
  by_cases h2:s.length<=40
  ·have h2':(s.length:Int)<=40:=by omega
   simp[h0,h2,h2'];refine .call 60 (by simp) (Xf s (by omega)) ?_;have e:=Mu s 0;simp[e];exact .back (by simp[h0,h1,h2])
  ·have h2':¬(s.length:Int)<=40:=by omega
   simp[h0,h2,h2'];exact .back (by simp[h2])
theorem O9(s:List UInt8):aL Tryz.prog Γ vP [.str s] (.bool (ja s)):=by
 refine .run 60 WK (by simp) ?_;simp;refine .call 60 (by simp) (ada s) ?_;simp;exact .back (by simp)
theorem U5{φ:List Ob->Prop}{f:FuncId}{caps:List AV}{p:Gt->Bool}{l:List Gt}{k:Nat}{fl:Bool}(ha:ij Tryz.prog Γ φ f caps cR p l)(hk:Kd 5 k l)(hs:l.length<2^60){h:List Ob}(hφ:φ h):
 ∀up,AM.Reach Tryz.prog Γ (.cl vt [.list fl k (l.map cR),.fn (.func f) [] caps] up h) (.back up (.int .i64 (eB p l 0)) h):=by
 intro up
 have key:∀n i:Nat,i+n=l.length->AM.Reach Tryz.prog Γ (ywu (.list fl k (l.map cR)) (.fn (.func f) [] caps) (.int .i64 l.length) (.int .i64 i) h ⟨[],.norm,h.length,up⟩) (.back up (.int .i64 (eB p (l.drop i) i)) h):=by
  intro n
  induction n with
  |zero=>
   intro i hi
   have h1:¬i<l.length:=by omega
   refine .aU 60 ?_;rw[bw (by omega)];simp[h1,eB]
  |succ n ih=>
   intro i hi
   have h1:i<l.length:=by omega
   obtain rfl:=hk.of h1;have h2:=ha.2 l[i] (bz h1);rw[bQ h1,eB];have hh:=ih (i+1) (by omega);refine .aU 60 ?_;simp[h1,ha.1];refine .aX 60 (fun up=>h2 up h hφ) ?_
   cases hp:p l[i]with
   |true=>simp(disch:=omega) [hp]
   |false=>
    simp(disch:=omega) [hp];refine .aH ?_;simp at hh⊢;exact hh
 refine .br 60 Tw ?_;simp;refine .inLoop ?_;have hh:=key l.length 0 (by omega);simp at hh⊢;exact hh
theorem Jy{φ:List Ob->Prop}{f:FuncId}{caps:List AV}{p:Gt->Bool}{l:List Gt}{k:Nat}{fl:Bool}(ha:ij Tryz.prog Γ φ f caps cR p l)(hk:Kd 5 k l)(hs:l.length<2^60){h:List Ob}(hφ:φ h):
 ∀up,AM.Reach Tryz.prog Γ (.cl zh [.list fl k (l.map cR),.fn (.func f) [] caps] up h) (.back up (.bool (bt p l)) h):=by
 intro up;refine .br 60 Ts ?_;simp;refine .aX 60 (U5 ha hk hs hφ) ?_;have h1:=A4 p l 0
 cases hp:bt p l with
 |true=>rw[hp]at h1;simp at h1;simp[h1]
 |false=>
  rw[hp]at h1
  have h2:¬0<=eB p l 0:=by rw[h1];simp
  simp[h2]
def rN(g:Gt):Bool:=decide (8<g.ins.length)||decide (128<g.rows.length)
def jd(c:Ct):Bool:=bt rN c.af||(decide (200<c.aE.length+c.ak.length+c.af.length)||decide (200<c.bg.length))
def ia(N:List Bs):List Bs->Int×Bs
 |[]=>(0,[])
 |s::l=>if s∈N then ia N l else(6,s)
def jD(r:Int×Bs):List Gt->Int×Bs
 |[]=>r
 |g::l=>if jE g=true then jD r l else(1,g.name)
def mb(q:Lt):Bool:=decide (0<=q.init)&&decide (q.init<=2)
def kN(r:Int×Bs):List Lt->Int×Bs
 |[]=>r
 |q::l=>if mb q=true then kN r l else(1,q.name)
def nT(r:Int×Bs):List Bs->Int×Bs
 |[]=>r
 |s::l=>if ja s=true then nT r l else(4,s)
def mH:Option Bs->Int×Bs->Int×Bs
 |some s,_=>(5,s)
 |none,r=>r
def iz(c:Ct):Int×Bs:=
 if jd c=true then(8,[])else nT (mH (iX (aD c)) (mH (iX c.bg) (kN (jD (ia (aD c) (eS c)) c.af) c.ak))) (qf c)
abbrev sn(r:Int×Bs):AV:=.aB [.int .i64 r.1,.str r.2]
theorem acJ(g:Gt):aL Tryz.prog Γ vJ [cR g] (.bool (rN g)):=by
 refine .run 60 V3 (by simp) ?_;unfold rN;have e1:((8:Int)<g.ins.length)=(8<g.ins.length):=propext (by omega);have e2:((128:Int)<g.rows.length)=(128<g.rows.length):=propext (by omega)
 by_cases h1:8<g.ins.length<;>simp[e1,e2,h1]<;>exact .back (by simp[h1])
theorem NN(l:List Gt):ij Tryz.prog Γ (fun _=>True) vJ [] cR rN l:=by
 refine⟨by simp,fun g hg up h hφ=>?_⟩;exact Reach.aga (by simp) (acJ g) (fun _=>rfl) (by simp) up
abbrev B3:Cx:=⟨[.call zG [.ptr 1 0,.ptr 2 0]],.norm,0,[]⟩
abbrev ID(c:Ct):List Ob:=[.cells (AV.cells (bL c)),.cells [.int .i64 0],.cells [.str []]]
abbrev sv(c:Ct)(N:List Bs):List Ob:=[.cells (AV.cells (bL c)),.cells [.int .i64 0],.cells [.str []],.map (N.map jw) true]
set_option maxRecDepth 8000 in
theorem afp(c:Ct)(N:List Bs)(l:List Bs)(hl:l.length<2^40):∀n i:Nat,i+n=l.length->
 aw Tryz.prog Γ (yil (.ptr 1 0) (.ptr 2 0) (.mp 3) (.list false 1 (l.map .str)) (.int .i64 l.length) (.int .i64 i) (sv c N) B3) (.ret (sn (ia N (l.drop i)))):=by
 intro n
 induction n with
 |zero=>
  intro i hi
  have q1:¬i<l.length:=by omega
  rw[bw (by omega),ia];refine .go 160 ?_;simp[q1];exact .back (by simp)
 |succ n ih=>
  intro i hi
  have q1:i<l.length:=by omega
  have hfi:=vY l[i] N;rw[bQ q1,ia];have hh:=ih (i+1) (by omega);refine .go 160 ?_
  by_cases hm:l[i]∈N
  ·rw[if_pos hm]at hfi⊢;simp[q1,hfi,isKey,bR,cz];refine .call 160 (by simp) (rQ 6 l[i]) ?_;simp(disch:=omega);refine .aH ?_;simp at hh⊢;exact hh
  ·rw[if_neg hm]at hfi⊢;simp[q1,hfi,isKey,bR,cz];refine .lD 160 (by simp) (lY 6 l[i]) ?_;simp;refine .dr 90 ?_;simp;exact .back (by simp)
theorem ad4:eZ (nn Iv) Iv.length []=[[0,1,2,3,4],[0,2,1,3,4],[0,2,3,1,4],[2,0,1,3,4],[2,0,3,1,4],[2,3,0,1,4]]:=by rfl
set_option maxRecDepth 8000 in
theorem ae6(hΓ:eT Γ)(c:Ct)(hc:bW c)(N:List Bs):∀n i:Nat,i+n=c.af.length->
 aw Tryz.prog Γ (yin (.ptr 0 0) (.ptr 1 0) (.ptr 2 0) (.mp 3) (.list false c.kG (c.af.map cR)) (.int .i64 c.af.length) (.int .i64 i) (sv c N) B3) (.ret (sn (jD (ia N (eS c)) (c.af.drop i)))):=by
 have b:=hc.2.2.2.1;have b1:=wK hc;have b2:=hc.2.1;have b3:=hc.2.2.1;intro n
 induction n with
 |zero=>
  intro i hi
  have q1:¬i<c.af.length:=by omega
  have hh:=afp (Γ:=Γ) c N (eS c) (by simp only[eS,bN,iq];omega) (eS c).length 0 (by omega);rw[bw (by omega),jD];refine .go 160 ?_;simp[q1];refine .call 1 (by simp) (aeY c hc) ?_;simp;refine .trees [92] ?_;refine .drop 4 rfl (by simp) (by simp) (by simp) ?_;refine .go 60 ?_;simp;refine .inLoop ?_;simp at hh⊢;exact hh
 |succ n ih=>
  intro i hi
  have q1:i<c.af.length:=by omega
  have q2:=c.hG.of q1;have hG:=O1 hΓ c.af[i] (hc.2.2.2.2.1 _ (bz q1));rw[bQ q1,jD];have hh:=ih (i+1) (by omega)
  cases hb:jE c.af[i]with
  |true=>
   rw[hb]at hG;refine .go 160 ?_;simp[q1,q2];refine .dr 160 ?_;simp;refine eV.call (by simp) hG ?_;simp;refine eV.call (by simp) (rQ 1 c.af[i].name) ?_;simp(disch:=omega);refine .aH ?_;simp;refine .drop 4 rfl (by simp) (by simp) (by simp) ?_;simp[q2,sv]at hh⊢;exact hh
  |false=>
   rw[hb]at hG;refine .go 160 ?_;simp[q1,q2];refine .RE 60 ?_;rw[ad4];intro l hl;simp only[bu,pR,pG]at hl
   rcases hl with rfl|rfl|rfl|rfl|rfl|rfl
   all_goals
    simp;refine .xj 60 (by simp) hG ?_;simp;refine .lD 160 (by simp) (lY 1 c.af[i].name) ?_;simp;refine .dr 90 ?_;simp;exact .back (by simp)
set_option maxRecDepth 8000 in
theorem afO(hΓ:eT Γ)(c:Ct)(hc:bW c)(N:List Bs):∀n i:Nat,i+n=c.ak.length->
 aw Tryz.prog Γ (yip (.ptr 0 0) (.ptr 1 0) (.ptr 2 0) (.mp 3) (.list false c.kL (c.ak.map od)) (.int .i64 c.ak.length) (.int .i64 i) (sv c N) B3) (.ret (sn (kN (jD (ia N (eS c)) c.af) (c.ak.drop i)))):=by
 have b:=hc.2.2.2.1;have b3:=hc.2.2.1;intro n
 induction n with
 |zero=>
  intro i hi
  have q1:¬i<c.ak.length:=by omega
  have hh:=ae6 (Γ:=Γ) hΓ c hc N c.af.length 0 (by omega);rw[bw (by omega),kN];refine .go 160 ?_;simp[q1];refine .inLoop ?_;simp[sv]at hh⊢;exact hh
 |succ n ih=>
  intro i hi
  have q1:i<c.ak.length:=by omega
  have q2:=c.hL.of q1;rw[bQ q1,kN];have hh:=ih (i+1) (by omega);refine .go 160 ?_
  by_cases h1:0<=c.ak[i].init
  ·by_cases h2:c.ak[i].init<=2
   ·have e:mb c.ak[i]=true:=by simp[mb,h1,h2]
    simp[q1,q2,h1,h2,e];refine .call 160 (by simp) (rQ 1 c.ak[i].name) ?_;simp(disch:=omega);refine .aH ?_;simp;refine .drop 4 rfl (by simp) (by simp) (by simp) ?_;simp[q2,sv]at hh⊢;exact hh
   ·have e:mb c.ak[i]=false:=by simp[mb,h2]
    simp[q1,q2,h1,h2,e];refine .lD 160 (by simp) (lY 1 c.ak[i].name) ?_;simp;refine .dr 90 ?_;simp;exact .back (by simp)
  ·have e:mb c.ak[i]=false:=by simp[mb,h1]
   simp[q1,q2,h1,e];refine .lD 160 (by simp) (lY 1 c.ak[i].name) ?_;simp;refine .dr 90 ?_;simp;exact .back (by simp)
theorem aw.j6{P:Program}(n:Nat){f:FuncId}{args:List AV}{up:List Fr}{h:List Ob}{v:AV}{o:Out}(h1:∀up,∃h',AM.Reach P Γ (.cl f args up h) (.die up v (h++h')))(h2:∀h',aw P Γ (AM.go P Γ 0 n (.die up v (h++h'))) o):aw P Γ (.cl f args up h) o:=by
 obtain⟨h',hr⟩:=h1 up;exact .reach hr (.go n (h2 h'))
set_option maxRecDepth 8000 in
theorem afy(hΓ:eT Γ)(c:Ct)(hc:bW c)(l:List Bs):∀n i:Nat,i+n=l.length->l.length<2^40->
 aw Tryz.prog Γ (yir (.ptr 0 0) (.ptr 1 0) (.ptr 2 0) (.list false 1 (l.map .str)) (.int .i64 l.length) (.int .i64 i) (ID c) B3)
  (.ret (sn (nT (mH (iX (aD c)) (mH (iX c.bg) (kN (jD (ia (aD c) (eS c)) c.af) c.ak))) (l.drop i)))):=by
 have b0:=hc.1;have b1:=hc.2.1;have b3:=hc.2.2.1;have b4:=hc.2.2.2.1;intro n
 induction n with
 |zero=>
  intro i hi hL
  have q1:¬i<l.length:=by omega
  have hN:(aD c).length<2^40:=by simp[aD];omega
  rw[bw (by omega),nT];refine .go 160 ?_;simp[q1];refine .call 1 (by simp) (F7 c hc) ?_;simp;refine .trees [54] ?_;simp;refine .go 2 ?_;simp
  cases ht:iX (aD c)with
  |some s0=>
   refine aw.j6 160 (N5 (Γ:=Γ) (fl:=false) (aD c) .self hN _ (by intro m hm;simp) ht) (fun h'=>?_);simp;refine .dr 90 ?_;simp;exact .back (by simp[mH])
  |none=>
   refine .aX 160 (OT (Γ:=Γ) (fl:=false) (aD c) .self hN _ (by intro m hm;simp) ht) ?_;simp
   cases hu:iX c.bg with
   |some s0=>
    refine aw.j6 160 (N5 (Γ:=Γ) (fl:=false) c.bg c.hO (by omega) _ (by intro m hm;simp) hu) (fun h'=>?_);simp;refine .dr 90 ?_;simp;exact .back (by simp[mH])
   |none=>
    have hh:=afO (Γ:=Γ) hΓ c hc (aD c) c.ak.length 0 (by omega);refine .aX 160 (OT (Γ:=Γ) (fl:=false) c.bg c.hO (by omega) _ (by intro m hm;simp) hu) ?_;simp;refine .inLoop ?_;simp;refine .gc 3 [1] (by simp) (by decide) ?_;simp[sv,mH]at hh⊢;exact hh
 |succ n ih=>
  intro i hi hL
  have q1:i<l.length:=by omega
  rw[bQ q1,nT];have hh:=ih (i+1) (by omega) hL;refine .go 160 ?_;simp[q1];refine .call 160 (by simp) (O9 l[i]) ?_
  cases hb:ja l[i]with
  |true=>
   simp;refine .call 160 (by simp) (rQ 4 l[i]) ?_;simp(disch:=omega);refine .aH ?_;simp at hh⊢;exact hh
  |false=>
   simp;refine .lD 160 (by simp) (lY 4 l[i]) ?_;simp;refine .dr 90 ?_;simp;exact .back (by simp)
set_option maxRecDepth 8000 in
theorem adG(hΓ:eT Γ)(c:Ct)(hc:bW c):aL Tryz.prog Γ nF [bL c] (sn (iz c)):=by
 have b0:=hc.1;have b1:=hc.2.1;have b3:=hc.2.2.1;have b4:=hc.2.2.2.1;have t1:=tX hc;have t2:=wB hc;have hC:=Jy (Γ:=Γ) (fl:=false) (NN c.af) c.hG (by omega) (h:=ID c) trivial;have e0:((c.aE.length:Int)+c.ak.length+c.af.length<=200)=(c.aE.length+c.ak.length+c.af.length<=200):=propext (by omega);have e1:((c.bg.length:Int)<=200)=(c.bg.length<=200):=propext (by omega);refine .run 160 Kg (by simp) ?_;unfold iz
 by_cases h1:c.aE.length+c.ak.length+c.af.length<=200
 ·by_cases h2:c.bg.length<=200
  ·simp(disch:=omega) [e0,e1,h1,h2];refine .aX 160 hC ?_
   cases h3:bt rN c.af with
   |true=>
    have hl:jd c=true:=by simp[jd,h3]
    simp;refine .lD 160 (by simp) (lY 8 []) ?_;simp;refine .dr 90 ?_;simp;exact .back (by simp[hl])
   |false=>
    have hl:jd c=false:=by
     simp only[jd,h3,nz,jQ,jn];omega
    have hh:=afy (Γ:=Γ) hΓ c hc (qf c) (qf c).length 0 (by omega) (by simp[qf];omega);simp;refine .call 160 (by simp) (rQ 8 []) ?_;simp;refine .call 1 (by simp) (aeh c hc) ?_;simp;refine .trees [42] ?_;simp;refine .drop 3 rfl (by simp) (by simp) (by simp) ?_;refine .go 60 ?_;simp;refine .inLoop ?_;simp[hl]at hh⊢;exact hh
  ·have hl:jd c=true:=by
    simp only[jd,eX,bf];right;right;omega
   simp(disch:=omega) [e0,e1,h1,h2];refine .lD 160 (by simp) (lY 8 []) ?_;simp;refine .dr 90 ?_;simp;exact .back (by simp[hl])
 ·have hl:jd c=true:=by
   simp only[jd,eX,bf];right;left;omega
  simp(disch:=omega) [e0,e1,h1];refine .lD 160 (by simp) (lY 8 []) ?_;simp;refine .dr 90 ?_;simp;exact .back (by simp[hl])
def jf(s:List UInt8):List (List UInt8)->Nat->Int
 |[],_=>-1
 |a::l,i=>if s=a then(i:Int)else jf s l (i+1)
theorem MZ(s:List UInt8):∀(l:List (List UInt8))(i:Nat),decide (0<=jf s l i)=l.contains s
 |[],i=>by simp[jf]
 |a::l,i=>by
  rw[jf,List.contains_cons]
  by_cases h:s=a
  ·rw[if_pos h];simp[h]
  ·rw[if_neg h,MZ s l (i+1)]
   have:(s==a)=false:=by simpa using h
   rw[this];rfl
theorem No(l:List (List UInt8))(s:List UInt8){k:Nat}(hk:Kd 1 k l)(hl:l.length<2^40):aL Tryz.prog Γ sR [.list false k (l.map .str),.str s] (.int .i64 (jf s l 0)):=by
 have key:∀n i:Nat,i+n=l.length->aw Tryz.prog Γ (yfa (.list false k (l.map .str)) (.str s) (.int .i64 l.length) (.int .i64 i) []) (.ret (.int .i64 (jf s (l.drop i) i))):=by
  intro n
  induction n with
  |zero=>
   intro i hi
   have q1:¬i<l.length:=by omega
   rw[bw (by omega),jf];refine .go 60 ?_;simp[q1];exact .back (by simp)
  |succ n ih=>
   intro i hi
   have q1:i<l.length:=by omega
   have q2:=bY (hk.of q1);have hh:=ih (i+1) (by omega);rw[bQ q1,jf];refine .go 60 ?_
   by_cases h:s=l[i]
   ·simp[q1,q2,h];exact .back (by simp)
   ·simp(disch:=omega) [q1,q2,h];refine .aH ?_;simp at hh⊢;exact hh
 refine .run 60 TQ (by simp) ?_;simp;refine .inLoop ?_;have hh:=key l.length 0 (by omega);simp at hh⊢;exact hh
theorem Di(a b:List (List UInt8)){ka kb:Nat}(ha:Kd 1 ka a)(hb:Kd 1 kb b)(hs:a.length<2^60):aL Tryz.prog Γ qX [.list false ka (a.map AV.str),.list false kb (b.map AV.str)] (.bool (decide (a=b))):=by
 refine .run 60 TP (by simp) ?_
 by_cases hl:a.length=b.length
 ·have key:∀n i:Nat,i+n=a.length->aw Tryz.prog Γ (yms (.list false ka (a.map AV.str)) (.list false kb (b.map AV.str)) (.int .i64 a.length) (.int .i64 i) []) (.ret (.bool (decide (a.drop i=b.drop i)))):=by
   intro n
   induction n with
   |zero=>
    intro i hi;refine .go 60 ?_
    have h1:¬i<a.length:=by omega
    have h2:a.drop i=b.drop i:=by rw[bw (by omega),bw (by omega)]
    simp[h1,h2];exact .back (by simp)
   |succ n ih=>
    intro i hi
    have h1:i<a.length:=by omega
    have h2:i<b.length:=by omega
    obtain rfl:=ha.of h1;obtain rfl:=hb.of h2;have h4:=drop_eq h1 h2;refine .go 60 ?_
    by_cases h3:a[i]=b[i]
    ·simp(disch:=omega) [h1,h2,h3,h4];refine .aH ?_;simpa using ih (i+1) (by omega)
    ·simp(disch:=omega) [h1,h2,h3,h4];exact .back (by simp)
  simp[hl];refine .inLoop ?_;simpa[hl]using key a.length 0 (by omega)
 ·have h2:¬a=b:=fun e=>hl (by rw[e])
  simp[hl,h2];exact .back (by simp)
theorem Xy(a b:List (List UInt8)){ka kb:Nat}(ha:Kd 1 ka a)(hb:Kd 1 kb b)(hs:a.length<2^60):aL Tryz.prog Γ vZ [.list false ka (a.map .str),.list false kb (b.map .str)] (.bool (decide (a=b))):=by
 refine .run 60 XK (by simp) ?_
 by_cases hl:a.length=b.length
 ·have key:∀n i:Nat,i+n=a.length->aw Tryz.prog Γ (ycs (.list false ka (a.map .str)) (.list false kb (b.map .str)) (.int .i64 i) []) (.ret (.bool (decide (a.drop i=b.drop i)))):=by
   intro n
   induction n with
   |zero=>
    intro i hi;refine .go 60 ?_
    have h1:¬i<a.length:=by omega
    have h2:a.drop i=b.drop i:=by rw[bw (by omega),bw (by omega)]
    simp[h1,h2];exact .back (by simp)
   |succ n ih=>
    intro i hi
    have h1:i<a.length:=by omega
    have h2:i<b.length:=by omega
    obtain rfl:=ha.of h1;obtain rfl:=hb.of h2;have h4:=drop_eq h1 h2;refine .go 60 ?_
    by_cases h3:a[i]=b[i]
    ·simp(disch:=omega) [h1,h2,h3,h4];refine .aH ?_;simpa using ih (i+1) (by omega)
    ·simp(disch:=omega) [h1,h2,h3,h4];exact .back (by simp)
  simp[hl];refine .inLoop ?_;simpa[hl]using key a.length 0 (by omega)
 ·have h2:¬a=b:=fun e=>hl (by rw[e])
  simp[hl,h2];exact .back (by simp)
theorem NL{c:Ct}(hc:bW c):(aD c).length<2^12:=by
 have b0:=hc.1;have b3:=hc.2.2.1;have b4:=hc.2.2.2.1
 simp[aD];omega
abbrev Gt.key(g:Gt):Bs×Int×Bool×List Bs×List Bs:=(g.name,g.op,g.off,g.ins,g.rows)
end Go.Proofs.YtihmomicdpkabaaGreatDoor
namespace Go.Proofs.YtihmomicdpkabaaGreatDoor
open Go.AM Go.Proofs
theorem m7(a b:List UInt8):cn (.sc .str) (.str a) (.str b)=some (decide (a=b)):=by
 simp only[cn,eG]
 by_cases h:a=b<;>simp[h]
theorem Br(a b:Nat):cn (.sc .int) (.int .i64 a) (.int .i64 b)=some (decide (a=b)):=by
 simp only[cn,eG]
 by_cases h:a=b
 ·simp[h]
 ·have h2:¬(a:Int)=b:=by omega
  simp[h,h2]
section
variable{K:Type}[DecidableEq K]{E:EK}{e:K->AV}(he:∀a b,cn E (e a) (e b)=some (decide (a=b)))
def getM{V:Type}(k:K):List (K×V)->Option V
 |[]=>none
 |(a,v)::l=>if k=a then some v else getM k l
def n3{V:Type}(k:K)(l:List (K×V)):List (K×V):=l.filter fun x=>decide (¬x.1=k)
theorem getM_none{V:Type}{k:K}:∀{l:List (K×V)},getM k l=none↔∀x∈l,¬x.1=k
 |[]=>by simp[getM]
 |(a,v)::l=>by
  rw[getM]
  by_cases h:k=a
  ·rw[if_pos h];simp[h]
  ·rw[if_neg h,getM_none];simp only[bu,Je];exact⟨fun h1=>⟨fun h2=>h h2.symm,h1⟩,fun h1=>h1.2⟩
include he
theorem v_{V:Type}(ev:V->AV)(k:K):∀l:List (K×V),ew E (e k) (l.map fun x=>(e x.1,ev x.2))=some ((getM k l).map ev)
 |[]=>rfl
 |(a,v)::l=>by
  simp only[b_,ew,he,getM]
  by_cases h:k=a
  ·simp[h]
  ·simp only[h,mR,db];exact v_ ev k l
theorem wm{V:Type}(ev:V->AV){k:K}(v:V):∀{l:List (K×V)},getM k l=none->h_ E (e k) (ev v) (l.map fun x=>(e x.1,ev x.2))=some ((l++[(k,v)]).map fun x=>(e x.1,ev x.2))
 |[],_=>rfl
 |(a,u)::l,h=>by
  rw[getM]at h
  by_cases h2:k=a
  ·rw[if_pos h2]at h;cases h
  ·rw[if_neg h2]at h;simp only[b_,h_,he,h2,mR,wm ev v h,du,eO]
theorem L1{V:Type}(ev:V->AV)(k:K):∀{l:List (K×V)},(l.map (·.1)).Nodup->mi E (e k) (l.map fun x=>(e x.1,ev x.2))=some ((n3 k l).map fun x=>(e x.1,ev x.2))
 |[],_=>rfl
 |(a,u)::l,h=>by
  simp only[b_,lW]at h
  by_cases h2:k=a
  ·subst h2
   have h3:n3 k l=l:=by
    unfold n3;rw[zb];intro x hx
    refine qV fun hn=>h.1 ?_
    rw[<-hn];exact pP hx
   have h4:n3 k ((k,u)::l)=l:=by rw[<-h3];simp[n3]
   simp only[b_,mi,he,decide_true,h4]
  ·have h4:n3 k ((a,u)::l)=(a,u)::n3 k l:=by
    unfold n3;rw[zd,if_pos (by simpa using fun h=>h2 h.symm)]
   simp only[b_,mi,he,h2,mR,L1 ev k h.2,du,h4]
end
end Go.Proofs.YtihmomicdpkabaaGreatDoor
namespace Go.Proofs.YtihmomicdpkabaaGreatDoor
open Go.AM Go.Proofs
variable{Γ:Nat->Option AV}
def cj(c:Ct):List (Bs×Nat):=c.af.zipIdx.map fun x=>(x.1.name,x.2)
abbrev gU(x:Bs×Nat):AV×AV:=(.str x.1,.int .i64 x.2)
theorem nO(m:Nat):∀l:List (Bs×Nat),fR m (l.map gU)=true
 |[]=>rfl
 |x::l=>by simp[nO m l]
theorem ub(c:Ct):(cj c).length=c.af.length:=by simp[cj]
theorem wY(c:Ct)(i:Nat)(h:i<c.af.length):(cj c)[i]'(by rw[ub];exact h)=(c.af[i].name,i):=by simp[cj]
theorem abj(c:Ct):(cj c).map (·.1)=c.af.map (·.name):=by
 apply List.ext_getElem
 ·simp[cj]
 ·intro i h1 h2;simp[cj]
theorem Zk{c:Ct}(hd:(c.af.map (·.name)).Nodup){i:Nat}(h:i<c.af.length):getM c.af[i].name ((cj c).take i)=none:=by
 rw[getM_none];intro x hx hn;obtain⟨j,hj,rfl⟩:=ku hx
 have hj':j<i:=by simp at hj;omega
 rw[pI,wY c j (by omega)]at hn
 have h1:(c.af.map (·.name))[j]'(by simp;omega)=(c.af.map (·.name))[i]'(by simp;omega):=by simpa using hn
 have:=(ze hd).1 h1;omega
set_option maxRecDepth 8000 in
theorem Nc(c:Ct)(hc:bW c)(hd:(c.af.map (·.name)).Nodup){h:List Ob}(hw:cu h)(up:List Fr):
 AM.Reach Tryz.prog Γ (.cl s9 [bL c] up h) (.back up (.mp (h.length+1)) (h++[.cells (AV.cells (bL c)),.map ((cj c).map gU) true])):=by
 have hG:=c.hG;have hb:=hw (h.length+2) (by omega)
 have key:∀n i:Nat,i+n=c.af.length->AM.Reach Tryz.prog Γ (ynn (.mp (h.length+1)) (.list false c.kG (c.af.map cR)) (.int .i64 c.af.length) (.int .i64 i) (h++[.cells (AV.cells (bL c)),.map (((cj c).take i).map gU) true]) ⟨[],.norm,h.length,up⟩)
  (.back up (.mp (h.length+1)) (h++[.cells (AV.cells (bL c)),.map ((cj c).map gU) true])):=by
  intro n
  induction n with
  |zero=>
   intro i hi
   have q1:¬i<c.af.length:=by omega
   rw[cd (by rw[ub];omega)];refine .aU 60 ?_;simp[q1]
  |succ n ih=>
   intro i hi
   have q1:i<c.af.length:=by omega
   have q2:=bY (hG.of q1);have hh:=ih (i+1) (by omega)
   have q3:i<(cj c).length:=by rw[ub];exact q1
   have e1:(cj c).take (i+1)=(cj c).take i++[(c.af[i].name,i)]:=by rw[gC q3,wY c i q1]
   rw[e1]at hh;have hput:=wm (E:=.sc .str) (e:=AV.str) m7 (fun n:Nat=>AV.int .i64 n) i (Zk hd q1);have hbp:=nO (h.length+2) ((cj c).take i++[(c.af[i].name,i)])
   have hi2:i<2^10:=by have:=hc.2.2.2.1;omega
   generalize(cj c).take i=P at*;refine .aU 60 ?_;simp(disch:=omega) [q1,q2,isKey,bR,cz,hput];refine .aH ?_;simp;refine .j0 (h.length+2) (by simp;rfl) (by simp) (by simp) (by simp[hb]at hbp⊢;exact hbp) ?_;simp at hh⊢;exact hh
 refine .br 60 VC ?_;simp;refine .inLoop ?_;have hh:=key c.af.length 0 (by omega);simp at hh⊢;exact hh
abbrev gL(c:Ct):AV:=.list false c.kG (c.af.map cR)
abbrev tR(p:Nat)(x2 x3 a b c d e f g h i w:AV):List AV:=[U,.ptr p 0,x2,x3,w,U,U,U,U,U,U,U,U,a,b,c,d,e,f,g,h,i]++List.replicate 58 U
abbrev hW(c:Ct)(n:Nat):List Ob:=[.cells [.sl (n+1) 0 c.af.length,.sl (n+2) 0 c.af.length],.row 1 jR (List.replicate c.af.length .c8) none true false,.row 1 iW (List.replicate c.af.length (.list true 0 [])) none true false]
abbrev oe:=List Nat×List Nat
abbrev Hh:List (List Nat):=[[],[0],[1],[2,2],[],[4],[5],[6,6],[3,7],[],[9,8,0,1,2,3,4,5,6,7,8,9]]
abbrev QS(x:oe):List Nat:=(List.range 11).filter (kH Hh x.1)
def GK(i:Nat):List Nat->List Nat
 |[]=>[i]
 |a::l=>if i<a then i::a::l else a::GK i l
def np(i:Nat)(x:oe):oe:=(GK i x.1,if i==3||i==7||i==9 then x.2++[i]else x.2)
def mF(y:Nat):List Nat->Nat
 |[]=>0
 |a::l=>if a==y then 0 else(if a==9 then 3 else 1)+mF y l
abbrev sG(c:Ct)(H:List Ob)(j:Nat):AV:=.sl (H.length+j) 0 c.af.length
def yW(c:Ct)(p:Nat)(H:List Ob)(x:oe):Nat->AV
 |0=>.ptr p 3|4=>.ptr p 3|1=>gL c|5=>gL c|2=>.int .i64 c.af.length|6=>.int .i64 c.af.length
 |3=>sG c H (mF 3 x.2)|7=>sG c H (mF 7 x.2)|8=>.agg [sG c H (mF 3 x.2),sG c H (mF 7 x.2)]|9=>.ptr (H.length+mF 9 x.2) 0|_=>.aB []
def zW(c:Ct)(p:Nat)(H:List Ob)(x:oe)(i:Nat):AV:=if x.1.contains i then yW c p H x i else U
def tW(c:Ct)(p:Nat)(x2 x3:AV)(H:List Ob)(x:oe):List AV:=tR p x2 x3 (zW c p H x 0) (zW c p H x 1) (zW c p H x 2) (zW c p H x 3) (zW c p H x 4) (zW c p H x 5) (zW c p H x 6) (zW c p H x 7) (zW c p H x 8) (zW c p H x 9)
def Hb(c:Ct)(H:List Ob)(x:oe)(i:Nat):List Ob:=
 if i==3 then[.row 1 jR (List.replicate c.af.length .c8) none true false]else if i==7 then[.row 1 iW (List.replicate c.af.length (.list true 0 [])) none true false]
 else[.cells (if x.1.contains 10 then[sG c H (mF 3 x.2),sG c H (mF 7 x.2)]else[.sl (H.length+(mF 9 x.2+1)) 0 0,.sl (H.length+(mF 9 x.2+2)) 0 0]),.row 1 jR [] none true false,.row 1 iW [] none true false]
def qB(c:Ct)(H:List Ob)(x:oe):List Ob:=H++x.2.flatMap (Hb c H x)
abbrev uL:List oe:=[([],[]),([0],[]),([4],[]),([9],[9]),([0,1],[]),([0,4],[]),([0,9],[9]),([4,5],[]),([4,9],[9]),([0,1,2],[]),([0,1,4],[]),([0,1,9],[9]),([0,4,5],[]),([0,4,9],[9]),([4,5,6],[]),([4,5,9],[9]),([0,1,2,3],[3]),([0,1,2,4],[]),([0,1,2,9],[9]),([0,1,4,5],[]),([0,1,4,9],[9]),([0,4,5,6],[]),([0,4,5,9],[9]),([4,5,6,7],[7]),([4,5,6,9],[9]),([0,1,2,3,4],[3]),([0,1,2,3,9],[3,9]),([0,1,2,3,9],[9,3]),([0,1,2,4,5],[]),([0,1,2,4,9],[9]),([0,1,4,5,6],[]),([0,1,4,5,9],[9]),([0,4,5,6,7],[7]),([0,4,5,6,9],[9]),([4,5,6,7,9],[7,9]),([4,5,6,7,9],[9,7]),([0,1,2,3,4,5],[3]),([0,1,2,3,4,9],[3,9]),([0,1,2,3,4,9],[9,3]),([0,1,2,4,5,6],[]),([0,1,2,4,5,9],[9]),([0,1,4,5,6,7],[7]),([0,1,4,5,6,9],[9]),([0,4,5,6,7,9],[7,9]),([0,4,5,6,7,9],[9,7]),([0,1,2,3,4,5,6],[3]),([0,1,2,3,4,5,9],[3,9]),([0,1,2,3,4,5,9],[9,3]),([0,1,2,4,5,6,7],[7]),([0,1,2,4,5,6,9],[9]),([0,1,4,5,6,7,9],[7,9]),([0,1,4,5,6,7,9],[9,7]),([0,1,2,3,4,5,6,7],[3,7]),([0,1,2,3,4,5,6,7],[7,3]),([0,1,2,3,4,5,6,9],[3,9]),([0,1,2,3,4,5,6,9],[9,3]),([0,1,2,4,5,6,7,9],[7,9]),([0,1,2,4,5,6,7,9],[9,7]),([0,1,2,3,4,5,6,7,8],[3,7]),([0,1,2,3,4,5,6,7,8],[7,3]),([0,1,2,3,4,5,6,7,9],[3,7,9]),([0,1,2,3,4,5,6,7,9],[3,9,7]),([0,1,2,3,4,5,6,7,9],[7,3,9]),([0,1,2,3,4,5,6,7,9],[7,9,3]),([0,1,2,3,4,5,6,7,9],[9,3,7]),([0,1,2,3,4,5,6,7,9],[9,7,3]),([0,1,2,3,4,5,6,7,8,9],[3,7,9]),([0,1,2,3,4,5,6,7,8,9],[3,9,7]),([0,1,2,3,4,5,6,7,8,9],[7,3,9]),([0,1,2,3,4,5,6,7,8,9],[7,9,3]),([0,1,2,3,4,5,6,7,8,9],[9,3,7]),([0,1,2,3,4,5,6,7,8,9],[9,7,3]),([0,1,2,3,4,5,6,7,8,9,10],[3,7,9]),([0,1,2,3,4,5,6,7,8,9,10],[3,9,7]),([0,1,2,3,4,5,6,7,8,9,10],[7,3,9]),([0,1,2,3,4,5,6,7,8,9,10],[7,9,3]),([0,1,2,3,4,5,6,7,8,9,10],[9,3,7]),([0,1,2,3,4,5,6,7,8,9,10],[9,7,3])]
section
variable{c:Ct}{p:Nat}{x2 x3:AV}{H:List Ob}{up:List Fr}{base:Nat}{k:List It}{C:AM.an}
abbrev AW(Γ:Nat->Option AV)(c:Ct)(p:Nat)(x2 x3:AV)(k:List It)(base:Nat)(up:List Fr)(C:AM.an)(H:List Ob)(x:oe):Prop:=lO Tryz.prog Γ Hh Cm mV k [] .norm base up C x.1 (11-x.1.length) (tW c p x2 x3 H x) (qB c H x)
theorem abS:(uL.all fun x=>(decide (x.1.length<11)||(uL.drop 72).contains x)&&(QS x).all fun i=>(uL.contains (np i x))&&(i::x.1).isPerm (np i x).1&&decide ((i::x.1).length=(np i x).1.length))=true:=by decide+kernel
set_option maxRecDepth 8000 in
theorem af4(hc:bW c)(hp:H[p]? =some (.cells (AV.cells (bL c)))):∀x∈uL,∀i∈QS x,∃d op,Cm.getD i default=⟨d,none,op⟩/\
 (ay Tryz.prog Γ (tW c p x2 x3 H x) (qB c H x) op=.val (yW c p H (np i x) i) (qB c H (np i x))\/yW c p H (np i x) i=.aB []/\ay Tryz.prog Γ (tW c p x2 x3 H x) (qB c H x) op=.skip (qB c H (np i x)))/\
 a8 (tW c p x2 x3 H x) d (yW c p H (np i x) i)=tW c p x2 x3 H (np i x):=by
 have hG:=hc.2.2.2.1
 have hget:=fun os=>dJ hp os
 have b8:((c.af.length:Int)*8<=140737488355328/\(c.af.length:Int)<=140737488355328)=True:=bY (by omega);have b24:((c.af.length:Int)*24<=140737488355328/\(c.af.length:Int)<=140737488355328)=True:=bY (by omega)
 repeat' (first|refine Tf.2 ⟨?_,?_⟩|exact List.forall_mem_nil _)
 all_goals exact ⟨_,_,rfl,by simp[tW,qB,zW,yW,mF,np,GK,Hb,hp,hget,b8,b24],rfl⟩
set_option maxRecDepth 8000 in
theorem af1(hw:cG H.length H=true)(hb:base<=H.length)(hp:p<H.length)(h2:aI H.length x2=true)(h3:aI H.length x3=true)(hk:fP H.length k=true)
 (hC:AM.Reach Tryz.prog Γ (.fr ⟨.run,mV,.ops []::k,tR p x2 x3 U U U U U U U U U (.ptr H.length 0),[],.norm,base⟩ up (H++hW c H.length)) C):∀x∈uL.drop 72,AW Γ c p x2 x3 k base up C H x:=by
 have hlt:∀j,(H.length+j<H.length)=False:=fun j=>iu (by omega)
 simp at hC
 repeat' (first|refine Tf.2 ⟨?_,?_⟩|exact List.forall_mem_nil _)
 all_goals
  refine .trans (.lK [13,14,15,16,17,18,19,20,21] _) ?_;simp[lI,tW,qB,zW,yW,mF,Hb]
  first
  |refine .mA H.length [2,0,1] (by simp[l8 hw,iU h2,iU h3,hk,hb,hp];done) (by decide) ?_
   simp[l6 hw,iV h2,iV h3,hp,hlt];exact hC
  |refine .mA H.length [1,0,4] (by simp[l8 hw,iU h2,iU h3,hk,hb,hp];done) (by decide) ?_
   simp[l6 hw,iV h2,iV h3,hp,hlt];exact hC
  |refine .mA H.length [2,1,0] (by simp[l8 hw,iU h2,iU h3,hk,hb,hp];done) (by decide) ?_
   simp[l6 hw,iV h2,iV h3,hp,hlt];exact hC
  |refine .mA H.length [1,4,0] (by simp[l8 hw,iU h2,iU h3,hk,hb,hp];done) (by decide) ?_
   simp[l6 hw,iV h2,iV h3,hp,hlt];exact hC
  |refine .mA H.length [0,3,4] (by simp[l8 hw,iU h2,iU h3,hk,hb,hp];done) (by decide) ?_
   simp[l6 hw,iV h2,iV h3,hp,hlt];exact hC
  |refine .mA H.length [0,4,3] (by simp[l8 hw,iU h2,iU h3,hk,hb,hp];done) (by decide) ?_
   simp[l6 hw,iV h2,iV h3,hp,hlt];exact hC
set_option maxRecDepth 8000 in
theorem ac8(hc:bW c)(hp:H[p]? =some (.cells (AV.cells (bL c))))(hw:cG H.length H=true)(hb:base<=H.length)(h2:aI H.length x2=true)(h3:aI H.length x3=true)(hk:fP H.length k=true)
 (hC:AM.Reach Tryz.prog Γ (.fr ⟨.run,mV,.ops []::k,tR p x2 x3 U U U U U U U U U (.ptr H.length 0),[],.norm,base⟩ up (H++hW c H.length)) C):
 AM.Reach Tryz.prog Γ (.fr ⟨.run,mV,.code (.fm Hh Cm)::k,tR p x2 x3 U U U U U U U U U U,[],.norm,base⟩ up H) C:=by
 have ha:=abS;simp only[dA,av,eX,Tm,List.isPerm_iff,bf]at ha
 have key:∀n,∀x∈uL,11-x.1.length=n->AW Γ c p x2 x3 k base up C H x:=by
  intro n
  induction n with
  |zero=>exact fun x hx hn=>af1 hw hb (aV hp) h2 h3 hk hC x ((ha x hx).1.resolve_left (by omega))
  |succ n ih=>
   intro x hx hn;rw[AW,hn]
   refine .step fun i hi=>?_
   obtain⟨d,op,e1,e2,e3⟩:=af4 hc hp x hx i hi;obtain⟨⟨a1,a2⟩,a3⟩:=(ha x hx).2 i hi;refine⟨d,op,_,_,e1,e2,?_⟩;rw[e3]
   have a4:11-(np i x).1.length=n:=by simp at a3;omega
   have:=ih _ a1 a4;rw[AW,a4]at this;exact this.perm a2.symm
 have h:=key 11 ([],[]) (by decide) rfl;rw[AW,qB,List.flatMap_nil,fX]at h;exact lO.all h
end
abbrev eK(k:Nat):AV×AV:=(.int .i64 k,.bool true)
def fo(l:List Nat):Ob:=.row 1 aq (l.map iN) none true false
def gR(l:List Nat):Ob:=.map (l.map eK) true
def dx(n N m:Nat):List AV:=(List.range m).map (fun i=>AV.mp (n+(3+(N+i))))++List.replicate (N-m) .c8
def fw(n:Nat)(b:List (List Nat)):List AV:=b.mapIdx fun j l=>AV.sl (n+(3+j)) 0 l.length
def hF(n N m:Nat)(b:List (List Nat)):List Ob:=[.cells [.sl (n+1) 0 N,.sl (n+2) 0 N],.row 1 jR (dx n N m) none (decide (m=0)) false,.row 1 iW (fw n b) none (decide (b.length=0)) false]
def hQ(H:List Ob)(nd b:List (List Nat)):List Ob:=H++(hF H.length b.length nd.length b++(b.map fo++nd.map gR))
section
variable{H:List Ob}{nd b:List (List Nat)}
theorem lz:(hQ H nd b).length=H.length+(3+(b.length+nd.length)):=by simp[hQ,hF];omega
theorem Gl{i:Nat}(h:i<H.length):(hQ H nd b)[i]? =H[i]? :=by rw[hQ,cV h]
theorem xk(i:Nat):(hQ H nd b)[H.length+i]? =(hF H.length b.length nd.length b++(b.map fo++nd.map gR))[i]? :=by
 rw[hQ,dD (by omega)];congr 1;omega
theorem GB:(hQ H nd b)[H.length]? =some (.cells [.sl (H.length+1) 0 b.length,.sl (H.length+2) 0 b.length]):=xk 0
theorem Gy:(hQ H nd b)[H.length+1]? =some (.row 1 jR (dx H.length b.length nd.length) none (decide (nd.length=0)) false):=xk 1
theorem PF:(hQ H nd b)[H.length+2]? =some (.row 1 iW (fw H.length b) none (decide (b.length=0)) false):=xk 2
theorem GC{k:Nat}(h:k<b.length):(hQ H nd b)[H.length+(3+k)]? =some (fo b[k]):=by
 rw[xk,dD (by simp[hF]),cV (by simp[hF];omega)];simp[hF,h]
theorem PZ{i:Nat}(h:i<nd.length):(hQ H nd b)[H.length+(3+(b.length+i))]? =some (gR nd[i]):=by
 rw[xk,dD (by simp[hF]),dD (by simp[hF])];simp[hF,h]
theorem ED{n N m i:Nat}(h:i<m):(dx n N m)[i]? =some (.mp (n+(3+(N+i)))):=by
 rw[dx,cV (by simpa using h)];simp[h]
theorem Al{n N m:Nat}(h:m<=N):(dx n N m).length=N:=by simp[dx];omega
theorem qb(n:Nat)(b:List (List Nat)):(fw n b).length=b.length:=by simp[fw]
theorem rK{n k:Nat}(h:k<b.length):(fw n b)[k]? =some (.sl (n+(3+k)) 0 b[k].length):=by simp[fw,h]
theorem ac3{n k:Nat}(l:List Nat)(h:k<b.length):(fw n b).set k (.sl (n+(3+k)) 0 l.length)=fw n (b.set k l):=by
 apply jm;intro j
 by_cases hj:k=j
 ·subst hj;rw[ep (by rw[qb];exact h),rK (by simpa using h)];simp
 ·rw[dz hj]
  by_cases hjb:j<b.length
  ·rw[rK hjb,rK (by simpa using hjb),Jf hj]
  ·rw[jN (by rw[qb];omega),jN (by rw[qb];simp;omega)]
theorem NK{i:Nat}(l:List Nat)(h:i<nd.length):(hQ H nd b).set (H.length+(3+(b.length+i))) (gR l)=hQ H (nd.set i l) b:=by
 have e:H.length+(3+(b.length+i))=H.length+((hF H.length b.length nd.length b).length+((b.map fo).length+i)):=by simp[hF]
 have ap:∀(a c:List Ob)(j:Nat)(o:Ob),(a++c).set (a.length+j) o=a++c.set j o:=fun a c j o=>by
  rw[vq _ _ (by omega)];congr 2;omega
 rw[hQ,e,ap,ap,ap,hQ,jk,<-pO]
theorem Bn(a c:List Ob)(j:Nat)(o:Ob):(a++c).set (a.length+j) o=a++c.set j o:=by rw[vq _ _ (by omega)];congr 2;omega
theorem acY{k:Nat}(l:List Nat)(h:k<b.length):((hQ H nd b).set (H.length+(3+k)) (fo l)).set (H.length+2) (.row 1 iW (fw H.length (b.set k l)) none (decide (b.length=0)) false)=hQ H nd (b.set k l):=by
 have e:H.length+(3+k)=H.length+((hF H.length b.length nd.length b).length+k):=by simp[hF]
 have ap:∀(a c:List Ob)(j:Nat)(o:Ob),(a++c).set (a.length+j) o=a++c.set j o:=fun a c j o=>by
  rw[vq _ _ (by omega)];congr 2;omega
 rw[hQ,e,ap,ap,ap,hQ,jk,show((b.map fo++nd.map gR).set k (fo l))=(b.map fo).set k (fo l)++nd.map gR from kq _ _ (by simpa using h),<-pO];simp[hF]
theorem Nv{n m:Nat}(b:List (List Nat))(h:n+(3+b.length)<=m):aK m (fw n b)=true:=by
 have:∀(l:List (List Nat))(q:Nat),q+(3+l.length)<=m->aK m (l.mapIdx fun j x=>AV.sl (q+(3+j)) 0 x.length)=true:=by
  intro l
  induction l with
  |nil=>intro q _;rfl
  |cons a l ih=>
   intro q hq;simp only[bX]at hq;have h2:=ih (q+1) (by omega)
   have e:(fun(i:Nat) (x:List Nat)=>AV.sl (q+(3+(i+1))) 0 x.length)=fun j x=>AV.sl (q+1+(3+j)) 0 x.length:=by
    funext j x;congr 1;omega
   rw[List.mapIdx_cons,e]
   simp only[aK,h2,aI,oi,bf];omega
 exact this b n h
theorem Ex{n N m q:Nat}(h:n+(3+(N+m))<=q):aK q (dx n N m)=true:=by
 have h1:∀l:List Nat,(∀i∈l,i<m)->aK q (l.map fun i=>AV.mp (n+(3+(N+i))))=true:=by
  intro l
  induction l with
  |nil=>intro _;rfl
  |cons a l ih=>
   intro hl;have:=hl a (by simp)
   simp only[b_,aK,aI,ih fun i hi=>hl i (by simp[hi]),oi,bf];omega
 have h2:∀k,aK q (List.replicate k AV.c8)=true:=by
  intro k
  induction k with
  |zero=>rfl
  |succ k ih=>simp[k8,ih]
 rw[dx,DW,h1 _ (fun i hi=>by simpa using hi),h2];rfl
theorem Fh(m:Nat):∀b:List (List Nat),cG m (b.map fo)=true
 |[]=>rfl
 |l::b=>by simp[fo,Fh m b]
theorem O7(m:Nat):∀l:List Nat,fR m (l.map eK)=true
 |[]=>rfl
 |l::b=>by simp[O7 m b]
theorem Fi(m:Nat):∀b:List (List Nat),cG m (b.map gR)=true
 |[]=>rfl
 |l::b=>by
  have:=O7 m l;simp only[b_,cG,gR,gu,this,sK];exact Fi m b
theorem afQ(hw:cu H):cu (hQ H nd b):=fun m hm=>by
 rw[lz]at hm;have h1:=hw m (by omega);have h2:=Nv (n:=H.length) (m:=m) b (by omega);have h3:=Ex (n:=H.length) (N:=b.length) (m:=nd.length) (q:=m) (by omega);rw[hQ,oC,oC,oC,h1,Fh,Fi];simp[hF,h2,h3];omega
theorem Fz{n i m:Nat}(b:List (List Nat))(h:∀j(hj:j<b.length),n+(3+j)=i->b[j].length=m):c9 i m (fw n b)=true:=by
 have:∀l:List AV,(∀a∈l,iL i m a=true)->c9 i m l=true:=by
  intro l
  induction l with
  |nil=>intro _;rfl
  |cons a l ih=>intro hl;simp only[c9,hl a (by simp),ih fun x hx=>hl x (by simp[hx]),mQ]
 refine this _ fun a ha=>?_
 obtain⟨j,hj,rfl⟩:=ku ha;rw[qb]at hj
 have e:(fw n b)[j]'(by rw[qb];exact hj)=.sl (n+(3+j)) 0 b[j].length:=by
  have:=rK (n:=n) hj;exact(cW.1 this).2
 rw[e];simp only[iL,eX,jq,vn,iP,lV]
 by_cases hi:n+(3+j)=i
 ·exact .inr (h j hj hi)
 ·exact .inl hi
theorem Et{n N m i q:Nat}:c9 i q (dx n N m)=true:=by
 have:∀l:List AV,(∀a∈l,iL i q a=true)->c9 i q l=true:=by
  intro l
  induction l with
  |nil=>intro _;rfl
  |cons a l ih=>intro hl;simp only[c9,hl a (by simp),ih fun x hx=>hl x (by simp[hx]),mQ]
 refine this _ fun a ha=>?_
 simp only[dx,bm,cI,er,Tp]at ha
 rcases ha with⟨j,_,rfl⟩|⟨_,rfl⟩<;>rfl
theorem AA(i m:Nat):∀b:List (List Nat),cH i m (b.map fo)=true
 |[]=>rfl
 |l::b=>by simp[fo,AA i m b]
theorem OG(i m:Nat):∀l:List Nat,nj i m (l.map eK)=true
 |[]=>rfl
 |l::b=>by simp[OG i m b]
theorem Az(i m:Nat):∀b:List (List Nat),cH i m (b.map gR)=true
 |[]=>rfl
 |l::b=>by
  have:=OG i m l;simp only[b_,cH,gR,lM,this,sK];exact Az i m b
theorem iR(i m:Nat):∀a b:List Ob,cH i m (a++b)=(cH i m a&&cH i m b)
 |[],b=>rfl
 |o::a,b=>by simp[cH,iR i m a b,nC]
theorem aeO(hv:dW H){k:Nat}(h:k<b.length):cH (H.length+(3+k)) b[k].length (hQ H nd b)=true:=by
 have h1:=hv (H.length+(3+k)) b[k].length (by omega)
 have h2:c9 (H.length+(3+k)) b[k].length (fw H.length b)=true:=Fz b fun j hj he=>by
  obtain rfl:j=k:=by omega
  rfl
 have h3:=Et (n:=H.length) (N:=b.length) (m:=nd.length) (i:=H.length+(3+k)) (q:=b[k].length);rw[hQ,iR,iR,iR,h1,AA,Az];simp[hF,h2,h3];omega
end
def lH(n N j:Nat):List AV:=(List.range j).map (fun i=>AV.sl (n+(3+i)) 0 0)++List.replicate (N-j) (.list true 0 [])
def jC(H:List Ob)(N j:Nat):List Ob:=H++([.cells [.sl (H.length+1) 0 N,.sl (H.length+2) 0 N],.row 1 jR (dx H.length N 0) none true false,.row 1 iW (lH H.length N j) none (decide (j=0)) false]++List.replicate j (fo []))
theorem Y_(H:List Ob)(N j:Nat):(jC H N j).length=H.length+(3+j):=by simp[jC];omega
theorem aeS(H:List Ob)(N:Nat)(f:Fr)(up:List Fr):∀m j:Nat,j+m=N->AM.Reach Tryz.prog Γ (.fr f up (jC H N j)) (.fr f up (jC H N N)):=by
 intro m
 induction m with
 |zero=>
  intro j hj
  obtain rfl:j=N:=by omega
  exact .refl _
 |succ m ih=>
  intro j hj;have hlen:=Y_ H N j
  have hi:(jC H N j)[H.length+2]? =some (.row 1 iW (lH H.length N j) none (decide (j=0)) false):=by
   rw[jC,dD (by omega),show H.length+2-H.length=2 by omega];rfl
  have hj2:(lH H.length N j)[j]? =some (.list true 0 []):=by
   rw[lH,dD (by simp),iq,y7,C_,show N-j=(N-(j+1))+1 by omega,k8];rfl
  have hst:=AM.Reach.A8 (P:=Tryz.prog) (Γ:=Γ) (f:=f) (up:=up) (k:=1) aq hi hj2 (by omega);refine .trans hst ?_
  have e:((jC H N j++[Ob.row 1 aq [] none true false]).set (H.length+2) (.row 1 iW ((lH H.length N j).set j (.sl (jC H N j).length 0 0)) none false false))=jC H N (j+1):=by
   have e1:(lH H.length N j).set j (.sl (jC H N j).length 0 0)=lH H.length N (j+1):=by
    rw[hlen,lH,vq _ _ (by simp)]
    have e2:List.replicate (N-j) (AV.list true 0 [])=.list true 0 []::List.replicate (N-(j+1)) (.list true 0 []):=by
     rw[show N-j=(N-(j+1))+1 by omega,k8]
    rw[e2];simp[lH,List.range_succ]
   rw[e1,jC,jC,fY,Bn];have e3:List.replicate (j+1) (fo [])=List.replicate j (fo [])++[fo []]:=List.replicate_succ';rw[e3];simp[fo]
  rw[e];exact ih (j+1) (by omega)
theorem Yq(c:Ct)(H:List Ob):jC H c.af.length 0=H++hW c H.length:=by simp[jC,hW,dx,lH]
theorem aar(H:List Ob)(N:Nat):jC H N N=hQ H [] (List.replicate N []):=by
 have e:lH H.length N N=fw H.length (List.replicate N []):=by
  apply jm;intro j
  by_cases hj:j<N
  ·rw[rK (by simpa using hj)];simp[lH,hj]
  ·rw[jN (by simp[lH];omega),jN (by rw[qb];simp;omega)]
 simp[jC,hQ,hF,e]
theorem L9(k:Nat):∀l:List Nat,ew (.sc .int) (.int .i64 k) (l.map eK)=some (if k∈l then some (.bool true)else none)
 |[]=>rfl
 |a::l=>by
  simp only[b_,ew,Br]
  by_cases h:k=a
  ·simp[h]
  ·simp[h,L9 k l]
theorem NO{k:Nat}:∀{l:List Nat},k∉l->h_ (.sc .int) (.int .i64 k) (.bool true) (l.map eK)=some ((l++[k]).map eK)
 |[],_=>rfl
 |a::l,h=>by
  simp only[bu,not_or]at h;simp only[b_,h_,Br,h.1,mR,NO h.2,du,eO]
theorem aeT{c:Ct}{s:Bs}{k:Nat}(h:getM s (cj c)=some k):k<c.af.length:=by
 have:∀l:List (Bs×Nat),getM s l=some k->∃x∈l,x.2=k:=by
  intro l
  induction l with
  |nil=>intro h;cases h
  |cons x l ih=>
   obtain⟨a,v⟩:=x;intro h;rw[getM]at h
   split at h
   ·exact⟨(a,v),by simp,Option.some.inj h⟩
   ·obtain⟨x,h1,h2⟩:=ih h;exact⟨x,by simp[h1],h2⟩
 obtain⟨x,h1,rfl⟩:=this _ h;obtain⟨j,hj,rfl⟩:=ku h1;rw[ub]at hj
 rw[wY c j hj];exact hj
def eJ(pl:List (Bs×Nat)):List Bs->List Nat->List Nat
 |[],a=>a
 |s::r,a=>match getM s pl with
  |none=>eJ pl r a
  |some k=>eJ pl r (if k∈a then a else a++[k])
def jj(pl:List (Bs×Nat))(i:Nat):List Bs->List Nat->List (List Nat)->List (List Nat)
 |[],_,b=>b
 |s::r,a,b=>match getM s pl with
  |none=>jj pl i r a b
  |some k=>jj pl i r (if k∈a then a else a++[k]) (if k∈a then b else b.set k (b.getD k []++[i]))
theorem aaA{A:List Ob}{r s:Nat}(h:s≠r)(o o1 o2:Ob):((A.set r o1).set s o2).set r o=(A.set r o).set s o2:=by
 rw[List.set_comm _ _ h,qU]
theorem aec{h:List Ob}{i:Nat}{o:Ob}(hi:h[i]? =some o):h.set i o=h:=by
 apply jm;intro j
 by_cases hj:i=j
 ·subst hj;rw[ep (aV hi),hi]
 ·rw[dz hj]
theorem Fa{i m:Nat}{o:Ob}(ho:lM i m o=true):∀{h:List Ob}(j:Nat),cH i m h=true->cH i m (h.set j o)=true
 |[],_,h1=>h1
 |o'::h,0,h1=>by
  simp only[cH,av,u0]at h1⊢;exact⟨ho,h1.2⟩
 |o'::h,j+1,h1=>by
  simp only[cH,av,pF]at h1⊢;exact⟨h1.1,Fa ho j h1.2⟩
set_option maxRecDepth 8000 in
theorem adz(c:Ct)(hc:bW c){H:List Ob}(hw:cu H)(hv:dW H){m0:Nat}(hm:H[m0]? =some (.map ((cj c).map gU) true))(nd:List (List Nat))(i:Nat)(hi:i<c.af.length)(hnd:nd.length=i)(up:List Fr)(base:Nat)(hbase:base<=H.length)(p2:Nat):∀n q:Nat,q+n=c.af[i].ins.length->∀(cur:List Nat)(b:List (List Nat)),b.length=c.af.length->(∀l∈b,l.length<=2^20+i*2^10+q)->
 AM.Reach Tryz.prog Γ (yuk (.ptr p2 0) (.mp m0) (.ptr H.length 0) (.int .i64 i) (.list false c.kG (c.af.map cR)) (.int .i64 c.af.length) (.int .i64 i) (.list false c.af[i].ki (c.af[i].ins.map .str)) (.int .i64 c.af[i].ins.length) (.int .i64 q) (hQ H (nd++[cur]) b) ⟨[],.norm,base,up⟩)
  (yul (.ptr p2 0) (.mp m0) (.ptr H.length 0) (.list false c.kG (c.af.map cR)) (.int .i64 c.af.length) (.int .i64 i) (hQ H (nd++[eJ (cj c) (c.af[i].ins.drop q) cur]) (jj (cj c) i (c.af[i].ins.drop q) cur b)) ⟨[],.norm,base,up⟩):=by
 have hiB:i<2^10:=by have:=hc.2.2.2.1;omega
 have hqB:c.af[i].ins.length<2^10:=(hc.2.2.2.2.1 _ (bz hi)).2.1;intro n
 induction n with
 |zero=>
  intro q hq cur b hb hbl
  have q1:¬q<c.af[i].ins.length:=by omega
  rw[bw (by omega),eJ,jj];refine .dh 60 ?_;simp[q1];exact .exit rfl rfl
 |succ n ih=>
  intro q hqn cur b hb hbl
  have hq:q<c.af[i].ins.length:=by omega
  have q2:=bY (c.af[i].hi.of hq)
  have hget:(hQ H (nd++[cur]) b)[m0]? =some (.map ((cj c).map gU) true):=by rw[Gl (aV hm)];exact hm
  have hfi:=v_ (E:=.sc .str) (e:=AV.str) m7 (fun n:Nat=>AV.int .i64 n) c.af[i].ins[q] (cj c);rw[bQ hq,eJ,jj]
  cases hk:getM c.af[i].ins[q] (cj c)with
  |none=>
   rw[hk]at hfi;have hh:=ih (q+1) (by omega) cur b hb (fun l hl=>by have:=hbl l hl;omega);refine .dh 60 ?_;simp(disch:=omega) [hq,q2,hget,hfi,isKey,bR,cz];refine .aH ?_;simp at hh⊢;exact hh
  |some k=>
   rw[hk]at hfi;have hkl:=aeT hk
   have hkb:k<b.length:=by omega
   have xw:=GB (H:=H) (nd:=nd++[cur]) (b:=b);have xn:=Gy (H:=H) (nd:=nd++[cur]) (b:=b)
   have hii:i<(nd++[cur]).length:=by simp;omega
   have xm:=PZ (H:=H) (b:=b) hii
   have ecur:(nd++[cur])[i]=cur:=by rw[C9 (by omega)];simp[hnd]
   have yn:=ED (n:=H.length) (N:=b.length) hii
   have hm1:(nd++[cur]).length=nd.length+1:=by simp
   have yl:=Al (n:=H.length) (N:=b.length) (m:=nd.length+1) (by omega);have yt:List.take b.length (dx H.length b.length (nd.length+1))=dx H.length b.length (nd.length+1):=cd (by rw[yl];exact aR _);have fc:=L9 k cur;rw[ecur]at xm;rw[hm1]at yn xn;rw[hb]at xm yn xw xn yl yt;obtain⟨_,yn'⟩:=cW.1 yn
   by_cases hkc:k∈cur
   ·rw[if_pos hkc]at fc;have hh:=ih (q+1) (by omega) cur b hb (fun l hl=>by have:=hbl l hl;omega);simp only[if_pos hkc];generalize hQ H (nd++[cur]) b=X at*;refine .dh 60 ?_;simp(disch:=omega) [hq,q2,hget,hfi,isKey,bR,cz,xw,xn,xm,yn,yl,yt,yn',hi,gR,fc];refine .aH ?_;simp at hh⊢;exact hh
   ·rw[if_neg hkc]at fc;have pc:=NO hkc;have xb:=PF (H:=H) (nd:=nd++[cur]) (b:=b);have xr:=GC (H:=H) (nd:=nd++[cur]) hkb;have yb:=rK (n:=H.length) hkb
    have hh:=ih (q+1) (by omega) (cur++[k]) (b.set k (b.getD k []++[i])) (by simpa using hb) (fun l hl=>by
     rcases oj hl with h1|h1
     ·have:=hbl l h1;omega
     ·have egd:b.getD k []=b[k]:=by rw[bp,bl hkb];rfl
      have:=hbl _ (bz hkb)
      rw[h1,egd,bN,sH];omega)
    simp only[if_neg hkc]
    have fin:((((hQ H (nd++[cur]) b).set (H.length+(3+(c.af.length+i))) (.map (List.map eK cur++[eK k]) true)).set (H.length+(3+k)) (.row 1 aq (List.map iN b[k]++[.int .i64 i]) (some 0) true false)).set (H.length+2) (.row 1 iW ((fw H.length b).set k (.sl (H.length+(3+k)) 0 (b[k].length+1))) none false false))=
     (hQ H (nd++[cur++[k]]) (b.set k (b[k]++[i]))).set (H.length+(3+k)) (.row 1 aq (List.map iN b[k]++[.int .i64 i]) (some 0) true false):=by
     have f1:=NK (H:=H) (b:=b) (cur++[k]) hii;have f2:=acY (H:=H) (nd:=nd++[cur++[k]]) (b[k]++[i]) hkb;have f3:=ac3 (n:=H.length) (b[k]++[i]) hkb
     have f4:(nd++[cur]).set i (cur++[k])=nd++[cur++[k]]:=by rw[vq _ _ (by omega)];simp[hnd]
     have f5:gR (cur++[k])=.map (List.map eK cur++[eK k]) true:=by simp[gR]
     have f6:decide (b.length=0)=false:=vr (by omega)
     have f7:(b[k]++[i]).length=b[k].length+1:=by simp
     rw[f4,f5,hb]at f1;rw[f6]at f2;rw[f7]at f3;rw[f1,f3,<-f2,aaA (by omega)]
    have vfin:=aeO (H:=H) (nd:=nd++[cur++[k]]) (b:=b.set k (b[k]++[i])) hv (k:=k) (by simpa using hkb);have zget:=GC (H:=H) (nd:=nd++[cur++[k]]) (b:=b.set k (b[k]++[i])) (k:=k) (by simpa using hkb);have zlen:=lz (H:=H) (nd:=nd++[cur++[k]]) (b:=b.set k (b[k]++[i]));rw[List.getElem_set_self]at vfin zget;have zl:=qb H.length b;have zt:List.take b.length (fw H.length b)=fw H.length b:=cd (by rw[zl];exact aR _);rw[hb]at xb zl zt;obtain⟨_,yb'⟩:=cW.1 yb;generalize hQ H (nd++[cur]) b=X at*;clear zlen;refine .dh 60 ?_;simp(disch:=omega) [hq,q2,hget,hfi,isKey,bR,cz,xw,xn,xm,yn,yl,yt,yn',hi,gR,fc,pc];refine .Rv 60 ?_
    have d1:¬c.af.length+i=k:=by omega
    have b8:(b[k].length+1)*8<=140737488355328:=by have:=hbl _ (bz hkb);omega
    simp(disch:=omega) [xw,xb,xr,yb,yb',zl,zt,fo,d1,b8];rw[fin];have zlen:=lz (H:=H) (nd:=nd++[cur++[k]]) (b:=b.set k (b[k]++[i]))
    have egd:b.getD k []=b[k]:=by rw[bp,bl hkb];rfl
    rw[egd]at hh
    try rw [egd]
    generalize hQ H (nd++[cur++[k]]) (b.set k (b[k]++[i]))=Z at*
    have zlt:H.length+(3+k)<Z.length:=by rw[zlen];simp;omega
    refine .aH ?_;simp
    refine .lq (i:=H.length+(3+k)) (k:=1) (E:=aq) (es:=(b[k]++[i]).map iN) (fl:=true) (sh:=false) (by rw[ep zlt];simp) (by simp;omega) (by simp) (by
     simp only[iq]
     exact Fa (by simp[lM]) _ vfin) ?_
    rw[qU,show Ob.row 1 aq ((b[k]++[i]).map iN) none true false=fo (b[k]++[i])from rfl,aec zget];simp at hh⊢;exact hh
theorem dW.set{h:List Ob}(hw:dW h){o:Ob}(hb:∀i m,h.length<=i->lM i m o=true)(j:Nat):dW (h.set j o):=fun i m hi=>by
 rw[jk]at hi;exact Fa (hb i m hi) j (hw i m hi)
abbrev B4(p:Nat×List Fm):AV:=.aB [iN p.1,.list false 3 (p.2.map a_)]
abbrev HU(h:List Ob)(t:Fm)(ks:List Nat):List Ob:=h++[.row 3 aS [] none true false,.cells (a_ t).cells,.row 1 aq (ks.map iN) none true false]
def OH(P:Program)(Γ:Nat->Option AV)(ins:List Nat)(ki:Nat)(val:Int->Bool)(f:Nat):Prop:=
 ∀(l:List Fm),l.length<2^40->∀{v:Bool}{l':List Fm},ey ins.length val f l=some (v,l')->∀(x:Gr)(h:List Ob)(i:Nat),h[i]? =some (cD x)->cu h->dW h->x.Ok->(∀a∈ins,a<x.lits)->∀up,
  AM.Reach P Γ (.cl sU [.ptr i 0,.list false 3 (l.map a_),.list false ki (ins.map iN)] up h) (cL B4 i up h (iF ins f x l))
theorem aft{h os:List Ob}{a b c:Ob}:(h++a::b::c::os)[h.length+2]? =some c:=by simp
theorem Pj{h os:List Ob}{a b c:Ob}{f:Ob->Ob}:(h++a::b::c::os).modify (h.length+2) f=h++a::b::f c::os:=by
 induction h with
 |nil=>rfl
 |cons x h ih=>simpa using ih
set_option maxRecDepth 8000 in
theorem acI(ins:List Nat){ki:Nat}(hli:ins.length<2^40)(val:Int->Bool)(f:Nat)(ih:OH Tryz.prog Γ ins ki val f)(t:Fm)(ht:t.kind=3\/t.kind=4)(ht2:2<=t.kids)(ht3:t.kids<2^40)(i L:Nat)(up:List Fr):
 ∀m j:Nat,j+m=t.kids.toNat->∀(ks:List Nat)(l:List Fm)(x:Gr)(h:List Ob)(v w:Bool)(l':List Fm),ks.length=j->l.length<2^40->ff (ey ins.length val f) (decide (t.kind=3)) m v l=some (w,l')->h.length=L->h[i]? =some (cD x)->cu h->dW h->x.Ok->(∀a∈ins,a<x.lits)->(∀a∈ks,a<x.lits)->
  ∃J,AM.Reach Tryz.prog Γ (yol (.ptr i 0) (.list false ki (ins.map iN)) (.ptr (L+1) 0) (.list false 3 (l.map a_)) (.sl (L+2) 0 ks.length) (.int .i64 t.kids) (.int .i64 j) (HU h t ks) ⟨[],.norm,L,up⟩)
   (cL B4 i up (h++J) (hY (j3 (iF ins f) m x ks l) (uD t))):=by
 intro m
 induction m with
 |zero=>
  intro j hj ks l x h v w l' hkl hl hr hL hi hw hv ok hlt hks;subst hL
  have q1:¬(j:Int)<t.kids:=by omega
  have hil:=aV hi
  have hget:=fun os=>dJ hi os
  have h0:ks≠[]:=by
   intro h0;subst h0
   simp at hkl;omega
  have hW:∀b,cu (h++[.row 3 aS [] none true false,.cells (a_ t).cells,.row 1 aq (ks.map iN) none true b]):=fun b m hm=>by
   simp at hm;simp[hw m (by omega)]
  have hset:∀(o:Ob)(os:List Ob),(h++os).set i o=h.set i o++os:=fun o os=>kq _ _ hil
  refine⟨[.row 3 aS [] none true false,.cells (a_ t).cells,.row 1 aq (ks.map iN) none true true],?_⟩;rw[j3,hY,uD];refine .dh 60 ?_;simp[q1];refine .trans (.exit rfl rfl) ?_;refine .trees [10] ?_;simp[Pj,gE];have htk:(ks.map iN).take ks.length=ks.map iN:=cd (by simp);obtain⟨kd,lt,kk⟩:=t;simp only at ht ht2 ht3 hj q1 hW⊢
  rcases ht with rfl|rfl
  ·have hA:=OZ (Γ:=Γ) ks h0 (by omega) (fl:=false) (k:=1) .self x (h:=h++[.row 3 aS [] none true false,.cells (a_ ⟨3,lt,kk⟩).cells,.row 1 aq (ks.map iN) none true true]) (hget _) (hW true) ok hks;refine .aU 60 ?_;simp[htk];unfold cL at hA⊢;unfold fO
   cases h9:(jz 0 x ks).2<;>simp only[h9,hset]at hA⊢
   ·refine .j6 60 hA ?_;simp[h9,hset]
   ·refine .aX 60 hA ?_;simp[h9,hset]
  ·have hA:=O4 (Γ:=Γ) ks h0 (by omega) (fl:=false) (k:=1) .self x (h:=h++[.row 3 aS [] none true false,.cells (a_ ⟨4,lt,kk⟩).cells,.row 1 aq (ks.map iN) none true true]) (hget _) (hW true) ok hks;refine .aU 60 ?_;simp[htk];unfold cL at hA⊢;unfold fO at hA⊢
   cases h9:(jz 1 x ks).2<;>simp only[h9,hset,sD,du]at hA⊢
   ·refine .j6 60 hA ?_;simp[h9,hset]
   ·refine .aX 60 hA ?_;simp[h9,hset]
 |succ m ihm=>
  intro j hj ks l x h v w l' hkl hl hr hL hi hw hv ok hlt hks;subst hL
  have q1:(j:Int)<t.kids:=by omega
  have hil:=aV hi
  have hget:=fun os=>dJ hi os
  have hset:∀(o:Ob)(os:List Ob),(h++os).set i o=h.set i o++os:=fun o os=>kq _ _ hil
  rw[ff]at hr
  cases h2:ey ins.length val f l with
  |none=>rw[h2]at hr;cases hr
  |some u=>
   rw[h2]at hr;obtain⟨u1,l1⟩:=u;simp only at hr;have hll:=Ev _ _ _ _ _ _ h2
   have hc:=ih l hl h2 x (HU h t ks) i (hget _) (by
    intro m hm;simp at hm
    simp[hw m (by omega)]) (by
    intro m k hm;simp at hm
    simp[hv m k (by omega)]) ok hlt
   have hf:=ru ins f x l ok hlt;rw[j3]
   cases h9:iF ins f x l with
   |mk y r=>
    rw[h9]at hc hf
    cases r with
    |none=>
     refine⟨[.row 3 aS [] none true false,.cells (a_ t).cells,.row 1 aq (ks.map iN) none true false],?_⟩;simp only[cL,hY,hset]at hc⊢;refine .aU 60 ?_;simp[q1];refine .j6 60 hc ?_;simp
    |some p=>
     obtain⟨c,l2⟩:=p;have:=D0 ins _ val f x l y c l2 u1 l1 h9 h2;subst this;have hc2:=hf.2 _ rfl;simp only at hc2
     obtain⟨J,hh⟩:=ihm (j+1) (by omega) (ks++[c]) l2 y (h.set i (cD y)) _ w l' (by simp[hkl]) (by omega) hr (by simp) (by simp[hil]) (hw.set (fun m _=>by simp) i) (hv.set (fun m k _=>by simp) i) hf.1.ok (fun a ha=>kj (hlt a ha) hf.1.lits) (fun a ha=>by
      rcases bm.1 ha with ha|ha
      ·exact kj (hks a ha) hf.1.lits
      ·simp only[dE]at ha;subst ha;exact hc2)
     refine⟨J,?_⟩
     have hs2:∀r:Gr×Option (Nat×List Fm),cL B4 i up (h.set i (cD y)++J) r=cL B4 i up (h++J) r:=fun r=>by
      unfold cL
      have:∀o:Ob,(h.set i (cD y)++J).set i o=(h++J).set i o:=fun o=>by
       rw[kq _ _ (by simpa using hil),kq _ _ hil,qU]
      simp only[this]
     rw[hs2]at hh;simp only[cL,hY,hset]at hc;simp only[hY]at hh⊢
     have hvv:=fun m=>(hv.set (o:=cD y) (fun m k _=>by simp) i) (h.length+2) m (by simp)
     have hsl:(h.set i (cD y)).length=h.length:=by simp
     generalize h.set i (cD y)=H at*
     have hk40:(ks.length:Int)+1<=140737488355328:=by omega
     refine .aU 60 ?_;simp[q1];refine .aX 60 hc ?_;simp(disch:=omega) [<-hsl,hk40];refine .aH ?_;simp;refine .lq (i:=H.length+2) aft (by simp[hsl]) (by simp) (by simp[hsl,hvv]) ?_;simp[hsl,HU]at hh⊢;exact hh
set_option maxRecDepth 8000 in
theorem NS(ins:List Nat){ki:Nat}(hki:Kd 1 ki ins)(hli:ins.length<2^30)(val:Int->Bool):∀f,OH Tryz.prog Γ ins ki val f
 |0,l,_,v,l',h2,_,_,_,_,_,_,_,_,_=>by simp[ey]at h2
 |f+1,[],_,v,l',h2,_,_,_,_,_,_,_,_,_=>by simp[ey]at h2
 |f+1,t::l,hl,v,l',h2,x,h,i,hi,hw,hv,ok,hlt,up=>by
  rw[ey]at h2
  split at h2
  ·rename_i ho;have hil:=aV hi;have hle:=mZ ok
   have hget:=fun os=>dJ hi os
   have hset:∀os:List Ob,(h++os).set i (cD x)=h++os:=fun os=>wS (hget os)
   simp at hl;obtain⟨kd,lt,kk⟩:=t;unfold eD at ho;simp only at ho h2
   by_cases k2:kd=2
   ·subst k2;simp at ho;obtain⟨n,rfl⟩:=kp ho.1
    have q1:n/2<ins.length:=by omega
    have q2:=bY (hki.of q1);have hx:=hlt _ (bz q1);obtain rfl:=ho.2.2;refine rH [.row 3 aS [] none true false,.cells (a_ ⟨2,n,0⟩).cells] hw hil (by simp) ?_;rw[iF];simp only[cy,cL,hset];refine .br 60 Dr ?_;simp(disch:=omega) [q1,q2]
    have e1:((n:Int)/2).toNat=n/2:=by omega
    have e4:((n:Int)%2).toNat=n%2:=by omega
    have e3:gq .xor .i64 (ins[n/2]:Int) ((n:Int)%2)=some ((ins[n/2]^^^(n%2):Nat):Int):=by
     rw[show(n:Int)%2=((n%2:Nat):Int) by omega];exact FL (by omega)
    refine .nr 60 ?_
    have e5:ins.getD (n/2) 0=ins[n/2]:=by rw[bp,bl q1];rfl
    simp(disch:=omega) [q1,q2,e1,e3,e4,e5]
   ·rw[if_neg k2]at ho h2
    by_cases k34:kd=3\/kd=4
    ·rw[if_pos k34]at ho;simp at ho;obtain⟨rfl,h2k⟩:=ho
     have hvi:decide (kd=1)=false:=by simp;omega
     have n0:¬kd=0:=by omega
     have n1:¬kd=1:=by omega
     have hwk:=acI (Γ:=Γ) ins (by omega) val f (NS ins hki hli val f) ⟨kd,0,kk⟩ k34 h2k (by
      have:=MH (fun l v l' h=>Ev _ val f l v l' h) _ _ _ _ _ h2
      simp only;omega) i h.length up kk.toNat 0 (by simp) [] l x h _ v l' rfl (by omega) h2 rfl hi hw hv ok hlt (fun a ha=>by cases ha)
     obtain⟨J,hJ⟩:=hwk;refine rH J hw hil (by simp) ?_;rw[iF];simp only[if_neg k2,if_neg (show¬(kd=0\/kd=1) by omega)];refine .br 60 Dr ?_;simp;refine .nr 60 ?_;simp(disch:=omega) [n0,n1,k2];refine .inLoop ?_;simp at hJ⊢;exact hJ
    ·rw[if_neg k34]at ho
     split at ho
     ·rename_i k01;simp at ho;obtain⟨rfl,rfl⟩:=ho;refine rH [.row 3 aS [] none true false,.cells (a_ ⟨kd,0,0⟩).cells] hw hil (by simp) ?_;rw[iF];simp only[if_neg k2,if_pos k01,cL,hset];refine .br 60 Dr ?_;simp;refine .nr 60 ?_
      rcases k01 with rfl|rfl<;>simp(disch:=omega)<;>exact .refl _
     ·cases ho
  ·cases h2
abbrev Li:Type:=Nat×UInt8
abbrev dI(x:Li):AV:=.agg [.int .i64 x.1,.int .i64 x.2.toNat]
def bn:Bs->Nat->List Li
 |[],_=>[]
 |c::s,i=>if c=45 then bn s (i+1)else(i,c)::bn s (i+1)
def cK(x:Li)(s:Bs):Bool:=decide (x∈bn s 0)
def dT(x:Li):Fm:=⟨2,if x.2=48 then 2*x.1+1 else 2*x.1,0⟩
theorem Y8(a b:Li):cn (.jb [.int,.int]) (dI a) (dI b)=some (decide (a=b)):=by
 obtain⟨i,c⟩:=a;obtain⟨j,d⟩:=b;simp only[cn,bR,cz,gf,eG,cy]
 by_cases h1:i=j
 ·subst h1
  by_cases h2:c=d
  ·subst h2;simp
  ·have h3:¬(c.toNat:Int)=d.toNat:=by
    intro h;exact h2 (I'.1 (by omega))
   have h4:((c.toNat:Int)==d.toNat)=false:=vn.2 h3;simp[h2,h4]
 ·have h3:¬(i:Int)=j:=by omega
  have h4:((i:Int)==j)=false:=vn.2 h3;simp[h1,h4]
theorem aem(x:Li)(hx:x.1<2^40):aL Tryz.prog Γ zo [dI x] (a_ (dT x)):=by
 obtain⟨i,c⟩:=x;simp only at hx;refine .run 60 Ur (by simp) ?_;have e:((c.toNat:Int)=48)=(c=48):=propext ⟨fun h=>I'.1 (by rw[show((48:UInt8).toNat)=48 from rfl];omega),fun h=>by rw[h];rfl⟩
 by_cases h:c=48
 ·simp(disch:=omega) [e,h];exact .back (by simp[dT,h])
 ·simp(disch:=omega) [e,h];exact .back (by simp[dT,h])
theorem D1(s:Bs){h:List Ob}:∀up,AM.Reach Tryz.prog Γ (.cl sZ [.str s] up h) (.back up (.fn (.func ra) [] [.ptr h.length 0]) (h++[.cells [.str s]])):=by
 intro up;refine .br 60 UY ?_;simp
abbrev afM(s:Bs)(i n:Nat)(up:List Fr):List Fr:=⟨.run,oz,[It.jt (n+3),It.inBlock 0 [],It.code ((ah.ae Qx).seq ah.ret)],
 [.str s,.ptr i 0,U,.ptr n 0,U,.str s,.fn (.func ra) [] [.ptr (n+1) 0],U,U,U,U],[.mark (n+2)],.norm,n⟩::up
abbrev agb(s:Bs)(i n:Nat):List Ob:=[.cells [.bool false],.cells [.str s],.bA true,
 .loop .ready .none oz [U,.ptr i 0,U,.ptr n 0,U,U,U,U,U,U,U] [7] (.ae SY) S6]
def Left(P:Program)(Γ:Nat->Option AV)(c:AM.an)(up:List Fr)(v:AV)(h:List Ob):Prop:=∃J,AM.Reach P Γ c (.back up v (h++J))
section
variable{P:Program}{c c':AM.an}{up up':List Fr}{v:AV}{h h':List Ob}
theorem Left.to(h1:AM.Reach P Γ c c')(h2:Left P Γ c' up v h):Left P Γ c up v h:=h2.imp fun _ h3=>.trans h1 h3
theorem Left.aU(n:Nat)(h1:Left P Γ (AM.go P Γ 2 n c) up v h):Left P Γ c up v h:=.to (Reach.goes n c) h1
theorem Left.pop(n:Nat)(h1:Left P Γ (AM.go P Γ 2 n (AM.pop c)) up v h):Left P Γ c up v h:=.to (.pop c) (.aU n h1)
theorem Left.back(J:List Ob):Left P Γ (.back up v (h++J)) up v h:=⟨J,.refl _⟩
theorem Left.aH{fn:FuncId}{its:List It}{t:List AV}{ds:List dm}{kind:FK}{base:Nat}{m:List Bool}{b:ah}
 (h1:Left P Γ (.fr ⟨.run,fn,.code b::.inLoop m b::its,dg m t,ds,kind,base⟩ up' h') up v h):Left P Γ (.fr ⟨.run,fn,.inLoop m b::its,t,ds,kind,base⟩ up' h') up v h:=.to (AM.Reach.aH (.refl _)) h1
theorem Left.inLoop{fn:FuncId}{its:List It}{t:List AV}{ds:List dm}{kind:FK}{base:Nat}{m:List Bool}{b:ah}
 (h1:Left P Γ (.fr ⟨.run,fn,.code b::.inLoop m b::its,dg m t,ds,kind,base⟩ up' h') up v h):Left P Γ (.fr ⟨.run,fn,.code (.loop m b)::its,t,ds,kind,base⟩ up' h') up v h:=.to (AM.Reach.inLoop (.refl _)) h1
theorem Left.j0{f:Fr}{h1:List Ob}(n:Nat)(hh:h'.take n=h1)(b1:f.base<=n)(b2:j9 n f=true)(b3:cG n h1=true)(h4:Left P Γ (.fr f up' h1) up v h):Left P Γ (.fr f up' h') up v h:=.to (AM.Reach.j0 n hh b1 b2 b3 (.refl _)) h4
theorem Left.aX(n:Nat){f:FuncId}{args:List AV}{v0:AV}{h0:List Ob}(h1:∀up,AM.Reach P Γ (.cl f args up h0) (.back up v0 h'))(h2:Left P Γ (AM.go P Γ 2 n (AM.pop (.back up' v0 h'))) up v h):Left P Γ (.cl f args up' h0) up v h:=.to (h1 up') (.pop n h2)
theorem Left.br(n:Nat){g:FuncId}{F:aA}{args:List AV}(hF:az P g=some F)(h1:Left P Γ (AM.go P Γ 2 n (.fr ⟨.run,g,[.code F.body],args++List.replicate (F.nt-args.length) .undef,[],.norm,h'.length⟩ up' h')) up v h):Left P Γ (.cl g args up' h') up v h:=.to (wA hF args (.aU n (.refl _))) h1
theorem Left.leave{f:FuncId}{args:List AV}(h1:Left P Γ (.cl f args up h) up v h)(hv:aI h.length v=true)(hw:cu h):AM.Reach P Γ (.cl f args up h) (.back up v h):=by
 obtain⟨J,h2⟩:=h1;have h3:=AM.Reach.leave h2 hv (by rw[vp rfl];exact hw _ (aR _));rw[vp rfl]at h3;exact h3
end
set_option maxRecDepth 8000 in
theorem aej(x:Li)(i:Nat)(s:Bs)(hs:s.length<2^40){h:List Ob}(hi:h[i]? =some (.cells (dI x).cells))(hw:cu h)(up:List Fr):∀n j:Nat,j+n=s.length->
 Left Tryz.prog Γ (Ip (.cS (h.length+3)) (.ptr (h.length+1) 0) (.int .i64 s.length) (.int .i64 j) (h++agb s i h.length) ⟨[],.norm,h.length+4,afM s i h.length up⟩) up (.bool (decide (x∈bn (s.drop j) j))) h:=by
 have hil:=aV hi;have e21:h.length+2+1=h.length+3:=rfl
 have hwr:∀c:UInt8,IntKind.i64.wrap (c.toNat:Int)=c.toNat:=fun c=>wrap64 (by omega) (by have:=c.toNat_lt;omega)
 have hget:=fun os=>dJ hi os
 have hb4:=hw (h.length+4) (by omega);intro n
 induction n with
 |zero=>
  intro j hj
  have q1:¬j<s.length:=by omega
  rw[bw (by omega),bn];refine .aU 60 ?_;simp[q1];refine .pop 60 ?_;simp;exact .back _
 |succ n ih=>
  intro j hj
  have q1:j<s.length:=by omega
  have hh:=ih (j+1) (by omega);rw[bQ q1,bn]
  by_cases a:s[j]=45
  ·refine .aU 60 ?_;simp(disch:=omega) [q1,a];refine .aH ?_;simp at hh⊢;exact hh
  ·have e:decide (x∈(if s[j]=45 then bn (s.drop (j+1)) (j+1)else(j,s[j])::bn (s.drop (j+1)) (j+1)))=(decide ((j,s[j])=x)||decide (x∈bn (s.drop (j+1)) (j+1))):=by
    rw[if_neg a,fE];simp only[bf,bu,eX];exact or_congr_left eq_comm
   rw[e];have hq:=Y8 (j,s[j]) x
   by_cases b:(j,s[j])=x
   ·refine .aU 60 ?_;simp(disch:=omega) [q1,a,hget,jY,hq,b,hwr];refine .pop 60 ?_;simp;refine .pop 60 ?_;simp;exact .back _
   ·refine .aU 60 ?_;simp(disch:=omega) [q1,a,hget,jY,hq,b,hwr];refine .pop 60 ?_;simp(disch:=omega);refine .aH ?_;simp;refine .j0 (h.length+4) (by simp;rfl) (by simp) (by simp) (by simp[hb4];omega) ?_;simp at hh⊢;exact hh
theorem Gj(x:Li)(i:Nat)(l:List Bs)(hl:∀s∈l,s.length<2^40):ij Tryz.prog Γ (fun h=>h[i]? =some (.cells (dI x).cells)/\cu h) oz [.ptr i 0] AV.str (cK x) l:=by
 refine⟨by simp,fun s hs up h hφ=>?_⟩;obtain⟨hi,hw⟩:=hφ;refine Left.leave ?_ (by simp) hw;have hh:=aej (Γ:=Γ) x i s (hl s hs) hi hw up s.length 0 (by omega);refine .br 60 V8 ?_;simp;refine .aX 60 (D1 s) ?_;simp;refine .br 60 Dt ?_;simp;refine .inLoop ?_;simp[cK]at hh⊢;exact hh
theorem Pq(x:Li){h:List Ob}:∀up,AM.Reach Tryz.prog Γ (.cl vV [dI x] up h) (.back up (.fn (.func oz) [] [.ptr h.length 0]) (h++[.cells (dI x).cells])):=by
 intro up;refine .br 60 XF ?_;simp
end Go.Proofs.YtihmomicdpkabaaGreatDoor
