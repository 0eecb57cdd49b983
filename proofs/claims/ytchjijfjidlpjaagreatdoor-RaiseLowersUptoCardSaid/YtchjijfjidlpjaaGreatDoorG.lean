/- Forms: the reader. -/
import Derived.Test.YtchjijfjidlpjaaGreatDoorF
import Derived.Shelf.Strings.SlTrimAscii
import Derived.Test.YtchjijfjidlpjaaGreatDoorShelf
import Derived.Test.YtchjijfjidlpjaaGreatDoorCode
import Derived.Test.YtchjijfjidlpjaaGreatDoorAMd
import Derived.Laws.RangeString
import Derived.Laws.RangeAny
set_option linter.unusedSimpArgs false
set_option linter.unusedVariables false
namespace Go.Proofs.YtchjijfjidlpjaaGreatDoor
set_option maxRecDepth 8000
open Go.AM Go.Proofs
variable{Γ:Nat->Option AV}
def fK(n:Int)(x:Fm):Bool:=
 if x.kind=2 then decide (0<=x.lit)&&(decide (x.lit/2<n)&&decide (x.kids=0))
 else if x.kind=3\/x.kind=4 then decide (x.lit=0)&&decide (2<=x.kids)
 else if x.kind=0\/x.kind=1 then decide (x.lit=0)&&decide (x.kids=0)
 else false
def gF(rd:List Fm->Option (Bool×List Fm))(a:Bool):Nat->Bool->List Fm->Option (Bool×List Fm)
 |0,v,l=>some (v,l)
 |k+1,v,l=>match rd l with
  |none=>none
  |some (w,l')=>gF rd a k (if a then w&&v else w||v) l'
def fB(n:Int)(val:Int->Bool):Nat->List Fm->Option (Bool×List Fm)
 |0,_=>none
 |_+1,[]=>none
 |f+1,x::l=>if fK n x=true then(if x.kind=2 then some (val x.lit,l)else gF (fB n val f) (decide (x.kind=3)) x.kids.toNat (decide (x.kind=1)||decide (x.kind=3)) l)else none
section
variable{n:Int}{F:AV}{i:Nat}
end
theorem OE{rd:List Fm->Option (Bool×List Fm)}{a:Bool}(hr:∀l v l',rd l=some (v,l')->l'.length<l.length):∀(k:Nat)(v:Bool)(l:List Fm)(w:Bool)(l':List Fm),gF rd a k v l=some (w,l')->l'.length<=l.length
 |0,v,l,w,l',h=>by simp only[gF,an,b9]at h;rw[h.2];exact aT _
 |k+1,v,l,w,l',h=>by
  simp only[gF]at h
  split at h
  ·cases h
  ·rename_i u l1 hu;have h1:=hr _ _ _ hu;have h2:=OE hr k _ _ _ _ h;omega
theorem Hq(n:Int)(val:Int->Bool):∀(f:Nat)(l:List Fm)(v:Bool)(l':List Fm),fB n val f l=some (v,l')->l'.length<l.length
 |0,l,v,l',h=>by simp[fB]at h
 |f+1,[],v,l',h=>by simp[fB]at h
 |f+1,x::l,v,l',h=>by
  simp only[fB]at h
  split at h
  ·split at h
   ·simp only[an,b9]at h
    rw[<-h.2,bL];omega
   ·have:=OE (Hq n val f) _ _ _ _ _ h
    rw[bL];omega
  ·cases h
section
variable{n:Int}{i:Nat}{φ:List Ob->Prop}{f:FuncId}{caps:List AV}{val:Int->Bool}
end
def DZ(n:Int)(val:Int->Bool)(l:List Fm):Option Bool:=
 if l.length<=4000/\0<=n/\n<=4000 then(match fB n val l.length l with
  |some (v,[])=>some v
  |_=>none)else none
def Tw:Option Bool->Int
 |some _=>0
 |none=>1
@[simp] theorem aDk(v:Bool):Tw (some v)=0:=rfl
@[simp] theorem aDh:Tw none=1:=rfl
def rB(v:List Bool)(a:Int):Bool:=!decide (v.getD (a/2).toNat false=decide (a%2=1))
def lK(rd:Gr->List Fm->Gr×Option (Nat×List Fm)):Nat->Gr->List Nat->List Fm->Gr×Option (List Nat×List Fm)
 |0,x,ks,l=>(x,some (ks,l))
 |k+1,x,ks,l=>gn (rd x l) fun y p=>lK rd k y (ks++[p.1]) p.2
def wS(t:Fm)(y:Gr)(p:List Nat×List Fm):Gr×Option (Nat×List Fm):=eY (fun c=>(c,p.2)) (if t.kind=3 then jc 0 y p.1 else eY (·^^^1) (jc 1 y p.1))
def jS(ins:List Nat):Nat->Gr->List Fm->Gr×Option (Nat×List Fm)
 |0,x,_=>(x,none)
 |_+1,x,[]=>(x,none)
 |f+1,x,t::l=>if t.kind=2 then(x,some (ins.getD (t.lit/2).toNat 0^^^(t.lit%2).toNat,l))
  else if t.kind=0\/t.kind=1 then(x,some (t.kind.toNat,l))
  else gn (lK (jS ins f) t.kids.toNat x [] l) (wS t)
def Jw(x:Gr)(r:Gr×Option (Nat×List Fm)):Prop:=iJ x r.1/\∀p,r.2=some p->p.1<r.1.lits
def alx(x:Gr)(r:Gr×Option (List Nat×List Fm)):Prop:=iJ x r.1/\∀p,r.2=some p->∀a∈p.1,a<r.1.lits
theorem Cv{rd:Gr->List Fm->Gr×Option (Nat×List Fm)}(ins:List Nat)(hr:∀x l,x.Ok->(∀a∈ins,a<x.lits)->Jw x (rd x l)):∀(k:Nat)(x:Gr)(ks:List Nat)(l:List Fm),x.Ok->(∀a∈ins,a<x.lits)->(∀a∈ks,a<x.lits)->alx x (lK rd k x ks l)
 |0,x,ks,l,ok,hi,hk=>⟨.refl ok,fun p hp=>by cases hp;exact hk⟩
 |k+1,x,ks,l,ok,hi,hk=>by
  rw[lK];have h1:=hr x l ok hi
  cases h:rd x l with
  |mk y r=>
   rw[h]at h1
   cases r with
   |none=>exact⟨h1.1,fun p hp=>by cases hp⟩
   |some p=>
    have h2:=h1.2 p rfl
    have:=Cv ins hr k y (ks++[p.1]) p.2 h1.1.ok (fun a ha=>lX (hi a ha) h1.1.lits) (fun a ha=>by
     rcases a8.1 ha with ha|ha
     ·exact lX (hk a ha) h1.1.lits
     ·simp only[cL]at ha;subst ha;exact h2)
    exact⟨h1.1.trans this.1,this.2⟩
theorem afW{t:Fm}{y:Gr}{p:List Nat×List Fm}(ok:y.Ok)(hp:∀a∈p.1,a<y.lits):Jw y (wS t y p):=by
 have h3:lf y (if t.kind=3 then jc 0 y p.1 else eY (·^^^1) (jc 1 y p.1)):=by
  split
  ·exact zz (by omega) ok hp
  ·exact(zz (by omega) ok hp).D4 (by omega)
 refine⟨h3.1,fun q hq=>?_⟩;simp only[wS,eY,cm]at hq;obtain⟨c,hc,rfl⟩:=hq;exact h3.2 c hc
theorem agb(x:Gr):2<=x.lits:=by unfold Gr.lits Gr.all Gr.first;omega
theorem aeR(x:Gr):x.lits=2*x.all:=rfl
theorem t_(ins:List Nat):∀(f:Nat)(x:Gr)(l:List Fm),x.Ok->(∀a∈ins,a<x.lits)->Jw x (jS ins f x l)
 |0,x,l,ok,hi=>⟨.refl ok,fun p hp=>by cases hp⟩
 |f+1,x,[],ok,hi=>⟨.refl ok,fun p hp=>by cases hp⟩
 |f+1,x,t::l,ok,hi=>by
  rw[jS]
  split
  ·refine⟨.refl ok,fun p hp=>?_⟩
   cases hp
   refine wv (n:=x.all) (by omega) ?_;rw[<-aeR];rw[bz]
   cases h:ins[(t.lit/2).toNat]? with
   |none=>exact zY x
   |some a=>exact hi a (jz h)
  ·split
   ·rename_i h;refine⟨.refl ok,fun p hp=>?_⟩
    cases hp
    have:=agb x
    simp only;omega
   ·have h1:=Cv ins (t_ ins f) t.kids.toNat x [] l ok hi (fun a ha=>by cases ha)
    cases h:lK (jS ins f) t.kids.toNat x [] l with
    |mk y r=>
     rw[h]at h1
     cases r with
     |none=>exact⟨h1.1,fun p hp=>by cases hp⟩
     |some p=>
      have h2:=afW (t:=t) h1.1.ok (h1.2 p rfl);exact⟨h1.1.trans h2.1,h2.2⟩
theorem Qe{rd:List Fm->Option (Bool×List Fm)}{a:Bool}(hr:∀l v l',rd l=some (v,l')->l'.length<l.length):∀(k:Nat)(v:Bool)(l:List Fm)(w:Bool)(l':List Fm),gF rd a k v l=some (w,l')->k<=l.length
 |0,v,l,w,l',h=>xu _
 |k+1,v,l,w,l',h=>by
  rw[gF]at h
  cases h1:rd l with
  |none=>rw[h1]at h;cases h
  |some u=>
   rw[h1]at h;obtain⟨u1,u2⟩:=u;have:=hr l u1 u2 h1;have:=Qe hr k _ _ _ _ h;omega
theorem NN{rd:Gr->List Fm->Gr×Option (Nat×List Fm)}{rf:List Fm->Option (Bool×List Fm)}{b:Bool}(hr:∀x l y c l2 v l3,rd x l=(y,some (c,l2))->rf l=some (v,l3)->l2=l3):∀(k:Nat)(x:Gr)(ks:List Nat)(l:List Fm)(v:Bool){y:Gr}{q:List Nat}{l2:List Fm}{w:Bool}{l3:List Fm},lK rd k x ks l=(y,some (q,l2))->gF rf b k v l=some (w,l3)->l2=l3
 |0,x,ks,l,v,y,q,l2,w,l3,h1,h2=>by
  rw[lK]at h1;rw[gF]at h2;cases h1;cases h2;rfl
 |k+1,x,ks,l,v,y,q,l2,w,l3,h1,h2=>by
  rw[lK]at h1;rw[gF]at h2
  cases h:rd x l with
  |mk z r=>
   rw[h]at h1
   cases r with
   |none=>cases h1
   |some p=>
    cases h3:rf l with
    |none=>rw[h3]at h2;cases h2
    |some u=>
     rw[h3]at h2;obtain⟨c,l4⟩:=p;obtain⟨u1,u2⟩:=u;have:=hr x l z c l4 u1 u2 h h3;subst this;exact NN hr k z _ _ _ h1 h2
theorem G5(ins:List Nat)(n:Int)(val:Int->Bool):∀(f:Nat)(x:Gr)(l:List Fm)(y:Gr)(c:Nat)(l2:List Fm)(v:Bool)(l3:List Fm),jS ins f x l=(y,some (c,l2))->fB n val f l=some (v,l3)->l2=l3
 |0,x,l,y,c,l2,v,l3,h1,h2=>by cases h1
 |f+1,x,[],y,c,l2,v,l3,h1,h2=>by cases h1
 |f+1,x,t::l,y,c,l2,v,l3,h1,h2=>by
  rw[jS]at h1;rw[fB]at h2
  split at h2
  ·rename_i ho
   split at h2
   ·rename_i k2;rw[if_pos k2]at h1
    cases h1;cases h2;rfl
   ·rename_i k2;rw[if_neg k2]at h1
    split at h1
    ·rename_i hv
     have hk:t.kids=0:=by
      unfold fK at ho;rw[if_neg k2,if_neg (by omega),if_pos hv]at ho;simp at ho;exact ho.2
     rw[hk]at h2
     cases h1
     simp only[Int.toNat_zero,gF]at h2
     cases h2;rfl
    ·cases h:lK (jS ins f) t.kids.toNat x [] l with
     |mk z r=>
      rw[h]at h1
      cases r with
      |none=>cases h1
      |some p=>
       obtain⟨q,l4⟩:=p;have:=NN (G5 ins n val f) _ _ _ _ _ h h2;subst this;simp only[gn,wS,eY,b9,cm]at h1;obtain⟨_,d,_,_,rfl⟩:=h1;rfl
  ·cases h2
def qm:Bs:=[48,49,45]
def nj(c:UInt8):Bool:=decide (c=48)||(decide (c=49)||decide (c=45))
def o8(n:Nat)(s:Bs):Bool:=s.all nj&&decide (s.length=n)
theorem ai1(c:UInt8):qm.contains c=nj c:=by
 revert c
 rw[show(∀c:UInt8,qm.contains c=nj c)↔∀n:Fin 256,qm.contains (UInt8.ofNat n)=nj (UInt8.ofNat n)from
  ⟨fun h n=>h _,fun h c=>by have:=h ⟨c.toNat,c.toNat_lt⟩;simpa using this⟩]
 decide+kernel
theorem tQ{α:Type}{p:α->Bool}:∀{l:List α},l.dropWhile p=[]↔∀x∈l,p x=true
 |[]=>by simp
 |a::l=>by
  rw[List.dropWhile_cons]
  cases h:p a with
  |true=>simp[tQ (l:=l),h]
  |false=>simp[h]
theorem dropWhile_nil{α:Type}(p:α->Bool)(l:List α)(h:∀x∈l.dropWhile p,p x=true):l.dropWhile p=[]:=by
 cases hd:l.dropWhile p with
 |nil=>rfl
 |cons a t=>
  have h1:=List.head_dropWhile_not p (l:=l) (by rw[hd];simp);simp only[hd,List.head_cons]at h1;rw[h a (by rw[hd];simp)]at h1
  cases h1
theorem QE(s:Bs):(Lib.trimS s qm=[])↔s.all nj=true:=by
 have e:(fun c=>qm.contains c)=nj:=funext ai1;unfold Lib.trimS Lib.trimLeftS Lib.trimRightS;rw[e];constructor
 ·intro h
  have h1:=dropWhile_nil nj s.reverse fun x hx=>by
   have:=tQ.1 h x (by simpa using hx);exact this
  have h2:=tQ.1 h1;rw[eh];intro x hx;exact h2 x (by simpa using hx)
 ·intro h
  have h1:s.reverse.dropWhile nj=[]:=tQ.2 fun x hx=>eh.1 h x (by simpa using hx)
  rw[h1];rfl
theorem Sy(s:Bs)(hs:s.length<2^40):aQ ak Γ vv [.str s,.str qm] (.str (Lib.trimS s qm)):=by
 refine aQ.JP (by simp) (fun _=>rfl) rfl fun N g h w us _ hV=>?_
 obtain⟨us,rfl,h1⟩:=DC hV;obtain⟨us,rfl,h2⟩:=DC h1;obtain rfl:=I9 h2;refine(Any.strings_Trim_laid Tryz.R5 (by kernel_rfl) ⟨s.toArray⟩ ⟨qm.toArray⟩ w (by simp[ByteArray.size];omega) (by decide) (ascii_of_all (by decide))).mono ?_
 rintro e' w' ⟨rfl,hB⟩
 exact⟨⟨_,rfl,fun _ _=>by simp[V]⟩,hB⟩
theorem alf(s:Bs)(n:Nat)(hs:s.length<2^40):aQ ak Γ HQ [.str s,.int .i64 n] (.bool (o8 n s)):=by
 refine .run 60 afD.1 (by simp) ?_;unfold o8
 by_cases h:s.length=n
 ·have h':(s.length:Int)=n:=by omega
  have hT:=Sy (Γ:=Γ) s hs;unfold qm at hT
  have h2:decide (Lib.trimS s [48,49,45]=[])=s.all nj:=by
   rw[gV,Yg];exact QE s
  simp[h,h'];refine .call 60 (by simp) hT ?_;simp[h2];exact .back (by simp[h2,h])
 ·have h':¬(s.length:Int)=n:=by omega
  simp[h,h'];exact .back (by simp[h])
abbrev A3:Nat:=1
abbrev Tu:Nat:=0
abbrev JW:Nat:=4
theorem IQ:Tryz.prog.globalNamed "internal/strconv.uint64pow10" =some JW:=by kernel_rfl
theorem aac{φ:List Ob->Prop}{f:FuncId}{caps:List AV}{p:(List UInt8)->Bool}{l:List (List UInt8)}{k:Nat}{fl:Bool}(ha:jJ Tryz.prog Γ φ f caps AV.str p l)(hk:Kd 1 k l)(hs:l.length<2^60){h:List Ob}(hφ:φ h):
 ∀up,AM.Reach ak Γ (.cl vh [.list fl k (l.map AV.str),.fn (.func f) [] caps] up h) (.back up (.int .i64 (fG p l 0)) h):=by
 intro up
 have key:∀n i:Nat,i+n=l.length->AM.Reach ak Γ (Vj (.list fl k (l.map AV.str)) (.fn (.func f) [] caps) (.int .i64 l.length) (.int .i64 i) h ⟨[],.norm,h.length,up⟩) (.back up (.int .i64 (fG p (l.drop i) i)) h):=by
  intro n
  induction n with
  |zero=>
   intro i hi
   have h1:¬i<l.length:=by omega
   refine .aY 60 ?_;rw[bx (by omega)];simp[h1,fG]
  |succ n ih=>
   intro i hi
   have h1:i<l.length:=by omega
   obtain rfl:=hk.of h1;have h2:=ha.2 l[i] (bA h1);rw[bJ h1,fG];have hh:=ih (i+1) (by omega);refine .aY 60 ?_;simp[h1,ha.1];refine .aX 60 (fun up=>h2 up h hφ) ?_
   cases hp:p l[i]with
   |true=>simp(disch:=omega) [hp]
   |false=>
    simp(disch:=omega) [hp];refine .aI ?_;simp at hh⊢;exact hh
 refine .bp 60 Mg.1 ?_;simp;refine .inLoop ?_;have hh:=key l.length 0 (by omega);simp at hh⊢;exact hh
theorem y0{φ:List Ob->Prop}{f:FuncId}{caps:List AV}{p:(List UInt8)->Bool}{l:List (List UInt8)}{k:Nat}{fl:Bool}(ha:jJ Tryz.prog Γ φ f caps AV.str p l)(hk:Kd 1 k l)(hs:l.length<2^60){h:List Ob}(hφ:φ h):
 ∀up,AM.Reach ak Γ (.cl tI [.list fl k (l.map AV.str),.fn (.func f) [] caps] up h) (.back up (.bool (bE p l)) h):=by
 intro up;refine .bp 60 Ys.1 ?_;simp;refine .aX 60 (aac ha hk hs hφ) ?_;have h1:=Dh p l 0
 cases hp:bE p l with
 |true=>rw[hp]at h1;simp at h1;simp[h1]
 |false=>
  rw[hp]at h1
  have h2:¬0<=fG p l 0:=by rw[h1];simp
  simp[h2]
abbrev p2(a b:Int):AV:=.agg [.int .i64 a,.int .i64 b]
def J8(n:Int):Option AV:=if 4<=n/\n<=9 then some (p2 2 8)else if n=0\/n=1 then some (p2 0 0)else if n=2\/n=3 then some (p2 1 1)else if n=10 then some (p2 0 8)else none
def fE(Γ:Nat->Option AV):Prop:=∃ks vs,Γ A3=some (.dG ks vs)/\∀n:Int,fg (.sc .int) (.int .i64 n) (ks.zip vs)=some (J8 n)
def ll(op:Int)(n:Nat):Bool:=if 4<=op/\op<=9 then decide (2<=n/\n<=8)else if op=0\/op=1 then decide (n=0)else if op=2\/op=3 then decide (n=1)else false
def hasB(op:Int)(n:Nat):Bool:=if op=10 then decide (n<=8)else ll op n
def ig(g:Gt):Bool:=
 if g.op=10 then decide (g.ins.length<=8)&&(decide (g.rows.length<=128)&&!bE (fun s=>!o8 g.ins.length s) g.rows)else !(decide (0<g.rows.length)||g.off)&&ll g.op g.ins.length
theorem C0{ks vs:List AV}(hG:Γ A3=some (.dG ks vs)){op a b:Int}(hF:fg (.sc .int) (.int .i64 op) (ks.zip vs)=some (some (p2 a b)))(n:Int):aQ ak Γ zQ [.int .i64 op,.int .i64 n] (.bool (decide (a<=n)&&decide (n<=b))):=by
 simp only[A3]at hG;refine .run 60 Pd.1 (by simp) ?_
 by_cases h:a<=n
 ·simp[hG,hF,h,isKey,bM,bV];exact .back (by simp)
 ·simp[hG,hF,h,isKey,bM,bV];exact .back (by simp)
theorem agQ{ks vs:List AV}(hG:Γ A3=some (.dG ks vs)){op:Int}(hF:fg (.sc .int) (.int .i64 op) (ks.zip vs)=some none)(n:Int):aQ ak Γ zQ [.int .i64 op,.int .i64 n] (.bool false):=by
 simp only[A3]at hG;refine .run 60 Pd.1 (by simp) ?_;simp[hG,hF,isKey,bM,bV];exact .back (by simp)
theorem alj(hΓ:fE Γ)(op:Int)(n:Nat):aQ ak Γ zQ [.int .i64 op,.int .i64 n] (.bool (hasB op n)):=by
 obtain⟨ks,vs,hG,hF⟩:=hΓ;have h1:=hF op;unfold J8 at h1
 by_cases a:4<=op/\op<=9
 ·rw[if_pos a]at h1
  have e:hasB op n=(decide ((2:Int)<=n)&&decide ((n:Int)<=8)):=by
   unfold hasB ll;rw[if_neg (by omega),if_pos a,gV]
   simp only[aB,bj];omega
  rw[e];exact C0 hG h1 n
 ·rw[if_neg a]at h1
  by_cases b:op=0\/op=1
  ·rw[if_pos b]at h1
   have e:hasB op n=(decide ((0:Int)<=n)&&decide ((n:Int)<=0)):=by
    unfold hasB ll;rw[if_neg (by omega),if_neg a,if_pos b,gV]
    simp only[aB,bj];omega
   rw[e];exact C0 hG h1 n
  ·rw[if_neg b]at h1
   by_cases c:op=2\/op=3
   ·rw[if_pos c]at h1
    have e:hasB op n=(decide ((1:Int)<=n)&&decide ((n:Int)<=1)):=by
     unfold hasB ll;rw[if_neg (by omega),if_neg a,if_neg b,if_pos c,gV]
     simp only[aB,bj];omega
    rw[e];exact C0 hG h1 n
   ·rw[if_neg c]at h1
    by_cases d:op=10
    ·rw[if_pos d]at h1
     have e:hasB op n=(decide ((0:Int)<=n)&&decide ((n:Int)<=8)):=by
      unfold hasB;rw[if_pos d,gV]
      simp only[aB,bj];omega
     rw[e];exact C0 hG h1 n
    ·rw[if_neg d]at h1
     have e:hasB op n=false:=by
      unfold hasB ll;rw[if_neg d,if_neg a,if_neg b,if_neg c]
     rw[e];exact agQ hG h1 n
theorem agP(g:Gt)(i:Nat)(hg:wL g):jJ Tryz.prog Γ (fun h=>h[i]? =some (.cells (AV.cells (df g)))) Gw [.ptr i 0] AV.str (fun s=>!o8 g.ins.length s) g.rows:=by
 refine⟨by simp,fun s hs up h hφ=>?_⟩;refine .bp 60 abP.1 ?_;simp[hφ];refine .ji 60 (by simp) (alf s g.ins.length (hg.2.2.2.2 s hs)) ?_;simp
theorem Sm(hΓ:fE Γ)(g:Gt)(hg:wL g):aQ ak Γ Cm [df g] (.bool (ig g)):=by
 have b1:=hg.2.1;have b2:=hg.2.2.1;refine .run 60 ady.1 (by simp) ?_;unfold ig;have hH:=alj hΓ g.op g.ins.length;have hC:=y0 (Γ:=Γ) (fl:=false) (agP g 0 hg) g.hr (by omega) (h:=[.cells (AV.cells (df g))]) rfl
 by_cases ho:g.op=10
 ·simp[ho];rw[ho]at hH;refine .call 60 (by simp) hH ?_;have e:((g.ins.length:Int)<=8)=(g.ins.length<=8):=propext (by omega);have e2:((g.rows.length:Int)<=128)=(g.rows.length<=128):=propext (by omega)
  by_cases h1:g.ins.length<=8
  ·by_cases h2:g.rows.length<=128
   ·simp[hasB,h1,h2,e2];simp[ho]at hC;refine .aX 60 hC ?_;simp;exact .back (by simp)
   ·simp[hasB,h1,h2,e2];exact .back (by simp)
  ·simp[hasB,h1];exact .back (by simp)
 ·simp only[if_neg ho]
  by_cases h1:0<g.rows.length
  ·have e:((0:Int)<g.rows.length)=True:=bG (by omega);simp[ho,h1,e];exact .back (by simp)
  ·have e:((0:Int)<g.rows.length)=False:=jC (by omega)
   cases h2:g.off with
   |true=>
    simp[ho,h1,h2,e];exact .back (by simp)
   |false=>
    have h0:g.rows=[]:=lq.1 (by omega);simp[ho,h0,h2];refine .call 60 (by simp) hH ?_
    cases h3:ll g.op g.ins.length with
    |false=>
     simp[hasB,ho,h3];exact .back (by simp)
    |true=>
     simp[hasB,ho,h3];simp only[h0,h2,AV.cells,jO]at hC;refine .aX 60 hC ?_;simp[ug];exact .back (by simp)
theorem vl(l:List (List UInt8)){k:Nat}(hk:Kd 1 k l)(hl:l.length<2^40):aQ ak Γ r9 [.list false k (l.map AV.str)] (.own 1 aw (l.map AV.str)):=by
 refine .run 60 YH.1 (by simp) ?_
 cases l with
 |nil=>
  simp;refine .either 0 (by simp) (fun b=>?_)
  cases b
  ·refine .go 9 ?_;simp;refine .qS 2 1 aw rfl (by omega) ?_;refine .go 60 ?_;simp;exact .back (by simp)
  ·refine .go 60 ?_;simp;exact .back (by simp)
 |cons x xs=>
  have h2:k=1:=by
   rcases hk with h|h
   ·exact h
   ·cases h
  subst h2;simp at hl;simp(disch:=(first|omega|(simp;omega)));exact .back (by simp)
theorem aja(c:Ct)(hc:cH c):∀n i:Nat,i+n=c.af.length->∀l:List Bs,l.length+n<2^40->
 aA ak Γ (ykM (.sl 2 0 l.length) (.list false c.kG (c.af.map df)) (.int .i64 c.af.length) (.int .i64 i) [.cells (AV.cells (bU c)),.row 1 aw [] none true false,.row 1 aw (l.map .str) none true false]) (.ret (.own 1 aw ((l++(c.af.drop i).map (·.name)).map .str))):=by
 have hG:=c.hG;have hl:=hc.2.2.2.1;intro n
 induction n with
 |zero=>
  intro i hi l hL
  have q1:¬i<c.af.length:=by omega
  rw[bx (by omega)];refine .go 60 ?_;simp[q1];exact .back (by simp)
 |succ n ih=>
  intro i hi l hL
  have q1:i<c.af.length:=by omega
  have q2:=hG.of q1;have hh:=ih (i+1) (by omega) (l++[c.af[i].name]) (by simp;omega);have e:l++(c.af.drop i).map (·.name)=l++[c.af[i].name]++(c.af.drop (i+1)).map (·.name):=JE l (·.name) _ q1;rw[e];refine .go 60 ?_;simp(disch:=omega) [q1,q2];refine .aI ?_;simp;refine .drop 3 rfl (by simp) (by simp) (by simp) ?_;refine .reset (i:=2) rfl (by simp) (by simp) (by simp) ?_;simp[q2]at hh⊢;exact hh
theorem ai6(c:Ct)(hc:cH c):∀n i:Nat,i+n=c.ah.length->∀l:List Bs,l.length+n<2^39->
 aA ak Γ (ykO (.ptr 0 0) (.sl 2 0 l.length) (.list false c.kL (c.ah.map ov)) (.int .i64 c.ah.length) (.int .i64 i) [.cells (AV.cells (bU c)),.row 1 aw [] none true false,.row 1 aw (l.map .str) none true false]) (.ret (.own 1 aw ((l++(c.ah.drop i).map (·.name)++c.af.map (·.name)).map .str))):=by
 have hG:=c.hL;have hl:=hc.2.2.1;have h2:=hc.2.2.2.1;intro n
 induction n with
 |zero=>
  intro i hi l hL
  have q1:¬i<c.ah.length:=by omega
  have hh:=aja (Γ:=Γ) c hc c.af.length 0 (by omega) l (by omega);rw[bx (by omega)];refine .go 60 ?_;simp[q1];refine .inLoop ?_;simp at hh⊢;exact hh
 |succ n ih=>
  intro i hi l hL
  have q1:i<c.ah.length:=by omega
  have q2:=hG.of q1;have hh:=ih (i+1) (by omega) (l++[c.ah[i].name]) (by simp;omega);have e:l++(c.ah.drop i).map (·.name)=l++[c.ah[i].name]++(c.ah.drop (i+1)).map (·.name):=JE l (·.name) _ q1;rw[e];refine .go 60 ?_;simp(disch:=omega) [q1,q2];refine .aI ?_;simp;refine .drop 3 rfl (by simp) (by simp) (by simp) ?_;refine .reset (i:=2) rfl (by simp) (by simp) (by simp) ?_;simp[q2]at hh⊢;exact hh
theorem Jn(c:Ct)(hc:cH c):aQ ak Γ ub [bU c] (.own 1 aw ((aE c).map .str)):=by
 have h1:=hc.1;have h2:=hc.2.2.1;refine .run 60 ac6.1 (by simp) ?_;simp;refine .call 60 (by simp) (vl c.aq c.hI (by omega)) ?_;simp;refine .inLoop ?_;have hh:=ai6 (Γ:=Γ) c hc c.ah.length 0 (by omega) c.aq (by omega);simp[aE]at hh⊢;exact hh
abbrev o5(x:Nat×List (List UInt8)):AV:=.list false x.1 (x.2.map AV.str)
def cD:List (Nat×List (List UInt8))->List (List UInt8)
 |[]=>[]
 |x::xs=>x.2++cD xs
theorem Nl(a b:List (Nat×List (List UInt8))):cD (a++b)=cD a++cD b:=by
 induction a with
 |nil=>rfl
 |cons x a ih=>simp[cD,ih]
theorem OH(xs:List (Nat×List (List UInt8)))(i:Nat)(h:i<xs.length):cD (xs.take (i+1))=cD (xs.take i)++xs[i].2:=by
 rw[iA h,Nl];simp[cD]
theorem Q8(xs:List (Nat×List (List UInt8)))(i:Nat):(cD (xs.take i)).length<=(cD xs).length:=by
 conv=>rhs;rw[<-lY i xs,Nl]
 simp
theorem Mh(xs:List (Nat×List (List UInt8)))(hk:∀x∈xs,Kd 1 x.1 x.2)(hn:xs.length<2^40)(hs:(cD xs).length<2^40)(hp:0<(cD xs).length):
 aQ ak Γ py [.list false 1 (xs.map o5)] (.own 1 aw ((cD xs).map AV.str)):=by
 refine .run 60 Mj.1 (by simp) ?_
 have hv:∀n i:Nat,i+n=xs.length->∀m:Nat,(cD (xs.take i)).length+m=(cD xs).length->
  aA ak Γ (XM (.sl 2 0 (cD (xs.take i)).length) (.list false 1 (xs.map o5)) (.int .i64 xs.length) (.int .i64 i) [.row 1 aw [] none true false,.row 1 aw [] none true false,.row 1 aw ((cD (xs.take i)).map AV.str++List.replicate m (AV.str [])) none true false])
   (.ret (.own 1 aw ((cD xs).map AV.str))):=by
  intro n
  induction n with
  |zero=>
   intro i hi m hm
   have q1:¬i<xs.length:=by omega
   have q2:xs.take i=xs:=cj (by omega);rw[q2]at hm⊢
   have hb:m=0:=by omega
   subst hb;refine .go 60 ?_;simp[q1];exact .back (by simp)
  |succ n ih=>
   intro i hi m hm
   have q1:i<xs.length:=by omega
   have q2:=OH xs i q1;have q3:=Q8 xs (i+1);rw[q2,bC]at q3;have q4:=hk xs[i] (bA q1);have q5:xs[i].1=1\/xs[i].2=[]:=q4;have hh:=ih (i+1) (by omega) (m-xs[i].2.length) (by rw[q2,bC];omega);rw[q2]at hh
   have hd:(List.replicate m (AV.str [])).drop xs[i].2.length=List.replicate (m-xs[i].2.length) (AV.str []):=by simp
   refine .go 60 ?_
   by_cases q6:(cD (xs.take i)).length=(cD xs).length
   ·have q7:xs[i].2=[]:=lq.1 (by omega)
    have hb:m=0:=by omega
    subst hb;simp[q7]at hh;simp(disch:=(first|omega|(simp;omega))) [q1,q5,q7];refine .aI ?_;simp;exact hh
   ·simp(disch:=(first|omega|(simp;omega))) [q1,q5]
    by_cases q7:m=0
    ·omega
    ·have c1:¬(cD (List.take i xs)).length=(cD (List.take i xs)).length+m:=by omega
     have c2:(cD (List.take i xs)).length+xs[i].snd.length<=(cD (List.take i xs)).length+m:=by omega
     simp(disch:=(first|omega|(simp;omega))) [q1,q5,c1,c2,q7];refine .aI ?_;have oz:((cD (xs.take i)).map AV.str).drop ((cD (xs.take i)).length+xs[i].2.length)=[]:=bx (by simp);simp[vc,hd,oz]at hh⊢;exact hh
 have hc:∀n i:Nat,i+n=xs.length->
  aA ak Γ (Xr (.list false 1 (xs.map o5)) (.int .i64 (cD (xs.take i)).length) (.list false 1 (xs.map o5)) (.int .i64 xs.length) (.int .i64 i) [.row 1 aw [] none true false])
   (.ret (.own 1 aw ((cD xs).map AV.str))):=by
  intro n
  induction n with
  |zero=>
   intro i hi
   have q1:¬i<xs.length:=by omega
   have q2:xs.take i=xs:=cj (by omega);have q3:0<(cD xs).length:=hp;have hh:=hv xs.length 0 (by omega) (cD xs).length (by simp[cD]);refine .go 60 ?_;rw[q2];simp[q1];refine .enter 60 Ml.1 ?_
   have q4:¬(cD xs).length=0:=by omega
   have q5:cD xs≠[]:=fun e=>by rw[e]at hp;simp at hp
   obtain⟨m,hm⟩:∃m,(cD xs).length=m+1:=⟨(cD xs).length-1,by omega⟩
   have h2:List.replicate (cD xs).length (AV.str [])=(AV.str [])::List.replicate m (AV.str []):=by rw[hm];rfl
   simp(disch:=(first|omega|(simp;omega))) [q3,q4,q5,h2];refine .inLoop ?_;simp[cD,h2]at hh⊢;exact hh
  |succ n ih=>
   intro i hi
   have q1:i<xs.length:=by omega
   have q2:=OH xs i q1;have q3:=Q8 xs (i+1);rw[q2,bC]at q3;have hh:=ih (i+1) (by omega);rw[q2]at hh;refine .go 60 ?_
   have q4:¬((cD (xs.take i)).length:Int)+xs[i].2.length<0:=by omega
   simp(disch:=(first|omega|(simp;omega))) [q1,q4];refine .aI ?_;simp at hh⊢;exact hh
 simp;refine .inLoop ?_;have hh:=hc xs.length 0 (by omega);simp[cD]at hh⊢;exact hh
theorem Mf(xs:List (Nat×List (List UInt8)))(hx:∀x∈xs,x.2=[])(hn:xs.length<2^40):
 aQ ak Γ py [.list false 1 (xs.map o5)] (.own 1 aw []):=by
 refine .run 60 Mj.1 (by simp) ?_
 have h2:∀n i:Nat,i+n=xs.length->aA ak Γ (XM (.list true 0 []) (.list false 1 (xs.map o5)) (.int .i64 xs.length) (.int .i64 i) [.row 1 aw [] none true false,.row 1 aw [] none true false])
  (.ret (.own 1 aw [])):=by
  intro n
  induction n with
  |zero=>
   intro i hi
   have q1:¬i<xs.length:=by omega
   refine .qS 6 1 aw rfl (by omega) ?_;refine .go 60 ?_;simp[q1];exact .back (by simp)
  |succ n ih=>
   intro i hi
   have q1:i<xs.length:=by omega
   have q7:=hx xs[i] (bA q1);have hh:=ih (i+1) (by omega);refine .go 60 ?_;simp(disch:=(first|omega|(simp;omega))) [q1,q7];refine .aI ?_;simp at hh⊢;exact hh
 have key:∀n i:Nat,i+n=xs.length->aA ak Γ (Xr (.list false 1 (xs.map o5)) (.int .i64 0) (.list false 1 (xs.map o5)) (.int .i64 xs.length) (.int .i64 i) [.row 1 aw [] none true false])
  (.ret (.own 1 aw [])):=by
  intro n
  induction n with
  |zero=>
   intro i hi
   have q1:¬i<xs.length:=by omega
   refine .go 60 ?_;simp[q1];refine .enter 60 Ml.1 ?_;simp;refine .inLoop ?_;have hh:=h2 xs.length 0 (by omega);simp at hh⊢;exact hh
  |succ n ih=>
   intro i hi
   have q1:i<xs.length:=by omega
   have q7:=hx xs[i] (bA q1);have hh:=ih (i+1) (by omega);refine .go 60 ?_;simp(disch:=(first|omega|(simp;omega))) [q1,q7];refine .aI ?_;simp at hh⊢;exact hh
 simp;refine .inLoop ?_;have hh:=key xs.length 0 (by omega);simp at hh⊢;exact hh
theorem YB(xs:List (Nat×List (List UInt8)))(hk:∀x∈xs,Kd 1 x.1 x.2)(hn:xs.length<2^40)(hs:(cD xs).length<2^40):
 aQ ak Γ py [.list false 1 (xs.map o5)] (.own 1 aw ((cD xs).map AV.str)):=by
 rcases Ye (cD xs).length with h|h
 ·have h0:cD xs=[]:=lq.1 h
  have hx:∀x∈xs,x.2=[]:=by
   clear hk hn hs h
   induction xs with
   |nil=>simp
   |cons y ys ih=>
    simp only[cD,L8]at h0;intro x hx
    rcases bD.1 hx with rfl|hx
    ·exact h0.1
    ·exact ih h0.2 x hx
  rw[h0];exact Mf xs hx hn
 ·exact Mh xs hk hn hs h
theorem Jz{α β:Type}(a:List β)(f:α->List β)(l:List α){i:Nat}(h:i<l.length):a++(l.drop i).flatMap f=a++f l[i]++(l.drop (i+1)).flatMap f:=by
 rw[bJ h,oD,cR]
def mX(l:List Gt):List Bs:=l.flatMap (·.ins)
def rr(l:List Lt):List Bs:=l.flatMap fun q=>[q.name,q.next]
def pO(l:List Gt):List Bs:=l.flatMap fun g=>g.name::g.ins
def fT(c:Ct):List Bs:=c.az++c.ah.map (·.next)++mX c.af
def ry(c:Ct):List Bs:=c.aq++c.az++rr c.ah++pO c.af
theorem Dy{α β:Type}(f:α->List β)(n:Nat):∀l:List α,(∀x∈l,(f x).length<=n)->(l.flatMap f).length<=l.length*n
 |[],_=>by simp
 |x::l,h=>by
  have h1:=Dy f n l fun y hy=>h y (dH _ hy)
  have h2:=h x (pv ..);rw[oD,bC,bL,Fz];omega
theorem zX{c:Ct}(hc:cH c):(mX c.af).length<=2^20:=by
 have h1:=Dy (·.ins) (2^10) c.af fun g hg=>by have:=(hc.2.2.2.2.1 g hg).2.1;omega
 have h2:=hc.2.2.2.1;unfold mX;omega
theorem z6{c:Ct}(hc:cH c):(pO c.af).length<=2^20:=by
 have h1:=Dy (fun g:Gt=>g.name::g.ins) (2^10) c.af fun g hg=>by have:=(hc.2.2.2.2.1 g hg).2.1;simp;omega
 have h2:=hc.2.2.2.1;unfold pO;omega
theorem vZ{c:Ct}(hc:cH c):(rr c.ah).length<=2^20:=by
 have h1:=Dy (fun q:Lt=>[q.name,q.next]) 2 c.ah fun g hg=>by simp
 have h2:=hc.2.2.1;unfold rr;omega
theorem aiG(c:Ct)(hc:cH c):∀n i:Nat,i+n=c.af.length->∀l:List Bs,l.length+(mX (c.af.drop i)).length<2^40->
 aA ak Γ (yod (.sl 2 0 l.length) (.list false c.kG (c.af.map df)) (.int .i64 c.af.length) (.int .i64 i) [.cells (AV.cells (bU c)),.row 1 aw [] none true false,.row 1 aw (l.map .str) none true false]) (.ret (.own 1 aw ((l++mX (c.af.drop i)).map .str))):=by
 have hG:=c.hG;have hl:=hc.2.2.1;have h2:=hc.2.2.2.1;have b1:=zX hc;have b2:=z6 hc;have b3:=vZ hc;intro n
 induction n with
 |zero=>
  intro i hi l hL
  have q1:¬i<c.af.length:=by omega
  rw[bx (by omega)];refine .go 60 ?_;simp[q1];exact .back (by simp[mX])
 |succ n ih=>
  intro i hi l hL
  have q1:i<c.af.length:=by omega
  have q2:=hG.of q1;have q3:=(hc.2.2.2.2.1 c.af[i] (bA q1)).2.1;have q4:=c.af[i].hi;have q5:c.af[i].ki=1\/c.af[i].ins=[]:=q4;have e:l++mX (c.af.drop i)=l++c.af[i].ins++mX (c.af.drop (i+1)):=Jz l (fun g:Gt=>g.ins) _ q1;have e2:=congrArg List.length e;simp only[bC,bL,c_]at e2;have hh:=ih (i+1) (by omega) (l++c.af[i].ins) (by simp only[bC,bL,c_];omega);rw[e];refine .go 60 ?_;simp(disch:=omega) [q1,q2,q5];refine .aI ?_;simp;refine .drop 3 rfl (by simp) (by simp) (by simp) ?_;refine .nR (i:=2) rfl (by first|(simp;done)|(by_cases hq:c.af[i].ins=[]<;>simp[hq])) (by simp) (by simp<;>omega) (by simp) ?_;simp[q2]at hh⊢;exact hh
theorem aiF(c:Ct)(hc:cH c):∀n i:Nat,i+n=c.ah.length->∀l:List Bs,l.length+((c.ah.drop i).map (·.next)).length<2^39->
 aA ak Γ (yof (.ptr 0 0) (.sl 2 0 l.length) (.list false c.kL (c.ah.map ov)) (.int .i64 c.ah.length) (.int .i64 i) [.cells (AV.cells (bU c)),.row 1 aw [] none true false,.row 1 aw (l.map .str) none true false]) (.ret (.own 1 aw ((l++(c.ah.drop i).map (·.next)++mX c.af).map .str))):=by
 have hG:=c.hL;have hl:=hc.2.2.1;have h2:=hc.2.2.2.1;have b1:=zX hc;have b2:=z6 hc;have b3:=vZ hc;intro n
 induction n with
 |zero=>
  intro i hi l hL
  have q1:¬i<c.ah.length:=by omega
  have hh:=aiG (Γ:=Γ) c hc c.af.length 0 (by omega) l (by rw[fM];omega);rw[bx (by omega)];refine .go 60 ?_;simp[q1];refine .inLoop ?_;simp at hh⊢;exact hh
 |succ n ih=>
  intro i hi l hL
  have q1:i<c.ah.length:=by omega
  have q2:=hG.of q1;have e:l++(c.ah.drop i).map (·.next)=l++[c.ah[i].next]++(c.ah.drop (i+1)).map (·.next):=JE l (·.next) _ q1;have e2:=congrArg List.length e;simp only[bC,bL,c_]at e2;have hh:=ih (i+1) (by omega) (l++[c.ah[i].next]) (by simp only[bC,bL,c_];omega);rw[e];refine .go 60 ?_;simp(disch:=omega) [q1,q2];refine .aI ?_;simp;refine .drop 3 rfl (by simp) (by simp) (by simp) ?_;refine .reset (i:=2) rfl (by simp) (by simp) (by simp) ?_;simp[q2]at hh⊢;exact hh
theorem ajI(c:Ct)(hc:cH c):aQ ak Γ zy [bU c] (.own 1 aw ((fT c).map .str)):=by
 have h1:=hc.2.1;have h2:=hc.2.2.1;refine .run 60 adf.1 (by simp) ?_;simp;refine .call 60 (by simp) (vl c.az c.hO (by omega)) ?_;simp;refine .inLoop ?_;have hh:=aiF (Γ:=Γ) c hc c.ah.length 0 (by omega) c.az (by rw[fM,fy];omega);simp[fT]at hh⊢;exact hh
theorem aif(c:Ct)(hc:cH c):∀n i:Nat,i+n=c.af.length->∀l:List Bs,l.length+(pO (c.af.drop i)).length<2^40->
 aA ak Γ (ynh (.sl 2 0 l.length) (.list false c.kG (c.af.map df)) (.int .i64 c.af.length) (.int .i64 i) [.cells (AV.cells (bU c)),.row 1 aw [] none true false,.row 1 aw (l.map .str) none true false]) (.ret (.own 1 aw ((l++pO (c.af.drop i)).map .str))):=by
 have hG:=c.hG;have hl:=hc.2.2.1;have h2:=hc.2.2.2.1;have b1:=zX hc;have b2:=z6 hc;have b3:=vZ hc;intro n
 induction n with
 |zero=>
  intro i hi l hL
  have q1:¬i<c.af.length:=by omega
  rw[bx (by omega)];refine .go 60 ?_;simp[q1];exact .back (by simp[pO])
 |succ n ih=>
  intro i hi l hL
  have q1:i<c.af.length:=by omega
  have q2:=hG.of q1;have q3:=(hc.2.2.2.2.1 c.af[i] (bA q1)).2.1;have q4:=c.af[i].hi;have q5:c.af[i].ki=1\/c.af[i].ins=[]:=q4;have e:l++pO (c.af.drop i)=l++(c.af[i].name::c.af[i].ins)++pO (c.af.drop (i+1)):=Jz l (fun g:Gt=>g.name::g.ins) _ q1;have e2:=congrArg List.length e;simp only[bC,bL,c_]at e2;have hh:=ih (i+1) (by omega) (l++(c.af[i].name::c.af[i].ins)) (by simp only[bC,bL,c_];omega);rw[e];refine .go 60 ?_;simp(disch:=omega) [q1,q2,q5];refine .dr 60 ?_;simp(disch:=omega) [q1,q2,q5];refine .aI ?_;simp;refine .drop 3 rfl (by simp) (by simp) (by simp) ?_;refine .nR (i:=2) rfl (by first|(simp;done)|(by_cases hq:c.af[i].ins=[]<;>simp[hq])) (by simp) (by simp<;>omega) (by simp) ?_
  have e3:l.length+(c.af[i].ins.length+1)=l.length+1+c.af[i].ins.length:=by omega
  simp[q2,e3]at hh⊢;exact hh
theorem aii(c:Ct)(hc:cH c):∀n i:Nat,i+n=c.ah.length->∀l:List Bs,l.length+(rr (c.ah.drop i)).length<2^39->
 aA ak Γ (ynj (.ptr 0 0) (.sl 2 0 l.length) (.list false c.kL (c.ah.map ov)) (.int .i64 c.ah.length) (.int .i64 i) [.cells (AV.cells (bU c)),.row 1 aw [] none true false,.row 1 aw (l.map .str) none true false]) (.ret (.own 1 aw ((l++rr (c.ah.drop i)++pO c.af).map .str))):=by
 have hG:=c.hL;have hl:=hc.2.2.1;have h2:=hc.2.2.2.1;have b1:=zX hc;have b2:=z6 hc;have b3:=vZ hc;intro n
 induction n with
 |zero=>
  intro i hi l hL
  have q1:¬i<c.ah.length:=by omega
  have hh:=aif (Γ:=Γ) c hc c.af.length 0 (by omega) l (by rw[fM];omega);rw[bx (by omega)];refine .go 60 ?_;simp[q1];refine .inLoop ?_;simp[rr]at hh⊢;exact hh
 |succ n ih=>
  intro i hi l hL
  have q1:i<c.ah.length:=by omega
  have q2:=hG.of q1;have e:l++rr (c.ah.drop i)=l++[c.ah[i].name,c.ah[i].next]++rr (c.ah.drop (i+1)):=Jz l (fun q:Lt=>[q.name,q.next]) _ q1;have e2:=congrArg List.length e;simp only[bC,bL,c_]at e2;have hh:=ih (i+1) (by omega) (l++[c.ah[i].name,c.ah[i].next]) (by simp only[bC,bL,c_];omega);rw[e];refine .go 60 ?_;simp(disch:=omega) [q1,q2];refine .aI ?_;simp;refine .drop 3 rfl (by simp) (by simp) (by simp) ?_;refine .reset (i:=2) rfl (by simp) (by simp) (by simp) ?_;simp[q2]at hh⊢;exact hh
theorem akl(c:Ct)(hc:cH c):aQ ak Γ zE [bU c] (.own 1 aw ((ry c).map .str)):=by
 have h1:=hc.1;have h2:=hc.2.1;have h3:=hc.2.2.1;have b3:=vZ hc
 have hx:∀x∈[(c.kI,c.aq),(c.kO,c.az)],Kd 1 x.1 x.2:=by
  intro x hx;simp only[bD,px,po]at hx
  rcases hx with rfl|rfl
  ·exact c.hI
  ·exact c.hO
 have hv:cD [(c.kI,c.aq),(c.kO,c.az)]=c.aq++c.az:=by simp[cD]
 have hC:=YB (Γ:=Γ) [(c.kI,c.aq),(c.kO,c.az)] hx (by simp) (by rw[hv];simp;omega);rw[hv]at hC;refine .run 60 adw.1 (by simp) ?_;simp;refine .call 60 (by simp) hC ?_;simp;refine .inLoop ?_;have hh:=aii (Γ:=Γ) c hc c.ah.length 0 (by omega) (c.aq++c.az) (by rw[fM,bC];omega);simp[ry]at hh⊢;exact hh
abbrev Js(e:Int)(s:Bs):AV:=.bW GZ (.agg [.int .i64 e,.str s])
theorem uu(e:Int)(s:Bs):aQ ak Γ qF [.bool true,.int .i64 e,.str s] (.aH []):=by
 refine .run 60 NK.1 (by simp) ?_;simp;exact .back (by simp)
theorem nH(e:Int)(s:Bs):mV Tryz.prog Γ qF [.bool false,.int .i64 e,.str s] (Js e s):=by
 refine mV.of (hh:=[]) (by simp) (zV NK.1 _ (.go 60 ?_)) (by simp) (by simp);simp
def mT:List Bs->List Bs->Option Bs
 |_,[]=>none
 |seen,s::l=>if s∈seen then some s else mT (seen++[s]) l
def jF(l:List Bs):Option Bs:=mT [] l
abbrev kP(s:Bs):AV×AV:=(.str s,.bool true)
theorem zr(s:Bs):∀l:List Bs,fg (.sc .str) (.str s) (l.map kP)=some (if s∈l then some (.bool true)else none)
 |[]=>rfl
 |a::l=>by
  simp only[bX,fg,cC,fR]
  cases h:(s==a)
  ·have h2:=xN.1 h;simp[zr s l,h2]
  ·have h2:=eq_of_beq h;simp[h2]
theorem Co{s:Bs}{v:AV}:∀{l:List Bs},s∉l->gG (.sc .str) (.str s) v (l.map kP)=some (l.map kP++[(.str s,v)])
 |[],_=>rfl
 |a::l,h=>by
  simp only[bD,not_or]at h;simp only[bX,gG,cC,fR];have h2:(s==a)=false:=xN.2 h.1;simp[h2,Co (v:=v) h.2]
@[simp] theorem aep(n:Nat):∀l:List Bs,fC n (l.map kP)=true
 |[]=>rfl
 |x::r=>by simp[fC,aep n r]
@[simp] theorem afp(n m:Nat):∀l:List Bs,o_ n m (l.map kP)=true
 |[]=>rfl
 |x::r=>by simp[afp n m r]
@[simp] theorem ags(n:Nat)(τ:List Nat):∀l:List Bs,oe n τ (l.map kP)=l.map kP
 |[]=>rfl
 |x::r=>by simp[ags n τ r]
@[simp] theorem ahM(n:Nat)(τ:List Nat):∀l:List Bs,rP n τ (l.map kP)=true
 |[]=>rfl
 |x::r=>by simp[ahM n τ r]
def Fj(h:List Ob):Prop:=∀m,h.length<=m->cz m h=true
theorem ai4(l:List Bs){fl:Bool}{k:Nat}(hk:Kd 1 k l)(hl:l.length<2^40)(h:List Ob)(hw:Fj h)(up:List Fr):∀n i:Nat,i+n=l.length->∀seen,mT seen (l.drop i)=none->AM.Reach ak Γ
 (WS (.mp h.length) (.list fl k (l.map .str)) (.int .i64 l.length) (.int .i64 i) (h++[.map (seen.map kP) true]) ⟨[],.norm,h.length,up⟩)
 (.back up (.mp h.length) (h++[.map ((seen++l.drop i).map kP) true])):=by
 intro n
 induction n with
 |zero=>
  intro i hi seen hs
  have q1:¬i<l.length:=by omega
  rw[bx (by omega)];refine .aY 60 ?_;simp[q1]
 |succ n ih=>
  intro i hi seen hs
  have q1:i<l.length:=by omega
  obtain rfl:=hk.of q1;rw[bJ q1]at hs⊢;rw[mT]at hs;have hv:=zr l[i] seen;have hb:=hw (h.length+1) (by omega)
  by_cases hm:l[i]∈seen
  ·rw[if_pos hm]at hs;cases hs
  ·rw[if_neg hm]at hs hv;have hh:=ih (i+1) (by omega) (seen++[l[i]]) hs;have h2:=Co (v:=.bool true) hm;refine .aY 60 ?_;simp(disch:=omega) [q1,hv,isKey,bM,bV];refine .ji 60 (by simp) (uu 5 l[i]) ?_;simp(disch:=omega) [h2,isKey,bM,bV];refine .aI ?_;simp at hh⊢;exact hh
theorem ad7(l:List Bs){fl:Bool}{k:Nat}(hk:Kd 1 k l)(hl:l.length<2^40)(h:List Ob)(hw:Fj h)(up:List Fr)(s0:Bs):∀n i:Nat,i+n=l.length->∀seen,mT seen (l.drop i)=some s0->∃h',AM.Reach ak Γ
 (WS (.mp h.length) (.list fl k (l.map .str)) (.int .i64 l.length) (.int .i64 i) (h++[.map (seen.map kP) true]) ⟨[],.norm,h.length,up⟩)
 (.die up (Js 5 s0) (h++h')):=by
 intro n
 induction n with
 |zero=>
  intro i hi seen hs;rw[bx (by omega)]at hs
  cases hs
 |succ n ih=>
  intro i hi seen hs
  have q1:i<l.length:=by omega
  obtain rfl:=hk.of q1;rw[bJ q1]at hs;rw[mT]at hs;have h2:=zr l[i] seen;have hb:=hw (h.length+1) (by omega)
  by_cases hm:l[i]∈seen
  ·rw[if_pos hm]at hs h2;obtain rfl:=Option.some.inj hs;refine⟨[.map (seen.map kP) true],?_⟩;refine .aY 60 ?_;simp(disch:=omega) [q1,h2,isKey,bM,bV];refine .mY 2 (by simp) (nH 5 l[i]) ?_;simp
  ·rw[if_neg hm]at hs h2;obtain⟨h',hh⟩:=ih (i+1) (by omega) (seen++[l[i]]) hs;refine⟨h',?_⟩;have hv:=Co (v:=.bool true) hm;refine .aY 60 ?_;simp(disch:=omega) [q1,h2,isKey,bM,bV];refine .ji 60 (by simp) (uu 5 l[i]) ?_;simp(disch:=omega) [hv,isKey,bM,bV];refine .aI ?_;simp at hh⊢;exact hh
theorem SF(l:List Bs){fl:Bool}{k:Nat}(hk:Kd 1 k l)(hl:l.length<2^40)(h:List Ob)(hw:Fj h)(ht:jF l=none):∀up,AM.Reach ak Γ
 (.cl vK [.list fl k (l.map .str)] up h) (.back up (.mp h.length) (h++[.map (l.map kP) true])):=by
 intro up;refine .bp 60 NI.1 ?_;simp;refine .inLoop ?_;have hh:=ai4 (Γ:=Γ) (fl:=fl) l hk hl h hw up l.length 0 (by omega) [] ht;simp at hh⊢;exact hh
theorem RX(l:List Bs){fl:Bool}{k:Nat}(hk:Kd 1 k l)(hl:l.length<2^40)(h:List Ob)(hw:Fj h){s0:Bs}(ht:jF l=some s0):∀up,∃h',AM.Reach ak Γ
 (.cl vK [.list fl k (l.map .str)] up h) (.die up (Js 5 s0) (h++h')):=by
 intro up;have hh:=ad7 (Γ:=Γ) (fl:=fl) l hk hl h hw up s0 l.length 0 (by omega) [] ht;obtain⟨h',hh⟩:=hh;refine⟨h',?_⟩;refine .bp 60 NI.1 ?_;simp;refine .inLoop ?_;simp at hh⊢;exact hh
def qb(c:UInt8):Bool:=decide (c<33)||decide (126<c)
def gC(s:List UInt8):Bool:=!bE qb s&&(decide (1<=s.length)&&decide (s.length<=40))
def rH:List UInt8->Nat->Int
 |[],_=>-1
 |c::s,i=>if qb c=true then(i:Int)else rH s (i+1)
theorem Qd:∀(s:List UInt8)(i:Nat),decide (rH s i<0)=!bE qb s
 |[],i=>by simp[rH,ug]
 |c::s,i=>by
  rw[rH,lB]
  cases h:qb c with
  |true=>simp
  |false=>simpa using Qd s (i+1)
theorem O4(r:Int):aQ ak Γ vn [.int .i32 r] (.bool (decide (r<=32)||decide (126<r))):=by
 refine .run 60 Zg.1 (by simp) ?_
 by_cases h:r<=32<;>simp[h]<;>exact .back (by simp[h])
theorem abd{s:List UInt8}{i:Nat}(h:i<s.length)(ha:s[i].toNat<128):Utf8.decode ⟨s.toArray⟩ i=(s[i].toNat,1):=by
 exact decode_ascii ⟨s.toArray⟩ i (show i<s.toArray.size by simpa using h) ha
theorem abm{s:List UInt8}{i:Nat}(h:i<s.length)(ha:128<=s[i].toNat):128<=(Utf8.decode ⟨s.toArray⟩ i).1:=by
 exact(decode_high ⟨s.toArray⟩ i (show i<s.toArray.size by simpa using h) ha).1
theorem acm(s:List UInt8)(hs:s.length<2^40):aQ ak Γ BO [.str s,.fn (.func vn) [] [],.bool true] (.int .i64 (rH s 0)):=by
 have key:∀n i:Nat,i+n=s.length->aA ak Γ (yEV (.fn (.func vn) [] []) (.bool true) (.it 0) [.jf s i]) (.ret (.int .i64 (rH (s.drop i) i))):=by
  intro n
  induction n with
  |zero=>
   intro i hi;rw[bx (by omega),rH]
   have q1:¬i<s.length:=by omega
   refine .go 60 ?_;simp[q1];exact .back (by simp)
  |succ n ih=>
   intro i hi
   have q1:i<s.length:=by omega
   rw[bJ q1,rH];have hh:=ih (i+1) (by omega)
   by_cases ha:s[i].toNat<128
   ·have hd:=abd q1 ha
    have e:(decide ((s[i].toNat:Int)<=32)||decide (126<(s[i].toNat:Int)))=qb s[i]:=by
     unfold qb;simp only[UInt8.lt_iff_toNat_lt,show(33:UInt8).toNat=33 from rfl,show(126:UInt8).toNat=126 from rfl]
     congr 1<;>exact decide_eq_decide.2 (by omega)
    have hc:=O4 (Γ:=Γ) (s[i].toNat:Int);rw[e]at hc;refine .go 60 ?_;simp[q1,hd];refine .call 60 (by simp) hc ?_
    cases ho:qb s[i]with
    |true=>simp;exact .back (by simp)
    |false=>
     simp;refine .aI ?_;simp at hh⊢;exact hh
   ·have hd:=abm q1 (by omega)
    have ho:qb s[i]=true:=by unfold qb;simp only[UInt8.lt_iff_toNat_lt,show(33:UInt8).toNat=33 from rfl,show(126:UInt8).toNat=126 from rfl,fL,bj];omega
    rw[ho];have hc:=O4 (Γ:=Γ) ((Utf8.decode ⟨s.toArray⟩ i).1:Int)
    have e:(decide (((Utf8.decode ⟨s.toArray⟩ i).1:Int)<=32)||decide (126<((Utf8.decode ⟨s.toArray⟩ i).1:Int)))=true:=by
     simp only[fL,bj];right;omega
    rw[e]at hc;refine .go 60 ?_;simp[q1];refine .call 60 (by simp) hc ?_;simp;exact .back (by simp)
 refine .run 60 Zm.1 (by simp) ?_;simp;refine .inLoop ?_;have hh:=key s.length 0 (by omega);simp at hh⊢;exact hh
theorem ab1(s:List UInt8)(hs:s.length<2^40):aQ ak Γ FR [.str s,.fn (.func vn) [] []] (.int .i64 (rH s 0)):=by
 refine .run 60 Zj.1 (by simp) ?_;simp;refine .call 60 (by simp) (acm s hs) ?_;simp;exact .back (by simp)
theorem ajl(s:List UInt8):aQ ak Γ FV [.str s] (.bool (gC s)):=by
 refine .run 60 Zx.1 (by simp) ?_;unfold gC
 by_cases h0:s=[]
 ·subst h0;simp;exact .back (by simp)
 ·have h1:1<=s.length:=rW.2 h0;have hb:¬s=[]:=h0
  by_cases h2:s.length<=40
  ·have hv:(s.length:Int)<=40:=by omega
   simp[h0,h2,hv];refine .call 60 (by simp) (ab1 s (by omega)) ?_;have e:=Qd s 0;simp[e];exact .back (by simp[h0,h1,h2])
  ·have hv:¬(s.length:Int)<=40:=by omega
   simp[h0,h2,hv];exact .back (by simp[h2])
theorem Sj(s:List UInt8):aQ ak Γ B6 [.str s] (.bool (gC s)):=by
 refine .run 60 abA.1 (by simp) ?_;simp;refine .call 60 (by simp) (ajl s) ?_;simp;exact .back (by simp)
theorem ZX{φ:List Ob->Prop}{f:FuncId}{caps:List AV}{p:Gt->Bool}{l:List Gt}{k:Nat}{fl:Bool}(ha:jJ Tryz.prog Γ φ f caps df p l)(hk:Kd 5 k l)(hs:l.length<2^60){h:List Ob}(hφ:φ h):
 ∀up,AM.Reach ak Γ (.cl BE [.list fl k (l.map df),.fn (.func f) [] caps] up h) (.back up (.int .i64 (fG p l 0)) h):=by
 intro up
 have key:∀n i:Nat,i+n=l.length->AM.Reach ak Γ (yvE (.list fl k (l.map df)) (.fn (.func f) [] caps) (.int .i64 l.length) (.int .i64 i) h ⟨[],.norm,h.length,up⟩) (.back up (.int .i64 (fG p (l.drop i) i)) h):=by
  intro n
  induction n with
  |zero=>
   intro i hi
   have h1:¬i<l.length:=by omega
   refine .aY 60 ?_;rw[bx (by omega)];simp[h1,fG]
  |succ n ih=>
   intro i hi
   have h1:i<l.length:=by omega
   obtain rfl:=hk.of h1;have h2:=ha.2 l[i] (bA h1);rw[bJ h1,fG];have hh:=ih (i+1) (by omega);refine .aY 60 ?_;simp[h1,ha.1];refine .aX 60 (fun up=>h2 up h hφ) ?_
   cases hp:p l[i]with
   |true=>simp(disch:=omega) [hp]
   |false=>
    simp(disch:=omega) [hp];refine .aI ?_;simp at hh⊢;exact hh
 refine .bp 60 Yp.1 ?_;simp;refine .inLoop ?_;have hh:=key l.length 0 (by omega);simp at hh⊢;exact hh
theorem Mw{φ:List Ob->Prop}{f:FuncId}{caps:List AV}{p:Gt->Bool}{l:List Gt}{k:Nat}{fl:Bool}(ha:jJ Tryz.prog Γ φ f caps df p l)(hk:Kd 5 k l)(hs:l.length<2^60){h:List Ob}(hφ:φ h):
 ∀up,AM.Reach ak Γ (.cl FE [.list fl k (l.map df),.fn (.func f) [] caps] up h) (.back up (.bool (bE p l)) h):=by
 intro up;refine .bp 60 Yl.1 ?_;simp;refine .aX 60 (ZX ha hk hs hφ) ?_;have h1:=Dh p l 0
 cases hp:bE p l with
 |true=>rw[hp]at h1;simp at h1;simp[h1]
 |false=>
  rw[hp]at h1
  have h2:¬0<=fG p l 0:=by rw[h1];simp
  simp[h2]
def uz(g:Gt):Bool:=decide (8<g.ins.length)||decide (128<g.rows.length)
def gN(c:Ct):Bool:=bE uz c.af||(decide (200<c.aq.length+c.ah.length+c.af.length)||decide (200<c.az.length))
def jG(N:List Bs):List Bs->Int×Bs
 |[]=>(0,[])
 |s::l=>if s∈N then jG N l else(6,s)
def kU(r:Int×Bs):List Gt->Int×Bs
 |[]=>r
 |g::l=>if ig g=true then kU r l else(1,g.name)
def mR(q:Lt):Bool:=decide (0<=q.init)&&decide (q.init<=2)
def mg(r:Int×Bs):List Lt->Int×Bs
 |[]=>r
 |q::l=>if mR q=true then mg r l else(1,q.name)
def pT(r:Int×Bs):List Bs->Int×Bs
 |[]=>r
 |s::l=>if gC s=true then pT r l else(4,s)
def ow:Option Bs->Int×Bs->Int×Bs
 |some s,_=>(5,s)
 |none,r=>r
def eJ(c:Ct):Int×Bs:=
 if gN c=true then(8,[])else pT (ow (jF (aE c)) (ow (jF c.az) (mg (kU (jG (aE c) (fT c)) c.af) c.ah))) (ry c)
abbrev uS(r:Int×Bs):AV:=.aH [.int .i64 r.1,.str r.2]
theorem ah0(g:Gt):aQ ak Γ B1 [df g] (.bool (uz g)):=by
 refine .run 60 aa5.1 (by simp) ?_;unfold uz;have e1:((8:Int)<g.ins.length)=(8<g.ins.length):=propext (by omega);have e2:((128:Int)<g.rows.length)=(128<g.rows.length):=propext (by omega)
 by_cases h1:8<g.ins.length<;>simp[e1,e2,h1]<;>exact .back (by simp[h1])
theorem RR(l:List Gt):jJ Tryz.prog Γ (fun _=>True) B1 [] df uz l:=by
 refine⟨by simp,fun g hg up h hφ=>?_⟩;exact Reach.TA (by simp) (ah0 g) (fun _=>rfl) (by simp) up
abbrev EN:Cx:=⟨[.call Gl [.ptr 1 0,.ptr 2 0]],.norm,0,[]⟩
abbrev Lv(c:Ct):List Ob:=[.cells (AV.cells (bU c)),.cells [.int .i64 0],.cells [.str []]]
abbrev u0(c:Ct)(N:List Bs):List Ob:=[.cells (AV.cells (bU c)),.cells [.int .i64 0],.cells [.str []],.map (N.map kP) true]
theorem akR(c:Ct)(N:List Bs)(l:List Bs)(hl:l.length<2^40):∀n i:Nat,i+n=l.length->
 aA ak Γ (yhq (.ptr 1 0) (.ptr 2 0) (.mp 3) (.list false 1 (l.map .str)) (.int .i64 l.length) (.int .i64 i) (u0 c N) EN) (.ret (uS (jG N (l.drop i)))):=by
 intro n
 induction n with
 |zero=>
  intro i hi
  have q1:¬i<l.length:=by omega
  rw[bx (by omega),jG];refine .go 160 ?_;simp[q1];exact .back (by simp)
 |succ n ih=>
  intro i hi
  have q1:i<l.length:=by omega
  have h2:=zr l[i] N;rw[bJ q1,jG];have hh:=ih (i+1) (by omega);refine .go 160 ?_
  by_cases hm:l[i]∈N
  ·rw[if_pos hm]at h2⊢;simp[q1,h2,isKey,bM,bV];refine .call 160 (by simp) (uu 6 l[i]) ?_;simp(disch:=omega);refine .aI ?_;simp at hh⊢;exact hh
  ·rw[if_neg hm]at h2⊢;simp[q1,h2,isKey,bM,bV];refine .mY 160 (by simp) (nH 6 l[i]) ?_;simp;refine .dr 90 ?_;simp;exact .back (by simp)
theorem ajV:gA (o9 K0) K0.length []=[[0,1,2,3,4],[0,2,1,3,4],[0,2,3,1,4],[2,0,1,3,4],[2,0,3,1,4],[2,3,0,1,4]]:=by rfl
theorem alh(hΓ:fE Γ)(c:Ct)(hc:cH c)(N:List Bs):∀n i:Nat,i+n=c.af.length->
 aA ak Γ (yhs (.ptr 0 0) (.ptr 1 0) (.ptr 2 0) (.mp 3) (.list false c.kG (c.af.map df)) (.int .i64 c.af.length) (.int .i64 i) (u0 c N) EN) (.ret (uS (kU (jG N (fT c)) (c.af.drop i)))):=by
 have b:=hc.2.2.2.1;have b1:=zX hc;have b2:=hc.2.1;have b3:=hc.2.2.1;intro n
 induction n with
 |zero=>
  intro i hi
  have q1:¬i<c.af.length:=by omega
  have hh:=akR (Γ:=Γ) c N (fT c) (by simp only[fT,bC,fy];omega) (fT c).length 0 (by omega);rw[bx (by omega),kU];refine .go 160 ?_;simp[q1];refine .call 1 (by simp) (ajI c hc) ?_;simp;refine .trees [92] ?_;refine .drop 4 rfl (by simp) (by simp) (by simp) ?_;refine .go 60 ?_;simp;refine .inLoop ?_;simp at hh⊢;exact hh
 |succ n ih=>
  intro i hi
  have q1:i<c.af.length:=by omega
  have q2:=c.hG.of q1;have hG:=Sm hΓ c.af[i] (hc.2.2.2.2.1 _ (bA q1));rw[bJ q1,kU];have hh:=ih (i+1) (by omega)
  cases hb:ig c.af[i]with
  |true=>
   rw[hb]at hG;refine .go 160 ?_;simp[q1,q2];refine .dr 160 ?_;simp;refine fI.call (by simp) hG ?_;simp;refine fI.call (by simp) (uu 1 c.af[i].name) ?_;simp(disch:=omega);refine .aI ?_;simp;refine .drop 4 rfl (by simp) (by simp) (by simp) ?_;simp[q2,u0]at hh⊢;exact hh
  |false=>
   rw[hb]at hG;refine .go 160 ?_;simp[q1,q2];refine .Vo 60 ?_;rw[ajV];intro l hl;simp only[bD,px,po]at hl
   rcases hl with rfl|rfl|rfl|rfl|rfl|rfl
   all_goals
    simp;refine .AN 60 (by simp) hG ?_;simp;refine .mY 160 (by simp) (nH 1 c.af[i].name) ?_;simp;refine .dr 90 ?_;simp;exact .back (by simp)
theorem akS(hΓ:fE Γ)(c:Ct)(hc:cH c)(N:List Bs):∀n i:Nat,i+n=c.ah.length->
 aA ak Γ (yhu (.ptr 0 0) (.ptr 1 0) (.ptr 2 0) (.mp 3) (.list false c.kL (c.ah.map ov)) (.int .i64 c.ah.length) (.int .i64 i) (u0 c N) EN) (.ret (uS (mg (kU (jG N (fT c)) c.af) (c.ah.drop i)))):=by
 have b:=hc.2.2.2.1;have b3:=hc.2.2.1;intro n
 induction n with
 |zero=>
  intro i hi
  have q1:¬i<c.ah.length:=by omega
  have hh:=alh (Γ:=Γ) hΓ c hc N c.af.length 0 (by omega);rw[bx (by omega),mg];refine .go 160 ?_;simp[q1];refine .inLoop ?_;simp[u0]at hh⊢;exact hh
 |succ n ih=>
  intro i hi
  have q1:i<c.ah.length:=by omega
  have q2:=c.hL.of q1;rw[bJ q1,mg];have hh:=ih (i+1) (by omega);refine .go 160 ?_
  by_cases h1:0<=c.ah[i].init
  ·by_cases h2:c.ah[i].init<=2
   ·have e:mR c.ah[i]=true:=by simp[mR,h1,h2]
    simp[q1,q2,h1,h2,e];refine .call 160 (by simp) (uu 1 c.ah[i].name) ?_;simp(disch:=omega);refine .aI ?_;simp;refine .drop 4 rfl (by simp) (by simp) (by simp) ?_;simp[q2,u0]at hh⊢;exact hh
   ·have e:mR c.ah[i]=false:=by simp[mR,h2]
    simp[q1,q2,h1,h2,e];refine .mY 160 (by simp) (nH 1 c.ah[i].name) ?_;simp;refine .dr 90 ?_;simp;exact .back (by simp)
  ·have e:mR c.ah[i]=false:=by simp[mR,h1]
   simp[q1,q2,h1,e];refine .mY 160 (by simp) (nH 1 c.ah[i].name) ?_;simp;refine .dr 90 ?_;simp;exact .back (by simp)
theorem aA.lS{P:Program}(n:Nat){f:FuncId}{args:List AV}{up:List Fr}{h:List Ob}{v:AV}{o:Out}(h1:∀up,∃h',AM.Reach P Γ (.cl f args up h) (.die up v (h++h')))(h2:∀h',aA P Γ (AM.go P Γ 0 n (.die up v (h++h'))) o):aA P Γ (.cl f args up h) o:=by
 obtain⟨h',hr⟩:=h1 up;exact .reach hr (.go n (h2 h'))
theorem alp(hΓ:fE Γ)(c:Ct)(hc:cH c)(l:List Bs):∀n i:Nat,i+n=l.length->l.length<2^40->
 aA ak Γ (yhw (.ptr 0 0) (.ptr 1 0) (.ptr 2 0) (.list false 1 (l.map .str)) (.int .i64 l.length) (.int .i64 i) (Lv c) EN)
  (.ret (uS (pT (ow (jF (aE c)) (ow (jF c.az) (mg (kU (jG (aE c) (fT c)) c.af) c.ah))) (l.drop i)))):=by
 have b0:=hc.1;have b1:=hc.2.1;have b3:=hc.2.2.1;have b4:=hc.2.2.2.1;intro n
 induction n with
 |zero=>
  intro i hi hL
  have q1:¬i<l.length:=by omega
  have hN:(aE c).length<2^40:=by simp[aE];omega
  rw[bx (by omega),pT];refine .go 160 ?_;simp[q1];refine .call 1 (by simp) (Jn c hc) ?_;simp;refine .trees [54] ?_;simp;refine .go 2 ?_;simp
  cases ht:jF (aE c)with
  |some s0=>
   refine aA.lS 160 (RX (Γ:=Γ) (fl:=false) (aE c) .self hN _ (by intro m hm;simp) ht) (fun h'=>?_);simp;refine .dr 90 ?_;simp;exact .back (by simp[ow])
  |none=>
   refine .aX 160 (SF (Γ:=Γ) (fl:=false) (aE c) .self hN _ (by intro m hm;simp) ht) ?_;simp
   cases hu:jF c.az with
   |some s0=>
    refine aA.lS 160 (RX (Γ:=Γ) (fl:=false) c.az c.hO (by omega) _ (by intro m hm;simp) hu) (fun h'=>?_);simp;refine .dr 90 ?_;simp;exact .back (by simp[ow])
   |none=>
    have hh:=akS (Γ:=Γ) hΓ c hc (aE c) c.ah.length 0 (by omega);refine .aX 160 (SF (Γ:=Γ) (fl:=false) c.az c.hO (by omega) _ (by intro m hm;simp) hu) ?_;simp;refine .inLoop ?_;simp;refine .gc 3 [1] (by simp) (by decide) ?_;simp[u0,ow]at hh⊢;exact hh
 |succ n ih=>
  intro i hi hL
  have q1:i<l.length:=by omega
  rw[bJ q1,pT];have hh:=ih (i+1) (by omega) hL;refine .go 160 ?_;simp[q1];refine .call 160 (by simp) (Sj l[i]) ?_
  cases hb:gC l[i]with
  |true=>
   simp;refine .call 160 (by simp) (uu 4 l[i]) ?_;simp(disch:=omega);refine .aI ?_;simp at hh⊢;exact hh
  |false=>
   simp;refine .mY 160 (by simp) (nH 4 l[i]) ?_;simp;refine .dr 90 ?_;simp;exact .back (by simp)
theorem aiT(hΓ:fE Γ)(c:Ct)(hc:cH c):aQ ak Γ pD [bU c] (uS (eJ c)):=by
 have b0:=hc.1;have b1:=hc.2.1;have b3:=hc.2.2.1;have b4:=hc.2.2.2.1;have t1:=vZ hc;have t2:=z6 hc;have hC:=Mw (Γ:=Γ) (fl:=false) (RR c.af) c.hG (by omega) (h:=Lv c) trivial;have e0:((c.aq.length:Int)+c.ah.length+c.af.length<=200)=(c.aq.length+c.ah.length+c.af.length<=200):=propext (by omega);have e1:((c.az.length:Int)<=200)=(c.az.length<=200):=propext (by omega);refine .run 160 M6.1 (by simp) ?_;unfold eJ
 by_cases h1:c.aq.length+c.ah.length+c.af.length<=200
 ·by_cases h2:c.az.length<=200
  ·simp(disch:=omega) [e0,e1,h1,h2];refine .aX 160 hC ?_
   cases h3:bE uz c.af with
   |true=>
    have hl:gN c=true:=by simp[gN,h3]
    simp;refine .mY 160 (by simp) (nH 8 []) ?_;simp;refine .dr 90 ?_;simp;exact .back (by simp[hl])
   |false=>
    have hl:gN c=false:=by
     simp only[gN,h3,pr,lx,jB];omega
    have hh:=alp (Γ:=Γ) hΓ c hc (ry c) (ry c).length 0 (by omega) (by simp[ry];omega);simp;refine .call 160 (by simp) (uu 8 []) ?_;simp;refine .call 1 (by simp) (akl c hc) ?_;simp;refine .trees [42] ?_;simp;refine .drop 3 rfl (by simp) (by simp) (by simp) ?_;refine .go 60 ?_;simp;refine .inLoop ?_;simp[hl]at hh⊢;exact hh
  ·have hl:gN c=true:=by
    simp only[gN,fL,bj];right;right;omega
   simp(disch:=omega) [e0,e1,h1,h2];refine .mY 160 (by simp) (nH 8 []) ?_;simp;refine .dr 90 ?_;simp;exact .back (by simp[hl])
 ·have hl:gN c=true:=by
   simp only[gN,fL,bj];right;left;omega
  simp(disch:=omega) [e0,e1,h1];refine .mY 160 (by simp) (nH 8 []) ?_;simp;refine .dr 90 ?_;simp;exact .back (by simp[hl])
def iO(s:List UInt8):List (List UInt8)->Nat->Int
 |[],_=>-1
 |a::l,i=>if s=a then(i:Int)else iO s l (i+1)
theorem IC(s:List UInt8):∀(l:List (List UInt8))(i:Nat),decide (0<=iO s l i)=l.contains s
 |[],i=>by simp[iO]
 |a::l,i=>by
  rw[iO,List.contains_cons]
  by_cases h:s=a
  ·rw[if_pos h];simp[h]
  ·rw[if_neg h,IC s l (i+1)]
   have:(s==a)=false:=by simpa using h
   rw[this];rfl
theorem Ql(l:List (List UInt8))(s:List UInt8){k:Nat}(hk:Kd 1 k l)(hl:l.length<2^40):aQ ak Γ xV [.list false k (l.map .str),.str s] (.int .i64 (iO s l 0)):=by
 have key:∀n i:Nat,i+n=l.length->aA ak Γ (yjm (.list false k (l.map .str)) (.str s) (.int .i64 l.length) (.int .i64 i) []) (.ret (.int .i64 (iO s (l.drop i) i))):=by
  intro n
  induction n with
  |zero=>
   intro i hi
   have q1:¬i<l.length:=by omega
   rw[bx (by omega),iO];refine .go 60 ?_;simp[q1];exact .back (by simp)
  |succ n ih=>
   intro i hi
   have q1:i<l.length:=by omega
   have q2:=bG (hk.of q1);have hh:=ih (i+1) (by omega);rw[bJ q1,iO];refine .go 60 ?_
   by_cases h:s=l[i]
   ·simp[q1,q2,h];exact .back (by simp)
   ·simp(disch:=omega) [q1,q2,h];refine .aI ?_;simp at hh⊢;exact hh
 refine .run 60 YK.1 (by simp) ?_;simp;refine .inLoop ?_;have hh:=key l.length 0 (by omega);simp at hh⊢;exact hh
theorem FG(a b:List (List UInt8)){ka kb:Nat}(ha:Kd 1 ka a)(hb:Kd 1 kb b)(hs:a.length<2^60):aQ ak Γ vk [.list false ka (a.map AV.str),.list false kb (b.map AV.str)] (.bool (decide (a=b))):=by
 refine .run 60 YJ.1 (by simp) ?_
 by_cases hl:a.length=b.length
 ·have key:∀n i:Nat,i+n=a.length->aA ak Γ (ylH (.list false ka (a.map AV.str)) (.list false kb (b.map AV.str)) (.int .i64 a.length) (.int .i64 i) []) (.ret (.bool (decide (a.drop i=b.drop i)))):=by
   intro n
   induction n with
   |zero=>
    intro i hi;refine .go 60 ?_
    have h1:¬i<a.length:=by omega
    have h2:a.drop i=b.drop i:=by rw[bx (by omega),bx (by omega)]
    simp[h1,h2];exact .back (by simp)
   |succ n ih=>
    intro i hi
    have h1:i<a.length:=by omega
    have h2:i<b.length:=by omega
    obtain rfl:=ha.of h1;obtain rfl:=hb.of h2;have h4:=drop_eq h1 h2;refine .go 60 ?_
    by_cases h3:a[i]=b[i]
    ·simp(disch:=omega) [h1,h2,h3,h4];refine .aI ?_;simpa using ih (i+1) (by omega)
    ·simp(disch:=omega) [h1,h2,h3,h4];exact .back (by simp)
  simp[hl];refine .inLoop ?_;simpa[hl]using key a.length 0 (by omega)
 ·have h2:¬a=b:=fun e=>hl (by rw[e])
  simp[hl,h2];exact .back (by simp)
theorem abY(a b:List (List UInt8)){ka kb:Nat}(ha:Kd 1 ka a)(hb:Kd 1 kb b)(hs:a.length<2^60):aQ ak Γ B9 [.list false ka (a.map .str),.list false kb (b.map .str)] (.bool (decide (a=b))):=by
 refine .run 60 acL.1 (by simp) ?_
 by_cases hl:a.length=b.length
 ·have key:∀n i:Nat,i+n=a.length->aA ak Γ (ydz (.list false ka (a.map .str)) (.list false kb (b.map .str)) (.int .i64 i) []) (.ret (.bool (decide (a.drop i=b.drop i)))):=by
   intro n
   induction n with
   |zero=>
    intro i hi;refine .go 60 ?_
    have h1:¬i<a.length:=by omega
    have h2:a.drop i=b.drop i:=by rw[bx (by omega),bx (by omega)]
    simp[h1,h2];exact .back (by simp)
   |succ n ih=>
    intro i hi
    have h1:i<a.length:=by omega
    have h2:i<b.length:=by omega
    obtain rfl:=ha.of h1;obtain rfl:=hb.of h2;have h4:=drop_eq h1 h2;refine .go 60 ?_
    by_cases h3:a[i]=b[i]
    ·simp(disch:=omega) [h1,h2,h3,h4];refine .aI ?_;simpa using ih (i+1) (by omega)
    ·simp(disch:=omega) [h1,h2,h3,h4];exact .back (by simp)
  simp[hl];refine .inLoop ?_;simpa[hl]using key a.length 0 (by omega)
 ·have h2:¬a=b:=fun e=>hl (by rw[e])
  simp[hl,h2];exact .back (by simp)
theorem Rz{c:Ct}(hc:cH c):(aE c).length<2^12:=by
 have b0:=hc.1;have b3:=hc.2.2.1;have b4:=hc.2.2.2.1
 simp[aE];omega
abbrev Gt.key(g:Gt):Bs×Int×Bool×List Bs×List Bs:=(g.name,g.op,g.off,g.ins,g.rows)
theorem oR(a b:List UInt8):cC (.sc .str) (.str a) (.str b)=some (decide (a=b)):=by
 simp only[cC,fR]
 by_cases h:a=b<;>simp[h]
theorem uw(a b:Nat):cC (.sc .int) (.int .i64 a) (.int .i64 b)=some (decide (a=b)):=by
 simp only[cC,fR]
 by_cases h:a=b
 ·simp[h]
 ·have h2:¬(a:Int)=b:=by omega
  simp[h,h2]
section
variable{K:Type}[DecidableEq K]{E:EK}{e:K->AV}(he:∀a b,cC E (e a) (e b)=some (decide (a=b)))
def getM{V:Type}(k:K):List (K×V)->Option V
 |[]=>none
 |(a,v)::l=>if k=a then some v else getM k l
def pZ{V:Type}(k:K)(l:List (K×V)):List (K×V):=l.filter fun x=>decide (¬x.1=k)
theorem getM_none{V:Type}{k:K}:∀{l:List (K×V)},getM k l=none↔∀x∈l,¬x.1=k
 |[]=>by simp[getM]
 |(a,v)::l=>by
  rw[getM]
  by_cases h:k=a
  ·rw[if_pos h];simp[h]
  ·rw[if_neg h,getM_none];simp only[bD,L9];exact⟨fun h1=>⟨fun h2=>h h2.symm,h1⟩,fun h1=>h1.2⟩
include he
theorem vI{V:Type}(ev:V->AV)(k:K):∀l:List (K×V),fg E (e k) (l.map fun x=>(e x.1,ev x.2))=some ((getM k l).map ev)
 |[]=>rfl
 |(a,v)::l=>by
  simp only[bX,fg,he,getM]
  by_cases h:k=a
  ·simp[h]
  ·simp only[h,nD,dq];exact vI ev k l
theorem vO{V:Type}(ev:V->AV){k:K}(v:V):∀{l:List (K×V)},getM k l=none->gG E (e k) (ev v) (l.map fun x=>(e x.1,ev x.2))=some ((l++[(k,v)]).map fun x=>(e x.1,ev x.2))
 |[],_=>rfl
 |(a,u)::l,h=>by
  rw[getM]at h
  by_cases h2:k=a
  ·rw[if_pos h2]at h;cases h
  ·rw[if_neg h2]at h;simp only[bX,gG,he,h2,nD,vO ev v h,dC,eH]
theorem Px{V:Type}(ev:V->AV)(k:K):∀{l:List (K×V)},(l.map (·.1)).Nodup->n4 E (e k) (l.map fun x=>(e x.1,ev x.2))=some ((pZ k l).map fun x=>(e x.1,ev x.2))
 |[],_=>rfl
 |(a,u)::l,h=>by
  simp only[bX,l0]at h
  by_cases h2:k=a
  ·subst h2
   have h3:pZ k l=l:=by
    unfold pZ;rw[Bx];intro x hx
    refine tH fun hn=>h.1 ?_
    rw[<-hn];exact rZ hx
   have h4:pZ k ((k,u)::l)=l:=by rw[<-h3];simp[pZ]
   simp only[bX,n4,he,decide_true,h4]
  ·have h4:pZ k ((a,u)::l)=(a,u)::pZ k l:=by
    unfold pZ;rw[r8,if_pos (by simpa using fun h=>h2 h.symm)]
   simp only[bX,n4,he,h2,nD,Px ev k h.2,dC,h4]
end
def cB(c:Ct):List (Bs×Nat):=c.af.zipIdx.map fun x=>(x.1.name,x.2)
abbrev ju(x:Bs×Nat):AV×AV:=(.str x.1,.int .i64 x.2)
theorem pL(m:Nat):∀l:List (Bs×Nat),fC m (l.map ju)=true
 |[]=>rfl
 |x::l=>by simp[pL m l]
theorem wm(c:Ct):(cB c).length=c.af.length:=by simp[cB]
theorem Ao(c:Ct)(i:Nat)(h:i<c.af.length):(cB c)[i]'(by rw[wm];exact h)=(c.af[i].name,i):=by simp[cB]
theorem agE(c:Ct):(cB c).map (·.1)=c.af.map (·.name):=by
 apply List.ext_getElem
 ·simp[cB]
 ·intro i h1 h2;simp[cB]
theorem aey{c:Ct}(hd:(c.af.map (·.name)).Nodup){i:Nat}(h:i<c.af.length):getM c.af[i].name ((cB c).take i)=none:=by
 rw[getM_none];intro x hx hn;obtain⟨j,hj,rfl⟩:=gb hx
 have h2:j<i:=by simp at hj;omega
 rw[qp,Ao c j (by omega)]at hn
 have h1:(c.af.map (·.name))[j]'(by simp;omega)=(c.af.map (·.name))[i]'(by simp;omega):=by simpa using hn
 have:=(xQ hd).1 h1;omega
theorem PR(c:Ct)(hc:cH c)(hd:(c.af.map (·.name)).Nodup){h:List Ob}(hw:bN h)(up:List Fr):
 AM.Reach ak Γ (.cl y8 [bU c] up h) (.back up (.mp (h.length+1)) (h++[.cells (AV.cells (bU c)),.map ((cB c).map ju) true])):=by
 have hG:=c.hG;have hb:=hw (h.length+2) (by omega)
 have key:∀n i:Nat,i+n=c.af.length->AM.Reach ak Γ (ykf (.mp (h.length+1)) (.list false c.kG (c.af.map df)) (.int .i64 c.af.length) (.int .i64 i) (h++[.cells (AV.cells (bU c)),.map (((cB c).take i).map ju) true]) ⟨[],.norm,h.length,up⟩)
  (.back up (.mp (h.length+1)) (h++[.cells (AV.cells (bU c)),.map ((cB c).map ju) true])):=by
  intro n
  induction n with
  |zero=>
   intro i hi
   have q1:¬i<c.af.length:=by omega
   rw[cj (by rw[wm];omega)];refine .aY 60 ?_;simp[q1]
  |succ n ih=>
   intro i hi
   have q1:i<c.af.length:=by omega
   have q2:=bG (hG.of q1);have hh:=ih (i+1) (by omega)
   have q3:i<(cB c).length:=by rw[wm];exact q1
   have e1:(cB c).take (i+1)=(cB c).take i++[(c.af[i].name,i)]:=by rw[iA q3,Ao c i q1]
   rw[e1]at hh;have h2:=vO (E:=.sc .str) (e:=AV.str) oR (fun n:Nat=>AV.int .i64 n) i (aey hd q1);have hv:=pL (h.length+2) ((cB c).take i++[(c.af[i].name,i)])
   have hx:i<2^10:=by have:=hc.2.2.2.1;omega
   generalize(cB c).take i=P at*;refine .aY 60 ?_;simp(disch:=omega) [q1,q2,isKey,bM,bV,h2];refine .aI ?_;simp;refine .lF (h.length+2) (by simp;rfl) (by simp) (by simp) (by simp[hb]at hv⊢;exact hv) ?_;simp at hh⊢;exact hh
 refine .bp 60 aaG.1 ?_;simp;refine .inLoop ?_;have hh:=key c.af.length 0 (by omega);simp at hh⊢;exact hh
abbrev gL(c:Ct):AV:=.list false c.kG (c.af.map df)
abbrev tR(p:Nat)(x2 x3 a b c d e f g h i w:AV):List AV:=[U,.ptr p 0,x2,x3,w,U,U,U,U,U,U,U,U,a,b,c,d,e,f,g,h,i]++List.replicate 58 U
abbrev hW(c:Ct)(n:Nat):List Ob:=[.cells [.sl (n+1) 0 c.af.length,.sl (n+2) 0 c.af.length],.row 1 oF (List.replicate c.af.length .dk) none true false,.row 1 j9 (List.replicate c.af.length (.list true 0 [])) none true false]
abbrev qg:=List Nat×List Nat
abbrev KU:List (List Nat):=[[],[0],[1],[2,2],[],[4],[5],[6,6],[3,7],[],[9,8,0,1,2,3,4,5,6,7,8,9]]
abbrev WZ(x:qg):List Nat:=(List.range 11).filter (mc KU x.1)
def JN(i:Nat):List Nat->List Nat
 |[]=>[i]
 |a::l=>if i<a then i::a::l else a::JN i l
def ph(i:Nat)(x:qg):qg:=(JN i x.1,if i==3||i==7||i==9 then x.2++[i]else x.2)
def om(y:Nat):List Nat->Nat
 |[]=>0
 |a::l=>if a==y then 0 else(if a==9 then 3 else 1)+om y l
abbrev sG(c:Ct)(H:List Ob)(j:Nat):AV:=.sl (H.length+j) 0 c.af.length
def yW(c:Ct)(p:Nat)(H:List Ob)(x:qg):Nat->AV
 |0=>.ptr p 3|4=>.ptr p 3|1=>gL c|5=>gL c|2=>.int .i64 c.af.length|6=>.int .i64 c.af.length
 |3=>sG c H (om 3 x.2)|7=>sG c H (om 7 x.2)|8=>.agg [sG c H (om 3 x.2),sG c H (om 7 x.2)]|9=>.ptr (H.length+om 9 x.2) 0|_=>.aH []
def zW(c:Ct)(p:Nat)(H:List Ob)(x:qg)(i:Nat):AV:=if x.1.contains i then yW c p H x i else U
def tW(c:Ct)(p:Nat)(x2 x3:AV)(H:List Ob)(x:qg):List AV:=tR p x2 x3 (zW c p H x 0) (zW c p H x 1) (zW c p H x 2) (zW c p H x 3) (zW c p H x 4) (zW c p H x 5) (zW c p H x 6) (zW c p H x 7) (zW c p H x 8) (zW c p H x 9)
def KE(c:Ct)(H:List Ob)(x:qg)(i:Nat):List Ob:=
 if i==3 then[.row 1 oF (List.replicate c.af.length .dk) none true false]else if i==7 then[.row 1 j9 (List.replicate c.af.length (.list true 0 [])) none true false]
 else[.cells (if x.1.contains 10 then[sG c H (om 3 x.2),sG c H (om 7 x.2)]else[.sl (H.length+(om 9 x.2+1)) 0 0,.sl (H.length+(om 9 x.2+2)) 0 0]),.row 1 oF [] none true false,.row 1 j9 [] none true false]
def s9(c:Ct)(H:List Ob)(x:qg):List Ob:=H++x.2.flatMap (KE c H x)
abbrev wW:List qg:=[([],[]),([0],[]),([4],[]),([9],[9]),([0,1],[]),([0,4],[]),([0,9],[9]),([4,5],[]),([4,9],[9]),([0,1,2],[]),([0,1,4],[]),([0,1,9],[9]),([0,4,5],[]),([0,4,9],[9]),([4,5,6],[]),([4,5,9],[9]),([0,1,2,3],[3]),([0,1,2,4],[]),([0,1,2,9],[9]),([0,1,4,5],[]),([0,1,4,9],[9]),([0,4,5,6],[]),([0,4,5,9],[9]),([4,5,6,7],[7]),([4,5,6,9],[9]),([0,1,2,3,4],[3]),([0,1,2,3,9],[3,9]),([0,1,2,3,9],[9,3]),([0,1,2,4,5],[]),([0,1,2,4,9],[9]),([0,1,4,5,6],[]),([0,1,4,5,9],[9]),([0,4,5,6,7],[7]),([0,4,5,6,9],[9]),([4,5,6,7,9],[7,9]),([4,5,6,7,9],[9,7]),([0,1,2,3,4,5],[3]),([0,1,2,3,4,9],[3,9]),([0,1,2,3,4,9],[9,3]),([0,1,2,4,5,6],[]),([0,1,2,4,5,9],[9]),([0,1,4,5,6,7],[7]),([0,1,4,5,6,9],[9]),([0,4,5,6,7,9],[7,9]),([0,4,5,6,7,9],[9,7]),([0,1,2,3,4,5,6],[3]),([0,1,2,3,4,5,9],[3,9]),([0,1,2,3,4,5,9],[9,3]),([0,1,2,4,5,6,7],[7]),([0,1,2,4,5,6,9],[9]),([0,1,4,5,6,7,9],[7,9]),([0,1,4,5,6,7,9],[9,7]),([0,1,2,3,4,5,6,7],[3,7]),([0,1,2,3,4,5,6,7],[7,3]),([0,1,2,3,4,5,6,9],[3,9]),([0,1,2,3,4,5,6,9],[9,3]),([0,1,2,4,5,6,7,9],[7,9]),([0,1,2,4,5,6,7,9],[9,7]),([0,1,2,3,4,5,6,7,8],[3,7]),([0,1,2,3,4,5,6,7,8],[7,3]),([0,1,2,3,4,5,6,7,9],[3,7,9]),([0,1,2,3,4,5,6,7,9],[3,9,7]),([0,1,2,3,4,5,6,7,9],[7,3,9]),([0,1,2,3,4,5,6,7,9],[7,9,3]),([0,1,2,3,4,5,6,7,9],[9,3,7]),([0,1,2,3,4,5,6,7,9],[9,7,3]),([0,1,2,3,4,5,6,7,8,9],[3,7,9]),([0,1,2,3,4,5,6,7,8,9],[3,9,7]),([0,1,2,3,4,5,6,7,8,9],[7,3,9]),([0,1,2,3,4,5,6,7,8,9],[7,9,3]),([0,1,2,3,4,5,6,7,8,9],[9,3,7]),([0,1,2,3,4,5,6,7,8,9],[9,7,3]),([0,1,2,3,4,5,6,7,8,9,10],[3,7,9]),([0,1,2,3,4,5,6,7,8,9,10],[3,9,7]),([0,1,2,3,4,5,6,7,8,9,10],[7,3,9]),([0,1,2,3,4,5,6,7,8,9,10],[7,9,3]),([0,1,2,3,4,5,6,7,8,9,10],[9,3,7]),([0,1,2,3,4,5,6,7,8,9,10],[9,7,3])]
section
variable{c:Ct}{p:Nat}{x2 x3:AV}{H:List Ob}{up:List Fr}{base:Nat}{k:List It}{C:AM.ar}
abbrev AW(Γ:Nat->Option AV)(c:Ct)(p:Nat)(x2 x3:AV)(k:List It)(base:Nat)(up:List Fr)(C:AM.ar)(H:List Ob)(x:qg):Prop:=nc Tryz.prog Γ KU EC pB k [] .norm base up C x.1 (11-x.1.length) (tW c p x2 x3 H x) (s9 c H x)
theorem agq:(wW.all fun x=>(decide (x.1.length<11)||(wW.drop 72).contains x)&&(WZ x).all fun i=>(wW.contains (ph i x))&&(i::x.1).isPerm (ph i x).1&&decide ((i::x.1).length=(ph i x).1.length))=true:=by decide+kernel
theorem alW(hc:cH c)(hp:H[p]? =some (.cells (AV.cells (bU c)))):∀x∈wW,∀i∈WZ x,∃d op,EC.getD i default=⟨d,none,op⟩/\
 (aD Tryz.prog Γ (tW c p x2 x3 H x) (s9 c H x) op=.val (yW c p H (ph i x) i) (s9 c H (ph i x))\/yW c p H (ph i x) i=.aH []/\aD Tryz.prog Γ (tW c p x2 x3 H x) (s9 c H x) op=.skip (s9 c H (ph i x)))/\
 bl (tW c p x2 x3 H x) d (yW c p H (ph i x) i)=tW c p x2 x3 H (ph i x):=by
 have hG:=hc.2.2.2.1
 have h2:=fun os=>ez hp os
 have b8:((c.af.length:Int)*8<=140737488355328/\(c.af.length:Int)<=140737488355328)=True:=bG (by omega);have hv:((c.af.length:Int)*24<=140737488355328/\(c.af.length:Int)<=140737488355328)=True:=bG (by omega)
 repeat' (first|refine X'.2 ⟨?_,?_⟩|exact List.forall_mem_nil _)
 all_goals exact ⟨_,_,rfl,by simp[tW,s9,zW,yW,om,ph,JN,KE,hp,h2,b8,hv],rfl⟩
theorem alP(hw:cz H.length H=true)(hb:base<=H.length)(hp:p<H.length)(h2:aK H.length x2=true)(h3:aK H.length x3=true)(hk:ir H.length k=true)
 (hC:AM.Reach ak Γ (.fr ⟨.run,pB,.ops []::k,tR p x2 x3 U U U U U U U U U (.ptr H.length 0),[],.norm,base⟩ up (H++hW c H.length)) C):∀x∈wW.drop 72,AW Γ c p x2 x3 k base up C H x:=by
 have hv:∀j,(H.length+j<H.length)=False:=fun j=>jC (by omega)
 simp at hC
 repeat' (first|refine X'.2 ⟨?_,?_⟩|exact List.forall_mem_nil _)
 all_goals
  refine .trans (.na [13,14,15,16,17,18,19,20,21] _) ?_;simp[nn,tW,s9,zW,yW,om,KE]
  first
  |refine .nq H.length [2,0,1] (by simp[nP hw,j_ h2,j_ h3,hk,hb,hp];done) (by decide) ?_
   simp[nQ hw,ke h2,ke h3,hp,hv];exact hC
  |refine .nq H.length [1,0,4] (by simp[nP hw,j_ h2,j_ h3,hk,hb,hp];done) (by decide) ?_
   simp[nQ hw,ke h2,ke h3,hp,hv];exact hC
  |refine .nq H.length [2,1,0] (by simp[nP hw,j_ h2,j_ h3,hk,hb,hp];done) (by decide) ?_
   simp[nQ hw,ke h2,ke h3,hp,hv];exact hC
  |refine .nq H.length [1,4,0] (by simp[nP hw,j_ h2,j_ h3,hk,hb,hp];done) (by decide) ?_
   simp[nQ hw,ke h2,ke h3,hp,hv];exact hC
  |refine .nq H.length [0,3,4] (by simp[nP hw,j_ h2,j_ h3,hk,hb,hp];done) (by decide) ?_
   simp[nQ hw,ke h2,ke h3,hp,hv];exact hC
  |refine .nq H.length [0,4,3] (by simp[nP hw,j_ h2,j_ h3,hk,hb,hp];done) (by decide) ?_
   simp[nQ hw,ke h2,ke h3,hp,hv];exact hC
theorem aiM(hc:cH c)(hp:H[p]? =some (.cells (AV.cells (bU c))))(hw:cz H.length H=true)(hb:base<=H.length)(h2:aK H.length x2=true)(h3:aK H.length x3=true)(hk:ir H.length k=true)
 (hC:AM.Reach ak Γ (.fr ⟨.run,pB,.ops []::k,tR p x2 x3 U U U U U U U U U (.ptr H.length 0),[],.norm,base⟩ up (H++hW c H.length)) C):
 AM.Reach ak Γ (.fr ⟨.run,pB,.code (.gM KU EC)::k,tR p x2 x3 U U U U U U U U U U,[],.norm,base⟩ up H) C:=by
 have ha:=agq;simp only[eh,aB,fL,Fv,List.isPerm_iff,bj]at ha
 have key:∀n,∀x∈wW,11-x.1.length=n->AW Γ c p x2 x3 k base up C H x:=by
  intro n
  induction n with
  |zero=>exact fun x hx hn=>alP hw hb (bd hp) h2 h3 hk hC x ((ha x hx).1.resolve_left (by omega))
  |succ n ih=>
   intro x hx hn;rw[AW,hn]
   refine .step fun i hi=>?_
   obtain⟨d,op,e1,e2,e3⟩:=alW hc hp x hx i hi;obtain⟨⟨a1,a2⟩,a3⟩:=(ha x hx).2 i hi;refine⟨d,op,_,_,e1,e2,?_⟩;rw[e3]
   have a4:11-(ph i x).1.length=n:=by simp at a3;omega
   have:=ih _ a1 a4;rw[AW,a4]at this;exact this.perm a2.symm
 have h:=key 11 ([],[]) (by decide) rfl;rw[AW,s9,List.flatMap_nil,ey]at h;exact nc.all h
end
abbrev eK(k:Nat):AV×AV:=(.int .i64 k,.bool true)
def gK(l:List Nat):Ob:=.row 1 au (l.map iN) none true false
def jq(l:List Nat):Ob:=.map (l.map eK) true
def dZ(n N m:Nat):List AV:=(List.range m).map (fun i=>AV.mp (n+(3+(N+i))))++List.replicate (N-m) .dk
def gQ(n:Nat)(b:List (List Nat)):List AV:=b.mapIdx fun j l=>AV.sl (n+(3+j)) 0 l.length
def hF(n N m:Nat)(b:List (List Nat)):List Ob:=[.cells [.sl (n+1) 0 N,.sl (n+2) 0 N],.row 1 oF (dZ n N m) none (decide (m=0)) false,.row 1 j9 (gQ n b) none (decide (b.length=0)) false]
def hQ(H:List Ob)(nd b:List (List Nat)):List Ob:=H++(hF H.length b.length nd.length b++(b.map gK++nd.map jq))
section
variable{H:List Ob}{nd b:List (List Nat)}
theorem mS:(hQ H nd b).length=H.length+(3+(b.length+nd.length)):=by simp[hQ,hF];omega
theorem JH{i:Nat}(h:i<H.length):(hQ H nd b)[i]? =H[i]? :=by rw[hQ,cF h]
theorem AD(i:Nat):(hQ H nd b)[H.length+i]? =(hF H.length b.length nd.length b++(b.map gK++nd.map jq))[i]? :=by
 rw[hQ,dB (by omega)];congr 1;omega
theorem JM:(hQ H nd b)[H.length]? =some (.cells [.sl (H.length+1) 0 b.length,.sl (H.length+2) 0 b.length]):=AD 0
theorem J5:(hQ H nd b)[H.length+1]? =some (.row 1 oF (dZ H.length b.length nd.length) none (decide (nd.length=0)) false):=AD 1
theorem TT:(hQ H nd b)[H.length+2]? =some (.row 1 j9 (gQ H.length b) none (decide (b.length=0)) false):=AD 2
theorem JU{k:Nat}(h:k<b.length):(hQ H nd b)[H.length+(3+k)]? =some (gK b[k]):=by
 rw[AD,dB (by simp[hF]),cF (by simp[hF];omega)];simp[hF,h]
theorem Ts{i:Nat}(h:i<nd.length):(hQ H nd b)[H.length+(3+(b.length+i))]? =some (jq nd[i]):=by
 rw[AD,dB (by simp[hF]),dB (by simp[hF])];simp[hF,h]
theorem Hw{n N m i:Nat}(h:i<m):(dZ n N m)[i]? =some (.mp (n+(3+(N+i)))):=by
 rw[dZ,cF (by simpa using h)];simp[h]
theorem CI{n N m:Nat}(h:m<=N):(dZ n N m).length=N:=by simp[dZ];omega
theorem sA(n:Nat)(b:List (List Nat)):(gQ n b).length=b.length:=by simp[gQ]
theorem uj{n k:Nat}(h:k<b.length):(gQ n b)[k]? =some (.sl (n+(3+k)) 0 b[k].length):=by simp[gQ,h]
theorem ajb{n k:Nat}(l:List Nat)(h:k<b.length):(gQ n b).set k (.sl (n+(3+k)) 0 l.length)=gQ n (b.set k l):=by
 apply iX;intro j
 by_cases hj:k=j
 ·subst hj;rw[ff (by rw[sA];exact h),uj (by simpa using h)];simp
 ·rw[dW hj]
  by_cases h2:j<b.length
  ·rw[uj h2,uj (by simpa using h2),L_ hj]
  ·rw[gy (by rw[sA];omega),gy (by rw[sA];simp;omega)]
theorem RI{i:Nat}(l:List Nat)(h:i<nd.length):(hQ H nd b).set (H.length+(3+(b.length+i))) (jq l)=hQ H (nd.set i l) b:=by
 have e:H.length+(3+(b.length+i))=H.length+((hF H.length b.length nd.length b).length+((b.map gK).length+i)):=by simp[hF]
 have ap:∀(a c:List Ob)(j:Nat)(o:Ob),(a++c).set (a.length+j) o=a++c.set j o:=fun a c j o=>by
  rw[xR _ _ (by omega)];congr 2;omega
 rw[hQ,e,ap,ap,ap,hQ,kD,<-rX]
theorem DB(a c:List Ob)(j:Nat)(o:Ob):(a++c).set (a.length+j) o=a++c.set j o:=by rw[xR _ _ (by omega)];congr 2;omega
theorem aiZ{k:Nat}(l:List Nat)(h:k<b.length):((hQ H nd b).set (H.length+(3+k)) (gK l)).set (H.length+2) (.row 1 j9 (gQ H.length (b.set k l)) none (decide (b.length=0)) false)=hQ H nd (b.set k l):=by
 have e:H.length+(3+k)=H.length+((hF H.length b.length nd.length b).length+k):=by simp[hF]
 have ap:∀(a c:List Ob)(j:Nat)(o:Ob),(a++c).set (a.length+j) o=a++c.set j o:=fun a c j o=>by
  rw[xR _ _ (by omega)];congr 2;omega
 rw[hQ,e,ap,ap,ap,hQ,kD,show((b.map gK++nd.map jq).set k (gK l))=(b.map gK).set k (gK l)++nd.map jq from lZ _ _ (by simpa using h),<-rX];simp[hF]
theorem RD{n m:Nat}(b:List (List Nat))(h:n+(3+b.length)<=m):aN m (gQ n b)=true:=by
 have:∀(l:List (List Nat))(q:Nat),q+(3+l.length)<=m->aN m (l.mapIdx fun j x=>AV.sl (q+(3+j)) 0 x.length)=true:=by
  intro l
  induction l with
  |nil=>intro q _;rfl
  |cons a l ih=>
   intro q hq;simp only[bL]at hq;have h2:=ih (q+1) (by omega)
   have e:(fun(i:Nat) (x:List Nat)=>AV.sl (q+(3+(i+1))) 0 x.length)=fun j x=>AV.sl (q+1+(3+j)) 0 x.length:=by
    funext j x;congr 1;omega
   rw[List.mapIdx_cons,e]
   simp only[aN,h2,aK,qt,bj];omega
 exact this b n h
theorem Hn{n N m q:Nat}(h:n+(3+(N+m))<=q):aN q (dZ n N m)=true:=by
 have h1:∀l:List Nat,(∀i∈l,i<m)->aN q (l.map fun i=>AV.mp (n+(3+(N+i))))=true:=by
  intro l
  induction l with
  |nil=>intro _;rfl
  |cons a l ih=>
   intro hl;have:=hl a (by simp)
   simp only[bX,aN,aK,ih fun i hi=>hl i (by simp[hi]),qt,bj];omega
 have h2:∀k,aN q (List.replicate k AV.dk)=true:=by
  intro k
  induction k with
  |zero=>rfl
  |succ k ih=>simp[mE,ih]
 rw[dZ,GK,h1 _ (fun i hi=>by simpa using hi),h2];rfl
theorem Iu(m:Nat):∀b:List (List Nat),cz m (b.map gK)=true
 |[]=>rfl
 |l::b=>by simp[gK,Iu m b]
theorem SA(m:Nat):∀l:List Nat,fC m (l.map eK)=true
 |[]=>rfl
 |l::b=>by simp[SA m b]
theorem H_(m:Nat):∀b:List (List Nat),cz m (b.map jq)=true
 |[]=>rfl
 |l::b=>by
  have:=SA m l;simp only[bX,cz,jq,iL,this,tA];exact H_ m b
theorem alD(hw:bN H):bN (hQ H nd b):=fun m hm=>by
 rw[mS]at hm;have h1:=hw m (by omega);have h2:=RD (n:=H.length) (m:=m) b (by omega);have h3:=Hn (n:=H.length) (N:=b.length) (m:=nd.length) (q:=m) (by omega);rw[hQ,qE,qE,qE,h1,Iu,H_];simp[hF,h2,h3];omega
theorem IL{n i m:Nat}(b:List (List Nat))(h:∀j(hj:j<b.length),n+(3+j)=i->b[j].length=m):dx i m (gQ n b)=true:=by
 have:∀l:List AV,(∀a∈l,j0 i m a=true)->dx i m l=true:=by
  intro l
  induction l with
  |nil=>intro _;rfl
  |cons a l ih=>intro hl;simp only[dx,hl a (by simp),ih fun x hx=>hl x (by simp[hx]),oC]
 refine this _ fun a ha=>?_
 obtain⟨j,hj,rfl⟩:=gb ha;rw[sA]at hj
 have e:(gQ n b)[j]'(by rw[sA];exact hj)=.sl (n+(3+j)) 0 b[j].length:=by
  have:=uj (n:=n) hj;exact(cV.1 this).2
 rw[e];simp only[j0,fL,j4,xN,jw,nA]
 by_cases hi:n+(3+j)=i
 ·exact .inr (h j hj hi)
 ·exact .inl hi
theorem Ho{n N m i q:Nat}:dx i q (dZ n N m)=true:=by
 have:∀l:List AV,(∀a∈l,j0 i q a=true)->dx i q l=true:=by
  intro l
  induction l with
  |nil=>intro _;rfl
  |cons a l ih=>intro hl;simp only[dx,hl a (by simp),ih fun x hx=>hl x (by simp[hx]),oC]
 refine this _ fun a ha=>?_
 simp only[dZ,a8,cd,dS,Yh]at ha
 rcases ha with⟨j,_,rfl⟩|⟨_,rfl⟩<;>rfl
theorem CZ(i m:Nat):∀b:List (List Nat),c8 i m (b.map gK)=true
 |[]=>rfl
 |l::b=>by simp[gK,CZ i m b]
theorem Sq(i m:Nat):∀l:List Nat,o_ i m (l.map eK)=true
 |[]=>rfl
 |l::b=>by simp[Sq i m b]
theorem C6(i m:Nat):∀b:List (List Nat),c8 i m (b.map jq)=true
 |[]=>rfl
 |l::b=>by
  have:=Sq i m l;simp only[bX,c8,jq,nh,this,tA];exact C6 i m b
theorem j6(i m:Nat):∀a b:List Ob,c8 i m (a++b)=(c8 i m a&&c8 i m b)
 |[],b=>rfl
 |o::a,b=>by simp[c8,j6 i m a b,pw]
theorem akm(hv:eT H){k:Nat}(h:k<b.length):c8 (H.length+(3+k)) b[k].length (hQ H nd b)=true:=by
 have h1:=hv (H.length+(3+k)) b[k].length (by omega)
 have h2:dx (H.length+(3+k)) b[k].length (gQ H.length b)=true:=IL b fun j hj he=>by
  obtain rfl:j=k:=by omega
  rfl
 have h3:=Ho (n:=H.length) (N:=b.length) (m:=nd.length) (i:=H.length+(3+k)) (q:=b[k].length);rw[hQ,j6,j6,j6,h1,CZ,C6];simp[hF,h2,h3];omega
end
def m_(n N j:Nat):List AV:=(List.range j).map (fun i=>AV.sl (n+(3+i)) 0 0)++List.replicate (N-j) (.list true 0 [])
def kS(H:List Ob)(N j:Nat):List Ob:=H++([.cells [.sl (H.length+1) 0 N,.sl (H.length+2) 0 N],.row 1 oF (dZ H.length N 0) none true false,.row 1 j9 (m_ H.length N j) none (decide (j=0)) false]++List.replicate j (gK []))
theorem afy(H:List Ob)(N j:Nat):(kS H N j).length=H.length+(3+j):=by simp[kS];omega
theorem akt(H:List Ob)(N:Nat)(f:Fr)(up:List Fr):∀m j:Nat,j+m=N->AM.Reach ak Γ (.fr f up (kS H N j)) (.fr f up (kS H N N)):=by
 intro m
 induction m with
 |zero=>
  intro j hj
  obtain rfl:j=N:=by omega
  exact .refl _
 |succ m ih=>
  intro j hj;have hlen:=afy H N j
  have hi:(kS H N j)[H.length+2]? =some (.row 1 j9 (m_ H.length N j) none (decide (j=0)) false):=by
   rw[kS,dB (by omega),show H.length+2-H.length=2 by omega];rfl
  have h2:(m_ H.length N j)[j]? =some (.list true 0 []):=by
   rw[m_,dB (by simp),fy,qw,Fs,show N-j=(N-(j+1))+1 by omega,mE];rfl
  have hv:=AM.Reach.Dv (P:=Tryz.prog) (Γ:=Γ) (f:=f) (up:=up) (k:=1) au hi h2 (by omega);refine .trans hv ?_
  have e:((kS H N j++[Ob.row 1 au [] none true false]).set (H.length+2) (.row 1 j9 ((m_ H.length N j).set j (.sl (kS H N j).length 0 0)) none false false))=kS H N (j+1):=by
   have e1:(m_ H.length N j).set j (.sl (kS H N j).length 0 0)=m_ H.length N (j+1):=by
    rw[hlen,m_,xR _ _ (by simp)]
    have e2:List.replicate (N-j) (AV.list true 0 [])=.list true 0 []::List.replicate (N-(j+1)) (.list true 0 []):=by
     rw[show N-j=(N-(j+1))+1 by omega,mE]
    rw[e2];simp[m_,Fx]
   rw[e1,kS,kS,cR,DB];have e3:List.replicate (j+1) (gK [])=List.replicate j (gK [])++[gK []]:=List.replicate_succ';rw[e3];simp[gK]
  rw[e];exact ih (j+1) (by omega)
theorem adL(c:Ct)(H:List Ob):kS H c.af.length 0=H++hW c H.length:=by simp[kS,hW,dZ,m_]
theorem afL(H:List Ob)(N:Nat):kS H N N=hQ H [] (List.replicate N []):=by
 have e:m_ H.length N N=gQ H.length (List.replicate N []):=by
  apply iX;intro j
  by_cases hj:j<N
  ·rw[uj (by simpa using hj)];simp[m_,hj]
  ·rw[gy (by simp[m_];omega),gy (by rw[sA];simp;omega)]
 simp[kS,hQ,hF,e]
theorem QQ(k:Nat):∀l:List Nat,fg (.sc .int) (.int .i64 k) (l.map eK)=some (if k∈l then some (.bool true)else none)
 |[]=>rfl
 |a::l=>by
  simp only[bX,fg,uw]
  by_cases h:k=a
  ·simp[h]
  ·simp[h,QQ k l]
theorem Q0{k:Nat}:∀{l:List Nat},k∉l->gG (.sc .int) (.int .i64 k) (.bool true) (l.map eK)=some ((l++[k]).map eK)
 |[],_=>rfl
 |a::l,h=>by
  simp only[bD,not_or]at h;simp only[bX,gG,uw,h.1,nD,Q0 h.2,dC,eH]
theorem aj4{c:Ct}{s:Bs}{k:Nat}(h:getM s (cB c)=some k):k<c.af.length:=by
 have:∀l:List (Bs×Nat),getM s l=some k->∃x∈l,x.2=k:=by
  intro l
  induction l with
  |nil=>intro h;cases h
  |cons x l ih=>
   obtain⟨a,v⟩:=x;intro h;rw[getM]at h
   split at h
   ·exact⟨(a,v),by simp,Option.some.inj h⟩
   ·obtain⟨x,h1,h2⟩:=ih h;exact⟨x,by simp[h1],h2⟩
 obtain⟨x,h1,rfl⟩:=this _ h;obtain⟨j,hj,rfl⟩:=gb h1;rw[wm]at hj
 rw[Ao c j hj];exact hj
def fV(pl:List (Bs×Nat)):List Bs->List Nat->List Nat
 |[],a=>a
 |s::r,a=>match getM s pl with
  |none=>fV pl r a
  |some k=>fV pl r (if k∈a then a else a++[k])
def kz(pl:List (Bs×Nat))(i:Nat):List Bs->List Nat->List (List Nat)->List (List Nat)
 |[],_,b=>b
 |s::r,a,b=>match getM s pl with
  |none=>kz pl i r a b
  |some k=>kz pl i r (if k∈a then a else a++[k]) (if k∈a then b else b.set k (b.getD k []++[i]))
theorem ahi{A:List Ob}{r s:Nat}(h:s≠r)(o o1 o2:Ob):((A.set r o1).set s o2).set r o=(A.set r o).set s o2:=by
 rw[List.set_comm _ _ h,tG]
theorem ajZ{h:List Ob}{i:Nat}{o:Ob}(hi:h[i]? =some o):h.set i o=h:=by
 apply iX;intro j
 by_cases hj:i=j
 ·subst hj;rw[ff (bd hi),hi]
 ·rw[dW hj]
theorem Ip{i m:Nat}{o:Ob}(ho:nh i m o=true):∀{h:List Ob}(j:Nat),c8 i m h=true->c8 i m (h.set j o)=true
 |[],_,h1=>h1
 |o'::h,0,h1=>by
  simp only[c8,aB,xv]at h1⊢;exact⟨ho,h1.2⟩
 |o'::h,j+1,h1=>by
  simp only[c8,aB,rQ]at h1⊢;exact⟨h1.1,Ip ho j h1.2⟩
theorem ai7(c:Ct)(hc:cH c){H:List Ob}(hw:bN H)(hv:eT H){m0:Nat}(hm:H[m0]? =some (.map ((cB c).map ju) true))(nd:List (List Nat))(i:Nat)(hi:i<c.af.length)(ps:nd.length=i)(up:List Fr)(base:Nat)(e1:base<=H.length)(p2:Nat):∀n q:Nat,q+n=c.af[i].ins.length->∀(cur:List Nat)(b:List (List Nat)),b.length=c.af.length->(∀l∈b,l.length<=2^20+i*2^10+q)->
 AM.Reach ak Γ (yrr (.ptr p2 0) (.mp m0) (.ptr H.length 0) (.int .i64 i) (.list false c.kG (c.af.map df)) (.int .i64 c.af.length) (.int .i64 i) (.list false c.af[i].ki (c.af[i].ins.map .str)) (.int .i64 c.af[i].ins.length) (.int .i64 q) (hQ H (nd++[cur]) b) ⟨[],.norm,base,up⟩)
  (yrs (.ptr p2 0) (.mp m0) (.ptr H.length 0) (.list false c.kG (c.af.map df)) (.int .i64 c.af.length) (.int .i64 i) (hQ H (nd++[fV (cB c) (c.af[i].ins.drop q) cur]) (kz (cB c) i (c.af[i].ins.drop q) cur b)) ⟨[],.norm,base,up⟩):=by
 have h7:i<2^10:=by have:=hc.2.2.2.1;omega
 have q3:c.af[i].ins.length<2^10:=(hc.2.2.2.2.1 _ (bA hi)).2.1;intro n
 induction n with
 |zero=>
  intro q hq cur b hb h4
  have q1:¬q<c.af[i].ins.length:=by omega
  rw[bx (by omega),fV,kz];refine .dh 60 ?_;simp[q1];exact .exit rfl rfl
 |succ n ih=>
  intro q k2 cur b hb h4
  have hq:q<c.af[i].ins.length:=by omega
  have q2:=bG (c.af[i].hi.of hq)
  have hx:(hQ H (nd++[cur]) b)[m0]? =some (.map ((cB c).map ju) true):=by rw[JH (bd hm)];exact hm
  have hf:=vI (E:=.sc .str) (e:=AV.str) oR (fun n:Nat=>AV.int .i64 n) c.af[i].ins[q] (cB c);rw[bJ hq,fV,kz]
  cases hk:getM c.af[i].ins[q] (cB c)with
  |none=>
   rw[hk]at hf;have hh:=ih (q+1) (by omega) cur b hb (fun l hl=>by have:=h4 l hl;omega);refine .dh 60 ?_;simp(disch:=omega) [hq,q2,hx,hf,isKey,bM,bV];refine .aI ?_;simp at hh⊢;exact hh
  |some k=>
   rw[hk]at hf;have fz:=aj4 hk
   have h2:k<b.length:=by omega
   have xw:=JM (H:=H) (nd:=nd++[cur]) (b:=b);have xn:=J5 (H:=H) (nd:=nd++[cur]) (b:=b)
   have hd:i<(nd++[cur]).length:=by simp;omega
   have xm:=Ts (H:=H) (b:=b) hd
   have hg:(nd++[cur])[i]=cur:=by rw[Fq (by omega)];simp[ps]
   have yn:=Hw (n:=H.length) (N:=b.length) hd
   have h6:(nd++[cur]).length=nd.length+1:=by simp
   have yl:=CI (n:=H.length) (N:=b.length) (m:=nd.length+1) (by omega);have yt:List.take b.length (dZ H.length b.length (nd.length+1))=dZ H.length b.length (nd.length+1):=cj (by rw[yl];exact aT _);have fc:=QQ k cur;rw[hg]at xm;rw[h6]at yn xn;rw[hb]at xm yn xw xn yl yt;obtain⟨_,e2⟩:=cV.1 yn
   by_cases hy:k∈cur
   ·rw[if_pos hy]at fc;have hh:=ih (q+1) (by omega) cur b hb (fun l hl=>by have:=h4 l hl;omega);simp only[if_pos hy];generalize hQ H (nd++[cur]) b=X at*;refine .dh 60 ?_;simp(disch:=omega) [hq,q2,hx,hf,isKey,bM,bV,xw,xn,xm,yn,yl,yt,e2,hi,jq,fc];refine .aI ?_;simp at hh⊢;exact hh
   ·rw[if_neg hy]at fc;have pc:=Q0 hy;have xb:=TT (H:=H) (nd:=nd++[cur]) (b:=b);have xr:=JU (H:=H) (nd:=nd++[cur]) h2;have yb:=uj (n:=H.length) h2
    have hh:=ih (q+1) (by omega) (cur++[k]) (b.set k (b.getD k []++[i])) (by simpa using hb) (fun l hl=>by
     rcases qu hl with h1|h1
     ·have:=h4 l h1;omega
     ·have ht:b.getD k []=b[k]:=by rw[bz,aW h2];rfl
      have:=h4 _ (bA h2)
      rw[h1,ht,bC,ve];omega)
    simp only[if_neg hy]
    have fin:((((hQ H (nd++[cur]) b).set (H.length+(3+(c.af.length+i))) (.map (List.map eK cur++[eK k]) true)).set (H.length+(3+k)) (.row 1 au (List.map iN b[k]++[.int .i64 i]) (some 0) true false)).set (H.length+2) (.row 1 j9 ((gQ H.length b).set k (.sl (H.length+(3+k)) 0 (b[k].length+1))) none false false))=
     (hQ H (nd++[cur++[k]]) (b.set k (b[k]++[i]))).set (H.length+(3+k)) (.row 1 au (List.map iN b[k]++[.int .i64 i]) (some 0) true false):=by
     have f1:=RI (H:=H) (b:=b) (cur++[k]) hd;have f2:=aiZ (H:=H) (nd:=nd++[cur++[k]]) (b[k]++[i]) h2;have f3:=ajb (n:=H.length) (b[k]++[i]) h2
     have f4:(nd++[cur]).set i (cur++[k])=nd++[cur++[k]]:=by rw[xR _ _ (by omega)];simp[ps]
     have f5:jq (cur++[k])=.map (List.map eK cur++[eK k]) true:=by simp[jq]
     have f6:decide (b.length=0)=false:=xS (by omega)
     have f7:(b[k]++[i]).length=b[k].length+1:=by simp
     rw[f4,f5,hb]at f1;rw[f6]at f2;rw[f7]at f3;rw[f1,f3,<-f2,ahi (by omega)]
    have hp:=akm (H:=H) (nd:=nd++[cur++[k]]) (b:=b.set k (b[k]++[i])) hv (k:=k) (by simpa using h2);have h5:=JU (H:=H) (nd:=nd++[cur++[k]]) (b:=b.set k (b[k]++[i])) (k:=k) (by simpa using h2);have hj:=mS (H:=H) (nd:=nd++[cur++[k]]) (b:=b.set k (b[k]++[i]));rw[List.getElem_set_self]at hp h5;have zl:=sA H.length b;have zt:List.take b.length (gQ H.length b)=gQ H.length b:=cj (by rw[zl];exact aT _);rw[hb]at xb zl zt;obtain⟨_,hz⟩:=cV.1 yb;generalize hQ H (nd++[cur]) b=X at*;clear hj;refine .dh 60 ?_;simp(disch:=omega) [hq,q2,hx,hf,isKey,bM,bV,xw,xn,xm,yn,yl,yt,e2,hi,jq,fc,pc];refine .LI 60 ?_
    have d1:¬c.af.length+i=k:=by omega
    have b8:(b[k].length+1)*8<=140737488355328:=by have:=h4 _ (bA h2);omega
    simp(disch:=omega) [xw,xb,xr,yb,hz,zl,zt,gK,d1,b8];rw[fin];have hj:=mS (H:=H) (nd:=nd++[cur++[k]]) (b:=b.set k (b[k]++[i]))
    have ht:b.getD k []=b[k]:=by rw[bz,aW h2];rfl
    rw[ht]at hh
    try rw [ht]
    generalize hQ H (nd++[cur++[k]]) (b.set k (b[k]++[i]))=Z at*
    have ys:H.length+(3+k)<Z.length:=by rw[hj];simp;omega
    refine .aI ?_;simp
    refine .nN (i:=H.length+(3+k)) (k:=1) (E:=au) (es:=(b[k]++[i]).map iN) (fl:=true) (sh:=false) (by rw[ff ys];simp) (by simp;omega) (by simp) (by
     simp only[fy]
     exact Ip (by simp[nh]) _ hp) ?_
    rw[tG,show Ob.row 1 au ((b[k]++[i]).map iN) none true false=gK (b[k]++[i])from rfl,ajZ h5];simp at hh⊢;exact hh
theorem eT.set{h:List Ob}(hw:eT h){o:Ob}(hb:∀i m,h.length<=i->nh i m o=true)(j:Nat):eT (h.set j o):=fun i m hi=>by
 rw[kD]at hi;exact Ip (hb i m hi) j (hw i m hi)
abbrev EH(p:Nat×List Fm):AV:=.aH [iN p.1,.list false 3 (p.2.map bm)]
abbrev Lk(h:List Ob)(t:Fm)(ks:List Nat):List Ob:=h++[.row 3 a_ [] none true false,.cells (bm t).cells,.row 1 au (ks.map iN) none true false]
def Su(P:Program)(Γ:Nat->Option AV)(ins:List Nat)(ki:Nat)(val:Int->Bool)(f:Nat):Prop:=
 ∀(l:List Fm),l.length<2^40->∀{v:Bool}{l':List Fm},fB ins.length val f l=some (v,l')->∀(x:Gr)(h:List Ob)(i:Nat),h[i]? =some (cT x)->bN h->eT h->x.Ok->(∀a∈ins,a<x.lits)->∀up,
  AM.Reach P Γ (.cl xW [.ptr i 0,.list false 3 (l.map bm),.list false ki (ins.map iN)] up h) (dd EH i up h (jS ins f x l))
theorem aln{h os:List Ob}{a b c:Ob}:(h++a::b::c::os)[h.length+2]? =some c:=by simp
theorem Tf{h os:List Ob}{a b c:Ob}{f:Ob->Ob}:(h++a::b::c::os).modify (h.length+2) f=h++a::b::f c::os:=by
 induction h with
 |nil=>rfl
 |cons x h ih=>simpa using ih
theorem aiC(ins:List Nat){ki:Nat}(hz:ins.length<2^40)(val:Int->Bool)(f:Nat)(ih:Su Tryz.prog Γ ins ki val f)(t:Fm)(ht:t.kind=3\/t.kind=4)(q2:2<=t.kids)(ps:t.kids<2^40)(i L:Nat)(up:List Fr):
 ∀m j:Nat,j+m=t.kids.toNat->∀(ks:List Nat)(l:List Fm)(x:Gr)(h:List Ob)(v w:Bool)(l':List Fm),ks.length=j->l.length<2^40->gF (fB ins.length val f) (decide (t.kind=3)) m v l=some (w,l')->h.length=L->h[i]? =some (cT x)->bN h->eT h->x.Ok->(∀a∈ins,a<x.lits)->(∀a∈ks,a<x.lits)->
  ∃J,AM.Reach ak Γ (ysz (.ptr i 0) (.list false ki (ins.map iN)) (.ptr (L+1) 0) (.list false 3 (l.map bm)) (.sl (L+2) 0 ks.length) (.int .i64 t.kids) (.int .i64 j) (Lk h t ks) ⟨[],.norm,L,up⟩)
   (dd EH i up (h++J) (gn (lK (jS ins f) m x ks l) (wS t))):=by
 intro m
 induction m with
 |zero=>
  intro j hj ks l x h v w l' h5 hl hr hL hi hw hv ok h4 hy;subst hL
  have q1:¬(j:Int)<t.kids:=by omega
  have hk:=bd hi
  have hx:=fun os=>ez hi os
  have h0:ks≠[]:=by
   intro h0;subst h0
   simp at h5;omega
  have hW:∀b,bN (h++[.row 3 a_ [] none true false,.cells (bm t).cells,.row 1 au (ks.map iN) none true b]):=fun b m hm=>by
   simp at hm;simp[hw m (by omega)]
  have hb:∀(o:Ob)(os:List Ob),(h++os).set i o=h.set i o++os:=fun o os=>lZ _ _ hk
  refine⟨[.row 3 a_ [] none true false,.cells (bm t).cells,.row 1 au (ks.map iN) none true true],?_⟩;rw[lK,gn,wS];refine .dh 60 ?_;simp[q1];refine .trans (.exit rfl rfl) ?_;refine .trees [10] ?_;simp[Tf,eI];have hd:(ks.map iN).take ks.length=ks.map iN:=cj (by simp);obtain⟨kd,lt,kk⟩:=t;simp only at ht q2 ps hj q1 hW⊢
  rcases ht with rfl|rfl
  ·have hA:=SM (Γ:=Γ) ks h0 (by omega) (fl:=false) (k:=1) .self x (h:=h++[.row 3 a_ [] none true false,.cells (bm ⟨3,lt,kk⟩).cells,.row 1 au (ks.map iN) none true true]) (hx _) (hW true) ok hy;refine .aY 60 ?_;simp[hd];unfold dd at hA⊢;unfold eY
   cases h9:(jc 0 x ks).2<;>simp only[h9,hb]at hA⊢
   ·refine .lS 60 hA ?_;simp[h9,hb]
   ·refine .aX 60 hA ?_;simp[h9,hb]
  ·have hA:=SQ (Γ:=Γ) ks h0 (by omega) (fl:=false) (k:=1) .self x (h:=h++[.row 3 a_ [] none true false,.cells (bm ⟨4,lt,kk⟩).cells,.row 1 au (ks.map iN) none true true]) (hx _) (hW true) ok hy;refine .aY 60 ?_;simp[hd];unfold dd at hA⊢;unfold eY at hA⊢
   cases h9:(jc 1 x ks).2<;>simp only[h9,hb,u_,dC]at hA⊢
   ·refine .lS 60 hA ?_;simp[h9,hb]
   ·refine .aX 60 hA ?_;simp[h9,hb]
 |succ m e1=>
  intro j hj ks l x h v w l' h5 hl hr hL hi hw hv ok h4 hy;subst hL
  have q1:(j:Int)<t.kids:=by omega
  have hk:=bd hi
  have hx:=fun os=>ez hi os
  have hb:∀(o:Ob)(os:List Ob),(h++os).set i o=h.set i o++os:=fun o os=>lZ _ _ hk
  rw[gF]at hr
  cases h2:fB ins.length val f l with
  |none=>rw[h2]at hr;cases hr
  |some u=>
   rw[h2]at hr;obtain⟨u1,l1⟩:=u;simp only at hr;have ys:=Hq _ _ _ _ _ _ h2
   have hc:=ih l hl h2 x (Lk h t ks) i (hx _) (by
    intro m hm;simp at hm
    simp[hw m (by omega)]) (by
    intro m k hm;simp at hm
    simp[hv m k (by omega)]) ok h4
   have hf:=t_ ins f x l ok h4;rw[lK]
   cases h9:jS ins f x l with
   |mk y r=>
    rw[h9]at hc hf
    cases r with
    |none=>
     refine⟨[.row 3 a_ [] none true false,.cells (bm t).cells,.row 1 au (ks.map iN) none true false],?_⟩;simp only[dd,gn,hb]at hc⊢;refine .aY 60 ?_;simp[q1];refine .lS 60 hc ?_;simp
    |some p=>
     obtain⟨c,l2⟩:=p;have:=G5 ins _ val f x l y c l2 u1 l1 h9 h2;subst this;have hg:=hf.2 _ rfl;simp only at hg
     obtain⟨J,hh⟩:=e1 (j+1) (by omega) (ks++[c]) l2 y (h.set i (cT y)) _ w l' (by simp[h5]) (by omega) hr (by simp) (by simp[hk]) (hw.set (fun m _=>by simp) i) (hv.set (fun m k _=>by simp) i) hf.1.ok (fun a ha=>lX (h4 a ha) hf.1.lits) (fun a ha=>by
      rcases a8.1 ha with ha|ha
      ·exact lX (hy a ha) hf.1.lits
      ·simp only[cL]at ha;subst ha;exact hg)
     refine⟨J,?_⟩
     have e2:∀r:Gr×Option (Nat×List Fm),dd EH i up (h.set i (cT y)++J) r=dd EH i up (h++J) r:=fun r=>by
      unfold dd
      have:∀o:Ob,(h.set i (cT y)++J).set i o=(h++J).set i o:=fun o=>by
       rw[lZ _ _ (by simpa using hk),lZ _ _ hk,tG]
      simp only[this]
     rw[e2]at hh;simp only[dd,gn,hb]at hc;simp only[gn]at hh⊢
     have h6:=fun m=>(hv.set (o:=cT y) (fun m k _=>by simp) i) (h.length+2) m (by simp)
     have hp:(h.set i (cT y)).length=h.length:=by simp
     generalize h.set i (cT y)=H at*
     have hq:(ks.length:Int)+1<=140737488355328:=by omega
     refine .aY 60 ?_;simp[q1];refine .aX 60 hc ?_;simp(disch:=omega) [<-hp,hq];refine .aI ?_;simp;refine .nN (i:=H.length+2) aln (by simp[hp]) (by simp) (by simp[hp,h6]) ?_;simp[hp,Lk]at hh⊢;exact hh
theorem RS(ins:List Nat){ki:Nat}(h4:Kd 1 ki ins)(hy:ins.length<2^30)(val:Int->Bool):∀f,Su Tryz.prog Γ ins ki val f
 |0,l,_,v,l',h2,_,_,_,_,_,_,_,_,_=>by simp[fB]at h2
 |f+1,[],_,v,l',h2,_,_,_,_,_,_,_,_,_=>by simp[fB]at h2
 |f+1,t::l,hl,v,l',h2,x,h,i,hi,hw,hv,ok,ih,up=>by
  rw[fB]at h2
  split at h2
  ·rename_i ho;have hc:=bd hi;have hle:=lC ok
   have hk:=fun os=>ez hi os
   have hb:∀os:List Ob,(h++os).set i (cT x)=h++os:=fun os=>Ag (hk os)
   simp at hl;obtain⟨kd,lt,kk⟩:=t;unfold fK at ho;simp only at ho h2
   by_cases k2:kd=2
   ·subst k2;simp at ho;obtain⟨n,rfl⟩:=gW ho.1
    have q1:n/2<ins.length:=by omega
    have q2:=bG (h4.of q1);have hx:=ih _ (bA q1);obtain rfl:=ho.2.2;refine ui [.row 3 a_ [] none true false,.cells (bm ⟨2,n,0⟩).cells] hw hc (by simp) ?_;rw[jS];simp only[cE,dd,hb];refine .bp 60 FP.1 ?_;simp(disch:=omega) [q1,q2]
    have e1:((n:Int)/2).toNat=n/2:=by omega
    have e4:((n:Int)%2).toNat=n%2:=by omega
    have e3:iv .xor .i64 (ins[n/2]:Int) ((n:Int)%2)=some ((ins[n/2]^^^(n%2):Nat):Int):=by
     rw[show(n:Int)%2=((n%2:Nat):Int) by omega];exact Ja (by omega)
    refine .ei 60 ?_
    have e5:ins.getD (n/2) 0=ins[n/2]:=by rw[bz,aW q1];rfl
    simp(disch:=omega) [q1,q2,e1,e3,e4,e5]
   ·rw[if_neg k2]at ho h2
    by_cases hj:kd=3\/kd=4
    ·rw[if_pos hj]at ho;simp at ho;obtain⟨rfl,hp⟩:=ho
     have hq:decide (kd=1)=false:=by simp;omega
     have n0:¬kd=0:=by omega
     have n1:¬kd=1:=by omega
     have h5:=aiC (Γ:=Γ) ins (by omega) val f (RS ins h4 hy val f) ⟨kd,0,kk⟩ hj hp (by
      have:=Qe (fun l v l' h=>Hq _ val f l v l' h) _ _ _ _ _ h2
      simp only;omega) i h.length up kk.toNat 0 (by simp) [] l x h _ v l' rfl (by omega) h2 rfl hi hw hv ok ih (fun a ha=>by cases ha)
     obtain⟨J,hJ⟩:=h5;refine ui J hw hc (by simp) ?_;rw[jS];simp only[if_neg k2,if_neg (show¬(kd=0\/kd=1) by omega)];refine .bp 60 FP.1 ?_;simp;refine .ei 60 ?_;simp(disch:=omega) [n0,n1,k2];refine .inLoop ?_;simp at hJ⊢;exact hJ
    ·rw[if_neg hj]at ho
     split at ho
     ·rename_i hf;simp at ho;obtain⟨rfl,rfl⟩:=ho;refine ui [.row 3 a_ [] none true false,.cells (bm ⟨kd,0,0⟩).cells] hw hc (by simp) ?_;rw[jS];simp only[if_neg k2,if_pos hf,dd,hb];refine .bp 60 FP.1 ?_;simp;refine .ei 60 ?_
      rcases hf with rfl|rfl<;>simp(disch:=omega)<;>exact .refl _
     ·cases ho
  ·cases h2
abbrev Li:Type:=Nat×UInt8
abbrev ew(x:Li):AV:=.agg [.int .i64 x.1,.int .i64 x.2.toNat]
def bu:Bs->Nat->List Li
 |[],_=>[]
 |c::s,i=>if c=45 then bu s (i+1)else(i,c)::bu s (i+1)
def cZ(x:Li)(s:Bs):Bool:=decide (x∈bu s 0)
def eO(x:Li):Fm:=⟨2,if x.2=48 then 2*x.1+1 else 2*x.1,0⟩
theorem aec(a b:Li):cC (.km [.int,.int]) (ew a) (ew b)=some (decide (a=b)):=by
 obtain⟨i,c⟩:=a;obtain⟨j,d⟩:=b;simp only[cC,bM,bV,iH,fR,cE]
 by_cases h1:i=j
 ·subst h1
  by_cases h2:c=d
  ·subst h2;simp
  ·have h3:¬(c.toNat:Int)=d.toNat:=by
    intro h;exact h2 (L0.1 (by omega))
   have h4:((c.toNat:Int)==d.toNat)=false:=xN.2 h3;simp[h2,h4]
 ·have h3:¬(i:Int)=j:=by omega
  have h4:((i:Int)==j)=false:=xN.2 h3;simp[h1,h4]
theorem akO(x:Li)(hx:x.1<2^40):aQ ak Γ FN [ew x] (bm (eO x)):=by
 obtain⟨i,c⟩:=x;simp only at hx;refine .run 60 Zc.1 (by simp) ?_;have e:((c.toNat:Int)=48)=(c=48):=propext ⟨fun h=>L0.1 (by rw[show((48:UInt8).toNat)=48 from rfl];omega),fun h=>by rw[h];rfl⟩
 by_cases h:c=48
 ·simp(disch:=omega) [e,h];exact .back (by simp[eO,h])
 ·simp(disch:=omega) [e,h];exact .back (by simp[eO,h])
theorem G_(s:Bs){h:List Ob}:∀up,AM.Reach ak Γ (.cl y4 [.str s] up h) (.back up (.fn (.func vp) [] [.ptr h.length 0]) (h++[.cells [.str s]])):=by
 intro up;refine .bp 60 Z6.1 ?_;simp
abbrev alm(s:Bs)(i n:Nat)(up:List Fr):List Fr:=⟨.run,sd,[It.j8 (n+3),It.inBlock 0 [],It.code ((aj.av Xh).seq aj.ret)],
 [.str s,.ptr i 0,U,.ptr n 0,U,.str s,.fn (.func vp) [] [.ptr (n+1) 0],U,U,U,U],[.mark (n+2)],.norm,n⟩::up
abbrev alR(s:Bs)(i n:Nat):List Ob:=[.cells [.bool false],.cells [.str s],.bK true,
 .loop .ready .none sd [U,.ptr i 0,U,.ptr n 0,U,U,U,U,U,U,U] [7] (.av Wx) Xq]
def Left(P:Program)(Γ:Nat->Option AV)(c:AM.ar)(up:List Fr)(v:AV)(h:List Ob):Prop:=∃J,AM.Reach P Γ c (.back up v (h++J))
section
variable{P:Program}{c c':AM.ar}{up up':List Fr}{v:AV}{h h':List Ob}
theorem Left.to(h1:AM.Reach P Γ c c')(h2:Left P Γ c' up v h):Left P Γ c up v h:=h2.imp fun _ h3=>.trans h1 h3
theorem Left.aY(n:Nat)(h1:Left P Γ (AM.go P Γ 2 n c) up v h):Left P Γ c up v h:=.to (Reach.goes n c) h1
theorem Left.pop(n:Nat)(h1:Left P Γ (AM.go P Γ 2 n (AM.pop c)) up v h):Left P Γ c up v h:=.to (.pop c) (.aY n h1)
theorem Left.back(J:List Ob):Left P Γ (.back up v (h++J)) up v h:=⟨J,.refl _⟩
theorem Left.aI{fn:FuncId}{its:List It}{t:List AV}{ds:List dO}{kind:FK}{base:Nat}{m:List Bool}{b:aj}
 (h1:Left P Γ (.fr ⟨.run,fn,.code b::.inLoop m b::its,dJ m t,ds,kind,base⟩ up' h') up v h):Left P Γ (.fr ⟨.run,fn,.inLoop m b::its,t,ds,kind,base⟩ up' h') up v h:=.to (AM.Reach.aI (.refl _)) h1
theorem Left.inLoop{fn:FuncId}{its:List It}{t:List AV}{ds:List dO}{kind:FK}{base:Nat}{m:List Bool}{b:aj}
 (h1:Left P Γ (.fr ⟨.run,fn,.code b::.inLoop m b::its,dJ m t,ds,kind,base⟩ up' h') up v h):Left P Γ (.fr ⟨.run,fn,.code (.loop m b)::its,t,ds,kind,base⟩ up' h') up v h:=.to (AM.Reach.inLoop (.refl _)) h1
theorem Left.lF{f:Fr}{h1:List Ob}(n:Nat)(hh:h'.take n=h1)(b1:f.base<=n)(b2:lP n f=true)(b3:cz n h1=true)(h4:Left P Γ (.fr f up' h1) up v h):Left P Γ (.fr f up' h') up v h:=.to (AM.Reach.lF n hh b1 b2 b3 (.refl _)) h4
theorem Left.aX(n:Nat){f:FuncId}{args:List AV}{v0:AV}{h0:List Ob}(h1:∀up,AM.Reach P Γ (.cl f args up h0) (.back up v0 h'))(h2:Left P Γ (AM.go P Γ 2 n (AM.pop (.back up' v0 h'))) up v h):Left P Γ (.cl f args up' h0) up v h:=.to (h1 up') (.pop n h2)
theorem Left.bp(n:Nat){g:FuncId}{F:aF}{args:List AV}(hF:nb P g=some F)(h1:Left P Γ (AM.go P Γ 2 n (.fr ⟨.run,g,[.code F.body],args++List.replicate (F.nt-args.length) .undef,[],.norm,h'.length⟩ up' h')) up v h):Left P Γ (.cl g args up' h') up v h:=.to (zV hF args (.aY n (.refl _))) h1
theorem Left.leave{f:FuncId}{args:List AV}(h1:Left P Γ (.cl f args up h) up v h)(hv:aK h.length v=true)(hw:bN h):AM.Reach P Γ (.cl f args up h) (.back up v h):=by
 obtain⟨J,h2⟩:=h1;have h3:=AM.Reach.leave h2 hv (by rw[tF rfl];exact hw _ (aT _));rw[tF rfl]at h3;exact h3
end
theorem ajS(x:Li)(i:Nat)(s:Bs)(hs:s.length<2^40){h:List Ob}(hi:h[i]? =some (.cells (ew x).cells))(hw:bN h)(up:List Fr):∀n j:Nat,j+n=s.length->
 Left Tryz.prog Γ (Kz (.de (h.length+3)) (.ptr (h.length+1) 0) (.int .i64 s.length) (.int .i64 j) (h++alR s i h.length) ⟨[],.norm,h.length+4,alm s i h.length up⟩) up (.bool (decide (x∈bu (s.drop j) j))) h:=by
 have hc:=bd hi;have hx:h.length+2+1=h.length+3:=rfl
 have hv:∀c:UInt8,IntKind.i64.wrap (c.toNat:Int)=c.toNat:=fun c=>wrap64 (by omega) (by have:=c.toNat_lt;omega)
 have h2:=fun os=>ez hi os
 have hb:=hw (h.length+4) (by omega);intro n
 induction n with
 |zero=>
  intro j hj
  have q1:¬j<s.length:=by omega
  rw[bx (by omega),bu];refine .aY 60 ?_;simp[q1];refine .pop 60 ?_;simp;exact .back _
 |succ n ih=>
  intro j hj
  have q1:j<s.length:=by omega
  have hh:=ih (j+1) (by omega);rw[bJ q1,bu]
  by_cases a:s[j]=45
  ·refine .aY 60 ?_;simp(disch:=omega) [q1,a];refine .aI ?_;simp at hh⊢;exact hh
  ·have e:decide (x∈(if s[j]=45 then bu (s.drop (j+1)) (j+1)else(j,s[j])::bu (s.drop (j+1)) (j+1)))=(decide ((j,s[j])=x)||decide (x∈bu (s.drop (j+1)) (j+1))):=by
    rw[if_neg a,gV];simp only[bj,bD,fL];exact or_congr_left eq_comm
   rw[e];have hq:=aec (j,s[j]) x
   by_cases b:(j,s[j])=x
   ·refine .aY 60 ?_;simp(disch:=omega) [q1,a,h2,kf,hq,b,hv];refine .pop 60 ?_;simp;refine .pop 60 ?_;simp;exact .back _
   ·refine .aY 60 ?_;simp(disch:=omega) [q1,a,h2,kf,hq,b,hv];refine .pop 60 ?_;simp(disch:=omega);refine .aI ?_;simp;refine .lF (h.length+4) (by simp;rfl) (by simp) (by simp) (by simp[hb];omega) ?_;simp at hh⊢;exact hh
theorem Jy(x:Li)(i:Nat)(l:List Bs)(hl:∀s∈l,s.length<2^40):jJ Tryz.prog Γ (fun h=>h[i]? =some (.cells (ew x).cells)/\bN h) sd [.ptr i 0] AV.str (cZ x) l:=by
 refine⟨by simp,fun s hs up h hφ=>?_⟩;obtain⟨hi,hw⟩:=hφ;refine Left.leave ?_ (by simp) hw;have hh:=ajS (Γ:=Γ) x i s (hl s hs) hi hw up s.length 0 (by omega);refine .bp 60 abj.1 ?_;simp;refine .aX 60 (G_ s) ?_;simp;refine .bp 60 FW.1 ?_;simp;refine .inLoop ?_;simp[cZ]at hh⊢;exact hh
theorem Tb(x:Li){h:List Ob}:∀up,AM.Reach ak Γ (.cl B_ [ew x] up h) (.back up (.fn (.func sd) [] [.ptr h.length 0]) (h++[.cells (ew x).cells])):=by
 intro up;refine .bp 60 acv.1 ?_;simp
end Go.Proofs.YtchjijfjidlpjaaGreatDoor
