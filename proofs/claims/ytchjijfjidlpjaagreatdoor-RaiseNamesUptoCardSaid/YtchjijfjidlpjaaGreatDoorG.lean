/- Forms: the reader. -/
import Derived.Test.YtchjijfjidlpjaaGreatDoorF
import Derived.Shelf.Strings.SlTrimAscii
import Derived.Test.YtchjijfjidlpjaaGreatDoorShelf
import Derived.Test.YtchjijfjidlpjaaGreatDoorCode
import Derived.Test.YtchjijfjidlpjaaGreatDoorAMd
import Derived.Laws.RangeString
import Derived.Laws.RangeAny
set_option linter.unusedSimpArgs false
set_option linter.unusedVariables false
namespace Go.Proofs.YtchjijfjidlpjaaGreatDoor
open Go.AM Go.Proofs
variable{Γ:Nat->Option AV}
def fa(n:Int)(x:Fm):Bool:=
 if x.kind=2 then decide (0<=x.lit)&&(decide (x.lit/2<n)&&decide (x.kids=0))
 else if x.kind=3\/x.kind=4 then decide (x.lit=0)&&decide (2<=x.kids)
 else if x.kind=0\/x.kind=1 then decide (x.lit=0)&&decide (x.kids=0)
 else false
def jQ(rd:List Fm->Option (Bool×List Fm))(a:Bool):Nat->Bool->List Fm->Option (Bool×List Fm)
 |0,v,l=>some (v,l)
 |k+1,v,l=>match rd l with
  |none=>none
  |some (w,l')=>jQ rd a k (if a then w&&v else w||v) l'
def kx(n:Int)(val:Int->Bool):Nat->List Fm->Option (Bool×List Fm)
 |0,_=>none
 |_+1,[]=>none
 |f+1,x::l=>if fa n x=true then(if x.kind=2 then some (val x.lit,l)else jQ (kx n val f) (decide (x.kind=3)) x.kids.toNat (decide (x.kind=1)||decide (x.kind=3)) l)else none
section
variable{n:Int}{F:AV}{i:Nat}
end
section
variable{n:Int}{i:Nat}{φ:List Ob->Prop}{f:FuncId}{caps:List AV}{val:Int->Bool}
end
def G6(n:Int)(val:Int->Bool)(l:List Fm):Option Bool:=
 if l.length<=4000/\0<=n/\n<=4000 then(match kx n val l.length l with
  |some (v,[])=>some v
  |_=>none)else none
def QE:Option Bool->Int
 |some _=>0
 |none=>1
@[simp] theorem avH(v:Bool):QE (some v)=0:=rfl
@[simp] theorem avm:QE none=1:=rfl
def qp(v:List Bool)(a:Int):Bool:=!decide (v.getD (a/2).toNat false=decide (a%2=1))
def mX(rd:Gr->List Fm->Gr×Option (Nat×List Fm)):Nat->Gr->List Nat->List Fm->Gr×Option (List Nat×List Fm)
 |0,x,ks,l=>(x,some (ks,l))
 |k+1,x,ks,l=>ky (rd x l) fun y p=>mX rd k y (ks++[p.1]) p.2
def CD(t:Fm)(y:Gr)(p:List Nat×List Fm):Gr×Option (Nat×List Fm):=g_ (fun c=>(c,p.2)) (if t.kind=3 then mT 0 y p.1 else g_ (·^^^1) (mT 1 y p.1))
def nZ(ins:List Nat):Nat->Gr->List Fm->Gr×Option (Nat×List Fm)
 |0,x,_=>(x,none)
 |_+1,x,[]=>(x,none)
 |f+1,x,t::l=>if t.kind=2 then(x,some (ins.getD (t.lit/2).toNat 0^^^(t.lit%2).toNat,l))
  else if t.kind=0\/t.kind=1 then(x,some (t.kind.toNat,l))
  else ky (mX (nZ ins f) t.kids.toNat x [] l) (CD t)
def G9(x:Gr)(r:Gr×Option (Nat×List Fm)):Prop:=gb x r.1/\∀p,r.2=some p->p.1<r.1.lits
def afn(x:Gr)(r:Gr×Option (List Nat×List Fm)):Prop:=gb x r.1/\∀p,r.2=some p->∀a∈p.1,a<r.1.lits
theorem AT{rd:Gr->List Fm->Gr×Option (Nat×List Fm)}(ins:List Nat)(hr:∀x l,x.Ok->(∀a∈ins,a<x.lits)->G9 x (rd x l)):∀(k:Nat)(x:Gr)(ks:List Nat)(l:List Fm),x.Ok->(∀a∈ins,a<x.lits)->(∀a∈ks,a<x.lits)->afn x (mX rd k x ks l)
 |0,x,ks,l,ok,hi,hk=>⟨.refl ok,fun p hp=>by cases hp;exact hk⟩
 |k+1,x,ks,l,ok,hi,hk=>by
  rw[mX];have h1:=hr x l ok hi
  cases h:rd x l with
  |mk y r=>
   rw[h]at h1
   cases r with
   |none=>exact⟨h1.1,fun p hp=>by cases hp⟩
   |some p=>
    have h2:=h1.2 p rfl
    have:=AT ins hr k y (ks++[p.1]) p.2 h1.1.ok (fun a ha=>oi (hi a ha) h1.1.lits) (fun a ha=>by
     rcases aN.1 ha with ha|ha
     ·exact oi (hk a ha) h1.1.lits
     ·simp only[cq]at ha;subst ha;exact h2)
    exact⟨h1.1.trans this.1,this.2⟩
theorem Zt{t:Fm}{y:Gr}{p:List Nat×List Fm}(ok:y.Ok)(hp:∀a∈p.1,a<y.lits):G9 y (CD t y p):=by
 have h3:j3 y (if t.kind=3 then mT 0 y p.1 else g_ (·^^^1) (mT 1 y p.1)):=by
  split
  ·exact AR (by omega) ok hp
  ·exact(AR (by omega) ok hp).CC (by omega)
 refine⟨h3.1,fun q hq=>?_⟩;simp only[CD,g_,bY]at hq;obtain⟨c,hc,rfl⟩:=hq;exact h3.2 c hc
theorem ab0(x:Gr):2<=x.lits:=by unfold Gr.lits Gr.all Gr.first;omega
theorem Z1(x:Gr):x.lits=2*x.all:=rfl
theorem xj(ins:List Nat):∀(f:Nat)(x:Gr)(l:List Fm),x.Ok->(∀a∈ins,a<x.lits)->G9 x (nZ ins f x l)
 |0,x,l,ok,hi=>⟨.refl ok,fun p hp=>by cases hp⟩
 |f+1,x,[],ok,hi=>⟨.refl ok,fun p hp=>by cases hp⟩
 |f+1,x,t::l,ok,hi=>by
  rw[nZ]
  split
  ·refine⟨.refl ok,fun p hp=>?_⟩
   cases hp
   refine xW (n:=x.all) (by omega) ?_;rw[<-Z1];rw[bj]
   cases h:ins[(t.lit/2).toNat]? with
   |none=>exact xG x
   |some a=>exact hi a (iw h)
  ·split
   ·rename_i h;refine⟨.refl ok,fun p hp=>?_⟩
    cases hp
    have:=ab0 x
    simp only;omega
   ·have h1:=AT ins (xj ins f) t.kids.toNat x [] l ok hi (fun a ha=>by cases ha)
    cases h:mX (nZ ins f) t.kids.toNat x [] l with
    |mk y r=>
     rw[h]at h1
     cases r with
     |none=>exact⟨h1.1,fun p hp=>by cases hp⟩
     |some p=>
      have h2:=Zt (t:=t) h1.1.ok (h1.2 p rfl);exact⟨h1.1.trans h2.1,h2.2⟩
theorem Lq{rd:Gr->List Fm->Gr×Option (Nat×List Fm)}{rf:List Fm->Option (Bool×List Fm)}{b:Bool}(hr:∀x l y c l2 v l3,rd x l=(y,some (c,l2))->rf l=some (v,l3)->l2=l3):∀(k:Nat)(x:Gr)(ks:List Nat)(l:List Fm)(v:Bool){y:Gr}{q:List Nat}{l2:List Fm}{w:Bool}{l3:List Fm},mX rd k x ks l=(y,some (q,l2))->jQ rf b k v l=some (w,l3)->l2=l3
 |0,x,ks,l,v,y,q,l2,w,l3,h1,h2=>by
  rw[mX]at h1;rw[jQ]at h2;cases h1;cases h2;rfl
 |k+1,x,ks,l,v,y,q,l2,w,l3,h1,h2=>by
  rw[mX]at h1;rw[jQ]at h2
  cases h:rd x l with
  |mk z r=>
   rw[h]at h1
   cases r with
   |none=>cases h1
   |some p=>
    cases h3:rf l with
    |none=>rw[h3]at h2;cases h2
    |some u=>
     rw[h3]at h2;obtain⟨c,l4⟩:=p;obtain⟨u1,u2⟩:=u;have:=hr x l z c l4 u1 u2 h h3;subst this;exact Lq hr k z _ _ _ h1 h2
theorem Lb(ins:List Nat)(n:Int)(val:Int->Bool):∀(f:Nat)(x:Gr)(l:List Fm)(y:Gr)(c:Nat)(l2:List Fm)(v:Bool)(l3:List Fm),nZ ins f x l=(y,some (c,l2))->kx n val f l=some (v,l3)->l2=l3
 |0,x,l,y,c,l2,v,l3,h1,h2=>by cases h1
 |f+1,x,[],y,c,l2,v,l3,h1,h2=>by cases h1
 |f+1,x,t::l,y,c,l2,v,l3,h1,h2=>by
  rw[nZ]at h1;rw[kx]at h2
  split at h2
  ·rename_i ho
   split at h2
   ·rename_i k2;rw[if_pos k2]at h1
    cases h1;cases h2;rfl
   ·rename_i k2;rw[if_neg k2]at h1
    split at h1
    ·rename_i k01
     have hk:t.kids=0:=by
      unfold fa at ho;rw[if_neg k2,if_neg (by omega),if_pos k01]at ho;simp at ho;exact ho.2
     rw[hk]at h2
     cases h1
     simp only[Int.toNat_zero,jQ]at h2
     cases h2;rfl
    ·cases h:mX (nZ ins f) t.kids.toNat x [] l with
     |mk z r=>
      rw[h]at h1
      cases r with
      |none=>cases h1
      |some p=>
       obtain⟨q,l4⟩:=p;have:=Lq (Lb ins n val f) _ _ _ _ _ h h2;subst this;simp only[ky,CD,g_,bX,bY]at h1;obtain⟨_,d,_,_,rfl⟩:=h1;rfl
  ·cases h2
def qC:Bs:=[48,49,45]
def mZ(c:UInt8):Bool:=decide (c=48)||(decide (c=49)||decide (c=45))
def tc(n:Nat)(s:Bs):Bool:=s.all mZ&&decide (s.length=n)
theorem acR(c:UInt8):qC.contains c=mZ c:=by
 revert c
 rw[show(∀c:UInt8,qC.contains c=mZ c)↔∀n:Fin 256,qC.contains (UInt8.ofNat n)=mZ (UInt8.ofNat n)from
  ⟨fun h n=>h _,fun h c=>by have:=h ⟨c.toNat,c.toNat_lt⟩;simpa using this⟩]
 decide+kernel
theorem As{α:Type}{p:α->Bool}:∀{l:List α},l.dropWhile p=[]↔∀x∈l,p x=true
 |[]=>by simp
 |a::l=>by
  rw[List.dropWhile_cons]
  cases h:p a with
  |true=>simp[As (l:=l),h]
  |false=>simp[h]
theorem dropWhile_nil{α:Type}(p:α->Bool)(l:List α)(h:∀x∈l.dropWhile p,p x=true):l.dropWhile p=[]:=by
 cases hd:l.dropWhile p with
 |nil=>rfl
 |cons a t=>
  have h1:=List.head_dropWhile_not p (l:=l) (by rw[hd];simp);simp only[hd,List.head_cons]at h1;rw[h a (by rw[hd];simp)]at h1
  cases h1
theorem abh(s:Bs):(Lib.trimS s qC=[])↔s.all mZ=true:=by
 have e:(fun c=>qC.contains c)=mZ:=funext acR;unfold Lib.trimS Lib.trimLeftS Lib.trimRightS;rw[e];constructor
 ·intro h
  have h1:=dropWhile_nil mZ s.reverse fun x hx=>by
   have:=As.1 h x (by simpa using hx);exact this
  have h2:=As.1 h1;rw[dU];intro x hx;exact h2 x (by simpa using hx)
 ·intro h
  have h1:s.reverse.dropWhile mZ=[]:=As.2 fun x hx=>dU.1 h x (by simpa using hx)
  rw[h1];rfl
theorem aeq(s:Bs)(hs:s.length<2^40):aP Tryz.prog Γ D2 [.str s,.str qC] (.str (Lib.trimS s qC)):=by
 refine aP.QJ (by simp) (fun _=>rfl) rfl fun N g h w us _ hV=>?_
 obtain⟨us,rfl,h1⟩:=PZ hV;obtain⟨us,rfl,h2⟩:=PZ h1;obtain rfl:=OG h2;refine(Any.strings_Trim_laid Tryz.adR (by kernel_rfl) ⟨s.toArray⟩ ⟨qC.toArray⟩ w (by simp[ByteArray.size];omega) (by decide) (ascii_of_all (by decide))).mono ?_
 rintro e' w' ⟨rfl,hB⟩
 exact⟨⟨_,rfl,fun _ _=>by simp[V]⟩,hB⟩
theorem afb(s:Bs)(n:Nat)(hs:s.length<2^40):aP Tryz.prog Γ Bh [.str s,.int .i64 n] (.bool (tc n s)):=by
 refine .run 60 YR (by simp) ?_;unfold tc
 by_cases h:s.length=n
 ·have h':(s.length:Int)=n:=by omega
  have hT:=aeq (Γ:=Γ) s hs;unfold qC at hT
  have h2:decide (Lib.trimS s [48,49,45]=[])=s.all mZ:=by
   rw[iB,decide_eq_true_iff];exact abh s
  simp[h,h'];refine .call 60 (by simp) hT ?_;simp[h2];exact .back (by simp[h2,h])
 ·have h':¬(s.length:Int)=n:=by omega
  simp[h,h'];exact .back (by simp[h])
end Go.Proofs.YtchjijfjidlpjaaGreatDoor
namespace Go.Proofs.YtchjijfjidlpjaaGreatDoor
abbrev zg:Nat:=1
abbrev Hw:Nat:=4
theorem Gz:Tryz.prog.globalNamed "internal/strconv.uint64pow10" =some Hw:=by kernel_rfl
end Go.Proofs.YtchjijfjidlpjaaGreatDoor
namespace Go.Proofs.YtchjijfjidlpjaaGreatDoor
open Go.AM Go.Proofs
variable{Γ:Nat->Option AV}
theorem Vh{φ:List Ob->Prop}{f:FuncId}{caps:List AV}{p:(List UInt8)->Bool}{l:List (List UInt8)}{k:Nat}{fl:Bool}(ha:nh Tryz.prog Γ φ f caps AV.str p l)(hk:Kd 1 k l)(hs:l.length<2^60){h:List Ob}(hφ:φ h):
 ∀up,AM.Reach Tryz.prog Γ (.cl wz [.list fl k (l.map AV.str),.fn (.func f) [] caps] up h) (.back up (.int .i64 (iQ p l 0)) h):=by
 intro up
 have key:∀n i:Nat,i+n=l.length->AM.Reach Tryz.prog Γ (ywa (.list fl k (l.map AV.str)) (.fn (.func f) [] caps) (.int .i64 l.length) (.int .i64 i) h ⟨[],.norm,h.length,up⟩) (.back up (.int .i64 (iQ p (l.drop i) i)) h):=by
  intro n
  induction n with
  |zero=>
   intro i hi
   have h1:¬i<l.length:=by omega
   refine .bw 60 ?_;rw[bT (by omega)];simp[h1,iQ]
  |succ n ih=>
   intro i hi
   have h1:i<l.length:=by omega
   obtain rfl:=hk.of h1;have h2:=ha.2 l[i] (bF h1);rw[bZ h1,iQ];have hh:=ih (i+1) (by omega);refine .bw 60 ?_;simp[h1,ha.1];refine .bA 60 (fun up=>h2 up h hφ) ?_
   cases hp:p l[i]with
   |true=>simp(disch:=omega) [hp]
   |false=>
    simp(disch:=omega) [hp];refine .aR ?_;simp at hh⊢;exact hh
 refine .bJ 60 TX ?_;simp;refine .inLoop ?_;have hh:=key l.length 0 (by omega);simp at hh⊢;exact hh
theorem DT{φ:List Ob->Prop}{f:FuncId}{caps:List AV}{p:(List UInt8)->Bool}{l:List (List UInt8)}{k:Nat}{fl:Bool}(ha:nh Tryz.prog Γ φ f caps AV.str p l)(hk:Kd 1 k l)(hs:l.length<2^60){h:List Ob}(hφ:φ h):
 ∀up,AM.Reach Tryz.prog Γ (.cl tH [.list fl k (l.map AV.str),.fn (.func f) [] caps] up h) (.back up (.bool (bC p l)) h):=by
 intro up;refine .bJ 60 TU ?_;simp;refine .bA 60 (Vh ha hk hs hφ) ?_;have h1:=B0 p l 0
 cases hp:bC p l with
 |true=>rw[hp]at h1;simp at h1;simp[h1]
 |false=>
  rw[hp]at h1
  have h2:¬0<=iQ p l 0:=by rw[h1];simp
  simp[h2]
abbrev p2(a b:Int):AV:=.agg [.int .i64 a,.int .i64 b]
def Hq(n:Int):Option AV:=if 4<=n/\n<=9 then some (p2 2 8)else if n=0\/n=1 then some (p2 0 0)else if n=2\/n=3 then some (p2 1 1)else if n=10 then some (p2 0 8)else none
def eG(Γ:Nat->Option AV):Prop:=∃ks vs,Γ zg=some (.dH ks vs)/\∀n:Int,eT (.sc .int) (.int .i64 n) (ks.zip vs)=some (Hq n)
def j6(op:Int)(n:Nat):Bool:=if 4<=op/\op<=9 then decide (2<=n/\n<=8)else if op=0\/op=1 then decide (n=0)else if op=2\/op=3 then decide (n=1)else false
def hasB(op:Int)(n:Nat):Bool:=if op=10 then decide (n<=8)else j6 op n
def gD(g:Gt):Bool:=
 if g.op=10 then decide (g.ins.length<=8)&&(decide (g.rows.length<=128)&&!bC (fun s=>!tc g.ins.length s) g.rows)else !(decide (0<g.rows.length)||g.off)&&j6 g.op g.ins.length
theorem Bk{ks vs:List AV}(hG:Γ zg=some (.dH ks vs)){op a b:Int}(hF:eT (.sc .int) (.int .i64 op) (ks.zip vs)=some (some (p2 a b)))(n:Int):aP Tryz.prog Γ uA [.int .i64 op,.int .i64 n] (.bool (decide (a<=n)&&decide (n<=b))):=by
 simp only[zg]at hG;refine .run 60 LW (by simp) ?_
 by_cases h:a<=n
 ·simp[hG,hF,h,isKey,bM,cj];exact .back (by simp)
 ·simp[hG,hF,h,isKey,bM,cj];exact .back (by simp)
theorem abV{ks vs:List AV}(hG:Γ zg=some (.dH ks vs)){op:Int}(hF:eT (.sc .int) (.int .i64 op) (ks.zip vs)=some none)(n:Int):aP Tryz.prog Γ uA [.int .i64 op,.int .i64 n] (.bool false):=by
 simp only[zg]at hG;refine .run 60 LW (by simp) ?_;simp[hG,hF,isKey,bM,cj];exact .back (by simp)
theorem afh(hΓ:eG Γ)(op:Int)(n:Nat):aP Tryz.prog Γ uA [.int .i64 op,.int .i64 n] (.bool (hasB op n)):=by
 obtain⟨ks,vs,hG,hF⟩:=hΓ;have h1:=hF op;unfold Hq at h1
 by_cases a:4<=op/\op<=9
 ·rw[if_pos a]at h1
  have e:hasB op n=(decide ((2:Int)<=n)&&decide ((n:Int)<=8)):=by
   unfold hasB j6;rw[if_neg (by omega),if_pos a,iB]
   simp only[ay,aW];omega
  rw[e];exact Bk hG h1 n
 ·rw[if_neg a]at h1
  by_cases b:op=0\/op=1
  ·rw[if_pos b]at h1
   have e:hasB op n=(decide ((0:Int)<=n)&&decide ((n:Int)<=0)):=by
    unfold hasB j6;rw[if_neg (by omega),if_neg a,if_pos b,iB]
    simp only[ay,aW];omega
   rw[e];exact Bk hG h1 n
  ·rw[if_neg b]at h1
   by_cases c:op=2\/op=3
   ·rw[if_pos c]at h1
    have e:hasB op n=(decide ((1:Int)<=n)&&decide ((n:Int)<=1)):=by
     unfold hasB j6;rw[if_neg (by omega),if_neg a,if_neg b,if_pos c,iB]
     simp only[ay,aW];omega
    rw[e];exact Bk hG h1 n
   ·rw[if_neg c]at h1
    by_cases d:op=10
    ·rw[if_pos d]at h1
     have e:hasB op n=(decide ((0:Int)<=n)&&decide ((n:Int)<=8)):=by
      unfold hasB;rw[if_pos d,iB]
      simp only[ay,aW];omega
     rw[e];exact Bk hG h1 n
    ·rw[if_neg d]at h1
     have e:hasB op n=false:=by
      unfold hasB j6;rw[if_neg d,if_neg a,if_neg b,if_neg c]
     rw[e];exact abV hG h1 n
theorem abr(g:Gt)(i:Nat)(hg:zd g):nh Tryz.prog Γ (fun h=>h[i]? =some (.cells (AV.cells (eo g)))) Az [.ptr i 0] AV.str (fun s=>!tc g.ins.length s) g.rows:=by
 refine⟨by simp,fun s hs up h hφ=>?_⟩;refine .bJ 60 WC ?_;simp[hφ];refine .jR 60 (by simp) (afb s g.ins.length (hg.2.2.2.2 s hs)) ?_;simp
theorem P1(hΓ:eG Γ)(g:Gt)(hg:zd g):aP Tryz.prog Γ xk [eo g] (.bool (gD g)):=by
 have b1:=hg.2.1;have b2:=hg.2.2.1;refine .run 60 X2 (by simp) ?_;unfold gD;have hH:=afh hΓ g.op g.ins.length;have hC:=DT (Γ:=Γ) (fl:=false) (abr g 0 hg) g.hr (by omega) (h:=[.cells (AV.cells (eo g))]) rfl
 by_cases ho:g.op=10
 ·simp[ho];rw[ho]at hH;refine .call 60 (by simp) hH ?_;have e:((g.ins.length:Int)<=8)=(g.ins.length<=8):=propext (by omega);have e2:((g.rows.length:Int)<=128)=(g.rows.length<=128):=propext (by omega)
  by_cases h1:g.ins.length<=8
  ·by_cases h2:g.rows.length<=128
   ·simp[hasB,h1,h2,e2];simp[ho]at hC;refine .bA 60 hC ?_;simp;exact .back (by simp)
   ·simp[hasB,h1,h2,e2];exact .back (by simp)
  ·simp[hasB,h1];exact .back (by simp)
 ·simp only[if_neg ho]
  by_cases h1:0<g.rows.length
  ·have e:((0:Int)<g.rows.length)=True:=bU (by omega);simp[ho,h1,e];exact .back (by simp)
  ·have e:((0:Int)<g.rows.length)=False:=kc (by omega)
   cases h2:g.off with
   |true=>
    simp[ho,h1,h2,e];exact .back (by simp)
   |false=>
    have h0:g.rows=[]:=mj.1 (by omega);simp[ho,h0,h2];refine .call 60 (by simp) hH ?_
    cases h3:j6 g.op g.ins.length with
    |false=>
     simp[hasB,ho,h3];exact .back (by simp)
    |true=>
     simp[hasB,ho,h3];simp only[h0,h2,AV.cells,iT]at hC;refine .bA 60 hC ?_;simp[FM];exact .back (by simp)
theorem JZ(l:List (List UInt8)){k:Nat}(hk:Kd 1 k l)(hl:l.length<2^40):aP Tryz.prog Γ wB [.list false k (l.map AV.str)] (.own 1 aw (l.map AV.str)):=by
 refine .run 60 T9 (by simp) ?_
 cases l with
 |nil=>
  simp;refine .either 0 (by simp) (fun b=>?_)
  cases b
  ·refine .go 9 ?_;simp;refine .pR 2 1 aw rfl (by omega) ?_;refine .go 60 ?_;simp;exact .back (by simp)
  ·refine .go 60 ?_;simp;exact .back (by simp)
 |cons x xs=>
  have hk0:k=1:=by
   rcases hk with h|h
   ·exact h
   ·cases h
  subst hk0;simp at hl;simp(disch:=(first|omega|(simp;omega)));exact .back (by simp)
theorem adl(c:Ct)(hc:cB c):∀n i:Nat,i+n=c.af.length->∀l:List Bs,l.length+n<2^40->
 aB Tryz.prog Γ (yle (.sl 2 0 l.length) (.list false c.kG (c.af.map eo)) (.int .i64 c.af.length) (.int .i64 i) [.cells (AV.cells (bW c)),.row 1 aw [] none true false,.row 1 aw (l.map .str) none true false]) (.ret (.own 1 aw ((l++(c.af.drop i).map (·.name)).map .str))):=by
 have hG:=c.hG;have hl:=hc.2.2.2.1;intro n
 induction n with
 |zero=>
  intro i hi l hL
  have q1:¬i<c.af.length:=by omega
  rw[bT (by omega)];refine .go 60 ?_;simp[q1];exact .back (by simp)
 |succ n ih=>
  intro i hi l hL
  have q1:i<c.af.length:=by omega
  have q2:=hG.of q1;have hh:=ih (i+1) (by omega) (l++[c.af[i].name]) (by simp;omega);have e:l++(c.af.drop i).map (·.name)=l++[c.af[i].name]++(c.af.drop (i+1)).map (·.name):=G4 l (·.name) _ q1;rw[e];refine .go 60 ?_;simp(disch:=omega) [q1,q2];refine .aR ?_;simp;refine .drop 3 rfl (by simp) (by simp) (by simp) ?_;refine .reset (i:=2) rfl (by simp) (by simp) (by simp) ?_;simp[q2]at hh⊢;exact hh
theorem acy(c:Ct)(hc:cB c):∀n i:Nat,i+n=c.ah.length->∀l:List Bs,l.length+n<2^39->
 aB Tryz.prog Γ (ylg (.ptr 0 0) (.sl 2 0 l.length) (.list false c.kL (c.ah.map qF)) (.int .i64 c.ah.length) (.int .i64 i) [.cells (AV.cells (bW c)),.row 1 aw [] none true false,.row 1 aw (l.map .str) none true false]) (.ret (.own 1 aw ((l++(c.ah.drop i).map (·.name)++c.af.map (·.name)).map .str))):=by
 have hG:=c.hL;have hl:=hc.2.2.1;have hl2:=hc.2.2.2.1;intro n
 induction n with
 |zero=>
  intro i hi l hL
  have q1:¬i<c.ah.length:=by omega
  have hh:=adl (Γ:=Γ) c hc c.af.length 0 (by omega) l (by omega);rw[bT (by omega)];refine .go 60 ?_;simp[q1];refine .inLoop ?_;simp at hh⊢;exact hh
 |succ n ih=>
  intro i hi l hL
  have q1:i<c.ah.length:=by omega
  have q2:=hG.of q1;have hh:=ih (i+1) (by omega) (l++[c.ah[i].name]) (by simp;omega);have e:l++(c.ah.drop i).map (·.name)=l++[c.ah[i].name]++(c.ah.drop (i+1)).map (·.name):=G4 l (·.name) _ q1;rw[e];refine .go 60 ?_;simp(disch:=omega) [q1,q2];refine .aR ?_;simp;refine .drop 3 rfl (by simp) (by simp) (by simp) ?_;refine .reset (i:=2) rfl (by simp) (by simp) (by simp) ?_;simp[q2]at hh⊢;exact hh
theorem PI(c:Ct)(hc:cB c):aP Tryz.prog Γ sk [bW c] (.own 1 aw ((aD c).map .str)):=by
 have h1:=hc.1;have h2:=hc.2.2.1;refine .run 60 Yc (by simp) ?_;simp;refine .call 60 (by simp) (JZ c.an c.hI (by omega)) ?_;simp;refine .inLoop ?_;have hh:=acy (Γ:=Γ) c hc c.ah.length 0 (by omega) c.an (by omega);simp[aD]at hh⊢;exact hh
abbrev n6(x:Nat×List (List UInt8)):AV:=.list false x.1 (x.2.map AV.str)
def cg:List (Nat×List (List UInt8))->List (List UInt8)
 |[]=>[]
 |x::xs=>x.2++cg xs
theorem K2(a b:List (Nat×List (List UInt8))):cg (a++b)=cg a++cg b:=by
 induction a with
 |nil=>rfl
 |cons x a ih=>simp[cg,ih]
theorem L7(xs:List (Nat×List (List UInt8)))(i:Nat)(h:i<xs.length):cg (xs.take (i+1))=cg (xs.take i)++xs[i].2:=by
 rw[ke h,K2];simp[cg]
theorem Oy(xs:List (Nat×List (List UInt8)))(i:Nat):(cg (xs.take i)).length<=(cg xs).length:=by
 conv=>rhs;rw[<-mn i xs,K2]
 simp
set_option maxRecDepth 8000 in
theorem JY(xs:List (Nat×List (List UInt8)))(hk:∀x∈xs,Kd 1 x.1 x.2)(hn:xs.length<2^40)(hs:(cg xs).length<2^40)(hp:0<(cg xs).length):
 aP Tryz.prog Γ nG [.list false 1 (xs.map n6)] (.own 1 aw ((cg xs).map AV.str)):=by
 refine .run 60 JX (by simp) ?_
 have key2:∀n i:Nat,i+n=xs.length->∀m:Nat,(cg (xs.take i)).length+m=(cg xs).length->
  aB Tryz.prog Γ (SW (.sl 2 0 (cg (xs.take i)).length) (.list false 1 (xs.map n6)) (.int .i64 xs.length) (.int .i64 i) [.row 1 aw [] none true false,.row 1 aw [] none true false,.row 1 aw ((cg (xs.take i)).map AV.str++List.replicate m (AV.str [])) none true false])
   (.ret (.own 1 aw ((cg xs).map AV.str))):=by
  intro n
  induction n with
  |zero=>
   intro i hi m hm
   have q1:¬i<xs.length:=by omega
   have q2:xs.take i=xs:=cJ (by omega);rw[q2]at hm⊢
   have hm0:m=0:=by omega
   subst hm0;refine .go 60 ?_;simp[q1];exact .back (by simp)
  |succ n ih=>
   intro i hi m hm
   have q1:i<xs.length:=by omega
   have q2:=L7 xs i q1;have q3:=Oy xs (i+1);rw[q2,bq]at q3;have q4:=hk xs[i] (bF q1);have q5:xs[i].1=1\/xs[i].2=[]:=q4;have hh:=ih (i+1) (by omega) (m-xs[i].2.length) (by rw[q2,bq];omega);rw[q2]at hh
   have hd:(List.replicate m (AV.str [])).drop xs[i].2.length=List.replicate (m-xs[i].2.length) (AV.str []):=by simp
   refine .go 60 ?_
   by_cases q6:(cg (xs.take i)).length=(cg xs).length
   ·have q7:xs[i].2=[]:=mj.1 (by omega)
    have hm0:m=0:=by omega
    subst hm0;simp[q7]at hh;simp(disch:=(first|omega|(simp;omega))) [q1,q5,q7];refine .aR ?_;simp;exact hh
   ·simp(disch:=(first|omega|(simp;omega))) [q1,q5]
    by_cases q7:m=0
    ·omega
    ·have c1:¬(cg (List.take i xs)).length=(cg (List.take i xs)).length+m:=by omega
     have c2:(cg (List.take i xs)).length+xs[i].snd.length<=(cg (List.take i xs)).length+m:=by omega
     simp(disch:=(first|omega|(simp;omega))) [q1,q5,c1,c2,q7];refine .aR ?_;have hd0:((cg (xs.take i)).map AV.str).drop ((cg (xs.take i)).length+xs[i].2.length)=[]:=bT (by simp);simp[v8,hd,hd0]at hh⊢;exact hh
 have key1:∀n i:Nat,i+n=xs.length->
  aB Tryz.prog Γ (RC (.list false 1 (xs.map n6)) (.int .i64 (cg (xs.take i)).length) (.list false 1 (xs.map n6)) (.int .i64 xs.length) (.int .i64 i) [.row 1 aw [] none true false])
   (.ret (.own 1 aw ((cg xs).map AV.str))):=by
  intro n
  induction n with
  |zero=>
   intro i hi
   have q1:¬i<xs.length:=by omega
   have q2:xs.take i=xs:=cJ (by omega);have q3:0<(cg xs).length:=hp;have hh:=key2 xs.length 0 (by omega) (cg xs).length (by simp[cg]);refine .go 60 ?_;rw[q2];simp[q1];refine .enter 60 J0 ?_
   have q4:¬(cg xs).length=0:=by omega
   have q5:cg xs≠[]:=fun e=>by rw[e]at hp;simp at hp
   obtain⟨m,hm⟩:∃m,(cg xs).length=m+1:=⟨(cg xs).length-1,by omega⟩
   have hrep:List.replicate (cg xs).length (AV.str [])=(AV.str [])::List.replicate m (AV.str []):=by rw[hm];rfl
   simp(disch:=(first|omega|(simp;omega))) [q3,q4,q5,hrep];refine .inLoop ?_;simp[cg,hrep]at hh⊢;exact hh
  |succ n ih=>
   intro i hi
   have q1:i<xs.length:=by omega
   have q2:=L7 xs i q1;have q3:=Oy xs (i+1);rw[q2,bq]at q3;have hh:=ih (i+1) (by omega);rw[q2]at hh;refine .go 60 ?_
   have q4:¬((cg (xs.take i)).length:Int)+xs[i].2.length<0:=by omega
   simp(disch:=(first|omega|(simp;omega))) [q1,q4];refine .aR ?_;simp at hh⊢;exact hh
 simp;refine .inLoop ?_;have hh:=key1 xs.length 0 (by omega);simp[cg]at hh⊢;exact hh
set_option maxRecDepth 8000 in
theorem JW(xs:List (Nat×List (List UInt8)))(hx:∀x∈xs,x.2=[])(hn:xs.length<2^40):
 aP Tryz.prog Γ nG [.list false 1 (xs.map n6)] (.own 1 aw []):=by
 refine .run 60 JX (by simp) ?_
 have key2:∀n i:Nat,i+n=xs.length->aB Tryz.prog Γ (SW (.list true 0 []) (.list false 1 (xs.map n6)) (.int .i64 xs.length) (.int .i64 i) [.row 1 aw [] none true false,.row 1 aw [] none true false])
  (.ret (.own 1 aw [])):=by
  intro n
  induction n with
  |zero=>
   intro i hi
   have q1:¬i<xs.length:=by omega
   refine .pR 6 1 aw rfl (by omega) ?_;refine .go 60 ?_;simp[q1];exact .back (by simp)
  |succ n ih=>
   intro i hi
   have q1:i<xs.length:=by omega
   have q7:=hx xs[i] (bF q1);have hh:=ih (i+1) (by omega);refine .go 60 ?_;simp(disch:=(first|omega|(simp;omega))) [q1,q7];refine .aR ?_;simp at hh⊢;exact hh
 have key:∀n i:Nat,i+n=xs.length->aB Tryz.prog Γ (RC (.list false 1 (xs.map n6)) (.int .i64 0) (.list false 1 (xs.map n6)) (.int .i64 xs.length) (.int .i64 i) [.row 1 aw [] none true false])
  (.ret (.own 1 aw [])):=by
  intro n
  induction n with
  |zero=>
   intro i hi
   have q1:¬i<xs.length:=by omega
   refine .go 60 ?_;simp[q1];refine .enter 60 J0 ?_;simp;refine .inLoop ?_;have hh:=key2 xs.length 0 (by omega);simp at hh⊢;exact hh
  |succ n ih=>
   intro i hi
   have q1:i<xs.length:=by omega
   have q7:=hx xs[i] (bF q1);have hh:=ih (i+1) (by omega);refine .go 60 ?_;simp(disch:=(first|omega|(simp;omega))) [q1,q7];refine .aR ?_;simp at hh⊢;exact hh
 simp;refine .inLoop ?_;have hh:=key xs.length 0 (by omega);simp at hh⊢;exact hh
theorem T4(xs:List (Nat×List (List UInt8)))(hk:∀x∈xs,Kd 1 x.1 x.2)(hn:xs.length<2^40)(hs:(cg xs).length<2^40):
 aP Tryz.prog Γ nG [.list false 1 (xs.map n6)] (.own 1 aw ((cg xs).map AV.str)):=by
 rcases TK (cg xs).length with h|h
 ·have h0:cg xs=[]:=mj.1 h
  have hx:∀x∈xs,x.2=[]:=by
   clear hk hn hs h
   induction xs with
   |nil=>simp
   |cons y ys ih=>
    simp only[cg,JN]at h0;intro x hx
    rcases bo.1 hx with rfl|hx
    ·exact h0.1
    ·exact ih h0.2 x hx
  rw[h0];exact JW xs hx hn
 ·exact JY xs hk hn hs h
theorem Hc{α β:Type}(a:List β)(f:α->List β)(l:List α){i:Nat}(h:i<l.length):a++(l.drop i).flatMap f=a++f l[i]++(l.drop (i+1)).flatMap f:=by
 rw[bZ h,ou,cM]
def lZ(l:List Gt):List Bs:=l.flatMap (·.ins)
def qg(l:List Lt):List Bs:=l.flatMap fun q=>[q.name,q.next]
def oS(l:List Gt):List Bs:=l.flatMap fun g=>g.name::g.ins
def eU(c:Ct):List Bs:=c.aq++c.ah.map (·.next)++lZ c.af
def qh(c:Ct):List Bs:=c.an++c.aq++qg c.ah++oS c.af
theorem BU{α β:Type}(f:α->List β)(n:Nat):∀l:List α,(∀x∈l,(f x).length<=n)->(l.flatMap f).length<=l.length*n
 |[],_=>by simp
 |x::l,h=>by
  have h1:=BU f n l fun y hy=>h y (dP _ hy)
  have h2:=h x (ov ..);rw[ou,bq,bz,DI];omega
theorem xJ{c:Ct}(hc:cB c):(lZ c.af).length<=2^20:=by
 have h1:=BU (·.ins) (2^10) c.af fun g hg=>by have:=(hc.2.2.2.2.1 g hg).2.1;omega
 have h2:=hc.2.2.2.1;unfold lZ;omega
theorem xF{c:Ct}(hc:cB c):(oS c.af).length<=2^20:=by
 have h1:=BU (fun g:Gt=>g.name::g.ins) (2^10) c.af fun g hg=>by have:=(hc.2.2.2.2.1 g hg).2.1;simp;omega
 have h2:=hc.2.2.2.1;unfold oS;omega
theorem uL{c:Ct}(hc:cB c):(qg c.ah).length<=2^20:=by
 have h1:=BU (fun q:Lt=>[q.name,q.next]) 2 c.ah fun g hg=>by simp
 have h2:=hc.2.2.1;unfold qg;omega
theorem acJ(c:Ct)(hc:cB c):∀n i:Nat,i+n=c.af.length->∀l:List Bs,l.length+(lZ (c.af.drop i)).length<2^40->
 aB Tryz.prog Γ (yok (.sl 2 0 l.length) (.list false c.kG (c.af.map eo)) (.int .i64 c.af.length) (.int .i64 i) [.cells (AV.cells (bW c)),.row 1 aw [] none true false,.row 1 aw (l.map .str) none true false]) (.ret (.own 1 aw ((l++lZ (c.af.drop i)).map .str))):=by
 have hG:=c.hG;have hl:=hc.2.2.1;have hl2:=hc.2.2.2.1;have b1:=xJ hc;have b2:=xF hc;have b3:=uL hc;intro n
 induction n with
 |zero=>
  intro i hi l hL
  have q1:¬i<c.af.length:=by omega
  rw[bT (by omega)];refine .go 60 ?_;simp[q1];exact .back (by simp[lZ])
 |succ n ih=>
  intro i hi l hL
  have q1:i<c.af.length:=by omega
  have q2:=hG.of q1;have q3:=(hc.2.2.2.2.1 c.af[i] (bF q1)).2.1;have q4:=c.af[i].hi;have q5:c.af[i].ki=1\/c.af[i].ins=[]:=q4;have e:l++lZ (c.af.drop i)=l++c.af[i].ins++lZ (c.af.drop (i+1)):=Hc l (fun g:Gt=>g.ins) _ q1;have e2:=congrArg List.length e;simp only[bq,bz,c9]at e2;have hh:=ih (i+1) (by omega) (l++c.af[i].ins) (by simp only[bq,bz,c9];omega);rw[e];refine .go 60 ?_;simp(disch:=omega) [q1,q2,q5];refine .aR ?_;simp;refine .drop 3 rfl (by simp) (by simp) (by simp) ?_;refine .nS (i:=2) rfl (by first|(simp;done)|(by_cases hq:c.af[i].ins=[]<;>simp[hq])) (by simp) (by simp<;>omega) (by simp) ?_;simp[q2]at hh⊢;exact hh
theorem adQ(c:Ct)(hc:cB c):∀n i:Nat,i+n=c.ah.length->∀l:List Bs,l.length+((c.ah.drop i).map (·.next)).length<2^39->
 aB Tryz.prog Γ (yom (.ptr 0 0) (.sl 2 0 l.length) (.list false c.kL (c.ah.map qF)) (.int .i64 c.ah.length) (.int .i64 i) [.cells (AV.cells (bW c)),.row 1 aw [] none true false,.row 1 aw (l.map .str) none true false]) (.ret (.own 1 aw ((l++(c.ah.drop i).map (·.next)++lZ c.af).map .str))):=by
 have hG:=c.hL;have hl:=hc.2.2.1;have hl2:=hc.2.2.2.1;have b1:=xJ hc;have b2:=xF hc;have b3:=uL hc;intro n
 induction n with
 |zero=>
  intro i hi l hL
  have q1:¬i<c.ah.length:=by omega
  have hh:=acJ (Γ:=Γ) c hc c.af.length 0 (by omega) l (by rw[fe];omega);rw[bT (by omega)];refine .go 60 ?_;simp[q1];refine .inLoop ?_;simp at hh⊢;exact hh
 |succ n ih=>
  intro i hi l hL
  have q1:i<c.ah.length:=by omega
  have q2:=hG.of q1;have e:l++(c.ah.drop i).map (·.next)=l++[c.ah[i].next]++(c.ah.drop (i+1)).map (·.next):=G4 l (·.next) _ q1;have e2:=congrArg List.length e;simp only[bq,bz,c9]at e2;have hh:=ih (i+1) (by omega) (l++[c.ah[i].next]) (by simp only[bq,bz,c9];omega);rw[e];refine .go 60 ?_;simp(disch:=omega) [q1,q2];refine .aR ?_;simp;refine .drop 3 rfl (by simp) (by simp) (by simp) ?_;refine .reset (i:=2) rfl (by simp) (by simp) (by simp) ?_;simp[q2]at hh⊢;exact hh
theorem aei(c:Ct)(hc:cB c):aP Tryz.prog Γ uj [bW c] (.own 1 aw ((eU c).map .str)):=by
 have h1:=hc.2.1;have h2:=hc.2.2.1;refine .run 60 X0 (by simp) ?_;simp;refine .call 60 (by simp) (JZ c.aq c.hO (by omega)) ?_;simp;refine .inLoop ?_;have hh:=adQ (Γ:=Γ) c hc c.ah.length 0 (by omega) c.aq (by rw[fe,eb];omega);simp[eU]at hh⊢;exact hh
theorem adi(c:Ct)(hc:cB c):∀n i:Nat,i+n=c.af.length->∀l:List Bs,l.length+(oS (c.af.drop i)).length<2^40->
 aB Tryz.prog Γ (yno (.sl 2 0 l.length) (.list false c.kG (c.af.map eo)) (.int .i64 c.af.length) (.int .i64 i) [.cells (AV.cells (bW c)),.row 1 aw [] none true false,.row 1 aw (l.map .str) none true false]) (.ret (.own 1 aw ((l++oS (c.af.drop i)).map .str))):=by
 have hG:=c.hG;have hl:=hc.2.2.1;have hl2:=hc.2.2.2.1;have b1:=xJ hc;have b2:=xF hc;have b3:=uL hc;intro n
 induction n with
 |zero=>
  intro i hi l hL
  have q1:¬i<c.af.length:=by omega
  rw[bT (by omega)];refine .go 60 ?_;simp[q1];exact .back (by simp[oS])
 |succ n ih=>
  intro i hi l hL
  have q1:i<c.af.length:=by omega
  have q2:=hG.of q1;have q3:=(hc.2.2.2.2.1 c.af[i] (bF q1)).2.1;have q4:=c.af[i].hi;have q5:c.af[i].ki=1\/c.af[i].ins=[]:=q4;have e:l++oS (c.af.drop i)=l++(c.af[i].name::c.af[i].ins)++oS (c.af.drop (i+1)):=Hc l (fun g:Gt=>g.name::g.ins) _ q1;have e2:=congrArg List.length e;simp only[bq,bz,c9]at e2;have hh:=ih (i+1) (by omega) (l++(c.af[i].name::c.af[i].ins)) (by simp only[bq,bz,c9];omega);rw[e];refine .go 60 ?_;simp(disch:=omega) [q1,q2,q5];refine .dr 60 ?_;simp(disch:=omega) [q1,q2,q5];refine .aR ?_;simp;refine .drop 3 rfl (by simp) (by simp) (by simp) ?_;refine .nS (i:=2) rfl (by first|(simp;done)|(by_cases hq:c.af[i].ins=[]<;>simp[hq])) (by simp) (by simp<;>omega) (by simp) ?_
  have e3:l.length+(c.af[i].ins.length+1)=l.length+1+c.af[i].ins.length:=by omega
  simp[q2,e3]at hh⊢;exact hh
theorem acZ(c:Ct)(hc:cB c):∀n i:Nat,i+n=c.ah.length->∀l:List Bs,l.length+(qg (c.ah.drop i)).length<2^39->
 aB Tryz.prog Γ (ynq (.ptr 0 0) (.sl 2 0 l.length) (.list false c.kL (c.ah.map qF)) (.int .i64 c.ah.length) (.int .i64 i) [.cells (AV.cells (bW c)),.row 1 aw [] none true false,.row 1 aw (l.map .str) none true false]) (.ret (.own 1 aw ((l++qg (c.ah.drop i)++oS c.af).map .str))):=by
 have hG:=c.hL;have hl:=hc.2.2.1;have hl2:=hc.2.2.2.1;have b1:=xJ hc;have b2:=xF hc;have b3:=uL hc;intro n
 induction n with
 |zero=>
  intro i hi l hL
  have q1:¬i<c.ah.length:=by omega
  have hh:=adi (Γ:=Γ) c hc c.af.length 0 (by omega) l (by rw[fe];omega);rw[bT (by omega)];refine .go 60 ?_;simp[q1];refine .inLoop ?_;simp[qg]at hh⊢;exact hh
 |succ n ih=>
  intro i hi l hL
  have q1:i<c.ah.length:=by omega
  have q2:=hG.of q1;have e:l++qg (c.ah.drop i)=l++[c.ah[i].name,c.ah[i].next]++qg (c.ah.drop (i+1)):=Hc l (fun q:Lt=>[q.name,q.next]) _ q1;have e2:=congrArg List.length e;simp only[bq,bz,c9]at e2;have hh:=ih (i+1) (by omega) (l++[c.ah[i].name,c.ah[i].next]) (by simp only[bq,bz,c9];omega);rw[e];refine .go 60 ?_;simp(disch:=omega) [q1,q2];refine .aR ?_;simp;refine .drop 3 rfl (by simp) (by simp) (by simp) ?_;refine .reset (i:=2) rfl (by simp) (by simp) (by simp) ?_;simp[q2]at hh⊢;exact hh
theorem aeW(c:Ct)(hc:cB c):aP Tryz.prog Γ uq [bW c] (.own 1 aw ((qh c).map .str)):=by
 have h1:=hc.1;have h2:=hc.2.1;have h3:=hc.2.2.1;have b3:=uL hc
 have hx:∀x∈[(c.kI,c.an),(c.kO,c.aq)],Kd 1 x.1 x.2:=by
  intro x hx;simp only[bo,mu,ml]at hx
  rcases hx with rfl|rfl
  ·exact c.hI
  ·exact c.hO
 have hx2:cg [(c.kI,c.an),(c.kO,c.aq)]=c.an++c.aq:=by simp[cg]
 have hC:=T4 (Γ:=Γ) [(c.kI,c.an),(c.kO,c.aq)] hx (by simp) (by rw[hx2];simp;omega);rw[hx2]at hC;refine .run 60 Yk (by simp) ?_;simp;refine .call 60 (by simp) hC ?_;simp;refine .inLoop ?_;have hh:=acZ (Γ:=Γ) c hc c.ah.length 0 (by omega) (c.an++c.aq) (by rw[fe,bq];omega);simp[qh]at hh⊢;exact hh
abbrev GX(e:Int)(s:Bs):AV:=.bK Ee (.agg [.int .i64 e,.str s])
theorem sN(e:Int)(s:Bs):aP Tryz.prog Γ oE [.bool true,.int .i64 e,.str s] (.aE []):=by
 refine .run 60 LH (by simp) ?_;simp;exact .back (by simp)
theorem mw(e:Int)(s:Bs):lP Tryz.prog Γ oE [.bool false,.int .i64 e,.str s] (GX e s):=by
 refine lP.of (hh:=[]) (by simp) (Br LH _ (.go 60 ?_)) (by simp) (by simp);simp
def lK:List Bs->List Bs->Option Bs
 |_,[]=>none
 |seen,s::l=>if s∈seen then some s else lK (seen++[s]) l
def iF(l:List Bs):Option Bs:=lK [] l
abbrev jX(s:Bs):AV×AV:=(.str s,.bool true)
theorem w7(s:Bs):∀l:List Bs,eT (.sc .str) (.str s) (l.map jX)=some (if s∈l then some (.bool true)else none)
 |[]=>rfl
 |a::l=>by
  simp only[bL,eT,cw,fg]
  cases h:(s==a)
  ·have h2:=DF.1 h;simp[w7 s l,h2]
  ·have h2:=eq_of_beq h;simp[h2]
theorem AY{s:Bs}{v:AV}:∀{l:List Bs},s∉l->i_ (.sc .str) (.str s) v (l.map jX)=some (l.map jX++[(.str s,v)])
 |[],_=>rfl
 |a::l,h=>by
  simp only[bo,not_or]at h;simp only[bL,i_,cw,fg];have h2:(s==a)=false:=DF.2 h.1;simp[h2,AY (v:=v) h.2]
@[simp] theorem ZG(n:Nat):∀l:List Bs,gE n (l.map jX)=true
 |[]=>rfl
 |x::r=>by simp[gE,ZG n r]
@[simp] theorem Zj(n m:Nat):∀l:List Bs,n8 n m (l.map jX)=true
 |[]=>rfl
 |x::r=>by simp[Zj n m r]
@[simp] theorem aby(n:Nat)(τ:List Nat):∀l:List Bs,nA n τ (l.map jX)=l.map jX
 |[]=>rfl
 |x::r=>by simp[aby n τ r]
@[simp] theorem aaJ(n:Nat)(τ:List Nat):∀l:List Bs,qE n τ (l.map jX)=true
 |[]=>rfl
 |x::r=>by simp[aaJ n τ r]
def CY(h:List Ob):Prop:=∀m,h.length<=m->cI m h=true
theorem acM(l:List Bs){fl:Bool}{k:Nat}(hk:Kd 1 k l)(hl:l.length<2^40)(h:List Ob)(hw:CY h)(up:List Fr):∀n i:Nat,i+n=l.length->∀seen,lK seen (l.drop i)=none->AM.Reach Tryz.prog Γ
 (Tp (.mp h.length) (.list fl k (l.map .str)) (.int .i64 l.length) (.int .i64 i) (h++[.map (seen.map jX) true]) ⟨[],.norm,h.length,up⟩)
 (.back up (.mp h.length) (h++[.map ((seen++l.drop i).map jX) true])):=by
 intro n
 induction n with
 |zero=>
  intro i hi seen hs
  have q1:¬i<l.length:=by omega
  rw[bT (by omega)];refine .bw 60 ?_;simp[q1]
 |succ n ih=>
  intro i hi seen hs
  have q1:i<l.length:=by omega
  obtain rfl:=hk.of q1;rw[bZ q1]at hs⊢;rw[lK]at hs;have hfi:=w7 l[i] seen;have hbw:=hw (h.length+1) (by omega)
  by_cases hm:l[i]∈seen
  ·rw[if_pos hm]at hs;cases hs
  ·rw[if_neg hm]at hs hfi;have hh:=ih (i+1) (by omega) (seen++[l[i]]) hs;have hput:=AY (v:=.bool true) hm;refine .bw 60 ?_;simp(disch:=omega) [q1,hfi,isKey,bM,cj];refine .jR 60 (by simp) (sN 5 l[i]) ?_;simp(disch:=omega) [hput,isKey,bM,cj];refine .aR ?_;simp at hh⊢;exact hh
theorem XW(l:List Bs){fl:Bool}{k:Nat}(hk:Kd 1 k l)(hl:l.length<2^40)(h:List Ob)(hw:CY h)(up:List Fr)(s0:Bs):∀n i:Nat,i+n=l.length->∀seen,lK seen (l.drop i)=some s0->∃h',AM.Reach Tryz.prog Γ
 (Tp (.mp h.length) (.list fl k (l.map .str)) (.int .i64 l.length) (.int .i64 i) (h++[.map (seen.map jX) true]) ⟨[],.norm,h.length,up⟩)
 (.die up (GX 5 s0) (h++h')):=by
 intro n
 induction n with
 |zero=>
  intro i hi seen hs;rw[bT (by omega)]at hs
  cases hs
 |succ n ih=>
  intro i hi seen hs
  have q1:i<l.length:=by omega
  obtain rfl:=hk.of q1;rw[bZ q1]at hs;rw[lK]at hs;have hfi:=w7 l[i] seen;have hbw:=hw (h.length+1) (by omega)
  by_cases hm:l[i]∈seen
  ·rw[if_pos hm]at hs hfi;obtain rfl:=Option.some.inj hs;refine⟨[.map (seen.map jX) true],?_⟩;refine .bw 60 ?_;simp(disch:=omega) [q1,hfi,isKey,bM,cj];refine .lV 2 (by simp) (mw 5 l[i]) ?_;simp
  ·rw[if_neg hm]at hs hfi;obtain⟨h',hh⟩:=ih (i+1) (by omega) (seen++[l[i]]) hs;refine⟨h',?_⟩;have hput:=AY (v:=.bool true) hm;refine .bw 60 ?_;simp(disch:=omega) [q1,hfi,isKey,bM,cj];refine .jR 60 (by simp) (sN 5 l[i]) ?_;simp(disch:=omega) [hput,isKey,bM,cj];refine .aR ?_;simp at hh⊢;exact hh
theorem PU(l:List Bs){fl:Bool}{k:Nat}(hk:Kd 1 k l)(hl:l.length<2^40)(h:List Ob)(hw:CY h)(ht:iF l=none):∀up,AM.Reach Tryz.prog Γ
 (.cl sg [.list fl k (l.map .str)] up h) (.back up (.mp h.length) (h++[.map (l.map jX) true])):=by
 intro up;refine .bJ 60 LI ?_;simp;refine .inLoop ?_;have hh:=acM (Γ:=Γ) (fl:=fl) l hk hl h hw up l.length 0 (by omega) [] ht;simp at hh⊢;exact hh
theorem Pg(l:List Bs){fl:Bool}{k:Nat}(hk:Kd 1 k l)(hl:l.length<2^40)(h:List Ob)(hw:CY h){s0:Bs}(ht:iF l=some s0):∀up,∃h',AM.Reach Tryz.prog Γ
 (.cl sg [.list fl k (l.map .str)] up h) (.die up (GX 5 s0) (h++h')):=by
 intro up;have hh:=XW (Γ:=Γ) (fl:=fl) l hk hl h hw up s0 l.length 0 (by omega) [] ht;obtain⟨h',hh⟩:=hh;refine⟨h',?_⟩;refine .bJ 60 LI ?_;simp;refine .inLoop ?_;simp at hh⊢;exact hh
def oZ(c:UInt8):Bool:=decide (c<33)||decide (126<c)
def fC(s:List UInt8):Bool:=!bC oZ s&&(decide (1<=s.length)&&decide (s.length<=40))
def qn:List UInt8->Nat->Int
 |[],_=>-1
 |c::s,i=>if oZ c=true then(i:Int)else qn s (i+1)
theorem Na:∀(s:List UInt8)(i:Nat),decide (qn s i<0)=!bC oZ s
 |[],i=>by simp[qn,FM]
 |c::s,i=>by
  rw[qn,lF]
  cases h:oZ c with
  |true=>simp
  |false=>simpa using Na s (i+1)
theorem L6(r:Int):aP Tryz.prog Γ rU [.int .i32 r] (.bool (decide (r<=32)||decide (126<r))):=by
 refine .run 60 Uu (by simp) ?_
 by_cases h:r<=32<;>simp[h]<;>exact .back (by simp[h])
theorem VM{s:List UInt8}{i:Nat}(h:i<s.length)(ha:s[i].toNat<128):Utf8.decode ⟨s.toArray⟩ i=(s[i].toNat,1):=by
 exact decode_ascii ⟨s.toArray⟩ i (show i<s.toArray.size by simpa using h) ha
theorem WM{s:List UInt8}{i:Nat}(h:i<s.length)(ha:128<=s[i].toNat):128<=(Utf8.decode ⟨s.toArray⟩ i).1:=by
 exact(decode_high ⟨s.toArray⟩ i (show i<s.toArray.size by simpa using h) ha).1
set_option maxRecDepth 8000 in
theorem W1(s:List UInt8)(hs:s.length<2^40):aP Tryz.prog Γ wH [.str s,.fn (.func rU) [] [],.bool true] (.int .i64 (qn s 0)):=by
 have key:∀n i:Nat,i+n=s.length->aB Tryz.prog Γ (yyL (.fn (.func rU) [] []) (.bool true) (.it 0) [.iL s i]) (.ret (.int .i64 (qn (s.drop i) i))):=by
  intro n
  induction n with
  |zero=>
   intro i hi;rw[bT (by omega),qn]
   have q1:¬i<s.length:=by omega
   refine .go 60 ?_;simp[q1];exact .back (by simp)
  |succ n ih=>
   intro i hi
   have q1:i<s.length:=by omega
   rw[bZ q1,qn];have hh:=ih (i+1) (by omega)
   by_cases ha:s[i].toNat<128
   ·have hd:=VM q1 ha
    have e:(decide ((s[i].toNat:Int)<=32)||decide (126<(s[i].toNat:Int)))=oZ s[i]:=by
     unfold oZ;simp only[UInt8.lt_iff_toNat_lt,show(33:UInt8).toNat=33 from rfl,show(126:UInt8).toNat=126 from rfl]
     congr 1<;>exact decide_eq_decide.2 (by omega)
    have hc:=L6 (Γ:=Γ) (s[i].toNat:Int);rw[e]at hc;refine .go 60 ?_;simp[q1,hd];refine .call 60 (by simp) hc ?_
    cases ho:oZ s[i]with
    |true=>simp;exact .back (by simp)
    |false=>
     simp;refine .aR ?_;simp at hh⊢;exact hh
   ·have hd:=WM q1 (by omega)
    have ho:oZ s[i]=true:=by unfold oZ;simp only[UInt8.lt_iff_toNat_lt,show(33:UInt8).toNat=33 from rfl,show(126:UInt8).toNat=126 from rfl,fv,aW];omega
    rw[ho];have hc:=L6 (Γ:=Γ) ((Utf8.decode ⟨s.toArray⟩ i).1:Int)
    have e:(decide (((Utf8.decode ⟨s.toArray⟩ i).1:Int)<=32)||decide (126<((Utf8.decode ⟨s.toArray⟩ i).1:Int)))=true:=by
     simp only[fv,aW];right;omega
    rw[e]at hc;refine .go 60 ?_;simp[q1];refine .call 60 (by simp) hc ?_;simp;exact .back (by simp)
 refine .run 60 UE (by simp) ?_;simp;refine .inLoop ?_;have hh:=key s.length 0 (by omega);simp at hh⊢;exact hh
theorem W3(s:List UInt8)(hs:s.length<2^40):aP Tryz.prog Γ Ai [.str s,.fn (.func rU) [] []] (.int .i64 (qn s 0)):=by
 refine .run 60 Uz (by simp) ?_;simp;refine .call 60 (by simp) (W1 s hs) ?_;simp;exact .back (by simp)
theorem adt(s:List UInt8):aP Tryz.prog Γ Ak [.str s] (.bool (fC s)):=by
 refine .run 60 UL (by simp) ?_;unfold fC
 by_cases h0:s=[]
 ·subst h0;simp;exact .back (by simp)
 ·have h1:1<=s.length:=rQ.2 h0;have h0':¬s=[]:=h0
  by_cases h2:s.length<=40
  ·have h2':(s.length:Int)<=40:=by omega
   simp[h0,h2,h2'];refine .call 60 (by simp) (W3 s (by omega)) ?_;have e:=Na s 0;simp[e];exact .back (by simp[h0,h1,h2])
  ·have h2':¬(s.length:Int)<=40:=by omega
   simp[h0,h2,h2'];exact .back (by simp[h2])
theorem P'(s:List UInt8):aP Tryz.prog Γ wX [.str s] (.bool (fC s)):=by
 refine .run 60 WI (by simp) ?_;simp;refine .call 60 (by simp) (adt s) ?_;simp;exact .back (by simp)
theorem U7{φ:List Ob->Prop}{f:FuncId}{caps:List AV}{p:Gt->Bool}{l:List Gt}{k:Nat}{fl:Bool}(ha:nh Tryz.prog Γ φ f caps eo p l)(hk:Kd 5 k l)(hs:l.length<2^60){h:List Ob}(hφ:φ h):
 ∀up,AM.Reach Tryz.prog Γ (.cl wy [.list fl k (l.map eo),.fn (.func f) [] caps] up h) (.back up (.int .i64 (iQ p l 0)) h):=by
 intro up
 have key:∀n i:Nat,i+n=l.length->AM.Reach Tryz.prog Γ (ytB (.list fl k (l.map eo)) (.fn (.func f) [] caps) (.int .i64 l.length) (.int .i64 i) h ⟨[],.norm,h.length,up⟩) (.back up (.int .i64 (iQ p (l.drop i) i)) h):=by
  intro n
  induction n with
  |zero=>
   intro i hi
   have h1:¬i<l.length:=by omega
   refine .bw 60 ?_;rw[bT (by omega)];simp[h1,iQ]
  |succ n ih=>
   intro i hi
   have h1:i<l.length:=by omega
   obtain rfl:=hk.of h1;have h2:=ha.2 l[i] (bF h1);rw[bZ h1,iQ];have hh:=ih (i+1) (by omega);refine .bw 60 ?_;simp[h1,ha.1];refine .bA 60 (fun up=>h2 up h hφ) ?_
   cases hp:p l[i]with
   |true=>simp(disch:=omega) [hp]
   |false=>
    simp(disch:=omega) [hp];refine .aR ?_;simp at hh⊢;exact hh
 refine .bJ 60 TT ?_;simp;refine .inLoop ?_;have hh:=key l.length 0 (by omega);simp at hh⊢;exact hh
theorem J9{φ:List Ob->Prop}{f:FuncId}{caps:List AV}{p:Gt->Bool}{l:List Gt}{k:Nat}{fl:Bool}(ha:nh Tryz.prog Γ φ f caps eo p l)(hk:Kd 5 k l)(hs:l.length<2^60){h:List Ob}(hφ:φ h):
 ∀up,AM.Reach Tryz.prog Γ (.cl Ab [.list fl k (l.map eo),.fn (.func f) [] caps] up h) (.back up (.bool (bC p l)) h):=by
 intro up;refine .bJ 60 TQ ?_;simp;refine .bA 60 (U7 ha hk hs hφ) ?_;have h1:=B0 p l 0
 cases hp:bC p l with
 |true=>rw[hp]at h1;simp at h1;simp[h1]
 |false=>
  rw[hp]at h1
  have h2:¬0<=iQ p l 0:=by rw[h1];simp
  simp[h2]
def sI(g:Gt):Bool:=decide (8<g.ins.length)||decide (128<g.rows.length)
def fI(c:Ct):Bool:=bC sI c.af||(decide (200<c.an.length+c.ah.length+c.af.length)||decide (200<c.aq.length))
def iJ(N:List Bs):List Bs->Int×Bs
 |[]=>(0,[])
 |s::l=>if s∈N then iJ N l else(6,s)
def jW(r:Int×Bs):List Gt->Int×Bs
 |[]=>r
 |g::l=>if gD g=true then jW r l else(1,g.name)
def lU(q:Lt):Bool:=decide (0<=q.init)&&decide (q.init<=2)
def lg(r:Int×Bs):List Lt->Int×Bs
 |[]=>r
 |q::l=>if lU q=true then lg r l else(1,q.name)
def oU(r:Int×Bs):List Bs->Int×Bs
 |[]=>r
 |s::l=>if fC s=true then oU r l else(4,s)
def nn:Option Bs->Int×Bs->Int×Bs
 |some s,_=>(5,s)
 |none,r=>r
def eg(c:Ct):Int×Bs:=
 if fI c=true then(8,[])else oU (nn (iF (aD c)) (nn (iF c.aq) (lg (jW (iJ (aD c) (eU c)) c.af) c.ah))) (qh c)
abbrev te(r:Int×Bs):AV:=.aE [.int .i64 r.1,.str r.2]
theorem acV(g:Gt):aP Tryz.prog Γ wR [eo g] (.bool (sI g)):=by
 refine .run 60 V3 (by simp) ?_;unfold sI;have e1:((8:Int)<g.ins.length)=(8<g.ins.length):=propext (by omega);have e2:((128:Int)<g.rows.length)=(128<g.rows.length):=propext (by omega)
 by_cases h1:8<g.ins.length<;>simp[e1,e2,h1]<;>exact .back (by simp[h1])
theorem Pb(l:List Gt):nh Tryz.prog Γ (fun _=>True) wR [] eo sI l:=by
 refine⟨by simp,fun g hg up h hφ=>?_⟩;exact Reach.QK (by simp) (acV g) (fun _=>rfl) (by simp) up
abbrev CX:Cx:=⟨[.call Aw [.ptr 1 0,.ptr 2 0]],.norm,0,[]⟩
abbrev IN(c:Ct):List Ob:=[.cells (AV.cells (bW c)),.cells [.int .i64 0],.cells [.str []]]
abbrev tj(c:Ct)(N:List Bs):List Ob:=[.cells (AV.cells (bW c)),.cells [.int .i64 0],.cells [.str []],.map (N.map jX) true]
set_option maxRecDepth 8000 in
theorem afx(c:Ct)(N:List Bs)(l:List Bs)(hl:l.length<2^40):∀n i:Nat,i+n=l.length->
 aB Tryz.prog Γ (yhK (.ptr 1 0) (.ptr 2 0) (.mp 3) (.list false 1 (l.map .str)) (.int .i64 l.length) (.int .i64 i) (tj c N) CX) (.ret (te (iJ N (l.drop i)))):=by
 intro n
 induction n with
 |zero=>
  intro i hi
  have q1:¬i<l.length:=by omega
  rw[bT (by omega),iJ];refine .go 160 ?_;simp[q1];exact .back (by simp)
 |succ n ih=>
  intro i hi
  have q1:i<l.length:=by omega
  have hfi:=w7 l[i] N;rw[bZ q1,iJ];have hh:=ih (i+1) (by omega);refine .go 160 ?_
  by_cases hm:l[i]∈N
  ·rw[if_pos hm]at hfi⊢;simp[q1,hfi,isKey,bM,cj];refine .call 160 (by simp) (sN 6 l[i]) ?_;simp(disch:=omega);refine .aR ?_;simp at hh⊢;exact hh
  ·rw[if_neg hm]at hfi⊢;simp[q1,hfi,isKey,bM,cj];refine .lV 160 (by simp) (mw 6 l[i]) ?_;simp;refine .dr 90 ?_;simp;exact .back (by simp)
theorem aef:fU (pa Jv) Jv.length []=[[0,1,2,3,4],[0,2,1,3,4],[0,2,3,1,4],[2,0,1,3,4],[2,0,3,1,4],[2,3,0,1,4]]:=by rfl
set_option maxRecDepth 8000 in
theorem afF(hΓ:eG Γ)(c:Ct)(hc:cB c)(N:List Bs):∀n i:Nat,i+n=c.af.length->
 aB Tryz.prog Γ (yhM (.ptr 0 0) (.ptr 1 0) (.ptr 2 0) (.mp 3) (.list false c.kG (c.af.map eo)) (.int .i64 c.af.length) (.int .i64 i) (tj c N) CX) (.ret (te (jW (iJ N (eU c)) (c.af.drop i)))):=by
 have b:=hc.2.2.2.1;have b1:=xJ hc;have b2:=hc.2.1;have b3:=hc.2.2.1;intro n
 induction n with
 |zero=>
  intro i hi
  have q1:¬i<c.af.length:=by omega
  have hh:=afx (Γ:=Γ) c N (eU c) (by simp only[eU,bq,eb];omega) (eU c).length 0 (by omega);rw[bT (by omega),jW];refine .go 160 ?_;simp[q1];refine .call 1 (by simp) (aei c hc) ?_;simp;refine .trees [92] ?_;refine .drop 4 rfl (by simp) (by simp) (by simp) ?_;refine .go 60 ?_;simp;refine .inLoop ?_;simp at hh⊢;exact hh
 |succ n ih=>
  intro i hi
  have q1:i<c.af.length:=by omega
  have q2:=c.hG.of q1;have hG:=P1 hΓ c.af[i] (hc.2.2.2.2.1 _ (bF q1));rw[bZ q1,jW];have hh:=ih (i+1) (by omega)
  cases hb:gD c.af[i]with
  |true=>
   rw[hb]at hG;refine .go 160 ?_;simp[q1,q2];refine .dr 160 ?_;simp;refine j5.call (by simp) hG ?_;simp;refine j5.call (by simp) (sN 1 c.af[i].name) ?_;simp(disch:=omega);refine .aR ?_;simp;refine .drop 4 rfl (by simp) (by simp) (by simp) ?_;simp[q2,tj]at hh⊢;exact hh
  |false=>
   rw[hb]at hG;refine .go 160 ?_;simp[q1,q2];refine .ogD 60 ?_;rw[aef];intro l hl;simp only[bo,mu,ml]at hl
   rcases hl with rfl|rfl|rfl|rfl|rfl|rfl
   all_goals
    simp;refine .Qr 60 (by simp) hG ?_;simp;refine .lV 160 (by simp) (mw 1 c.af[i].name) ?_;simp;refine .dr 90 ?_;simp;exact .back (by simp)
set_option maxRecDepth 8000 in
theorem afd(hΓ:eG Γ)(c:Ct)(hc:cB c)(N:List Bs):∀n i:Nat,i+n=c.ah.length->
 aB Tryz.prog Γ (yhO (.ptr 0 0) (.ptr 1 0) (.ptr 2 0) (.mp 3) (.list false c.kL (c.ah.map qF)) (.int .i64 c.ah.length) (.int .i64 i) (tj c N) CX) (.ret (te (lg (jW (iJ N (eU c)) c.af) (c.ah.drop i)))):=by
 have b:=hc.2.2.2.1;have b3:=hc.2.2.1;intro n
 induction n with
 |zero=>
  intro i hi
  have q1:¬i<c.ah.length:=by omega
  have hh:=afF (Γ:=Γ) hΓ c hc N c.af.length 0 (by omega);rw[bT (by omega),lg];refine .go 160 ?_;simp[q1];refine .inLoop ?_;simp[tj]at hh⊢;exact hh
 |succ n ih=>
  intro i hi
  have q1:i<c.ah.length:=by omega
  have q2:=c.hL.of q1;rw[bZ q1,lg];have hh:=ih (i+1) (by omega);refine .go 160 ?_
  by_cases h1:0<=c.ah[i].init
  ·by_cases h2:c.ah[i].init<=2
   ·have e:lU c.ah[i]=true:=by simp[lU,h1,h2]
    simp[q1,q2,h1,h2,e];refine .call 160 (by simp) (sN 1 c.ah[i].name) ?_;simp(disch:=omega);refine .aR ?_;simp;refine .drop 4 rfl (by simp) (by simp) (by simp) ?_;simp[q2,tj]at hh⊢;exact hh
   ·have e:lU c.ah[i]=false:=by simp[lU,h2]
    simp[q1,q2,h1,h2,e];refine .lV 160 (by simp) (mw 1 c.ah[i].name) ?_;simp;refine .dr 90 ?_;simp;exact .back (by simp)
  ·have e:lU c.ah[i]=false:=by simp[lU,h1]
   simp[q1,q2,h1,e];refine .lV 160 (by simp) (mw 1 c.ah[i].name) ?_;simp;refine .dr 90 ?_;simp;exact .back (by simp)
theorem aB.QQ{P:Program}(n:Nat){f:FuncId}{args:List AV}{up:List Fr}{h:List Ob}{v:AV}{o:Out}(h1:∀up,∃h',AM.Reach P Γ (.cl f args up h) (.die up v (h++h')))(h2:∀h',aB P Γ (AM.go P Γ 0 n (.die up v (h++h'))) o):aB P Γ (.cl f args up h) o:=by
 obtain⟨h',hr⟩:=h1 up;exact .reach hr (.go n (h2 h'))
set_option maxRecDepth 8000 in
theorem afr(hΓ:eG Γ)(c:Ct)(hc:cB c)(l:List Bs):∀n i:Nat,i+n=l.length->l.length<2^40->
 aB Tryz.prog Γ (yhQ (.ptr 0 0) (.ptr 1 0) (.ptr 2 0) (.list false 1 (l.map .str)) (.int .i64 l.length) (.int .i64 i) (IN c) CX)
  (.ret (te (oU (nn (iF (aD c)) (nn (iF c.aq) (lg (jW (iJ (aD c) (eU c)) c.af) c.ah))) (l.drop i)))):=by
 have b0:=hc.1;have b1:=hc.2.1;have b3:=hc.2.2.1;have b4:=hc.2.2.2.1;intro n
 induction n with
 |zero=>
  intro i hi hL
  have q1:¬i<l.length:=by omega
  have hN:(aD c).length<2^40:=by simp[aD];omega
  rw[bT (by omega),oU];refine .go 160 ?_;simp[q1];refine .call 1 (by simp) (PI c hc) ?_;simp;refine .trees [54] ?_;simp;refine .go 2 ?_;simp
  cases ht:iF (aD c)with
  |some s0=>
   refine aB.QQ 160 (Pg (Γ:=Γ) (fl:=false) (aD c) .self hN _ (by intro m hm;simp) ht) (fun h'=>?_);simp;refine .dr 90 ?_;simp;exact .back (by simp[nn])
  |none=>
   refine .bA 160 (PU (Γ:=Γ) (fl:=false) (aD c) .self hN _ (by intro m hm;simp) ht) ?_;simp
   cases hu:iF c.aq with
   |some s0=>
    refine aB.QQ 160 (Pg (Γ:=Γ) (fl:=false) c.aq c.hO (by omega) _ (by intro m hm;simp) hu) (fun h'=>?_);simp;refine .dr 90 ?_;simp;exact .back (by simp[nn])
   |none=>
    have hh:=afd (Γ:=Γ) hΓ c hc (aD c) c.ah.length 0 (by omega);refine .bA 160 (PU (Γ:=Γ) (fl:=false) c.aq c.hO (by omega) _ (by intro m hm;simp) hu) ?_;simp;refine .inLoop ?_;simp;refine .gc 3 [1] (by simp) (by decide) ?_;simp[tj,nn]at hh⊢;exact hh
 |succ n ih=>
  intro i hi hL
  have q1:i<l.length:=by omega
  rw[bZ q1,oU];have hh:=ih (i+1) (by omega) hL;refine .go 160 ?_;simp[q1];refine .call 160 (by simp) (P' l[i]) ?_
  cases hb:fC l[i]with
  |true=>
   simp;refine .call 160 (by simp) (sN 4 l[i]) ?_;simp(disch:=omega);refine .aR ?_;simp at hh⊢;exact hh
  |false=>
   simp;refine .lV 160 (by simp) (mw 4 l[i]) ?_;simp;refine .dr 90 ?_;simp;exact .back (by simp)
set_option maxRecDepth 8000 in
theorem acO(hΓ:eG Γ)(c:Ct)(hc:cB c):aP Tryz.prog Γ nK [bW c] (te (eg c)):=by
 have b0:=hc.1;have b1:=hc.2.1;have b3:=hc.2.2.1;have b4:=hc.2.2.2.1;have t1:=uL hc;have t2:=xF hc;have hC:=J9 (Γ:=Γ) (fl:=false) (Pb c.af) c.hG (by omega) (h:=IN c) trivial;have e0:((c.an.length:Int)+c.ah.length+c.af.length<=200)=(c.an.length+c.ah.length+c.af.length<=200):=propext (by omega);have e1:((c.aq.length:Int)<=200)=(c.aq.length<=200):=propext (by omega);refine .run 160 KK (by simp) ?_;unfold eg
 by_cases h1:c.an.length+c.ah.length+c.af.length<=200
 ·by_cases h2:c.aq.length<=200
  ·simp(disch:=omega) [e0,e1,h1,h2];refine .bA 160 hC ?_
   cases h3:bC sI c.af with
   |true=>
    have hl:fI c=true:=by simp[fI,h3]
    simp;refine .lV 160 (by simp) (mw 8 []) ?_;simp;refine .dr 90 ?_;simp;exact .back (by simp[hl])
   |false=>
    have hl:fI c=false:=by
     simp only[fI,h3,oo,j_,iz];omega
    have hh:=afr (Γ:=Γ) hΓ c hc (qh c) (qh c).length 0 (by omega) (by simp[qh];omega);simp;refine .call 160 (by simp) (sN 8 []) ?_;simp;refine .call 1 (by simp) (aeW c hc) ?_;simp;refine .trees [42] ?_;simp;refine .drop 3 rfl (by simp) (by simp) (by simp) ?_;refine .go 60 ?_;simp;refine .inLoop ?_;simp[hl]at hh⊢;exact hh
  ·have hl:fI c=true:=by
    simp only[fI,fv,aW];right;right;omega
   simp(disch:=omega) [e0,e1,h1,h2];refine .lV 160 (by simp) (mw 8 []) ?_;simp;refine .dr 90 ?_;simp;exact .back (by simp[hl])
 ·have hl:fI c=true:=by
   simp only[fI,fv,aW];right;left;omega
  simp(disch:=omega) [e0,e1,h1];refine .lV 160 (by simp) (mw 8 []) ?_;simp;refine .dr 90 ?_;simp;exact .back (by simp[hl])
def gG(s:List UInt8):List (List UInt8)->Nat->Int
 |[],_=>-1
 |a::l,i=>if s=a then(i:Int)else gG s l (i+1)
theorem FG(s:List UInt8):∀(l:List (List UInt8))(i:Nat),decide (0<=gG s l i)=l.contains s
 |[],i=>by simp[gG]
 |a::l,i=>by
  rw[gG,List.contains_cons]
  by_cases h:s=a
  ·rw[if_pos h];simp[h]
  ·rw[if_neg h,FG s l (i+1)]
   have:(s==a)=false:=by simpa using h
   rw[this];rfl
theorem NA(l:List (List UInt8))(s:List UInt8){k:Nat}(hk:Kd 1 k l)(hl:l.length<2^40):aP Tryz.prog Γ tJ [.list false k (l.map .str),.str s] (.int .i64 (gG s l 0)):=by
 have key:∀n i:Nat,i+n=l.length->aB Tryz.prog Γ (yjG (.list false k (l.map .str)) (.str s) (.int .i64 l.length) (.int .i64 i) []) (.ret (.int .i64 (gG s (l.drop i) i))):=by
  intro n
  induction n with
  |zero=>
   intro i hi
   have q1:¬i<l.length:=by omega
   rw[bT (by omega),gG];refine .go 60 ?_;simp[q1];exact .back (by simp)
  |succ n ih=>
   intro i hi
   have q1:i<l.length:=by omega
   have q2:=bU (hk.of q1);have hh:=ih (i+1) (by omega);rw[bZ q1,gG];refine .go 60 ?_
   by_cases h:s=l[i]
   ·simp[q1,q2,h];exact .back (by simp)
   ·simp(disch:=omega) [q1,q2,h];refine .aR ?_;simp at hh⊢;exact hh
 refine .run 60 T8 (by simp) ?_;simp;refine .inLoop ?_;have hh:=key l.length 0 (by omega);simp at hh⊢;exact hh
theorem Ea(a b:List (List UInt8)){ka kb:Nat}(ha:Kd 1 ka a)(hb:Kd 1 kb b)(hs:a.length<2^60):aP Tryz.prog Γ sf [.list false ka (a.map .str),.list false kb (b.map .str)] (.bool (decide (a=b))):=by
 refine .run 60 WU (by simp) ?_
 by_cases hl:a.length=b.length
 ·have key:∀n i:Nat,i+n=a.length->aB Tryz.prog Γ (yff (.list false ka (a.map .str)) (.list false kb (b.map .str)) (.int .i64 i) []) (.ret (.bool (decide (a.drop i=b.drop i)))):=by
   intro n
   induction n with
   |zero=>
    intro i hi;refine .go 60 ?_
    have h1:¬i<a.length:=by omega
    have h2:a.drop i=b.drop i:=by rw[bT (by omega),bT (by omega)]
    simp[h1,h2];exact .back (by simp)
   |succ n ih=>
    intro i hi
    have h1:i<a.length:=by omega
    have h2:i<b.length:=by omega
    obtain rfl:=ha.of h1;obtain rfl:=hb.of h2;have h4:=drop_eq h1 h2;refine .go 60 ?_
    by_cases h3:a[i]=b[i]
    ·simp(disch:=omega) [h1,h2,h3,h4];refine .aR ?_;simpa using ih (i+1) (by omega)
    ·simp(disch:=omega) [h1,h2,h3,h4];exact .back (by simp)
  simp[hl];refine .inLoop ?_;simpa[hl]using key a.length 0 (by omega)
 ·have h2:¬a=b:=fun e=>hl (by rw[e])
  simp[hl,h2];exact .back (by simp)
theorem acs{c:Ct}(hc:cB c):(aD c).length<2^12:=by
 have b0:=hc.1;have b3:=hc.2.2.1;have b4:=hc.2.2.2.1
 simp[aD];omega
abbrev Gt.key(g:Gt):Bs×Int×Bool×List Bs×List Bs:=(g.name,g.op,g.off,g.ins,g.rows)
end Go.Proofs.YtchjijfjidlpjaaGreatDoor
namespace Go.Proofs.YtchjijfjidlpjaaGreatDoor
open Go.AM Go.Proofs
theorem sK(a b:List UInt8):cw (.sc .str) (.str a) (.str b)=some (decide (a=b)):=by
 simp only[cw,fg]
 by_cases h:a=b<;>simp[h]
theorem sE(a b:Nat):cw (.sc .int) (.int .i64 a) (.int .i64 b)=some (decide (a=b)):=by
 simp only[cw,fg]
 by_cases h:a=b
 ·simp[h]
 ·have h2:¬(a:Int)=b:=by omega
  simp[h,h2]
section
variable{K:Type}[DecidableEq K]{E:EK}{e:K->AV}(he:∀a b,cw E (e a) (e b)=some (decide (a=b)))
def getM{V:Type}(k:K):List (K×V)->Option V
 |[]=>none
 |(a,v)::l=>if k=a then some v else getM k l
def o6{V:Type}(k:K)(l:List (K×V)):List (K×V):=l.filter fun x=>decide (¬x.1=k)
theorem getM_none{V:Type}{k:K}:∀{l:List (K×V)},getM k l=none↔∀x∈l,¬x.1=k
 |[]=>by simp[getM]
 |(a,v)::l=>by
  rw[getM]
  by_cases h:k=a
  ·rw[if_pos h];simp[h]
  ·rw[if_neg h,getM_none];simp only[bo,JO];exact⟨fun h1=>⟨fun h2=>h h2.symm,h1⟩,fun h1=>h1.2⟩
include he
theorem xd{V:Type}(ev:V->AV)(k:K):∀l:List (K×V),eT E (e k) (l.map fun x=>(e x.1,ev x.2))=some ((getM k l).map ev)
 |[]=>rfl
 |(a,v)::l=>by
  simp only[bL,eT,he,getM]
  by_cases h:k=a
  ·simp[h]
  ·simp only[h,ot,cT];exact xd ev k l
theorem xA{V:Type}(ev:V->AV){k:K}(v:V):∀{l:List (K×V)},getM k l=none->i_ E (e k) (ev v) (l.map fun x=>(e x.1,ev x.2))=some ((l++[(k,v)]).map fun x=>(e x.1,ev x.2))
 |[],_=>rfl
 |(a,u)::l,h=>by
  rw[getM]at h
  by_cases h2:k=a
  ·rw[if_pos h2]at h;cases h
  ·rw[if_neg h2]at h;simp only[bL,i_,he,h2,ot,xA ev v h,dO,ep]
theorem MP{V:Type}(ev:V->AV)(k:K):∀{l:List (K×V)},(l.map (·.1)).Nodup->mW E (e k) (l.map fun x=>(e x.1,ev x.2))=some ((o6 k l).map fun x=>(e x.1,ev x.2))
 |[],_=>rfl
 |(a,u)::l,h=>by
  simp only[bL,kM]at h
  by_cases h2:k=a
  ·subst h2
   have h3:o6 k l=l:=by
    unfold o6;rw[z6];intro x hx
    refine ow fun hn=>h.1 ?_
    rw[<-hn];exact wk hx
   have h4:o6 k ((k,u)::l)=l:=by rw[<-h3];simp[o6]
   simp only[bL,mW,he,decide_true,h4]
  ·have h4:o6 k ((a,u)::l)=(a,u)::o6 k l:=by
    unfold o6;rw[nF,if_pos (by simpa using fun h=>h2 h.symm)]
   simp only[bL,mW,he,h2,ot,MP ev k h.2,dO,h4]
end
end Go.Proofs.YtchjijfjidlpjaaGreatDoor
namespace Go.Proofs.YtchjijfjidlpjaaGreatDoor
open Go.AM Go.Proofs
variable{Γ:Nat->Option AV}
def cf(c:Ct):List (Bs×Nat):=c.af.zipIdx.map fun x=>(x.1.name,x.2)
abbrev lu(x:Bs×Nat):AV×AV:=(.str x.1,.int .i64 x.2)
theorem vc(m:Nat):∀l:List (Bs×Nat),gE m (l.map lu)=true
 |[]=>rfl
 |x::l=>by simp[vc m l]
theorem uV(c:Ct):(cf c).length=c.af.length:=by simp[cf]
theorem xV(c:Ct)(i:Nat)(h:i<c.af.length):(cf c)[i]'(by rw[uV];exact h)=(c.af[i].name,i):=by simp[cf]
theorem abt(c:Ct):(cf c).map (·.1)=c.af.map (·.name):=by
 apply List.ext_getElem
 ·simp[cf]
 ·intro i h1 h2;simp[cf]
theorem Y1{c:Ct}(hd:(c.af.map (·.name)).Nodup){i:Nat}(h:i<c.af.length):getM c.af[i].name ((cf c).take i)=none:=by
 rw[getM_none];intro x hx hn;obtain⟨j,hj,rfl⟩:=eM hx
 have hj':j<i:=by simp at hj;omega
 rw[tx,xV c j (by omega)]at hn
 have h1:(c.af.map (·.name))[j]'(by simp;omega)=(c.af.map (·.name))[i]'(by simp;omega):=by simpa using hn
 have:=(z8 hd).1 h1;omega
set_option maxRecDepth 8000 in
theorem Oi(c:Ct)(hc:cB c)(hd:(c.af.map (·.name)).Nodup){h:List Ob}(hw:cL h)(up:List Fr):
 AM.Reach Tryz.prog Γ (.cl tT [bW c] up h) (.back up (.mp (h.length+1)) (h++[.cells (AV.cells (bW c)),.map ((cf c).map lu) true])):=by
 have hG:=c.hG;have hb:=hw (h.length+2) (by omega)
 have key:∀n i:Nat,i+n=c.af.length->AM.Reach Tryz.prog Γ (ykz (.mp (h.length+1)) (.list false c.kG (c.af.map eo)) (.int .i64 c.af.length) (.int .i64 i) (h++[.cells (AV.cells (bW c)),.map (((cf c).take i).map lu) true]) ⟨[],.norm,h.length,up⟩)
  (.back up (.mp (h.length+1)) (h++[.cells (AV.cells (bW c)),.map ((cf c).map lu) true])):=by
  intro n
  induction n with
  |zero=>
   intro i hi
   have q1:¬i<c.af.length:=by omega
   rw[cJ (by rw[uV];omega)];refine .bw 60 ?_;simp[q1]
  |succ n ih=>
   intro i hi
   have q1:i<c.af.length:=by omega
   have q2:=bU (hG.of q1);have hh:=ih (i+1) (by omega)
   have q3:i<(cf c).length:=by rw[uV];exact q1
   have e1:(cf c).take (i+1)=(cf c).take i++[(c.af[i].name,i)]:=by rw[ke q3,xV c i q1]
   rw[e1]at hh;have hput:=xA (E:=.sc .str) (e:=AV.str) sK (fun n:Nat=>AV.int .i64 n) i (Y1 hd q1);have hbp:=vc (h.length+2) ((cf c).take i++[(c.af[i].name,i)])
   have hi2:i<2^10:=by have:=hc.2.2.2.1;omega
   generalize(cf c).take i=P at*;refine .bw 60 ?_;simp(disch:=omega) [q1,q2,isKey,bM,cj,hput];refine .aR ?_;simp;refine .vf (h.length+2) (by simp;rfl) (by simp) (by simp) (by simp[hb]at hbp⊢;exact hbp) ?_;simp at hh⊢;exact hh
 refine .bJ 60 VF ?_;simp;refine .inLoop ?_;have hh:=key c.af.length 0 (by omega);simp at hh⊢;exact hh
abbrev gL(c:Ct):AV:=.list false c.kG (c.af.map eo)
abbrev tR(p:Nat)(x2 x3 a b c d e f g h i w:AV):List AV:=[U,.ptr p 0,x2,x3,w,U,U,U,U,U,U,U,U,a,b,c,d,e,f,g,h,i]++List.replicate 58 U
abbrev hW(c:Ct)(n:Nat):List Ob:=[.cells [.sl (n+1) 0 c.af.length,.sl (n+2) 0 c.af.length],.row 1 nH (List.replicate c.af.length .cO) none true false,.row 1 jq (List.replicate c.af.length (.list true 0 [])) none true false]
abbrev ph:=List Nat×List Nat
abbrev Jr:List (List Nat):=[[],[0],[1],[2,2],[],[4],[5],[6,6],[3,7],[],[9,8,0,1,2,3,4,5,6,7,8,9]]
abbrev Rx(x:ph):List Nat:=(List.range 11).filter (kY Jr x.1)
def Hi(i:Nat):List Nat->List Nat
 |[]=>[i]
 |a::l=>if i<a then i::a::l else a::Hi i l
def oc(i:Nat)(x:ph):ph:=(Hi i x.1,if i==3||i==7||i==9 then x.2++[i]else x.2)
def nr(y:Nat):List Nat->Nat
 |[]=>0
 |a::l=>if a==y then 0 else(if a==9 then 3 else 1)+nr y l
abbrev sG(c:Ct)(H:List Ob)(j:Nat):AV:=.sl (H.length+j) 0 c.af.length
def yW(c:Ct)(p:Nat)(H:List Ob)(x:ph):Nat->AV
 |0=>.ptr p 3|4=>.ptr p 3|1=>gL c|5=>gL c|2=>.int .i64 c.af.length|6=>.int .i64 c.af.length
 |3=>sG c H (nr 3 x.2)|7=>sG c H (nr 7 x.2)|8=>.agg [sG c H (nr 3 x.2),sG c H (nr 7 x.2)]|9=>.ptr (H.length+nr 9 x.2) 0|_=>.aE []
def zW(c:Ct)(p:Nat)(H:List Ob)(x:ph)(i:Nat):AV:=if x.1.contains i then yW c p H x i else U
def tW(c:Ct)(p:Nat)(x2 x3:AV)(H:List Ob)(x:ph):List AV:=tR p x2 x3 (zW c p H x 0) (zW c p H x 1) (zW c p H x 2) (zW c p H x 3) (zW c p H x 4) (zW c p H x 5) (zW c p H x 6) (zW c p H x 7) (zW c p H x 8) (zW c p H x 9)
def I8(c:Ct)(H:List Ob)(x:ph)(i:Nat):List Ob:=
 if i==3 then[.row 1 nH (List.replicate c.af.length .cO) none true false]else if i==7 then[.row 1 jq (List.replicate c.af.length (.list true 0 [])) none true false]
 else[.cells (if x.1.contains 10 then[sG c H (nr 3 x.2),sG c H (nr 7 x.2)]else[.sl (H.length+(nr 9 x.2+1)) 0 0,.sl (H.length+(nr 9 x.2+2)) 0 0]),.row 1 nH [] none true false,.row 1 jq [] none true false]
def rI(c:Ct)(H:List Ob)(x:ph):List Ob:=H++x.2.flatMap (I8 c H x)
abbrev vE:List ph:=[([],[]),([0],[]),([4],[]),([9],[9]),([0,1],[]),([0,4],[]),([0,9],[9]),([4,5],[]),([4,9],[9]),([0,1,2],[]),([0,1,4],[]),([0,1,9],[9]),([0,4,5],[]),([0,4,9],[9]),([4,5,6],[]),([4,5,9],[9]),([0,1,2,3],[3]),([0,1,2,4],[]),([0,1,2,9],[9]),([0,1,4,5],[]),([0,1,4,9],[9]),([0,4,5,6],[]),([0,4,5,9],[9]),([4,5,6,7],[7]),([4,5,6,9],[9]),([0,1,2,3,4],[3]),([0,1,2,3,9],[3,9]),([0,1,2,3,9],[9,3]),([0,1,2,4,5],[]),([0,1,2,4,9],[9]),([0,1,4,5,6],[]),([0,1,4,5,9],[9]),([0,4,5,6,7],[7]),([0,4,5,6,9],[9]),([4,5,6,7,9],[7,9]),([4,5,6,7,9],[9,7]),([0,1,2,3,4,5],[3]),([0,1,2,3,4,9],[3,9]),([0,1,2,3,4,9],[9,3]),([0,1,2,4,5,6],[]),([0,1,2,4,5,9],[9]),([0,1,4,5,6,7],[7]),([0,1,4,5,6,9],[9]),([0,4,5,6,7,9],[7,9]),([0,4,5,6,7,9],[9,7]),([0,1,2,3,4,5,6],[3]),([0,1,2,3,4,5,9],[3,9]),([0,1,2,3,4,5,9],[9,3]),([0,1,2,4,5,6,7],[7]),([0,1,2,4,5,6,9],[9]),([0,1,4,5,6,7,9],[7,9]),([0,1,4,5,6,7,9],[9,7]),([0,1,2,3,4,5,6,7],[3,7]),([0,1,2,3,4,5,6,7],[7,3]),([0,1,2,3,4,5,6,9],[3,9]),([0,1,2,3,4,5,6,9],[9,3]),([0,1,2,4,5,6,7,9],[7,9]),([0,1,2,4,5,6,7,9],[9,7]),([0,1,2,3,4,5,6,7,8],[3,7]),([0,1,2,3,4,5,6,7,8],[7,3]),([0,1,2,3,4,5,6,7,9],[3,7,9]),([0,1,2,3,4,5,6,7,9],[3,9,7]),([0,1,2,3,4,5,6,7,9],[7,3,9]),([0,1,2,3,4,5,6,7,9],[7,9,3]),([0,1,2,3,4,5,6,7,9],[9,3,7]),([0,1,2,3,4,5,6,7,9],[9,7,3]),([0,1,2,3,4,5,6,7,8,9],[3,7,9]),([0,1,2,3,4,5,6,7,8,9],[3,9,7]),([0,1,2,3,4,5,6,7,8,9],[7,3,9]),([0,1,2,3,4,5,6,7,8,9],[7,9,3]),([0,1,2,3,4,5,6,7,8,9],[9,3,7]),([0,1,2,3,4,5,6,7,8,9],[9,7,3]),([0,1,2,3,4,5,6,7,8,9,10],[3,7,9]),([0,1,2,3,4,5,6,7,8,9,10],[3,9,7]),([0,1,2,3,4,5,6,7,8,9,10],[7,3,9]),([0,1,2,3,4,5,6,7,8,9,10],[7,9,3]),([0,1,2,3,4,5,6,7,8,9,10],[9,3,7]),([0,1,2,3,4,5,6,7,8,9,10],[9,7,3])]
section
variable{c:Ct}{p:Nat}{x2 x3:AV}{H:List Ob}{up:List Fr}{base:Nat}{k:List It}{C:AM.ar}
abbrev AW(Γ:Nat->Option AV)(c:Ct)(p:Nat)(x2 x3:AV)(k:List It)(base:Nat)(up:List Fr)(C:AM.ar)(H:List Ob)(x:ph):Prop:=l8 Tryz.prog Γ Jr C1 nI k [] .norm base up C x.1 (11-x.1.length) (tW c p x2 x3 H x) (rI c H x)
theorem aat:(vE.all fun x=>(decide (x.1.length<11)||(vE.drop 72).contains x)&&(Rx x).all fun i=>(vE.contains (oc i x))&&(i::x.1).isPerm (oc i x).1&&decide ((i::x.1).length=(oc i x).1.length))=true:=by decide+kernel
set_option maxRecDepth 8000 in
theorem af7(hc:cB c)(hp:H[p]? =some (.cells (AV.cells (bW c)))):∀x∈vE,∀i∈Rx x,∃d op,C1.getD i default=⟨d,none,op⟩/\
 (az Tryz.prog Γ (tW c p x2 x3 H x) (rI c H x) op=.val (yW c p H (oc i x) i) (rI c H (oc i x))\/yW c p H (oc i x) i=.aE []/\az Tryz.prog Γ (tW c p x2 x3 H x) (rI c H x) op=.skip (rI c H (oc i x)))/\
 aU (tW c p x2 x3 H x) d (yW c p H (oc i x) i)=tW c p x2 x3 H (oc i x):=by
 have hG:=hc.2.2.2.1
 have hget:=fun os=>gR hp os
 have b8:((c.af.length:Int)*8<=140737488355328/\(c.af.length:Int)<=140737488355328)=True:=bU (by omega);have b24:((c.af.length:Int)*24<=140737488355328/\(c.af.length:Int)<=140737488355328)=True:=bU (by omega)
 repeat' (first|refine TF.2 ⟨?_,?_⟩|exact List.forall_mem_nil _)
 all_goals exact ⟨_,_,rfl,by simp[tW,rI,zW,yW,nr,oc,Hi,I8,hp,hget,b8,b24],rfl⟩
set_option maxRecDepth 8000 in
theorem af6(hw:cI H.length H=true)(hb:base<=H.length)(hp:p<H.length)(h2:aK H.length x2=true)(h3:aK H.length x3=true)(hk:gk H.length k=true)
 (hC:AM.Reach Tryz.prog Γ (.fr ⟨.run,nI,.ops []::k,tR p x2 x3 U U U U U U U U U (.ptr H.length 0),[],.norm,base⟩ up (H++hW c H.length)) C):∀x∈vE.drop 72,AW Γ c p x2 x3 k base up C H x:=by
 have hlt:∀j,(H.length+j<H.length)=False:=fun j=>kc (by omega)
 simp at hC
 repeat' (first|refine TF.2 ⟨?_,?_⟩|exact List.forall_mem_nil _)
 all_goals
  refine .trans (.n9 [13,14,15,16,17,18,19,20,21] _) ?_;simp[oa,tW,rI,zW,yW,nr,I8]
  first
  |refine .l0 H.length [2,0,1] (by simp[mD hw,jo h2,jo h3,hk,hb,hp];done) (by decide) ?_
   simp[mE hw,jm h2,jm h3,hp,hlt];exact hC
  |refine .l0 H.length [1,0,4] (by simp[mD hw,jo h2,jo h3,hk,hb,hp];done) (by decide) ?_
   simp[mE hw,jm h2,jm h3,hp,hlt];exact hC
  |refine .l0 H.length [2,1,0] (by simp[mD hw,jo h2,jo h3,hk,hb,hp];done) (by decide) ?_
   simp[mE hw,jm h2,jm h3,hp,hlt];exact hC
  |refine .l0 H.length [1,4,0] (by simp[mD hw,jo h2,jo h3,hk,hb,hp];done) (by decide) ?_
   simp[mE hw,jm h2,jm h3,hp,hlt];exact hC
  |refine .l0 H.length [0,3,4] (by simp[mD hw,jo h2,jo h3,hk,hb,hp];done) (by decide) ?_
   simp[mE hw,jm h2,jm h3,hp,hlt];exact hC
  |refine .l0 H.length [0,4,3] (by simp[mD hw,jo h2,jo h3,hk,hb,hp];done) (by decide) ?_
   simp[mE hw,jm h2,jm h3,hp,hlt];exact hC
set_option maxRecDepth 8000 in
theorem ace(hc:cB c)(hp:H[p]? =some (.cells (AV.cells (bW c))))(hw:cI H.length H=true)(hb:base<=H.length)(h2:aK H.length x2=true)(h3:aK H.length x3=true)(hk:gk H.length k=true)
 (hC:AM.Reach Tryz.prog Γ (.fr ⟨.run,nI,.ops []::k,tR p x2 x3 U U U U U U U U U (.ptr H.length 0),[],.norm,base⟩ up (H++hW c H.length)) C):
 AM.Reach Tryz.prog Γ (.fr ⟨.run,nI,.code (.fG Jr C1)::k,tR p x2 x3 U U U U U U U U U U,[],.norm,base⟩ up H) C:=by
 have ha:=aat;simp only[dU,ay,fv,DE,List.isPerm_iff,aW]at ha
 have key:∀n,∀x∈vE,11-x.1.length=n->AW Γ c p x2 x3 k base up C H x:=by
  intro n
  induction n with
  |zero=>exact fun x hx hn=>af6 hw hb (ba hp) h2 h3 hk hC x ((ha x hx).1.resolve_left (by omega))
  |succ n ih=>
   intro x hx hn;rw[AW,hn]
   refine .step fun i hi=>?_
   obtain⟨d,op,e1,e2,e3⟩:=af7 hc hp x hx i hi;obtain⟨⟨a1,a2⟩,a3⟩:=(ha x hx).2 i hi;refine⟨d,op,_,_,e1,e2,?_⟩;rw[e3]
   have a4:11-(oc i x).1.length=n:=by simp at a3;omega
   have:=ih _ a1 a4;rw[AW,a4]at this;exact this.perm a2.symm
 have h:=key 11 ([],[]) (by decide) rfl;rw[AW,rI,List.flatMap_nil,eR]at h;exact l8.all h
end
abbrev eK(k:Nat):AV×AV:=(.int .i64 k,.bool true)
def fH(l:List Nat):Ob:=.row 1 av (l.map iN) none true false
def ij(l:List Nat):Ob:=.map (l.map eK) true
def dC(n N m:Nat):List AV:=(List.range m).map (fun i=>AV.mp (n+(3+(N+i))))++List.replicate (N-m) .cO
def fK(n:Nat)(b:List (List Nat)):List AV:=b.mapIdx fun j l=>AV.sl (n+(3+j)) 0 l.length
def hF(n N m:Nat)(b:List (List Nat)):List Ob:=[.cells [.sl (n+1) 0 N,.sl (n+2) 0 N],.row 1 nH (dC n N m) none (decide (m=0)) false,.row 1 jq (fK n b) none (decide (b.length=0)) false]
def hQ(H:List Ob)(nd b:List (List Nat)):List Ob:=H++(hF H.length b.length nd.length b++(b.map fH++nd.map ij))
section
variable{H:List Ob}{nd b:List (List Nat)}
theorem lT:(hQ H nd b).length=H.length+(3+(b.length+nd.length)):=by simp[hQ,hF];omega
theorem G1{i:Nat}(h:i<H.length):(hQ H nd b)[i]? =H[i]? :=by rw[hQ,cz h]
theorem zf(i:Nat):(hQ H nd b)[H.length+i]? =(hF H.length b.length nd.length b++(b.map fH++nd.map ij))[i]? :=by
 rw[hQ,df (by omega)];congr 1;omega
theorem HA:(hQ H nd b)[H.length]? =some (.cells [.sl (H.length+1) 0 b.length,.sl (H.length+2) 0 b.length]):=zf 0
theorem Hv:(hQ H nd b)[H.length+1]? =some (.row 1 nH (dC H.length b.length nd.length) none (decide (nd.length=0)) false):=zf 1
theorem QH:(hQ H nd b)[H.length+2]? =some (.row 1 jq (fK H.length b) none (decide (b.length=0)) false):=zf 2
theorem Hl{k:Nat}(h:k<b.length):(hQ H nd b)[H.length+(3+k)]? =some (fH b[k]):=by
 rw[zf,df (by simp[hF]),cz (by simp[hF];omega)];simp[hF,h]
theorem QO{i:Nat}(h:i<nd.length):(hQ H nd b)[H.length+(3+(b.length+i))]? =some (ij nd[i]):=by
 rw[zf,df (by simp[hF]),df (by simp[hF])];simp[hF,h]
theorem EW{n N m i:Nat}(h:i<m):(dC n N m)[i]? =some (.mp (n+(3+(N+i)))):=by
 rw[dC,cz (by simpa using h)];simp[h]
theorem Bj{n N m:Nat}(h:m<=N):(dC n N m).length=N:=by simp[dC];omega
theorem qY(n:Nat)(b:List (List Nat)):(fK n b).length=b.length:=by simp[fK]
theorem sD{n k:Nat}(h:k<b.length):(fK n b)[k]? =some (.sl (n+(3+k)) 0 b[k].length):=by simp[fK,h]
theorem adH{n k:Nat}(l:List Nat)(h:k<b.length):(fK n b).set k (.sl (n+(3+k)) 0 l.length)=fK n (b.set k l):=by
 apply iy;intro j
 by_cases hj:k=j
 ·subst hj;rw[eL (by rw[qY];exact h),sD (by simpa using h)];simp
 ·rw[dK hj]
  by_cases hjb:j<b.length
  ·rw[sD hjb,sD (by simpa using hjb),JP hj]
  ·rw[fu (by rw[qY];omega),fu (by rw[qY];simp;omega)]
theorem O8{i:Nat}(l:List Nat)(h:i<nd.length):(hQ H nd b).set (H.length+(3+(b.length+i))) (ij l)=hQ H (nd.set i l) b:=by
 have e:H.length+(3+(b.length+i))=H.length+((hF H.length b.length nd.length b).length+((b.map fH).length+i)):=by simp[hF]
 have ap:∀(a c:List Ob)(j:Nat)(o:Ob),(a++c).set (a.length+j) o=a++c.set j o:=fun a c j o=>by
  rw[z_ _ _ (by omega)];congr 2;omega
 rw[hQ,e,ap,ap,ap,hQ,jG,<-qM]
theorem Ce(a c:List Ob)(j:Nat)(o:Ob):(a++c).set (a.length+j) o=a++c.set j o:=by rw[z_ _ _ (by omega)];congr 2;omega
theorem acH{k:Nat}(l:List Nat)(h:k<b.length):((hQ H nd b).set (H.length+(3+k)) (fH l)).set (H.length+2) (.row 1 jq (fK H.length (b.set k l)) none (decide (b.length=0)) false)=hQ H nd (b.set k l):=by
 have e:H.length+(3+k)=H.length+((hF H.length b.length nd.length b).length+k):=by simp[hF]
 have ap:∀(a c:List Ob)(j:Nat)(o:Ob),(a++c).set (a.length+j) o=a++c.set j o:=fun a c j o=>by
  rw[z_ _ _ (by omega)];congr 2;omega
 rw[hQ,e,ap,ap,ap,hQ,jG,show((b.map fH++nd.map ij).set k (fH l))=(b.map fH).set k (fH l)++nd.map ij from Aa _ _ (by simpa using h),<-qM];simp[hF]
theorem OM{n m:Nat}(b:List (List Nat))(h:n+(3+b.length)<=m):aL m (fK n b)=true:=by
 have:∀(l:List (List Nat))(q:Nat),q+(3+l.length)<=m->aL m (l.mapIdx fun j x=>AV.sl (q+(3+j)) 0 x.length)=true:=by
  intro l
  induction l with
  |nil=>intro q _;rfl
  |cons a l ih=>
   intro q hq;simp only[bz]at hq;have h2:=ih (q+1) (by omega)
   have e:(fun(i:Nat) (x:List Nat)=>AV.sl (q+(3+(i+1))) 0 x.length)=fun j x=>AV.sl (q+1+(3+j)) 0 x.length:=by
    funext j x;congr 1;omega
   rw[List.mapIdx_cons,e]
   simp only[aL,h2,aK,po,aW];omega
 exact this b n h
theorem Fh{n N m q:Nat}(h:n+(3+(N+m))<=q):aL q (dC n N m)=true:=by
 have h1:∀l:List Nat,(∀i∈l,i<m)->aL q (l.map fun i=>AV.mp (n+(3+(N+i))))=true:=by
  intro l
  induction l with
  |nil=>intro _;rfl
  |cons a l ih=>
   intro hl;have:=hl a (by simp)
   simp only[bL,aL,aK,ih fun i hi=>hl i (by simp[hi]),po,aW];omega
 have h2:∀k,aL q (List.replicate k AV.cO)=true:=by
  intro k
  induction k with
  |zero=>rfl
  |succ k ih=>simp[lA,ih]
 rw[dC,Ek,h1 _ (fun i hi=>by simpa using hi),h2];rfl
theorem FH(m:Nat):∀b:List (List Nat),cI m (b.map fH)=true
 |[]=>rfl
 |l::b=>by simp[fH,FH m b]
theorem Px(m:Nat):∀l:List Nat,gE m (l.map eK)=true
 |[]=>rfl
 |l::b=>by simp[Px m b]
theorem FR(m:Nat):∀b:List (List Nat),cI m (b.map ij)=true
 |[]=>rfl
 |l::b=>by
  have:=Px m l;simp only[bL,cI,ij,hY,this,rR];exact FR m b
theorem afi(hw:cL H):cL (hQ H nd b):=fun m hm=>by
 rw[lT]at hm;have h1:=hw m (by omega);have h2:=OM (n:=H.length) (m:=m) b (by omega);have h3:=Fh (n:=H.length) (N:=b.length) (m:=nd.length) (q:=m) (by omega);rw[hQ,pC,pC,pC,h1,FH,FR];simp[hF,h2,h3];omega
theorem Gg{n i m:Nat}(b:List (List Nat))(h:∀j(hj:j<b.length),n+(3+j)=i->b[j].length=m):cW i m (fK n b)=true:=by
 have:∀l:List AV,(∀a∈l,ji i m a=true)->cW i m l=true:=by
  intro l
  induction l with
  |nil=>intro _;rfl
  |cons a l ih=>intro hl;simp only[cW,hl a (by simp),ih fun x hx=>hl x (by simp[hx]),oq]
 refine this _ fun a ha=>?_
 obtain⟨j,hj,rfl⟩:=eM ha;rw[qY]at hj
 have e:(fK n b)[j]'(by rw[qY];exact hj)=.sl (n+(3+j)) 0 b[j].length:=by
  have:=sD (n:=n) hj;exact(dd.1 this).2
 rw[e];simp only[ji,fv,iA,DF,iv,mo]
 by_cases hi:n+(3+j)=i
 ·exact .inr (h j hj hi)
 ·exact .inl hi
theorem Fe{n N m i q:Nat}:cW i q (dC n N m)=true:=by
 have:∀l:List AV,(∀a∈l,ji i q a=true)->cW i q l=true:=by
  intro l
  induction l with
  |nil=>intro _;rfl
  |cons a l ih=>intro hl;simp only[cW,hl a (by simp),ih fun x hx=>hl x (by simp[hx]),oq]
 refine this _ fun a ha=>?_
 simp only[dC,aN,b_,dL,TM]at ha
 rcases ha with⟨j,_,rfl⟩|⟨_,rfl⟩<;>rfl
theorem Bm(i m:Nat):∀b:List (List Nat),cH i m (b.map fH)=true
 |[]=>rfl
 |l::b=>by simp[fH,Bm i m b]
theorem P8(i m:Nat):∀l:List Nat,n8 i m (l.map eK)=true
 |[]=>rfl
 |l::b=>by simp[P8 i m b]
theorem BJ(i m:Nat):∀b:List (List Nat),cH i m (b.map ij)=true
 |[]=>rfl
 |l::b=>by
  have:=P8 i m l;simp only[bL,cH,ij,l_,this,rR];exact BJ i m b
theorem jk(i m:Nat):∀a b:List Ob,cH i m (a++b)=(cH i m a&&cH i m b)
 |[],b=>rfl
 |o::a,b=>by simp[cH,jk i m a b,px]
theorem aeK(hv:gp H){k:Nat}(h:k<b.length):cH (H.length+(3+k)) b[k].length (hQ H nd b)=true:=by
 have h1:=hv (H.length+(3+k)) b[k].length (by omega)
 have h2:cW (H.length+(3+k)) b[k].length (fK H.length b)=true:=Gg b fun j hj he=>by
  obtain rfl:j=k:=by omega
  rfl
 have h3:=Fe (n:=H.length) (N:=b.length) (m:=nd.length) (i:=H.length+(3+k)) (q:=b[k].length);rw[hQ,jk,jk,jk,h1,Bm,BJ];simp[hF,h2,h3];omega
end
def lX(n N j:Nat):List AV:=(List.range j).map (fun i=>AV.sl (n+(3+i)) 0 0)++List.replicate (N-j) (.list true 0 [])
def jV(H:List Ob)(N j:Nat):List Ob:=H++([.cells [.sl (H.length+1) 0 N,.sl (H.length+2) 0 N],.row 1 nH (dC H.length N 0) none true false,.row 1 jq (lX H.length N j) none (decide (j=0)) false]++List.replicate j (fH []))
theorem Za(H:List Ob)(N j:Nat):(jV H N j).length=H.length+(3+j):=by simp[jV];omega
theorem aeY(H:List Ob)(N:Nat)(f:Fr)(up:List Fr):∀m j:Nat,j+m=N->AM.Reach Tryz.prog Γ (.fr f up (jV H N j)) (.fr f up (jV H N N)):=by
 intro m
 induction m with
 |zero=>
  intro j hj
  obtain rfl:j=N:=by omega
  exact .refl _
 |succ m ih=>
  intro j hj;have hlen:=Za H N j
  have hi:(jV H N j)[H.length+2]? =some (.row 1 jq (lX H.length N j) none (decide (j=0)) false):=by
   rw[jV,df (by omega),show H.length+2-H.length=2 by omega];rfl
  have hj2:(lX H.length N j)[j]? =some (.list true 0 []):=by
   rw[lX,df (by simp),eb,pt,DC,show N-j=(N-(j+1))+1 by omega,lA];rfl
  have hst:=AM.Reach.BZ (P:=Tryz.prog) (Γ:=Γ) (f:=f) (up:=up) (k:=1) av hi hj2 (by omega);refine .trans hst ?_
  have e:((jV H N j++[Ob.row 1 av [] none true false]).set (H.length+2) (.row 1 jq ((lX H.length N j).set j (.sl (jV H N j).length 0 0)) none false false))=jV H N (j+1):=by
   have e1:(lX H.length N j).set j (.sl (jV H N j).length 0 0)=lX H.length N (j+1):=by
    rw[hlen,lX,z_ _ _ (by simp)]
    have e2:List.replicate (N-j) (AV.list true 0 [])=.list true 0 []::List.replicate (N-(j+1)) (.list true 0 []):=by
     rw[show N-j=(N-(j+1))+1 by omega,lA]
    rw[e2];simp[lX,DG]
   rw[e1,jV,jV,cM,Ce];have e3:List.replicate (j+1) (fH [])=List.replicate j (fH [])++[fH []]:=List.replicate_succ';rw[e3];simp[fH]
  rw[e];exact ih (j+1) (by omega)
theorem Yz(c:Ct)(H:List Ob):jV H c.af.length 0=H++hW c H.length:=by simp[jV,hW,dC,lX]
theorem ZP(H:List Ob)(N:Nat):jV H N N=hQ H [] (List.replicate N []):=by
 have e:lX H.length N N=fK H.length (List.replicate N []):=by
  apply iy;intro j
  by_cases hj:j<N
  ·rw[sD (by simpa using hj)];simp[lX,hj]
  ·rw[fu (by simp[lX];omega),fu (by rw[qY];simp;omega)]
 simp[jV,hQ,hF,e]
theorem NH(k:Nat):∀l:List Nat,eT (.sc .int) (.int .i64 k) (l.map eK)=some (if k∈l then some (.bool true)else none)
 |[]=>rfl
 |a::l=>by
  simp only[bL,eT,sE]
  by_cases h:k=a
  ·simp[h]
  ·simp[h,NH k l]
theorem Ph{k:Nat}:∀{l:List Nat},k∉l->i_ (.sc .int) (.int .i64 k) (.bool true) (l.map eK)=some ((l++[k]).map eK)
 |[],_=>rfl
 |a::l,h=>by
  simp only[bo,not_or]at h;simp only[bL,i_,sE,h.1,ot,Ph h.2,dO,ep]
theorem aeo{c:Ct}{s:Bs}{k:Nat}(h:getM s (cf c)=some k):k<c.af.length:=by
 have:∀l:List (Bs×Nat),getM s l=some k->∃x∈l,x.2=k:=by
  intro l
  induction l with
  |nil=>intro h;cases h
  |cons x l ih=>
   obtain⟨a,v⟩:=x;intro h;rw[getM]at h
   split at h
   ·exact⟨(a,v),by simp,Option.some.inj h⟩
   ·obtain⟨x,h1,h2⟩:=ih h;exact⟨x,by simp[h1],h2⟩
 obtain⟨x,h1,rfl⟩:=this _ h;obtain⟨j,hj,rfl⟩:=eM h1;rw[uV]at hj
 rw[xV c j hj];exact hj
def eX(pl:List (Bs×Nat)):List Bs->List Nat->List Nat
 |[],a=>a
 |s::r,a=>match getM s pl with
  |none=>eX pl r a
  |some k=>eX pl r (if k∈a then a else a++[k])
def jD(pl:List (Bs×Nat))(i:Nat):List Bs->List Nat->List (List Nat)->List (List Nat)
 |[],_,b=>b
 |s::r,a,b=>match getM s pl with
  |none=>jD pl i r a b
  |some k=>jD pl i r (if k∈a then a else a++[k]) (if k∈a then b else b.set k (b.getD k []++[i]))
theorem abR{A:List Ob}{r s:Nat}(h:s≠r)(o o1 o2:Ob):((A.set r o1).set s o2).set r o=(A.set r o).set s o2:=by
 rw[List.set_comm _ _ h,List.set_set]
theorem aes{h:List Ob}{i:Nat}{o:Ob}(hi:h[i]? =some o):h.set i o=h:=by
 apply iy;intro j
 by_cases hj:i=j
 ·subst hj;rw[eL (ba hi),hi]
 ·rw[dK hj]
theorem FE{i m:Nat}{o:Ob}(ho:l_ i m o=true):∀{h:List Ob}(j:Nat),cH i m h=true->cH i m (h.set j o)=true
 |[],_,h1=>h1
 |o'::h,0,h1=>by
  simp only[cH,ay,vZ]at h1⊢;exact⟨ho,h1.2⟩
 |o'::h,j+1,h1=>by
  simp only[cH,ay,rM]at h1⊢;exact⟨h1.1,FE ho j h1.2⟩
set_option maxRecDepth 8000 in
theorem ade(c:Ct)(hc:cB c){H:List Ob}(hw:cL H)(hv:gp H){m0:Nat}(hm:H[m0]? =some (.map ((cf c).map lu) true))(nd:List (List Nat))(i:Nat)(hi:i<c.af.length)(hnd:nd.length=i)(up:List Fr)(base:Nat)(hbase:base<=H.length)(p2:Nat):∀n q:Nat,q+n=c.af[i].ins.length->∀(cur:List Nat)(b:List (List Nat)),b.length=c.af.length->(∀l∈b,l.length<=2^20+i*2^10+q)->
 AM.Reach Tryz.prog Γ (yry (.ptr p2 0) (.mp m0) (.ptr H.length 0) (.int .i64 i) (.list false c.kG (c.af.map eo)) (.int .i64 c.af.length) (.int .i64 i) (.list false c.af[i].ki (c.af[i].ins.map .str)) (.int .i64 c.af[i].ins.length) (.int .i64 q) (hQ H (nd++[cur]) b) ⟨[],.norm,base,up⟩)
  (yrz (.ptr p2 0) (.mp m0) (.ptr H.length 0) (.list false c.kG (c.af.map eo)) (.int .i64 c.af.length) (.int .i64 i) (hQ H (nd++[eX (cf c) (c.af[i].ins.drop q) cur]) (jD (cf c) i (c.af[i].ins.drop q) cur b)) ⟨[],.norm,base,up⟩):=by
 have hiB:i<2^10:=by have:=hc.2.2.2.1;omega
 have hqB:c.af[i].ins.length<2^10:=(hc.2.2.2.2.1 _ (bF hi)).2.1;intro n
 induction n with
 |zero=>
  intro q hq cur b hb hbl
  have q1:¬q<c.af[i].ins.length:=by omega
  rw[bT (by omega),eX,jD];refine .ey 60 ?_;simp[q1];exact .exit rfl rfl
 |succ n ih=>
  intro q hqn cur b hb hbl
  have hq:q<c.af[i].ins.length:=by omega
  have q2:=bU (c.af[i].hi.of hq)
  have hget:(hQ H (nd++[cur]) b)[m0]? =some (.map ((cf c).map lu) true):=by rw[G1 (ba hm)];exact hm
  have hfi:=xd (E:=.sc .str) (e:=AV.str) sK (fun n:Nat=>AV.int .i64 n) c.af[i].ins[q] (cf c);rw[bZ hq,eX,jD]
  cases hk:getM c.af[i].ins[q] (cf c)with
  |none=>
   rw[hk]at hfi;have hh:=ih (q+1) (by omega) cur b hb (fun l hl=>by have:=hbl l hl;omega);refine .ey 60 ?_;simp(disch:=omega) [hq,q2,hget,hfi,isKey,bM,cj];refine .aR ?_;simp at hh⊢;exact hh
  |some k=>
   rw[hk]at hfi;have hkl:=aeo hk
   have hkb:k<b.length:=by omega
   have xw:=HA (H:=H) (nd:=nd++[cur]) (b:=b);have xn:=Hv (H:=H) (nd:=nd++[cur]) (b:=b)
   have hii:i<(nd++[cur]).length:=by simp;omega
   have xm:=QO (H:=H) (b:=b) hii
   have ecur:(nd++[cur])[i]=cur:=by rw[JE (by omega)];simp[hnd]
   have yn:=EW (n:=H.length) (N:=b.length) hii
   have hm1:(nd++[cur]).length=nd.length+1:=by simp
   have yl:=Bj (n:=H.length) (N:=b.length) (m:=nd.length+1) (by omega);have yt:List.take b.length (dC H.length b.length (nd.length+1))=dC H.length b.length (nd.length+1):=cJ (by rw[yl];exact aO _);have fc:=NH k cur;rw[ecur]at xm;rw[hm1]at yn xn;rw[hb]at xm yn xw xn yl yt;obtain⟨_,yn'⟩:=dd.1 yn
   by_cases hkc:k∈cur
   ·rw[if_pos hkc]at fc;have hh:=ih (q+1) (by omega) cur b hb (fun l hl=>by have:=hbl l hl;omega);simp only[if_pos hkc];generalize hQ H (nd++[cur]) b=X at*;refine .ey 60 ?_;simp(disch:=omega) [hq,q2,hget,hfi,isKey,bM,cj,xw,xn,xm,yn,yl,yt,yn',hi,ij,fc];refine .aR ?_;simp at hh⊢;exact hh
   ·rw[if_neg hkc]at fc;have pc:=Ph hkc;have xb:=QH (H:=H) (nd:=nd++[cur]) (b:=b);have xr:=Hl (H:=H) (nd:=nd++[cur]) hkb;have yb:=sD (n:=H.length) hkb
    have hh:=ih (q+1) (by omega) (cur++[k]) (b.set k (b.getD k []++[i])) (by simpa using hb) (fun l hl=>by
     rcases pq hl with h1|h1
     ·have:=hbl l h1;omega
     ·have egd:b.getD k []=b[k]:=by rw[bj,aM hkb];rfl
      have:=hbl _ (bF hkb)
      rw[h1,egd,bq,tA];omega)
    simp only[if_neg hkc]
    have fin:((((hQ H (nd++[cur]) b).set (H.length+(3+(c.af.length+i))) (.map (List.map eK cur++[eK k]) true)).set (H.length+(3+k)) (.row 1 av (List.map iN b[k]++[.int .i64 i]) (some 0) true false)).set (H.length+2) (.row 1 jq ((fK H.length b).set k (.sl (H.length+(3+k)) 0 (b[k].length+1))) none false false))=
     (hQ H (nd++[cur++[k]]) (b.set k (b[k]++[i]))).set (H.length+(3+k)) (.row 1 av (List.map iN b[k]++[.int .i64 i]) (some 0) true false):=by
     have f1:=O8 (H:=H) (b:=b) (cur++[k]) hii;have f2:=acH (H:=H) (nd:=nd++[cur++[k]]) (b[k]++[i]) hkb;have f3:=adH (n:=H.length) (b[k]++[i]) hkb
     have f4:(nd++[cur]).set i (cur++[k])=nd++[cur++[k]]:=by rw[z_ _ _ (by omega)];simp[hnd]
     have f5:ij (cur++[k])=.map (List.map eK cur++[eK k]) true:=by simp[ij]
     have f6:decide (b.length=0)=false:=wx (by omega)
     have f7:(b[k]++[i]).length=b[k].length+1:=by simp
     rw[f4,f5,hb]at f1;rw[f6]at f2;rw[f7]at f3;rw[f1,f3,<-f2,abR (by omega)]
    have vfin:=aeK (H:=H) (nd:=nd++[cur++[k]]) (b:=b.set k (b[k]++[i])) hv (k:=k) (by simpa using hkb);have zget:=Hl (H:=H) (nd:=nd++[cur++[k]]) (b:=b.set k (b[k]++[i])) (k:=k) (by simpa using hkb);have zlen:=lT (H:=H) (nd:=nd++[cur++[k]]) (b:=b.set k (b[k]++[i]));rw[List.getElem_set_self]at vfin zget;have zl:=qY H.length b;have zt:List.take b.length (fK H.length b)=fK H.length b:=cJ (by rw[zl];exact aO _);rw[hb]at xb zl zt;obtain⟨_,yb'⟩:=dd.1 yb;generalize hQ H (nd++[cur]) b=X at*;clear zlen;refine .ey 60 ?_;simp(disch:=omega) [hq,q2,hget,hfi,isKey,bM,cj,xw,xn,xm,yn,yl,yt,yn',hi,ij,fc,pc];refine .Jo 60 ?_
    have d1:¬c.af.length+i=k:=by omega
    have b8:(b[k].length+1)*8<=140737488355328:=by have:=hbl _ (bF hkb);omega
    simp(disch:=omega) [xw,xb,xr,yb,yb',zl,zt,fH,d1,b8];rw[fin];have zlen:=lT (H:=H) (nd:=nd++[cur++[k]]) (b:=b.set k (b[k]++[i]))
    have egd:b.getD k []=b[k]:=by rw[bj,aM hkb];rfl
    rw[egd]at hh
    try rw [egd]
    generalize hQ H (nd++[cur++[k]]) (b.set k (b[k]++[i]))=Z at*
    have zlt:H.length+(3+k)<Z.length:=by rw[zlen];simp;omega
    refine .aR ?_;simp
    refine .oK (i:=H.length+(3+k)) (k:=1) (E:=av) (es:=(b[k]++[i]).map iN) (fl:=true) (sh:=false) (by rw[eL zlt];simp) (by simp;omega) (by simp) (by
     simp only[eb]
     exact FE (by simp[l_]) _ vfin) ?_
    rw[List.set_set,show Ob.row 1 av ((b[k]++[i]).map iN) none true false=fH (b[k]++[i])from rfl,aes zget];simp at hh⊢;exact hh
theorem gp.set{h:List Ob}(hw:gp h){o:Ob}(hb:∀i m,h.length<=i->l_ i m o=true)(j:Nat):gp (h.set j o):=fun i m hi=>by
 rw[jG]at hi;exact FE (hb i m hi) j (hw i m hi)
abbrev Li:Type:=Nat×UInt8
def bQ:Bs->Nat->List Li
 |[],_=>[]
 |c::s,i=>if c=45 then bQ s (i+1)else(i,c)::bQ s (i+1)
def eI(x:Li)(s:Bs):Bool:=decide (x∈bQ s 0)
def gC(x:Li):Fm:=⟨2,if x.2=48 then 2*x.1+1 else 2*x.1,0⟩
def Left(P:Program)(Γ:Nat->Option AV)(c:AM.ar)(up:List Fr)(v:AV)(h:List Ob):Prop:=∃J,AM.Reach P Γ c (.back up v (h++J))
section
variable{P:Program}{c c':AM.ar}{up up':List Fr}{v:AV}{h h':List Ob}
theorem Left.to(h1:AM.Reach P Γ c c')(h2:Left P Γ c' up v h):Left P Γ c up v h:=h2.imp fun _ h3=>.trans h1 h3
theorem Left.bw(n:Nat)(h1:Left P Γ (AM.go P Γ 2 n c) up v h):Left P Γ c up v h:=.to (Reach.goes n c) h1
theorem Left.pop(n:Nat)(h1:Left P Γ (AM.go P Γ 2 n (AM.pop c)) up v h):Left P Γ c up v h:=.to (.pop c) (.bw n h1)
theorem Left.back(J:List Ob):Left P Γ (.back up v (h++J)) up v h:=⟨J,.refl _⟩
theorem Left.inLoop{fn:FuncId}{its:List It}{t:List AV}{ds:List dG}{kind:FK}{base:Nat}{m:List Bool}{b:al}
 (h1:Left P Γ (.fr ⟨.run,fn,.code b::.inLoop m b::its,dj m t,ds,kind,base⟩ up' h') up v h):Left P Γ (.fr ⟨.run,fn,.code (.loop m b)::its,t,ds,kind,base⟩ up' h') up v h:=.to (AM.Reach.inLoop (.refl _)) h1
end
end Go.Proofs.YtchjijfjidlpjaaGreatDoor
