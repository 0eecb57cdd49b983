/- Forms: the reader. -/
import Derived.Test.YtchjijfjidlpjaaGreatDoorF
import Derived.Shelf.Strings.SlTrimAscii
import Derived.Test.YtchjijfjidlpjaaGreatDoorShelf
import Derived.Test.YtchjijfjidlpjaaGreatDoorCode
import Derived.Test.YtchjijfjidlpjaaGreatDoorAMd
import Derived.Laws.RangeString
import Derived.Laws.RangeAny
set_option linter.unusedSimpArgs false
set_option linter.unusedVariables false
namespace Go.Proofs.YtchjijfjidlpjaaGreatDoor
open Go.AM Go.Proofs
variable{Γ:Nat->Option AV}
def ey(n:Int)(x:Fm):Bool:=
 if x.kind=2 then decide (0<=x.lit)&&(decide (x.lit/2<n)&&decide (x.kids=0))
 else if x.kind=3\/x.kind=4 then decide (x.lit=0)&&decide (2<=x.kids)
 else if x.kind=0\/x.kind=1 then decide (x.lit=0)&&decide (x.kids=0)
 else false
def iJ(rd:List Fm->Option (Bool×List Fm))(a:Bool):Nat->Bool->List Fm->Option (Bool×List Fm)
 |0,v,l=>some (v,l)
 |k+1,v,l=>match rd l with
  |none=>none
  |some (w,l')=>iJ rd a k (if a then w&&v else w||v) l'
def jr(n:Int)(val:Int->Bool):Nat->List Fm->Option (Bool×List Fm)
 |0,_=>none
 |_+1,[]=>none
 |f+1,x::l=>if ey n x=true then(if x.kind=2 then some (val x.lit,l)else iJ (jr n val f) (decide (x.kind=3)) x.kids.toNat (decide (x.kind=1)||decide (x.kind=3)) l)else none
section
variable{n:Int}{F:AV}{i:Nat}
end
section
variable{n:Int}{i:Nat}{φ:List Ob->Prop}{f:FuncId}{caps:List AV}{val:Int->Bool}
end
def Fo(n:Int)(val:Int->Bool)(l:List Fm):Option Bool:=
 if l.length<=4000/\0<=n/\n<=4000 then(match jr n val l.length l with
  |some (v,[])=>some v
  |_=>none)else none
def NS:Option Bool->Int
 |some _=>0
 |none=>1
@[simp] theorem aqE(v:Bool):NS (some v)=0:=rfl
@[simp] theorem aqT:NS none=1:=rfl
def ph(v:List Bool)(a:Int):Bool:=!decide (v.getD (a/2).toNat false=decide (a%2=1))
def lJ(rd:Gr->List Fm->Gr×Option (Nat×List Fm)):Nat->Gr->List Nat->List Fm->Gr×Option (List Nat×List Fm)
 |0,x,ks,l=>(x,some (ks,l))
 |k+1,x,ks,l=>nN (rd x l) fun y p=>lJ rd k y (ks++[p.1]) p.2
def AW(t:Fm)(y:Gr)(p:List Nat×List Fm):Gr×Option (Nat×List Fm):=iT (fun c=>(c,p.2)) (if t.kind=3 then qt 0 y p.1 else iT (·^^^1) (qt 1 y p.1))
def mT(ins:List Nat):Nat->Gr->List Fm->Gr×Option (Nat×List Fm)
 |0,x,_=>(x,none)
 |_+1,x,[]=>(x,none)
 |f+1,x,t::l=>if t.kind=2 then(x,some (ins.getD (t.lit/2).toNat 0^^^(t.lit%2).toNat,l))
  else if t.kind=0\/t.kind=1 then(x,some (t.kind.toNat,l))
  else nN (lJ (mT ins f) t.kids.toNat x [] l) (AW t)
def Fs(x:Gr)(r:Gr×Option (Nat×List Fm)):Prop:=fA x r.1/\∀p,r.2=some p->p.1<r.1.lits
def ab0(x:Gr)(r:Gr×Option (List Nat×List Fm)):Prop:=fA x r.1/\∀p,r.2=some p->∀a∈p.1,a<r.1.lits
theorem zb{rd:Gr->List Fm->Gr×Option (Nat×List Fm)}(ins:List Nat)(hr:∀x l,x.Ok->(∀a∈ins,a<x.lits)->Fs x (rd x l)):∀(k:Nat)(x:Gr)(ks:List Nat)(l:List Fm),x.Ok->(∀a∈ins,a<x.lits)->(∀a∈ks,a<x.lits)->ab0 x (lJ rd k x ks l)
 |0,x,ks,l,ok,hi,hk=>⟨.refl ok,fun p hp=>by cases hp;exact hk⟩
 |k+1,x,ks,l,ok,hi,hk=>by
  rw[lJ];have h1:=hr x l ok hi
  cases h:rd x l with
  |mk y r=>
   rw[h]at h1
   cases r with
   |none=>exact⟨h1.1,fun p hp=>by cases hp⟩
   |some p=>
    have h2:=h1.2 p rfl
    have:=zb ins hr k y (ks++[p.1]) p.2 h1.1.ok (fun a ha=>nh (hi a ha) h1.1.lits) (fun a ha=>by
     rcases ba.1 ha with ha|ha
     ·exact nh (hk a ha) h1.1.lits
     ·simp only[cG]at ha;subst ha;exact h2)
    exact⟨h1.1.trans this.1,this.2⟩
theorem WH{t:Fm}{y:Gr}{p:List Nat×List Fm}(ok:y.Ok)(hp:∀a∈p.1,a<y.lits):Fs y (AW t y p):=by
 have h3:iW y (if t.kind=3 then qt 0 y p.1 else iT (·^^^1) (qt 1 y p.1)):=by
  split
  ·exact y6 (by omega) ok hp
  ·exact(y6 (by omega) ok hp).A3 (by omega)
 refine⟨h3.1,fun q hq=>?_⟩;simp only[AW,iT,bN]at hq;obtain⟨c,hc,rfl⟩:=hq;exact h3.2 c hc
theorem X7(x:Gr):2<=x.lits:=by unfold Gr.lits Gr.all Gr.first;omega
theorem W5(x:Gr):x.lits=2*x.all:=rfl
theorem vC(ins:List Nat):∀(f:Nat)(x:Gr)(l:List Fm),x.Ok->(∀a∈ins,a<x.lits)->Fs x (mT ins f x l)
 |0,x,l,ok,hi=>⟨.refl ok,fun p hp=>by cases hp⟩
 |f+1,x,[],ok,hi=>⟨.refl ok,fun p hp=>by cases hp⟩
 |f+1,x,t::l,ok,hi=>by
  rw[mT]
  split
  ·refine⟨.refl ok,fun p hp=>?_⟩
   cases hp
   refine v7 (n:=x.all) (by omega) ?_;rw[<-W5];rw[bz]
   cases h:ins[(t.lit/2).toNat]? with
   |none=>exact zW x
   |some a=>exact hi a (fQ h)
  ·split
   ·rename_i h;refine⟨.refl ok,fun p hp=>?_⟩
    cases hp
    have:=X7 x
    simp only;omega
   ·have h1:=zb ins (vC ins f) t.kids.toNat x [] l ok hi (fun a ha=>by cases ha)
    cases h:lJ (mT ins f) t.kids.toNat x [] l with
    |mk y r=>
     rw[h]at h1
     cases r with
     |none=>exact⟨h1.1,fun p hp=>by cases hp⟩
     |some p=>
      have h2:=WH (t:=t) h1.1.ok (h1.2 p rfl);exact⟨h1.1.trans h2.1,h2.2⟩
theorem JE{rd:Gr->List Fm->Gr×Option (Nat×List Fm)}{rf:List Fm->Option (Bool×List Fm)}{b:Bool}(hr:∀x l y c l2 v l3,rd x l=(y,some (c,l2))->rf l=some (v,l3)->l2=l3):∀(k:Nat)(x:Gr)(ks:List Nat)(l:List Fm)(v:Bool){y:Gr}{q:List Nat}{l2:List Fm}{w:Bool}{l3:List Fm},lJ rd k x ks l=(y,some (q,l2))->iJ rf b k v l=some (w,l3)->l2=l3
 |0,x,ks,l,v,y,q,l2,w,l3,h1,h2=>by
  rw[lJ]at h1;rw[iJ]at h2;cases h1;cases h2;rfl
 |k+1,x,ks,l,v,y,q,l2,w,l3,h1,h2=>by
  rw[lJ]at h1;rw[iJ]at h2
  cases h:rd x l with
  |mk z r=>
   rw[h]at h1
   cases r with
   |none=>cases h1
   |some p=>
    cases h3:rf l with
    |none=>rw[h3]at h2;cases h2
    |some u=>
     rw[h3]at h2;obtain⟨c,l4⟩:=p;obtain⟨u1,u2⟩:=u;have:=hr x l z c l4 u1 u2 h h3;subst this;exact JE hr k z _ _ _ h1 h2
theorem Jq(ins:List Nat)(n:Int)(val:Int->Bool):∀(f:Nat)(x:Gr)(l:List Fm)(y:Gr)(c:Nat)(l2:List Fm)(v:Bool)(l3:List Fm),mT ins f x l=(y,some (c,l2))->jr n val f l=some (v,l3)->l2=l3
 |0,x,l,y,c,l2,v,l3,h1,h2=>by cases h1
 |f+1,x,[],y,c,l2,v,l3,h1,h2=>by cases h1
 |f+1,x,t::l,y,c,l2,v,l3,h1,h2=>by
  rw[mT]at h1;rw[jr]at h2
  split at h2
  ·rename_i ho
   split at h2
   ·rename_i k2;rw[if_pos k2]at h1
    cases h1;cases h2;rfl
   ·rename_i k2;rw[if_neg k2]at h1
    split at h1
    ·rename_i k01
     have hk:t.kids=0:=by
      unfold ey at ho;rw[if_neg k2,if_neg (by omega),if_pos k01]at ho;simp at ho;exact ho.2
     rw[hk]at h2
     cases h1
     simp only[Int.toNat_zero,iJ]at h2
     cases h2;rfl
    ·cases h:lJ (mT ins f) t.kids.toNat x [] l with
     |mk z r=>
      rw[h]at h1
      cases r with
      |none=>cases h1
      |some p=>
       obtain⟨q,l4⟩:=p;have:=JE (Jq ins n val f) _ _ _ _ _ h h2;subst this;simp only[nN,AW,iT,bH,bN]at h1;obtain⟨_,d,_,_,rfl⟩:=h1;rfl
  ·cases h2
def pz:Bs:=[48,49,45]
def lZ(c:UInt8):Bool:=decide (c=48)||(decide (c=49)||decide (c=45))
def uz(n:Nat)(s:Bs):Bool:=s.all lZ&&decide (s.length=n)
theorem aad(c:UInt8):pz.contains c=lZ c:=by
 revert c
 rw[show(∀c:UInt8,pz.contains c=lZ c)↔∀n:Fin 256,pz.contains (UInt8.ofNat n)=lZ (UInt8.ofNat n)from
  ⟨fun h n=>h _,fun h c=>by have:=h ⟨c.toNat,c.toNat_lt⟩;simpa using this⟩]
 decide+kernel
theorem xR{α:Type}{p:α->Bool}:∀{l:List α},l.dropWhile p=[]↔∀x∈l,p x=true
 |[]=>by simp
 |a::l=>by
  rw[List.dropWhile_cons]
  cases h:p a with
  |true=>simp[xR (l:=l),h]
  |false=>simp[h]
theorem dropWhile_nil{α:Type}(p:α->Bool)(l:List α)(h:∀x∈l.dropWhile p,p x=true):l.dropWhile p=[]:=by
 cases hd:l.dropWhile p with
 |nil=>rfl
 |cons a t=>
  have h1:=List.head_dropWhile_not p (l:=l) (by rw[hd];simp);simp only[hd,List.head_cons]at h1;rw[h a (by rw[hd];simp)]at h1
  cases h1
theorem YO(s:Bs):(Lib.trimS s pz=[])↔s.all lZ=true:=by
 have e:(fun c=>pz.contains c)=lZ:=funext aad;unfold Lib.trimS Lib.trimLeftS Lib.trimRightS;rw[e];constructor
 ·intro h
  have h1:=dropWhile_nil lZ s.reverse fun x hx=>by
   have:=xR.1 h x (by simpa using hx);exact this
  have h2:=xR.1 h1;rw[dL];intro x hx;exact h2 x (by simpa using hx)
 ·intro h
  have h1:s.reverse.dropWhile lZ=[]:=xR.2 fun x hx=>dL.1 h x (by simpa using hx)
  rw[h1];rfl
theorem aa0(s:Bs)(hs:s.length<2^40):aN Tryz.prog Γ Cr [.str s,.str pz] (.str (Lib.trimS s pz)):=by
 refine aN.NU (by simp) (fun _=>rfl) rfl fun N g h w us _ hV=>?_
 obtain⟨us,rfl,h1⟩:=Na hV;obtain⟨us,rfl,h2⟩:=Na h1;obtain rfl:=MG h2;refine(Any.strings_Trim_laid Tryz.ZN (by kernel_rfl) ⟨s.toArray⟩ ⟨pz.toArray⟩ w (by simp[ByteArray.size];omega) (by decide) (ascii_of_all (by decide))).mono ?_
 rintro e' w' ⟨rfl,hB⟩
 exact⟨⟨_,rfl,fun _ _=>by simp[V]⟩,hB⟩
theorem ab6(s:Bs)(n:Nat)(hs:s.length<2^40):aN Tryz.prog Γ zq [.str s,.int .i64 n] (.bool (uz n s)):=by
 refine .run 60 W9 (by simp) ?_;unfold uz
 by_cases h:s.length=n
 ·have h':(s.length:Int)=n:=by omega
  have hT:=aa0 (Γ:=Γ) s hs;unfold pz at hT
  have h2:decide (Lib.trimS s [48,49,45]=[])=s.all lZ:=by
   rw[gL,decide_eq_true_iff];exact YO s
  simp[h,h'];refine .call 60 (by simp) hT ?_;simp[h2];exact .back (by simp[h2,h])
 ·have h':¬(s.length:Int)=n:=by omega
  simp[h,h'];exact .back (by simp[h])
end Go.Proofs.YtchjijfjidlpjaaGreatDoor
namespace Go.Proofs.YtchjijfjidlpjaaGreatDoor
abbrev wL:Nat:=1
abbrev FD:Nat:=4
theorem Ex:Tryz.prog.globalNamed "internal/strconv.uint64pow10" =some FD:=by kernel_rfl
end Go.Proofs.YtchjijfjidlpjaaGreatDoor
namespace Go.Proofs.YtchjijfjidlpjaaGreatDoor
open Go.AM Go.Proofs
variable{Γ:Nat->Option AV}
theorem Sq{φ:List Ob->Prop}{f:FuncId}{caps:List AV}{p:(List UInt8)->Bool}{l:List (List UInt8)}{k:Nat}{fl:Bool}(ha:mU Tryz.prog Γ φ f caps AV.str p l)(hk:Kd 1 k l)(hs:l.length<2^60){h:List Ob}(hφ:φ h):
 ∀up,AM.Reach Tryz.prog Γ (.cl u_ [.list fl k (l.map AV.str),.fn (.func f) [] caps] up h) (.back up (.int .i64 (gF p l 0)) h):=by
 intro up
 have key:∀n i:Nat,i+n=l.length->AM.Reach Tryz.prog Γ (yyb (.list fl k (l.map AV.str)) (.fn (.func f) [] caps) (.int .i64 l.length) (.int .i64 i) h ⟨[],.norm,h.length,up⟩) (.back up (.int .i64 (gF p (l.drop i) i)) h):=by
  intro n
  induction n with
  |zero=>
   intro i hi
   have h1:¬i<l.length:=by omega
   refine .du 60 ?_;rw[bq (by omega)];simp[h1,gF]
  |succ n ih=>
   intro i hi
   have h1:i<l.length:=by omega
   obtain rfl:=hk.of h1;have h2:=ha.2 l[i] (bZ h1);rw[br h1,gF];have hh:=ih (i+1) (by omega);refine .du 60 ?_;simp[h1,ha.1];refine .dE 60 (fun up=>h2 up h hφ) ?_
   cases hp:p l[i]with
   |true=>simp(disch:=omega) [hp]
   |false=>
    simp(disch:=omega) [hp];refine .aT ?_;simp at hh⊢;exact hh
 refine .dq 60 Ri ?_;simp;refine .inLoop ?_;have hh:=key l.length 0 (by omega);simp at hh⊢;exact hh
theorem Ib{φ:List Ob->Prop}{f:FuncId}{caps:List AV}{p:(List UInt8)->Bool}{l:List (List UInt8)}{k:Nat}{fl:Bool}(ha:mU Tryz.prog Γ φ f caps AV.str p l)(hk:Kd 1 k l)(hs:l.length<2^60){h:List Ob}(hφ:φ h):
 ∀up,AM.Reach Tryz.prog Γ (.cl u9 [.list fl k (l.map AV.str),.fn (.func f) [] caps] up h) (.back up (.bool (aZ p l)) h):=by
 intro up;refine .dq 60 Rf ?_;simp;refine .dE 60 (Sq ha hk hs hφ) ?_;have h1:=An p l 0
 cases hp:aZ p l with
 |true=>rw[hp]at h1;simp at h1;simp[h1]
 |false=>
  rw[hp]at h1
  have h2:¬0<=gF p l 0:=by rw[h1];simp
  simp[h2]
abbrev p2(a b:Int):AV:=.agg [.int .i64 a,.int .i64 b]
def Fy(n:Int):Option AV:=if 4<=n/\n<=9 then some (p2 2 8)else if n=0\/n=1 then some (p2 0 0)else if n=2\/n=3 then some (p2 1 1)else if n=10 then some (p2 0 8)else none
def lU(Γ:Nat->Option AV):Prop:=∃ks vs,Γ wL=some (.de ks vs)/\∀n:Int,fm (.sc .int) (.int .i64 n) (ks.zip vs)=some (Fy n)
def jB(op:Int)(n:Nat):Bool:=if 4<=op/\op<=9 then decide (2<=n/\n<=8)else if op=0\/op=1 then decide (n=0)else if op=2\/op=3 then decide (n=1)else false
def hasB(op:Int)(n:Nat):Bool:=if op=10 then decide (n<=8)else jB op n
def iM(g:Gt):Bool:=
 if g.op=10 then decide (g.ins.length<=8)&&(decide (g.rows.length<=128)&&!aZ (fun s=>!uz g.ins.length s) g.rows)else !(decide (0<g.rows.length)||g.off)&&jB g.op g.ins.length
theorem zN{ks vs:List AV}(hG:Γ wL=some (.de ks vs)){op a b:Int}(hF:fm (.sc .int) (.int .i64 op) (ks.zip vs)=some (some (p2 a b)))(n:Int):aN Tryz.prog Γ th [.int .i64 op,.int .i64 n] (.bool (decide (a<=n)&&decide (n<=b))):=by
 simp only[wL]at hG;refine .run 60 JV (by simp) ?_
 by_cases h:a<=n
 ·simp[hG,hF,h,isKey,cz,c9];exact .back (by simp)
 ·simp[hG,hF,h,isKey,cz,c9];exact .back (by simp)
theorem XS{ks vs:List AV}(hG:Γ wL=some (.de ks vs)){op:Int}(hF:fm (.sc .int) (.int .i64 op) (ks.zip vs)=some none)(n:Int):aN Tryz.prog Γ th [.int .i64 op,.int .i64 n] (.bool false):=by
 simp only[wL]at hG;refine .run 60 JV (by simp) ?_;simp[hG,hF,isKey,cz,c9];exact .back (by simp)
theorem abS(hΓ:lU Γ)(op:Int)(n:Nat):aN Tryz.prog Γ th [.int .i64 op,.int .i64 n] (.bool (hasB op n)):=by
 obtain⟨ks,vs,hG,hF⟩:=hΓ;have h1:=hF op;unfold Fy at h1
 by_cases a:4<=op/\op<=9
 ·rw[if_pos a]at h1
  have e:hasB op n=(decide ((2:Int)<=n)&&decide ((n:Int)<=8)):=by
   unfold hasB jB;rw[if_neg (by omega),if_pos a,gL]
   simp only[aC,a8];omega
  rw[e];exact zN hG h1 n
 ·rw[if_neg a]at h1
  by_cases b:op=0\/op=1
  ·rw[if_pos b]at h1
   have e:hasB op n=(decide ((0:Int)<=n)&&decide ((n:Int)<=0)):=by
    unfold hasB jB;rw[if_neg (by omega),if_neg a,if_pos b,gL]
    simp only[aC,a8];omega
   rw[e];exact zN hG h1 n
  ·rw[if_neg b]at h1
   by_cases c:op=2\/op=3
   ·rw[if_pos c]at h1
    have e:hasB op n=(decide ((1:Int)<=n)&&decide ((n:Int)<=1)):=by
     unfold hasB jB;rw[if_neg (by omega),if_neg a,if_neg b,if_pos c,gL]
     simp only[aC,a8];omega
    rw[e];exact zN hG h1 n
   ·rw[if_neg c]at h1
    by_cases d:op=10
    ·rw[if_pos d]at h1
     have e:hasB op n=(decide ((0:Int)<=n)&&decide ((n:Int)<=8)):=by
      unfold hasB;rw[if_pos d,gL]
      simp only[aC,a8];omega
     rw[e];exact zN hG h1 n
    ·rw[if_neg d]at h1
     have e:hasB op n=false:=by
      unfold hasB jB;rw[if_neg d,if_neg a,if_neg b,if_neg c]
     rw[e];exact XS hG h1 n
theorem YX(g:Gt)(i:Nat)(hg:AF g):mU Tryz.prog Γ (fun h=>h[i]? =some (.cells (AV.cells (ez g)))) xV [.ptr i 0] AV.str (fun s=>!uz g.ins.length s) g.rows:=by
 refine⟨by simp,fun s hs up h hφ=>?_⟩;refine .dq 60 Tm ?_;simp[hφ];refine .nI 60 (by simp) (ab6 s g.ins.length (hg.2.2.2.2 s hs)) ?_;simp
theorem aa7(hΓ:lU Γ)(g:Gt)(hg:AF g):aN Tryz.prog Γ zi [ez g] (.bool (iM g)):=by
 have b1:=hg.2.1;have b2:=hg.2.2.1;refine .run 60 UR (by simp) ?_;unfold iM;have hH:=abS hΓ g.op g.ins.length;have hC:=Ib (Γ:=Γ) (fl:=false) (YX g 0 hg) g.hr (by omega) (h:=[.cells (AV.cells (ez g))]) rfl
 by_cases ho:g.op=10
 ·simp[ho];rw[ho]at hH;refine .call 60 (by simp) hH ?_;have e:((g.ins.length:Int)<=8)=(g.ins.length<=8):=propext (by omega);have e2:((g.rows.length:Int)<=128)=(g.rows.length<=128):=propext (by omega)
  by_cases h1:g.ins.length<=8
  ·by_cases h2:g.rows.length<=128
   ·simp[hasB,h1,h2,e2];simp[ho]at hC;refine .dE 60 hC ?_;simp;exact .back (by simp)
   ·simp[hasB,h1,h2,e2];exact .back (by simp)
  ·simp[hasB,h1];exact .back (by simp)
 ·simp only[if_neg ho]
  by_cases h1:0<g.rows.length
  ·have e:((0:Int)<g.rows.length)=True:=bl (by omega);simp[ho,h1,e];exact .back (by simp)
  ·have e:((0:Int)<g.rows.length)=False:=gq (by omega)
   cases h2:g.off with
   |true=>
    simp[ho,h1,h2,e];exact .back (by simp)
   |false=>
    have h0:g.rows=[]:=k_.1 (by omega);simp[ho,h0,h2];refine .call 60 (by simp) hH ?_
    cases h3:jB g.op g.ins.length with
    |false=>
     simp[hasB,ho,h3];exact .back (by simp)
    |true=>
     simp[hasB,ho,h3];simp only[h0,h2,AV.cells,iC]at hC;refine .dE 60 hC ?_;simp[zU];exact .back (by simp)
theorem H6(l:List (List UInt8)){k:Nat}(hk:Kd 1 k l)(hl:l.length<2^40):aN Tryz.prog Γ vd [.list false k (l.map AV.str)] (.own 1 au (l.map AV.str)):=by
 refine .run 60 Rv (by simp) ?_
 cases l with
 |nil=>
  simp;refine .either 0 (by simp) (fun b=>?_)
  cases b
  ·refine .go 9 ?_;simp;refine .qe 2 1 au rfl (by omega) ?_;refine .go 60 ?_;simp;exact .back (by simp)
  ·refine .go 60 ?_;simp;exact .back (by simp)
 |cons x xs=>
  have hk0:k=1:=by
   rcases hk with h|h
   ·exact h
   ·cases h
  subst hk0;simp at hl;simp(disch:=(first|omega|(simp;omega)));exact .back (by simp)
theorem aar(c:Ct)(hc:eP c):∀n i:Nat,i+n=c.af.length->∀l:List Bs,l.length+n<2^40->
 aB Tryz.prog Γ (yng (.sl 2 0 l.length) (.list false c.kG (c.af.map ez)) (.int .i64 c.af.length) (.int .i64 i) [.cells (AV.cells (dT c)),.row 1 au [] none true false,.row 1 au (l.map .str) none true false]) (.ret (.own 1 au ((l++(c.af.drop i).map (·.name)).map .str))):=by
 have hG:=c.hG;have hl:=hc.2.2.2.1;intro n
 induction n with
 |zero=>
  intro i hi l hL
  have q1:¬i<c.af.length:=by omega
  rw[bq (by omega)];refine .go 60 ?_;simp[q1];exact .back (by simp)
 |succ n ih=>
  intro i hi l hL
  have q1:i<c.af.length:=by omega
  have q2:=hG.of q1;have hh:=ih (i+1) (by omega) (l++[c.af[i].name]) (by simp;omega);have e:l++(c.af.drop i).map (·.name)=l++[c.af[i].name]++(c.af.drop (i+1)).map (·.name):=E9 l (·.name) _ q1;rw[e];refine .go 60 ?_;simp(disch:=omega) [q1,q2];refine .aT ?_;simp;refine .drop 3 rfl (by simp) (by simp) (by simp) ?_;refine .reset (i:=2) rfl (by simp) (by simp) (by simp) ?_;simp[q2]at hh⊢;exact hh
theorem Z7(c:Ct)(hc:eP c):∀n i:Nat,i+n=c.ai.length->∀l:List Bs,l.length+n<2^39->
 aB Tryz.prog Γ (yni (.ptr 0 0) (.sl 2 0 l.length) (.list false c.kL (c.ai.map na)) (.int .i64 c.ai.length) (.int .i64 i) [.cells (AV.cells (dT c)),.row 1 au [] none true false,.row 1 au (l.map .str) none true false]) (.ret (.own 1 au ((l++(c.ai.drop i).map (·.name)++c.af.map (·.name)).map .str))):=by
 have hG:=c.hL;have hl:=hc.2.2.1;have hl2:=hc.2.2.2.1;intro n
 induction n with
 |zero=>
  intro i hi l hL
  have q1:¬i<c.ai.length:=by omega
  have hh:=aar (Γ:=Γ) c hc c.af.length 0 (by omega) l (by omega);rw[bq (by omega)];refine .go 60 ?_;simp[q1];refine .inLoop ?_;simp at hh⊢;exact hh
 |succ n ih=>
  intro i hi l hL
  have q1:i<c.ai.length:=by omega
  have q2:=hG.of q1;have hh:=ih (i+1) (by omega) (l++[c.ai[i].name]) (by simp;omega);have e:l++(c.ai.drop i).map (·.name)=l++[c.ai[i].name]++(c.ai.drop (i+1)).map (·.name):=E9 l (·.name) _ q1;rw[e];refine .go 60 ?_;simp(disch:=omega) [q1,q2];refine .aT ?_;simp;refine .drop 3 rfl (by simp) (by simp) (by simp) ?_;refine .reset (i:=2) rfl (by simp) (by simp) (by simp) ?_;simp[q2]at hh⊢;exact hh
theorem aax(c:Ct)(hc:eP c):aN Tryz.prog Γ s9 [dT c] (.own 1 au ((bt c).map .str)):=by
 have h1:=hc.1;have h2:=hc.2.2.1;refine .run 60 UA (by simp) ?_;simp;refine .call 60 (by simp) (H6 c.ak c.hI (by omega)) ?_;simp;refine .inLoop ?_;have hh:=Z7 (Γ:=Γ) c hc c.ai.length 0 (by omega) c.ak (by omega);simp[bt]at hh⊢;exact hh
abbrev mQ(x:Nat×List (List UInt8)):AV:=.list false x.1 (x.2.map AV.str)
def bQ:List (Nat×List (List UInt8))->List (List UInt8)
 |[]=>[]
 |x::xs=>x.2++bQ xs
theorem IE(a b:List (Nat×List (List UInt8))):bQ (a++b)=bQ a++bQ b:=by
 induction a with
 |nil=>rfl
 |cons x a ih=>simp[bQ,ih]
theorem KK(xs:List (Nat×List (List UInt8)))(i:Nat)(h:i<xs.length):bQ (xs.take (i+1))=bQ (xs.take i)++xs[i].2:=by
 rw[pN h,IE];simp[bQ]
theorem Mg(xs:List (Nat×List (List UInt8)))(i:Nat):(bQ (xs.take i)).length<=(bQ xs).length:=by
 conv=>rhs;rw[<-oa i xs,IE]
 simp
set_option maxRecDepth 8000 in
theorem H4(xs:List (Nat×List (List UInt8)))(hk:∀x∈xs,Kd 1 x.1 x.2)(hn:xs.length<2^40)(hs:(bQ xs).length<2^40)(hp:0<(bQ xs).length):
 aN Tryz.prog Γ mu [.list false 1 (xs.map mQ)] (.own 1 au ((bQ xs).map AV.str)):=by
 refine .run 60 H5 (by simp) ?_
 have key2:∀n i:Nat,i+n=xs.length->∀m:Nat,(bQ (xs.take i)).length+m=(bQ xs).length->
  aB Tryz.prog Γ (OP (.sl 2 0 (bQ (xs.take i)).length) (.list false 1 (xs.map mQ)) (.int .i64 xs.length) (.int .i64 i) [.row 1 au [] none true false,.row 1 au [] none true false,.row 1 au ((bQ (xs.take i)).map AV.str++List.replicate m (AV.str [])) none true false])
   (.ret (.own 1 au ((bQ xs).map AV.str))):=by
  intro n
  induction n with
  |zero=>
   intro i hi m hm
   have q1:¬i<xs.length:=by omega
   have q2:xs.take i=xs:=cF (by omega);rw[q2]at hm⊢
   have hm0:m=0:=by omega
   subst hm0;refine .go 60 ?_;simp[q1];exact .back (by simp)
  |succ n ih=>
   intro i hi m hm
   have q1:i<xs.length:=by omega
   have q2:=KK xs i q1;have q3:=Mg xs (i+1);rw[q2,bp]at q3;have q4:=hk xs[i] (bZ q1);have q5:xs[i].1=1\/xs[i].2=[]:=q4;have hh:=ih (i+1) (by omega) (m-xs[i].2.length) (by rw[q2,bp];omega);rw[q2]at hh
   have hd:(List.replicate m (AV.str [])).drop xs[i].2.length=List.replicate (m-xs[i].2.length) (AV.str []):=by simp
   refine .go 60 ?_
   by_cases q6:(bQ (xs.take i)).length=(bQ xs).length
   ·have q7:xs[i].2=[]:=k_.1 (by omega)
    have hm0:m=0:=by omega
    subst hm0;simp[q7]at hh;simp(disch:=(first|omega|(simp;omega))) [q1,q5,q7];refine .aT ?_;simp;exact hh
   ·simp(disch:=(first|omega|(simp;omega))) [q1,q5]
    by_cases q7:m=0
    ·omega
    ·have c1:¬(bQ (List.take i xs)).length=(bQ (List.take i xs)).length+m:=by omega
     have c2:(bQ (List.take i xs)).length+xs[i].snd.length<=(bQ (List.take i xs)).length+m:=by omega
     simp(disch:=(first|omega|(simp;omega))) [q1,q5,c1,c2,q7];refine .aT ?_;have hd0:((bQ (xs.take i)).map AV.str).drop ((bQ (xs.take i)).length+xs[i].2.length)=[]:=bq (by simp);simp[B7,hd,hd0]at hh⊢;exact hh
 have key1:∀n i:Nat,i+n=xs.length->
  aB Tryz.prog Γ (PO (.list false 1 (xs.map mQ)) (.int .i64 (bQ (xs.take i)).length) (.list false 1 (xs.map mQ)) (.int .i64 xs.length) (.int .i64 i) [.row 1 au [] none true false])
   (.ret (.own 1 au ((bQ xs).map AV.str))):=by
  intro n
  induction n with
  |zero=>
   intro i hi
   have q1:¬i<xs.length:=by omega
   have q2:xs.take i=xs:=cF (by omega);have q3:0<(bQ xs).length:=hp;have hh:=key2 xs.length 0 (by omega) (bQ xs).length (by simp[bQ]);refine .go 60 ?_;rw[q2];simp[q1];refine .enter 60 H7 ?_
   have q4:¬(bQ xs).length=0:=by omega
   have q5:bQ xs≠[]:=fun e=>by rw[e]at hp;simp at hp
   obtain⟨m,hm⟩:∃m,(bQ xs).length=m+1:=⟨(bQ xs).length-1,by omega⟩
   have hrep:List.replicate (bQ xs).length (AV.str [])=(AV.str [])::List.replicate m (AV.str []):=by rw[hm];rfl
   simp(disch:=(first|omega|(simp;omega))) [q3,q4,q5,hrep];refine .inLoop ?_;simp[bQ,hrep]at hh⊢;exact hh
  |succ n ih=>
   intro i hi
   have q1:i<xs.length:=by omega
   have q2:=KK xs i q1;have q3:=Mg xs (i+1);rw[q2,bp]at q3;have hh:=ih (i+1) (by omega);rw[q2]at hh;refine .go 60 ?_
   have q4:¬((bQ (xs.take i)).length:Int)+xs[i].2.length<0:=by omega
   simp(disch:=(first|omega|(simp;omega))) [q1,q4];refine .aT ?_;simp at hh⊢;exact hh
 simp;refine .inLoop ?_;have hh:=key1 xs.length 0 (by omega);simp[bQ]at hh⊢;exact hh
set_option maxRecDepth 8000 in
theorem H3(xs:List (Nat×List (List UInt8)))(hx:∀x∈xs,x.2=[])(hn:xs.length<2^40):
 aN Tryz.prog Γ mu [.list false 1 (xs.map mQ)] (.own 1 au []):=by
 refine .run 60 H5 (by simp) ?_
 have key2:∀n i:Nat,i+n=xs.length->aB Tryz.prog Γ (OP (.list true 0 []) (.list false 1 (xs.map mQ)) (.int .i64 xs.length) (.int .i64 i) [.row 1 au [] none true false,.row 1 au [] none true false])
  (.ret (.own 1 au [])):=by
  intro n
  induction n with
  |zero=>
   intro i hi
   have q1:¬i<xs.length:=by omega
   refine .qe 6 1 au rfl (by omega) ?_;refine .go 60 ?_;simp[q1];exact .back (by simp)
  |succ n ih=>
   intro i hi
   have q1:i<xs.length:=by omega
   have q7:=hx xs[i] (bZ q1);have hh:=ih (i+1) (by omega);refine .go 60 ?_;simp(disch:=(first|omega|(simp;omega))) [q1,q7];refine .aT ?_;simp at hh⊢;exact hh
 have key:∀n i:Nat,i+n=xs.length->aB Tryz.prog Γ (PO (.list false 1 (xs.map mQ)) (.int .i64 0) (.list false 1 (xs.map mQ)) (.int .i64 xs.length) (.int .i64 i) [.row 1 au [] none true false])
  (.ret (.own 1 au [])):=by
  intro n
  induction n with
  |zero=>
   intro i hi
   have q1:¬i<xs.length:=by omega
   refine .go 60 ?_;simp[q1];refine .enter 60 H7 ?_;simp;refine .inLoop ?_;have hh:=key2 xs.length 0 (by omega);simp at hh⊢;exact hh
  |succ n ih=>
   intro i hi
   have q1:i<xs.length:=by omega
   have q7:=hx xs[i] (bZ q1);have hh:=ih (i+1) (by omega);refine .go 60 ?_;simp(disch:=(first|omega|(simp;omega))) [q1,q7];refine .aT ?_;simp at hh⊢;exact hh
 simp;refine .inLoop ?_;have hh:=key xs.length 0 (by omega);simp at hh⊢;exact hh
theorem Rp(xs:List (Nat×List (List UInt8)))(hk:∀x∈xs,Kd 1 x.1 x.2)(hn:xs.length<2^40)(hs:(bQ xs).length<2^40):
 aN Tryz.prog Γ mu [.list false 1 (xs.map mQ)] (.own 1 au ((bQ xs).map AV.str)):=by
 rcases Q3 (bQ xs).length with h|h
 ·have h0:bQ xs=[]:=k_.1 h
  have hx:∀x∈xs,x.2=[]:=by
   clear hk hn hs h
   induction xs with
   |nil=>simp
   |cons y ys ih=>
    simp only[bQ,Q8]at h0;intro x hx
    rcases bw.1 hx with rfl|hx
    ·exact h0.1
    ·exact ih h0.2 x hx
  rw[h0];exact H3 xs hx hn
 ·exact H4 xs hk hn hs h
theorem Fa{α β:Type}(a:List β)(f:α->List β)(l:List α){i:Nat}(h:i<l.length):a++(l.drop i).flatMap f=a++f l[i]++(l.drop (i+1)).flatMap f:=by
 rw[br h,nn,c8]
def mO(l:List Gt):List Bs:=l.flatMap (·.ins)
def o6(l:List Lt):List Bs:=l.flatMap fun q=>[q.name,q.next]
def nM(l:List Gt):List Bs:=l.flatMap fun g=>g.name::g.ins
def kQ(c:Ct):List Bs:=c.aq++c.ai.map (·.next)++mO c.af
def qo(c:Ct):List Bs:=c.ak++c.aq++o6 c.ai++nM c.af
theorem Ak{α β:Type}(f:α->List β)(n:Nat):∀l:List α,(∀x∈l,(f x).length<=n)->(l.flatMap f).length<=l.length*n
 |[],_=>by simp
 |x::l,h=>by
  have h1:=Ak f n l fun y hy=>h y (dm _ hy)
  have h2:=h x (oh ..);rw[nn,bp,bC,Nat.succ_mul];omega
theorem vN{c:Ct}(hc:eP c):(mO c.af).length<=2^20:=by
 have h1:=Ak (·.ins) (2^10) c.af fun g hg=>by have:=(hc.2.2.2.2.1 g hg).2.1;omega
 have h2:=hc.2.2.2.1;unfold mO;omega
theorem vW{c:Ct}(hc:eP c):(nM c.af).length<=2^20:=by
 have h1:=Ak (fun g:Gt=>g.name::g.ins) (2^10) c.af fun g hg=>by have:=(hc.2.2.2.2.1 g hg).2.1;simp;omega
 have h2:=hc.2.2.2.1;unfold nM;omega
theorem tE{c:Ct}(hc:eP c):(o6 c.ai).length<=2^20:=by
 have h1:=Ak (fun q:Lt=>[q.name,q.next]) 2 c.ai fun g hg=>by simp
 have h2:=hc.2.2.1;unfold o6;omega
theorem aak(c:Ct)(hc:eP c):∀n i:Nat,i+n=c.af.length->∀l:List Bs,l.length+(mO (c.af.drop i)).length<2^40->
 aB Tryz.prog Γ (ypc (.sl 2 0 l.length) (.list false c.kG (c.af.map ez)) (.int .i64 c.af.length) (.int .i64 i) [.cells (AV.cells (dT c)),.row 1 au [] none true false,.row 1 au (l.map .str) none true false]) (.ret (.own 1 au ((l++mO (c.af.drop i)).map .str))):=by
 have hG:=c.hG;have hl:=hc.2.2.1;have hl2:=hc.2.2.2.1;have b1:=vN hc;have b2:=vW hc;have b3:=tE hc;intro n
 induction n with
 |zero=>
  intro i hi l hL
  have q1:¬i<c.af.length:=by omega
  rw[bq (by omega)];refine .go 60 ?_;simp[q1];exact .back (by simp[mO])
 |succ n ih=>
  intro i hi l hL
  have q1:i<c.af.length:=by omega
  have q2:=hG.of q1;have q3:=(hc.2.2.2.2.1 c.af[i] (bZ q1)).2.1;have q4:=c.af[i].hi;have q5:c.af[i].ki=1\/c.af[i].ins=[]:=q4;have e:l++mO (c.af.drop i)=l++c.af[i].ins++mO (c.af.drop (i+1)):=Fa l (fun g:Gt=>g.ins) _ q1;have e2:=congrArg List.length e;simp only[bp,bC,cN]at e2;have hh:=ih (i+1) (by omega) (l++c.af[i].ins) (by simp only[bp,bC,cN];omega);rw[e];refine .go 60 ?_;simp(disch:=omega) [q1,q2,q5];refine .aT ?_;simp;refine .drop 3 rfl (by simp) (by simp) (by simp) ?_;refine .iF (i:=2) rfl (by first|(simp;done)|(by_cases hq:c.af[i].ins=[]<;>simp[hq])) (by simp) (by simp<;>omega) (by simp) ?_;simp[q2]at hh⊢;exact hh
theorem ZU(c:Ct)(hc:eP c):∀n i:Nat,i+n=c.ai.length->∀l:List Bs,l.length+((c.ai.drop i).map (·.next)).length<2^39->
 aB Tryz.prog Γ (ype (.ptr 0 0) (.sl 2 0 l.length) (.list false c.kL (c.ai.map na)) (.int .i64 c.ai.length) (.int .i64 i) [.cells (AV.cells (dT c)),.row 1 au [] none true false,.row 1 au (l.map .str) none true false]) (.ret (.own 1 au ((l++(c.ai.drop i).map (·.next)++mO c.af).map .str))):=by
 have hG:=c.hL;have hl:=hc.2.2.1;have hl2:=hc.2.2.2.1;have b1:=vN hc;have b2:=vW hc;have b3:=tE hc;intro n
 induction n with
 |zero=>
  intro i hi l hL
  have q1:¬i<c.ai.length:=by omega
  have hh:=aak (Γ:=Γ) c hc c.af.length 0 (by omega) l (by rw[dV];omega);rw[bq (by omega)];refine .go 60 ?_;simp[q1];refine .inLoop ?_;simp at hh⊢;exact hh
 |succ n ih=>
  intro i hi l hL
  have q1:i<c.ai.length:=by omega
  have q2:=hG.of q1;have e:l++(c.ai.drop i).map (·.next)=l++[c.ai[i].next]++(c.ai.drop (i+1)).map (·.next):=E9 l (·.next) _ q1;have e2:=congrArg List.length e;simp only[bp,bC,cN]at e2;have hh:=ih (i+1) (by omega) (l++[c.ai[i].next]) (by simp only[bp,bC,cN];omega);rw[e];refine .go 60 ?_;simp(disch:=omega) [q1,q2];refine .aT ?_;simp;refine .drop 3 rfl (by simp) (by simp) (by simp) ?_;refine .reset (i:=2) rfl (by simp) (by simp) (by simp) ?_;simp[q2]at hh⊢;exact hh
theorem abk(c:Ct)(hc:eP c):aN Tryz.prog Γ s_ [dT c] (.own 1 au ((kQ c).map .str)):=by
 have h1:=hc.2.1;have h2:=hc.2.2.1;refine .run 60 Vi (by simp) ?_;simp;refine .call 60 (by simp) (H6 c.aq c.hO (by omega)) ?_;simp;refine .inLoop ?_;have hh:=ZU (Γ:=Γ) c hc c.ai.length 0 (by omega) c.aq (by rw[dV,iB];omega);simp[kQ]at hh⊢;exact hh
theorem aap(c:Ct)(hc:eP c):∀n i:Nat,i+n=c.af.length->∀l:List Bs,l.length+(nM (c.af.drop i)).length<2^40->
 aB Tryz.prog Γ (yog (.sl 2 0 l.length) (.list false c.kG (c.af.map ez)) (.int .i64 c.af.length) (.int .i64 i) [.cells (AV.cells (dT c)),.row 1 au [] none true false,.row 1 au (l.map .str) none true false]) (.ret (.own 1 au ((l++nM (c.af.drop i)).map .str))):=by
 have hG:=c.hG;have hl:=hc.2.2.1;have hl2:=hc.2.2.2.1;have b1:=vN hc;have b2:=vW hc;have b3:=tE hc;intro n
 induction n with
 |zero=>
  intro i hi l hL
  have q1:¬i<c.af.length:=by omega
  rw[bq (by omega)];refine .go 60 ?_;simp[q1];exact .back (by simp[nM])
 |succ n ih=>
  intro i hi l hL
  have q1:i<c.af.length:=by omega
  have q2:=hG.of q1;have q3:=(hc.2.2.2.2.1 c.af[i] (bZ q1)).2.1;have q4:=c.af[i].hi;have q5:c.af[i].ki=1\/c.af[i].ins=[]:=q4;have e:l++nM (c.af.drop i)=l++(c.af[i].name::c.af[i].ins)++nM (c.af.drop (i+1)):=Fa l (fun g:Gt=>g.name::g.ins) _ q1;have e2:=congrArg List.length e;simp only[bp,bC,cN]at e2;have hh:=ih (i+1) (by omega) (l++(c.af[i].name::c.af[i].ins)) (by simp only[bp,bC,cN];omega);rw[e];refine .go 60 ?_;simp(disch:=omega) [q1,q2,q5];refine .dr 60 ?_;simp(disch:=omega) [q1,q2,q5];refine .aT ?_;simp;refine .drop 3 rfl (by simp) (by simp) (by simp) ?_;refine .iF (i:=2) rfl (by first|(simp;done)|(by_cases hq:c.af[i].ins=[]<;>simp[hq])) (by simp) (by simp<;>omega) (by simp) ?_
  have e3:l.length+(c.af[i].ins.length+1)=l.length+1+c.af[i].ins.length:=by omega
  simp[q2,e3]at hh⊢;exact hh
theorem Zh(c:Ct)(hc:eP c):∀n i:Nat,i+n=c.ai.length->∀l:List Bs,l.length+(o6 (c.ai.drop i)).length<2^39->
 aB Tryz.prog Γ (yoi (.ptr 0 0) (.sl 2 0 l.length) (.list false c.kL (c.ai.map na)) (.int .i64 c.ai.length) (.int .i64 i) [.cells (AV.cells (dT c)),.row 1 au [] none true false,.row 1 au (l.map .str) none true false]) (.ret (.own 1 au ((l++o6 (c.ai.drop i)++nM c.af).map .str))):=by
 have hG:=c.hL;have hl:=hc.2.2.1;have hl2:=hc.2.2.2.1;have b1:=vN hc;have b2:=vW hc;have b3:=tE hc;intro n
 induction n with
 |zero=>
  intro i hi l hL
  have q1:¬i<c.ai.length:=by omega
  have hh:=aap (Γ:=Γ) c hc c.af.length 0 (by omega) l (by rw[dV];omega);rw[bq (by omega)];refine .go 60 ?_;simp[q1];refine .inLoop ?_;simp[o6]at hh⊢;exact hh
 |succ n ih=>
  intro i hi l hL
  have q1:i<c.ai.length:=by omega
  have q2:=hG.of q1;have e:l++o6 (c.ai.drop i)=l++[c.ai[i].name,c.ai[i].next]++o6 (c.ai.drop (i+1)):=Fa l (fun q:Lt=>[q.name,q.next]) _ q1;have e2:=congrArg List.length e;simp only[bp,bC,cN]at e2;have hh:=ih (i+1) (by omega) (l++[c.ai[i].name,c.ai[i].next]) (by simp only[bp,bC,cN];omega);rw[e];refine .go 60 ?_;simp(disch:=omega) [q1,q2];refine .aT ?_;simp;refine .drop 3 rfl (by simp) (by simp) (by simp) ?_;refine .reset (i:=2) rfl (by simp) (by simp) (by simp) ?_;simp[q2]at hh⊢;exact hh
theorem aa3(c:Ct)(hc:eP c):aN Tryz.prog Γ s6 [dT c] (.own 1 au ((qo c).map .str)):=by
 have h1:=hc.1;have h2:=hc.2.1;have h3:=hc.2.2.1;have b3:=tE hc
 have hx:∀x∈[(c.kI,c.ak),(c.kO,c.aq)],Kd 1 x.1 x.2:=by
  intro x hx;simp only[bw,mr,mi]at hx
  rcases hx with rfl|rfl
  ·exact c.hI
  ·exact c.hO
 have hx2:bQ [(c.kI,c.ak),(c.kO,c.aq)]=c.ak++c.aq:=by simp[bQ]
 have hC:=Rp (Γ:=Γ) [(c.kI,c.ak),(c.kO,c.aq)] hx (by simp) (by rw[hx2];simp;omega);rw[hx2]at hC;refine .run 60 Vw (by simp) ?_;simp;refine .call 60 (by simp) hC ?_;simp;refine .inLoop ?_;have hh:=Zh (Γ:=Γ) c hc c.ai.length 0 (by omega) (c.ak++c.aq) (by rw[dV,bp];omega);simp[qo]at hh⊢;exact hh
theorem Ke(l:List (List UInt8))(s:List UInt8){k:Nat}(hk:Kd 1 k l)(hl:l.length<2^40):aN Tryz.prog Γ tm [.list false k (l.map .str),.str s] (.bool (l.contains s)):=by
 have key:∀n i:Nat,i+n=l.length->aB Tryz.prog Γ (yvJ (.list false k (l.map .str)) (.str s) (.int .i64 i) []) (.ret (.bool ((l.drop i).contains s))):=by
  intro n
  induction n with
  |zero=>
   intro i hi
   have q1:¬i<l.length:=by omega
   rw[bq (by omega)];refine .go 60 ?_;simp[q1];exact .back (by simp)
  |succ n ih=>
   intro i hi
   have q1:i<l.length:=by omega
   have q2:=bl (hk.of q1);have hh:=ih (i+1) (by omega);rw[br q1,Q6];refine .go 60 ?_
   by_cases h:l[i]=s
   ·have h':(s==l[i])=true:=by simp[h]
    simp[q1,q2,h,h'];exact .back (by simp)
   ·have h':(s==l[i])=false:=by simpa using fun e=>h e.symm
    simp(disch:=omega) [q1,q2,h,h'];refine .aT ?_;simp at hh⊢;exact hh
 refine .run 60 VS (by simp) ?_;simp;refine .inLoop ?_;have hh:=key l.length 0 (by omega);simp at hh⊢;exact hh
abbrev ES(e:Int)(s:Bs):AV:=.bX CE (.agg [.int .i64 e,.str s])
theorem rM(e:Int)(s:Bs):aN Tryz.prog Γ nv [.bool true,.int .i64 e,.str s] (.aL []):=by
 refine .run 60 Jd (by simp) ?_;simp;exact .back (by simp)
theorem lu(e:Int)(s:Bs):kH Tryz.prog Γ nv [.bool false,.int .i64 e,.str s] (ES e s):=by
 refine kH.of (hh:=[]) (by simp) (zJ Jd _ (.go 60 ?_)) (by simp) (by simp);simp
def iG:List Bs->List Bs->Option Bs
 |_,[]=>none
 |seen,s::l=>if s∈seen then some s else iG (seen++[s]) l
def jn(l:List Bs):Option Bs:=iG [] l
theorem To(l:List Bs)(s:Bs):l.contains s=decide (s∈l):=by
 by_cases h:s∈l<;>simp[h]
abbrev iH(s:Bs):AV×AV:=(.str s,.bool true)
theorem vv(s:Bs):∀l:List Bs,fm (.sc .str) (.str s) (l.map iH)=some (if s∈l then some (.bool true)else none)
 |[]=>rfl
 |a::l=>by
  simp only[cv,fm,bU,eD]
  cases h:(s==a)
  ·have h2:=u5.1 h;simp[vv s l,h2]
  ·have h2:=eq_of_beq h;simp[h2]
theorem y8{s:Bs}{v:AV}:∀{l:List Bs},s∉l->iK (.sc .str) (.str s) v (l.map iH)=some (l.map iH++[(.str s,v)])
 |[],_=>rfl
 |a::l,h=>by
  simp only[bw,not_or]at h;simp only[cv,iK,bU,eD];have h2:(s==a)=false:=u5.2 h.1;simp[h2,y8 (v:=v) h.2]
@[simp] theorem Wc(n:Nat):∀l:List Bs,iw n (l.map iH)=true
 |[]=>rfl
 |x::r=>by simp[iw,Wc n r]
@[simp] theorem Xg(n m:Nat):∀l:List Bs,pd n m (l.map iH)=true
 |[]=>rfl
 |x::r=>by simp[Xg n m r]
@[simp] theorem Yj(n:Nat)(τ:List Nat):∀l:List Bs,l9 n τ (l.map iH)=l.map iH
 |[]=>rfl
 |x::r=>by simp[Yj n τ r]
@[simp] theorem Xs(n:Nat)(τ:List Nat):∀l:List Bs,sk n τ (l.map iH)=true
 |[]=>rfl
 |x::r=>by simp[Xs n τ r]
def Bb(h:List Ob):Prop:=∀m,h.length<=m->dS m h=true
theorem Z5(l:List Bs){fl:Bool}{k:Nat}(hk:Kd 1 k l)(hl:l.length<2^40)(h:List Ob)(hw:Bb h)(up:List Fr):∀n i:Nat,i+n=l.length->∀seen,iG seen (l.drop i)=none->AM.Reach Tryz.prog Γ
 (Pf (.mp h.length) (.list fl k (l.map .str)) (.int .i64 l.length) (.int .i64 i) (h++[.map (seen.map iH) true]) ⟨[],.norm,h.length,up⟩)
 (.back up (.mp h.length) (h++[.map ((seen++l.drop i).map iH) true])):=by
 intro n
 induction n with
 |zero=>
  intro i hi seen hs
  have q1:¬i<l.length:=by omega
  rw[bq (by omega)];refine .du 60 ?_;simp[q1]
 |succ n ih=>
  intro i hi seen hs
  have q1:i<l.length:=by omega
  obtain rfl:=hk.of q1;rw[br q1]at hs⊢;rw[iG]at hs;have hfi:=vv l[i] seen;have hbw:=hw (h.length+1) (by omega)
  by_cases hm:l[i]∈seen
  ·rw[if_pos hm]at hs;cases hs
  ·rw[if_neg hm]at hs hfi;have hh:=ih (i+1) (by omega) (seen++[l[i]]) hs;have hput:=y8 (v:=.bool true) hm;refine .du 60 ?_;simp(disch:=omega) [q1,hfi,isKey,cz,c9];refine .nI 60 (by simp) (rM 5 l[i]) ?_;simp(disch:=omega) [hput,isKey,cz,c9];refine .aT ?_;simp at hh⊢;exact hh
theorem Va(l:List Bs){fl:Bool}{k:Nat}(hk:Kd 1 k l)(hl:l.length<2^40)(h:List Ob)(hw:Bb h)(up:List Fr)(s0:Bs):∀n i:Nat,i+n=l.length->∀seen,iG seen (l.drop i)=some s0->∃h',AM.Reach Tryz.prog Γ
 (Pf (.mp h.length) (.list fl k (l.map .str)) (.int .i64 l.length) (.int .i64 i) (h++[.map (seen.map iH) true]) ⟨[],.norm,h.length,up⟩)
 (.die up (ES 5 s0) (h++h')):=by
 intro n
 induction n with
 |zero=>
  intro i hi seen hs;rw[bq (by omega)]at hs
  cases hs
 |succ n ih=>
  intro i hi seen hs
  have q1:i<l.length:=by omega
  obtain rfl:=hk.of q1;rw[br q1]at hs;rw[iG]at hs;have hfi:=vv l[i] seen;have hbw:=hw (h.length+1) (by omega)
  by_cases hm:l[i]∈seen
  ·rw[if_pos hm]at hs hfi;obtain rfl:=Option.some.inj hs;refine⟨[.map (seen.map iH) true],?_⟩;refine .du 60 ?_;simp(disch:=omega) [q1,hfi,isKey,cz,c9];refine .kP 2 (by simp) (lu 5 l[i]) ?_;simp
  ·rw[if_neg hm]at hs hfi;obtain⟨h',hh⟩:=ih (i+1) (by omega) (seen++[l[i]]) hs;refine⟨h',?_⟩;have hput:=y8 (v:=.bool true) hm;refine .du 60 ?_;simp(disch:=omega) [q1,hfi,isKey,cz,c9];refine .nI 60 (by simp) (rM 5 l[i]) ?_;simp(disch:=omega) [hput,isKey,cz,c9];refine .aT ?_;simp at hh⊢;exact hh
theorem Np(l:List Bs){fl:Bool}{k:Nat}(hk:Kd 1 k l)(hl:l.length<2^40)(h:List Ob)(hw:Bb h)(ht:jn l=none):∀up,AM.Reach Tryz.prog Γ
 (.cl rl [.list fl k (l.map .str)] up h) (.back up (.mp h.length) (h++[.map (l.map iH) true])):=by
 intro up;refine .dq 60 Jc ?_;simp;refine .inLoop ?_;have hh:=Z5 (Γ:=Γ) (fl:=fl) l hk hl h hw up l.length 0 (by omega) [] ht;simp at hh⊢;exact hh
theorem Mv(l:List Bs){fl:Bool}{k:Nat}(hk:Kd 1 k l)(hl:l.length<2^40)(h:List Ob)(hw:Bb h){s0:Bs}(ht:jn l=some s0):∀up,∃h',AM.Reach Tryz.prog Γ
 (.cl rl [.list fl k (l.map .str)] up h) (.die up (ES 5 s0) (h++h')):=by
 intro up;have hh:=Va (Γ:=Γ) (fl:=fl) l hk hl h hw up s0 l.length 0 (by omega) [] ht;obtain⟨h',hh⟩:=hh;refine⟨h',?_⟩;refine .dq 60 Jc ?_;simp;refine .inLoop ?_;simp at hh⊢;exact hh
def iv(c:UInt8):Bool:=decide (c<33)||decide (126<c)
def dd(s:List UInt8):Bool:=!aZ iv s&&(decide (1<=s.length)&&decide (s.length<=40))
def pr:List UInt8->Nat->Int
 |[],_=>-1
 |c::s,i=>if iv c=true then(i:Int)else pr s (i+1)
theorem KU:∀(s:List UInt8)(i:Nat),decide (pr s i<0)=!aZ iv s
 |[],i=>by simp[pr,zU]
 |c::s,i=>by
  rw[pr,jM]
  cases h:iv c with
  |true=>simp
  |false=>simpa using KU s (i+1)
theorem KT(r:Int):aN Tryz.prog Γ qT [.int .i32 r] (.bool (decide (r<=32)||decide (126<r))):=by
 refine .run 60 RQ (by simp) ?_
 by_cases h:r<=32<;>simp[h]<;>exact .back (by simp[h])
theorem SP{s:List UInt8}{i:Nat}(h:i<s.length)(ha:s[i].toNat<128):Utf8.decode ⟨s.toArray⟩ i=(s[i].toNat,1):=by
 exact decode_ascii ⟨s.toArray⟩ i (show i<s.toArray.size by simpa using h) ha
theorem TB{s:List UInt8}{i:Nat}(h:i<s.length)(ha:128<=s[i].toNat):128<=(Utf8.decode ⟨s.toArray⟩ i).1:=by
 exact(decode_high ⟨s.toArray⟩ i (show i<s.toArray.size by simpa using h) ha).1
set_option maxRecDepth 8000 in
theorem TJ(s:List UInt8)(hs:s.length<2^40):aN Tryz.prog Γ vg [.str s,.fn (.func qT) [] [],.bool true] (.int .i64 (pr s 0)):=by
 have key:∀n i:Nat,i+n=s.length->aB Tryz.prog Γ (yzI (.fn (.func qT) [] []) (.bool true) (.it 0) [.gC s i]) (.ret (.int .i64 (pr (s.drop i) i))):=by
  intro n
  induction n with
  |zero=>
   intro i hi;rw[bq (by omega),pr]
   have q1:¬i<s.length:=by omega
   refine .go 60 ?_;simp[q1];exact .back (by simp)
  |succ n ih=>
   intro i hi
   have q1:i<s.length:=by omega
   rw[br q1,pr];have hh:=ih (i+1) (by omega)
   by_cases ha:s[i].toNat<128
   ·have hd:=SP q1 ha
    have e:(decide ((s[i].toNat:Int)<=32)||decide (126<(s[i].toNat:Int)))=iv s[i]:=by
     unfold iv;simp only[UInt8.lt_iff_toNat_lt,show(33:UInt8).toNat=33 from rfl,show(126:UInt8).toNat=126 from rfl]
     congr 1<;>exact decide_eq_decide.2 (by omega)
    have hc:=KT (Γ:=Γ) (s[i].toNat:Int);rw[e]at hc;refine .go 60 ?_;simp[q1,hd];refine .call 60 (by simp) hc ?_
    cases ho:iv s[i]with
    |true=>simp;exact .back (by simp)
    |false=>
     simp;refine .aT ?_;simp at hh⊢;exact hh
   ·have hd:=TB q1 (by omega)
    have ho:iv s[i]=true:=by unfold iv;simp only[UInt8.lt_iff_toNat_lt,show(33:UInt8).toNat=33 from rfl,show(126:UInt8).toNat=126 from rfl,fR,a8];omega
    rw[ho];have hc:=KT (Γ:=Γ) ((Utf8.decode ⟨s.toArray⟩ i).1:Int)
    have e:(decide (((Utf8.decode ⟨s.toArray⟩ i).1:Int)<=32)||decide (126<((Utf8.decode ⟨s.toArray⟩ i).1:Int)))=true:=by
     simp only[fR,a8];right;omega
    rw[e]at hc;refine .go 60 ?_;simp[q1];refine .call 60 (by simp) hc ?_;simp;exact .back (by simp)
 refine .run 60 RU (by simp) ?_;simp;refine .inLoop ?_;have hh:=key s.length 0 (by omega);simp at hh⊢;exact hh
theorem T8(s:List UInt8)(hs:s.length<2^40):aN Tryz.prog Γ xG [.str s,.fn (.func qT) [] []] (.int .i64 (pr s 0)):=by
 refine .run 60 RR (by simp) ?_;simp;refine .call 60 (by simp) (TJ s hs) ?_;simp;exact .back (by simp)
theorem Y'(s:List UInt8):aN Tryz.prog Γ xI [.str s] (.bool (dd s)):=by
 refine .run 60 RY (by simp) ?_;unfold dd
 by_cases h0:s=[]
 ·subst h0;simp;exact .back (by simp)
 ·have h1:1<=s.length:=uW.2 h0;have h0':¬s=[]:=h0
  by_cases h2:s.length<=40
  ·have h2':(s.length:Int)<=40:=by omega
   simp[h0,h2,h2'];refine .call 60 (by simp) (T8 s (by omega)) ?_;have e:=KU s 0;simp[e];exact .back (by simp[h0,h1,h2])
  ·have h2':¬(s.length:Int)<=40:=by omega
   simp[h0,h2,h2'];exact .back (by simp[h2])
theorem Nj(s:List UInt8):aN Tryz.prog Γ vo [.str s] (.bool (dd s)):=by
 refine .run 60 Tq (by simp) ?_;simp;refine .call 60 (by simp) (Y' s) ?_;simp;exact .back (by simp)
theorem UC(s:List UInt8)(hs:s.length<2^60):aN Tryz.prog Γ vD [.str s] (.bool (dd s)):=by
 have key:∀n i:Nat,i+n=s.length->aB Tryz.prog Γ (ywS (.str s) (.int .i64 i) []) (.ret (.bool (!aZ iv (s.drop i)&&(decide (1<=s.length)&&decide (s.length<=40))))):=by
  intro n
  induction n with
  |zero=>
   intro i hi;rw[bq (by omega),zU]
   have q1:¬i<s.length:=by omega
   refine .go 60 ?_
   by_cases h2:1<=s.length
   ·have h3:((s.length:Int)<=40)=(s.length<=40):=propext (by omega);have h4:((1:Int)<=s.length)=True:=bl (by omega);simp[q1,h2,h3,h4];exact .back (by simp[h2])
   ·have h4:((1:Int)<=s.length)=False:=gq (by omega);simp[q1,h2,h4];exact .back (by simp[h2])
  |succ n ih=>
   intro i hi
   have q1:i<s.length:=by omega
   have hh:=ih (i+1) (by omega);rw[br q1,jM];refine .go 60 ?_
   by_cases h1:s[i]<33
   ·have ho:iv s[i]=true:=by simp[iv,h1]
    simp[q1,h1,ho];exact .back (by simp)
   ·by_cases h2:126<s[i]
    ·have ho:iv s[i]=true:=by simp[iv,h2]
     simp[q1,h1,h2,ho];exact .back (by simp)
    ·have ho:iv s[i]=false:=by simp[iv,h1,h2]
     simp(disch:=omega) [q1,h1,h2,ho];refine .aT ?_;simp at hh⊢;exact hh
 refine .run 60 UE (by simp) ?_;simp;refine .inLoop ?_;have hh:=key s.length 0 (by omega);unfold dd;simp at hh⊢;exact hh
theorem R7{φ:List Ob->Prop}{f:FuncId}{caps:List AV}{p:Gt->Bool}{l:List Gt}{k:Nat}{fl:Bool}(ha:mU Tryz.prog Γ φ f caps ez p l)(hk:Kd 5 k l)(hs:l.length<2^60){h:List Ob}(hφ:φ h):
 ∀up,AM.Reach Tryz.prog Γ (.cl u7 [.list fl k (l.map ez),.fn (.func f) [] caps] up h) (.back up (.int .i64 (gF p l 0)) h):=by
 intro up
 have key:∀n i:Nat,i+n=l.length->AM.Reach Tryz.prog Γ (yuU (.list fl k (l.map ez)) (.fn (.func f) [] caps) (.int .i64 l.length) (.int .i64 i) h ⟨[],.norm,h.length,up⟩) (.back up (.int .i64 (gF p (l.drop i) i)) h):=by
  intro n
  induction n with
  |zero=>
   intro i hi
   have h1:¬i<l.length:=by omega
   refine .du 60 ?_;rw[bq (by omega)];simp[h1,gF]
  |succ n ih=>
   intro i hi
   have h1:i<l.length:=by omega
   obtain rfl:=hk.of h1;have h2:=ha.2 l[i] (bZ h1);rw[br h1,gF];have hh:=ih (i+1) (by omega);refine .du 60 ?_;simp[h1,ha.1];refine .dE 60 (fun up=>h2 up h hφ) ?_
   cases hp:p l[i]with
   |true=>simp(disch:=omega) [hp]
   |false=>
    simp(disch:=omega) [hp];refine .aT ?_;simp at hh⊢;exact hh
 refine .dq 60 Re ?_;simp;refine .inLoop ?_;have hh:=key l.length 0 (by omega);simp at hh⊢;exact hh
theorem Ia{φ:List Ob->Prop}{f:FuncId}{caps:List AV}{p:Gt->Bool}{l:List Gt}{k:Nat}{fl:Bool}(ha:mU Tryz.prog Γ φ f caps ez p l)(hk:Kd 5 k l)(hs:l.length<2^60){h:List Ob}(hφ:φ h):
 ∀up,AM.Reach Tryz.prog Γ (.cl xA [.list fl k (l.map ez),.fn (.func f) [] caps] up h) (.back up (.bool (aZ p l)) h):=by
 intro up;refine .dq 60 Rb ?_;simp;refine .dE 60 (R7 ha hk hs hφ) ?_;have h1:=An p l 0
 cases hp:aZ p l with
 |true=>rw[hp]at h1;simp at h1;simp[h1]
 |false=>
  rw[hp]at h1
  have h2:¬0<=gF p l 0:=by rw[h1];simp
  simp[h2]
def oL(g:Gt):Bool:=decide (8<g.ins.length)||decide (128<g.rows.length)
def fD(c:Ct):Bool:=aZ oL c.af||(decide (200<c.ak.length+c.ai.length+c.af.length)||decide (200<c.aq.length))
def nL(N:List Bs):List Bs->Int×Bs
 |[]=>(0,[])
 |s::l=>if s∈N then nL N l else(6,s)
def o8(r:Int×Bs):List Gt->Int×Bs
 |[]=>r
 |g::l=>if iM g=true then o8 r l else(1,g.name)
def nF(q:Lt):Bool:=decide (0<=q.init)&&decide (q.init<=2)
def ql(r:Int×Bs):List Lt->Int×Bs
 |[]=>r
 |q::l=>if nF q=true then ql r l else(1,q.name)
def rY(r:Int×Bs):List Bs->Int×Bs
 |[]=>r
 |s::l=>if dd s=true then rY r l else(4,s)
def sn:Option Bs->Int×Bs->Int×Bs
 |some s,_=>(5,s)
 |none,r=>r
def fY(c:Ct):Int×Bs:=
 if fD c=true then(8,[])else rY (sn (jn (bt c)) (sn (jn c.aq) (ql (o8 (nL (bt c) (kQ c)) c.af) c.ai))) (qo c)
abbrev uw(r:Int×Bs):AV:=.aL [.int .i64 r.1,.str r.2]
theorem Zu(g:Gt):aN Tryz.prog Γ vk [ez g] (.bool (oL g)):=by
 refine .run 60 SM (by simp) ?_;unfold oL;have e1:((8:Int)<g.ins.length)=(8<g.ins.length):=propext (by omega);have e2:((128:Int)<g.rows.length)=(128<g.rows.length):=propext (by omega)
 by_cases h1:8<g.ins.length<;>simp[e1,e2,h1]<;>exact .back (by simp[h1])
theorem Mb(l:List Gt):mU Tryz.prog Γ (fun _=>True) vk [] ez oL l:=by
 refine⟨by simp,fun g hg up h hφ=>?_⟩;exact Reach.NY (by simp) (Zu g) (fun _=>rfl) (by simp) up
abbrev Bf:Cx:=⟨[.call xT [.ptr 1 0,.ptr 2 0]],.norm,0,[]⟩
abbrev G8(c:Ct):List Ob:=[.cells (AV.cells (dT c)),.cells [.int .i64 0],.cells [.str []]]
abbrev su(c:Ct)(N:List Bs):List Ob:=[.cells (AV.cells (dT c)),.cells [.int .i64 0],.cells [.str []],.map (N.map iH) true]
set_option maxRecDepth 8000 in
theorem ab9(c:Ct)(N:List Bs)(l:List Bs)(hl:l.length<2^40):∀n i:Nat,i+n=l.length->
 aB Tryz.prog Γ (yhr (.ptr 1 0) (.ptr 2 0) (.mp 3) (.list false 1 (l.map .str)) (.int .i64 l.length) (.int .i64 i) (su c N) Bf) (.ret (uw (nL N (l.drop i)))):=by
 intro n
 induction n with
 |zero=>
  intro i hi
  have q1:¬i<l.length:=by omega
  rw[bq (by omega),nL];refine .go 160 ?_;simp[q1];exact .back (by simp)
 |succ n ih=>
  intro i hi
  have q1:i<l.length:=by omega
  have hfi:=vv l[i] N;rw[br q1,nL];have hh:=ih (i+1) (by omega);refine .go 160 ?_
  by_cases hm:l[i]∈N
  ·rw[if_pos hm]at hfi⊢;simp[q1,hfi,isKey,cz,c9];refine .call 160 (by simp) (rM 6 l[i]) ?_;simp(disch:=omega);refine .aT ?_;simp at hh⊢;exact hh
  ·rw[if_neg hm]at hfi⊢;simp[q1,hfi,isKey,cz,c9];refine .kP 160 (by simp) (lu 6 l[i]) ?_;simp;refine .dr 90 ?_;simp;exact .back (by simp)
theorem abh:eM (nR He) He.length []=[[0,1,2,3,4],[0,2,1,3,4],[0,2,3,1,4],[2,0,1,3,4],[2,0,3,1,4],[2,3,0,1,4]]:=by rfl
set_option maxRecDepth 8000 in
theorem aby(hΓ:lU Γ)(c:Ct)(hc:eP c)(N:List Bs):∀n i:Nat,i+n=c.af.length->
 aB Tryz.prog Γ (yht (.ptr 0 0) (.ptr 1 0) (.ptr 2 0) (.mp 3) (.list false c.kG (c.af.map ez)) (.int .i64 c.af.length) (.int .i64 i) (su c N) Bf) (.ret (uw (o8 (nL N (kQ c)) (c.af.drop i)))):=by
 have b:=hc.2.2.2.1;have b1:=vN hc;have b2:=hc.2.1;have b3:=hc.2.2.1;intro n
 induction n with
 |zero=>
  intro i hi
  have q1:¬i<c.af.length:=by omega
  have hh:=ab9 (Γ:=Γ) c N (kQ c) (by simp only[kQ,bp,iB];omega) (kQ c).length 0 (by omega);rw[bq (by omega),o8];refine .go 160 ?_;simp[q1];refine .call 1 (by simp) (abk c hc) ?_;simp;refine .trees [92] ?_;refine .drop 4 rfl (by simp) (by simp) (by simp) ?_;refine .go 60 ?_;simp;refine .inLoop ?_;simp at hh⊢;exact hh
 |succ n ih=>
  intro i hi
  have q1:i<c.af.length:=by omega
  have q2:=c.hG.of q1;have hG:=aa7 hΓ c.af[i] (hc.2.2.2.2.1 _ (bZ q1));rw[br q1,o8];have hh:=ih (i+1) (by omega)
  cases hb:iM c.af[i]with
  |true=>
   rw[hb]at hG;refine .go 160 ?_;simp[q1,q2];refine .dr 160 ?_;simp;refine gm.call (by simp) hG ?_;simp;refine gm.call (by simp) (rM 1 c.af[i].name) ?_;simp(disch:=omega);refine .aT ?_;simp;refine .drop 4 rfl (by simp) (by simp) (by simp) ?_;simp[q2,su]at hh⊢;exact hh
  |false=>
   rw[hb]at hG;refine .go 160 ?_;simp[q1,q2];refine .ogD 60 ?_;rw[abh];intro l hl;simp only[bw,mr,mi]at hl
   rcases hl with rfl|rfl|rfl|rfl|rfl|rfl
   all_goals
    simp;refine .NI 60 (by simp) hG ?_;simp;refine .kP 160 (by simp) (lu 1 c.af[i].name) ?_;simp;refine .dr 90 ?_;simp;exact .back (by simp)
set_option maxRecDepth 8000 in
theorem abv(hΓ:lU Γ)(c:Ct)(hc:eP c)(N:List Bs):∀n i:Nat,i+n=c.ai.length->
 aB Tryz.prog Γ (yhv (.ptr 0 0) (.ptr 1 0) (.ptr 2 0) (.mp 3) (.list false c.kL (c.ai.map na)) (.int .i64 c.ai.length) (.int .i64 i) (su c N) Bf) (.ret (uw (ql (o8 (nL N (kQ c)) c.af) (c.ai.drop i)))):=by
 have b:=hc.2.2.2.1;have b3:=hc.2.2.1;intro n
 induction n with
 |zero=>
  intro i hi
  have q1:¬i<c.ai.length:=by omega
  have hh:=aby (Γ:=Γ) hΓ c hc N c.af.length 0 (by omega);rw[bq (by omega),ql];refine .go 160 ?_;simp[q1];refine .inLoop ?_;simp[su]at hh⊢;exact hh
 |succ n ih=>
  intro i hi
  have q1:i<c.ai.length:=by omega
  have q2:=c.hL.of q1;rw[br q1,ql];have hh:=ih (i+1) (by omega);refine .go 160 ?_
  by_cases h1:0<=c.ai[i].init
  ·by_cases h2:c.ai[i].init<=2
   ·have e:nF c.ai[i]=true:=by simp[nF,h1,h2]
    simp[q1,q2,h1,h2,e];refine .call 160 (by simp) (rM 1 c.ai[i].name) ?_;simp(disch:=omega);refine .aT ?_;simp;refine .drop 4 rfl (by simp) (by simp) (by simp) ?_;simp[q2,su]at hh⊢;exact hh
   ·have e:nF c.ai[i]=false:=by simp[nF,h2]
    simp[q1,q2,h1,h2,e];refine .kP 160 (by simp) (lu 1 c.ai[i].name) ?_;simp;refine .dr 90 ?_;simp;exact .back (by simp)
  ·have e:nF c.ai[i]=false:=by simp[nF,h1]
   simp[q1,q2,h1,e];refine .kP 160 (by simp) (lu 1 c.ai[i].name) ?_;simp;refine .dr 90 ?_;simp;exact .back (by simp)
theorem aB.NN{P:Program}(n:Nat){f:FuncId}{args:List AV}{up:List Fr}{h:List Ob}{v:AV}{o:Out}(h1:∀up,∃h',AM.Reach P Γ (.cl f args up h) (.die up v (h++h')))(h2:∀h',aB P Γ (AM.go P Γ 0 n (.die up v (h++h'))) o):aB P Γ (.cl f args up h) o:=by
 obtain⟨h',hr⟩:=h1 up;exact .reach hr (.go n (h2 h'))
set_option maxRecDepth 8000 in
theorem abZ(hΓ:lU Γ)(c:Ct)(hc:eP c)(l:List Bs):∀n i:Nat,i+n=l.length->l.length<2^40->
 aB Tryz.prog Γ (yhx (.ptr 0 0) (.ptr 1 0) (.ptr 2 0) (.list false 1 (l.map .str)) (.int .i64 l.length) (.int .i64 i) (G8 c) Bf)
  (.ret (uw (rY (sn (jn (bt c)) (sn (jn c.aq) (ql (o8 (nL (bt c) (kQ c)) c.af) c.ai))) (l.drop i)))):=by
 have b0:=hc.1;have b1:=hc.2.1;have b3:=hc.2.2.1;have b4:=hc.2.2.2.1;intro n
 induction n with
 |zero=>
  intro i hi hL
  have q1:¬i<l.length:=by omega
  have hN:(bt c).length<2^40:=by simp[bt];omega
  rw[bq (by omega),rY];refine .go 160 ?_;simp[q1];refine .call 1 (by simp) (aax c hc) ?_;simp;refine .trees [54] ?_;simp;refine .go 2 ?_;simp
  cases ht:jn (bt c)with
  |some s0=>
   refine aB.NN 160 (Mv (Γ:=Γ) (fl:=false) (bt c) .self hN _ (by intro m hm;simp) ht) (fun h'=>?_);simp;refine .dr 90 ?_;simp;exact .back (by simp[sn])
  |none=>
   refine .dE 160 (Np (Γ:=Γ) (fl:=false) (bt c) .self hN _ (by intro m hm;simp) ht) ?_;simp
   cases hu:jn c.aq with
   |some s0=>
    refine aB.NN 160 (Mv (Γ:=Γ) (fl:=false) c.aq c.hO (by omega) _ (by intro m hm;simp) hu) (fun h'=>?_);simp;refine .dr 90 ?_;simp;exact .back (by simp[sn])
   |none=>
    have hh:=abv (Γ:=Γ) hΓ c hc (bt c) c.ai.length 0 (by omega);refine .dE 160 (Np (Γ:=Γ) (fl:=false) c.aq c.hO (by omega) _ (by intro m hm;simp) hu) ?_;simp;refine .inLoop ?_;simp;refine .gc 3 [1] (by simp) (by decide) ?_;simp[su,sn]at hh⊢;exact hh
 |succ n ih=>
  intro i hi hL
  have q1:i<l.length:=by omega
  rw[br q1,rY];have hh:=ih (i+1) (by omega) hL;refine .go 160 ?_;simp[q1];refine .call 160 (by simp) (Nj l[i]) ?_
  cases hb:dd l[i]with
  |true=>
   simp;refine .call 160 (by simp) (rM 4 l[i]) ?_;simp(disch:=omega);refine .aT ?_;simp at hh⊢;exact hh
  |false=>
   simp;refine .kP 160 (by simp) (lu 4 l[i]) ?_;simp;refine .dr 90 ?_;simp;exact .back (by simp)
set_option maxRecDepth 8000 in
theorem Zx(hΓ:lU Γ)(c:Ct)(hc:eP c):aN Tryz.prog Γ ou [dT c] (uw (fY c)):=by
 have b0:=hc.1;have b1:=hc.2.1;have b3:=hc.2.2.1;have b4:=hc.2.2.2.1;have t1:=tE hc;have t2:=vW hc;have hC:=Ia (Γ:=Γ) (fl:=false) (Mb c.af) c.hG (by omega) (h:=G8 c) trivial;have e0:((c.ak.length:Int)+c.ai.length+c.af.length<=200)=(c.ak.length+c.ai.length+c.af.length<=200):=propext (by omega);have e1:((c.aq.length:Int)<=200)=(c.aq.length<=200):=propext (by omega);refine .run 160 IH (by simp) ?_;unfold fY
 by_cases h1:c.ak.length+c.ai.length+c.af.length<=200
 ·by_cases h2:c.aq.length<=200
  ·simp(disch:=omega) [e0,e1,h1,h2];refine .dE 160 hC ?_
   cases h3:aZ oL c.af with
   |true=>
    have hl:fD c=true:=by simp[fD,h3]
    simp;refine .kP 160 (by simp) (lu 8 []) ?_;simp;refine .dr 90 ?_;simp;exact .back (by simp[hl])
   |false=>
    have hl:fD c=false:=by
     simp only[fD,h3,lp,jI,gK];omega
    have hh:=abZ (Γ:=Γ) hΓ c hc (qo c) (qo c).length 0 (by omega) (by simp[qo];omega);simp;refine .call 160 (by simp) (rM 8 []) ?_;simp;refine .call 1 (by simp) (aa3 c hc) ?_;simp;refine .trees [42] ?_;simp;refine .drop 3 rfl (by simp) (by simp) (by simp) ?_;refine .go 60 ?_;simp;refine .inLoop ?_;simp[hl]at hh⊢;exact hh
  ·have hl:fD c=true:=by
    simp only[fD,fR,a8];right;right;omega
   simp(disch:=omega) [e0,e1,h1,h2];refine .kP 160 (by simp) (lu 8 []) ?_;simp;refine .dr 90 ?_;simp;exact .back (by simp[hl])
 ·have hl:fD c=true:=by
   simp only[fD,fR,a8];right;left;omega
  simp(disch:=omega) [e0,e1,h1];refine .kP 160 (by simp) (lu 8 []) ?_;simp;refine .dr 90 ?_;simp;exact .back (by simp[hl])
def ee(s:List UInt8):List (List UInt8)->Nat->Int
 |[],_=>-1
 |a::l,i=>if s=a then(i:Int)else ee s l (i+1)
theorem D5(s:List UInt8):∀(l:List (List UInt8))(i:Nat),decide (0<=ee s l i)=l.contains s
 |[],i=>by simp[ee]
 |a::l,i=>by
  rw[ee,Q6]
  by_cases h:s=a
  ·rw[if_pos h];simp[h]
  ·rw[if_neg h,D5 s l (i+1)]
   have:(s==a)=false:=by simpa using h
   rw[this];rfl
theorem LV(l:List (List UInt8))(s:List UInt8){k:Nat}(hk:Kd 1 k l)(hl:l.length<2^40):aN Tryz.prog Γ sF [.list false k (l.map .str),.str s] (.int .i64 (ee s l 0)):=by
 have key:∀n i:Nat,i+n=l.length->aB Tryz.prog Γ (ymc (.list false k (l.map .str)) (.str s) (.int .i64 l.length) (.int .i64 i) []) (.ret (.int .i64 (ee s (l.drop i) i))):=by
  intro n
  induction n with
  |zero=>
   intro i hi
   have q1:¬i<l.length:=by omega
   rw[bq (by omega),ee];refine .go 60 ?_;simp[q1];exact .back (by simp)
  |succ n ih=>
   intro i hi
   have q1:i<l.length:=by omega
   have q2:=bl (hk.of q1);have hh:=ih (i+1) (by omega);rw[br q1,ee];refine .go 60 ?_
   by_cases h:s=l[i]
   ·simp[q1,q2,h];exact .back (by simp)
   ·simp(disch:=omega) [q1,q2,h];refine .aT ?_;simp at hh⊢;exact hh
 refine .run 60 Ru (by simp) ?_;simp;refine .inLoop ?_;have hh:=key l.length 0 (by omega);simp at hh⊢;exact hh
theorem pV(a b:List (List UInt8)){ka kb:Nat}(ha:Kd 1 ka a)(hb:Kd 1 kb b)(hs:a.length<2^60):aN Tryz.prog Γ lr [.list false ka (a.map .str),.list false kb (b.map .str)] (.bool (decide (a=b))):=by
 refine .run 60 TY (by simp) ?_
 by_cases hl:a.length=b.length
 ·have key:∀n i:Nat,i+n=a.length->aB Tryz.prog Γ (yfq (.list false ka (a.map .str)) (.list false kb (b.map .str)) (.int .i64 i) []) (.ret (.bool (decide (a.drop i=b.drop i)))):=by
   intro n
   induction n with
   |zero=>
    intro i hi;refine .go 60 ?_
    have h1:¬i<a.length:=by omega
    have h2:a.drop i=b.drop i:=by rw[bq (by omega),bq (by omega)]
    simp[h1,h2];exact .back (by simp)
   |succ n ih=>
    intro i hi
    have h1:i<a.length:=by omega
    have h2:i<b.length:=by omega
    obtain rfl:=ha.of h1;obtain rfl:=hb.of h2;have h4:=drop_eq h1 h2;refine .go 60 ?_
    by_cases h3:a[i]=b[i]
    ·simp(disch:=omega) [h1,h2,h3,h4];refine .aT ?_;simpa using ih (i+1) (by omega)
    ·simp(disch:=omega) [h1,h2,h3,h4];exact .back (by simp)
  simp[hl];refine .inLoop ?_;simpa[hl]using key a.length 0 (by omega)
 ·have h2:¬a=b:=fun e=>hl (by rw[e])
  simp[hl,h2];exact .back (by simp)
abbrev Gt.key(g:Gt):Bs×Int×Bool×List Bs×List Bs:=(g.name,g.op,g.off,g.ins,g.rows)
def lG(a b:Gt):Bool:=decide (a.key=b.key)
theorem SB(a b:Gt)(ha:AF a):aN Tryz.prog Γ xM [ez a,ez b] (.bool (lG a b)):=by
 have h1:=pV (Γ:=Γ) a.ins b.ins a.hi b.hi (by have:=ha.2.1;omega);have h2:=pV (Γ:=Γ) a.rows b.rows a.hr b.hr (by have:=ha.2.2.1;omega);refine .run 90 Sw (by simp) ?_
 by_cases q1:a.name=b.name
 ·by_cases q2:a.op=b.op
  ·by_cases q3:a.off=b.off
   ·have e:lG a b=(decide (a.ins=b.ins)&&decide (a.rows=b.rows)):=by
     rw[gL];simp[lG,q1,q2,q3]
    rw[e];simp[q1,q2,q3];refine .call 90 (by simp) h1 ?_
    by_cases q4:a.ins=b.ins
    ·simp[q4];refine .call 90 (by simp) h2 ?_;simp;exact .back (by simp[q4])
    ·simp[q4];exact .back (by simp[q4])
   ·have e:lG a b=false:=by simp[lG,q3]
    rw[e]
    cases ha:a.off<;>cases hb:b.off<;>simp[ha,hb]at q3<;>simp[q1,q2,ha,hb]<;>exact .back (by simp)
  ·have e:lG a b=false:=by simp[lG,q2]
   rw[e];simp[q1,q2];exact .back (by simp)
 ·have e:lG a b=false:=by simp[lG,q1]
  rw[e];simp[q1];exact .back (by simp)
def kM:List Gt->List Gt->Bool
 |[],[]=>true
 |a::l,b::m=>lG a b&&kM l m
 |_,_=>false
theorem Kg:∀{a b:List Gt},kM a b=true->a.length=b.length
 |[],[],_=>rfl
 |a::l,b::m,h=>by
  rw[kM,aC]at h;simp[Kg h.2]
 |[],_::_,h=>by cases h
 |_::_,[],h=>by cases h
def rX(a b:Ct):Bool:=decide (a.ak=b.ak)&&(decide (a.aq=b.aq)&&(decide (a.ai=b.ai)&&kM a.af b.af))
abbrev GS(a b:Ct):List Ob:=[.cells (AV.cells (dT a)),.cells (AV.cells (dT b))]
set_option maxRecDepth 8000 in
theorem ZD(a b:Ct)(ha:eP a)(hl:a.af.length=b.af.length):∀n i:Nat,i+n=a.af.length->aB Tryz.prog Γ (yeb (.ptr 0 0) (.ptr 1 0) (.int .i64 i) (GS a b)) (.ret (.bool (kM (a.af.drop i) (b.af.drop i)))):=by
 have b4:=ha.2.2.2.1;intro n
 induction n with
 |zero=>
  intro i hi
  have h1:¬i<a.af.length:=by omega
  rw[bq (by omega),bq (by omega)];refine .go 60 ?_;simp[h1];exact .back (by simp[kM])
 |succ n ih=>
  intro i hi
  have h1:i<a.af.length:=by omega
  have h2:i<b.af.length:=by omega
  have q2:=bl (a.hG.of h1);have q3:=bl (b.hG.of h2);have hh:=ih (i+1) (by omega);have hc:=SB (Γ:=Γ) a.af[i] b.af[i] (ha.2.2.2.2.1 _ (bZ h1));rw[br h1,br h2,kM];refine .go 60 ?_;simp[h1,h2,q2,q3];refine .dr 60 ?_;simp[h1,h2,q2,q3];refine gm.call (by simp) hc ?_
  cases h3:lG a.af[i] b.af[i]with
  |true=>
   simp(disch:=omega);refine .aT ?_;simp at hh⊢;exact hh
  |false=>
   simp;exact .back (by simp)
set_option maxRecDepth 8000 in
theorem XB(a b:Ct)(ha:eP a)(hl:a.ai.length=b.ai.length)(hg:a.af.length=b.af.length):∀n i:Nat,i+n=a.ai.length->aB Tryz.prog Γ (yed (.ptr 0 0) (.ptr 1 0) (.int .i64 i) (GS a b)) (.ret (.bool (decide (a.ai.drop i=b.ai.drop i)&&kM a.af b.af))):=by
 have b4:=ha.2.2.1;intro n
 induction n with
 |zero=>
  intro i hi
  have h1:¬i<a.ai.length:=by omega
  have hh:=ZD (Γ:=Γ) a b ha hg a.af.length 0 (by omega);rw[bq (by omega),bq (by omega)];refine .go 60 ?_;simp[h1];refine .inLoop ?_;simp at hh⊢;exact hh
 |succ n ih=>
  intro i hi
  have h1:i<a.ai.length:=by omega
  have h2:i<b.ai.length:=by omega
  have q2:=bl (a.hL.of h1);have q3:=bl (b.hL.of h2);have hh:=ih (i+1) (by omega);have h4:=drop_eq h1 h2;have he:=Dy a.ai[i] b.ai[i];refine .go 60 ?_
  by_cases h3:a.ai[i]=b.ai[i]
  ·simp(disch:=omega) [h1,h2,q2,q3,h3,Dy,h4];refine .aT ?_;simp at hh⊢;exact hh
  ·simp(disch:=omega) [h1,h2,q2,q3,h3,Dy,h4];exact .back (by simp)
theorem Uz(a b:Ct)(ha:eP a):aN Tryz.prog Γ s8 [dT a,dT b] (.bool (rX a b)):=by
 have h1:=pV (Γ:=Γ) a.ak b.ak a.hI b.hI (by have:=ha.1;omega);have h2:=pV (Γ:=Γ) a.aq b.aq a.hO b.hO (by have:=ha.2.1;omega);refine .run 90 U3 (by simp) ?_;unfold rX;simp;refine .call 90 (by simp) h1 ?_
 by_cases q1:a.ak=b.ak
 ·simp[q1];refine .call 90 (by simp) h2 ?_
  by_cases q2:a.aq=b.aq
  ·by_cases q3:a.ai.length=b.ai.length
   ·by_cases q4:a.af.length=b.af.length
    ·have hh:=XB (Γ:=Γ) a b ha q3 q4 a.ai.length 0 (by omega);simp[q2,q3,q4];refine .inLoop ?_;simp[q1,q2,GS]at hh⊢;exact hh
    ·have e:kM a.af b.af=false:=by
      cases h:kM a.af b.af with
      |false=>rfl
      |true=>exact absurd (Kg h) q4
     simp[q2,q3,q4];exact .back (by simp[e])
   ·have e:decide (a.ai=b.ai)=false:=by
     rw[gK];exact fun h=>q3 (by rw[h])
    simp only[e];simp[q2,q3];exact .back (by simp)
  ·simp[q2];exact .back (by simp)
 ·simp[q1];exact .back (by simp)
end Go.Proofs.YtchjijfjidlpjaaGreatDoor
namespace Go.Proofs.YtchjijfjidlpjaaGreatDoor
open Go.AM Go.Proofs
theorem EP(a b:Nat):bU (.sc .int) (.int .i64 a) (.int .i64 b)=some (decide (a=b)):=by
 simp only[bU,eD]
 by_cases h:a=b
 ·simp[h]
 ·have h2:¬(a:Int)=b:=by omega
  simp[h,h2]
section
variable{K:Type}[DecidableEq K]{E:EK}{e:K->AV}(he:∀a b,bU E (e a) (e b)=some (decide (a=b)))
def getM{V:Type}(k:K):List (K×V)->Option V
 |[]=>none
 |(a,v)::l=>if k=a then some v else getM k l
theorem getM_none{V:Type}{k:K}:∀{l:List (K×V)},getM k l=none↔∀x∈l,¬x.1=k
 |[]=>by simp[getM]
 |(a,v)::l=>by
  rw[getM]
  by_cases h:k=a
  ·rw[if_pos h];simp[h]
  ·rw[if_neg h,getM_none];simp only[bw,HV];exact⟨fun h1=>⟨fun h2=>h h2.symm,h1⟩,fun h1=>h1.2⟩
include he
theorem Jl{V:Type}(ev:V->AV)(k:K):∀l:List (K×V),fm E (e k) (l.map fun x=>(e x.1,ev x.2))=some ((getM k l).map ev)
 |[]=>rfl
 |(a,v)::l=>by
  simp only[cv,fm,he,getM]
  by_cases h:k=a
  ·simp[h]
  ·simp only[h,pL,cE];exact Jl ev k l
theorem KI{V:Type}(ev:V->AV){k:K}(v:V):∀{l:List (K×V)},getM k l=none->iK E (e k) (ev v) (l.map fun x=>(e x.1,ev x.2))=some ((l++[(k,v)]).map fun x=>(e x.1,ev x.2))
 |[],_=>rfl
 |(a,u)::l,h=>by
  rw[getM]at h
  by_cases h2:k=a
  ·rw[if_pos h2]at h;cases h
  ·rw[if_neg h2]at h;simp only[cv,iK,he,h2,pL,KI ev v h,eb,ek]
end
end Go.Proofs.YtchjijfjidlpjaaGreatDoor
namespace Go.Proofs.YtchjijfjidlpjaaGreatDoor
open Go.AM Go.Proofs
variable{Γ:Nat->Option AV}
def jD(c:Ct):List (Bs×Nat):=c.af.zipIdx.map fun x=>(x.1.name,x.2)
abbrev Qz(x:Bs×Nat):AV×AV:=(.str x.1,.int .i64 x.2)
theorem Ew(c:Ct):(jD c).length=c.af.length:=by simp[jD]
theorem MZ(c:Ct)(i:Nat)(h:i<c.af.length):(jD c)[i]'(by rw[Ew];exact h)=(c.af[i].name,i):=by simp[jD]
abbrev hW(c:Ct)(n:Nat):List Ob:=[.cells [.sl (n+1) 0 c.af.length,.sl (n+2) 0 c.af.length],.row 1 Ig (List.replicate c.af.length .eu) none true false,.row 1 My (List.replicate c.af.length (.list true 0 [])) none true false]
section
variable{c:Ct}{p:Nat}{x2 x3:AV}{H:List Ob}{up:List Fr}{base:Nat}{k:List It}{C:AM.aw}
end
abbrev eK(k:Nat):AV×AV:=(.int .i64 k,.bool true)
def acC(l:List Nat):Ob:=.row 1 az (l.map iN) none true false
def aco(l:List Nat):Ob:=.map (l.map eK) true
def abQ(n N m:Nat):List AV:=(List.range m).map (fun i=>AV.mp (n+(3+(N+i))))++List.replicate (N-m) .eu
def byE(n:Nat)(b:List (List Nat)):List AV:=b.mapIdx fun j l=>AV.sl (n+(3+j)) 0 l.length
def hF(n N m:Nat)(b:List (List Nat)):List Ob:=[.cells [.sl (n+1) 0 N,.sl (n+2) 0 N],.row 1 Ig (abQ n N m) none (decide (m=0)) false,.row 1 My (byE n b) none (decide (b.length=0)) false]
def hQ(H:List Ob)(nd b:List (List Nat)):List Ob:=H++(hF H.length b.length nd.length b++(b.map acC++nd.map aco))
section
variable{H:List Ob}{nd b:List (List Nat)}
end
def gD(pl:List (Bs×Nat)):List Bs->List Nat->List Nat
 |[],a=>a
 |s::r,a=>match getM s pl with
  |none=>gD pl r a
  |some k=>gD pl r (if k∈a then a else a++[k])
def qF(pl:List (Bs×Nat))(i:Nat):List Bs->List Nat->List (List Nat)->List (List Nat)
 |[],_,b=>b
 |s::r,a,b=>match getM s pl with
  |none=>qF pl i r a b
  |some k=>qF pl i r (if k∈a then a else a++[k]) (if k∈a then b else b.set k (b.getD k []++[i]))
theorem KW{i m:Nat}{o:Ob}(ho:mV i m o=true):∀{h:List Ob}(j:Nat),ew i m h=true->ew i m (h.set j o)=true
 |[],_,h1=>h1
 |o'::h,0,h1=>by
  simp only[ew,aC,xj]at h1⊢;exact⟨ho,h1.2⟩
 |o'::h,j+1,h1=>by
  simp only[ew,aC,uP]at h1⊢;exact⟨h1.1,KW ho j h1.2⟩
theorem FW.set{h:List Ob}(hw:FW h){o:Ob}(hb:∀i m,h.length<=i->mV i m o=true)(j:Nat):FW (h.set j o):=fun i m hi=>by
 rw[kp]at hi;exact KW (hb i m hi) j (hw i m hi)
abbrev Li:Type:=Nat×UInt8
def bJ:Bs->Nat->List Li
 |[],_=>[]
 |c::s,i=>if c=45 then bJ s (i+1)else(i,c)::bJ s (i+1)
def d_(x:Li)(s:Bs):Bool:=decide (x∈bJ s 0)
def fK(x:Li):Fm:=⟨2,if x.2=48 then 2*x.1+1 else 2*x.1,0⟩
def Left(P:Program)(Γ:Nat->Option AV)(c:AM.aw)(up:List Fr)(v:AV)(h:List Ob):Prop:=∃J,AM.Reach P Γ c (.back up v (h++J))
section
variable{P:Program}{c c':AM.aw}{up up':List Fr}{v:AV}{h h':List Ob}
theorem Left.to(h1:AM.Reach P Γ c c')(h2:Left P Γ c' up v h):Left P Γ c up v h:=h2.imp fun _ h3=>.trans h1 h3
theorem Left.du(n:Nat)(h1:Left P Γ (AM.go P Γ 2 n c) up v h):Left P Γ c up v h:=.to (Reach.goes n c) h1
theorem Left.pop(n:Nat)(h1:Left P Γ (AM.go P Γ 2 n (AM.pop c)) up v h):Left P Γ c up v h:=.to (.pop c) (.du n h1)
theorem Left.back(J:List Ob):Left P Γ (.back up v (h++J)) up v h:=⟨J,.refl _⟩
theorem Left.inLoop{fn:FuncId}{its:List It}{t:List AV}{ds:List di}{kind:FK}{base:Nat}{m:List Bool}{b:an}
 (h1:Left P Γ (.fr ⟨.run,fn,.code b::.inLoop m b::its,cW m t,ds,kind,base⟩ up' h') up v h):Left P Γ (.fr ⟨.run,fn,.code (.loop m b)::its,t,ds,kind,base⟩ up' h') up v h:=.to (AM.Reach.inLoop (.refl _)) h1
end
end Go.Proofs.YtchjijfjidlpjaaGreatDoor
