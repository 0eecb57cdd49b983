/- Forms: the reader. -/
import Derived.Test.YtchjijfjidlpjaaGreatDoorF
import Derived.Shelf.Strings.SlTrimAscii
import Derived.Test.YtchjijfjidlpjaaGreatDoorShelf
import Derived.Test.YtchjijfjidlpjaaGreatDoorCode
import Derived.Test.YtchjijfjidlpjaaGreatDoorAMd
import Derived.Laws.RangeString
import Derived.Laws.RangeAny
set_option linter.unusedSimpArgs false
set_option linter.unusedVariables false
namespace Go.Proofs.YtchjijfjidlpjaaGreatDoor
open Go.AM Go.Proofs
variable{Γ:Nat->Option AV}
def fe(n:Int)(x:Fm):Bool:=
 if x.kind=2 then decide (0<=x.lit)&&(decide (x.lit/2<n)&&decide (x.kids=0))
 else if x.kind=3\/x.kind=4 then decide (x.lit=0)&&decide (2<=x.kids)
 else if x.kind=0\/x.kind=1 then decide (x.lit=0)&&decide (x.kids=0)
 else false
def f_(rd:List Fm->Option (Bool×List Fm))(a:Bool):Nat->Bool->List Fm->Option (Bool×List Fm)
 |0,v,l=>some (v,l)
 |k+1,v,l=>match rd l with
  |none=>none
  |some (w,l')=>f_ rd a k (if a then w&&v else w||v) l'
def eU(n:Int)(val:Int->Bool):Nat->List Fm->Option (Bool×List Fm)
 |0,_=>none
 |_+1,[]=>none
 |f+1,x::l=>if fe n x=true then(if x.kind=2 then some (val x.lit,l)else f_ (eU n val f) (decide (x.kind=3)) x.kids.toNat (decide (x.kind=1)||decide (x.kind=3)) l)else none
section
variable{n:Int}{F:AV}{i:Nat}
end
theorem Oc{rd:List Fm->Option (Bool×List Fm)}{a:Bool}(hr:∀l v l',rd l=some (v,l')->l'.length<l.length):∀(k:Nat)(v:Bool)(l:List Fm)(w:Bool)(l':List Fm),f_ rd a k v l=some (w,l')->l'.length<=l.length
 |0,v,l,w,l',h=>by simp only[f_,ak,bY]at h;rw[h.2];exact aQ _
 |k+1,v,l,w,l',h=>by
  simp only[f_]at h
  split at h
  ·cases h
  ·rename_i u l1 hu;have h1:=hr _ _ _ hu;have h2:=Oc hr k _ _ _ _ h;omega
theorem GF(n:Int)(val:Int->Bool):∀(f:Nat)(l:List Fm)(v:Bool)(l':List Fm),eU n val f l=some (v,l')->l'.length<l.length
 |0,l,v,l',h=>by simp[eU]at h
 |f+1,[],v,l',h=>by simp[eU]at h
 |f+1,x::l,v,l',h=>by
  simp only[eU]at h
  split at h
  ·split at h
   ·simp only[ak,bY]at h
    rw[<-h.2,bE];omega
   ·have:=Oc (GF n val f) _ _ _ _ _ h
    rw[bE];omega
  ·cases h
section
variable{n:Int}{i:Nat}{φ:List Ob->Prop}{f:FuncId}{caps:List AV}{val:Int->Bool}
end
def Dw(n:Int)(val:Int->Bool)(l:List Fm):Option Bool:=
 if l.length<=4000/\0<=n/\n<=4000 then(match eU n val l.length l with
  |some (v,[])=>some v
  |_=>none)else none
def SN:Option Bool->Int
 |some _=>0
 |none=>1
@[simp] theorem az9(v:Bool):SN (some v)=0:=rfl
@[simp] theorem aAh:SN none=1:=rfl
def rb(v:List Bool)(a:Int):Bool:=!decide (v.getD (a/2).toNat false=decide (a%2=1))
def kV(rd:Gr->List Fm->Gr×Option (Nat×List Fm)):Nat->Gr->List Nat->List Fm->Gr×Option (List Nat×List Fm)
 |0,x,ks,l=>(x,some (ks,l))
 |k+1,x,ks,l=>fL (rd x l) fun y p=>kV rd k y (ks++[p.1]) p.2
def wB(t:Fm)(y:Gr)(p:List Nat×List Fm):Gr×Option (Nat×List Fm):=eF (fun c=>(c,p.2)) (if t.kind=3 then iJ 0 y p.1 else eF (·^^^1) (iJ 1 y p.1))
def jw(ins:List Nat):Nat->Gr->List Fm->Gr×Option (Nat×List Fm)
 |0,x,_=>(x,none)
 |_+1,x,[]=>(x,none)
 |f+1,x,t::l=>if t.kind=2 then(x,some (ins.getD (t.lit/2).toNat 0^^^(t.lit%2).toNat,l))
  else if t.kind=0\/t.kind=1 then(x,some (t.kind.toNat,l))
  else fL (kV (jw ins f) t.kids.toNat x [] l) (wB t)
def IQ(x:Gr)(r:Gr×Option (Nat×List Fm)):Prop:=il x r.1/\∀p,r.2=some p->p.1<r.1.lits
def aic(x:Gr)(r:Gr×Option (List Nat×List Fm)):Prop:=il x r.1/\∀p,r.2=some p->∀a∈p.1,a<r.1.lits
theorem BM{rd:Gr->List Fm->Gr×Option (Nat×List Fm)}(ins:List Nat)(hr:∀x l,x.Ok->(∀a∈ins,a<x.lits)->IQ x (rd x l)):∀(k:Nat)(x:Gr)(ks:List Nat)(l:List Fm),x.Ok->(∀a∈ins,a<x.lits)->(∀a∈ks,a<x.lits)->aic x (kV rd k x ks l)
 |0,x,ks,l,ok,hi,hk=>⟨.refl ok,fun p hp=>by cases hp;exact hk⟩
 |k+1,x,ks,l,ok,hi,hk=>by
  rw[kV];have h1:=hr x l ok hi
  cases h:rd x l with
  |mk y r=>
   rw[h]at h1
   cases r with
   |none=>exact⟨h1.1,fun p hp=>by cases hp⟩
   |some p=>
    have h2:=h1.2 p rfl
    have:=BM ins hr k y (ks++[p.1]) p.2 h1.1.ok (fun a ha=>lu (hi a ha) h1.1.lits) (fun a ha=>by
     rcases aT.1 ha with ha|ha
     ·exact lu (hk a ha) h1.1.lits
     ·simp only[cE]at ha;subst ha;exact h2)
    exact⟨h1.1.trans this.1,this.2⟩
theorem abC{t:Fm}{y:Gr}{p:List Nat×List Fm}(ok:y.Ok)(hp:∀a∈p.1,a<y.lits):IQ y (wB t y p):=by
 have h3:kx y (if t.kind=3 then iJ 0 y p.1 else eF (·^^^1) (iJ 1 y p.1)):=by
  split
  ·exact y7 (by omega) ok hp
  ·exact(y7 (by omega) ok hp).Dx (by omega)
 refine⟨h3.1,fun q hq=>?_⟩;simp only[wB,eF,cf]at hq;obtain⟨c,hc,rfl⟩:=hq;exact h3.2 c hc
theorem aeq(x:Gr):2<=x.lits:=by unfold Gr.lits Gr.all Gr.first;omega
theorem abM(x:Gr):x.lits=2*x.all:=rfl
theorem tE(ins:List Nat):∀(f:Nat)(x:Gr)(l:List Fm),x.Ok->(∀a∈ins,a<x.lits)->IQ x (jw ins f x l)
 |0,x,l,ok,hi=>⟨.refl ok,fun p hp=>by cases hp⟩
 |f+1,x,[],ok,hi=>⟨.refl ok,fun p hp=>by cases hp⟩
 |f+1,x,t::l,ok,hi=>by
  rw[jw]
  split
  ·refine⟨.refl ok,fun p hp=>?_⟩
   cases hp
   refine vS (n:=x.all) (by omega) ?_;rw[<-abM];rw[bq]
   cases h:ins[(t.lit/2).toNat]? with
   |none=>exact zj x
   |some a=>exact hi a (i_ h)
  ·split
   ·rename_i h;refine⟨.refl ok,fun p hp=>?_⟩
    cases hp
    have:=aeq x
    simp only;omega
   ·have h1:=BM ins (tE ins f) t.kids.toNat x [] l ok hi (fun a ha=>by cases ha)
    cases h:kV (jw ins f) t.kids.toNat x [] l with
    |mk y r=>
     rw[h]at h1
     cases r with
     |none=>exact⟨h1.1,fun p hp=>by cases hp⟩
     |some p=>
      have h2:=abC (t:=t) h1.1.ok (h1.2 p rfl);exact⟨h1.1.trans h2.1,h2.2⟩
theorem P6{rd:List Fm->Option (Bool×List Fm)}{a:Bool}(hr:∀l v l',rd l=some (v,l')->l'.length<l.length):∀(k:Nat)(v:Bool)(l:List Fm)(w:Bool)(l':List Fm),f_ rd a k v l=some (w,l')->k<=l.length
 |0,v,l,w,l',h=>wW _
 |k+1,v,l,w,l',h=>by
  rw[f_]at h
  cases h1:rd l with
  |none=>rw[h1]at h;cases h
  |some u=>
   rw[h1]at h;obtain⟨u1,u2⟩:=u;have:=hr l u1 u2 h1;have:=P6 hr k _ _ _ _ h;omega
theorem MY{rd:Gr->List Fm->Gr×Option (Nat×List Fm)}{rf:List Fm->Option (Bool×List Fm)}{b:Bool}(hr:∀x l y c l2 v l3,rd x l=(y,some (c,l2))->rf l=some (v,l3)->l2=l3):∀(k:Nat)(x:Gr)(ks:List Nat)(l:List Fm)(v:Bool){y:Gr}{q:List Nat}{l2:List Fm}{w:Bool}{l3:List Fm},kV rd k x ks l=(y,some (q,l2))->f_ rf b k v l=some (w,l3)->l2=l3
 |0,x,ks,l,v,y,q,l2,w,l3,h1,h2=>by
  rw[kV]at h1;rw[f_]at h2;cases h1;cases h2;rfl
 |k+1,x,ks,l,v,y,q,l2,w,l3,h1,h2=>by
  rw[kV]at h1;rw[f_]at h2
  cases h:rd x l with
  |mk z r=>
   rw[h]at h1
   cases r with
   |none=>cases h1
   |some p=>
    cases h3:rf l with
    |none=>rw[h3]at h2;cases h2
    |some u=>
     rw[h3]at h2;obtain⟨c,l4⟩:=p;obtain⟨u1,u2⟩:=u;have:=hr x l z c l4 u1 u2 h h3;subst this;exact MY hr k z _ _ _ h1 h2
theorem Gi(ins:List Nat)(n:Int)(val:Int->Bool):∀(f:Nat)(x:Gr)(l:List Fm)(y:Gr)(c:Nat)(l2:List Fm)(v:Bool)(l3:List Fm),jw ins f x l=(y,some (c,l2))->eU n val f l=some (v,l3)->l2=l3
 |0,x,l,y,c,l2,v,l3,h1,h2=>by cases h1
 |f+1,x,[],y,c,l2,v,l3,h1,h2=>by cases h1
 |f+1,x,t::l,y,c,l2,v,l3,h1,h2=>by
  rw[jw]at h1;rw[eU]at h2
  split at h2
  ·rename_i ho
   split at h2
   ·rename_i k2;rw[if_pos k2]at h1
    cases h1;cases h2;rfl
   ·rename_i k2;rw[if_neg k2]at h1
    split at h1
    ·rename_i k01
     have hk:t.kids=0:=by
      unfold fe at ho;rw[if_neg k2,if_neg (by omega),if_pos k01]at ho;simp at ho;exact ho.2
     rw[hk]at h2
     cases h1
     simp only[Int.toNat_zero,f_]at h2
     cases h2;rfl
    ·cases h:kV (jw ins f) t.kids.toNat x [] l with
     |mk z r=>
      rw[h]at h1
      cases r with
      |none=>cases h1
      |some p=>
       obtain⟨q,l4⟩:=p;have:=MY (Gi ins n val f) _ _ _ _ _ h h2;subst this;simp only[fL,wB,eF,bY,cf]at h1;obtain⟨_,d,_,_,rfl⟩:=h1;rfl
  ·cases h2
def pM:Bs:=[48,49,45]
def mM(c:UInt8):Bool:=decide (c=48)||(decide (c=49)||decide (c=45))
def pB(n:Nat)(s:Bs):Bool:=s.all mM&&decide (s.length=n)
theorem aga(c:UInt8):pM.contains c=mM c:=by
 revert c
 rw[show(∀c:UInt8,pM.contains c=mM c)↔∀n:Fin 256,pM.contains (UInt8.ofNat n)=mM (UInt8.ofNat n)from
  ⟨fun h n=>h _,fun h c=>by have:=h ⟨c.toNat,c.toNat_lt⟩;simpa using this⟩]
 decide+kernel
theorem tg{α:Type}{p:α->Bool}:∀{l:List α},l.dropWhile p=[]↔∀x∈l,p x=true
 |[]=>by simp
 |a::l=>by
  rw[List.dropWhile_cons]
  cases h:p a with
  |true=>simp[tg (l:=l),h]
  |false=>simp[h]
theorem dropWhile_nil{α:Type}(p:α->Bool)(l:List α)(h:∀x∈l.dropWhile p,p x=true):l.dropWhile p=[]:=by
 cases hd:l.dropWhile p with
 |nil=>rfl
 |cons a t=>
  have h1:=List.head_dropWhile_not p (l:=l) (by rw[hd];simp);simp only[hd,List.head_cons]at h1;rw[h a (by rw[hd];simp)]at h1
  cases h1
theorem Pl(s:Bs):(Lib.trimS s pM=[])↔s.all mM=true:=by
 have e:(fun c=>pM.contains c)=mM:=funext aga;unfold Lib.trimS Lib.trimLeftS Lib.trimRightS;rw[e];constructor
 ·intro h
  have h1:=dropWhile_nil mM s.reverse fun x hx=>by
   have:=tg.1 h x (by simpa using hx);exact this
  have h2:=tg.1 h1;rw[dU];intro x hx;exact h2 x (by simpa using hx)
 ·intro h
  have h1:s.reverse.dropWhile mM=[]:=tg.2 fun x hx=>dU.1 h x (by simpa using hx)
  rw[h1];rfl
theorem Rw(s:Bs)(hs:s.length<2^40):aS Tryz.prog Γ uX [.str s,.str pM] (.str (Lib.trimS s pM)):=by
 refine aS.Jc (by simp) (fun _=>rfl) rfl fun N g h w us _ hV=>?_
 obtain⟨us,rfl,h1⟩:=Dg hV;obtain⟨us,rfl,h2⟩:=Dg h1;obtain rfl:=HX h2;refine(Any.strings_Trim_laid Tryz.P_ (by kernel_rfl) ⟨s.toArray⟩ ⟨pM.toArray⟩ w (by simp[ByteArray.size];omega) (by decide) (ascii_of_all (by decide))).mono ?_
 rintro e' w' ⟨rfl,hB⟩
 exact⟨⟨_,rfl,fun _ _=>by simp[V]⟩,hB⟩
theorem aiN(s:Bs)(n:Nat)(hs:s.length<2^40):aS Tryz.prog Γ B2 [.str s,.int .i64 n] (.bool (pB n s)):=by
 refine .run 60 acr (by simp) ?_;unfold pB
 by_cases h:s.length=n
 ·have h':(s.length:Int)=n:=by omega
  have hT:=Rw (Γ:=Γ) s hs;unfold pM at hT
  have h2:decide (Lib.trimS s [48,49,45]=[])=s.all mM:=by
   rw[fT,V9];exact Pl s
  simp[h,h'];refine .call 60 (by simp) hT ?_;simp[h2];exact .back (by simp[h2,h])
 ·have h':¬(s.length:Int)=n:=by omega
  simp[h,h'];exact .back (by simp[h])
end Go.Proofs.YtchjijfjidlpjaaGreatDoor
namespace Go.Proofs.YtchjijfjidlpjaaGreatDoor
abbrev Al:Nat:=1
abbrev Sp:Nat:=0
abbrev IY:Nat:=4
theorem H4:Tryz.prog.globalNamed "internal/strconv.uint64pow10" =some IY:=by kernel_rfl
end Go.Proofs.YtchjijfjidlpjaaGreatDoor
namespace Go.Proofs.YtchjijfjidlpjaaGreatDoor
open Go.AM Go.Proofs
variable{Γ:Nat->Option AV}
theorem X_{φ:List Ob->Prop}{f:FuncId}{caps:List AV}{p:(List UInt8)->Bool}{l:List (List UInt8)}{k:Nat}{fl:Bool}(ha:jA Tryz.prog Γ φ f caps AV.str p l)(hk:Kd 1 k l)(hs:l.length<2^60){h:List Ob}(hφ:φ h):
 ∀up,AM.Reach Tryz.prog Γ (.cl s6 [.list fl k (l.map AV.str),.fn (.func f) [] caps] up h) (.back up (.int .i64 (eX p l 0)) h):=by
 intro up
 have key:∀n i:Nat,i+n=l.length->AM.Reach Tryz.prog Γ (UO (.list fl k (l.map AV.str)) (.fn (.func f) [] caps) (.int .i64 l.length) (.int .i64 i) h ⟨[],.norm,h.length,up⟩) (.back up (.int .i64 (eX p (l.drop i) i)) h):=by
  intro n
  induction n with
  |zero=>
   intro i hi
   have h1:¬i<l.length:=by omega
   refine .a8 60 ?_;rw[bA (by omega)];simp[h1,eX]
  |succ n ih=>
   intro i hi
   have h1:i<l.length:=by omega
   obtain rfl:=hk.of h1;have h2:=ha.2 l[i] (bw h1);rw[bJ h1,eX];have hh:=ih (i+1) (by omega);refine .a8 60 ?_;simp[h1,ha.1];refine .aW 60 (fun up=>h2 up h hφ) ?_
   cases hp:p l[i]with
   |true=>simp(disch:=omega) [hp]
   |false=>
    simp(disch:=omega) [hp];refine .aO ?_;simp at hh⊢;exact hh
 refine .bt 60 LG ?_;simp;refine .inLoop ?_;have hh:=key l.length 0 (by omega);simp at hh⊢;exact hh
theorem Bf{φ:List Ob->Prop}{f:FuncId}{caps:List AV}{p:(List UInt8)->Bool}{l:List (List UInt8)}{k:Nat}{fl:Bool}(ha:jA Tryz.prog Γ φ f caps AV.str p l)(hk:Kd 1 k l)(hs:l.length<2^60){h:List Ob}(hφ:φ h):
 ∀up,AM.Reach Tryz.prog Γ (.cl sZ [.list fl k (l.map AV.str),.fn (.func f) [] caps] up h) (.back up (.bool (bH p l)) h):=by
 intro up;refine .bt 60 Wk ?_;simp;refine .aW 60 (X_ ha hk hs hφ) ?_;have h1:=CG p l 0
 cases hp:bH p l with
 |true=>rw[hp]at h1;simp at h1;simp[h1]
 |false=>
  rw[hp]at h1
  have h2:¬0<=eX p l 0:=by rw[h1];simp
  simp[h2]
abbrev p2(a b:Int):AV:=.agg [.int .i64 a,.int .i64 b]
def IV(n:Int):Option AV:=if 4<=n/\n<=9 then some (p2 2 8)else if n=0\/n=1 then some (p2 0 0)else if n=2\/n=3 then some (p2 1 1)else if n=10 then some (p2 0 8)else none
def jz(Γ:Nat->Option AV):Prop:=∃ks vs,Γ Al=some (.du ks vs)/\∀n:Int,eT (.sc .int) (.int .i64 n) (ks.zip vs)=some (IV n)
def lg(op:Int)(n:Nat):Bool:=if 4<=op/\op<=9 then decide (2<=n/\n<=8)else if op=0\/op=1 then decide (n=0)else if op=2\/op=3 then decide (n=1)else false
def hasB(op:Int)(n:Nat):Bool:=if op=10 then decide (n<=8)else lg op n
def jj(g:Gt):Bool:=
 if g.op=10 then decide (g.ins.length<=8)&&(decide (g.rows.length<=128)&&!bH (fun s=>!pB g.ins.length s) g.rows)else !(decide (0<g.rows.length)||g.off)&&lg g.op g.ins.length
theorem Ce{ks vs:List AV}(hG:Γ Al=some (.du ks vs)){op a b:Int}(hF:eT (.sc .int) (.int .i64 op) (ks.zip vs)=some (some (p2 a b)))(n:Int):aS Tryz.prog Γ vA [.int .i64 op,.int .i64 n] (.bool (decide (a<=n)&&decide (n<=b))):=by
 simp only[Al]at hG;refine .run 60 Nt (by simp) ?_
 by_cases h:a<=n
 ·simp[hG,hF,h,isKey,bN,b9];exact .back (by simp)
 ·simp[hG,hF,h,isKey,bN,b9];exact .back (by simp)
theorem adu{ks vs:List AV}(hG:Γ Al=some (.du ks vs)){op:Int}(hF:eT (.sc .int) (.int .i64 op) (ks.zip vs)=some none)(n:Int):aS Tryz.prog Γ vA [.int .i64 op,.int .i64 n] (.bool false):=by
 simp only[Al]at hG;refine .run 60 Nt (by simp) ?_;simp[hG,hF,isKey,bN,b9];exact .back (by simp)
theorem aiz(hΓ:jz Γ)(op:Int)(n:Nat):aS Tryz.prog Γ vA [.int .i64 op,.int .i64 n] (.bool (hasB op n)):=by
 obtain⟨ks,vs,hG,hF⟩:=hΓ;have h1:=hF op;unfold IV at h1
 by_cases a:4<=op/\op<=9
 ·rw[if_pos a]at h1
  have e:hasB op n=(decide ((2:Int)<=n)&&decide ((n:Int)<=8)):=by
   unfold hasB lg;rw[if_neg (by omega),if_pos a,fT]
   simp only[ay,aZ];omega
  rw[e];exact Ce hG h1 n
 ·rw[if_neg a]at h1
  by_cases b:op=0\/op=1
  ·rw[if_pos b]at h1
   have e:hasB op n=(decide ((0:Int)<=n)&&decide ((n:Int)<=0)):=by
    unfold hasB lg;rw[if_neg (by omega),if_neg a,if_pos b,fT]
    simp only[ay,aZ];omega
   rw[e];exact Ce hG h1 n
  ·rw[if_neg b]at h1
   by_cases c:op=2\/op=3
   ·rw[if_pos c]at h1
    have e:hasB op n=(decide ((1:Int)<=n)&&decide ((n:Int)<=1)):=by
     unfold hasB lg;rw[if_neg (by omega),if_neg a,if_neg b,if_pos c,fT]
     simp only[ay,aZ];omega
    rw[e];exact Ce hG h1 n
   ·rw[if_neg c]at h1
    by_cases d:op=10
    ·rw[if_pos d]at h1
     have e:hasB op n=(decide ((0:Int)<=n)&&decide ((n:Int)<=8)):=by
      unfold hasB;rw[if_pos d,fT]
      simp only[ay,aZ];omega
     rw[e];exact Ce hG h1 n
    ·rw[if_neg d]at h1
     have e:hasB op n=false:=by
      unfold hasB lg;rw[if_neg d,if_neg a,if_neg b,if_neg c]
     rw[e];exact adu hG h1 n
theorem aeH(g:Gt)(i:Nat)(hg:wi g):jA Tryz.prog Γ (fun h=>h[i]? =some (.cells (AV.cells (cW g)))) BB [.ptr i 0] AV.str (fun s=>!pB g.ins.length s) g.rows:=by
 refine⟨by simp,fun s hs up h hφ=>?_⟩;refine .bt 60 Zu ?_;simp[hφ];refine .kW 60 (by simp) (aiN s g.ins.length (hg.2.2.2.2 s hs)) ?_;simp
theorem ag5(hΓ:jz Γ)(g:Gt)(hg:wi g):aS Tryz.prog Γ BH [cW g] (.bool (jj g)):=by
 have b1:=hg.2.1;have b2:=hg.2.2.1;refine .run 60 abh (by simp) ?_;unfold jj;have hH:=aiz hΓ g.op g.ins.length;have hC:=Bf (Γ:=Γ) (fl:=false) (aeH g 0 hg) g.hr (by omega) (h:=[.cells (AV.cells (cW g))]) rfl
 by_cases ho:g.op=10
 ·simp[ho];rw[ho]at hH;refine .call 60 (by simp) hH ?_;have e:((g.ins.length:Int)<=8)=(g.ins.length<=8):=propext (by omega);have e2:((g.rows.length:Int)<=128)=(g.rows.length<=128):=propext (by omega)
  by_cases h1:g.ins.length<=8
  ·by_cases h2:g.rows.length<=128
   ·simp[hasB,h1,h2,e2];simp[ho]at hC;refine .aW 60 hC ?_;simp;exact .back (by simp)
   ·simp[hasB,h1,h2,e2];exact .back (by simp)
  ·simp[hasB,h1];exact .back (by simp)
 ·simp only[if_neg ho]
  by_cases h1:0<g.rows.length
  ·have e:((0:Int)<g.rows.length)=True:=bR (by omega);simp[ho,h1,e];exact .back (by simp)
  ·have e:((0:Int)<g.rows.length)=False:=nY (by omega)
   cases h2:g.off with
   |true=>
    simp[ho,h1,h2,e];exact .back (by simp)
   |false=>
    have h0:g.rows=[]:=lr.1 (by omega);simp[ho,h0,h2];refine .call 60 (by simp) hH ?_
    cases h3:lg g.op g.ins.length with
    |false=>
     simp[hasB,ho,h3];exact .back (by simp)
    |true=>
     simp[hasB,ho,h3];simp only[h0,h2,AV.cells,jG]at hC;refine .aW 60 hC ?_;simp[Hw];exact .back (by simp)
theorem uK(l:List (List UInt8)){k:Nat}(hk:Kd 1 k l)(hl:l.length<2^40):aS Tryz.prog Γ pZ [.list false k (l.map AV.str)] (.own 1 au (l.map AV.str)):=by
 refine .run 60 WG (by simp) ?_
 cases l with
 |nil=>
  simp;refine .either 0 (by simp) (fun b=>?_)
  cases b
  ·refine .go 9 ?_;simp;refine .rX 2 1 au rfl (by omega) ?_;refine .go 60 ?_;simp;exact .back (by simp)
  ·refine .go 60 ?_;simp;exact .back (by simp)
 |cons x xs=>
  have hk0:k=1:=by
   rcases hk with h|h
   ·exact h
   ·cases h
  subst hk0;simp at hl;simp(disch:=(first|omega|(simp;omega)));exact .back (by simp)
theorem afe(c:Ct)(hc:cK c):∀n i:Nat,i+n=c.af.length->∀l:List Bs,l.length+n<2^40->
 aA Tryz.prog Γ (ykl (.sl 2 0 l.length) (.list false c.kG (c.af.map cW)) (.int .i64 c.af.length) (.int .i64 i) [.cells (AV.cells (cN c)),.row 1 au [] none true false,.row 1 au (l.map .str) none true false]) (.ret (.own 1 au ((l++(c.af.drop i).map (·.name)).map .str))):=by
 have hG:=c.hG;have hl:=hc.2.2.2.1;intro n
 induction n with
 |zero=>
  intro i hi l hL
  have q1:¬i<c.af.length:=by omega
  rw[bA (by omega)];refine .go 60 ?_;simp[q1];exact .back (by simp)
 |succ n ih=>
  intro i hi l hL
  have q1:i<c.af.length:=by omega
  have q2:=hG.of q1;have hh:=ih (i+1) (by omega) (l++[c.af[i].name]) (by simp;omega);have e:l++(c.af.drop i).map (·.name)=l++[c.af[i].name]++(c.af.drop (i+1)).map (·.name):=IP l (·.name) _ q1;rw[e];refine .go 60 ?_;simp(disch:=omega) [q1,q2];refine .aO ?_;simp;refine .drop 3 rfl (by simp) (by simp) (by simp) ?_;refine .reset (i:=2) rfl (by simp) (by simp) (by simp) ?_;simp[q2]at hh⊢;exact hh
theorem afl(c:Ct)(hc:cK c):∀n i:Nat,i+n=c.ah.length->∀l:List Bs,l.length+n<2^39->
 aA Tryz.prog Γ (ykn (.ptr 0 0) (.sl 2 0 l.length) (.list false c.kL (c.ah.map lj)) (.int .i64 c.ah.length) (.int .i64 i) [.cells (AV.cells (cN c)),.row 1 au [] none true false,.row 1 au (l.map .str) none true false]) (.ret (.own 1 au ((l++(c.ah.drop i).map (·.name)++c.af.map (·.name)).map .str))):=by
 have hG:=c.hL;have hl:=hc.2.2.1;have hl2:=hc.2.2.2.1;intro n
 induction n with
 |zero=>
  intro i hi l hL
  have q1:¬i<c.ah.length:=by omega
  have hh:=afe (Γ:=Γ) c hc c.af.length 0 (by omega) l (by omega);rw[bA (by omega)];refine .go 60 ?_;simp[q1];refine .inLoop ?_;simp at hh⊢;exact hh
 |succ n ih=>
  intro i hi l hL
  have q1:i<c.ah.length:=by omega
  have q2:=hG.of q1;have hh:=ih (i+1) (by omega) (l++[c.ah[i].name]) (by simp;omega);have e:l++(c.ah.drop i).map (·.name)=l++[c.ah[i].name]++(c.ah.drop (i+1)).map (·.name):=IP l (·.name) _ q1;rw[e];refine .go 60 ?_;simp(disch:=omega) [q1,q2];refine .aO ?_;simp;refine .drop 3 rfl (by simp) (by simp) (by simp) ?_;refine .reset (i:=2) rfl (by simp) (by simp) (by simp) ?_;simp[q2]at hh⊢;exact hh
theorem RA(c:Ct)(hc:cK c):aS Tryz.prog Γ tB [cN c] (.own 1 au ((aD c).map .str)):=by
 have h1:=hc.1;have h2:=hc.2.2.1;refine .run 60 abd (by simp) ?_;simp;refine .call 60 (by simp) (uK c.an c.hI (by omega)) ?_;simp;refine .inLoop ?_;have hh:=afl (Γ:=Γ) c hc c.ah.length 0 (by omega) c.an (by omega);simp[aD]at hh⊢;exact hh
abbrev ou(x:Nat×List (List UInt8)):AV:=.list false x.1 (x.2.map AV.str)
def cw:List (Nat×List (List UInt8))->List (List UInt8)
 |[]=>[]
 |x::xs=>x.2++cw xs
theorem Mf(a b:List (Nat×List (List UInt8))):cw (a++b)=cw a++cw b:=by
 induction a with
 |nil=>rfl
 |cons x a ih=>simp[cw,ih]
theorem Oz(xs:List (Nat×List (List UInt8)))(i:Nat)(h:i<xs.length):cw (xs.take (i+1))=cw (xs.take i)++xs[i].2:=by
 rw[kK h,Mf];simp[cw]
theorem Qi(xs:List (Nat×List (List UInt8)))(i:Nat):(cw (xs.take i)).length<=(cw xs).length:=by
 conv=>rhs;rw[<-mT i xs,Mf]
 simp
set_option maxRecDepth 8000 in
theorem LH(xs:List (Nat×List (List UInt8)))(hk:∀x∈xs,Kd 1 x.1 x.2)(hn:xs.length<2^40)(hs:(cw xs).length<2^40)(hp:0<(cw xs).length):
 aS Tryz.prog Γ nZ [.list false 1 (xs.map ou)] (.own 1 au ((cw xs).map AV.str)):=by
 refine .run 60 LI (by simp) ?_
 have key2:∀n i:Nat,i+n=xs.length->∀m:Nat,(cw (xs.take i)).length+m=(cw xs).length->
  aA Tryz.prog Γ (Vd (.sl 2 0 (cw (xs.take i)).length) (.list false 1 (xs.map ou)) (.int .i64 xs.length) (.int .i64 i) [.row 1 au [] none true false,.row 1 au [] none true false,.row 1 au ((cw (xs.take i)).map AV.str++List.replicate m (AV.str [])) none true false])
   (.ret (.own 1 au ((cw xs).map AV.str))):=by
  intro n
  induction n with
  |zero=>
   intro i hi m hm
   have q1:¬i<xs.length:=by omega
   have q2:xs.take i=xs:=cR (by omega);rw[q2]at hm⊢
   have hm0:m=0:=by omega
   subst hm0;refine .go 60 ?_;simp[q1];exact .back (by simp)
  |succ n ih=>
   intro i hi m hm
   have q1:i<xs.length:=by omega
   have q2:=Oz xs i q1;have q3:=Qi xs (i+1);rw[q2,bu]at q3;have q4:=hk xs[i] (bw q1);have q5:xs[i].1=1\/xs[i].2=[]:=q4;have hh:=ih (i+1) (by omega) (m-xs[i].2.length) (by rw[q2,bu];omega);rw[q2]at hh
   have hd:(List.replicate m (AV.str [])).drop xs[i].2.length=List.replicate (m-xs[i].2.length) (AV.str []):=by simp
   refine .go 60 ?_
   by_cases q6:(cw (xs.take i)).length=(cw xs).length
   ·have q7:xs[i].2=[]:=lr.1 (by omega)
    have hm0:m=0:=by omega
    subst hm0;simp[q7]at hh;simp(disch:=(first|omega|(simp;omega))) [q1,q5,q7];refine .aO ?_;simp;exact hh
   ·simp(disch:=(first|omega|(simp;omega))) [q1,q5]
    by_cases q7:m=0
    ·omega
    ·have c1:¬(cw (List.take i xs)).length=(cw (List.take i xs)).length+m:=by omega
     have c2:(cw (List.take i xs)).length+xs[i].snd.length<=(cw (List.take i xs)).length+m:=by omega
     simp(disch:=(first|omega|(simp;omega))) [q1,q5,c1,c2,q7];refine .aO ?_;have pO:((cw (xs.take i)).map AV.str).drop ((cw (xs.take i)).length+xs[i].2.length)=[]:=bA (by simp);simp[wZ,hd,pO]at hh⊢;exact hh
 have key1:∀n i:Nat,i+n=xs.length->
  aA Tryz.prog Γ (TP (.list false 1 (xs.map ou)) (.int .i64 (cw (xs.take i)).length) (.list false 1 (xs.map ou)) (.int .i64 xs.length) (.int .i64 i) [.row 1 au [] none true false])
   (.ret (.own 1 au ((cw xs).map AV.str))):=by
  intro n
  induction n with
  |zero=>
   intro i hi
   have q1:¬i<xs.length:=by omega
   have q2:xs.take i=xs:=cR (by omega);have q3:0<(cw xs).length:=hp;have hh:=key2 xs.length 0 (by omega) (cw xs).length (by simp[cw]);refine .go 60 ?_;rw[q2];simp[q1];refine .enter 60 LJ ?_
   have q4:¬(cw xs).length=0:=by omega
   have q5:cw xs≠[]:=fun e=>by rw[e]at hp;simp at hp
   obtain⟨m,hm⟩:∃m,(cw xs).length=m+1:=⟨(cw xs).length-1,by omega⟩
   have hrep:List.replicate (cw xs).length (AV.str [])=(AV.str [])::List.replicate m (AV.str []):=by rw[hm];rfl
   simp(disch:=(first|omega|(simp;omega))) [q3,q4,q5,hrep];refine .inLoop ?_;simp[cw,hrep]at hh⊢;exact hh
  |succ n ih=>
   intro i hi
   have q1:i<xs.length:=by omega
   have q2:=Oz xs i q1;have q3:=Qi xs (i+1);rw[q2,bu]at q3;have hh:=ih (i+1) (by omega);rw[q2]at hh;refine .go 60 ?_
   have q4:¬((cw (xs.take i)).length:Int)+xs[i].2.length<0:=by omega
   simp(disch:=(first|omega|(simp;omega))) [q1,q4];refine .aO ?_;simp at hh⊢;exact hh
 simp;refine .inLoop ?_;have hh:=key1 xs.length 0 (by omega);simp[cw]at hh⊢;exact hh
set_option maxRecDepth 8000 in
theorem LD(xs:List (Nat×List (List UInt8)))(hx:∀x∈xs,x.2=[])(hn:xs.length<2^40):
 aS Tryz.prog Γ nZ [.list false 1 (xs.map ou)] (.own 1 au []):=by
 refine .run 60 LI (by simp) ?_
 have key2:∀n i:Nat,i+n=xs.length->aA Tryz.prog Γ (Vd (.list true 0 []) (.list false 1 (xs.map ou)) (.int .i64 xs.length) (.int .i64 i) [.row 1 au [] none true false,.row 1 au [] none true false])
  (.ret (.own 1 au [])):=by
  intro n
  induction n with
  |zero=>
   intro i hi
   have q1:¬i<xs.length:=by omega
   refine .rX 6 1 au rfl (by omega) ?_;refine .go 60 ?_;simp[q1];exact .back (by simp)
  |succ n ih=>
   intro i hi
   have q1:i<xs.length:=by omega
   have q7:=hx xs[i] (bw q1);have hh:=ih (i+1) (by omega);refine .go 60 ?_;simp(disch:=(first|omega|(simp;omega))) [q1,q7];refine .aO ?_;simp at hh⊢;exact hh
 have key:∀n i:Nat,i+n=xs.length->aA Tryz.prog Γ (TP (.list false 1 (xs.map ou)) (.int .i64 0) (.list false 1 (xs.map ou)) (.int .i64 xs.length) (.int .i64 i) [.row 1 au [] none true false])
  (.ret (.own 1 au [])):=by
  intro n
  induction n with
  |zero=>
   intro i hi
   have q1:¬i<xs.length:=by omega
   refine .go 60 ?_;simp[q1];refine .enter 60 LJ ?_;simp;refine .inLoop ?_;have hh:=key2 xs.length 0 (by omega);simp at hh⊢;exact hh
  |succ n ih=>
   intro i hi
   have q1:i<xs.length:=by omega
   have q7:=hx xs[i] (bw q1);have hh:=ih (i+1) (by omega);refine .go 60 ?_;simp(disch:=(first|omega|(simp;omega))) [q1,q7];refine .aO ?_;simp at hh⊢;exact hh
 simp;refine .inLoop ?_;have hh:=key xs.length 0 (by omega);simp at hh⊢;exact hh
theorem Wy(xs:List (Nat×List (List UInt8)))(hk:∀x∈xs,Kd 1 x.1 x.2)(hn:xs.length<2^40)(hs:(cw xs).length<2^40):
 aS Tryz.prog Γ nZ [.list false 1 (xs.map ou)] (.own 1 au ((cw xs).map AV.str)):=by
 rcases V6 (cw xs).length with h|h
 ·have h0:cw xs=[]:=lr.1 h
  have hx:∀x∈xs,x.2=[]:=by
   clear hk hn hs h
   induction xs with
   |nil=>simp
   |cons y ys ih=>
    simp only[cw,V8]at h0;intro x hx
    rcases bz.1 hx with rfl|hx
    ·exact h0.1
    ·exact ih h0.2 x hx
  rw[h0];exact LD xs hx hn
 ·exact LH xs hk hn hs h
theorem IU{α β:Type}(a:List β)(f:α->List β)(l:List α){i:Nat}(h:i<l.length):a++(l.drop i).flatMap f=a++f l[i]++(l.drop (i+1)).flatMap f:=by
 rw[bJ h,nW,cI]
def mF(l:List Gt):List Bs:=l.flatMap (·.ins)
def pt(l:List Lt):List Bs:=l.flatMap fun q=>[q.name,q.next]
def pw(l:List Gt):List Bs:=l.flatMap fun g=>g.name::g.ins
def fm(c:Ct):List Bs:=c.aw++c.ah.map (·.next)++mF c.af
def mB(c:Ct):List Bs:=c.an++c.aw++pt c.ah++pw c.af
theorem CZ{α β:Type}(f:α->List β)(n:Nat):∀l:List α,(∀x∈l,(f x).length<=n)->(l.flatMap f).length<=l.length*n
 |[],_=>by simp
 |x::l,h=>by
  have h1:=CZ f n l fun y hy=>h y (dw _ hy)
  have h2:=h x (oY ..);rw[nW,bu,bE,E7];omega
theorem zm{c:Ct}(hc:cK c):(mF c.af).length<=2^20:=by
 have h1:=CZ (·.ins) (2^10) c.af fun g hg=>by have:=(hc.2.2.2.2.1 g hg).2.1;omega
 have h2:=hc.2.2.2.1;unfold mF;omega
theorem zp{c:Ct}(hc:cK c):(pw c.af).length<=2^20:=by
 have h1:=CZ (fun g:Gt=>g.name::g.ins) (2^10) c.af fun g hg=>by have:=(hc.2.2.2.2.1 g hg).2.1;simp;omega
 have h2:=hc.2.2.2.1;unfold pw;omega
theorem vI{c:Ct}(hc:cK c):(pt c.ah).length<=2^20:=by
 have h1:=CZ (fun q:Lt=>[q.name,q.next]) 2 c.ah fun g hg=>by simp
 have h2:=hc.2.2.1;unfold pt;omega
theorem af1(c:Ct)(hc:cK c):∀n i:Nat,i+n=c.af.length->∀l:List Bs,l.length+(mF (c.af.drop i)).length<2^40->
 aA Tryz.prog Γ (ynN (.sl 2 0 l.length) (.list false c.kG (c.af.map cW)) (.int .i64 c.af.length) (.int .i64 i) [.cells (AV.cells (cN c)),.row 1 au [] none true false,.row 1 au (l.map .str) none true false]) (.ret (.own 1 au ((l++mF (c.af.drop i)).map .str))):=by
 have hG:=c.hG;have hl:=hc.2.2.1;have hl2:=hc.2.2.2.1;have b1:=zm hc;have b2:=zp hc;have b3:=vI hc;intro n
 induction n with
 |zero=>
  intro i hi l hL
  have q1:¬i<c.af.length:=by omega
  rw[bA (by omega)];refine .go 60 ?_;simp[q1];exact .back (by simp[mF])
 |succ n ih=>
  intro i hi l hL
  have q1:i<c.af.length:=by omega
  have q2:=hG.of q1;have q3:=(hc.2.2.2.2.1 c.af[i] (bw q1)).2.1;have q4:=c.af[i].hi;have q5:c.af[i].ki=1\/c.af[i].ins=[]:=q4;have e:l++mF (c.af.drop i)=l++c.af[i].ins++mF (c.af.drop (i+1)):=IU l (fun g:Gt=>g.ins) _ q1;have e2:=congrArg List.length e;simp only[bu,bE,cS]at e2;have hh:=ih (i+1) (by omega) (l++c.af[i].ins) (by simp only[bu,bE,cS];omega);rw[e];refine .go 60 ?_;simp(disch:=omega) [q1,q2,q5];refine .aO ?_;simp;refine .drop 3 rfl (by simp) (by simp) (by simp) ?_;refine .nn (i:=2) rfl (by first|(simp;done)|(by_cases hq:c.af[i].ins=[]<;>simp[hq])) (by simp) (by simp<;>omega) (by simp) ?_;simp[q2]at hh⊢;exact hh
theorem agM(c:Ct)(hc:cK c):∀n i:Nat,i+n=c.ah.length->∀l:List Bs,l.length+((c.ah.drop i).map (·.next)).length<2^39->
 aA Tryz.prog Γ (ynP (.ptr 0 0) (.sl 2 0 l.length) (.list false c.kL (c.ah.map lj)) (.int .i64 c.ah.length) (.int .i64 i) [.cells (AV.cells (cN c)),.row 1 au [] none true false,.row 1 au (l.map .str) none true false]) (.ret (.own 1 au ((l++(c.ah.drop i).map (·.next)++mF c.af).map .str))):=by
 have hG:=c.hL;have hl:=hc.2.2.1;have hl2:=hc.2.2.2.1;have b1:=zm hc;have b2:=zp hc;have b3:=vI hc;intro n
 induction n with
 |zero=>
  intro i hi l hL
  have q1:¬i<c.ah.length:=by omega
  have hh:=af1 (Γ:=Γ) c hc c.af.length 0 (by omega) l (by rw[fg];omega);rw[bA (by omega)];refine .go 60 ?_;simp[q1];refine .inLoop ?_;simp at hh⊢;exact hh
 |succ n ih=>
  intro i hi l hL
  have q1:i<c.ah.length:=by omega
  have q2:=hG.of q1;have e:l++(c.ah.drop i).map (·.next)=l++[c.ah[i].next]++(c.ah.drop (i+1)).map (·.next):=IP l (·.next) _ q1;have e2:=congrArg List.length e;simp only[bu,bE,cS]at e2;have hh:=ih (i+1) (by omega) (l++[c.ah[i].next]) (by simp only[bu,bE,cS];omega);rw[e];refine .go 60 ?_;simp(disch:=omega) [q1,q2];refine .aO ?_;simp;refine .drop 3 rfl (by simp) (by simp) (by simp) ?_;refine .reset (i:=2) rfl (by simp) (by simp) (by simp) ?_;simp[q2]at hh⊢;exact hh
theorem ahE(c:Ct)(hc:cK c):aS Tryz.prog Γ vo [cN c] (.own 1 au ((fm c).map .str)):=by
 have h1:=hc.2.1;have h2:=hc.2.2.1;refine .run 60 aap (by simp) ?_;simp;refine .call 60 (by simp) (uK c.aw c.hO (by omega)) ?_;simp;refine .inLoop ?_;have hh:=agM (Γ:=Γ) c hc c.ah.length 0 (by omega) c.aw (by rw[fg,fC];omega);simp[fm]at hh⊢;exact hh
theorem afs(c:Ct)(hc:cK c):∀n i:Nat,i+n=c.af.length->∀l:List Bs,l.length+(pw (c.af.drop i)).length<2^40->
 aA Tryz.prog Γ (ymR (.sl 2 0 l.length) (.list false c.kG (c.af.map cW)) (.int .i64 c.af.length) (.int .i64 i) [.cells (AV.cells (cN c)),.row 1 au [] none true false,.row 1 au (l.map .str) none true false]) (.ret (.own 1 au ((l++pw (c.af.drop i)).map .str))):=by
 have hG:=c.hG;have hl:=hc.2.2.1;have hl2:=hc.2.2.2.1;have b1:=zm hc;have b2:=zp hc;have b3:=vI hc;intro n
 induction n with
 |zero=>
  intro i hi l hL
  have q1:¬i<c.af.length:=by omega
  rw[bA (by omega)];refine .go 60 ?_;simp[q1];exact .back (by simp[pw])
 |succ n ih=>
  intro i hi l hL
  have q1:i<c.af.length:=by omega
  have q2:=hG.of q1;have q3:=(hc.2.2.2.2.1 c.af[i] (bw q1)).2.1;have q4:=c.af[i].hi;have q5:c.af[i].ki=1\/c.af[i].ins=[]:=q4;have e:l++pw (c.af.drop i)=l++(c.af[i].name::c.af[i].ins)++pw (c.af.drop (i+1)):=IU l (fun g:Gt=>g.name::g.ins) _ q1;have e2:=congrArg List.length e;simp only[bu,bE,cS]at e2;have hh:=ih (i+1) (by omega) (l++(c.af[i].name::c.af[i].ins)) (by simp only[bu,bE,cS];omega);rw[e];refine .go 60 ?_;simp(disch:=omega) [q1,q2,q5];refine .dr 60 ?_;simp(disch:=omega) [q1,q2,q5];refine .aO ?_;simp;refine .drop 3 rfl (by simp) (by simp) (by simp) ?_;refine .nn (i:=2) rfl (by first|(simp;done)|(by_cases hq:c.af[i].ins=[]<;>simp[hq])) (by simp) (by simp<;>omega) (by simp) ?_
  have e3:l.length+(c.af[i].ins.length+1)=l.length+1+c.af[i].ins.length:=by omega
  simp[q2,e3]at hh⊢;exact hh
theorem af4(c:Ct)(hc:cK c):∀n i:Nat,i+n=c.ah.length->∀l:List Bs,l.length+(pt (c.ah.drop i)).length<2^39->
 aA Tryz.prog Γ (ymT (.ptr 0 0) (.sl 2 0 l.length) (.list false c.kL (c.ah.map lj)) (.int .i64 c.ah.length) (.int .i64 i) [.cells (AV.cells (cN c)),.row 1 au [] none true false,.row 1 au (l.map .str) none true false]) (.ret (.own 1 au ((l++pt (c.ah.drop i)++pw c.af).map .str))):=by
 have hG:=c.hL;have hl:=hc.2.2.1;have hl2:=hc.2.2.2.1;have b1:=zm hc;have b2:=zp hc;have b3:=vI hc;intro n
 induction n with
 |zero=>
  intro i hi l hL
  have q1:¬i<c.ah.length:=by omega
  have hh:=afs (Γ:=Γ) c hc c.af.length 0 (by omega) l (by rw[fg];omega);rw[bA (by omega)];refine .go 60 ?_;simp[q1];refine .inLoop ?_;simp[pt]at hh⊢;exact hh
 |succ n ih=>
  intro i hi l hL
  have q1:i<c.ah.length:=by omega
  have q2:=hG.of q1;have e:l++pt (c.ah.drop i)=l++[c.ah[i].name,c.ah[i].next]++pt (c.ah.drop (i+1)):=IU l (fun q:Lt=>[q.name,q.next]) _ q1;have e2:=congrArg List.length e;simp only[bu,bE,cS]at e2;have hh:=ih (i+1) (by omega) (l++[c.ah[i].name,c.ah[i].next]) (by simp only[bu,bE,cS];omega);rw[e];refine .go 60 ?_;simp(disch:=omega) [q1,q2];refine .aO ?_;simp;refine .drop 3 rfl (by simp) (by simp) (by simp) ?_;refine .reset (i:=2) rfl (by simp) (by simp) (by simp) ?_;simp[q2]at hh⊢;exact hh
theorem ahQ(c:Ct)(hc:cK c):aS Tryz.prog Γ vm [cN c] (.own 1 au ((mB c).map .str)):=by
 have h1:=hc.1;have h2:=hc.2.1;have h3:=hc.2.2.1;have b3:=vI hc
 have hx:∀x∈[(c.kI,c.an),(c.kO,c.aw)],Kd 1 x.1 x.2:=by
  intro x hx;simp only[bz,o5,oT]at hx
  rcases hx with rfl|rfl
  ·exact c.hI
  ·exact c.hO
 have hx2:cw [(c.kI,c.an),(c.kO,c.aw)]=c.an++c.aw:=by simp[cw]
 have hC:=Wy (Γ:=Γ) [(c.kI,c.an),(c.kO,c.aw)] hx (by simp) (by rw[hx2];simp;omega);rw[hx2]at hC;refine .run 60 aay (by simp) ?_;simp;refine .call 60 (by simp) hC ?_;simp;refine .inLoop ?_;have hh:=af4 (Γ:=Γ) c hc c.ah.length 0 (by omega) (c.an++c.aw) (by rw[fg,bu];omega);simp[mB]at hh⊢;exact hh
abbrev Iv(e:Int)(s:Bs):AV:=.bT F4 (.agg [.int .i64 e,.str s])
theorem tY(e:Int)(s:Bs):aS Tryz.prog Γ pa [.bool true,.int .i64 e,.str s] (.aH []):=by
 refine .run 60 Nj (by simp) ?_;simp;exact .back (by simp)
theorem m_(e:Int)(s:Bs):mu Tryz.prog Γ pa [.bool false,.int .i64 e,.str s] (Iv e s):=by
 refine mu.of (hh:=[]) (by simp) (zx Nj _ (.go 60 ?_)) (by simp) (by simp);simp
def mw:List Bs->List Bs->Option Bs
 |_,[]=>none
 |seen,s::l=>if s∈seen then some s else mw (seen++[s]) l
def je(l:List Bs):Option Bs:=mw [] l
abbrev j_(s:Bs):AV×AV:=(.str s,.bool true)
theorem y0(s:Bs):∀l:List Bs,eT (.sc .str) (.str s) (l.map j_)=some (if s∈l then some (.bool true)else none)
 |[]=>rfl
 |a::l=>by
  simp only[bU,eT,cj,eV]
  cases h:(s==a)
  ·have h2:=rC.1 h;simp[y0 s l,h2]
  ·have h2:=eq_of_beq h;simp[h2]
theorem BQ{s:Bs}{v:AV}:∀{l:List Bs},s∉l->gb (.sc .str) (.str s) v (l.map j_)=some (l.map j_++[(.str s,v)])
 |[],_=>rfl
 |a::l,h=>by
  simp only[bz,not_or]at h;simp only[bU,gb,cj,eV];have h2:(s==a)=false:=rC.2 h.1;simp[h2,BQ (v:=v) h.2]
@[simp] theorem acA(n:Nat):∀l:List Bs,fa n (l.map j_)=true
 |[]=>rfl
 |x::r=>by simp[fa,acA n r]
@[simp] theorem ade(n m:Nat):∀l:List Bs,oB n m (l.map j_)=true
 |[]=>rfl
 |x::r=>by simp[ade n m r]
@[simp] theorem aeE(n:Nat)(τ:List Nat):∀l:List Bs,nO n τ (l.map j_)=l.map j_
 |[]=>rfl
 |x::r=>by simp[aeE n τ r]
@[simp] theorem aeB(n:Nat)(τ:List Nat):∀l:List Bs,rm n τ (l.map j_)=true
 |[]=>rfl
 |x::r=>by simp[aeB n τ r]
def En(h:List Ob):Prop:=∀m,h.length<=m->cr m h=true
theorem agw(l:List Bs){fl:Bool}{k:Nat}(hk:Kd 1 k l)(hl:l.length<2^40)(h:List Ob)(hw:En h)(up:List Fr):∀n i:Nat,i+n=l.length->∀seen,mw seen (l.drop i)=none->AM.Reach Tryz.prog Γ
 (UN (.mp h.length) (.list fl k (l.map .str)) (.int .i64 l.length) (.int .i64 i) (h++[.map (seen.map j_) true]) ⟨[],.norm,h.length,up⟩)
 (.back up (.mp h.length) (h++[.map ((seen++l.drop i).map j_) true])):=by
 intro n
 induction n with
 |zero=>
  intro i hi seen hs
  have q1:¬i<l.length:=by omega
  rw[bA (by omega)];refine .a8 60 ?_;simp[q1]
 |succ n ih=>
  intro i hi seen hs
  have q1:i<l.length:=by omega
  obtain rfl:=hk.of q1;rw[bJ q1]at hs⊢;rw[mw]at hs;have hfi:=y0 l[i] seen;have hbw:=hw (h.length+1) (by omega)
  by_cases hm:l[i]∈seen
  ·rw[if_pos hm]at hs;cases hs
  ·rw[if_neg hm]at hs hfi;have hh:=ih (i+1) (by omega) (seen++[l[i]]) hs;have hput:=BQ (v:=.bool true) hm;refine .a8 60 ?_;simp(disch:=omega) [q1,hfi,isKey,bN,b9];refine .kW 60 (by simp) (tY 5 l[i]) ?_;simp(disch:=omega) [hput,isKey,bN,b9];refine .aO ?_;simp at hh⊢;exact hh
theorem aaK(l:List Bs){fl:Bool}{k:Nat}(hk:Kd 1 k l)(hl:l.length<2^40)(h:List Ob)(hw:En h)(up:List Fr)(s0:Bs):∀n i:Nat,i+n=l.length->∀seen,mw seen (l.drop i)=some s0->∃h',AM.Reach Tryz.prog Γ
 (UN (.mp h.length) (.list fl k (l.map .str)) (.int .i64 l.length) (.int .i64 i) (h++[.map (seen.map j_) true]) ⟨[],.norm,h.length,up⟩)
 (.die up (Iv 5 s0) (h++h')):=by
 intro n
 induction n with
 |zero=>
  intro i hi seen hs;rw[bA (by omega)]at hs
  cases hs
 |succ n ih=>
  intro i hi seen hs
  have q1:i<l.length:=by omega
  obtain rfl:=hk.of q1;rw[bJ q1]at hs;rw[mw]at hs;have hfi:=y0 l[i] seen;have hbw:=hw (h.length+1) (by omega)
  by_cases hm:l[i]∈seen
  ·rw[if_pos hm]at hs hfi;obtain rfl:=Option.some.inj hs;refine⟨[.map (seen.map j_) true],?_⟩;refine .a8 60 ?_;simp(disch:=omega) [q1,hfi,isKey,bN,b9];refine .mE 2 (by simp) (m_ 5 l[i]) ?_;simp
  ·rw[if_neg hm]at hs hfi;obtain⟨h',hh⟩:=ih (i+1) (by omega) (seen++[l[i]]) hs;refine⟨h',?_⟩;have hput:=BQ (v:=.bool true) hm;refine .a8 60 ?_;simp(disch:=omega) [q1,hfi,isKey,bN,b9];refine .kW 60 (by simp) (tY 5 l[i]) ?_;simp(disch:=omega) [hput,isKey,bN,b9];refine .aO ?_;simp at hh⊢;exact hh
theorem RL(l:List Bs){fl:Bool}{k:Nat}(hk:Kd 1 k l)(hl:l.length<2^40)(h:List Ob)(hw:En h)(ht:je l=none):∀up,AM.Reach Tryz.prog Γ
 (.cl tz [.list fl k (l.map .str)] up h) (.back up (.mp h.length) (h++[.map (l.map j_) true])):=by
 intro up;refine .bt 60 M_ ?_;simp;refine .inLoop ?_;have hh:=agw (Γ:=Γ) (fl:=fl) l hk hl h hw up l.length 0 (by omega) [] ht;simp at hh⊢;exact hh
theorem P'(l:List Bs){fl:Bool}{k:Nat}(hk:Kd 1 k l)(hl:l.length<2^40)(h:List Ob)(hw:En h){s0:Bs}(ht:je l=some s0):∀up,∃h',AM.Reach Tryz.prog Γ
 (.cl tz [.list fl k (l.map .str)] up h) (.die up (Iv 5 s0) (h++h')):=by
 intro up;have hh:=aaK (Γ:=Γ) (fl:=fl) l hk hl h hw up s0 l.length 0 (by omega) [] ht;obtain⟨h',hh⟩:=hh;refine⟨h',?_⟩;refine .bt 60 M_ ?_;simp;refine .inLoop ?_;simp at hh⊢;exact hh
def pz(c:UInt8):Bool:=decide (c<33)||decide (126<c)
def fK(s:List UInt8):Bool:=!bH pz s&&(decide (1<=s.length)&&decide (s.length<=40))
def qZ:List UInt8->Nat->Int
 |[],_=>-1
 |c::s,i=>if pz c=true then(i:Int)else qZ s (i+1)
theorem PV:∀(s:List UInt8)(i:Nat),decide (qZ s i<0)=!bH pz s
 |[],i=>by simp[qZ,Hw]
 |c::s,i=>by
  rw[qZ,lE]
  cases h:pz c with
  |true=>simp
  |false=>simpa using PV s (i+1)
theorem NA(r:Int):aS Tryz.prog Γ s_ [.int .i32 r] (.bool (decide (r<=32)||decide (126<r))):=by
 refine .run 60 Xb (by simp) ?_
 by_cases h:r<=32<;>simp[h]<;>exact .back (by simp[h])
theorem Y5{s:List UInt8}{i:Nat}(h:i<s.length)(ha:s[i].toNat<128):Utf8.decode ⟨s.toArray⟩ i=(s[i].toNat,1):=by
 exact decode_ascii ⟨s.toArray⟩ i (show i<s.toArray.size by simpa using h) ha
theorem ZA{s:List UInt8}{i:Nat}(h:i<s.length)(ha:128<=s[i].toNat):128<=(Utf8.decode ⟨s.toArray⟩ i).1:=by
 exact(decode_high ⟨s.toArray⟩ i (show i<s.toArray.size by simpa using h) ha).1
set_option maxRecDepth 8000 in
theorem Z_(s:List UInt8)(hs:s.length<2^40):aS Tryz.prog Γ xL [.str s,.fn (.func s_) [] [],.bool true] (.int .i64 (qZ s 0)):=by
 have key:∀n i:Nat,i+n=s.length->aA Tryz.prog Γ (yBe (.fn (.func s_) [] []) (.bool true) (.it 0) [.iO s i]) (.ret (.int .i64 (qZ (s.drop i) i))):=by
  intro n
  induction n with
  |zero=>
   intro i hi;rw[bA (by omega),qZ]
   have q1:¬i<s.length:=by omega
   refine .go 60 ?_;simp[q1];exact .back (by simp)
  |succ n ih=>
   intro i hi
   have q1:i<s.length:=by omega
   rw[bJ q1,qZ];have hh:=ih (i+1) (by omega)
   by_cases ha:s[i].toNat<128
   ·have hd:=Y5 q1 ha
    have e:(decide ((s[i].toNat:Int)<=32)||decide (126<(s[i].toNat:Int)))=pz s[i]:=by
     unfold pz;simp only[UInt8.lt_iff_toNat_lt,show(33:UInt8).toNat=33 from rfl,show(126:UInt8).toNat=126 from rfl]
     congr 1<;>exact decide_eq_decide.2 (by omega)
    have hc:=NA (Γ:=Γ) (s[i].toNat:Int);rw[e]at hc;refine .go 60 ?_;simp[q1,hd];refine .call 60 (by simp) hc ?_
    cases ho:pz s[i]with
    |true=>simp;exact .back (by simp)
    |false=>
     simp;refine .aO ?_;simp at hh⊢;exact hh
   ·have hd:=ZA q1 (by omega)
    have ho:pz s[i]=true:=by unfold pz;simp only[UInt8.lt_iff_toNat_lt,show(33:UInt8).toNat=33 from rfl,show(126:UInt8).toNat=126 from rfl,ff,aZ];omega
    rw[ho];have hc:=NA (Γ:=Γ) ((Utf8.decode ⟨s.toArray⟩ i).1:Int)
    have e:(decide (((Utf8.decode ⟨s.toArray⟩ i).1:Int)<=32)||decide (126<((Utf8.decode ⟨s.toArray⟩ i).1:Int)))=true:=by
     simp only[ff,aZ];right;omega
    rw[e]at hc;refine .go 60 ?_;simp[q1];refine .call 60 (by simp) hc ?_;simp;exact .back (by simp)
 refine .run 60 Xi (by simp) ?_;simp;refine .inLoop ?_;have hh:=key s.length 0 (by omega);simp at hh⊢;exact hh
theorem ZS(s:List UInt8)(hs:s.length<2^40):aS Tryz.prog Γ Bd [.str s,.fn (.func s_) [] []] (.int .i64 (qZ s 0)):=by
 refine .run 60 Xe (by simp) ?_;simp;refine .call 60 (by simp) (Z_ s hs) ?_;simp;exact .back (by simp)
theorem ae7(s:List UInt8):aS Tryz.prog Γ Be [.str s] (.bool (fK s)):=by
 refine .run 60 Xr (by simp) ?_;unfold fK
 by_cases h0:s=[]
 ·subst h0;simp;exact .back (by simp)
 ·have h1:1<=s.length:=sQ.2 h0;have h0':¬s=[]:=h0
  by_cases h2:s.length<=40
  ·have h2':(s.length:Int)<=40:=by omega
   simp[h0,h2,h2'];refine .call 60 (by simp) (ZS s (by omega)) ?_;have e:=PV s 0;simp[e];exact .back (by simp[h0,h1,h2])
  ·have h2':¬(s.length:Int)<=40:=by omega
   simp[h0,h2,h2'];exact .back (by simp[h2])
theorem Rc(s:List UInt8):aS Tryz.prog Γ xX [.str s] (.bool (fK s)):=by
 refine .run 60 Zl (by simp) ?_;simp;refine .call 60 (by simp) (ae7 s) ?_;simp;exact .back (by simp)
theorem XS{φ:List Ob->Prop}{f:FuncId}{caps:List AV}{p:Gt->Bool}{l:List Gt}{k:Nat}{fl:Bool}(ha:jA Tryz.prog Γ φ f caps cW p l)(hk:Kd 5 k l)(hs:l.length<2^60){h:List Ob}(hφ:φ h):
 ∀up,AM.Reach Tryz.prog Γ (.cl xy [.list fl k (l.map cW),.fn (.func f) [] caps] up h) (.back up (.int .i64 (eX p l 0)) h):=by
 intro up
 have key:∀n i:Nat,i+n=l.length->AM.Reach Tryz.prog Γ (ytm (.list fl k (l.map cW)) (.fn (.func f) [] caps) (.int .i64 l.length) (.int .i64 i) h ⟨[],.norm,h.length,up⟩) (.back up (.int .i64 (eX p (l.drop i) i)) h):=by
  intro n
  induction n with
  |zero=>
   intro i hi
   have h1:¬i<l.length:=by omega
   refine .a8 60 ?_;rw[bA (by omega)];simp[h1,eX]
  |succ n ih=>
   intro i hi
   have h1:i<l.length:=by omega
   obtain rfl:=hk.of h1;have h2:=ha.2 l[i] (bw h1);rw[bJ h1,eX];have hh:=ih (i+1) (by omega);refine .a8 60 ?_;simp[h1,ha.1];refine .aW 60 (fun up=>h2 up h hφ) ?_
   cases hp:p l[i]with
   |true=>simp(disch:=omega) [hp]
   |false=>
    simp(disch:=omega) [hp];refine .aO ?_;simp at hh⊢;exact hh
 refine .bt 60 Wi ?_;simp;refine .inLoop ?_;have hh:=key l.length 0 (by omega);simp at hh⊢;exact hh
theorem LP{φ:List Ob->Prop}{f:FuncId}{caps:List AV}{p:Gt->Bool}{l:List Gt}{k:Nat}{fl:Bool}(ha:jA Tryz.prog Γ φ f caps cW p l)(hk:Kd 5 k l)(hs:l.length<2^60){h:List Ob}(hφ:φ h):
 ∀up,AM.Reach Tryz.prog Γ (.cl A6 [.list fl k (l.map cW),.fn (.func f) [] caps] up h) (.back up (.bool (bH p l)) h):=by
 intro up;refine .bt 60 We ?_;simp;refine .aW 60 (XS ha hk hs hφ) ?_;have h1:=CG p l 0
 cases hp:bH p l with
 |true=>rw[hp]at h1;simp at h1;simp[h1]
 |false=>
  rw[hp]at h1
  have h2:¬0<=eX p l 0:=by rw[h1];simp
  simp[h2]
def ue(g:Gt):Bool:=decide (8<g.ins.length)||decide (128<g.rows.length)
def gf(c:Ct):Bool:=bH ue c.af||(decide (200<c.an.length+c.ah.length+c.af.length)||decide (200<c.aw.length))
def jh(N:List Bs):List Bs->Int×Bs
 |[]=>(0,[])
 |s::l=>if s∈N then jh N l else(6,s)
def ke(r:Int×Bs):List Gt->Int×Bs
 |[]=>r
 |g::l=>if jj g=true then ke r l else(1,g.name)
def mn(q:Lt):Bool:=decide (0<=q.init)&&decide (q.init<=2)
def lS(r:Int×Bs):List Lt->Int×Bs
 |[]=>r
 |q::l=>if mn q=true then lS r l else(1,q.name)
def pr(r:Int×Bs):List Bs->Int×Bs
 |[]=>r
 |s::l=>if fK s=true then pr r l else(4,s)
def nN:Option Bs->Int×Bs->Int×Bs
 |some s,_=>(5,s)
 |none,r=>r
def er(c:Ct):Int×Bs:=
 if gf c=true then(8,[])else pr (nN (je (aD c)) (nN (je c.aw) (lS (ke (jh (aD c) (fm c)) c.af) c.ah))) (mB c)
abbrev ur(r:Int×Bs):AV:=.aH [.int .i64 r.1,.str r.2]
theorem afV(g:Gt):aS Tryz.prog Γ xT [cW g] (.bool (ue g)):=by
 refine .run 60 Y2 (by simp) ?_;unfold ue;have e1:((8:Int)<g.ins.length)=(8<g.ins.length):=propext (by omega);have e2:((128:Int)<g.rows.length)=(128<g.rows.length):=propext (by omega)
 by_cases h1:8<g.ins.length<;>simp[e1,e2,h1]<;>exact .back (by simp[h1])
theorem Ql(l:List Gt):jA Tryz.prog Γ (fun _=>True) xT [] cW ue l:=by
 refine⟨by simp,fun g hg up h hφ=>?_⟩;exact Reach.Sr (by simp) (afV g) (fun _=>rfl) (by simp) up
abbrev EA:Cx:=⟨[.call Bu [.ptr 1 0,.ptr 2 0]],.norm,0,[]⟩
abbrev Kx(c:Ct):List Ob:=[.cells (AV.cells (cN c)),.cells [.int .i64 0],.cells [.str []]]
abbrev uB(c:Ct)(N:List Bs):List Ob:=[.cells (AV.cells (cN c)),.cells [.int .i64 0],.cells [.str []],.map (N.map j_) true]
set_option maxRecDepth 8000 in
theorem aij(c:Ct)(N:List Bs)(l:List Bs)(hl:l.length<2^40):∀n i:Nat,i+n=l.length->
 aA Tryz.prog Γ (ygP (.ptr 1 0) (.ptr 2 0) (.mp 3) (.list false 1 (l.map .str)) (.int .i64 l.length) (.int .i64 i) (uB c N) EA) (.ret (ur (jh N (l.drop i)))):=by
 intro n
 induction n with
 |zero=>
  intro i hi
  have q1:¬i<l.length:=by omega
  rw[bA (by omega),jh];refine .go 160 ?_;simp[q1];exact .back (by simp)
 |succ n ih=>
  intro i hi
  have q1:i<l.length:=by omega
  have hfi:=y0 l[i] N;rw[bJ q1,jh];have hh:=ih (i+1) (by omega);refine .go 160 ?_
  by_cases hm:l[i]∈N
  ·rw[if_pos hm]at hfi⊢;simp[q1,hfi,isKey,bN,b9];refine .call 160 (by simp) (tY 6 l[i]) ?_;simp(disch:=omega);refine .aO ?_;simp at hh⊢;exact hh
  ·rw[if_neg hm]at hfi⊢;simp[q1,hfi,isKey,bN,b9];refine .mE 160 (by simp) (m_ 6 l[i]) ?_;simp;refine .dr 90 ?_;simp;exact .back (by simp)
theorem ahS:fV (oD JQ) JQ.length []=[[0,1,2,3,4],[0,2,1,3,4],[0,2,3,1,4],[2,0,1,3,4],[2,0,3,1,4],[2,3,0,1,4]]:=by rfl
set_option maxRecDepth 8000 in
theorem aiP(hΓ:jz Γ)(c:Ct)(hc:cK c)(N:List Bs):∀n i:Nat,i+n=c.af.length->
 aA Tryz.prog Γ (ygR (.ptr 0 0) (.ptr 1 0) (.ptr 2 0) (.mp 3) (.list false c.kG (c.af.map cW)) (.int .i64 c.af.length) (.int .i64 i) (uB c N) EA) (.ret (ur (ke (jh N (fm c)) (c.af.drop i)))):=by
 have b:=hc.2.2.2.1;have b1:=zm hc;have b2:=hc.2.1;have b3:=hc.2.2.1;intro n
 induction n with
 |zero=>
  intro i hi
  have q1:¬i<c.af.length:=by omega
  have hh:=aij (Γ:=Γ) c N (fm c) (by simp only[fm,bu,fC];omega) (fm c).length 0 (by omega);rw[bA (by omega),ke];refine .go 160 ?_;simp[q1];refine .call 1 (by simp) (ahE c hc) ?_;simp;refine .trees [92] ?_;refine .drop 4 rfl (by simp) (by simp) (by simp) ?_;refine .go 60 ?_;simp;refine .inLoop ?_;simp at hh⊢;exact hh
 |succ n ih=>
  intro i hi
  have q1:i<c.af.length:=by omega
  have q2:=c.hG.of q1;have hG:=ag5 hΓ c.af[i] (hc.2.2.2.2.1 _ (bw q1));rw[bJ q1,ke];have hh:=ih (i+1) (by omega)
  cases hb:jj c.af[i]with
  |true=>
   rw[hb]at hG;refine .go 160 ?_;simp[q1,q2];refine .dr 160 ?_;simp;refine gy.call (by simp) hG ?_;simp;refine gy.call (by simp) (tY 1 c.af[i].name) ?_;simp(disch:=omega);refine .aO ?_;simp;refine .drop 4 rfl (by simp) (by simp) (by simp) ?_;simp[q2,uB]at hh⊢;exact hh
  |false=>
   rw[hb]at hG;refine .go 160 ?_;simp[q1,q2];refine .Tt 60 ?_;rw[ahS];intro l hl;simp only[bz,o5,oT]at hl
   rcases hl with rfl|rfl|rfl|rfl|rfl|rfl
   all_goals
    simp;refine .Ab 60 (by simp) hG ?_;simp;refine .mE 160 (by simp) (m_ 1 c.af[i].name) ?_;simp;refine .dr 90 ?_;simp;exact .back (by simp)
set_option maxRecDepth 8000 in
theorem aip(hΓ:jz Γ)(c:Ct)(hc:cK c)(N:List Bs):∀n i:Nat,i+n=c.ah.length->
 aA Tryz.prog Γ (ygT (.ptr 0 0) (.ptr 1 0) (.ptr 2 0) (.mp 3) (.list false c.kL (c.ah.map lj)) (.int .i64 c.ah.length) (.int .i64 i) (uB c N) EA) (.ret (ur (lS (ke (jh N (fm c)) c.af) (c.ah.drop i)))):=by
 have b:=hc.2.2.2.1;have b3:=hc.2.2.1;intro n
 induction n with
 |zero=>
  intro i hi
  have q1:¬i<c.ah.length:=by omega
  have hh:=aiP (Γ:=Γ) hΓ c hc N c.af.length 0 (by omega);rw[bA (by omega),lS];refine .go 160 ?_;simp[q1];refine .inLoop ?_;simp[uB]at hh⊢;exact hh
 |succ n ih=>
  intro i hi
  have q1:i<c.ah.length:=by omega
  have q2:=c.hL.of q1;rw[bJ q1,lS];have hh:=ih (i+1) (by omega);refine .go 160 ?_
  by_cases h1:0<=c.ah[i].init
  ·by_cases h2:c.ah[i].init<=2
   ·have e:mn c.ah[i]=true:=by simp[mn,h1,h2]
    simp[q1,q2,h1,h2,e];refine .call 160 (by simp) (tY 1 c.ah[i].name) ?_;simp(disch:=omega);refine .aO ?_;simp;refine .drop 4 rfl (by simp) (by simp) (by simp) ?_;simp[q2,uB]at hh⊢;exact hh
   ·have e:mn c.ah[i]=false:=by simp[mn,h2]
    simp[q1,q2,h1,h2,e];refine .mE 160 (by simp) (m_ 1 c.ah[i].name) ?_;simp;refine .dr 90 ?_;simp;exact .back (by simp)
  ·have e:mn c.ah[i]=false:=by simp[mn,h1]
   simp[q1,q2,h1,e];refine .mE 160 (by simp) (m_ 1 c.ah[i].name) ?_;simp;refine .dr 90 ?_;simp;exact .back (by simp)
theorem aA.kZ{P:Program}(n:Nat){f:FuncId}{args:List AV}{up:List Fr}{h:List Ob}{v:AV}{o:Out}(h1:∀up,∃h',AM.Reach P Γ (.cl f args up h) (.die up v (h++h')))(h2:∀h',aA P Γ (AM.go P Γ 0 n (.die up v (h++h'))) o):aA P Γ (.cl f args up h) o:=by
 obtain⟨h',hr⟩:=h1 up;exact .reach hr (.go n (h2 h'))
set_option maxRecDepth 8000 in
theorem aib(hΓ:jz Γ)(c:Ct)(hc:cK c)(l:List Bs):∀n i:Nat,i+n=l.length->l.length<2^40->
 aA Tryz.prog Γ (ygV (.ptr 0 0) (.ptr 1 0) (.ptr 2 0) (.list false 1 (l.map .str)) (.int .i64 l.length) (.int .i64 i) (Kx c) EA)
  (.ret (ur (pr (nN (je (aD c)) (nN (je c.aw) (lS (ke (jh (aD c) (fm c)) c.af) c.ah))) (l.drop i)))):=by
 have b0:=hc.1;have b1:=hc.2.1;have b3:=hc.2.2.1;have b4:=hc.2.2.2.1;intro n
 induction n with
 |zero=>
  intro i hi hL
  have q1:¬i<l.length:=by omega
  have hN:(aD c).length<2^40:=by simp[aD];omega
  rw[bA (by omega),pr];refine .go 160 ?_;simp[q1];refine .call 1 (by simp) (RA c hc) ?_;simp;refine .trees [54] ?_;simp;refine .go 2 ?_;simp
  cases ht:je (aD c)with
  |some s0=>
   refine aA.kZ 160 (P' (Γ:=Γ) (fl:=false) (aD c) .self hN _ (by intro m hm;simp) ht) (fun h'=>?_);simp;refine .dr 90 ?_;simp;exact .back (by simp[nN])
  |none=>
   refine .aW 160 (RL (Γ:=Γ) (fl:=false) (aD c) .self hN _ (by intro m hm;simp) ht) ?_;simp
   cases hu:je c.aw with
   |some s0=>
    refine aA.kZ 160 (P' (Γ:=Γ) (fl:=false) c.aw c.hO (by omega) _ (by intro m hm;simp) hu) (fun h'=>?_);simp;refine .dr 90 ?_;simp;exact .back (by simp[nN])
   |none=>
    have hh:=aip (Γ:=Γ) hΓ c hc (aD c) c.ah.length 0 (by omega);refine .aW 160 (RL (Γ:=Γ) (fl:=false) c.aw c.hO (by omega) _ (by intro m hm;simp) hu) ?_;simp;refine .inLoop ?_;simp;refine .gc 3 [1] (by simp) (by decide) ?_;simp[uB,nN]at hh⊢;exact hh
 |succ n ih=>
  intro i hi hL
  have q1:i<l.length:=by omega
  rw[bJ q1,pr];have hh:=ih (i+1) (by omega) hL;refine .go 160 ?_;simp[q1];refine .call 160 (by simp) (Rc l[i]) ?_
  cases hb:fK l[i]with
  |true=>
   simp;refine .call 160 (by simp) (tY 4 l[i]) ?_;simp(disch:=omega);refine .aO ?_;simp at hh⊢;exact hh
  |false=>
   simp;refine .mE 160 (by simp) (m_ 4 l[i]) ?_;simp;refine .dr 90 ?_;simp;exact .back (by simp)
set_option maxRecDepth 8000 in
theorem agT(hΓ:jz Γ)(c:Ct)(hc:cK c):aS Tryz.prog Γ n8 [cN c] (ur (er c)):=by
 have b0:=hc.1;have b1:=hc.2.1;have b3:=hc.2.2.1;have b4:=hc.2.2.2.1;have t1:=vI hc;have t2:=zp hc;have hC:=LP (Γ:=Γ) (fl:=false) (Ql c.af) c.hG (by omega) (h:=Kx c) trivial;have e0:((c.an.length:Int)+c.ah.length+c.af.length<=200)=(c.an.length+c.ah.length+c.af.length<=200):=propext (by omega);have e1:((c.aw.length:Int)<=200)=(c.aw.length<=200):=propext (by omega);refine .run 160 MB (by simp) ?_;unfold er
 by_cases h1:c.an.length+c.ah.length+c.af.length<=200
 ·by_cases h2:c.aw.length<=200
  ·simp(disch:=omega) [e0,e1,h1,h2];refine .aW 160 hC ?_
   cases h3:bH ue c.af with
   |true=>
    have hl:gf c=true:=by simp[gf,h3]
    simp;refine .mE 160 (by simp) (m_ 8 []) ?_;simp;refine .dr 90 ?_;simp;exact .back (by simp[hl])
   |false=>
    have hl:gf c=false:=by
     simp only[gf,h3,oW,kJ,iD];omega
    have hh:=aib (Γ:=Γ) hΓ c hc (mB c) (mB c).length 0 (by omega) (by simp[mB];omega);simp;refine .call 160 (by simp) (tY 8 []) ?_;simp;refine .call 1 (by simp) (ahQ c hc) ?_;simp;refine .trees [42] ?_;simp;refine .drop 3 rfl (by simp) (by simp) (by simp) ?_;refine .go 60 ?_;simp;refine .inLoop ?_;simp[hl]at hh⊢;exact hh
  ·have hl:gf c=true:=by
    simp only[gf,ff,aZ];right;right;omega
   simp(disch:=omega) [e0,e1,h1,h2];refine .mE 160 (by simp) (m_ 8 []) ?_;simp;refine .dr 90 ?_;simp;exact .back (by simp[hl])
 ·have hl:gf c=true:=by
   simp only[gf,ff,aZ];right;left;omega
  simp(disch:=omega) [e0,e1,h1];refine .mE 160 (by simp) (m_ 8 []) ?_;simp;refine .dr 90 ?_;simp;exact .back (by simp[hl])
def fy(s:List UInt8):List (List UInt8)->Nat->Int
 |[],_=>-1
 |a::l,i=>if s=a then(i:Int)else fy s l (i+1)
theorem G9(s:List UInt8):∀(l:List (List UInt8))(i:Nat),decide (0<=fy s l i)=l.contains s
 |[],i=>by simp[fy]
 |a::l,i=>by
  rw[fy,List.contains_cons]
  by_cases h:s=a
  ·rw[if_pos h];simp[h]
  ·rw[if_neg h,G9 s l (i+1)]
   have:(s==a)=false:=by simpa using h
   rw[this];rfl
theorem PJ(l:List (List UInt8))(s:List UInt8){k:Nat}(hk:Kd 1 k l)(hl:l.length<2^40):aS Tryz.prog Γ uL [.list false k (l.map .str),.str s] (.int .i64 (fy s l 0)):=by
 have key:∀n i:Nat,i+n=l.length->aA Tryz.prog Γ (yiL (.list false k (l.map .str)) (.str s) (.int .i64 l.length) (.int .i64 i) []) (.ret (.int .i64 (fy s (l.drop i) i))):=by
  intro n
  induction n with
  |zero=>
   intro i hi
   have q1:¬i<l.length:=by omega
   rw[bA (by omega),fy];refine .go 60 ?_;simp[q1];exact .back (by simp)
  |succ n ih=>
   intro i hi
   have q1:i<l.length:=by omega
   have q2:=bR (hk.of q1);have hh:=ih (i+1) (by omega);rw[bJ q1,fy];refine .go 60 ?_
   by_cases h:s=l[i]
   ·simp[q1,q2,h];exact .back (by simp)
   ·simp(disch:=omega) [q1,q2,h];refine .aO ?_;simp at hh⊢;exact hh
 refine .run 60 WD (by simp) ?_;simp;refine .inLoop ?_;have hh:=key l.length 0 (by omega);simp at hh⊢;exact hh
theorem s7(a b:List (List UInt8)){ka kb:Nat}(ha:Kd 1 ka a)(hb:Kd 1 kb b)(hs:a.length<2^60):aS Tryz.prog Γ n3 [.list false ka (a.map AV.str),.list false kb (b.map AV.str)] (.bool (decide (a=b))):=by
 refine .run 60 WC (by simp) ?_
 by_cases hl:a.length=b.length
 ·have key:∀n i:Nat,i+n=a.length->aA Tryz.prog Γ (ylg (.list false ka (a.map AV.str)) (.list false kb (b.map AV.str)) (.int .i64 a.length) (.int .i64 i) []) (.ret (.bool (decide (a.drop i=b.drop i)))):=by
   intro n
   induction n with
   |zero=>
    intro i hi;refine .go 60 ?_
    have h1:¬i<a.length:=by omega
    have h2:a.drop i=b.drop i:=by rw[bA (by omega),bA (by omega)]
    simp[h1,h2];exact .back (by simp)
   |succ n ih=>
    intro i hi
    have h1:i<a.length:=by omega
    have h2:i<b.length:=by omega
    obtain rfl:=ha.of h1;obtain rfl:=hb.of h2;have h4:=drop_eq h1 h2;refine .go 60 ?_
    by_cases h3:a[i]=b[i]
    ·simp(disch:=omega) [h1,h2,h3,h4];refine .aO ?_;simpa using ih (i+1) (by omega)
    ·simp(disch:=omega) [h1,h2,h3,h4];exact .back (by simp)
  simp[hl];refine .inLoop ?_;simpa[hl]using key a.length 0 (by omega)
 ·have h2:¬a=b:=fun e=>hl (by rw[e])
  simp[hl,h2];exact .back (by simp)
theorem Wm(a b:List Lt){ka kb:Nat}(ha:Kd 3 ka a)(hb:Kd 3 kb b)(hs:a.length<2^60):aS Tryz.prog Γ xz [.list false ka (a.map lj),.list false kb (b.map lj)] (.bool (decide (a=b))):=by
 refine .run 60 Wn (by simp) ?_
 by_cases hl:a.length=b.length
 ·have key:∀n i:Nat,i+n=a.length->aA Tryz.prog Γ (yly (.list false ka (a.map lj)) (.list false kb (b.map lj)) (.int .i64 a.length) (.int .i64 i) []) (.ret (.bool (decide (a.drop i=b.drop i)))):=by
   intro n
   induction n with
   |zero=>
    intro i hi;refine .go 60 ?_
    have h1:¬i<a.length:=by omega
    have h2:a.drop i=b.drop i:=by rw[bA (by omega),bA (by omega)]
    simp[h1,h2];exact .back (by simp)
   |succ n ih=>
    intro i hi
    have h1:i<a.length:=by omega
    have h2:i<b.length:=by omega
    obtain rfl:=ha.of h1;obtain rfl:=hb.of h2;have h4:=drop_eq h1 h2;refine .go 60 ?_
    by_cases h3:a[i]=b[i]
    ·simp(disch:=omega) [h1,h2,h3,h4,Oo];refine .aO ?_;simpa using ih (i+1) (by omega)
    ·simp(disch:=omega) [h1,h2,h3,h4,Oo];exact .back (by simp)
  simp[hl];refine .inLoop ?_;simpa[hl]using key a.length 0 (by omega)
 ·have h2:¬a=b:=fun e=>hl (by rw[e])
  simp[hl,h2];exact .back (by simp)
theorem aan(a b:List (List UInt8)){ka kb:Nat}(ha:Kd 1 ka a)(hb:Kd 1 kb b)(hs:a.length<2^60):aS Tryz.prog Γ yJ [.list false ka (a.map .str),.list false kb (b.map .str)] (.bool (decide (a=b))):=by
 refine .run 60 ZW (by simp) ?_
 by_cases hl:a.length=b.length
 ·have key:∀n i:Nat,i+n=a.length->aA Tryz.prog Γ (ydG (.list false ka (a.map .str)) (.list false kb (b.map .str)) (.int .i64 i) []) (.ret (.bool (decide (a.drop i=b.drop i)))):=by
   intro n
   induction n with
   |zero=>
    intro i hi;refine .go 60 ?_
    have h1:¬i<a.length:=by omega
    have h2:a.drop i=b.drop i:=by rw[bA (by omega),bA (by omega)]
    simp[h1,h2];exact .back (by simp)
   |succ n ih=>
    intro i hi
    have h1:i<a.length:=by omega
    have h2:i<b.length:=by omega
    obtain rfl:=ha.of h1;obtain rfl:=hb.of h2;have h4:=drop_eq h1 h2;refine .go 60 ?_
    by_cases h3:a[i]=b[i]
    ·simp(disch:=omega) [h1,h2,h3,h4];refine .aO ?_;simpa using ih (i+1) (by omega)
    ·simp(disch:=omega) [h1,h2,h3,h4];exact .back (by simp)
  simp[hl];refine .inLoop ?_;simpa[hl]using key a.length 0 (by omega)
 ·have h2:¬a=b:=fun e=>hl (by rw[e])
  simp[hl,h2];exact .back (by simp)
theorem agy{c:Ct}(hc:cK c):(aD c).length<2^12:=by
 have b0:=hc.1;have b3:=hc.2.2.1;have b4:=hc.2.2.2.1
 simp[aD];omega
abbrev Gt.key(g:Gt):Bs×Int×Bool×List Bs×List Bs:=(g.name,g.op,g.off,g.ins,g.rows)
def nB(a b:Gt):Bool:=decide (a.key=b.key)
theorem ahg(a b:Gt)(ha:wi a):aS Tryz.prog Γ vk [cW a,cW b] (.bool (nB a b)):=by
 have h1:=s7 (Γ:=Γ) a.ins b.ins a.hi b.hi (by have:=ha.2.1;omega);have h2:=s7 (Γ:=Γ) a.rows b.rows a.hr b.hr (by have:=ha.2.2.1;omega);refine .run 90 aaA (by simp) ?_
 by_cases q1:a.name=b.name
 ·by_cases q2:a.op=b.op
  ·by_cases q3:a.off=b.off
   ·have e:nB a b=(decide (a.ins=b.ins)&&decide (a.rows=b.rows)):=by
     rw[fT];simp[nB,q1,q2,q3]
    rw[e];simp[q1,q2,q3];refine .call 90 (by simp) h1 ?_
    by_cases q4:a.ins=b.ins
    ·simp[q4];refine .call 90 (by simp) h2 ?_;simp;exact .back (by simp[q4])
    ·simp[q4];exact .back (by simp[q4])
   ·have e:nB a b=false:=by simp[nB,q3]
    rw[e]
    cases ha:a.off<;>cases hb:b.off<;>simp[ha,hb]at q3<;>simp[q1,q2,ha,hb]<;>exact .back (by simp)
  ·have e:nB a b=false:=by simp[nB,q2]
   rw[e];simp[q1,q2];exact .back (by simp)
 ·have e:nB a b=false:=by simp[nB,q1]
  rw[e];simp[q1];exact .back (by simp)
def mG:List Gt->List Gt->Bool
 |[],[]=>true
 |a::l,b::m=>nB a b&&mG l m
 |_,_=>false
theorem Oe:∀{a b:List Gt},mG a b=true->a.length=b.length
 |[],[],_=>rfl
 |a::l,b::m,h=>by
  rw[mG,ay]at h;simp[Oe h.2]
 |[],_::_,h=>by cases h
 |_::_,[],h=>by cases h
set_option maxRecDepth 8000 in
theorem ZI(a b:List Gt){ka kb:Nat}(ha:Kd 5 ka a)(hb:Kd 5 kb b)(hf:∀g∈a,wi g)(hs:a.length<2^40):
 aS Tryz.prog Γ xx [.list false ka (a.map cW),.list false kb (b.map cW),.fn (.func vk) [] []] (.bool (mG a b)):=by
 refine .run 60 Wa (by simp) ?_
 by_cases hl:a.length=b.length
 ·have key:∀n i:Nat,i+n=a.length->aA Tryz.prog Γ (ylR (.list false kb (b.map cW)) (.fn (.func vk) [] []) (.list false ka (a.map cW)) (.int .i64 a.length) (.int .i64 i) []) (.ret (.bool (mG (a.drop i) (b.drop i)))):=by
   intro n
   induction n with
   |zero=>
    intro i hi
    have h1:¬i<a.length:=by omega
    rw[bA (by omega),bA (by omega),mG];refine .go 60 ?_;simp[h1];exact .back (by simp)
   |succ n ih=>
    intro i hi
    have h1:i<a.length:=by omega
    have h2:i<b.length:=by omega
    have q2:=bR (ha.of h1);have q3:=bR (hb.of h2);have hh:=ih (i+1) (by omega);have hc:=ahg (Γ:=Γ) a[i] b[i] (hf _ (bw h1));rw[bJ h1,bJ h2,mG];refine .go 60 ?_;simp[h1,h2,q2,q3];refine .call 60 (by simp) hc ?_
    cases h3:nB a[i] b[i]with
    |true=>
     simp(disch:=omega);refine .aO ?_;simp;refine .drop 0 rfl (by simp) (by simp) (by simp) ?_;simp at hh⊢;exact hh
    |false=>
     simp;exact .back (by simp)
  have hh:=key a.length 0 (by omega);simp[hl];refine .inLoop ?_;simp[hl]at hh⊢;exact hh
 ·have h2:mG a b=false:=by
   cases h:mG a b with
   |false=>rfl
   |true=>exact absurd (Oe h) hl
  rw[h2];simp[hl];exact .back (by simp)
def Ds(a b:Ct):Bool:=decide (a.an=b.an)&&(decide (a.aw=b.aw)&&(decide (a.ah=b.ah)&&mG a.af b.af))
theorem ahR(a b:Ct)(ha:cK a):aS Tryz.prog Γ BT [cN a,cN b] (.bool (Ds a b)):=by
 have h1:=s7 (Γ:=Γ) a.an b.an a.hI b.hI (by have:=ha.1;omega);have h2:=s7 (Γ:=Γ) a.aw b.aw a.hO b.hO (by have:=ha.2.1;omega);have h3:=Wm (Γ:=Γ) a.ah b.ah a.hL b.hL (by have:=ha.2.2.1;omega);have h4:=ZI (Γ:=Γ) a.af b.af a.hG b.hG ha.2.2.2.2.1 (by have:=ha.2.2.2.1;omega);refine .run 90 aba (by simp) ?_;unfold Ds;simp;refine .call 90 (by simp) h1 ?_
 by_cases q1:a.an=b.an
 ·simp[q1];refine .call 90 (by simp) h2 ?_
  by_cases q2:a.aw=b.aw
  ·simp[q2];refine .call 90 (by simp) h3 ?_
   by_cases q3:a.ah=b.ah
   ·simp[q3];refine .call 90 (by simp) h4 ?_;simp;exact .back (by simp)
   ·simp[q3];exact .back (by simp)
  ·simp[q2];exact .back (by simp)
 ·simp[q1];exact .back (by simp)
end Go.Proofs.YtchjijfjidlpjaaGreatDoor
namespace Go.Proofs.YtchjijfjidlpjaaGreatDoor
open Go.AM Go.Proofs
theorem sa(a b:List UInt8):cj (.sc .str) (.str a) (.str b)=some (decide (a=b)):=by
 simp only[cj,eV]
 by_cases h:a=b<;>simp[h]
theorem ud(a b:Nat):cj (.sc .int) (.int .i64 a) (.int .i64 b)=some (decide (a=b)):=by
 simp only[cj,eV]
 by_cases h:a=b
 ·simp[h]
 ·have h2:¬(a:Int)=b:=by omega
  simp[h,h2]
section
variable{K:Type}[DecidableEq K]{E:EK}{e:K->AV}(he:∀a b,cj E (e a) (e b)=some (decide (a=b)))
def getM{V:Type}(k:K):List (K×V)->Option V
 |[]=>none
 |(a,v)::l=>if k=a then some v else getM k l
def pI{V:Type}(k:K)(l:List (K×V)):List (K×V):=l.filter fun x=>decide (¬x.1=k)
theorem getM_none{V:Type}{k:K}:∀{l:List (K×V)},getM k l=none↔∀x∈l,¬x.1=k
 |[]=>by simp[getM]
 |(a,v)::l=>by
  rw[getM]
  by_cases h:k=a
  ·rw[if_pos h];simp[h]
  ·rw[if_neg h,getM_none];simp only[bz,LA];exact⟨fun h1=>⟨fun h2=>h h2.symm,h1⟩,fun h1=>h1.2⟩
include he
theorem y9{V:Type}(ev:V->AV)(k:K):∀l:List (K×V),eT E (e k) (l.map fun x=>(e x.1,ev x.2))=some ((getM k l).map ev)
 |[]=>rfl
 |(a,v)::l=>by
  simp only[bU,eT,he,getM]
  by_cases h:k=a
  ·simp[h]
  ·simp only[h,nV,da];exact y9 ev k l
theorem BZ{V:Type}(ev:V->AV){k:K}(v:V):∀{l:List (K×V)},getM k l=none->gb E (e k) (ev v) (l.map fun x=>(e x.1,ev x.2))=some ((l++[(k,v)]).map fun x=>(e x.1,ev x.2))
 |[],_=>rfl
 |(a,u)::l,h=>by
  rw[getM]at h
  by_cases h2:k=a
  ·rw[if_pos h2]at h;cases h
  ·rw[if_neg h2]at h;simp only[bU,gb,he,h2,nV,BZ ev v h,dm,eo]
theorem Oj{V:Type}(ev:V->AV)(k:K):∀{l:List (K×V)},(l.map (·.1)).Nodup->nq E (e k) (l.map fun x=>(e x.1,ev x.2))=some ((pI k l).map fun x=>(e x.1,ev x.2))
 |[],_=>rfl
 |(a,u)::l,h=>by
  simp only[bU,lA]at h
  by_cases h2:k=a
  ·subst h2
   have h3:pI k l=l:=by
    unfold pI;rw[AY];intro x hx
    refine sY fun hn=>h.1 ?_
    rw[<-hn];exact sU hx
   have h4:pI k ((k,u)::l)=l:=by rw[<-h3];simp[pI]
   simp only[bU,nq,he,decide_true,h4]
  ·have h4:pI k ((a,u)::l)=(a,u)::pI k l:=by
    unfold pI;rw[rD,if_pos (by simpa using fun h=>h2 h.symm)]
   simp only[bU,nq,he,h2,nV,Oj ev k h.2,dm,h4]
end
end Go.Proofs.YtchjijfjidlpjaaGreatDoor
namespace Go.Proofs.YtchjijfjidlpjaaGreatDoor
open Go.AM Go.Proofs
variable{Γ:Nat->Option AV}
def cu(c:Ct):List (Bs×Nat):=c.af.zipIdx.map fun x=>(x.1.name,x.2)
abbrev iW(x:Bs×Nat):AV×AV:=(.str x.1,.int .i64 x.2)
theorem pq(m:Nat):∀l:List (Bs×Nat),fa m (l.map iW)=true
 |[]=>rfl
 |x::l=>by simp[pq m l]
theorem vT(c:Ct):(cu c).length=c.af.length:=by simp[cu]
theorem zJ(c:Ct)(i:Nat)(h:i<c.af.length):(cu c)[i]'(by rw[vT];exact h)=(c.af[i].name,i):=by simp[cu]
theorem adH(c:Ct):(cu c).map (·.1)=c.af.map (·.name):=by
 apply List.ext_getElem
 ·simp[cu]
 ·intro i h1 h2;simp[cu]
theorem abV{c:Ct}(hd:(c.af.map (·.name)).Nodup){i:Nat}(h:i<c.af.length):getM c.af[i].name ((cu c).take i)=none:=by
 rw[getM_none];intro x hx hn;obtain⟨j,hj,rfl⟩:=gC hx
 have hj':j<i:=by simp at hj;omega
 rw[w9,zJ c j (by omega)]at hn
 have h1:(c.af.map (·.name))[j]'(by simp;omega)=(c.af.map (·.name))[i]'(by simp;omega):=by simpa using hn
 have:=(E8 hd).1 h1;omega
set_option maxRecDepth 8000 in
theorem P3(c:Ct)(hc:cK c)(hd:(c.af.map (·.name)).Nodup){h:List Ob}(hw:bS h)(up:List Fr):
 AM.Reach Tryz.prog Γ (.cl uZ [cN c] up h) (.back up (.mp (h.length+1)) (h++[.cells (AV.cells (cN c)),.map ((cu c).map iW) true])):=by
 have hG:=c.hG;have hb:=hw (h.length+2) (by omega)
 have key:∀n i:Nat,i+n=c.af.length->AM.Reach Tryz.prog Γ (yjE (.mp (h.length+1)) (.list false c.kG (c.af.map cW)) (.int .i64 c.af.length) (.int .i64 i) (h++[.cells (AV.cells (cN c)),.map (((cu c).take i).map iW) true]) ⟨[],.norm,h.length,up⟩)
  (.back up (.mp (h.length+1)) (h++[.cells (AV.cells (cN c)),.map ((cu c).map iW) true])):=by
  intro n
  induction n with
  |zero=>
   intro i hi
   have q1:¬i<c.af.length:=by omega
   rw[cR (by rw[vT];omega)];refine .a8 60 ?_;simp[q1]
  |succ n ih=>
   intro i hi
   have q1:i<c.af.length:=by omega
   have q2:=bR (hG.of q1);have hh:=ih (i+1) (by omega)
   have q3:i<(cu c).length:=by rw[vT];exact q1
   have e1:(cu c).take (i+1)=(cu c).take i++[(c.af[i].name,i)]:=by rw[kK q3,zJ c i q1]
   rw[e1]at hh;have hput:=BZ (E:=.sc .str) (e:=AV.str) sa (fun n:Nat=>AV.int .i64 n) i (abV hd q1);have hbp:=pq (h.length+2) ((cu c).take i++[(c.af[i].name,i)])
   have hi2:i<2^10:=by have:=hc.2.2.2.1;omega
   generalize(cu c).take i=P at*;refine .a8 60 ?_;simp(disch:=omega) [q1,q2,isKey,bN,b9,hput];refine .aO ?_;simp;refine .oj (h.length+2) (by simp;rfl) (by simp) (by simp) (by simp[hb]at hbp⊢;exact hbp) ?_;simp at hh⊢;exact hh
 refine .bt 60 Yy ?_;simp;refine .inLoop ?_;have hh:=key c.af.length 0 (by omega);simp at hh⊢;exact hh
abbrev gL(c:Ct):AV:=.list false c.kG (c.af.map cW)
abbrev tR(p:Nat)(x2 x3 a b c d e f g h i w:AV):List AV:=[U,.ptr p 0,x2,x3,w,U,U,U,U,U,U,U,U,a,b,c,d,e,f,g,h,i]++List.replicate 58 U
abbrev hW(c:Ct)(n:Nat):List Ob:=[.cells [.sl (n+1) 0 c.af.length,.sl (n+2) 0 c.af.length],.row 1 n4 (List.replicate c.af.length .dp) none true false,.row 1 jK (List.replicate c.af.length (.list true 0 [])) none true false]
abbrev pN:=List Nat×List Nat
abbrev J7:List (List Nat):=[[],[0],[1],[2,2],[],[4],[5],[6,6],[3,7],[],[9,8,0,1,2,3,4,5,6,7,8,9]]
abbrev Uy(x:pN):List Nat:=(List.range 11).filter (lM J7 x.1)
def Ja(i:Nat):List Nat->List Nat
 |[]=>[i]
 |a::l=>if i<a then i::a::l else a::Ja i l
def oP(i:Nat)(x:pN):pN:=(Ja i x.1,if i==3||i==7||i==9 then x.2++[i]else x.2)
def nK(y:Nat):List Nat->Nat
 |[]=>0
 |a::l=>if a==y then 0 else(if a==9 then 3 else 1)+nK y l
abbrev sG(c:Ct)(H:List Ob)(j:Nat):AV:=.sl (H.length+j) 0 c.af.length
def yW(c:Ct)(p:Nat)(H:List Ob)(x:pN):Nat->AV
 |0=>.ptr p 3|4=>.ptr p 3|1=>gL c|5=>gL c|2=>.int .i64 c.af.length|6=>.int .i64 c.af.length
 |3=>sG c H (nK 3 x.2)|7=>sG c H (nK 7 x.2)|8=>.agg [sG c H (nK 3 x.2),sG c H (nK 7 x.2)]|9=>.ptr (H.length+nK 9 x.2) 0|_=>.aH []
def zW(c:Ct)(p:Nat)(H:List Ob)(x:pN)(i:Nat):AV:=if x.1.contains i then yW c p H x i else U
def tW(c:Ct)(p:Nat)(x2 x3:AV)(H:List Ob)(x:pN):List AV:=tR p x2 x3 (zW c p H x 0) (zW c p H x 1) (zW c p H x 2) (zW c p H x 3) (zW c p H x 4) (zW c p H x 5) (zW c p H x 6) (zW c p H x 7) (zW c p H x 8) (zW c p H x 9)
def La(c:Ct)(H:List Ob)(x:pN)(i:Nat):List Ob:=
 if i==3 then[.row 1 n4 (List.replicate c.af.length .dp) none true false]else if i==7 then[.row 1 jK (List.replicate c.af.length (.list true 0 [])) none true false]
 else[.cells (if x.1.contains 10 then[sG c H (nK 3 x.2),sG c H (nK 7 x.2)]else[.sl (H.length+(nK 9 x.2+1)) 0 0,.sl (H.length+(nK 9 x.2+2)) 0 0]),.row 1 n4 [] none true false,.row 1 jK [] none true false]
def sA(c:Ct)(H:List Ob)(x:pN):List Ob:=H++x.2.flatMap (La c H x)
abbrev wx:List pN:=[([],[]),([0],[]),([4],[]),([9],[9]),([0,1],[]),([0,4],[]),([0,9],[9]),([4,5],[]),([4,9],[9]),([0,1,2],[]),([0,1,4],[]),([0,1,9],[9]),([0,4,5],[]),([0,4,9],[9]),([4,5,6],[]),([4,5,9],[9]),([0,1,2,3],[3]),([0,1,2,4],[]),([0,1,2,9],[9]),([0,1,4,5],[]),([0,1,4,9],[9]),([0,4,5,6],[]),([0,4,5,9],[9]),([4,5,6,7],[7]),([4,5,6,9],[9]),([0,1,2,3,4],[3]),([0,1,2,3,9],[3,9]),([0,1,2,3,9],[9,3]),([0,1,2,4,5],[]),([0,1,2,4,9],[9]),([0,1,4,5,6],[]),([0,1,4,5,9],[9]),([0,4,5,6,7],[7]),([0,4,5,6,9],[9]),([4,5,6,7,9],[7,9]),([4,5,6,7,9],[9,7]),([0,1,2,3,4,5],[3]),([0,1,2,3,4,9],[3,9]),([0,1,2,3,4,9],[9,3]),([0,1,2,4,5,6],[]),([0,1,2,4,5,9],[9]),([0,1,4,5,6,7],[7]),([0,1,4,5,6,9],[9]),([0,4,5,6,7,9],[7,9]),([0,4,5,6,7,9],[9,7]),([0,1,2,3,4,5,6],[3]),([0,1,2,3,4,5,9],[3,9]),([0,1,2,3,4,5,9],[9,3]),([0,1,2,4,5,6,7],[7]),([0,1,2,4,5,6,9],[9]),([0,1,4,5,6,7,9],[7,9]),([0,1,4,5,6,7,9],[9,7]),([0,1,2,3,4,5,6,7],[3,7]),([0,1,2,3,4,5,6,7],[7,3]),([0,1,2,3,4,5,6,9],[3,9]),([0,1,2,3,4,5,6,9],[9,3]),([0,1,2,4,5,6,7,9],[7,9]),([0,1,2,4,5,6,7,9],[9,7]),([0,1,2,3,4,5,6,7,8],[3,7]),([0,1,2,3,4,5,6,7,8],[7,3]),([0,1,2,3,4,5,6,7,9],[3,7,9]),([0,1,2,3,4,5,6,7,9],[3,9,7]),([0,1,2,3,4,5,6,7,9],[7,3,9]),([0,1,2,3,4,5,6,7,9],[7,9,3]),([0,1,2,3,4,5,6,7,9],[9,3,7]),([0,1,2,3,4,5,6,7,9],[9,7,3]),([0,1,2,3,4,5,6,7,8,9],[3,7,9]),([0,1,2,3,4,5,6,7,8,9],[3,9,7]),([0,1,2,3,4,5,6,7,8,9],[7,3,9]),([0,1,2,3,4,5,6,7,8,9],[7,9,3]),([0,1,2,3,4,5,6,7,8,9],[9,3,7]),([0,1,2,3,4,5,6,7,8,9],[9,7,3]),([0,1,2,3,4,5,6,7,8,9,10],[3,7,9]),([0,1,2,3,4,5,6,7,8,9,10],[3,9,7]),([0,1,2,3,4,5,6,7,8,9,10],[7,3,9]),([0,1,2,3,4,5,6,7,8,9,10],[7,9,3]),([0,1,2,3,4,5,6,7,8,9,10],[9,3,7]),([0,1,2,3,4,5,6,7,8,9,10],[9,7,3])]
section
variable{c:Ct}{p:Nat}{x2 x3:AV}{H:List Ob}{up:List Fr}{base:Nat}{k:List It}{C:AM.ar}
abbrev AW(Γ:Nat->Option AV)(c:Ct)(p:Nat)(x2 x3:AV)(k:List It)(base:Nat)(up:List Fr)(C:AM.ar)(H:List Ob)(x:pN):Prop:=mH Tryz.prog Γ J7 Em n7 k [] .norm base up C x.1 (11-x.1.length) (tW c p x2 x3 H x) (sA c H x)
theorem adt:(wx.all fun x=>(decide (x.1.length<11)||(wx.drop 72).contains x)&&(Uy x).all fun i=>(wx.contains (oP i x))&&(i::x.1).isPerm (oP i x).1&&decide ((i::x.1).length=(oP i x).1.length))=true:=by decide+kernel
set_option maxRecDepth 8000 in
theorem ajm(hc:cK c)(hp:H[p]? =some (.cells (AV.cells (cN c)))):∀x∈wx,∀i∈Uy x,∃d op,Em.getD i default=⟨d,none,op⟩/\
 (aB Tryz.prog Γ (tW c p x2 x3 H x) (sA c H x) op=.val (yW c p H (oP i x) i) (sA c H (oP i x))\/yW c p H (oP i x) i=.aH []/\aB Tryz.prog Γ (tW c p x2 x3 H x) (sA c H x) op=.skip (sA c H (oP i x)))/\
 a_ (tW c p x2 x3 H x) d (yW c p H (oP i x) i)=tW c p x2 x3 H (oP i x):=by
 have hG:=hc.2.2.2.1
 have hget:=fun os=>fF hp os
 have b8:((c.af.length:Int)*8<=140737488355328/\(c.af.length:Int)<=140737488355328)=True:=bR (by omega);have b24:((c.af.length:Int)*24<=140737488355328/\(c.af.length:Int)<=140737488355328)=True:=bR (by omega)
 repeat' (first|refine V1.2 ⟨?_,?_⟩|exact List.forall_mem_nil _)
 all_goals exact ⟨_,_,rfl,by simp[tW,sA,zW,yW,nK,oP,Ja,La,hp,hget,b8,b24],rfl⟩
set_option maxRecDepth 8000 in
theorem ai5(hw:cr H.length H=true)(hb:base<=H.length)(hp:p<H.length)(h2:aG H.length x2=true)(h3:aG H.length x3=true)(hk:gQ H.length k=true)
 (hC:AM.Reach Tryz.prog Γ (.fr ⟨.run,n7,.ops []::k,tR p x2 x3 U U U U U U U U U (.ptr H.length 0),[],.norm,base⟩ up (H++hW c H.length)) C):∀x∈wx.drop 72,AW Γ c p x2 x3 k base up C H x:=by
 have hlt:∀j,(H.length+j<H.length)=False:=fun j=>nY (by omega)
 simp at hC
 repeat' (first|refine V1.2 ⟨?_,?_⟩|exact List.forall_mem_nil _)
 all_goals
  refine .trans (.oF [13,14,15,16,17,18,19,20,21] _) ?_;simp[oA,tW,sA,zW,yW,nK,La]
  first
  |refine .q9 H.length [2,0,1] (by simp[rS hw,jL h2,jL h3,hk,hb,hp];done) (by decide) ?_
   simp[rT hw,jM h2,jM h3,hp,hlt];exact hC
  |refine .q9 H.length [1,0,4] (by simp[rS hw,jL h2,jL h3,hk,hb,hp];done) (by decide) ?_
   simp[rT hw,jM h2,jM h3,hp,hlt];exact hC
  |refine .q9 H.length [2,1,0] (by simp[rS hw,jL h2,jL h3,hk,hb,hp];done) (by decide) ?_
   simp[rT hw,jM h2,jM h3,hp,hlt];exact hC
  |refine .q9 H.length [1,4,0] (by simp[rS hw,jL h2,jL h3,hk,hb,hp];done) (by decide) ?_
   simp[rT hw,jM h2,jM h3,hp,hlt];exact hC
  |refine .q9 H.length [0,3,4] (by simp[rS hw,jL h2,jL h3,hk,hb,hp];done) (by decide) ?_
   simp[rT hw,jM h2,jM h3,hp,hlt];exact hC
  |refine .q9 H.length [0,4,3] (by simp[rS hw,jL h2,jL h3,hk,hb,hp];done) (by decide) ?_
   simp[rT hw,jM h2,jM h3,hp,hlt];exact hC
set_option maxRecDepth 8000 in
theorem afp(hc:cK c)(hp:H[p]? =some (.cells (AV.cells (cN c))))(hw:cr H.length H=true)(hb:base<=H.length)(h2:aG H.length x2=true)(h3:aG H.length x3=true)(hk:gQ H.length k=true)
 (hC:AM.Reach Tryz.prog Γ (.fr ⟨.run,n7,.ops []::k,tR p x2 x3 U U U U U U U U U (.ptr H.length 0),[],.norm,base⟩ up (H++hW c H.length)) C):
 AM.Reach Tryz.prog Γ (.fr ⟨.run,n7,.code (.gm J7 Em)::k,tR p x2 x3 U U U U U U U U U U,[],.norm,base⟩ up H) C:=by
 have ha:=adt;simp only[dU,ay,ff,E1,List.isPerm_iff,aZ]at ha
 have key:∀n,∀x∈wx,11-x.1.length=n->AW Γ c p x2 x3 k base up C H x:=by
  intro n
  induction n with
  |zero=>exact fun x hx hn=>ai5 hw hb (aV hp) h2 h3 hk hC x ((ha x hx).1.resolve_left (by omega))
  |succ n ih=>
   intro x hx hn;rw[AW,hn]
   refine .step fun i hi=>?_
   obtain⟨d,op,e1,e2,e3⟩:=ajm hc hp x hx i hi;obtain⟨⟨a1,a2⟩,a3⟩:=(ha x hx).2 i hi;refine⟨d,op,_,_,e1,e2,?_⟩;rw[e3]
   have a4:11-(oP i x).1.length=n:=by simp at a3;omega
   have:=ih _ a1 a4;rw[AW,a4]at this;exact this.perm a2.symm
 have h:=key 11 ([],[]) (by decide) rfl;rw[AW,sA,List.flatMap_nil,ee]at h;exact mH.all h
end
abbrev eK(k:Nat):AV×AV:=(.int .i64 k,.bool true)
def gn(l:List Nat):Ob:=.row 1 aq (l.map iN) none true false
def iT(l:List Nat):Ob:=.map (l.map eK) true
def dQ(n N m:Nat):List AV:=(List.range m).map (fun i=>AV.mp (n+(3+(N+i))))++List.replicate (N-m) .dp
def gv(n:Nat)(b:List (List Nat)):List AV:=b.mapIdx fun j l=>AV.sl (n+(3+j)) 0 l.length
def hF(n N m:Nat)(b:List (List Nat)):List Ob:=[.cells [.sl (n+1) 0 N,.sl (n+2) 0 N],.row 1 n4 (dQ n N m) none (decide (m=0)) false,.row 1 jK (gv n b) none (decide (b.length=0)) false]
def hQ(H:List Ob)(nd b:List (List Nat)):List Ob:=H++(hF H.length b.length nd.length b++(b.map gn++nd.map iT))
section
variable{H:List Ob}{nd b:List (List Nat)}
theorem my:(hQ H nd b).length=H.length+(3+(b.length+nd.length)):=by simp[hQ,hF];omega
theorem IS{i:Nat}(h:i<H.length):(hQ H nd b)[i]? =H[i]? :=by rw[hQ,cz h]
theorem z8(i:Nat):(hQ H nd b)[H.length+i]? =(hF H.length b.length nd.length b++(b.map gn++nd.map iT))[i]? :=by
 rw[hQ,dk (by omega)];congr 1;omega
theorem I':(hQ H nd b)[H.length]? =some (.cells [.sl (H.length+1) 0 b.length,.sl (H.length+2) 0 b.length]):=z8 0
theorem I0:(hQ H nd b)[H.length+1]? =some (.row 1 n4 (dQ H.length b.length nd.length) none (decide (nd.length=0)) false):=z8 1
theorem Sy:(hQ H nd b)[H.length+2]? =some (.row 1 jK (gv H.length b) none (decide (b.length=0)) false):=z8 2
theorem I3{k:Nat}(h:k<b.length):(hQ H nd b)[H.length+(3+k)]? =some (gn b[k]):=by
 rw[z8,dk (by simp[hF]),cz (by simp[hF];omega)];simp[hF,h]
theorem SF{i:Nat}(h:i<nd.length):(hQ H nd b)[H.length+(3+(b.length+i))]? =some (iT nd[i]):=by
 rw[z8,dk (by simp[hF]),dk (by simp[hF])];simp[hF,h]
theorem GL{n N m i:Nat}(h:i<m):(dQ n N m)[i]? =some (.mp (n+(3+(N+i)))):=by
 rw[dQ,cz (by simpa using h)];simp[h]
theorem B5{n N m:Nat}(h:m<=N):(dQ n N m).length=N:=by simp[dQ];omega
theorem rY(n:Nat)(b:List (List Nat)):(gv n b).length=b.length:=by simp[gv]
theorem tQ{n k:Nat}(h:k<b.length):(gv n b)[k]? =some (.sl (n+(3+k)) 0 b[k].length):=by simp[gv,h]
theorem afQ{n k:Nat}(l:List Nat)(h:k<b.length):(gv n b).set k (.sl (n+(3+k)) 0 l.length)=gv n (b.set k l):=by
 apply iC;intro j
 by_cases hj:k=j
 ·subst hj;rw[eI (by rw[rY];exact h),tQ (by simpa using h)];simp
 ·rw[dM hj]
  by_cases hjb:j<b.length
  ·rw[tQ hjb,tQ (by simpa using hjb),LB hj]
  ·rw[fS (by rw[rY];omega),fS (by rw[rY];simp;omega)]
theorem Qt{i:Nat}(l:List Nat)(h:i<nd.length):(hQ H nd b).set (H.length+(3+(b.length+i))) (iT l)=hQ H (nd.set i l) b:=by
 have e:H.length+(3+(b.length+i))=H.length+((hF H.length b.length nd.length b).length+((b.map gn).length+i)):=by simp[hF]
 have ap:∀(a c:List Ob)(j:Nat)(o:Ob),(a++c).set (a.length+j) o=a++c.set j o:=fun a c j o=>by
  rw[xu _ _ (by omega)];congr 2;omega
 rw[hQ,e,ap,ap,ap,hQ,jZ,<-rz]
theorem Dd(a c:List Ob)(j:Nat)(o:Ob):(a++c).set (a.length+j) o=a++c.set j o:=by rw[xu _ _ (by omega)];congr 2;omega
theorem afR{k:Nat}(l:List Nat)(h:k<b.length):((hQ H nd b).set (H.length+(3+k)) (gn l)).set (H.length+2) (.row 1 jK (gv H.length (b.set k l)) none (decide (b.length=0)) false)=hQ H nd (b.set k l):=by
 have e:H.length+(3+k)=H.length+((hF H.length b.length nd.length b).length+k):=by simp[hF]
 have ap:∀(a c:List Ob)(j:Nat)(o:Ob),(a++c).set (a.length+j) o=a++c.set j o:=fun a c j o=>by
  rw[xu _ _ (by omega)];congr 2;omega
 rw[hQ,e,ap,ap,ap,hQ,jZ,show((b.map gn++nd.map iT).set k (gn l))=(b.map gn).set k (gn l)++nd.map iT from lz _ _ (by simpa using h),<-rz];simp[hF]
theorem Q3{n m:Nat}(b:List (List Nat))(h:n+(3+b.length)<=m):aK m (gv n b)=true:=by
 have:∀(l:List (List Nat))(q:Nat),q+(3+l.length)<=m->aK m (l.mapIdx fun j x=>AV.sl (q+(3+j)) 0 x.length)=true:=by
  intro l
  induction l with
  |nil=>intro q _;rfl
  |cons a l ih=>
   intro q hq;simp only[bE]at hq;have h2:=ih (q+1) (by omega)
   have e:(fun(i:Nat) (x:List Nat)=>AV.sl (q+(3+(i+1))) 0 x.length)=fun j x=>AV.sl (q+1+(3+j)) 0 x.length:=by
    funext j x;congr 1;omega
   rw[List.mapIdx_cons,e]
   simp only[aK,h2,aG,pS,aZ];omega
 exact this b n h
theorem G2{n N m q:Nat}(h:n+(3+(N+m))<=q):aK q (dQ n N m)=true:=by
 have h1:∀l:List Nat,(∀i∈l,i<m)->aK q (l.map fun i=>AV.mp (n+(3+(N+i))))=true:=by
  intro l
  induction l with
  |nil=>intro _;rfl
  |cons a l ih=>
   intro hl;have:=hl a (by simp)
   simp only[bU,aK,aG,ih fun i hi=>hl i (by simp[hi]),pS,aZ];omega
 have h2:∀k,aK q (List.replicate k AV.dp)=true:=by
  intro k
  induction k with
  |zero=>rfl
  |succ k ih=>simp[l9,ih]
 rw[dQ,FU,h1 _ (fun i hi=>by simpa using hi),h2];rfl
theorem Hh(m:Nat):∀b:List (List Nat),cr m (b.map gn)=true
 |[]=>rfl
 |l::b=>by simp[gn,Hh m b]
theorem RW(m:Nat):∀l:List Nat,fa m (l.map eK)=true
 |[]=>rfl
 |l::b=>by simp[RW m b]
theorem HC(m:Nat):∀b:List (List Nat),cr m (b.map iT)=true
 |[]=>rfl
 |l::b=>by
  have:=RW m l;simp only[bU,cr,iT,iu,this,sR];exact HC m b
theorem aiv(hw:bS H):bS (hQ H nd b):=fun m hm=>by
 rw[my]at hm;have h1:=hw m (by omega);have h2:=Q3 (n:=H.length) (m:=m) b (by omega);have h3:=G2 (n:=H.length) (N:=b.length) (m:=nd.length) (q:=m) (by omega);rw[hQ,qd,qd,qd,h1,Hh,HC];simp[hF,h2,h3];omega
theorem HM{n i m:Nat}(b:List (List Nat))(h:∀j(hj:j<b.length),n+(3+j)=i->b[j].length=m):dh i m (gv n b)=true:=by
 have:∀l:List AV,(∀a∈l,jF i m a=true)->dh i m l=true:=by
  intro l
  induction l with
  |nil=>intro _;rfl
  |cons a l ih=>intro hl;simp only[dh,hl a (by simp),ih fun x hx=>hl x (by simp[hx]),nU]
 refine this _ fun a ha=>?_
 obtain⟨j,hj,rfl⟩:=gC ha;rw[rY]at hj
 have e:(gv n b)[j]'(by rw[rY];exact hj)=.sl (n+(3+j)) 0 b[j].length:=by
  have:=tQ (n:=n) hj;exact(db.1 this).2
 rw[e];simp only[jF,ff,j7,rC,iZ,mU]
 by_cases hi:n+(3+j)=i
 ·exact .inr (h j hj hi)
 ·exact .inl hi
theorem Gz{n N m i q:Nat}:dh i q (dQ n N m)=true:=by
 have:∀l:List AV,(∀a∈l,jF i q a=true)->dh i q l=true:=by
  intro l
  induction l with
  |nil=>intro _;rfl
  |cons a l ih=>intro hl;simp only[dh,hl a (by simp),ih fun x hx=>hl x (by simp[hx]),nU]
 refine this _ fun a ha=>?_
 simp only[dQ,aT,cd,dJ,V_]at ha
 rcases ha with⟨j,_,rfl⟩|⟨_,rfl⟩<;>rfl
theorem Ch(i m:Nat):∀b:List (List Nat),cQ i m (b.map gn)=true
 |[]=>rfl
 |l::b=>by simp[gn,Ch i m b]
theorem RQ(i m:Nat):∀l:List Nat,oB i m (l.map eK)=true
 |[]=>rfl
 |l::b=>by simp[RQ i m b]
theorem Ck(i m:Nat):∀b:List (List Nat),cQ i m (b.map iT)=true
 |[]=>rfl
 |l::b=>by
  have:=RQ i m l;simp only[bU,cQ,iT,mO,this,sR];exact Ck i m b
theorem jH(i m:Nat):∀a b:List Ob,cQ i m (a++b)=(cQ i m a&&cQ i m b)
 |[],b=>rfl
 |o::a,b=>by simp[cQ,jH i m a b,oZ]
theorem ahM(hv:gV H){k:Nat}(h:k<b.length):cQ (H.length+(3+k)) b[k].length (hQ H nd b)=true:=by
 have h1:=hv (H.length+(3+k)) b[k].length (by omega)
 have h2:dh (H.length+(3+k)) b[k].length (gv H.length b)=true:=HM b fun j hj he=>by
  obtain rfl:j=k:=by omega
  rfl
 have h3:=Gz (n:=H.length) (N:=b.length) (m:=nd.length) (i:=H.length+(3+k)) (q:=b[k].length);rw[hQ,jH,jH,jH,h1,Ch,Ck];simp[hF,h2,h3];omega
end
def mC(n N j:Nat):List AV:=(List.range j).map (fun i=>AV.sl (n+(3+i)) 0 0)++List.replicate (N-j) (.list true 0 [])
def kh(H:List Ob)(N j:Nat):List Ob:=H++([.cells [.sl (H.length+1) 0 N,.sl (H.length+2) 0 N],.row 1 n4 (dQ H.length N 0) none true false,.row 1 jK (mC H.length N j) none (decide (j=0)) false]++List.replicate j (gn []))
theorem acY(H:List Ob)(N j:Nat):(kh H N j).length=H.length+(3+j):=by simp[kh];omega
theorem ahG(H:List Ob)(N:Nat)(f:Fr)(up:List Fr):∀m j:Nat,j+m=N->AM.Reach Tryz.prog Γ (.fr f up (kh H N j)) (.fr f up (kh H N N)):=by
 intro m
 induction m with
 |zero=>
  intro j hj
  obtain rfl:j=N:=by omega
  exact .refl _
 |succ m ih=>
  intro j hj;have hlen:=acY H N j
  have hi:(kh H N j)[H.length+2]? =some (.row 1 jK (mC H.length N j) none (decide (j=0)) false):=by
   rw[kh,dk (by omega),show H.length+2-H.length=2 by omega];rfl
  have hj2:(mC H.length N j)[j]? =some (.list true 0 []):=by
   rw[mC,dk (by simp),fC,pV,EX,show N-j=(N-(j+1))+1 by omega,l9];rfl
  have hst:=AM.Reach.CD (P:=Tryz.prog) (Γ:=Γ) (f:=f) (up:=up) (k:=1) aq hi hj2 (by omega);refine .trans hst ?_
  have e:((kh H N j++[Ob.row 1 aq [] none true false]).set (H.length+2) (.row 1 jK ((mC H.length N j).set j (.sl (kh H N j).length 0 0)) none false false))=kh H N (j+1):=by
   have e1:(mC H.length N j).set j (.sl (kh H N j).length 0 0)=mC H.length N (j+1):=by
    rw[hlen,mC,xu _ _ (by simp)]
    have e2:List.replicate (N-j) (AV.list true 0 [])=.list true 0 []::List.replicate (N-(j+1)) (.list true 0 []):=by
     rw[show N-j=(N-(j+1))+1 by omega,l9]
    rw[e2];simp[mC,E5]
   rw[e1,kh,kh,cI,Dd];have e3:List.replicate (j+1) (gn [])=List.replicate j (gn [])++[gn []]:=List.replicate_succ';rw[e3];simp[gn]
  rw[e];exact ih (j+1) (by omega)
theorem aaN(c:Ct)(H:List Ob):kh H c.af.length 0=H++hW c H.length:=by simp[kh,hW,dQ,mC]
theorem abG(H:List Ob)(N:Nat):kh H N N=hQ H [] (List.replicate N []):=by
 have e:mC H.length N N=gv H.length (List.replicate N []):=by
  apply iC;intro j
  by_cases hj:j<N
  ·rw[tQ (by simpa using hj)];simp[mC,hj]
  ·rw[fS (by simp[mC];omega),fS (by rw[rY];simp;omega)]
 simp[kh,hQ,hF,e]
theorem O0(k:Nat):∀l:List Nat,eT (.sc .int) (.int .i64 k) (l.map eK)=some (if k∈l then some (.bool true)else none)
 |[]=>rfl
 |a::l=>by
  simp only[bU,eT,ud]
  by_cases h:k=a
  ·simp[h]
  ·simp[h,O0 k l]
theorem Qw{k:Nat}:∀{l:List Nat},k∉l->gb (.sc .int) (.int .i64 k) (.bool true) (l.map eK)=some ((l++[k]).map eK)
 |[],_=>rfl
 |a::l,h=>by
  simp only[bz,not_or]at h;simp only[bU,gb,ud,h.1,nV,Qw h.2,dm,eo]
theorem ahq{c:Ct}{s:Bs}{k:Nat}(h:getM s (cu c)=some k):k<c.af.length:=by
 have:∀l:List (Bs×Nat),getM s l=some k->∃x∈l,x.2=k:=by
  intro l
  induction l with
  |nil=>intro h;cases h
  |cons x l ih=>
   obtain⟨a,v⟩:=x;intro h;rw[getM]at h
   split at h
   ·exact⟨(a,v),by simp,Option.some.inj h⟩
   ·obtain⟨x,h1,h2⟩:=ih h;exact⟨x,by simp[h1],h2⟩
 obtain⟨x,h1,rfl⟩:=this _ h;obtain⟨j,hj,rfl⟩:=gC h1;rw[vT]at hj
 rw[zJ c j hj];exact hj
def fj(pl:List (Bs×Nat)):List Bs->List Nat->List Nat
 |[],a=>a
 |s::r,a=>match getM s pl with
  |none=>fj pl r a
  |some k=>fj pl r (if k∈a then a else a++[k])
def jW(pl:List (Bs×Nat))(i:Nat):List Bs->List Nat->List (List Nat)->List (List Nat)
 |[],_,b=>b
 |s::r,a,b=>match getM s pl with
  |none=>jW pl i r a b
  |some k=>jW pl i r (if k∈a then a else a++[k]) (if k∈a then b else b.set k (b.getD k []++[i]))
theorem aev{A:List Ob}{r s:Nat}(h:s≠r)(o o1 o2:Ob):((A.set r o1).set s o2).set r o=(A.set r o).set s o2:=by
 rw[List.set_comm _ _ h,sX]
theorem ah1{h:List Ob}{i:Nat}{o:Ob}(hi:h[i]? =some o):h.set i o=h:=by
 apply iC;intro j
 by_cases hj:i=j
 ·subst hj;rw[eI (aV hi),hi]
 ·rw[dM hj]
theorem Hx{i m:Nat}{o:Ob}(ho:mO i m o=true):∀{h:List Ob}(j:Nat),cQ i m h=true->cQ i m (h.set j o)=true
 |[],_,h1=>h1
 |o'::h,0,h1=>by
  simp only[cQ,ay,wX]at h1⊢;exact⟨ho,h1.2⟩
 |o'::h,j+1,h1=>by
  simp only[cQ,ay,rp]at h1⊢;exact⟨h1.1,Hx ho j h1.2⟩
set_option maxRecDepth 8000 in
theorem afm(c:Ct)(hc:cK c){H:List Ob}(hw:bS H)(hv:gV H){m0:Nat}(hm:H[m0]? =some (.map ((cu c).map iW) true))(nd:List (List Nat))(i:Nat)(hi:i<c.af.length)(hnd:nd.length=i)(up:List Fr)(base:Nat)(hbase:base<=H.length)(p2:Nat):∀n q:Nat,q+n=c.af[i].ins.length->∀(cur:List Nat)(b:List (List Nat)),b.length=c.af.length->(∀l∈b,l.length<=2^20+i*2^10+q)->
 AM.Reach Tryz.prog Γ (yrb (.ptr p2 0) (.mp m0) (.ptr H.length 0) (.int .i64 i) (.list false c.kG (c.af.map cW)) (.int .i64 c.af.length) (.int .i64 i) (.list false c.af[i].ki (c.af[i].ins.map .str)) (.int .i64 c.af[i].ins.length) (.int .i64 q) (hQ H (nd++[cur]) b) ⟨[],.norm,base,up⟩)
  (yrc (.ptr p2 0) (.mp m0) (.ptr H.length 0) (.list false c.kG (c.af.map cW)) (.int .i64 c.af.length) (.int .i64 i) (hQ H (nd++[fj (cu c) (c.af[i].ins.drop q) cur]) (jW (cu c) i (c.af[i].ins.drop q) cur b)) ⟨[],.norm,base,up⟩):=by
 have hiB:i<2^10:=by have:=hc.2.2.2.1;omega
 have hqB:c.af[i].ins.length<2^10:=(hc.2.2.2.2.1 _ (bw hi)).2.1;intro n
 induction n with
 |zero=>
  intro q hq cur b hb hbl
  have q1:¬q<c.af[i].ins.length:=by omega
  rw[bA (by omega),fj,jW];refine .dW 60 ?_;simp[q1];exact .exit rfl rfl
 |succ n ih=>
  intro q hqn cur b hb hbl
  have hq:q<c.af[i].ins.length:=by omega
  have q2:=bR (c.af[i].hi.of hq)
  have hget:(hQ H (nd++[cur]) b)[m0]? =some (.map ((cu c).map iW) true):=by rw[IS (aV hm)];exact hm
  have hfi:=y9 (E:=.sc .str) (e:=AV.str) sa (fun n:Nat=>AV.int .i64 n) c.af[i].ins[q] (cu c);rw[bJ hq,fj,jW]
  cases hk:getM c.af[i].ins[q] (cu c)with
  |none=>
   rw[hk]at hfi;have hh:=ih (q+1) (by omega) cur b hb (fun l hl=>by have:=hbl l hl;omega);refine .dW 60 ?_;simp(disch:=omega) [hq,q2,hget,hfi,isKey,bN,b9];refine .aO ?_;simp at hh⊢;exact hh
  |some k=>
   rw[hk]at hfi;have hkl:=ahq hk
   have hkb:k<b.length:=by omega
   have xw:=I' (H:=H) (nd:=nd++[cur]) (b:=b);have xn:=I0 (H:=H) (nd:=nd++[cur]) (b:=b)
   have hii:i<(nd++[cur]).length:=by simp;omega
   have xm:=SF (H:=H) (b:=b) hii
   have ecur:(nd++[cur])[i]=cur:=by rw[EW (by omega)];simp[hnd]
   have yn:=GL (n:=H.length) (N:=b.length) hii
   have hm1:(nd++[cur]).length=nd.length+1:=by simp
   have yl:=B5 (n:=H.length) (N:=b.length) (m:=nd.length+1) (by omega);have yt:List.take b.length (dQ H.length b.length (nd.length+1))=dQ H.length b.length (nd.length+1):=cR (by rw[yl];exact aQ _);have fc:=O0 k cur;rw[ecur]at xm;rw[hm1]at yn xn;rw[hb]at xm yn xw xn yl yt;obtain⟨_,yn'⟩:=db.1 yn
   by_cases hkc:k∈cur
   ·rw[if_pos hkc]at fc;have hh:=ih (q+1) (by omega) cur b hb (fun l hl=>by have:=hbl l hl;omega);simp only[if_pos hkc];generalize hQ H (nd++[cur]) b=X at*;refine .dW 60 ?_;simp(disch:=omega) [hq,q2,hget,hfi,isKey,bN,b9,xw,xn,xm,yn,yl,yt,yn',hi,iT,fc];refine .aO ?_;simp at hh⊢;exact hh
   ·rw[if_neg hkc]at fc;have pc:=Qw hkc;have xb:=Sy (H:=H) (nd:=nd++[cur]) (b:=b);have xr:=I3 (H:=H) (nd:=nd++[cur]) hkb;have yb:=tQ (n:=H.length) hkb
    have hh:=ih (q+1) (by omega) (cur++[k]) (b.set k (b.getD k []++[i])) (by simpa using hb) (fun l hl=>by
     rcases pT hl with h1|h1
     ·have:=hbl l h1;omega
     ·have egd:b.getD k []=b[k]:=by rw[bq,aR hkb];rfl
      have:=hbl _ (bw hkb)
      rw[h1,egd,bu,uE];omega)
    simp only[if_neg hkc]
    have fin:((((hQ H (nd++[cur]) b).set (H.length+(3+(c.af.length+i))) (.map (List.map eK cur++[eK k]) true)).set (H.length+(3+k)) (.row 1 aq (List.map iN b[k]++[.int .i64 i]) (some 0) true false)).set (H.length+2) (.row 1 jK ((gv H.length b).set k (.sl (H.length+(3+k)) 0 (b[k].length+1))) none false false))=
     (hQ H (nd++[cur++[k]]) (b.set k (b[k]++[i]))).set (H.length+(3+k)) (.row 1 aq (List.map iN b[k]++[.int .i64 i]) (some 0) true false):=by
     have f1:=Qt (H:=H) (b:=b) (cur++[k]) hii;have f2:=afR (H:=H) (nd:=nd++[cur++[k]]) (b[k]++[i]) hkb;have f3:=afQ (n:=H.length) (b[k]++[i]) hkb
     have f4:(nd++[cur]).set i (cur++[k])=nd++[cur++[k]]:=by rw[xu _ _ (by omega)];simp[hnd]
     have f5:iT (cur++[k])=.map (List.map eK cur++[eK k]) true:=by simp[iT]
     have f6:decide (b.length=0)=false:=xv (by omega)
     have f7:(b[k]++[i]).length=b[k].length+1:=by simp
     rw[f4,f5,hb]at f1;rw[f6]at f2;rw[f7]at f3;rw[f1,f3,<-f2,aev (by omega)]
    have vfin:=ahM (H:=H) (nd:=nd++[cur++[k]]) (b:=b.set k (b[k]++[i])) hv (k:=k) (by simpa using hkb);have zget:=I3 (H:=H) (nd:=nd++[cur++[k]]) (b:=b.set k (b[k]++[i])) (k:=k) (by simpa using hkb);have zlen:=my (H:=H) (nd:=nd++[cur++[k]]) (b:=b.set k (b[k]++[i]));rw[List.getElem_set_self]at vfin zget;have zl:=rY H.length b;have zt:List.take b.length (gv H.length b)=gv H.length b:=cR (by rw[zl];exact aQ _);rw[hb]at xb zl zt;obtain⟨_,yb'⟩:=db.1 yb;generalize hQ H (nd++[cur]) b=X at*;clear zlen;refine .dW 60 ?_;simp(disch:=omega) [hq,q2,hget,hfi,isKey,bN,b9,xw,xn,xm,yn,yl,yt,yn',hi,iT,fc,pc];refine .UE 60 ?_
    have d1:¬c.af.length+i=k:=by omega
    have b8:(b[k].length+1)*8<=140737488355328:=by have:=hbl _ (bw hkb);omega
    simp(disch:=omega) [xw,xb,xr,yb,yb',zl,zt,gn,d1,b8];rw[fin];have zlen:=my (H:=H) (nd:=nd++[cur++[k]]) (b:=b.set k (b[k]++[i]))
    have egd:b.getD k []=b[k]:=by rw[bq,aR hkb];rfl
    rw[egd]at hh
    try rw [egd]
    generalize hQ H (nd++[cur++[k]]) (b.set k (b[k]++[i]))=Z at*
    have zlt:H.length+(3+k)<Z.length:=by rw[zlen];simp;omega
    refine .aO ?_;simp
    refine .rU (i:=H.length+(3+k)) (k:=1) (E:=aq) (es:=(b[k]++[i]).map iN) (fl:=true) (sh:=false) (by rw[eI zlt];simp) (by simp;omega) (by simp) (by
     simp only[fC]
     exact Hx (by simp[mO]) _ vfin) ?_
    rw[sX,show Ob.row 1 aq ((b[k]++[i]).map iN) none true false=gn (b[k]++[i])from rfl,ah1 zget];simp at hh⊢;exact hh
theorem gV.set{h:List Ob}(hw:gV h){o:Ob}(hb:∀i m,h.length<=i->mO i m o=true)(j:Nat):gV (h.set j o):=fun i m hi=>by
 rw[jZ]at hi;exact Hx (hb i m hi) j (hw i m hi)
abbrev Ey(p:Nat×List Fm):AV:=.aH [iN p.1,.list false 3 (p.2.map bd)]
abbrev J6(h:List Ob)(t:Fm)(ks:List Nat):List Ob:=h++[.row 3 aU [] none true false,.cells (bd t).cells,.row 1 aq (ks.map iN) none true false]
def RH(P:Program)(Γ:Nat->Option AV)(ins:List Nat)(ki:Nat)(val:Int->Bool)(f:Nat):Prop:=
 ∀(l:List Fm),l.length<2^40->∀{v:Bool}{l':List Fm},eU ins.length val f l=some (v,l')->∀(x:Gr)(h:List Ob)(i:Nat),h[i]? =some (cJ x)->bS h->gV h->x.Ok->(∀a∈ins,a<x.lits)->∀up,
  AM.Reach P Γ (.cl uM [.ptr i 0,.list false 3 (l.map bd),.list false ki (ins.map iN)] up h) (cV Ey i up h (jw ins f x l))
theorem aiS{h os:List Ob}{a b c:Ob}:(h++a::b::c::os)[h.length+2]? =some c:=by simp
theorem R9{h os:List Ob}{a b c:Ob}{f:Ob->Ob}:(h++a::b::c::os).modify (h.length+2) f=h++a::b::f c::os:=by
 induction h with
 |nil=>rfl
 |cons x h ih=>simpa using ih
set_option maxRecDepth 8000 in
theorem af8(ins:List Nat){ki:Nat}(hli:ins.length<2^40)(val:Int->Bool)(f:Nat)(ih:RH Tryz.prog Γ ins ki val f)(t:Fm)(ht:t.kind=3\/t.kind=4)(ht2:2<=t.kids)(ht3:t.kids<2^40)(i L:Nat)(up:List Fr):
 ∀m j:Nat,j+m=t.kids.toNat->∀(ks:List Nat)(l:List Fm)(x:Gr)(h:List Ob)(v w:Bool)(l':List Fm),ks.length=j->l.length<2^40->f_ (eU ins.length val f) (decide (t.kind=3)) m v l=some (w,l')->h.length=L->h[i]? =some (cJ x)->bS h->gV h->x.Ok->(∀a∈ins,a<x.lits)->(∀a∈ks,a<x.lits)->
  ∃J,AM.Reach Tryz.prog Γ (ysj (.ptr i 0) (.list false ki (ins.map iN)) (.ptr (L+1) 0) (.list false 3 (l.map bd)) (.sl (L+2) 0 ks.length) (.int .i64 t.kids) (.int .i64 j) (J6 h t ks) ⟨[],.norm,L,up⟩)
   (cV Ey i up (h++J) (fL (kV (jw ins f) m x ks l) (wB t))):=by
 intro m
 induction m with
 |zero=>
  intro j hj ks l x h v w l' hkl hl hr hL hi hw hv ok hlt hks;subst hL
  have q1:¬(j:Int)<t.kids:=by omega
  have hil:=aV hi
  have hget:=fun os=>fF hi os
  have h0:ks≠[]:=by
   intro h0;subst h0
   simp at hkl;omega
  have hW:∀b,bS (h++[.row 3 aU [] none true false,.cells (bd t).cells,.row 1 aq (ks.map iN) none true b]):=fun b m hm=>by
   simp at hm;simp[hw m (by omega)]
  have hset:∀(o:Ob)(os:List Ob),(h++os).set i o=h.set i o++os:=fun o os=>lz _ _ hil
  refine⟨[.row 3 aU [] none true false,.cells (bd t).cells,.row 1 aq (ks.map iN) none true true],?_⟩;rw[kV,fL,wB];refine .dW 60 ?_;simp[q1];refine .trans (.exit rfl rfl) ?_;refine .trees [10] ?_;simp[R9,eS];have htk:(ks.map iN).take ks.length=ks.map iN:=cR (by simp);obtain⟨kd,lt,kk⟩:=t;simp only at ht ht2 ht3 hj q1 hW⊢
  rcases ht with rfl|rfl
  ·have hA:=RM (Γ:=Γ) ks h0 (by omega) (fl:=false) (k:=1) .self x (h:=h++[.row 3 aU [] none true false,.cells (bd ⟨3,lt,kk⟩).cells,.row 1 aq (ks.map iN) none true true]) (hget _) (hW true) ok hks;refine .a8 60 ?_;simp[htk];unfold cV at hA⊢;unfold eF
   cases h9:(iJ 0 x ks).2<;>simp only[h9,hset]at hA⊢
   ·refine .kZ 60 hA ?_;simp[h9,hset]
   ·refine .aW 60 hA ?_;simp[h9,hset]
  ·have hA:=Rt (Γ:=Γ) ks h0 (by omega) (fl:=false) (k:=1) .self x (h:=h++[.row 3 aU [] none true false,.cells (bd ⟨4,lt,kk⟩).cells,.row 1 aq (ks.map iN) none true true]) (hget _) (hW true) ok hks;refine .a8 60 ?_;simp[htk];unfold cV at hA⊢;unfold eF at hA⊢
   cases h9:(iJ 1 x ks).2<;>simp only[h9,hset,uC,dm]at hA⊢
   ·refine .kZ 60 hA ?_;simp[h9,hset]
   ·refine .aW 60 hA ?_;simp[h9,hset]
 |succ m ihm=>
  intro j hj ks l x h v w l' hkl hl hr hL hi hw hv ok hlt hks;subst hL
  have q1:(j:Int)<t.kids:=by omega
  have hil:=aV hi
  have hget:=fun os=>fF hi os
  have hset:∀(o:Ob)(os:List Ob),(h++os).set i o=h.set i o++os:=fun o os=>lz _ _ hil
  rw[f_]at hr
  cases h2:eU ins.length val f l with
  |none=>rw[h2]at hr;cases hr
  |some u=>
   rw[h2]at hr;obtain⟨u1,l1⟩:=u;simp only at hr;have hll:=GF _ _ _ _ _ _ h2
   have hc:=ih l hl h2 x (J6 h t ks) i (hget _) (by
    intro m hm;simp at hm
    simp[hw m (by omega)]) (by
    intro m k hm;simp at hm
    simp[hv m k (by omega)]) ok hlt
   have hf:=tE ins f x l ok hlt;rw[kV]
   cases h9:jw ins f x l with
   |mk y r=>
    rw[h9]at hc hf
    cases r with
    |none=>
     refine⟨[.row 3 aU [] none true false,.cells (bd t).cells,.row 1 aq (ks.map iN) none true false],?_⟩;simp only[cV,fL,hset]at hc⊢;refine .a8 60 ?_;simp[q1];refine .kZ 60 hc ?_;simp
    |some p=>
     obtain⟨c,l2⟩:=p;have:=Gi ins _ val f x l y c l2 u1 l1 h9 h2;subst this;have hc2:=hf.2 _ rfl;simp only at hc2
     obtain⟨J,hh⟩:=ihm (j+1) (by omega) (ks++[c]) l2 y (h.set i (cJ y)) _ w l' (by simp[hkl]) (by omega) hr (by simp) (by simp[hil]) (hw.set (fun m _=>by simp) i) (hv.set (fun m k _=>by simp) i) hf.1.ok (fun a ha=>lu (hlt a ha) hf.1.lits) (fun a ha=>by
      rcases aT.1 ha with ha|ha
      ·exact lu (hks a ha) hf.1.lits
      ·simp only[cE]at ha;subst ha;exact hc2)
     refine⟨J,?_⟩
     have hs2:∀r:Gr×Option (Nat×List Fm),cV Ey i up (h.set i (cJ y)++J) r=cV Ey i up (h++J) r:=fun r=>by
      unfold cV
      have:∀o:Ob,(h.set i (cJ y)++J).set i o=(h++J).set i o:=fun o=>by
       rw[lz _ _ (by simpa using hil),lz _ _ hil,sX]
      simp only[this]
     rw[hs2]at hh;simp only[cV,fL,hset]at hc;simp only[fL]at hh⊢
     have hvv:=fun m=>(hv.set (o:=cJ y) (fun m k _=>by simp) i) (h.length+2) m (by simp)
     have hsl:(h.set i (cJ y)).length=h.length:=by simp
     generalize h.set i (cJ y)=H at*
     have hk40:(ks.length:Int)+1<=140737488355328:=by omega
     refine .a8 60 ?_;simp[q1];refine .aW 60 hc ?_;simp(disch:=omega) [<-hsl,hk40];refine .aO ?_;simp;refine .rU (i:=H.length+2) aiS (by simp[hsl]) (by simp) (by simp[hsl,hvv]) ?_;simp[hsl,J6]at hh⊢;exact hh
set_option maxRecDepth 8000 in
theorem QK(ins:List Nat){ki:Nat}(hki:Kd 1 ki ins)(hli:ins.length<2^30)(val:Int->Bool):∀f,RH Tryz.prog Γ ins ki val f
 |0,l,_,v,l',h2,_,_,_,_,_,_,_,_,_=>by simp[eU]at h2
 |f+1,[],_,v,l',h2,_,_,_,_,_,_,_,_,_=>by simp[eU]at h2
 |f+1,t::l,hl,v,l',h2,x,h,i,hi,hw,hv,ok,hlt,up=>by
  rw[eU]at h2
  split at h2
  ·rename_i ho;have hil:=aV hi;have hle:=kQ ok
   have hget:=fun os=>fF hi os
   have hset:∀os:List Ob,(h++os).set i (cJ x)=h++os:=fun os=>zO (hget os)
   simp at hl;obtain⟨kd,lt,kk⟩:=t;unfold fe at ho;simp only at ho h2
   by_cases k2:kd=2
   ·subst k2;simp at ho;obtain⟨n,rfl⟩:=gB ho.1
    have q1:n/2<ins.length:=by omega
    have q2:=bR (hki.of q1);have hx:=hlt _ (bw q1);obtain rfl:=ho.2.2;refine tK [.row 3 aU [] none true false,.cells (bd ⟨2,n,0⟩).cells] hw hil (by simp) ?_;rw[jw];simp only[cy,cV,hset];refine .bt 60 Fi ?_;simp(disch:=omega) [q1,q2]
    have e1:((n:Int)/2).toNat=n/2:=by omega
    have e4:((n:Int)%2).toNat=n%2:=by omega
    have e3:gS .xor .i64 (ins[n/2]:Int) ((n:Int)%2)=some ((ins[n/2]^^^(n%2):Nat):Int):=by
     rw[show(n:Int)%2=((n%2:Nat):Int) by omega];exact HV (by omega)
    refine .ea 60 ?_
    have e5:ins.getD (n/2) 0=ins[n/2]:=by rw[bq,aR q1];rfl
    simp(disch:=omega) [q1,q2,e1,e3,e4,e5]
   ·rw[if_neg k2]at ho h2
    by_cases k34:kd=3\/kd=4
    ·rw[if_pos k34]at ho;simp at ho;obtain⟨rfl,h2k⟩:=ho
     have hvi:decide (kd=1)=false:=by simp;omega
     have n0:¬kd=0:=by omega
     have n1:¬kd=1:=by omega
     have hwk:=af8 (Γ:=Γ) ins (by omega) val f (QK ins hki hli val f) ⟨kd,0,kk⟩ k34 h2k (by
      have:=P6 (fun l v l' h=>GF _ val f l v l' h) _ _ _ _ _ h2
      simp only;omega) i h.length up kk.toNat 0 (by simp) [] l x h _ v l' rfl (by omega) h2 rfl hi hw hv ok hlt (fun a ha=>by cases ha)
     obtain⟨J,hJ⟩:=hwk;refine tK J hw hil (by simp) ?_;rw[jw];simp only[if_neg k2,if_neg (show¬(kd=0\/kd=1) by omega)];refine .bt 60 Fi ?_;simp;refine .ea 60 ?_;simp(disch:=omega) [n0,n1,k2];refine .inLoop ?_;simp at hJ⊢;exact hJ
    ·rw[if_neg k34]at ho
     split at ho
     ·rename_i k01;simp at ho;obtain⟨rfl,rfl⟩:=ho;refine tK [.row 3 aU [] none true false,.cells (bd ⟨kd,0,0⟩).cells] hw hil (by simp) ?_;rw[jw];simp only[if_neg k2,if_pos k01,cV,hset];refine .bt 60 Fi ?_;simp;refine .ea 60 ?_
      rcases k01 with rfl|rfl<;>simp(disch:=omega)<;>exact .refl _
     ·cases ho
  ·cases h2
abbrev Li:Type:=Nat×UInt8
abbrev ec(x:Li):AV:=.agg [.int .i64 x.1,.int .i64 x.2.toNat]
def bp:Bs->Nat->List Li
 |[],_=>[]
 |c::s,i=>if c=45 then bp s (i+1)else(i,c)::bp s (i+1)
def cP(x:Li)(s:Bs):Bool:=decide (x∈bp s 0)
def ew(x:Li):Fm:=⟨2,if x.2=48 then 2*x.1+1 else 2*x.1,0⟩
theorem acn(a b:Li):cj (.jf [.int,.int]) (ec a) (ec b)=some (decide (a=b)):=by
 obtain⟨i,c⟩:=a;obtain⟨j,d⟩:=b;simp only[cj,bN,b9,gN,eV,cy]
 by_cases h1:i=j
 ·subst h1
  by_cases h2:c=d
  ·subst h2;simp
  ·have h3:¬(c.toNat:Int)=d.toNat:=by
    intro h;exact h2 (Lv.1 (by omega))
   have h4:((c.toNat:Int)==d.toNat)=false:=rC.2 h3;simp[h2,h4]
 ·have h3:¬(i:Int)=j:=by omega
  have h4:((i:Int)==j)=false:=rC.2 h3;simp[h1,h4]
theorem ahO(x:Li)(hx:x.1<2^40):aS Tryz.prog Γ Bb [ec x] (bd (ew x)):=by
 obtain⟨i,c⟩:=x;simp only at hx;refine .run 60 Xd (by simp) ?_;have e:((c.toNat:Int)=48)=(c=48):=propext ⟨fun h=>Lv.1 (by rw[show((48:UInt8).toNat)=48 from rfl];omega),fun h=>by rw[h];rfl⟩
 by_cases h:c=48
 ·simp(disch:=omega) [e,h];exact .back (by simp[ew,h])
 ·simp(disch:=omega) [e,h];exact .back (by simp[ew,h])
theorem Gb(s:Bs){h:List Ob}:∀up,AM.Reach Tryz.prog Γ (.cl uS [.str s] up h) (.back up (.fn (.func tc) [] [.ptr h.length 0]) (h++[.cells [.str s]])):=by
 intro up;refine .bt 60 XX ?_;simp
abbrev aiG(s:Bs)(i n:Nat)(up:List Fr):List Fr:=⟨.run,qb,[It.jN (n+3),It.inBlock 0 [],It.code ((aj.ae TN).seq aj.ret)],
 [.str s,.ptr i 0,U,.ptr n 0,U,.str s,.fn (.func tc) [] [.ptr (n+1) 0],U,U,U,U],[.mark (n+2)],.norm,n⟩::up
abbrev aiW(s:Bs)(i n:Nat):List Ob:=[.cells [.bool false],.cells [.str s],.bD true,
 .loop .ready .none qb [U,.ptr i 0,U,.ptr n 0,U,U,U,U,U,U,U] [7] (.ae VO) Vc]
def Left(P:Program)(Γ:Nat->Option AV)(c:AM.ar)(up:List Fr)(v:AV)(h:List Ob):Prop:=∃J,AM.Reach P Γ c (.back up v (h++J))
section
variable{P:Program}{c c':AM.ar}{up up':List Fr}{v:AV}{h h':List Ob}
theorem Left.to(h1:AM.Reach P Γ c c')(h2:Left P Γ c' up v h):Left P Γ c up v h:=h2.imp fun _ h3=>.trans h1 h3
theorem Left.a8(n:Nat)(h1:Left P Γ (AM.go P Γ 2 n c) up v h):Left P Γ c up v h:=.to (Reach.goes n c) h1
theorem Left.pop(n:Nat)(h1:Left P Γ (AM.go P Γ 2 n (AM.pop c)) up v h):Left P Γ c up v h:=.to (.pop c) (.a8 n h1)
theorem Left.back(J:List Ob):Left P Γ (.back up v (h++J)) up v h:=⟨J,.refl _⟩
theorem Left.aO{fn:FuncId}{its:List It}{t:List AV}{ds:List dF}{kind:FK}{base:Nat}{m:List Bool}{b:aj}
 (h1:Left P Γ (.fr ⟨.run,fn,.code b::.inLoop m b::its,dx m t,ds,kind,base⟩ up' h') up v h):Left P Γ (.fr ⟨.run,fn,.inLoop m b::its,t,ds,kind,base⟩ up' h') up v h:=.to (AM.Reach.aO (.refl _)) h1
theorem Left.inLoop{fn:FuncId}{its:List It}{t:List AV}{ds:List dF}{kind:FK}{base:Nat}{m:List Bool}{b:aj}
 (h1:Left P Γ (.fr ⟨.run,fn,.code b::.inLoop m b::its,dx m t,ds,kind,base⟩ up' h') up v h):Left P Γ (.fr ⟨.run,fn,.code (.loop m b)::its,t,ds,kind,base⟩ up' h') up v h:=.to (AM.Reach.inLoop (.refl _)) h1
theorem Left.oj{f:Fr}{h1:List Ob}(n:Nat)(hh:h'.take n=h1)(b1:f.base<=n)(b2:k9 n f=true)(b3:cr n h1=true)(h4:Left P Γ (.fr f up' h1) up v h):Left P Γ (.fr f up' h') up v h:=.to (AM.Reach.oj n hh b1 b2 b3 (.refl _)) h4
theorem Left.aW(n:Nat){f:FuncId}{args:List AV}{v0:AV}{h0:List Ob}(h1:∀up,AM.Reach P Γ (.cl f args up h0) (.back up v0 h'))(h2:Left P Γ (AM.go P Γ 2 n (AM.pop (.back up' v0 h'))) up v h):Left P Γ (.cl f args up' h0) up v h:=.to (h1 up') (.pop n h2)
theorem Left.bt(n:Nat){g:FuncId}{F:aF}{args:List AV}(hF:aE P g=some F)(h1:Left P Γ (AM.go P Γ 2 n (.fr ⟨.run,g,[.code F.body],args++List.replicate (F.nt-args.length) .undef,[],.norm,h'.length⟩ up' h')) up v h):Left P Γ (.cl g args up' h') up v h:=.to (zx hF args (.a8 n (.refl _))) h1
theorem Left.leave{f:FuncId}{args:List AV}(h1:Left P Γ (.cl f args up h) up v h)(hv:aG h.length v=true)(hw:bS h):AM.Reach P Γ (.cl f args up h) (.back up v h):=by
 obtain⟨J,h2⟩:=h1;have h3:=AM.Reach.leave h2 hv (by rw[sW rfl];exact hw _ (aQ _));rw[sW rfl]at h3;exact h3
end
set_option maxRecDepth 8000 in
theorem ag0(x:Li)(i:Nat)(s:Bs)(hs:s.length<2^40){h:List Ob}(hi:h[i]? =some (.cells (ec x).cells))(hw:bS h)(up:List Fr):∀n j:Nat,j+n=s.length->
 Left Tryz.prog Γ (J2 (.cY (h.length+3)) (.ptr (h.length+1) 0) (.int .i64 s.length) (.int .i64 j) (h++aiW s i h.length) ⟨[],.norm,h.length+4,aiG s i h.length up⟩) up (.bool (decide (x∈bp (s.drop j) j))) h:=by
 have hil:=aV hi;have e21:h.length+2+1=h.length+3:=rfl
 have hwr:∀c:UInt8,IntKind.i64.wrap (c.toNat:Int)=c.toNat:=fun c=>wrap64 (by omega) (by have:=c.toNat_lt;omega)
 have hget:=fun os=>fF hi os
 have hb4:=hw (h.length+4) (by omega);intro n
 induction n with
 |zero=>
  intro j hj
  have q1:¬j<s.length:=by omega
  rw[bA (by omega),bp];refine .a8 60 ?_;simp[q1];refine .pop 60 ?_;simp;exact .back _
 |succ n ih=>
  intro j hj
  have q1:j<s.length:=by omega
  have hh:=ih (j+1) (by omega);rw[bJ q1,bp]
  by_cases a:s[j]=45
  ·refine .a8 60 ?_;simp(disch:=omega) [q1,a];refine .aO ?_;simp at hh⊢;exact hh
  ·have e:decide (x∈(if s[j]=45 then bp (s.drop (j+1)) (j+1)else(j,s[j])::bp (s.drop (j+1)) (j+1)))=(decide ((j,s[j])=x)||decide (x∈bp (s.drop (j+1)) (j+1))):=by
    rw[if_neg a,fT];simp only[aZ,bz,ff];exact or_congr_left eq_comm
   rw[e];have hq:=acn (j,s[j]) x
   by_cases b:(j,s[j])=x
   ·refine .a8 60 ?_;simp(disch:=omega) [q1,a,hget,jO,hq,b,hwr];refine .pop 60 ?_;simp;refine .pop 60 ?_;simp;exact .back _
   ·refine .a8 60 ?_;simp(disch:=omega) [q1,a,hget,jO,hq,b,hwr];refine .pop 60 ?_;simp(disch:=omega);refine .aO ?_;simp;refine .oj (h.length+4) (by simp;rfl) (by simp) (by simp) (by simp[hb4];omega) ?_;simp at hh⊢;exact hh
theorem IM(x:Li)(i:Nat)(l:List Bs)(hl:∀s∈l,s.length<2^40):jA Tryz.prog Γ (fun h=>h[i]? =some (.cells (ec x).cells)/\bS h) qb [.ptr i 0] AV.str (cP x) l:=by
 refine⟨by simp,fun s hs up h hφ=>?_⟩;obtain⟨hi,hw⟩:=hφ;refine Left.leave ?_ (by simp) hw;have hh:=ag0 (Γ:=Γ) x i s (hl s hs) hi hw up s.length 0 (by omega);refine .bt 60 YI ?_;simp;refine .aW 60 (Gb s) ?_;simp;refine .bt 60 Fo ?_;simp;refine .inLoop ?_;simp[cP]at hh⊢;exact hh
theorem Sk(x:Li){h:List Ob}:∀up,AM.Reach Tryz.prog Γ (.cl y3 [ec x] up h) (.back up (.fn (.func qb) [] [.ptr h.length 0]) (h++[.cells (ec x).cells])):=by
 intro up;refine .bt 60 aaa ?_;simp
end Go.Proofs.YtchjijfjidlpjaaGreatDoor
