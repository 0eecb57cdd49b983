/- Factors: how many rows have a literal; rows without literals; an and of literals; the literal that most rows have. -/
import Derived.Test.YtchjijfjidlpjaaGreatDoorG
import Derived.Test.YtchjijfjidlpjaaGreatDoorF
import Derived.Test.YtchjijfjidlpjaaGreatDoorCode
import Derived.Test.YtchjijfjidlpjaaGreatDoorAMd
set_option linter.unusedSimpArgs false
set_option linter.unusedVariables false
namespace Go.Proofs.YtchjijfjidlpjaaGreatDoor
open Go.AM Go.Proofs
variable{Γ:Nat->Option AV}
def jr(x:Li):List Bs->Nat
 |[]=>0
 |s::r=>(if eI x s=true then 1 else 0)+jr x r
theorem Mw(x:Li):∀r:List Bs,jr x r<=r.length
 |[]=>aO _
 |s::r=>by rw[jr,bz];have:=Mw x r;split<;>omega
def nc(l:List Li)(s:Bs):Bs:=l.foldl (fun b x=>b.set x.1 45) s
theorem F4:∀(l:List Li)(s:Bs),(nc l s).length=s.length
 |[],s=>rfl
 |x::l,s=>by have:=F4 l (s.set x.1 45);simpa[nc]using this
def ic(l:List Li)(rows:List Bs):List Bs:=rows.map (nc l)
def Cb:List Fm->Bool
 |[f]=>decide (f.kind=1)
 |_=>false
def qf(r:List Fm):List Fm:=if Cb r=true then[]else r
def vv(n:Nat):List Fm:=if 1<n then[⟨3,0,n⟩]else[]
def l5(l:List Li)(r:List Fm):List Fm:=vv (l.length+min (qf r).length 1)++l.map gC++qf r
def vu(rows:List Bs)(b:Li×Nat)(x:Li):Li×Nat:=if b.2<jr x rows then(x,jr x rows)else b
def ze(rows:List Bs):Nat->Nat->Li×Nat->Li×Nat
 |0,_,b=>b
 |n+1,i,b=>ze rows n (i+1) (vu rows (vu rows b (i,49)) (i,48))
def gA(rows:List Bs)(n:Nat):Li×Nat:=ze rows n 0 ((0,0),0)
section
variable{φ:List Ob->Prop}{f:FuncId}{caps:List AV}{p:Bs->Bool}{l:List Bs}
def c_(p:Bs->Bool)(l:List Bs):List Bs:=l.filter fun x=>!p x
end
def vo(s:Bs):Bool:=s.all fun c=>decide (c=45)
def fT(rows:List Bs)(s:Bs):List Li:=(bQ s 0).filter fun x=>decide (jr x rows=rows.length)
def Tg(rows:List Bs):List Fm:=⟨4,0,rows.length⟩::rows.flatMap fun s=>l5 (bQ s 0) []
def jn:Nat->List Bs->List Fm
 |0,_=>[]
 |_+1,[]=>[⟨0,0,0⟩]
 |f+1,s::r=>
  if bC vo (s::r)=true then[⟨1,0,0⟩]
  else if fT (s::r) s≠[]then l5 (fT (s::r) s) (jn f (ic (fT (s::r) s) (s::r)))
  else if(gA (s::r) s.length).2<2 then Tg (s::r)
  else⟨4,0,2⟩::l5 [(gA (s::r) s.length).1] (jn f (ic [(gA (s::r) s.length).1] (c_ (fun t=>!eI (gA (s::r) s.length).1 t) (s::r))))++jn f (c_ (eI (gA (s::r) s.length).1) (s::r))
end Go.Proofs.YtchjijfjidlpjaaGreatDoor
namespace Go.Proofs.YtchjijfjidlpjaaGreatDoor
open Go.AM Go.Proofs
theorem mz{x:Li}:∀{s:Bs}{i:Nat},x∈bQ s i↔i<=x.1/\s[x.1-i]? =some x.2/\x.2≠45
 |[],i=>by simp[bQ]
 |c::s,i=>by
  have ih:=mz (x:=x) (s:=s) (i:=i+1)
  have e:i+1<=x.1->(c::s)[x.1-i]? =s[x.1-(i+1)]? :=fun h=>by rw[show x.1-i=(x.1-(i+1))+1 by omega];rfl
  rw[bQ]
  by_cases h:c=45
  ·rw[if_pos h,ih];constructor
   ·rintro⟨h1,h2,h3⟩;exact⟨by omega,by rw[e h1];exact h2,h3⟩
   ·rintro⟨h1,h2,h3⟩
    have h4:i+1<=x.1:=by
     refine z7 fun hn=>h3 ?_
     rw[show x.1-i=0 by omega]at h2;simp only[qL,aj]at h2;rw[<-h2,h]
    exact⟨h4,by rw[<-e h4];exact h2,h3⟩
  ·rw[if_neg h,bo,ih];constructor
   ·rintro(h1|⟨h1,h2,h3⟩)
    ·subst h1;exact⟨aO _,by simp,h⟩
    ·exact⟨by omega,by rw[e h1];exact h2,h3⟩
   ·rintro⟨h1,h2,h3⟩
    by_cases h4:x.1=i
    ·left;rw[show x.1-i=0 by omega]at h2;simp only[qL,aj]at h2;exact Prod.ext h4 h2.symm
    ·right;exact⟨by omega,by rw[<-e (by omega)];exact h2,h3⟩
theorem EA:∀(s:Bs)(i:Nat),(bQ s i).Pairwise (fun a b=>a.1≠b.1)
 |[],i=>.nil
 |c::s,i=>by
  rw[bQ]
  split
  ·exact EA s (i+1)
  ·refine List.pairwise_cons.2 ⟨fun y hy=>?_,EA s (i+1)⟩;have:=(mz.1 hy).1
   simp only;omega
theorem LQ{x:Li}:∀{s:Bs}{i:Nat},x∈bQ s i->(bQ (s.set (x.1-i) 45) i).length+1=(bQ s i).length
 |[],i,h=>by simp[bQ]at h
 |c::s,i,h=>by
  have hm:=mz.1 h
  by_cases h4:x.1=i
  ·have h2:=hm.2.1;rw[show x.1-i=0 by omega]at h2⊢;simp only[qL,aj]at h2
   have h5:¬c=45:=fun hc=>hm.2.2 (by rw[<-h2,hc])
   rw[vZ,bQ,bQ,if_pos rfl,if_neg h5,bz]
  ·have h5:x∈bQ s (i+1):=mz.2 ⟨by omega,by have:=hm.2.1;rw[show x.1-i=(x.1-(i+1))+1 by omega]at this;exact this,hm.2.2⟩;have ih:=LQ h5;rw[show x.1-i=(x.1-(i+1))+1 by omega,rM,bQ,bQ]
   split
   ·exact ih
   ·simp only[bz];omega
theorem N9:∀(s:Bs)(i:Nat),(bQ s i).length<=s.length
 |[],i=>aO _
 |c::s,i=>by rw[bQ];have:=N9 s (i+1);split<;>simp only[bz]<;>omega
theorem Mz:∀(l:List Li)(s:Bs),l.Pairwise (fun a b=>a.1≠b.1)->(∀x∈l,x∈bQ s 0)->(bQ (nc l s) 0).length+l.length=(bQ s 0).length
 |[],s,_,_=>rfl
 |x::l,s,hp,hm=>by
  rw[List.pairwise_cons]at hp;have h1:=LQ (hm x (by simp))
  have h2:=Mz l (s.set x.1 45) hp.2 fun y hy=>by
   have h3:=mz.1 (hm y (by simp[hy]));exact mz.2 ⟨by omega,by rw[dK (by have:=hp.1 y hy;omega)];exact h3.2.1,h3.2.2⟩
  simp only[bz];rw[DB]at h1;have:nc (x::l) s=nc l (s.set x.1 45):=rfl
  rw[this];omega
def cA:List Bs->Nat
 |[]=>0
 |s::r=>(bQ s 0).length+cA r
theorem E9(l:List Li)(hp:l.Pairwise (fun a b=>a.1≠b.1)):∀rows:List Bs,(∀s∈rows,∀x∈l,x∈bQ s 0)->cA (ic l rows)+rows.length*l.length=cA rows
 |[],_=>by simp[ic,cA]
 |s::r,h=>by
  have h1:=E9 l hp r fun t ht=>h t (by simp[ht])
  have h2:=Mz l s hp (h s (by simp));simp only[ic,bL,cA,bz]at h1⊢
  rw[DI];omega
theorem LD(p:Bs->Bool):∀rows:List Bs,cA (c_ p rows)+cA (c_ (fun t=>!p t) rows)=cA rows
 |[]=>rfl
 |s::r=>by
  have ih:=LD p r
  cases h:p s<;>simp[c_,h,cA]at ih⊢<;>omega
theorem Es(x:Li):∀rows:List Bs,(c_ (fun t=>!eI x t) rows).length=jr x rows
 |[]=>rfl
 |s::r=>by
  have ih:=Es x r
  cases h:eI x s<;>simp[c_,h,jr]at ih⊢<;>omega
theorem Lk{x:Li}:∀{rows:List Bs},jr x rows=rows.length↔∀s∈rows,x∈bQ s 0
 |[]=>by simp[jr]
 |s::r=>by
  have ih:=Lk (x:=x) (rows:=r);have hle:=Mw x r;rw[jr,bz]
  by_cases h:eI x s=true
  ·rw[if_pos h]
   have h':x∈bQ s 0:=by simpa[eI]using h
   simp only[bo,JO];rw[<-ih];exact⟨fun h1=>⟨h',by omega⟩,fun h1=>by omega⟩
  ·rw[if_neg h]
   have h':¬x∈bQ s 0:=by simpa[eI]using h
   exact⟨fun h1=>by omega,fun h1=>absurd (h1 s (by simp)) h'⟩
theorem BD{x:Li}{rows:List Bs}{s:Bs}(h:s∈c_ (fun t=>!eI x t) rows):s∈rows/\x∈bQ s 0:=by
 simp only[c_,du,Bool.not_not]at h;exact⟨h.1,by simpa[eI]using h.2⟩
theorem Oq(rows:List Bs){b:Li×Nat}(hb:0<b.2->b.2=jr b.1 rows)(x:Li):0<(vu rows b x).2->(vu rows b x).2=jr (vu rows b x).1 rows:=by
 unfold vu
 split
 ·intro _;rfl
 ·exact hb
theorem Oh(rows:List Bs):∀(n i:Nat)(b:Li×Nat),(0<b.2->b.2=jr b.1 rows)->0<(ze rows n i b).2->(ze rows n i b).2=jr (ze rows n i b).1 rows
 |0,_,b,hb=>hb
 |n+1,i,b,hb=>Oh rows n (i+1) _ (Oq rows (Oq rows hb _) _)
theorem NZ(rows:List Bs)(n:Nat):0<(gA rows n).2->(gA rows n).2=jr (gA rows n).1 rows:=Oh rows n 0 _ (by simp)
theorem KY(rows:List Bs)(s:Bs):(fT rows s).Pairwise (fun a b=>a.1≠b.1):=(EA s 0).filter _
theorem EU{rows:List Bs}{s:Bs}{x:Li}(h:x∈fT rows s):∀t∈rows,x∈bQ t 0:=by
 simp only[fT,du,aW]at h;exact Lk.1 h.2
theorem E6{s:Bs}:vo s=true↔bQ s 0=[]:=by
 constructor
 ·intro h
  refine JQ.2 fun x hx=>?_
  have:=mz.1 hx;rw[vo,dU]at h;have h2:=h x.2 (iw this.2.1);exact this.2.2 (by simpa using h2)
 ·intro h;rw[vo,dU];intro c hc;obtain⟨i,hi⟩:=List.getElem?_of_mem hc;refine ow (z7 fun hn=>?_);have:(i,c)∈bQ s 0:=mz.2 ⟨by omega,by simpa using hi,hn⟩;rw[h]at this
  cases this
theorem aaf(r:List Fm):(qf r).length<=r.length:=by unfold qf;split<;>simp
theorem YU(n:Nat):(vv n).length<=1:=by unfold vv;split<;>simp
theorem Fz(l:List Li)(r:List Fm):(l5 l r).length<=1+l.length+r.length:=by
 have h1:=aaf r;have h2:=YU (l.length+min (qf r).length 1)
 simp only[l5,bq,eb];omega
theorem O1:∀rows:List Bs,(rows.flatMap fun s=>l5 (bQ s 0) []).length<=rows.length+cA rows
 |[]=>by simp
 |s::r=>by
  have ih:=O1 r;have h:=Fz (bQ s 0) [];simp only[ou,bq,bz,cA,c9]at h ih⊢;omega
theorem ML:∀rows:List Bs,bC vo rows=false->rows.length<=cA rows
 |[],_=>by simp
 |s::r,h=>by
  rw[lF,j_]at h;have ih:=ML r h.2
  have h1:0<(bQ s 0).length:=by
   refine z7 fun hn=>?_
   have:=E6.2 (mj.1 (by omega:(bQ s 0).length=0))
   rw[h.1]at this;cases this
  simp only[bz,cA];omega
theorem KD{s:Bs}{r:List Bs}(h:fT (s::r) s≠[]):cA (ic (fT (s::r) s) (s::r))+(fT (s::r) s).length<=cA (s::r):=by
 have h1:=E9 (fT (s::r) s) (KY _ _) (s::r) fun t ht x hx=>EU hx t ht
 have h2:(fT (s::r) s).length<=(s::r).length*(fT (s::r) s).length:=Nat.le_mul_of_pos_left _ (by simp);omega
theorem MV{s:Bs}{r:List Bs}(h:¬(gA (s::r) s.length).2<2):
 cA (ic [(gA (s::r) s.length).1] (c_ (fun t=>!eI (gA (s::r) s.length).1 t) (s::r)))+cA (c_ (eI (gA (s::r) s.length).1) (s::r))+2<=cA (s::r):=by
 have h0:=NZ (s::r) s.length (by omega);generalize(gA (s::r) s.length).1=x at*
 have h1:=E9 [x] (by simp) (c_ (fun t=>!eI x t) (s::r)) fun t ht y hy=>by simp only[cq]at hy;subst hy;exact(BD ht).2
 have h2:=LD (eI x) (s::r);have h3:=Es x (s::r);simp only[bz,c9,Nat.mul_one,iv]at h1;omega
theorem AI:∀(f:Nat)(rows:List Bs),(jn f rows).length<=3*cA rows+1
 |0,_=>by simp[jn]
 |_+1,[]=>by simp[jn]
 |f+1,s::r=>by
  rw[jn]
  split
  ·simp
  ·rename_i hfr
   split
   ·rename_i hc;have h1:=AI f (ic (fT (s::r) s) (s::r));have h2:=KD hc;have h3:=Fz (fT (s::r) s) (jn f (ic (fT (s::r) s) (s::r)));have h4:0<(fT (s::r) s).length:=rQ.2 hc;omega
   ·split
    ·have h1:=O1 (s::r);have h2:=ML (s::r) (by simpa using hfr)
     simp only[Tg,bz]at h1 h2⊢;omega
    ·rename_i hm;have h0:=MV hm;have h1:=AI f (ic [(gA (s::r) s.length).1] (c_ (fun t=>!eI (gA (s::r) s.length).1 t) (s::r)));have h2:=AI f (c_ (eI (gA (s::r) s.length).1) (s::r));have h3:=Fz [(gA (s::r) s.length).1] (jn f (ic [(gA (s::r) s.length).1] (c_ (fun t=>!eI (gA (s::r) s.length).1 t) (s::r))));simp only[bz,bq,c9]at h3⊢;omega
end Go.Proofs.YtchjijfjidlpjaaGreatDoor
namespace Go.Proofs.YtchjijfjidlpjaaGreatDoor
open Go.AM Go.Proofs
variable{Γ:Nat->Option AV}
theorem Nw{n:Nat}:∀{rows:List Bs},(∀s∈rows,s.length=n)->cA rows<=rows.length*n
 |[],_=>by simp[cA]
 |s::r,h=>by
  have h1:=N9 s 0
  have h2:=Nw (rows:=r) fun t ht=>h t (by simp[ht])
  have h3:=h s (by simp)
  simp only[cA,bz,DI];omega
theorem KQ(l:List (List UInt8))(s:List UInt8){k:Nat}(hk:Kd 1 k l)(hl:l.length<2^40):aP Tryz.prog Γ Ac [.list false k (l.map .str),.str s] (.bool (l.contains s)):=by
 refine .run 60 TZ (by simp) ?_;simp;refine .call 60 (by simp) (NA l s hk hl) ?_;have e:=FG s l 0;simp[e];exact .back (by simp)
def iH:List Bs->List Bs->List Bs
 |a,[]=>a
 |a,s::r=>iH (if a.contains s=true then a else a++[s]) r
def vk(n:Int)(rows:List Bs):Bool:=decide (n<0)||(decide (8<n)||(decide (128<rows.length)||bC (fun s=>!tc n.toNat s) rows))
def tg(rows:List Bs)(n:Int):List Fm:=if vk n rows=true then[]else jn (cA (iH [] rows)+1) (iH [] rows)
theorem Bc{t:Bs}:∀(r a:List Bs),t∈iH a r↔t∈a\/t∈r
 |[],a=>by simp[iH]
 |s::r,a=>by
  rw[iH,Bc r]
  by_cases h:a.contains s=true
  ·rw[if_pos h]
   have h':s∈a:=by simpa using h
   simp only[bo];constructor
   ·rintro(h1|h1)
    ·exact .inl h1
    ·exact .inr (.inr h1)
   ·rintro(h1|h1|h1)
    ·exact .inl h1
    ·subst h1;exact .inl h'
    ·exact .inr h1
  ·rw[if_neg h];simp only[aN,cq,bo,or_assoc,mu,false_or]
end Go.Proofs.YtchjijfjidlpjaaGreatDoor
namespace Go.Proofs.YtchjijfjidlpjaaGreatDoor
open Go.AM Go.Proofs
section
variable{n:Int}{val:Int->Bool}
def mh(n:Int)(val:Int->Bool)(l:List Fm)(v:Bool):Prop:=∀rest fuel,(l++rest).length<=fuel->kx n val fuel (l++rest)=some (v,rest)
theorem mh.pos{l:List Fm}{v:Bool}(h:mh n val l v):0<l.length:=by
 cases l with
 |nil=>
  have:=h [] 0 (by simp)
  cases this
 |cons _ _=>simp
theorem Gk{x:Li}(h:(x.1:Int)<n):mh n val [gC x] (val (gC x).lit):=by
 intro rest fuel hf
 cases fuel with
 |zero=>simp at hf
 |succ fuel=>
  have hok:fa n (gC x)=true:=by
   unfold fa gC
   by_cases hx:x.2=48
   ·simp[hx];omega
   ·simp[hx];omega
  have hk:(gC x).kind=2:=rfl;simp[kx,hok,hk]
theorem aeB:mh n val [⟨0,0,0⟩] false:=by
 intro rest fuel hf
 cases fuel with
 |zero=>simp at hf
 |succ fuel=>simp[kx,fa,jQ]
theorem adC:mh n val [⟨1,0,0⟩] true:=by
 intro rest fuel hf
 cases fuel with
 |zero=>simp at hf
 |succ fuel=>simp[kx,fa,jQ]
def nX(a:Bool):List (List Fm×Bool)->Bool->Bool
 |[],v=>v
 |k::ks,v=>nX a ks (if a then k.2&&v else k.2||v)
theorem EV:∀(ks:List (List Fm×Bool))(v:Bool),nX true ks v=(v&&ks.all (·.2))
 |[],v=>by simp[nX]
 |k::ks,v=>by
  show nX true ks (k.2&&v)=_
  rw[EV ks,rP,Bool.and_comm k.2 v,px]
theorem Fy:∀(ks:List (List Fm×Bool))(v:Bool),nX false ks v=(v||ks.any (·.2))
 |[],v=>by simp[nX]
 |k::ks,v=>by
  show nX false ks (k.2||v)=_
  rw[Fy ks,List.any_cons,Bool.or_comm k.2 v,Bool.or_assoc]
theorem NP(a:Bool)(fuel:Nat):∀(ks:List (List Fm×Bool))(v:Bool)(rest:List Fm),(∀k∈ks,mh n val k.1 k.2)->(ks.flatMap (·.1)++rest).length<=fuel->jQ (kx n val fuel) a ks.length v (ks.flatMap (·.1)++rest)=some (nX a ks v,rest)
 |[],v,rest,_,_=>by simp[jQ,nX]
 |k::ks,v,rest,h,hf=>by
  simp only[ou,cM,bq]at hf;have h1:=h k (by simp) (ks.flatMap (·.1)++rest) fuel (by simp only[bq];omega);simp only[bz,jQ,ou,cM,h1,nX];exact NP a fuel ks _ rest (fun k' hk'=>h k' (by simp[hk'])) (by simp only[bq];omega)
theorem Bx(kd:Int)(hkd:kd=3\/kd=4)(ks:List (List Fm×Bool))(h2:2<=ks.length)(h:∀k∈ks,mh n val k.1 k.2):mh n val (⟨kd,0,ks.length⟩::ks.flatMap (·.1)) (nX (decide (kd=3)) ks (decide (kd=3))):=by
 intro rest fuel hf
 cases fuel with
 |zero=>simp at hf
 |succ fuel=>
  have hok:fa n ⟨kd,0,ks.length⟩=true:=by
   unfold fa;rw[if_neg (by simp only;omega),if_pos hkd]
   simp;omega
  have h3:¬kd=2:=by omega
  have h4:¬kd=1:=by omega
  have hk:=NP (n:=n) (val:=val) (decide (kd=3)) fuel ks (decide (kd=3)) rest h (by simp at hf⊢;omega);simp only[ep,kx,hok,cG,h3,cT,dt,h4,ot,oo];exact hk
theorem Z2{r:List Fm}{v:Bool}(h:mh n val r v)(ht:Cb r=true):v=true:=by
 match r,ht with
 |[f],ht=>
  have hk:f.kind=1:=by simpa[Cb]using ht
  have h1:=h [] 1 (by simp);simp only[eR,kx]at h1
  split at h1
  ·rename_i hok
   have h0:f.kids=0:=by
    simp only[fa,hk]at hok;simp at hok;exact hok.2
   simp[hk,h0,jQ]at h1;exact h1
  ·cases h1
theorem GC(l:List Li)(hl:∀x∈l,(x.1:Int)<n)(h0:l≠[])(r:List Fm)(v:Bool)(hr:r=[]/\v=true\/mh n val r v):mh n val (l5 l r) ((l.all fun x=>val (gC x).lit)&&v):=by
 have hlm:∀l:List Li,(l.map fun x=>([gC x],val (gC x).lit)).flatMap (·.1)=l.map gC:=fun l=>by
  induction l with
  |nil=>rfl
  |cons x l ih=>simp only[bL,ou,ih];rfl
 have hl1:0<l.length:=rQ.2 h0
 have hrest:(qf r=[]/\v=true)\/(qf r=r/\0<r.length/\mh n val r v):=by
  rcases hr with⟨rfl,rfl⟩|hr
  ·left;exact⟨rfl,rfl⟩
  ·by_cases ht:Cb r=true
   ·left;exact⟨by rw[qf,if_pos ht],Z2 hr ht⟩
   ·right;exact⟨by rw[qf,if_neg ht],hr.pos,hr⟩
 unfold l5
 rcases hrest with⟨e,rfl⟩|⟨e,hp,hr⟩
 ·rw[e,po];simp only[c9,Nat.zero_min,gM,eR]
  by_cases h1:1<l.length
  ·have hh:=Bx (n:=n) (val:=val) 3 (.inl rfl) (l.map fun x=>([gC x],val (gC x).lit)) (by simp;omega) fun k hk=>by
    obtain⟨x,h2,rfl⟩:=b_.1 hk;exact Gk (hl x h2)
   rw[hlm,show decide ((3:Int)=3)=true from rfl,EV]at hh;simp only[vv,if_pos h1];simpa[Function.comp_def]using hh
  ·obtain⟨x,rfl⟩:∃x,l=[x]:=by
    match l,hl1,h1 with
    |[x],_,_=>exact⟨x,rfl⟩
    |x::y::l,_,h1=>simp at h1
   have hh:=Gk (val:=val) (hl x (by simp));simpa[vv]using hh
 ·rw[e]
  have hm:min r.length 1=1:=by omega
  rw[hm]
  have h1:1<l.length+1:=by omega
  have hh:=Bx (n:=n) (val:=val) 3 (.inl rfl) ((l.map fun x=>([gC x],val (gC x).lit))++[(r,v)]) (by simp;omega) fun k hk=>by
   simp only[aN,cq]at hk
   rcases hk with hk|rfl
   ·obtain⟨x,h2,rfl⟩:=b_.1 hk;exact Gk (hl x h2)
   ·exact hr
  rw[List.flatMap_append,hlm,show decide ((3:Int)=3)=true from rfl,EV]at hh;simp only[vv,if_pos h1];simpa[Function.comp_def]using hh
end
def eV(val:Int->Bool)(s:Bs):Bool:=(bQ s 0).all fun x=>val (gC x).lit
theorem abT(val:Int->Bool):∀(l:List Li)(s:Bs),l.Pairwise (fun a b=>a.1≠b.1)->(∀x∈l,x∈bQ s 0)->((l.all fun x=>val (gC x).lit)&&eV val (nc l s))=eV val s:=by
 intro l s hp hm
 have h1:∀y:Li,y∈bQ (nc l s) 0↔y∈bQ s 0/\∀x∈l,x.1≠y.1:=by
  clear hp hm
  induction l generalizing s with
  |nil=>intro y;simp[nc]
  |cons x l ih=>
   intro y;have e:nc (x::l) s=nc l (s.set x.1 45):=rfl;rw[e,ih];simp only[bo,JO,mz,DB];constructor
   ·rintro⟨⟨_,h2,h3⟩,h4⟩
    by_cases h5:x.1=y.1
    ·rw[h5]at h2
     by_cases h6:y.1<s.length
     ·rw[eL h6]at h2;exact absurd (Option.some.inj h2).symm h3
     ·rw[fu (by simp;omega)]at h2;cases h2
    ·rw[dK h5]at h2;exact⟨⟨by omega,h2,h3⟩,h5,h4⟩
   ·rintro⟨⟨_,h2,h3⟩,h5,h4⟩
    exact⟨⟨by omega,by rw[dK h5];exact h2,h3⟩,h4⟩
 rw[iB];simp only[eV,ay,dU,h1];constructor
 ·rintro⟨h2,h3⟩ y hy
  by_cases h4:∀x∈l,x.1≠y.1
  ·exact h3 y ⟨hy,h4⟩
  ·have h4:∃x,x∈l/\x.1=y.1:=by
    refine z7 fun hn=>h4 fun x hx he=>hn ⟨x,hx,he⟩
   obtain⟨x,hx,he⟩:=h4;have h5:=mz.1 (hm x hx);have h6:=mz.1 hy;rw[he]at h5;have h7:x.2=y.2:=Option.some.inj (h5.2.1.symm.trans h6.2.1);have h8:x=y:=Prod.ext he h7
   rw[<-h8];exact h2 x hx
 ·intro h2;exact⟨fun x hx=>h2 x (hm x hx),fun y hy=>h2 y hy.1⟩
theorem Gb(val:Int->Bool)(l:List Li)(hp:l.Pairwise (fun a b=>a.1≠b.1)):∀rows:List Bs,(∀s∈rows,∀x∈l,x∈bQ s 0)->((l.all fun x=>val (gC x).lit)&&bC (eV val) (ic l rows))=bC (eV val) rows
 |[],_=>by simp[ic]
 |s::r,h=>by
  have h1:=abT val l s hp (h s (by simp))
  have h2:=Gb val l hp r fun t ht=>h t (by simp[ht])
  have e:ic l (s::r)=nc l s::ic l r:=rfl;rw[e,lF,lF,<-h1,<-h2]
  cases(l.all fun x=>val (gC x).lit)<;>simp
theorem Mm(val:Int->Bool)(p:Bs->Bool):∀rows:List Bs,(bC (eV val) (c_ (fun t=>!p t) rows)||bC (eV val) (c_ p rows))=bC (eV val) rows
 |[]=>rfl
 |s::r=>by
  have ih:=Mm val p r;rw[lF,<-ih]
  cases h:p s
  ·have e1:c_ (fun t=>!p t) (s::r)=c_ (fun t=>!p t) r:=by simp[c_,h]
   have e2:c_ p (s::r)=s::c_ p r:=by simp[c_,h]
   rw[e1,e2,lF]
   cases eV val s<;>simp
  ·have e1:c_ (fun t=>!p t) (s::r)=s::c_ (fun t=>!p t) r:=by simp[c_,h]
   have e2:c_ p (s::r)=c_ p r:=by simp[c_,h]
   rw[e1,e2,lF]
   cases eV val s<;>simp
theorem ZQ(val:Int->Bool){rows:List Bs}(h:bC vo rows=true):bC (eV val) rows=true:=by
 obtain⟨s,h1,h2⟩:=Bw.1 h;exact Bw.2 ⟨s,h1,by rw[eV,E6.1 h2];rfl⟩
theorem AZ(N:Nat)(val:Int->Bool):∀(f:Nat)(rows:List Bs),cA rows<f->(∀s∈rows,s.length=N)->mh N val (jn f rows) (bC (eV val) rows)
 |0,rows,h,_=>by omega
 |f+1,[],_,_=>by rw[jn];exact aeB
 |f+1,s::r,h,hN=>by
  rw[jn]
  have hlt:∀x:Li,∀t∈s::r,x∈bQ t 0->(x.1:Int)<N:=fun x t ht hx=>by
   have h1:=(dd.1 (mz.1 hx).2.1).1;have:=hN t ht;omega
  split
  ·rename_i hfr;rw[ZQ val hfr];exact adC
  ·rename_i hfr
   split
   ·rename_i hc;have h1:=KD hc;have h4:0<(fT (s::r) s).length:=rQ.2 hc
    have hd:=Gb val (fT (s::r) s) (KY _ _) (s::r) fun t ht x hx=>EU hx t ht
    have ih:=AZ N val f (ic (fT (s::r) s) (s::r)) (by omega) fun t ht=>by
     simp only[ic,b_]at ht;obtain⟨t0,h5,rfl⟩:=ht
     rw[F4];exact hN _ h5
    rw[<-hd];exact GC _ (fun x hx=>hlt x s (by simp) (EU hx s (by simp))) hc _ _ (.inr ih)
   ·split
    ·have hno:∀t∈s::r,bQ t 0≠[]:=fun t ht he=>by
      have h1:=km.1 (by simpa using hfr) t ht
      rw[E6.2 he]at h1;cases h1
     have hfm:∀rows:List Bs,(rows.map fun t=>(l5 (bQ t 0) [],eV val t)).flatMap (·.1)=rows.flatMap fun s=>l5 (bQ s 0) []:=fun rows=>by
      induction rows with
      |nil=>rfl
      |cons t r ih=>simp only[bL,ou,ih]
     have h2:2<=(s::r).length:=by
      rename_i hc0 hm
      have hc0:fT (s::r) s=[]:=by simpa using hc0
      cases r with
      |nil=>
       exfalso
       have:fT [s] s=bQ s 0:=by
        unfold fT;rw[z6];intro x hx;simp[jr,eI,hx]
       rw[hc0]at this;exact hno s (by simp) this.symm
      |cons t r=>simp
     have hh:=Bx (n:=N) (val:=val) 4 (.inr rfl) ((s::r).map fun t=>(l5 (bQ t 0) [],eV val t)) (by simpa using h2) fun k hk=>by
      obtain⟨t,h5,rfl⟩:=b_.1 hk;have:=GC (n:=N) (val:=val) (bQ t 0) (fun x hx=>hlt x t h5 hx) (hno t h5) [] true (.inl ⟨rfl,rfl⟩);simpa[eV]using this
     rw[hfm]at hh
     have e:decide ((4:Int)=3)=false:=by decide
     rw[e,Fy]at hh;simp only[eb,List.any_map]at hh
     have e2:(false||(s::r).any ((fun x=>x.2)∘fun t=>(l5 (bQ t 0) [],eV val t)))=bC (eV val) (s::r):=by rw[oo];rfl
     rw[e2]at hh;exact hh
    ·rename_i hm;have h0:=NZ (s::r) s.length (by omega);have h1:=MV hm;have h3:=Es (gA (s::r) s.length).1 (s::r);generalize(gA (s::r) s.length).1=x at*;obtain⟨t0,h2⟩:=JI (l:=c_ (fun t=>!eI x t) (s::r)) (by omega);have hx0:=BD h2
     have ih1:=AZ N val f (ic [x] (c_ (fun t=>!eI x t) (s::r))) (by omega) fun t ht=>by
      simp only[ic,b_]at ht;obtain⟨t0,h5,rfl⟩:=ht
      rw[F4];exact hN _ (BD h5).1
     have ih2:=AZ N val f (c_ (eI x) (s::r)) (by omega) fun t ht=>hN _ (du.1 ht).1
     have hd:=Gb val [x] (by simp) (c_ (fun t=>!eI x t) (s::r)) fun t ht y hy=>by
      simp only[cq]at hy;subst hy;exact(BD ht).2
     have hk:=Mm val (eI x) (s::r);have ha:=GC (n:=N) (val:=val) [x] (fun y hy=>by simp only[cq]at hy;subst hy;exact hlt y t0 hx0.1 hx0.2) (by simp) _ _ (.inr ih1);rw[hd]at ha;rw[<-hk];generalize bC (eV val) (c_ (fun t=>!eI x t) (s::r))=va at*;generalize bC (eV val) (c_ (eI x) (s::r))=vb at*;generalize l5 [x] (jn f (ic [x] (c_ (fun t=>!eI x t) (s::r))))=A at*;generalize jn f (c_ (eI x) (s::r))=B at*
     have hh:=Bx (n:=N) (val:=val) 4 (.inr rfl) [(A,va),(B,vb)] (by simp) (by
      intro k hk;simp only[bo,mu,ml]at hk
      rcases hk with rfl|rfl
      ·exact ha
      ·exact ih2)
     have e:decide ((4:Int)=3)=false:=by decide
     rw[e,Fy]at hh;simpa using hh
end Go.Proofs.YtchjijfjidlpjaaGreatDoor
namespace Go.Proofs.YtchjijfjidlpjaaGreatDoor
open Go.AM Go.Proofs
variable{Γ:Nat->Option AV}
theorem Km:∀a b:List Bs,cA (a++b)=cA a+cA b
 |[],b=>by simp[cA]
 |s::a,b=>by rw[ep,cA,cA,Km a b];omega
theorem K5:∀(r a:List Bs),cA (iH a r)<=cA a+cA r
 |[],a=>by simp[iH,cA]
 |s::r,a=>by
  rw[iH];have h:=K5 r (if a.contains s=true then a else a++[s])
  have h2:cA (if a.contains s=true then a else a++[s])<=cA a+(bQ s 0).length:=by
   split
   ·omega
   ·rw[Km];simp[cA]
  rw[cA];omega
theorem M6{rows:List Bs}{n:Int}(h:vk n rows=false):∃m:Nat,n=m/\m<=8/\rows.length<=128/\∀s∈rows,s.all mZ=true/\s.length=m:=by
 simp only[vk,j_,iz]at h;obtain⟨h1,h2,h3,h4⟩:=h;obtain⟨m,rfl⟩:=fP (show 0<=n by omega);refine⟨m,rfl,by omega,by omega,fun s hs=>?_⟩;have:=km.1 h4 s hs;simpa[tc]using this
theorem aaL{rows:List Bs}{m:Nat}(hm:m<=8)(hl:rows.length<=128)(hs:∀s∈rows,s.length=m):cA (iH [] rows)<=1024:=by
 have h1:=K5 rows [];have h2:=Nw hs;have h3:rows.length*m<=128*8:=Nat.mul_le_mul hl hm;have h0:cA []=0:=rfl;omega
theorem aaI{rows:List Bs}{n:Int}(h:vk n rows=false)(val:Int->Bool):G6 n val (tg rows n)=some (bC (eV val) rows):=by
 obtain⟨m,rfl,h1,h2,h3⟩:=M6 h
 have hc:=aaL h1 h2 fun s hs=>(h3 s hs).2
 have hl:=AI (cA (iH [] rows)+1) (iH [] rows)
 have hr:=AZ m val (cA (iH [] rows)+1) (iH [] rows) (by omega) fun s hs=>(h3 s (by simpa using(Bc rows []).1 hs)).2
 have he:bC (eV val) (iH [] rows)=bC (eV val) rows:=by
  rw[iB,Bw,Bw];constructor
  ·rintro⟨s,h4,h5⟩;exact⟨s,by simpa using(Bc rows []).1 h4,h5⟩
  ·rintro⟨s,h4,h5⟩;exact⟨s,(Bc rows []).2 (.inr h4),h5⟩
 have h4:=hr [] (jn (cA (iH [] rows)+1) (iH [] rows)).length (by simp);rw[eR,he]at h4
 have e0:tg rows m=jn (cA (iH [] rows)+1) (iH [] rows):=by unfold tg;rw[h];rfl
 rw[e0];unfold G6;rw[if_pos ⟨by omega,by omega,by omega⟩,h4]
def dY:List Bool->Nat
 |[]=>0
 |v::l=>(if v=true then 1 else 0)+dY l
theorem Pu:∀l:List Bool,dY l<=l.length
 |[]=>aO _
 |v::l=>by rw[dY,bz];have:=Pu l;split<;>omega
theorem D'(l:List Bool){k:Nat}(hk:Kd 1 k l)(hl:l.length<2^40):aP Tryz.prog Γ r8 [.list false k (l.map .bool)] (.int .i64 (dY l)):=by
 have key:∀n i:Nat,i+n=l.length->∀a:Nat,a+n<2^41->aB Tryz.prog Γ (yzv (.int .i64 a) (.list false k (l.map .bool)) (.int .i64 l.length) (.int .i64 i) []) (.ret (.int .i64 (a+dY (l.drop i):Nat))):=by
  intro n
  induction n with
  |zero=>
   intro i hi a ha
   have q1:¬i<l.length:=by omega
   rw[bT (by omega),dY];refine .go 60 ?_;simp[q1];exact .back (by simp)
  |succ n ih=>
   intro i hi a ha
   have q1:i<l.length:=by omega
   have q2:=bU (hk.of q1);rw[bZ q1,dY];refine .go 60 ?_
   cases h3:l[i]with
   |true=>
    have hh:=ih (i+1) (by omega) (a+1) (by omega);simp(disch:=omega) [q1,q2,h3];refine .aR ?_;simp[q2,<-Int.add_assoc]at hh⊢;exact hh
   |false=>
    have hh:=ih (i+1) (by omega) a (by omega);simp(disch:=omega) [q1,q2,h3];refine .aR ?_;simp[q2]at hh⊢;exact hh
 refine .run 60 WK (by simp) ?_;simp;refine .inLoop ?_;have hh:=key l.length 0 (by omega) 0 (by omega);simp at hh⊢;exact hh
def mU:Bs->List Bool->Bool
 |c::s,v::l=>(decide (c=45)||decide (decide (c=49)=v))&&mU s l
 |_,_=>true
theorem ad8(s:Bs)(l:List Bool){k:Nat}(hk:Kd 1 k l)(hl:l.length=s.length)(hs:s.length<2^40):aP Tryz.prog Γ wZ [.str s,.list false k (l.map .bool)] (.bool (mU s l)):=by
 have key:∀n i:Nat,i+n=l.length->aB Tryz.prog Γ (yyx (.str s) (.list false k (l.map .bool)) (.int .i64 l.length) (.int .i64 i) []) (.ret (.bool (mU (s.drop i) (l.drop i)))):=by
  intro n
  induction n with
  |zero=>
   intro i hi
   have q1:¬i<l.length:=by omega
   rw[bT (by omega),bT (by omega)];refine .go 60 ?_;simp[q1,mU];exact .back (by simp)
  |succ n ih=>
   intro i hi
   have q1:i<l.length:=by omega
   have q3:i<s.length:=by omega
   have q2:=bU (hk.of q1);have hh:=ih (i+1) (by omega);rw[bZ q1,bZ q3,mU];refine .go 60 ?_
   by_cases a:s[i]=45
   ·simp(disch:=omega) [q1,q2,q3,a];refine .aR ?_;simp[q2]at hh⊢;exact hh
   ·by_cases b:s[i]=49
    ·cases c:l[i]with
     |true=>
      simp(disch:=omega) [q1,q2,q3,b,c];refine .aR ?_;simp[q2]at hh⊢;exact hh
     |false=>
      simp(disch:=omega) [q1,q2,q3,b,c];exact .back (by simp)
    ·cases c:l[i]with
     |true=>
      simp(disch:=omega) [q1,q2,q3,a,b,c];exact .back (by simp[a,b])
     |false=>
      simp(disch:=omega) [q1,q2,q3,a,b,c];refine .aR ?_;simp[q2]at hh⊢;exact hh
 refine .run 60 Xn (by simp) ?_;simp;refine .inLoop ?_;have hh:=key l.length 0 (by omega);simp at hh⊢;exact hh
def zO(op:Int)(l:List Bool):Bool:=if op=0\/op=1 then false else if op=2\/op=3\/op=4\/op=5 then decide (dY l=l.length)else if op=6\/op=7 then decide (0<dY l)else decide (dY l%2=1)
def tu(op:Int):Bool:=decide (op=1\/op=3\/op=5\/op=7\/op=9)
def CV(op:Int):AV:=if op=0\/op=1 then .fn (.func wY) [] []else if op=2\/op=3\/op=4\/op=5 then .fn (.func w8) [] []else if op=6\/op=7 then .fn (.func w6) [] []else if op=8\/op=9 then .fn (.func xa) [] []else .dE
theorem Nh{op:Int}(h0:0<=op)(h1:op<=10):op=0\/op=1\/op=2\/op=3\/op=4\/op=5\/op=6\/op=7\/op=8\/op=9\/op=10:=by omega
set_option maxRecDepth 8000 in
theorem Z9(op:Int)(h0:0<=op)(h1:op<=10):aP Tryz.prog Γ A7 [.int .i64 op] (.agg [CV op,.bool (tu op)]):=by
 refine .run 200 Zw (by simp) ?_
 rcases Nh h0 h1 with rfl|rfl|rfl|rfl|rfl|rfl|rfl|rfl|rfl|rfl|rfl
 all_goals
  simp;exact .back (by simp[CV,tu])
theorem PL(l:List Bool){k:Nat}(hk:Kd 1 k l):aP Tryz.prog Γ wY [.list false k (l.map .bool)] (.bool false):=by
 refine .run 60 W_ (by simp) ?_;simp;exact .back (by simp)
theorem Cg(l:List Bool){k:Nat}(hk:Kd 1 k l)(hl:l.length<2^40):aP Tryz.prog Γ w8 [.list false k (l.map .bool)] (.bool (decide (dY l=l.length))):=by
 have e:((dY l:Int)=l.length)=(dY l=l.length):=propext (by omega);refine .run 60 WW (by simp) ?_;simp;refine .call 60 (by simp) (D' l hk hl) ?_;simp[e];exact .back (by simp)
theorem P_(l:List Bool){k:Nat}(hk:Kd 1 k l)(hl:l.length<2^40):aP Tryz.prog Γ w6 [.list false k (l.map .bool)] (.bool (decide (0<dY l))):=by
 refine .run 60 Xg (by simp) ?_;simp;refine .call 60 (by simp) (D' l hk hl) ?_;simp;exact .back (by simp)
theorem PC(l:List Bool){k:Nat}(hk:Kd 1 k l)(hl:l.length<2^40):aP Tryz.prog Γ xa [.list false k (l.map .bool)] (.bool (decide (dY l%2=1))):=by
 refine .run 60 XH (by simp) ?_;simp;refine .call 60 (by simp) (D' l hk hl) ?_;have e2:((dY l:Int)%2=1)=(dY l%2=1):=propext (by omega);simp[e2];exact .back (by simp)
def Ch(g:Gt)(ins:List Bool):Bool:=gD g&&decide (ins.length=g.ins.length)
def sQ(g:Gt)(ins:List Bool):Bool:=if g.op=10 then !decide (bC (fun s=>mU s ins) g.rows=g.off)else !decide (zO g.op ins=tu g.op)
def re(g:Gt)(ins:List Bool):Bool:=Ch g ins&&sQ g ins
def Qf(g:Gt)(ins:List Bool):Int:=if Ch g ins=true then 0 else 1
theorem aea(g:Gt)(ins:List Bool){k:Nat}(hk:Kd 1 k ins)(i:Nat)(hl:∀s∈g.rows,ins.length=s.length/\s.length<2^40):nh Tryz.prog Γ (fun h=>h[i]? =some (.cells [.list false k (ins.map .bool)])) Ap [.ptr i 0] AV.str (fun s=>mU s ins) g.rows:=by
 refine⟨by simp,fun s hs up h hφ=>?_⟩;have hf:=ad8 (Γ:=Γ) s ins hk (hl s hs).1 (hl s hs).2;refine .bJ 60 Vp ?_;simp[hφ];refine .jR 60 (by simp) hf ?_;simp
theorem acC(g:Gt)(hg:zd g)(ins:List Bool){k:Nat}(hk:Kd 1 k ins)(j:Nat)(hl:∀s∈g.rows,ins.length=s.length/\s.length<2^40){h:List Ob}(hj:h[j]? =some (.cells (AV.cells (eo g)))):∀up,AM.Reach Tryz.prog Γ (.cl Au [.list false k (ins.map .bool),.ptr j 0] up h) (.back up (.bool (bC (fun s=>mU s ins) g.rows)) (h++[.cells [.list false k (ins.map .bool)]])):=by
 intro up
 have hget:=fun os=>gR hj os
 have hC:=DT (Γ:=Γ) (fl:=false) (aea g ins hk h.length hl) g.hr (by have:=hg.2.2.1;omega) (h:=h++[.cells [.list false k (ins.map .bool)]]) (by simp);refine .bJ 60 VT ?_;simp[hget];refine .bA 60 hC ?_;simp
set_option maxRecDepth 8000 in
theorem Xd(hΓ:eG Γ)(g:Gt)(hg:zd g)(ins:List Bool){k:Nat}(hk:Kd 1 k ins)(hli:ins.length<2^40):aP Tryz.prog Γ AF [eo g,.list false k (ins.map .bool)] (.aE [.bool (re g ins),.int .i64 (Qf g ins)]):=by
 have kG:=P1 hΓ g hg;have e:((ins.length:Int)=g.ins.length)=(ins.length=g.ins.length):=propext (by omega);unfold re Qf Ch;refine .run 200 Xr (by simp) ?_;simp;refine .call 200 (by simp) kG ?_
 cases hb:gD g with
 |false=>
  simp;exact .back (by simp)
 |true=>
  by_cases hn:ins.length=g.ins.length
  ·have hop:0<=g.op/\g.op<=10:=by
    unfold gD j6 at hb
    by_cases h10:g.op=10
    ·omega
    ·rw[if_neg h10]at hb;simp only[ay]at hb;have hb2:=hb.2
     split at hb2
     ·omega
     ·split at hb2
      ·omega
      ·split at hb2
       ·omega
       ·cases hb2
   have kO:=Z9 (Γ:=Γ) g.op hop.1 hop.2
   by_cases h10:g.op=10
   ·have hrow:∀s∈g.rows,ins.length=s.length/\s.length<2^40:=fun s hs=>by
     unfold gD at hb;rw[if_pos h10]at hb;simp only[ay,iA]at hb;have:=km.1 hb.2.2 s hs;simp only[JM,tc,ay,aW]at this;exact⟨by omega,hg.2.2.2.2 s hs⟩
    have hR:=fun(h:List Ob) hj=>acC (Γ:=Γ) g hg ins hk 0 hrow (h:=h) hj
    have e10:CV 10=.dE:=rfl;have e11:tu 10=false:=rfl;rw[h10,e10,e11]at kO;simp[hn,e,h10];refine .call 200 (by simp) kO ?_;simp[sQ,h10];refine .dr 200 ?_;simp;refine .reach (by simp) (hR _ (by simp[h10])) ?_;simp;exact .back (by simp)
   ·obtain⟨f,e1,hbf,hpf⟩:∃f,CV g.op=.fn (.func f) [] []/\aA Tryz.prog f=true/\aP Tryz.prog Γ f [.list false k (ins.map .bool)] (.bool (zO g.op ins)):=by
     rcases Nh hop.1 hop.2 with c|c|c|c|c|c|c|c|c|c|c
     ·rw[c];exact⟨_,rfl,by simp,PL ins hk⟩
     ·rw[c];exact⟨_,rfl,by simp,PL ins hk⟩
     ·rw[c];exact⟨_,rfl,by simp,Cg ins hk hli⟩
     ·rw[c];exact⟨_,rfl,by simp,Cg ins hk hli⟩
     ·rw[c];exact⟨_,rfl,by simp,Cg ins hk hli⟩
     ·rw[c];exact⟨_,rfl,by simp,Cg ins hk hli⟩
     ·rw[c];exact⟨_,rfl,by simp,P_ ins hk hli⟩
     ·rw[c];exact⟨_,rfl,by simp,P_ ins hk hli⟩
     ·rw[c];exact⟨_,rfl,by simp,PC ins hk hli⟩
     ·rw[c];exact⟨_,rfl,by simp,PC ins hk hli⟩
     ·exact absurd c h10
    rw[e1]at kO;simp[hn,e,h10,sQ];refine .call 200 (by simp) kO ?_;simp[h10,hbf];refine .dr 200 ?_;simp[hbf];refine .call (by simp) hpf ?_;simp;exact .back (by simp)
  ·simp[hn,e];exact .back (by simp)
def qo(n:Int)(x:Gr)(ins:List Nat):Gr×Option Nat:=if n<=1 then(x,some 0)else if n<=5 then mT 0 x ins else if n<=7 then g_ (·^^^1) (mT 1 x ins)else G3 x ins
def Qg(x:Gr)(g:Gt)(ins:List Nat):Gr×Option (Nat×List Fm):=nZ ins (tg g.rows g.ins.length).length x (tg g.rows g.ins.length)
def lW(x:Gr)(g:Gt)(ins:List Nat):Gr×Option Nat:=
 if 0<=g.op/\g.op<=9 then g_ (·^^^(g.op%2).toNat) (qo g.op x ins)else g_ (fun p=>if g.off=true then p.1^^^1 else p.1) (Qg x g ins)
theorem YT(n:Int){x:Gr}(ok:x.Ok){ins:List Nat}(hi:∀a∈ins,a<x.lits):j3 x (qo n x ins):=by
 unfold qo
 split
 ·exact⟨.refl ok,fun d hd=>by cases hd;exact xG x⟩
 ·split
  ·exact AR (by omega) ok hi
  ·split
   ·exact(AR (by omega) ok hi).CC (by omega)
   ·exact XZ ok hi
theorem XT{x:Gr}(ok:x.Ok)(g:Gt){ins:List Nat}(hi:∀a∈ins,a<x.lits):j3 x (lW x g ins):=by
 unfold lW
 split
 ·exact(YT _ ok hi).CC (by omega)
 ·have h:=xj ins (tg g.rows g.ins.length).length x (tg g.rows g.ins.length) ok hi;refine⟨h.1,fun d hd=>?_⟩;simp only[g_,bY]at hd;obtain⟨p,hp,rfl⟩:=hd;have:=h.2 p hp
  split
  ·exact O6 (n:=(Qg x g ins).1.all) this
  ·exact this
theorem adq{g:Gt}(h:gD g=true):(0<=g.op/\g.op<=9/\j6 g.op g.ins.length=true)\/(g.op=10/\g.ins.length<=8/\vk g.ins.length g.rows=false):=by
 unfold gD at h
 by_cases h10:g.op=10
 ·rw[if_pos h10]at h;simp only[ay,aW,iA]at h;refine .inr ⟨h10,h.1,?_⟩;unfold vk;simp only[j_,iz,dt];exact⟨by omega,by omega,by omega,h.2.2⟩
 ·rw[if_neg h10]at h;simp only[ay]at h;have h2:=h.2;refine .inl ?_;unfold j6 at h2
  split at h2
  ·exact⟨by omega,by omega,h.2⟩
  ·split at h2
   ·exact⟨by omega,by omega,h.2⟩
   ·split at h2
    ·exact⟨by omega,by omega,h.2⟩
    ·cases h2
theorem ad1{op:Int}{n:Nat}(h:j6 op n=true)(h2:2<=op):n≠0:=by
 unfold j6 at h
 rintro rfl
 split at h
 ·simp at h
 ·rw[if_neg (by omega)]at h
  split at h
  ·simp at h
  ·cases h
theorem OQ{n:Nat}{τ:List Nat}{k:Nat}{E:TypeId}{es:List AV}(ho:ea n τ es=true):∀{h:List Ob}(j:Nat),fM n τ h=true->fM n τ (h.set j (.row k E es none false false))=true
 |[],_,h1=>h1
 |o'::h,0,h1=>by
  have h2:fM n τ h=true:=by cases o'<;>simp only[fM,ay]at h1<;>exact h1.2
  simp[fM,lz,ho,h2]
 |o'::h,j+1,h1=>by
  cases o'<;>simp only[fM,ay,rM]at h1⊢<;>exact⟨h1.1,OQ ho j h1.2⟩
theorem OO{n:Nat}{τ:List Nat}(o:Ob):∀{h:List Ob}(j:Nat),cI n h=true->jj n τ (h.set j o)=h.set j (kH n τ o)
 |[],_,_=>rfl
 |o'::h,0,h1=>by
  simp only[cI,ay]at h1;simp only[vZ,jj,mE h1.2]
 |o'::h,j+1,h1=>by
  simp only[cI,ay]at h1;simp only[rM,jj,O9 h1.1,OO o j h1.2]
theorem WZ{n N m:Nat}(h:m<N)(v:AV):(dC n N m).set m v=(List.range m).map (fun i=>AV.mp (n+(3+(N+i))))++(v::List.replicate (N-(m+1)) .cO):=by
 rw[dC,z_ _ _ (by simp),show N-m=(N-(m+1))+1 by omega,lA];simp
theorem Yu{n N m:Nat}(h:m<N):(List.range m).map (fun i=>AV.mp (n+(3+(N+i))))++(.mp (n+(3+(N+m)))::List.replicate (N-(m+1)) .cO)=dC n N (m+1):=by
 rw[dC,DG];simp
theorem ac8{n N m q:Nat}(h:n+(3+(N+m))<=q):aL q ((List.range m).map (fun i=>AV.mp (n+(3+(N+i)))))=true:=by
 have:=Fh h;rw[dC,Ek,ay]at this;exact this.1
theorem Nd(q:Nat):∀k,aL q (List.replicate k AV.cO)=true
 |0=>rfl
 |k+1=>by simp[lA,Nd q k]
theorem aer{H:List Ob}{nd b:List (List Nat)}(h:nd.length<b.length):(hQ H nd b).set (H.length+1) (.row 1 nH (dC H.length b.length (nd.length+1)) none false false)++[.map [] true]=hQ H (nd++[[]]) b:=by
 have e:H.length+1=H.length+1:=rfl;rw[hQ,Ce,hQ,cM];have f6:decide ((nd++[[]]).length=0)=false:=wx (by simp);simp[hF,ij]
theorem WG(c:AV):eS [c] .cO=c:=rfl
def fA(pl:List (Bs×Nat)):List Gt->Nat->List (List Nat)->List (List Nat)->List (List Nat)×List (List Nat)
 |[],_,nd,b=>(nd,b)
 |g::r,i,nd,b=>fA pl r (i+1) (nd++[eX pl g.ins []]) (jD pl i g.ins [] b)
theorem xU(pl:List (Bs×Nat))(i:Nat):∀(l:List Bs)(a:List Nat)(b:List (List Nat)),(jD pl i l a b).length=b.length
 |[],_,_=>rfl
 |s::r,a,b=>by
  rw[jD]
  split
  ·exact xU pl i r a b
  ·rw[xU];split<;>simp
theorem Gw(pl:List (Bs×Nat))(i M:Nat):∀(l:List Bs)(a:List Nat)(b:List (List Nat)),(∀x∈b,x.length<=M)->∀x∈jD pl i l a b,x.length<=M+l.length
 |[],_,_,h=>fun x hx=>by have:=h x hx;simpa using this
 |s::r,a,b,h=>fun x hx=>by
  rw[jD]at hx
  have hM:∀x∈b,x.length<=M+1:=fun x hx=>by have:=h x hx;omega
  have key:∀(b':List (List Nat))(a':List Nat),(∀x∈b',x.length<=M+1)->x∈jD pl i r a' b'->x.length<=M+(s::r).length:=fun b' a' h1 h2=>by
   have:=Gw pl i (M+1) r a' b' h1 x h2
   simp only[bz];omega
  split at hx
  ·exact key _ _ hM hx
  ·rename_i k _
   split at hx
   ·exact key _ _ hM hx
   ·refine key _ _ (fun y hy=>?_) hx
    rcases pq hy with h1|h1
    ·exact hM y h1
    ·rw[h1,bq,tA]
     by_cases hk:k<b.length
     ·rw[bj,aM hk];have:=h _ (bF hk)
      simp only[jJ];omega
     ·rw[bj,fu (by omega)];simp
theorem abF{H:List Ob}{nd b:List (List Nat)}{p:Nat}(h:p<H.length)(o:Ob):(hQ H nd b).set p o=hQ (H.set p o) nd b:=by
 rw[hQ,Aa _ _ h,hQ,jG]
set_option maxRecDepth 8000 in
theorem adg(c:Ct)(hc:cB c){H:List Ob}(hw:cL H)(hv:gp H){m0:Nat}(hm:H[m0]? =some (.map ((cf c).map lu) true))(up:List Fr)(base:Nat)(hbase:base<=H.length)(p2:Nat)(hp2:p2<H.length)(C:AM.ar)(i:Nat)(hi:i<c.af.length)(nd b:List (List Nat))(hnd:nd.length=i)(hb:b.length=c.af.length)(hbl:∀l∈b,l.length<=2^20+i*2^10)
 (hC:AM.Reach Tryz.prog Γ (IK (.ptr p2 0) (.mp m0) (.ptr H.length 0) (.list false c.kG (c.af.map eo)) (.int .i64 c.af.length) (.int .i64 (i+1:Nat)) (hQ H (nd++[eX (cf c) c.af[i].ins []]) (jD (cf c) i c.af[i].ins [] b)) ⟨[],.norm,base,up⟩) C):
 AM.Reach Tryz.prog Γ (IK (.ptr p2 0) (.mp m0) (.ptr H.length 0) (.list false c.kG (c.af.map eo)) (.int .i64 c.af.length) (.int .i64 i) (hQ H nd b) ⟨[],.norm,base,up⟩) C:=by
 have q2:=bU (c.hG.of hi);have xw:=HA (H:=H) (nd:=nd) (b:=b);have xn:=Hv (H:=H) (nd:=nd) (b:=b);have yl:=Bj (n:=H.length) (N:=b.length) (m:=nd.length) (by omega);have hlen:=lT (H:=H) (nd:=nd) (b:=b);have hm0:=ba hm;have hnew:=aer (H:=H) (nd:=nd) (b:=b) (by omega);have hsp:=WZ (n:=H.length) (N:=b.length) (m:=nd.length) (by omega) (.mp ((hQ H nd b).length+3));have hsu:=Yu (n:=H.length) (N:=b.length) (m:=nd.length) (by omega);have hwf:=afi (nd:=nd) (b:=b) hw (hQ H nd b).length (aO _);have hbm:=ac8 (n:=H.length) (N:=b.length) (m:=nd.length) (q:=(hQ H nd b).length) (by omega);have hbn:=Nd (hQ H nd b).length (b.length-(nd.length+1))
 have yc:∀h,(dC H.length b.length nd.length)[nd.length]'h=.cO:=fun h=>by
  have e:(dC H.length b.length nd.length)[nd.length]? =some .cO:=by
   rw[dC,df (by simp),eb,pt,DC,show b.length-nd.length=(b.length-(nd.length+1))+1 by omega,lA];rfl
  exact(dd.1 e).2
 have hin:=ade (Γ:=Γ) c hc hw hv hm nd i hi hnd up base hbase p2 c.af[i].ins.length 0 (by omega) [] b hb (fun l hl=>by have:=hbl l hl;omega);subst hnd;rw[hb]at xw xn yl hlen hnew hsp hsu hbm hbn yc
 have w1:∀os,(hQ H nd b++os)[H.length]? =some (.cells [.sl (H.length+1) 0 c.af.length,.sl (H.length+2) 0 c.af.length]):=fun os=>gR xw os
 have w2:∀os,(hQ H nd b++os)[H.length+1]? =some (.row 1 nH (dC H.length c.af.length nd.length) none (decide (nd.length=0)) false):=fun os=>gR xn os
 have w3:∀os o,(hQ H nd b++os).set (H.length+1) o=(hQ H nd b).set (H.length+1) o++os:=fun os o=>Aa _ _ (by rw[hlen];omega)
 have w4:∀o os,((hQ H nd b).set (H.length+1) o++os)[(hQ H nd b).length]? =os[0]? :=fun o os=>by rw[df (by simp)];simp
 have hX:(hQ H nd b).length=H.length+(3+(c.af.length+nd.length)):=hlen;generalize hQ H nd b=X at*;clear hlen
 have hb2:base<=X.length:=by omega
 have hX1:H.length<X.length:=by omega
 have hX2:H.length+1<X.length:=by omega
 have hX3:p2<X.length:=by omega
 have hX4:m0<X.length:=by omega
 refine .bw 60 ?_;simp(disch:=omega) [hi,q2,w1,w2,w3,w4,yl,yc,WG];rw[hsp]
 have hmp:(AV.mp (H.length+(3+(c.af.length+nd.length))))=.mp X.length:=by rw[hX]
 rw[hmp]at hsu;refine .trans (.n9 [6,27,28,29,30,31,32,33,34,35] _) ?_;simp[oa]
 refine .l0 X.length [3] (by
  simp[hb2,hX1,hX3,hX4]
  exact OQ (by simp[mF hbm,mF hbn]) _ (mD hwf)) (by decide) ?_
 have hlt3:(X.length+3<X.length)=False:=kc (by omega);simp[hX1,hX3,hX4,OO _ _ hwf,lJ hbm,lJ hbn,hlt3];rw[hsu,hnew];refine .inLoop ?_;simp at hin⊢;refine .trans hin ?_;refine .bw 60 ?_
 have hB:nd.length<2^10:=by have:=hc.2.2.2.1;omega
 simp(disch:=omega);refine .aR ?_;simp at hC⊢;exact hC
set_option maxRecDepth 8000 in
theorem acf(c:Ct)(hc:cB c){H:List Ob}(hw:cL H)(hv:gp H){m0:Nat}(hm:H[m0]? =some (.map ((cf c).map lu) true))(up:List Fr)(base:Nat)(hbase:base<=H.length)(p2:Nat)(hp2:p2<H.length){r0 r1:AV}(hr:H[p2]? =some (.cells [r0,r1])):∀n i:Nat,i+n=c.af.length->∀nd b:List (List Nat),nd.length=i->b.length=c.af.length->(∀l∈b,l.length<=2^20+i*2^10)->
 AM.Reach Tryz.prog Γ (IK (.ptr p2 0) (.mp m0) (.ptr H.length 0) (.list false c.kG (c.af.map eo)) (.int .i64 c.af.length) (.int .i64 i) (hQ H nd b) ⟨[],.norm,base,up⟩)
  (.back up (.agg [.sl (H.length+1) 0 c.af.length,.sl (H.length+2) 0 c.af.length]) (hQ (H.set p2 (.cells [.sl (H.length+1) 0 c.af.length,.sl (H.length+2) 0 c.af.length])) (fA (cf c) (c.af.drop i) i nd b).1 (fA (cf c) (c.af.drop i) i nd b).2)):=by
 intro n
 induction n with
 |zero=>
  intro i hi nd b hnd hb hbl
  have q1:¬i<c.af.length:=by omega
  rw[bT (by omega),fA];have xw:=HA (H:=H) (nd:=nd) (b:=b)
  have xp:(hQ H nd b)[p2]? =some (.cells [r0,r1]):=by rw[G1 hp2];exact hr
  have xs:=fun o=>abF (nd:=nd) (b:=b) hp2 o
  have xp2:∀o,((hQ H nd b).set p2 o)[p2]? =some o:=fun o=>by rw[eL (by rw[lT];omega)]
  rw[hb]at xw;refine .bw 60 ?_;simp[q1,xw,xp,xp2];rw[xs];exact .refl _
 |succ n ih=>
  intro i hi nd b hnd hb hbl
  have q1:i<c.af.length:=by omega
  have hiB:c.af[i].ins.length<2^10:=(hc.2.2.2.2.1 _ (bF q1)).2.1;rw[bZ q1,fA];refine adg c hc hw hv hm up base hbase p2 hp2 _ i q1 nd b hnd hb hbl ?_
  exact ih (i+1) (by omega) _ _ (by simp[hnd]) (by rw[xU];exact hb) (fun l hl=>by
   have:=Gw (cf c) i (2^20+i*2^10) c.af[i].ins [] b hbl l hl
   rw[DI];omega)
def ee(c:Ct):List (List Nat):=(fA (cf c) c.af 0 [] (List.replicate c.af.length [])).1
def bx(c:Ct):List (List Nat):=(fA (cf c) c.af 0 [] (List.replicate c.af.length [])).2
def iq(c:Ct)(n:Nat)(x y:AV):List Ob:=[.cells (AV.cells (bW c)),.cells [x,y],.row 1 nH [] none true false,.row 1 jq [] none true false,.cells (AV.cells (bW c)),.map ((cf c).map lu) true]
def gY(c:Ct)(h:List Ob):List Ob:=h++iq c h.length (.sl (h.length+7) 0 c.af.length) (.sl (h.length+8) 0 c.af.length)
theorem kh(c:Ct)(h:List Ob):(gY c h).length=h.length+6:=by simp[gY,iq]
theorem sO(i m:Nat):∀l:List (Bs×Nat),n8 i m (l.map lu)=true
 |[]=>rfl
 |x::l=>by simp[sO i m l]
set_option maxRecDepth 8000 in
theorem aeL(c:Ct)(hc:cB c)(hd:(c.af.map (·.name)).Nodup){h:List Ob}(hw:cL h)(hv:gp h):∀up,AM.Reach Tryz.prog Γ (.cl nI [bW c] up h)
 (.back up (.agg [.sl ((gY c h).length+1) 0 c.af.length,.sl ((gY c h).length+2) 0 c.af.length]) (hQ (gY c h) (ee c) (bx c))):=by
 intro up;have hN:=hc.2.2.2.1;generalize hH:h++iq c h.length (.sl (h.length+2) 0 0) (.sl (h.length+3) 0 0)=H
 have hHl:H.length=h.length+6:=by rw[<-hH];simp[iq]
 have hp:H[h.length]? =some (.cells (AV.cells (bW c))):=by rw[<-hH];simp[iq]
 have hp2:H[h.length+1]? =some (.cells [.sl (h.length+2) 0 0,.sl (h.length+3) 0 0]):=by rw[<-hH];simp[iq]
 have hm:H[h.length+5]? =some (.map ((cf c).map lu) true):=by rw[<-hH];simp[iq]
 have hwH:cL H:=fun m hm=>by
  have h1:=hw m (by omega);have h2:=vc m (cf c);rw[<-hH,pC,h1]
  simp[iq,h2];omega
 have hvH:gp H:=fun i m hi=>by
  have h1:=hv i m (by omega);have h2:=sO i m (cf c);rw[<-hH,jk,h1]
  simp[iq,h2];omega
 have hend:H.set (h.length+1) (.cells [.sl (H.length+1) 0 c.af.length,.sl (H.length+2) 0 c.af.length])=gY c h:=by
  rw[<-hH,Ce,gY];simp[iq]
 have hL:=acf (Γ:=Γ) c hc hwH hvH hm up h.length (by omega) (h.length+1) (by omega) hp2 c.af.length 0 (by omega) [] (List.replicate c.af.length []) rfl (by simp) (by simp)
 have hcv:=fun f=>aeY (Γ:=Γ) H c.af.length f up c.af.length 0 (by omega)
 rw[ZP,Yz]at hcv;rw[hend,fe,hHl]at hL;refine .bJ 60 WA ?_;simp;refine .trans (Oi c hc hd ?_ _) ?_
 ·intro m hm;simp at hm;have h1:=hw m (by omega)
  simp[h1];omega
 have e2:h.length+1+1=h.length+2:=rfl;have e3:h.length+1+1+1=h.length+3:=rfl;have e5:h.length+4+1=h.length+5:=rfl;refine .trans (.pop _) (.bw 60 ?_);simp[e2,e3,e5];refine .trans (.n9 [0,11,12] _) ?_;simp[oa]
 have hR:=fun k hk C hC=>ace (Γ:=Γ) (c:=c) (p:=h.length) (x2:=.ptr (h.length+1) 0) (x3:=.mp (h.length+5)) (H:=H) (up:=up) (base:=h.length) (k:=k) (C:=C) hc hp (hwH _ (aO _)) (by omega) (by simp;omega) (by simp;omega) hk hC
 rw[<-hH]at hR;simp[iq]at hR;refine hR _ ?_ _ ?_
 ·simp
 have hcv':∀f,AM.Reach Tryz.prog Γ (.fr f up (h++(iq c h.length (.sl (h.length+2) 0 0) (.sl (h.length+3) 0 0)++hW c (h.length+6)))) (.fr f up (hQ H [] (List.replicate c.af.length []))):=fun f=>by
  rw[<-cM,hH,<-hHl];exact hcv f
 simp[iq]at hcv';refine .trans (hcv' _) ?_;refine .bw 60 ?_;have hq:=G1 (H:=H) (nd:=[]) (b:=List.replicate c.af.length []) (ba hp);rw[hp]at hq;simp[hq];refine .inLoop ?_;simp at hL⊢;rw[kh];simp[ee,bx];exact hL
def hP(A:List Ob)(l s:List Nat)(g:Option Nat):List Ob:=A++[.row 1 av ((l++s).map iN) g true false,.cells [.sl A.length 0 l.length]]
def swp(l:List Nat)(i j:Nat):List Nat:=(l.set i (l.getD j 0)).set j (l.getD i 0)
section
variable{A:List Ob}{l s:List Nat}{g:Option Nat}
theorem xZ:(hP A l s g).length=A.length+2:=by simp[hP]
theorem vz:(hP A l s g)[A.length]? =some (.row 1 av ((l++s).map iN) g true false):=by simp[hP]
theorem o5:(hP A l s g)[A.length+1]? =some (.cells [.sl A.length 0 l.length]):=by
 rw[hP,df (by omega)];simp
theorem p_{i:Nat}(h:i<A.length):(hP A l s g)[i]? =A[i]? :=by rw[hP,cz h]
theorem acW{l' s':List Nat}(h:l'.length=l.length):(hP A l s g).set A.length (.row 1 av ((l'++s').map iN) g true false)=hP A l' s' g:=by
 have:=Ce A [.row 1 av ((l++s).map iN) g true false,.cells [.sl A.length 0 l.length]] 0 (.row 1 av ((l'++s').map iN) g true false);rw[gM]at this
 rw[hP,this,hP,h];rfl
theorem dQ(i j:Nat):(swp l i j).length=l.length:=by simp[swp]
theorem B_{L:List Nat}{i:Nat}(h:i<L.length):(L.map iN)[i]? =some (.int .i64 (L.getD i 0:Nat)):=by simp[h]
end
theorem Cp(A:List Ob)(l s:List Nat)(g:Option Nat)(hg:g=none\/g=some 0/\s=[]):∀up,AM.Reach Tryz.prog Γ (.cl tM [.sl A.length 0 l.length] up (hP A l s g)) (.back up (.int .i64 l.length) (hP A l s g)):=by
 intro up;have xr:=vz (A:=A) (l:=l) (s:=s) (g:=g)
 have hl2:s=[]->((l++s).map iN).length=l.length:=fun h=>by rw[h];simp
 generalize hP A l s g=X at*;generalize hL:(l++s).map iN=L at*
 have hl:l.length<=L.length:=by rw[<-hL];simp
 rcases hg with rfl|⟨rfl,rfl⟩
 ·refine .bJ 60 Ke ?_;simp[xr]
 ·have hl3:=hl2 rfl;refine .bJ 60 Ke ?_;simp[xr,hl3]
theorem y4(A:List Ob)(l s:List Nat)(g:Option Nat)(hg:g=none\/g=some 0/\s=[]){i j:Nat}(hi:i<l.length)(hj:j<l.length):∀up,AM.Reach Tryz.prog Γ (.cl wJ [.sl A.length 0 l.length,.int .i64 i,.int .i64 j] up (hP A l s g)) (.back up (.bool (decide (l.getD i 0<l.getD j 0))) (hP A l s g)):=by
 intro up;have xr:=vz (A:=A) (l:=l) (s:=s) (g:=g)
 have e:∀k,k<l.length->(l++s).getD k 0=l.getD k 0:=fun k hk=>by simp[cz hk]
 have gi:=B_ (L:=l++s) (i:=i) (by simp;omega);have gj:=B_ (L:=l++s) (i:=j) (by simp;omega);rw[e i hi]at gi;rw[e j hj]at gj;generalize hP A l s g=X at*;generalize hL:(l++s).map iN=L at*
 have hl:l.length<=L.length:=by rw[<-hL];simp
 obtain⟨_,gi'⟩:=dd.1 gi;obtain⟨_,gj'⟩:=dd.1 gj;generalize l.getD i 0=vi at*;generalize l.getD j 0=vj at*
 have hl2:s=[]->L.length=l.length:=fun h=>by rw[<-hL,h];simp
 rcases hg with rfl|⟨rfl,rfl⟩
 ·refine .bJ 60 J' ?_;simp(disch:=omega) [xr,gi,gj,gi',gj',hi,hj,hl,eS]
 ·have hl3:=hl2 rfl;refine .bJ 60 J' ?_;simp(disch:=omega) [xr,gi,gj,gi',gj',hi,hj,hl3,eS]
theorem QD{A:List Ob}{l s:List Nat}{i:Nat}{v:Nat}(hi:i<l.length):((l++s).map iN).set i (.int .i64 v)=(l.set i v++s).map iN:=by
 rw[jK,Aa _ _ (by simpa using hi),jK,qM]
theorem y5(A:List Ob)(l s:List Nat)(g:Option Nat)(hg:g=none\/g=some 0/\s=[]){i j:Nat}(hi:i<l.length)(hj:j<l.length):∀up,AM.Reach Tryz.prog Γ (.cl wI [.sl A.length 0 l.length,.int .i64 i,.int .i64 j] up (hP A l s g)) (.back up (.aE []) (hP A (swp l i j) s g)):=by
 intro up;have xr:=vz (A:=A) (l:=l) (s:=s) (g:=g);have xl:=xZ (A:=A) (l:=l) (s:=s) (g:=g)
 have e:∀k,k<l.length->(l++s).getD k 0=l.getD k 0:=fun k hk=>by simp[cz hk]
 have gi:=B_ (L:=l++s) (i:=i) (by simp;omega);have gj:=B_ (L:=l++s) (i:=j) (by simp;omega);rw[e i hi]at gi;rw[e j hj]at gj
 have fin:(hP A l s g).set A.length (.row 1 av ((((l++s).map iN).set i (.int .i64 (l.getD j 0))).set j (.int .i64 (l.getD i 0))) g true false)=hP A (swp l i j) s g:=by
  rw[QD (A:=A) hi,QD (A:=A) (by simpa using hj)];exact acW (by simp)
 have hr:A.length<(hP A l s g).length:=by omega
 clear xl;generalize hP A l s g=X at*;generalize hL:(l++s).map iN=L at*
 have hl:l.length<=L.length:=by rw[<-hL];simp
 have hiL:i<L.length:=by omega
 have hjL:j<L.length:=by omega
 generalize l.getD i 0=vi at*;generalize l.getD j 0=vj at*;obtain⟨_,gi'⟩:=dd.1 gi;obtain⟨_,gj'⟩:=dd.1 gj;obtain⟨_,xr'⟩:=dd.1 xr
 have gs:(L.set i (.int .i64 vj))[j]? =some (.int .i64 vj):=by
  by_cases hij:i=j
  ·subst hij;rw[eL hiL]
  ·rw[dK hij];exact gj
 have hl2:s=[]->L.length=l.length:=fun h=>by rw[<-hL,h];simp
 rcases hg with rfl|⟨rfl,rfl⟩
 ·refine .bJ 60 Kb ?_;simp(disch:=omega) [xr,xr',gs,gi,gj,gi',gj',hi,hj,hl,hiL,hjL,eS];rw[fin];exact .refl _
 ·have hl3:=hl2 rfl;refine .bJ 60 Kb ?_;simp(disch:=omega) [xr,xr',gs,gi,gj,gi',gj',hi,hj,hl3,hiL,hjL,eS];rw[fin];exact .refl _
def nz(l:List Nat)(j:Nat):List Nat:=
 if j=0 then l else if l.getD j 0<l.getD ((j-1)/2) 0 then nz (swp l ((j-1)/2) j) ((j-1)/2)else l
termination_by j
decreasing_by omega
theorem ac7(j:Nat):∀l:List Nat,(nz l j).length=l.length:=by
 induction j using Nat.strongRecOn with
 |_ j ih=>
  intro l;rw[nz]
  split
  ·rfl
  ·rename_i h0
   split
   ·rw[ih _ (by omega),dQ]
   ·rfl
theorem QU(j:Nat)(h:j≠0):((j:Int)-1).tdiv 2=(((j-1)/2:Nat):Int):=by
 have e:(j:Int)-1=((j-1:Nat):Int):=by omega
 rw[e,Int.tdiv_eq_ediv_of_nonneg (by omega)];rfl
theorem af9(A:List Ob)(s:List Nat)(g:Option Nat)(hg:g=none\/g=some 0/\s=[])(up:List Fr)(base:Nat):∀(j:Nat)(l:List Nat),j<l.length->l.length<2^40->
 AM.Reach Tryz.prog Γ (yuQ (.bK kQ (.ptr (A.length+1) 0)) (.int .i64 j) (hP A l s g) ⟨[],.norm,base,up⟩) (.back up (.aE []) (hP A (nz l j) s g)):=by
 intro j
 induction j using Nat.strongRecOn with
 |_ j ih=>
  intro l hj hl;have xc:=o5 (A:=A) (l:=l) (s:=s) (g:=g);rw[nz]
  by_cases h0:j=0
  ·rw[if_pos h0];subst h0;generalize hP A l s g=X at*;refine .bw 60 ?_;simp[xc]
  ·rw[if_neg h0];have hq:=QU j h0
   have hlt:(j-1)/2<j:=by omega
   have hne:((((j-1)/2:Nat):Int)=(j:Int))=False:=kc (by omega);have hL:=y4 (Γ:=Γ) A l s g hg hj (show(j-1)/2<l.length by omega);have hS:=y5 (Γ:=Γ) A l s g hg (show(j-1)/2<l.length by omega) hj
   by_cases hc:l.getD j 0<l.getD ((j-1)/2) 0
   ·rw[if_pos hc];have hh:=ih _ hlt (swp l ((j-1)/2) j) (by rw[dQ];omega) (by rw[dQ];exact hl);rw[ow hc]at hL;generalize hP A l s g=X at*;generalize(j-1)/2=i at*;refine .bw 60 ?_;simp(disch:=omega) [xc,hq,hne];refine .bA 60 hL ?_;simp[xc];refine .bA 60 hS ?_;simp;refine .aR ?_;simp at hh⊢;exact hh
   ·rw[if_neg hc];rw[wx hc]at hL;generalize hP A l s g=X at*;generalize(j-1)/2=i at*;refine .bw 60 ?_;simp(disch:=omega) [xc,hq,hne];refine .bA 60 hL ?_;simp[xc]
theorem afE(A:List Ob)(s:List Nat)(g:Option Nat)(hg:g=none\/g=some 0/\s=[])(j:Nat)(l:List Nat)(hj:j<l.length)(hl:l.length<2^40):∀up,
 AM.Reach Tryz.prog Γ (.cl wG [.bK kQ (.ptr (A.length+1) 0),.int .i64 j] up (hP A l s g)) (.back up (.aE []) (hP A (nz l j) s g)):=by
 intro up;have h:=af9 (Γ:=Γ) A s g hg up (hP A l s g).length j l hj hl;generalize hP A l s g=X at*;refine .bJ 60 UD ?_;simp;refine .inLoop ?_;simp at h⊢;exact h
def gh(l:List Nat)(j n:Nat):Nat:=if j+1<n/\l.getD (j+1) 0<l.getD j 0 then j+1 else j
def gB(n:Nat)(l:List Nat)(i:Nat):List Nat×Nat:=
 if n<=2*i+1 then(l,i)else if l.getD (gh l (2*i+1) n) 0<l.getD i 0 then gB n (swp l i (gh l (2*i+1) n)) (gh l (2*i+1) n)else(l,i)
termination_by n-i
decreasing_by
 have:2*i+1<=gh l (2*i+1) n:=by unfold gh;split<;>omega
 omega
theorem yY(l:List Nat)(j n:Nat):j<=gh l j n:=by unfold gh;split<;>omega
theorem Cj(l:List Nat){j n:Nat}(h:j<n):gh l j n<n:=by unfold gh;split<;>omega
theorem ZC(n:Nat):∀(m i:Nat)(l:List Nat),n-i<=m->(gB n l i).1.length=l.length:=by
 intro m
 induction m with
 |zero=>
  intro i l h;rw[gB,if_pos (by omega)]
 |succ m ih=>
  intro i l h;rw[gB]
  split
  ·rfl
  ·split
   ·have:=yY l (2*i+1) n;rw[ih _ _ (by omega),dQ]
   ·rfl
theorem ae3(A:List Ob)(s:List Nat)(g:Option Nat)(hg:g=none\/g=some 0/\s=[])(up:List Fr)(base:Nat)(n i0:Nat)(hn:n<2^40):∀(m i:Nat)(l:List Nat),n-i<=m->i<2^41->n<=l.length->(i<l.length)->
 AM.Reach Tryz.prog Γ (yvi (.bK kQ (.ptr (A.length+1) 0)) (.int .i64 i0) (.int .i64 n) (.int .i64 i) (hP A l s g) ⟨[],.norm,base,up⟩) (.back up (.bool (decide (i0<(gB n l i).2))) (hP A (gB n l i).1 s g)):=by
 intro m
 induction m with
 |zero=>
  intro i l hm hi hnl hil;obtain⟨j1,hj1⟩:∃j1,j1=2*i+1:=⟨_,rfl⟩
  have e1:2*(i:Int)+1=(j1:Int):=by omega
  rw[gB,if_pos (by omega)]
  have q1:¬j1<n:=by omega
  have q2:n<=j1:=by omega
  generalize hP A l s g=X at*;refine .bw 60 ?_;simp(disch:=omega) [e1,q1,q2]
 |succ m ih=>
  intro i l hm hi hnl hil;obtain⟨j1,hj1⟩:∃j1,j1=2*i+1:=⟨_,rfl⟩
  have e1:2*(i:Int)+1=(j1:Int):=by omega
  obtain⟨j2,hj2⟩:∃j2,j2=j1+1:=⟨_,rfl⟩
  have e2:(j1:Int)+1=(j2:Int):=by omega
  rw[gB]
  by_cases h1:n<=2*i+1
  ·rw[if_pos h1]
   have q1:¬j1<n:=by omega
   have q2:n<=j1:=by omega
   generalize hP A l s g=X at*;refine .bw 60 ?_;simp(disch:=omega) [e1,q1,q2]
  ·rw[if_neg h1]
   have q1:j1<n:=by omega
   have q2:¬n<=j1:=by omega
   have q3:(n:Int)<=(j1:Int)↔False:=⟨fun h=>by omega,False.elim⟩;have hkg:=yY l j1 n;have hkl:=Cj l q1;rw[<-hj1];have xc:=o5 (A:=A) (l:=l) (s:=s) (g:=g)
   by_cases h2:j2<n
   ·have hL:=y4 (Γ:=Γ) A l s g hg (show j2<l.length by omega) (show j1<l.length by omega)
    by_cases h3:l.getD (j2) 0<l.getD j1 0
    ·rw[ow h3]at hL
     have hk:gh l j1 n=j2:=by unfold gh;rw[<-hj2,if_pos ⟨h2,h3⟩]
     rw[hk];have hL2:=y4 (Γ:=Γ) A l s g hg (show j2<l.length by omega) hil
     by_cases hc:l.getD (j2) 0<l.getD i 0
     ·rw[if_pos hc];have hS:=y5 (Γ:=Γ) A l s g hg hil (show j2<l.length by omega);have hh:=ih (j2) (swp l i (j2)) (by omega) (by omega) (by rw[dQ];omega) (by rw[dQ];omega);rw[ow hc]at hL2;generalize hP A l s g=X at*;refine .bw 60 ?_;simp(disch:=omega) [xc,e1,e2,q1,q2,h2];refine .bA 60 hL ?_;simp[xc];refine .bA 60 hL2 ?_;simp[xc];refine .bA 60 hS ?_;simp;refine .aR ?_;simp at hh⊢;exact hh
     ·rw[if_neg hc];rw[wx hc]at hL2;generalize hP A l s g=X at*;refine .bw 60 ?_;simp(disch:=omega) [xc,e1,e2,q1,q2,h2];refine .bA 60 hL ?_;simp[xc];refine .bA 60 hL2 ?_;simp[xc]
    ·rw[wx h3]at hL
     have hk:gh l j1 n=j1:=by unfold gh;rw[<-hj2,if_neg (fun h=>h3 h.2)]
     rw[hk];have hL2:=y4 (Γ:=Γ) A l s g hg (show j1<l.length by omega) hil
     by_cases hc:l.getD (j1) 0<l.getD i 0
     ·rw[if_pos hc];have hS:=y5 (Γ:=Γ) A l s g hg hil (show j1<l.length by omega);have hh:=ih (j1) (swp l i (j1)) (by omega) (by omega) (by rw[dQ];omega) (by rw[dQ];omega);rw[ow hc]at hL2;generalize hP A l s g=X at*;refine .bw 60 ?_;simp(disch:=omega) [xc,e1,e2,q1,q2,h2];refine .bA 60 hL ?_;simp[xc];refine .bA 60 hL2 ?_;simp[xc];refine .bA 60 hS ?_;simp;refine .aR ?_;simp at hh⊢;exact hh
     ·rw[if_neg hc];rw[wx hc]at hL2;generalize hP A l s g=X at*;refine .bw 60 ?_;simp(disch:=omega) [xc,e1,e2,q1,q2,h2];refine .bA 60 hL ?_;simp[xc];refine .bA 60 hL2 ?_;simp[xc]
   ·have hk:gh l j1 n=j1:=by unfold gh;rw[<-hj2,if_neg (fun h=>h2 h.1)]
    rw[hk];have hL2:=y4 (Γ:=Γ) A l s g hg (show j1<l.length by omega) hil
    by_cases hc:l.getD (j1) 0<l.getD i 0
    ·rw[if_pos hc];have hS:=y5 (Γ:=Γ) A l s g hg hil (show j1<l.length by omega);have hh:=ih (j1) (swp l i (j1)) (by omega) (by omega) (by rw[dQ];omega) (by rw[dQ];omega);rw[ow hc]at hL2;generalize hP A l s g=X at*;refine .bw 60 ?_;simp(disch:=omega) [xc,e1,e2,q1,q2,h2];refine .bA 60 hL2 ?_;simp[xc];refine .bA 60 hS ?_;simp;refine .aR ?_;simp at hh⊢;exact hh
    ·rw[if_neg hc];rw[wx hc]at hL2;generalize hP A l s g=X at*;refine .bw 60 ?_;simp(disch:=omega) [xc,e1,e2,q1,q2,h2];refine .bA 60 hL2 ?_;simp[xc]
theorem adp(A:List Ob)(s:List Nat)(g:Option Nat)(hg:g=none\/g=some 0/\s=[])(n i:Nat)(hn:n<2^40)(l:List Nat)(hnl:n<=l.length)(hi:i<l.length)(hi2:i<2^40):∀up,
 AM.Reach Tryz.prog Γ (.cl wE [.bK kQ (.ptr (A.length+1) 0),.int .i64 i,.int .i64 n] up (hP A l s g)) (.back up (.bool (decide (i<(gB n l i).2))) (hP A (gB n l i).1 s g)):=by
 intro up;have h:=ae3 (Γ:=Γ) A s g hg up (hP A l s g).length n i hn (n-i) i l (aO _) (by omega) hnl hi;generalize hP A l s g=X at*;refine .bJ 60 Uq ?_;simp;refine .inLoop ?_;simp at h⊢;exact h
def gP(s:List Nat):Option Nat:=if s=[]then some 0 else none
theorem Qw(s:List Nat):gP s=none\/gP s=some 0/\s.tail=[]:=by
 unfold gP
 split
 ·rename_i h;exact .inr ⟨rfl,by rw[h];rfl⟩
 ·exact .inl rfl
theorem ac0(A:List Ob)(l s:List Nat)(x:Nat)(hx:x<2^40)(hl:l.length<2^40):∀up,AM.Reach Tryz.prog Γ (.cl Al [.ptr (A.length+1) 0,.bK av (.int .i64 x)] up (hP A l s none)) (.back up (.aE []) (hP A (l++[x]) s.tail (gP s))):=by
 intro up;have xr:=vz (A:=A) (l:=l) (s:=s) (g:=none);have xc:=o5 (A:=A) (l:=l) (s:=s) (g:=none)
 have b8:(l.length+1)*8<=140737488355328:=by omega
 have hr:A.length<(hP A l s none).length:=by rw[xZ];omega
 have hr1:A.length+1<(hP A l s none).length:=by rw[xZ];omega
 cases s with
 |nil=>
  have fin:((hP A l [] none).set A.length (.row 1 av (l.map iN++[.int .i64 x]) (some 0) true false)).set (A.length+1) (.cells [.sl A.length 0 (l.length+1)])=hP A (l++[x]) [] (some 0):=by
   simp[hP]
  rw[eR]at xr;rw[show gP []=some 0 from rfl];generalize hP A l [] none=X at*;obtain⟨_,xr'⟩:=dd.1 xr;obtain⟨_,xc'⟩:=dd.1 xc;refine .bJ 60 J_ ?_;simp(disch:=omega) [xr,xc,xr',xc',b8,eS];refine .eQ 60 ?_;simp(disch:=omega) [xr,xc,xr',xc',b8,eS];rw[fin];exact .refl _
 |cons a s=>
  have fin:((hP A l (a::s) none).set A.length (.row 1 av (l.map iN++(AV.int .i64 x)::s.map iN) none true false)).set (A.length+1) (.cells [.sl A.length 0 (l.length+1)])=hP A (l++[x]) s none:=by
   simp[hP]
  rw[show gP (a::s)=none from rfl]
  have hL:((l++a::s).map iN)=l.map iN++.int .i64 a::s.map iN:=by simp
  rw[hL]at xr
  have tk:(l.map iN++AV.int .i64 a::s.map iN).take l.length=l.map iN:=by rw[List.take_append_of_le_length (by simp)];simp
  have dr:(l.map iN++AV.int .i64 a::s.map iN).drop (l.length+1)=s.map iN:=by rw[v8,bT (by simp),show l.length+1-(l.map iN).length=1 by simp];rfl
  have ln:¬(l.length=(l.map iN++AV.int .i64 a::s.map iN).length):=by simp
  have ln2:l.length+1<=(l.map iN++AV.int .i64 a::s.map iN).length:=by simp
  have ln3:l.length<=(l.map iN++AV.int .i64 a::s.map iN).length:=by simp
  generalize hP A l (a::s) none=X at*;generalize(l.map iN++AV.int .i64 a::s.map iN)=L at*;obtain⟨_,xr'⟩:=dd.1 xr;obtain⟨_,xc'⟩:=dd.1 xc;refine .bJ 60 J_ ?_;simp(disch:=omega) [xr,xc,xr',xc',b8,eS];refine .eQ 60 ?_;simp(disch:=omega) [xr,xc,xr',xc',b8,eS,ln,ln2,ln3,tk,dr];rw[fin];exact .refl _
theorem aeh(A:List Ob)(l s:List Nat)(x:Nat)(hl:l.length<2^40):∀up,AM.Reach Tryz.prog Γ (.cl Ao [.ptr (A.length+1) 0] up (hP A (l++[x]) s none)) (.back up (.bK av (.int .i64 x)) (hP A l (x::s) none)):=by
 intro up;have xr:=vz (A:=A) (l:=l++[x]) (s:=s) (g:=none);have xc:=o5 (A:=A) (l:=l++[x]) (s:=s) (g:=none)
 have hr1:A.length+1<(hP A (l++[x]) s none).length:=by rw[xZ];omega
 have fin:(hP A (l++[x]) s none).set (A.length+1) (.cells [.sl A.length 0 l.length])=hP A l (x::s) none:=by simp[hP]
 have e:(l++[x]).length=l.length+1:=by simp
 rw[e]at xc
 have gx:(((l++[x])++s).map iN)[l.length]? =some (.int .i64 x):=by simp
 generalize hP A (l++[x]) s none=X at*;generalize hL:(((l++[x])++s).map iN)=L at*
 have hlL:l.length<L.length:=by rw[<-hL];simp
 obtain⟨_,gx'⟩:=dd.1 gx;obtain⟨_,xr'⟩:=dd.1 xr;obtain⟨_,xc'⟩:=dd.1 xc;refine .bJ 60 U2 ?_;simp(disch:=omega) [xr,xc,xr',xc',gx,gx',eS];rw[fin];exact .refl _
def fD(l:List Nat)(x:Nat):List Nat:=nz (l++[x]) l.length
theorem Pz(A:List Ob)(l s:List Nat)(x:Nat)(hx:x<2^40)(hl:l.length<2^39):∀up,AM.Reach Tryz.prog Γ (.cl wD [.bK kQ (.ptr (A.length+1) 0),.bK av (.int .i64 x)] up (hP A l s none)) (.back up (.aE []) (hP A (fD l x) s.tail (gP s))):=by
 intro up;have h1:=ac0 (Γ:=Γ) A l s x hx (by omega);have h2:=Cp (Γ:=Γ) A (l++[x]) s.tail (gP s) (Qw s);have h3:=afE (Γ:=Γ) A s.tail (gP s) (Qw s) l.length (l++[x]) (by simp) (by simp;omega);have hxc:=o5 (A:=A) (l:=l++[x]) (s:=s.tail) (g:=gP s)
 have e:(l++[x]).length=l.length+1:=by simp
 rw[e]at hxc h2;rw[fD];refine .bJ 60 Uo ?_;simp;refine .bA 60 h1 ?_;generalize hP A (l++[x]) s.tail (gP s)=X at*;simp[hxc];refine .bA 60 h2 ?_;simp(disch:=omega);refine .bA 60 h3 ?_;simp
def dk(l:List Nat):List Nat:=(gB (l.length-1) (swp l 0 (l.length-1)) 0).1
theorem BI(l:List Nat):(dk l).length=l.length:=by rw[dk,ZC _ _ _ _ (aO _),dQ]
theorem afv(A:List Ob)(l s:List Nat)(h0:0<l.length)(hl:l.length<2^39):∀up,AM.Reach Tryz.prog Γ (.cl Ah [.bK kQ (.ptr (A.length+1) 0)] up (hP A l s none)) (.back up (.bK av (.int .i64 ((dk l).getD (l.length-1) 0:Nat))) (hP A ((dk l).take (l.length-1)) ((dk l).getD (l.length-1) 0::s) none)):=by
 intro up;obtain⟨n,hn⟩:∃n,l.length=n+1:=⟨l.length-1,by omega⟩;have h1:=Cp (Γ:=Γ) A l s none (.inl rfl);have h2:=y5 (Γ:=Γ) A l s none (.inl rfl) h0 (show n<l.length by omega);have h3:=adp (Γ:=Γ) A s none (.inl rfl) n 0 (by omega) (swp l 0 n) (by rw[dQ];omega) (by rw[dQ];omega) (by omega)
 have e:(gB n (swp l 0 n) 0).1=dk l:=by rw[dk,hn];rfl
 have el:=BI l
 have e2:dk l=(dk l).take n++[(dk l).getD n 0]:=by
  have hlt:n<(dk l).length:=by omega
  have h5:(dk l).getD n 0=(dk l)[n]:=by rw[bj,aM hlt];rfl
  rw[h5]
  conv=>lhs;rw[<-mn n (dk l)]
  congr 1;rw[bZ hlt,bT (by omega)]
 have h4:=aeh (Γ:=Γ) A ((dk l).take n) s ((dk l).getD n 0) (by rw[eA];omega);have c1:=o5 (A:=A) (l:=l) (s:=s) (g:=none);have c2:=o5 (A:=A) (l:=swp l 0 n) (s:=s) (g:=none);have c3:=o5 (A:=A) (l:=dk l) (s:=s) (g:=none);rw[<-e2]at h4;rw[e]at h3;rw[hn]at h1 h2 c1;rw[dQ,hn]at c2;rw[el,hn]at c3
 have en:l.length-1=n:=by omega
 have hn40:n<2^40:=by omega
 rw[en];clear hn en h0 hl el e2 e;generalize(dk l).getD n 0=x at*;generalize(dk l).take n=l' at*;generalize hP A l s none=X at*;generalize hP A (swp l 0 n) s none=Y at*;generalize hP A (dk l) s none=Z at*;refine .bJ 60 Uv ?_;simp[c1];refine .bA 60 h1 ?_;simp(disch:=omega) [c1];simp at h2 h3;refine .bA 60 h2 ?_;simp(disch:=omega) [c2];refine .bA 60 h3 ?_;simp(disch:=omega) [c3];refine .bA 60 h4 ?_;simp
theorem Reach.afc{P:Program}{fn:FuncId}{k:List It}{ds:List dG}{kind:FK}{base:Nat}{up:List Fr}{h h':List Ob}{t:List AV}{d:Option Nat}{a:AO}{os:List AG}{l:Nat}{args:List AV}{v:AV}{C:AM.ar}
 (ha:az P Γ t h a=.yield l args)(hb:AM.Reach P Γ ((iR.yl l).cfg args (⟨.run,fn,.ops (⟨d,none,a⟩::os)::k,t,ds,kind,base⟩::up) h) (.back (⟨.run,fn,.ops (⟨d,none,a⟩::os)::k,t,ds,kind,base⟩::up) v h'))
 (hn:AM.Reach P Γ (.fr ⟨.run,fn,.ops os::k,aU t d v,ds,kind,base⟩ up h') C):AM.Reach P Γ (.fr ⟨.run,fn,.ops (⟨d,none,a⟩::os)::k,t,ds,kind,base⟩ up h) C:=by
 refine .bw 1 ?_;rw[afj,ha];exact .trans hb (.trans (.pop _) hn)
theorem Ld(pl:List (Bs×Nat)):∀(l:List Gt)(i:Nat)(nd b:List (List Nat)),(fA pl l i nd b).1.length=nd.length+l.length
 |[],_,_,_=>by simp[fA]
 |g::r,i,nd,b=>by rw[fA,Ld pl r];simp;omega
theorem LB(pl:List (Bs×Nat)):∀(l:List Gt)(i:Nat)(nd b:List (List Nat)),(fA pl l i nd b).2.length=b.length
 |[],_,_,_=>by simp[fA]
 |g::r,i,nd,b=>by rw[fA,LB pl r,xU]
theorem uo(c:Ct):(ee c).length=c.af.length:=by rw[ee,Ld];simp
theorem gQ(c:Ct):(bx c).length=c.af.length:=by rw[bx,LB];simp
def aC(c:Ct)(M:List Ob)(nd:List (List Nat)):List Ob:=hQ (gY c M) nd (bx c)++[.cells [.sl (M.length+7) 0 c.af.length,.sl (M.length+8) 0 c.af.length]]
def tC(c:Ct)(n:Nat)(nd:List (List Nat)):List Ob:=
 iq c n (.sl (n+7) 0 c.af.length) (.sl (n+8) 0 c.af.length)++(hF (n+6) c.af.length nd.length (bx c)++((bx c).map fH++nd.map ij))++[.cells [.sl (n+7) 0 c.af.length,.sl (n+8) 0 c.af.length]]
section
variable{c:Ct}{M:List Ob}{nd:List (List Nat)}
theorem y8:aC c M nd=M++tC c M.length nd:=by
 have hl:(M++iq c M.length (.sl (M.length+7) 0 c.af.length) (.sl (M.length+8) 0 c.af.length)).length=M.length+6:=by simp[iq]
 simp only[aC,hQ,tC,gY,hl,gQ,cM]
theorem pZ(hn:nd.length=c.af.length):(aC c M nd).length=M.length+(10+(c.af.length+c.af.length)):=by
 simp[aC,lT,kh,gQ,hn];omega
theorem Cy{i:Nat}(h:i<(hQ (gY c M) nd (bx c)).length):(aC c M nd)[i]? =(hQ (gY c M) nd (bx c))[i]? :=by rw[aC,cz h]
theorem Hm(hn:nd.length=c.af.length):(aC c M nd)[M.length+(9+(c.af.length+c.af.length))]? =some (.cells [.sl (M.length+7) 0 c.af.length,.sl (M.length+8) 0 c.af.length]):=by
 have hl:(hQ (gY c M) nd (bx c)).length=M.length+(9+(c.af.length+c.af.length)):=by rw[lT,kh,gQ,hn];omega
 rw[aC,df (by omega),hl,DC];rfl
theorem QV(hn:nd.length=c.af.length):(aC c M nd)[M.length+7]? =some (.row 1 nH (dC (M.length+6) c.af.length c.af.length) none (decide (c.af.length=0)) false):=by
 have h:=Hv (H:=gY c M) (nd:=nd) (b:=bx c);rw[kh,gQ,hn]at h
 rw[Cy (by rw[lT,kh];omega)];exact h
theorem afX:(aC c M nd)[M.length+8]? =some (.row 1 jq (fK (M.length+6) (bx c)) none (decide (c.af.length=0)) false):=by
 have h:=QH (H:=gY c M) (nd:=nd) (b:=bx c);rw[kh,gQ]at h
 rw[Cy (by rw[lT,kh];omega)];exact h
theorem afS{k:Nat}(hk:k<c.af.length):(aC c M nd)[M.length+(9+k)]? =some (fH ((bx c).getD k [])):=by
 have h:=Hl (H:=gY c M) (nd:=nd) (b:=bx c) (k:=k) (by rw[gQ];exact hk);rw[kh]at h
 rw[Cy (by rw[lT,kh,gQ];omega),show M.length+(9+k)=M.length+6+(3+k) by omega,h,bj,aM (by rw[gQ];exact hk)];rfl
theorem QS{i:Nat}(hn:nd.length=c.af.length)(hi:i<c.af.length):(aC c M nd)[M.length+(9+(c.af.length+i))]? =some (ij (nd.getD i [])):=by
 have h:=QO (H:=gY c M) (nd:=nd) (b:=bx c) (i:=i) (by omega);rw[kh,gQ]at h
 rw[Cy (by rw[lT,kh,gQ];omega),show M.length+(9+(c.af.length+i))=M.length+6+(3+(c.af.length+i)) by omega,h,bj,aM (by omega)];rfl
theorem acQ{i:Nat}(l:List Nat)(hn:nd.length=c.af.length)(hi:i<c.af.length):(aC c M nd).set (M.length+(9+(c.af.length+i))) (ij l)=aC c M (nd.set i l):=by
 have h:=O8 (H:=gY c M) (b:=bx c) (nd:=nd) (i:=i) l (by omega);rw[kh,gQ]at h;rw[aC,Aa _ _ (by rw[lT,kh,gQ];omega),show M.length+(9+(c.af.length+i))=M.length+6+(3+(c.af.length+i)) by omega,h,aC]
theorem aeS(c:Ct){n m:Nat}(h:n+8<m):cI m (iq c n (.sl (n+7) 0 c.af.length) (.sl (n+8) 0 c.af.length))=true:=by
 have h2:=vc m (cf c)
 simp[iq,h2];omega
theorem P3(hv:gp M){i m:Nat}(hi:M.length+(9+c.af.length)<=i):cH i m (aC c M nd)=true:=by
 have h1:=hv i m (by omega);have h2:=sO i m (cf c)
 have h3:cW i m (fK (M.length+6) (bx c))=true:=Gg _ fun j hj he=>by rw[gQ]at hj;omega
 have h4:=Fe (n:=M.length+6) (N:=c.af.length) (m:=nd.length) (i:=i) (q:=m);rw[y8,jk,tC,jk,jk,jk,jk,h1,Bm,BJ];simp[iq,hF,h2,h3,h4];omega
theorem aeZ{r m:Nat}(n:Nat)(hr:r<n):cH r m (tC c n nd)=true:=by
 have h2:=sO r m (cf c)
 have h3:cW r m (fK (n+6) (bx c))=true:=Gg _ fun j hj he=>by omega
 have h4:=Fe (n:=n+6) (N:=c.af.length) (m:=nd.length) (i:=r) (q:=m);rw[tC,jk,jk,jk,jk,Bm,BJ];simp[iq,hF,h2,h3,h4];omega
end
end Go.Proofs.YtchjijfjidlpjaaGreatDoor
