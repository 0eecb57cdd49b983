/- Factors: how many rows have a literal; rows without literals; an and of literals; the literal that most rows have. -/
import Derived.Test.YtchjijfjidlpjaaGreatDoorG
import Derived.Test.YtchjijfjidlpjaaGreatDoorF
import Derived.Test.YtchjijfjidlpjaaGreatDoorCode
import Derived.Test.YtchjijfjidlpjaaGreatDoorAMd
set_option linter.unusedSimpArgs false
set_option linter.unusedVariables false
namespace Go.Proofs.YtchjijfjidlpjaaGreatDoor
open Go.AM Go.Proofs
variable{Γ:Nat->Option AV}
def ie(x:Li):List Bs->Nat
 |[]=>0
 |s::r=>(if d_ x s=true then 1 else 0)+ie x r
theorem Kl(x:Li):∀r:List Bs,ie x r<=r.length
 |[]=>aU _
 |s::r=>by rw[ie,bC];have:=Kl x r;split<;>omega
def lW(l:List Li)(s:Bs):Bs:=l.foldl (fun b x=>b.set x.1 45) s
theorem Ef:∀(l:List Li)(s:Bs),(lW l s).length=s.length
 |[],s=>rfl
 |x::l,s=>by have:=Ef l (s.set x.1 45);simpa[lW]using this
def f_(l:List Li)(rows:List Bs):List Bs:=rows.map (lW l)
def AA:List Fm->Bool
 |[f]=>decide (f.kind=1)
 |_=>false
def oX(r:List Fm):List Fm:=if AA r=true then[]else r
def ur(n:Nat):List Fm:=if 1<n then[⟨3,0,n⟩]else[]
def kR(l:List Li)(r:List Fm):List Fm:=ur (l.length+min (oX r).length 1)++l.map fK++oX r
def uo(rows:List Bs)(b:Li×Nat)(x:Li):Li×Nat:=if b.2<ie x rows then(x,ie x rows)else b
def wv(rows:List Bs):Nat->Nat->Li×Nat->Li×Nat
 |0,_,b=>b
 |n+1,i,b=>wv rows n (i+1) (uo rows (uo rows b (i,49)) (i,48))
def fM(rows:List Bs)(n:Nat):Li×Nat:=wv rows n 0 ((0,0),0)
section
variable{φ:List Ob->Prop}{f:FuncId}{caps:List AV}{p:Bs->Bool}{l:List Bs}
def cP(p:Bs->Bool)(l:List Bs):List Bs:=l.filter fun x=>!p x
end
def ui(s:Bs):Bool:=s.all fun c=>decide (c=45)
def ff(rows:List Bs)(s:Bs):List Li:=(bJ s 0).filter fun x=>decide (ie x rows=rows.length)
def OL(rows:List Bs):List Fm:=⟨4,0,rows.length⟩::rows.flatMap fun s=>kR (bJ s 0) []
def ia:Nat->List Bs->List Fm
 |0,_=>[]
 |_+1,[]=>[⟨0,0,0⟩]
 |f+1,s::r=>
  if aZ ui (s::r)=true then[⟨1,0,0⟩]
  else if ff (s::r) s≠[]then kR (ff (s::r) s) (ia f (f_ (ff (s::r) s) (s::r)))
  else if(fM (s::r) s.length).2<2 then OL (s::r)
  else⟨4,0,2⟩::kR [(fM (s::r) s.length).1] (ia f (f_ [(fM (s::r) s.length).1] (cP (fun t=>!d_ (fM (s::r) s.length).1 t) (s::r))))++ia f (cP (d_ (fM (s::r) s.length).1) (s::r))
end Go.Proofs.YtchjijfjidlpjaaGreatDoor
namespace Go.Proofs.YtchjijfjidlpjaaGreatDoor
open Go.AM Go.Proofs
theorem lx{x:Li}:∀{s:Bs}{i:Nat},x∈bJ s i↔i<=x.1/\s[x.1-i]? =some x.2/\x.2≠45
 |[],i=>by simp[bJ]
 |c::s,i=>by
  have ih:=lx (x:=x) (s:=s) (i:=i+1)
  have e:i+1<=x.1->(c::s)[x.1-i]? =s[x.1-(i+1)]? :=fun h=>by rw[show x.1-i=(x.1-(i+1))+1 by omega];rfl
  rw[bJ]
  by_cases h:c=45
  ·rw[if_pos h,ih];constructor
   ·rintro⟨h1,h2,h3⟩;exact⟨by omega,by rw[e h1];exact h2,h3⟩
   ·rintro⟨h1,h2,h3⟩
    have h4:i+1<=x.1:=by
     refine xy fun hn=>h3 ?_
     rw[show x.1-i=0 by omega]at h2;simp only[pH,al]at h2;rw[<-h2,h]
    exact⟨h4,by rw[<-e h4];exact h2,h3⟩
  ·rw[if_neg h,bw,ih];constructor
   ·rintro(h1|⟨h1,h2,h3⟩)
    ·subst h1;exact⟨aU _,by simp,h⟩
    ·exact⟨by omega,by rw[e h1];exact h2,h3⟩
   ·rintro⟨h1,h2,h3⟩
    by_cases h4:x.1=i
    ·left;rw[show x.1-i=0 by omega]at h2;simp only[pH,al]at h2;exact Prod.ext h4 h2.symm
    ·right;exact⟨by omega,by rw[<-e (by omega)];exact h2,h3⟩
theorem Dj:∀(s:Bs)(i:Nat),(bJ s i).Pairwise (fun a b=>a.1≠b.1)
 |[],i=>.nil
 |c::s,i=>by
  rw[bJ]
  split
  ·exact Dj s (i+1)
  ·refine List.pairwise_cons.2 ⟨fun y hy=>?_,Dj s (i+1)⟩;have:=(lx.1 hy).1
   simp only;omega
theorem KG{x:Li}:∀{s:Bs}{i:Nat},x∈bJ s i->(bJ (s.set (x.1-i) 45) i).length+1=(bJ s i).length
 |[],i,h=>by simp[bJ]at h
 |c::s,i,h=>by
  have hm:=lx.1 h
  by_cases h4:x.1=i
  ·have h2:=hm.2.1;rw[show x.1-i=0 by omega]at h2⊢;simp only[pH,al]at h2
   have h5:¬c=45:=fun hc=>hm.2.2 (by rw[<-h2,hc])
   rw[xj,bJ,bJ,if_pos rfl,if_neg h5,bC]
  ·have h5:x∈bJ s (i+1):=lx.2 ⟨by omega,by have:=hm.2.1;rw[show x.1-i=(x.1-(i+1))+1 by omega]at this;exact this,hm.2.2⟩;have ih:=KG h5;rw[show x.1-i=(x.1-(i+1))+1 by omega,uP,bJ,bJ]
   split
   ·exact ih
   ·simp only[bC];omega
theorem Lq:∀(s:Bs)(i:Nat),(bJ s i).length<=s.length
 |[],i=>aU _
 |c::s,i=>by rw[bJ];have:=Lq s (i+1);split<;>simp only[bC]<;>omega
theorem JZ:∀(l:List Li)(s:Bs),l.Pairwise (fun a b=>a.1≠b.1)->(∀x∈l,x∈bJ s 0)->(bJ (lW l s) 0).length+l.length=(bJ s 0).length
 |[],s,_,_=>rfl
 |x::l,s,hp,hm=>by
  rw[List.pairwise_cons]at hp;have h1:=KG (hm x (by simp))
  have h2:=JZ l (s.set x.1 45) hp.2 fun y hy=>by
   have h3:=lx.1 (hm y (by simp[hy]));exact lx.2 ⟨by omega,by rw[dK (by have:=hp.1 y hy;omega)];exact h3.2.1,h3.2.2⟩
  simp only[bC];rw[xm]at h1;have:lW (x::l) s=lW l (s.set x.1 45):=rfl
  rw[this];omega
def cq:List Bs->Nat
 |[]=>0
 |s::r=>(bJ s 0).length+cq r
theorem Dw(l:List Li)(hp:l.Pairwise (fun a b=>a.1≠b.1)):∀rows:List Bs,(∀s∈rows,∀x∈l,x∈bJ s 0)->cq (f_ l rows)+rows.length*l.length=cq rows
 |[],_=>by simp[f_,cq]
 |s::r,h=>by
  have h1:=Dw l hp r fun t ht=>h t (by simp[ht])
  have h2:=JZ l s hp (h s (by simp));simp only[f_,cv,cq,bC]at h1⊢
  rw[Nat.succ_mul];omega
theorem JK(p:Bs->Bool):∀rows:List Bs,cq (cP p rows)+cq (cP (fun t=>!p t) rows)=cq rows
 |[]=>rfl
 |s::r=>by
  have ih:=JK p r
  cases h:p s<;>simp[cP,h,cq]at ih⊢<;>omega
theorem CN(x:Li):∀rows:List Bs,(cP (fun t=>!d_ x t) rows).length=ie x rows
 |[]=>rfl
 |s::r=>by
  have ih:=CN x r
  cases h:d_ x s<;>simp[cP,h,ie]at ih⊢<;>omega
theorem Jn{x:Li}:∀{rows:List Bs},ie x rows=rows.length↔∀s∈rows,x∈bJ s 0
 |[]=>by simp[ie]
 |s::r=>by
  have ih:=Jn (x:=x) (rows:=r);have hle:=Kl x r;rw[ie,bC]
  by_cases h:d_ x s=true
  ·rw[if_pos h]
   have h':x∈bJ s 0:=by simpa[d_]using h
   simp only[bw,HV];rw[<-ih];exact⟨fun h1=>⟨h',by omega⟩,fun h1=>by omega⟩
  ·rw[if_neg h]
   have h':¬x∈bJ s 0:=by simpa[d_]using h
   exact⟨fun h1=>by omega,fun h1=>absurd (h1 s (by simp)) h'⟩
theorem zQ{x:Li}{rows:List Bs}{s:Bs}(h:s∈cP (fun t=>!d_ x t) rows):s∈rows/\x∈bJ s 0:=by
 simp only[cP,dh,Bool.not_not]at h;exact⟨h.1,by simpa[d_]using h.2⟩
theorem LG(rows:List Bs){b:Li×Nat}(hb:0<b.2->b.2=ie b.1 rows)(x:Li):0<(uo rows b x).2->(uo rows b x).2=ie (uo rows b x).1 rows:=by
 unfold uo
 split
 ·intro _;rfl
 ·exact hb
theorem L6(rows:List Bs):∀(n i:Nat)(b:Li×Nat),(0<b.2->b.2=ie b.1 rows)->0<(wv rows n i b).2->(wv rows n i b).2=ie (wv rows n i b).1 rows
 |0,_,b,hb=>hb
 |n+1,i,b,hb=>L6 rows n (i+1) _ (LG rows (LG rows hb _) _)
theorem L4(rows:List Bs)(n:Nat):0<(fM rows n).2->(fM rows n).2=ie (fM rows n).1 rows:=L6 rows n 0 _ (by simp)
theorem I1(rows:List Bs)(s:Bs):(ff rows s).Pairwise (fun a b=>a.1≠b.1):=(Dj s 0).filter _
theorem C3{rows:List Bs}{s:Bs}{x:Li}(h:x∈ff rows s):∀t∈rows,x∈bJ t 0:=by
 simp only[ff,dh,a8]at h;exact Jn.1 h.2
theorem DO{s:Bs}:ui s=true↔bJ s 0=[]:=by
 constructor
 ·intro h
  refine Q9.2 fun x hx=>?_
  have:=lx.1 hx;rw[ui,dL]at h;have h2:=h x.2 (fQ this.2.1);exact this.2.2 (by simpa using h2)
 ·intro h;rw[ui,dL];intro c hc;obtain⟨i,hi⟩:=List.getElem?_of_mem hc;refine xz (xy fun hn=>?_);have:(i,c)∈bJ s 0:=lx.2 ⟨by omega,by simpa using hi,hn⟩;rw[h]at this
  cases this
theorem WV(r:List Fm):(oX r).length<=r.length:=by unfold oX;split<;>simp
theorem V5(n:Nat):(ur n).length<=1:=by unfold ur;split<;>simp
theorem Ee(l:List Li)(r:List Fm):(kR l r).length<=1+l.length+r.length:=by
 have h1:=WV r;have h2:=V5 (l.length+min (oX r).length 1)
 simp only[kR,bp,iB];omega
theorem MD:∀rows:List Bs,(rows.flatMap fun s=>kR (bJ s 0) []).length<=rows.length+cq rows
 |[]=>by simp
 |s::r=>by
  have ih:=MD r;have h:=Ee (bJ s 0) [];simp only[nn,bp,bC,cq,cN]at h ih⊢;omega
theorem KB:∀rows:List Bs,aZ ui rows=false->rows.length<=cq rows
 |[],_=>by simp
 |s::r,h=>by
  rw[jM,jI]at h;have ih:=KB r h.2
  have h1:0<(bJ s 0).length:=by
   refine xy fun hn=>?_
   have:=DO.2 (k_.1 (by omega:(bJ s 0).length=0))
   rw[h.1]at this;cases this
  simp only[bC,cq];omega
theorem IY{s:Bs}{r:List Bs}(h:ff (s::r) s≠[]):cq (f_ (ff (s::r) s) (s::r))+(ff (s::r) s).length<=cq (s::r):=by
 have h1:=Dw (ff (s::r) s) (I1 _ _) (s::r) fun t ht x hx=>C3 hx t ht
 have h2:(ff (s::r) s).length<=(s::r).length*(ff (s::r) s).length:=Nat.le_mul_of_pos_left _ (by simp);omega
theorem J_{s:Bs}{r:List Bs}(h:¬(fM (s::r) s.length).2<2):
 cq (f_ [(fM (s::r) s.length).1] (cP (fun t=>!d_ (fM (s::r) s.length).1 t) (s::r)))+cq (cP (d_ (fM (s::r) s.length).1) (s::r))+2<=cq (s::r):=by
 have h0:=L4 (s::r) s.length (by omega);generalize(fM (s::r) s.length).1=x at*
 have h1:=Dw [x] (by simp) (cP (fun t=>!d_ x t) (s::r)) fun t ht y hy=>by simp only[cG]at hy;subst hy;exact(zQ ht).2
 have h2:=JK (d_ x) (s::r);have h3:=CN x (s::r);simp only[bC,cN,Nat.mul_one,gY]at h1;omega
theorem yA:∀(f:Nat)(rows:List Bs),(ia f rows).length<=3*cq rows+1
 |0,_=>by simp[ia]
 |_+1,[]=>by simp[ia]
 |f+1,s::r=>by
  rw[ia]
  split
  ·simp
  ·rename_i hfr
   split
   ·rename_i hc;have h1:=yA f (f_ (ff (s::r) s) (s::r));have h2:=IY hc;have h3:=Ee (ff (s::r) s) (ia f (f_ (ff (s::r) s) (s::r)));have h4:0<(ff (s::r) s).length:=uW.2 hc;omega
   ·split
    ·have h1:=MD (s::r);have h2:=KB (s::r) (by simpa using hfr)
     simp only[OL,bC]at h1 h2⊢;omega
    ·rename_i hm;have h0:=J_ hm;have h1:=yA f (f_ [(fM (s::r) s.length).1] (cP (fun t=>!d_ (fM (s::r) s.length).1 t) (s::r)));have h2:=yA f (cP (d_ (fM (s::r) s.length).1) (s::r));have h3:=Ee [(fM (s::r) s.length).1] (ia f (f_ [(fM (s::r) s.length).1] (cP (fun t=>!d_ (fM (s::r) s.length).1 t) (s::r))));simp only[bC,bp,cN]at h3⊢;omega
end Go.Proofs.YtchjijfjidlpjaaGreatDoor
namespace Go.Proofs.YtchjijfjidlpjaaGreatDoor
open Go.AM Go.Proofs
variable{Γ:Nat->Option AV}
theorem LU{n:Nat}:∀{rows:List Bs},(∀s∈rows,s.length=n)->cq rows<=rows.length*n
 |[],_=>by simp[cq]
 |s::r,h=>by
  have h1:=Lq s 0
  have h2:=LU (rows:=r) fun t ht=>h t (by simp[ht])
  have h3:=h s (by simp)
  simp only[cq,bC,Nat.succ_mul];omega
theorem I5(l:List (List UInt8))(s:List UInt8){k:Nat}(hk:Kd 1 k l)(hl:l.length<2^40):aN Tryz.prog Γ xB [.list false k (l.map .str),.str s] (.bool (l.contains s)):=by
 refine .run 60 Rj (by simp) ?_;simp;refine .call 60 (by simp) (LV l s hk hl) ?_;have e:=D5 s l 0;simp[e];exact .back (by simp)
def gE:List Bs->List Bs->List Bs
 |a,[]=>a
 |a,s::r=>gE (if a.contains s=true then a else a++[s]) r
def tX(n:Int)(rows:List Bs):Bool:=decide (n<0)||(decide (8<n)||(decide (128<rows.length)||aZ (fun s=>!uz n.toNat s) rows))
def sb(rows:List Bs)(n:Int):List Fm:=if tX n rows=true then[]else ia (cq (gE [] rows)+1) (gE [] rows)
theorem zl{t:Bs}:∀(r a:List Bs),t∈gE a r↔t∈a\/t∈r
 |[],a=>by simp[gE]
 |s::r,a=>by
  rw[gE,zl r]
  by_cases h:a.contains s=true
  ·rw[if_pos h]
   have h':s∈a:=by simpa using h
   simp only[bw];constructor
   ·rintro(h1|h1)
    ·exact .inl h1
    ·exact .inr (.inr h1)
   ·rintro(h1|h1|h1)
    ·exact .inl h1
    ·subst h1;exact .inl h'
    ·exact .inr h1
  ·rw[if_neg h];simp only[ba,cG,bw,or_assoc,mr,false_or]
end Go.Proofs.YtchjijfjidlpjaaGreatDoor
namespace Go.Proofs.YtchjijfjidlpjaaGreatDoor
open Go.AM Go.Proofs
section
variable{n:Int}{val:Int->Bool}
def kZ(n:Int)(val:Int->Bool)(l:List Fm)(v:Bool):Prop:=∀rest fuel,(l++rest).length<=fuel->jr n val fuel (l++rest)=some (v,rest)
theorem kZ.pos{l:List Fm}{v:Bool}(h:kZ n val l v):0<l.length:=by
 cases l with
 |nil=>
  have:=h [] 0 (by simp)
  cases this
 |cons _ _=>simp
theorem ED{x:Li}(h:(x.1:Int)<n):kZ n val [fK x] (val (fK x).lit):=by
 intro rest fuel hf
 cases fuel with
 |zero=>simp at hf
 |succ fuel=>
  have hok:ey n (fK x)=true:=by
   unfold ey fK
   by_cases hx:x.2=48
   ·simp[hx];omega
   ·simp[hx];omega
  have hk:(fK x).kind=2:=rfl;simp[jr,hok,hk]
theorem abc:kZ n val [⟨0,0,0⟩] false:=by
 intro rest fuel hf
 cases fuel with
 |zero=>simp at hf
 |succ fuel=>simp[jr,ey,iJ]
theorem aae:kZ n val [⟨1,0,0⟩] true:=by
 intro rest fuel hf
 cases fuel with
 |zero=>simp at hf
 |succ fuel=>simp[jr,ey,iJ]
def mP(a:Bool):List (List Fm×Bool)->Bool->Bool
 |[],v=>v
 |k::ks,v=>mP a ks (if a then k.2&&v else k.2||v)
theorem DD:∀(ks:List (List Fm×Bool))(v:Bool),mP true ks v=(v&&ks.all (·.2))
 |[],v=>by simp[mP]
 |k::ks,v=>by
  show mP true ks (k.2&&v)=_
  rw[DD ks,sx,Bool.and_comm k.2 v,pM]
theorem Ej:∀(ks:List (List Fm×Bool))(v:Bool),mP false ks v=(v||ks.any (·.2))
 |[],v=>by simp[mP]
 |k::ks,v=>by
  show mP false ks (k.2||v)=_
  rw[Ej ks,List.any_cons,Bool.or_comm k.2 v,Bool.or_assoc]
theorem LC(a:Bool)(fuel:Nat):∀(ks:List (List Fm×Bool))(v:Bool)(rest:List Fm),(∀k∈ks,kZ n val k.1 k.2)->(ks.flatMap (·.1)++rest).length<=fuel->iJ (jr n val fuel) a ks.length v (ks.flatMap (·.1)++rest)=some (mP a ks v,rest)
 |[],v,rest,_,_=>by simp[iJ,mP]
 |k::ks,v,rest,h,hf=>by
  simp only[nn,c8,bp]at hf;have h1:=h k (by simp) (ks.flatMap (·.1)++rest) fuel (by simp only[bp];omega);simp only[bC,iJ,nn,c8,h1,mP];exact LC a fuel ks _ rest (fun k' hk'=>h k' (by simp[hk'])) (by simp only[bp];omega)
theorem zP(kd:Int)(hkd:kd=3\/kd=4)(ks:List (List Fm×Bool))(h2:2<=ks.length)(h:∀k∈ks,kZ n val k.1 k.2):kZ n val (⟨kd,0,ks.length⟩::ks.flatMap (·.1)) (mP (decide (kd=3)) ks (decide (kd=3))):=by
 intro rest fuel hf
 cases fuel with
 |zero=>simp at hf
 |succ fuel=>
  have hok:ey n ⟨kd,0,ks.length⟩=true:=by
   unfold ey;rw[if_neg (by simp only;omega),if_pos hkd]
   simp;omega
  have h3:¬kd=2:=by omega
  have h4:¬kd=1:=by omega
  have hk:=LC (n:=n) (val:=val) (decide (kd=3)) fuel ks (decide (kd=3)) rest h (by simp at hf⊢;omega);simp only[ek,jr,hok,bY,h3,cE,cZ,h4,pL,lp];exact hk
theorem VJ{r:List Fm}{v:Bool}(h:kZ n val r v)(ht:AA r=true):v=true:=by
 match r,ht with
 |[f],ht=>
  have hk:f.kind=1:=by simpa[AA]using ht
  have h1:=h [] 1 (by simp);simp only[eL,jr]at h1
  split at h1
  ·rename_i hok
   have h0:f.kids=0:=by
    simp only[ey,hk]at hok;simp at hok;exact hok.2
   simp[hk,h0,iJ]at h1;exact h1
  ·cases h1
theorem Ez(l:List Li)(hl:∀x∈l,(x.1:Int)<n)(h0:l≠[])(r:List Fm)(v:Bool)(hr:r=[]/\v=true\/kZ n val r v):kZ n val (kR l r) ((l.all fun x=>val (fK x).lit)&&v):=by
 have hlm:∀l:List Li,(l.map fun x=>([fK x],val (fK x).lit)).flatMap (·.1)=l.map fK:=fun l=>by
  induction l with
  |nil=>rfl
  |cons x l ih=>simp only[cv,nn,ih];rfl
 have hl1:0<l.length:=uW.2 h0
 have hrest:(oX r=[]/\v=true)\/(oX r=r/\0<r.length/\kZ n val r v):=by
  rcases hr with⟨rfl,rfl⟩|hr
  ·left;exact⟨rfl,rfl⟩
  ·by_cases ht:AA r=true
   ·left;exact⟨by rw[oX,if_pos ht],VJ hr ht⟩
   ·right;exact⟨by rw[oX,if_neg ht],hr.pos,hr⟩
 unfold kR
 rcases hrest with⟨e,rfl⟩|⟨e,hp,hr⟩
 ·rw[e,pF];simp only[cN,Nat.zero_min,jd,eL]
  by_cases h1:1<l.length
  ·have hh:=zP (n:=n) (val:=val) 3 (.inl rfl) (l.map fun x=>([fK x],val (fK x).lit)) (by simp;omega) fun k hk=>by
    obtain⟨x,h2,rfl⟩:=db.1 hk;exact ED (hl x h2)
   rw[hlm,show decide ((3:Int)=3)=true from rfl,DD]at hh;simp only[ur,if_pos h1];simpa[Function.comp_def]using hh
  ·obtain⟨x,rfl⟩:∃x,l=[x]:=by
    match l,hl1,h1 with
    |[x],_,_=>exact⟨x,rfl⟩
    |x::y::l,_,h1=>simp at h1
   have hh:=ED (val:=val) (hl x (by simp));simpa[ur]using hh
 ·rw[e]
  have hm:min r.length 1=1:=by omega
  rw[hm]
  have h1:1<l.length+1:=by omega
  have hh:=zP (n:=n) (val:=val) 3 (.inl rfl) ((l.map fun x=>([fK x],val (fK x).lit))++[(r,v)]) (by simp;omega) fun k hk=>by
   simp only[ba,cG]at hk
   rcases hk with hk|rfl
   ·obtain⟨x,h2,rfl⟩:=db.1 hk;exact ED (hl x h2)
   ·exact hr
  rw[List.flatMap_append,hlm,show decide ((3:Int)=3)=true from rfl,DD]at hh;simp only[ur,if_pos h1];simpa[Function.comp_def]using hh
end
def eo(val:Int->Bool)(s:Bs):Bool:=(bJ s 0).all fun x=>val (fK x).lit
theorem Yd(val:Int->Bool):∀(l:List Li)(s:Bs),l.Pairwise (fun a b=>a.1≠b.1)->(∀x∈l,x∈bJ s 0)->((l.all fun x=>val (fK x).lit)&&eo val (lW l s))=eo val s:=by
 intro l s hp hm
 have h1:∀y:Li,y∈bJ (lW l s) 0↔y∈bJ s 0/\∀x∈l,x.1≠y.1:=by
  clear hp hm
  induction l generalizing s with
  |nil=>intro y;simp[lW]
  |cons x l ih=>
   intro y;have e:lW (x::l) s=lW l (s.set x.1 45):=rfl;rw[e,ih];simp only[bw,HV,lx,xm];constructor
   ·rintro⟨⟨_,h2,h3⟩,h4⟩
    by_cases h5:x.1=y.1
    ·rw[h5]at h2
     by_cases h6:y.1<s.length
     ·rw[gn h6]at h2;exact absurd (Option.some.inj h2).symm h3
     ·rw[mh (by simp;omega)]at h2;cases h2
    ·rw[dK h5]at h2;exact⟨⟨by omega,h2,h3⟩,h5,h4⟩
   ·rintro⟨⟨_,h2,h3⟩,h5,h4⟩
    exact⟨⟨by omega,by rw[dK h5];exact h2,h3⟩,h4⟩
 rw[gL];simp only[eo,aC,dL,h1];constructor
 ·rintro⟨h2,h3⟩ y hy
  by_cases h4:∀x∈l,x.1≠y.1
  ·exact h3 y ⟨hy,h4⟩
  ·have h4:∃x,x∈l/\x.1=y.1:=by
    refine xy fun hn=>h4 fun x hx he=>hn ⟨x,hx,he⟩
   obtain⟨x,hx,he⟩:=h4;have h5:=lx.1 (hm x hx);have h6:=lx.1 hy;rw[he]at h5;have h7:x.2=y.2:=Option.some.inj (h5.2.1.symm.trans h6.2.1);have h8:x=y:=Prod.ext he h7
   rw[<-h8];exact h2 x hx
 ·intro h2;exact⟨fun x hx=>h2 x (hm x hx),fun y hy=>h2 y hy.1⟩
theorem D1(val:Int->Bool)(l:List Li)(hp:l.Pairwise (fun a b=>a.1≠b.1)):∀rows:List Bs,(∀s∈rows,∀x∈l,x∈bJ s 0)->((l.all fun x=>val (fK x).lit)&&aZ (eo val) (f_ l rows))=aZ (eo val) rows
 |[],_=>by simp[f_]
 |s::r,h=>by
  have h1:=Yd val l s hp (h s (by simp))
  have h2:=D1 val l hp r fun t ht=>h t (by simp[ht])
  have e:f_ l (s::r)=lW l s::f_ l r:=rfl;rw[e,jM,jM,<-h1,<-h2]
  cases(l.all fun x=>val (fK x).lit)<;>simp
theorem KS(val:Int->Bool)(p:Bs->Bool):∀rows:List Bs,(aZ (eo val) (cP (fun t=>!p t) rows)||aZ (eo val) (cP p rows))=aZ (eo val) rows
 |[]=>rfl
 |s::r=>by
  have ih:=KS val p r;rw[jM,<-ih]
  cases h:p s
  ·have e1:cP (fun t=>!p t) (s::r)=cP (fun t=>!p t) r:=by simp[cP,h]
   have e2:cP p (s::r)=s::cP p r:=by simp[cP,h]
   rw[e1,e2,jM]
   cases eo val s<;>simp
  ·have e1:cP (fun t=>!p t) (s::r)=s::cP (fun t=>!p t) r:=by simp[cP,h]
   have e2:cP p (s::r)=cP p r:=by simp[cP,h]
   rw[e1,e2,jM]
   cases eo val s<;>simp
theorem Wq(val:Int->Bool){rows:List Bs}(h:aZ ui rows=true):aZ (eo val) rows=true:=by
 obtain⟨s,h1,h2⟩:=zC.1 h;exact zC.2 ⟨s,h1,by rw[eo,DO.1 h2];rfl⟩
theorem zh(N:Nat)(val:Int->Bool):∀(f:Nat)(rows:List Bs),cq rows<f->(∀s∈rows,s.length=N)->kZ N val (ia f rows) (aZ (eo val) rows)
 |0,rows,h,_=>by omega
 |f+1,[],_,_=>by rw[ia];exact abc
 |f+1,s::r,h,hN=>by
  rw[ia]
  have hlt:∀x:Li,∀t∈s::r,x∈bJ t 0->(x.1:Int)<N:=fun x t ht hx=>by
   have h1:=(pJ.1 (lx.1 hx).2.1).1;have:=hN t ht;omega
  split
  ·rename_i hfr;rw[Wq val hfr];exact aae
  ·rename_i hfr
   split
   ·rename_i hc;have h1:=IY hc;have h4:0<(ff (s::r) s).length:=uW.2 hc
    have hd:=D1 val (ff (s::r) s) (I1 _ _) (s::r) fun t ht x hx=>C3 hx t ht
    have ih:=zh N val f (f_ (ff (s::r) s) (s::r)) (by omega) fun t ht=>by
     simp only[f_,db]at ht;obtain⟨t0,h5,rfl⟩:=ht
     rw[Ef];exact hN _ h5
    rw[<-hd];exact Ez _ (fun x hx=>hlt x s (by simp) (C3 hx s (by simp))) hc _ _ (.inr ih)
   ·split
    ·have hno:∀t∈s::r,bJ t 0≠[]:=fun t ht he=>by
      have h1:=ji.1 (by simpa using hfr) t ht
      rw[DO.2 he]at h1;cases h1
     have hfm:∀rows:List Bs,(rows.map fun t=>(kR (bJ t 0) [],eo val t)).flatMap (·.1)=rows.flatMap fun s=>kR (bJ s 0) []:=fun rows=>by
      induction rows with
      |nil=>rfl
      |cons t r ih=>simp only[cv,nn,ih]
     have h2:2<=(s::r).length:=by
      rename_i hc0 hm
      have hc0:ff (s::r) s=[]:=by simpa using hc0
      cases r with
      |nil=>
       exfalso
       have:ff [s] s=bJ s 0:=by
        unfold ff;rw[HO];intro x hx;simp[ie,d_,hx]
       rw[hc0]at this;exact hno s (by simp) this.symm
      |cons t r=>simp
     have hh:=zP (n:=N) (val:=val) 4 (.inr rfl) ((s::r).map fun t=>(kR (bJ t 0) [],eo val t)) (by simpa using h2) fun k hk=>by
      obtain⟨t,h5,rfl⟩:=db.1 hk;have:=Ez (n:=N) (val:=val) (bJ t 0) (fun x hx=>hlt x t h5 hx) (hno t h5) [] true (.inl ⟨rfl,rfl⟩);simpa[eo]using this
     rw[hfm]at hh
     have e:decide ((4:Int)=3)=false:=by decide
     rw[e,Ej]at hh;simp only[iB,List.any_map]at hh
     have e2:(false||(s::r).any ((fun x=>x.2)∘fun t=>(kR (bJ t 0) [],eo val t)))=aZ (eo val) (s::r):=by rw[lp];rfl
     rw[e2]at hh;exact hh
    ·rename_i hm;have h0:=L4 (s::r) s.length (by omega);have h1:=J_ hm;have h3:=CN (fM (s::r) s.length).1 (s::r);generalize(fM (s::r) s.length).1=x at*;obtain⟨t0,h2⟩:=HN (l:=cP (fun t=>!d_ x t) (s::r)) (by omega);have hx0:=zQ h2
     have ih1:=zh N val f (f_ [x] (cP (fun t=>!d_ x t) (s::r))) (by omega) fun t ht=>by
      simp only[f_,db]at ht;obtain⟨t0,h5,rfl⟩:=ht
      rw[Ef];exact hN _ (zQ h5).1
     have ih2:=zh N val f (cP (d_ x) (s::r)) (by omega) fun t ht=>hN _ (dh.1 ht).1
     have hd:=D1 val [x] (by simp) (cP (fun t=>!d_ x t) (s::r)) fun t ht y hy=>by
      simp only[cG]at hy;subst hy;exact(zQ ht).2
     have hk:=KS val (d_ x) (s::r);have ha:=Ez (n:=N) (val:=val) [x] (fun y hy=>by simp only[cG]at hy;subst hy;exact hlt y t0 hx0.1 hx0.2) (by simp) _ _ (.inr ih1);rw[hd]at ha;rw[<-hk];generalize aZ (eo val) (cP (fun t=>!d_ x t) (s::r))=va at*;generalize aZ (eo val) (cP (d_ x) (s::r))=vb at*;generalize kR [x] (ia f (f_ [x] (cP (fun t=>!d_ x t) (s::r))))=A at*;generalize ia f (cP (d_ x) (s::r))=B at*
     have hh:=zP (n:=N) (val:=val) 4 (.inr rfl) [(A,va),(B,vb)] (by simp) (by
      intro k hk;simp only[bw,mr,mi]at hk
      rcases hk with rfl|rfl
      ·exact ha
      ·exact ih2)
     have e:decide ((4:Int)=3)=false:=by decide
     rw[e,Ej]at hh;simpa using hh
end Go.Proofs.YtchjijfjidlpjaaGreatDoor
namespace Go.Proofs.YtchjijfjidlpjaaGreatDoor
open Go.AM Go.Proofs
variable{Γ:Nat->Option AV}
theorem Ir:∀a b:List Bs,cq (a++b)=cq a+cq b
 |[],b=>by simp[cq]
 |s::a,b=>by rw[ek,cq,cq,Ir a b];omega
theorem Je:∀(r a:List Bs),cq (gE a r)<=cq a+cq r
 |[],a=>by simp[gE,cq]
 |s::r,a=>by
  rw[gE];have h:=Je r (if a.contains s=true then a else a++[s])
  have h2:cq (if a.contains s=true then a else a++[s])<=cq a+(bJ s 0).length:=by
   split
   ·omega
   ·rw[Ir];simp[cq]
  rw[cq];omega
theorem Lo{rows:List Bs}{n:Int}(h:tX n rows=false):∃m:Nat,n=m/\m<=8/\rows.length<=128/\∀s∈rows,s.all lZ=true/\s.length=m:=by
 simp only[tX,jI,gK]at h;obtain⟨h1,h2,h3,h4⟩:=h;obtain⟨m,rfl⟩:=cS (show 0<=n by omega);refine⟨m,rfl,by omega,by omega,fun s hs=>?_⟩;have:=ji.1 h4 s hs;simpa[uz]using this
theorem Y6{rows:List Bs}{m:Nat}(hm:m<=8)(hl:rows.length<=128)(hs:∀s∈rows,s.length=m):cq (gE [] rows)<=1024:=by
 have h1:=Je rows [];have h2:=LU hs;have h3:rows.length*m<=128*8:=Nat.mul_le_mul hl hm;have h0:cq []=0:=rfl;omega
theorem X'{rows:List Bs}{n:Int}(h:tX n rows=false)(val:Int->Bool):Fo n val (sb rows n)=some (aZ (eo val) rows):=by
 obtain⟨m,rfl,h1,h2,h3⟩:=Lo h
 have hc:=Y6 h1 h2 fun s hs=>(h3 s hs).2
 have hl:=yA (cq (gE [] rows)+1) (gE [] rows)
 have hr:=zh m val (cq (gE [] rows)+1) (gE [] rows) (by omega) fun s hs=>(h3 s (by simpa using(zl rows []).1 hs)).2
 have he:aZ (eo val) (gE [] rows)=aZ (eo val) rows:=by
  rw[gL,zC,zC];constructor
  ·rintro⟨s,h4,h5⟩;exact⟨s,by simpa using(zl rows []).1 h4,h5⟩
  ·rintro⟨s,h4,h5⟩;exact⟨s,(zl rows []).2 (.inr h4),h5⟩
 have h4:=hr [] (ia (cq (gE [] rows)+1) (gE [] rows)).length (by simp);rw[eL,he]at h4
 have e0:sb rows m=ia (cq (gE [] rows)+1) (gE [] rows):=by unfold sb;rw[h];rfl
 rw[e0];unfold Fo;rw[if_pos ⟨by omega,by omega,by omega⟩,h4]
def gH:List Bool->Nat
 |[]=>0
 |v::l=>(if v=true then 1 else 0)+gH l
theorem MW:∀l:List Bool,gH l<=l.length
 |[]=>aU _
 |v::l=>by rw[gH,bC];have:=MW l;split<;>omega
def uk:Bs->List Bool->Bool
 |c::s,v::l=>(decide (c=45)||decide (decide (c=49)=v))&&uk s l
 |_,_=>true
def B0(op:Int)(l:List Bool):Bool:=if op=0\/op=1 then false else if op=2\/op=3\/op=4\/op=5 then decide (gH l=l.length)else if op=6\/op=7 then decide (0<gH l)else decide (gH l%2=1)
def Bd(op:Int):Bool:=decide (op=1\/op=3\/op=5\/op=7\/op=9)
def aa6(g:Gt)(ins:List Bool):Bool:=iM g&&decide (ins.length=g.ins.length)
def wA(g:Gt)(ins:List Bool):Bool:=if g.op=10 then !decide (aZ (fun s=>uk s ins) g.rows=g.off)else !decide (B0 g.op ins=Bd g.op)
def abI(g:Gt)(ins:List Bool):Bool:=aa6 g ins&&wA g ins
def wC(n:Int)(x:Gr)(ins:List Nat):Gr×Option Nat:=if n<=1 then(x,some 0)else if n<=5 then qt 0 x ins else if n<=7 then iT (·^^^1) (qt 1 x ins)else Fq x ins
def Nw(x:Gr)(g:Gt)(ins:List Nat):Gr×Option (Nat×List Fm):=mT ins (sb g.rows g.ins.length).length x (sb g.rows g.ins.length)
def wq(x:Gr)(g:Gt)(ins:List Nat):Gr×Option Nat:=
 if 0<=g.op/\g.op<=9 then iT (·^^^(g.op%2).toNat) (wC g.op x ins)else iT (fun p=>if g.off=true then p.1^^^1 else p.1) (Nw x g ins)
theorem Wn(n:Int){x:Gr}(ok:x.Ok){ins:List Nat}(hi:∀a∈ins,a<x.lits):iW x (wC n x ins):=by
 unfold wC
 split
 ·exact⟨.refl ok,fun d hd=>by cases hd;exact zW x⟩
 ·split
  ·exact y6 (by omega) ok hi
  ·split
   ·exact(y6 (by omega) ok hi).A3 (by omega)
   ·exact UM ok hi
theorem VC{x:Gr}(ok:x.Ok)(g:Gt){ins:List Nat}(hi:∀a∈ins,a<x.lits):iW x (wq x g ins):=by
 unfold wq
 split
 ·exact(Wn _ ok hi).A3 (by omega)
 ·have h:=vC ins (sb g.rows g.ins.length).length x (sb g.rows g.ins.length) ok hi;refine⟨h.1,fun d hd=>?_⟩;simp only[iT,bN]at hd;obtain⟨p,hp,rfl⟩:=hd;have:=h.2 p hp
  split
  ·exact Mi (n:=(Nw x g ins).1.all) this
  ·exact this
theorem Z2{g:Gt}(h:iM g=true):(0<=g.op/\g.op<=9/\jB g.op g.ins.length=true)\/(g.op=10/\g.ins.length<=8/\tX g.ins.length g.rows=false):=by
 unfold iM at h
 by_cases h10:g.op=10
 ·rw[if_pos h10]at h;simp only[aC,a8,je]at h;refine .inr ⟨h10,h.1,?_⟩;unfold tX;simp only[jI,gK,cZ];exact⟨by omega,by omega,by omega,h.2.2⟩
 ·rw[if_neg h10]at h;simp only[aC]at h;have h2:=h.2;refine .inl ?_;unfold jB at h2
  split at h2
  ·exact⟨by omega,by omega,h.2⟩
  ·split at h2
   ·exact⟨by omega,by omega,h.2⟩
   ·split at h2
    ·exact⟨by omega,by omega,h.2⟩
    ·cases h2
theorem aaE{op:Int}{n:Nat}(h:jB op n=true)(h2:2<=op):n≠0:=by
 unfold jB at h
 rintro rfl
 split at h
 ·simp at h
 ·rw[if_neg (by omega)]at h
  split at h
  ·simp at h
  ·cases h
def o7(pl:List (Bs×Nat)):List Gt->Nat->List (List Nat)->List (List Nat)->List (List Nat)×List (List Nat)
 |[],_,nd,b=>(nd,b)
 |g::r,i,nd,b=>o7 pl r (i+1) (nd++[gD pl g.ins []]) (qF pl i g.ins [] b)
theorem Eu(pl:List (Bs×Nat))(i:Nat):∀(l:List Bs)(a:List Nat)(b:List (List Nat)),(qF pl i l a b).length=b.length
 |[],_,_=>rfl
 |s::r,a,b=>by
  rw[qF]
  split
  ·exact Eu pl i r a b
  ·rw[Eu];split<;>simp
def wh(c:Ct):List (List Nat):=(o7 (jD c) c.af 0 [] (List.replicate c.af.length [])).1
def nU(c:Ct):List (List Nat):=(o7 (jD c) c.af 0 [] (List.replicate c.af.length [])).2
def hP(A:List Ob)(l s:List Nat)(g:Option Nat):List Ob:=A++[.row 1 az ((l++s).map iN) g true false,.cells [.sl A.length 0 l.length]]
def swp(l:List Nat)(i j:Nat):List Nat:=(l.set i (l.getD j 0)).set j (l.getD i 0)
section
variable{A:List Ob}{l s:List Nat}{g:Option Nat}
theorem fV(i j:Nat):(swp l i j).length=l.length:=by simp[swp]
end
def px(l:List Nat)(j:Nat):List Nat:=
 if j=0 then l else if l.getD j 0<l.getD ((j-1)/2) 0 then px (swp l ((j-1)/2) j) ((j-1)/2)else l
termination_by j
decreasing_by omega
theorem Zo(j:Nat):∀l:List Nat,(px l j).length=l.length:=by
 induction j using Nat.strongRecOn with
 |_ j ih=>
  intro l;rw[px]
  split
  ·rfl
  ·rename_i h0
   split
   ·rw[ih _ (by omega),fV]
   ·rfl
def iS(l:List Nat)(j n:Nat):Nat:=if j+1<n/\l.getD (j+1) 0<l.getD j 0 then j+1 else j
def jW(n:Nat)(l:List Nat)(i:Nat):List Nat×Nat:=
 if n<=2*i+1 then(l,i)else if l.getD (iS l (2*i+1) n) 0<l.getD i 0 then jW n (swp l i (iS l (2*i+1) n)) (iS l (2*i+1) n)else(l,i)
termination_by n-i
decreasing_by
 have:2*i+1<=iS l (2*i+1) n:=by unfold iS;split<;>omega
 omega
theorem Ax(l:List Nat)(j n:Nat):j<=iS l j n:=by unfold iS;split<;>omega
theorem E5(l:List Nat){j n:Nat}(h:j<n):iS l j n<n:=by unfold iS;split<;>omega
theorem Wk(n:Nat):∀(m i:Nat)(l:List Nat),n-i<=m->(jW n l i).1.length=l.length:=by
 intro m
 induction m with
 |zero=>
  intro i l h;rw[jW,if_pos (by omega)]
 |succ m ih=>
  intro i l h;rw[jW]
  split
  ·rfl
  ·split
   ·have:=Ax l (2*i+1) n;rw[ih _ _ (by omega),fV]
   ·rfl
def qm(l:List Nat)(x:Nat):List Nat:=px (l++[x]) l.length
def jv(l:List Nat):List Nat:=(jW (l.length-1) (swp l 0 (l.length-1)) 0).1
theorem Eg(l:List Nat):(jv l).length=l.length:=by rw[jv,Wk _ _ _ _ (aU _),fV]
section
variable{c:Ct}{M:List Ob}{nd:List (List Nat)}
end
end Go.Proofs.YtchjijfjidlpjaaGreatDoor
