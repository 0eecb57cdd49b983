/- Order: what comes: the loops. -/
import Derived.Test.YtchjijfjidlpjaaGreatDoorH
import Derived.Test.YtchjijfjidlpjaaGreatDoorG
import Derived.Test.YtchjijfjidlpjaaGreatDoorAMd
import Derived.Test.YtchjijfjidlpjaaGreatDoorF
import Derived.Test.YtchjijfjidlpjaaGreatDoorCode
set_option linter.unusedSimpArgs false
set_option linter.unusedVariables false
namespace Go.Proofs.YtchjijfjidlpjaaGreatDoor
open Go.AM Go.Proofs
variable{Γ:Nat->Option AV}
def dm(a:Nat)(l:List Nat):List Nat:=l.filter fun x=>decide (¬x=a)
theorem O7(a:Nat):∀{l:List Nat},l.Nodup->mW (.sc .int) (.int .i64 a) (l.map eK)=some ((dm a l).map eK)
 |[],_=>rfl
 |b::l,h=>by
  simp only[kM]at h
  by_cases h2:a=b
  ·subst h2
   have h3:dm a l=l:=by
    unfold dm;rw[z6];intro x hx
    exact ow fun hn=>h.1 (hn▸hx)
   have h4:dm a (a::l)=l:=by rw[<-h3];simp[dm]
   simp only[bL,mW,sE,decide_true,h4]
  ·have h4:dm a (b::l)=b::dm a l:=by
    unfold dm;rw[nF,if_pos (by simpa using fun h=>h2 h.symm)]
   simp only[bL,mW,sE,h2,ot,O7 a h.2,dO,h4]
theorem Lu(a:Nat){l:List Nat}(h:l.Nodup):(dm a l).Nodup:=h.filter _
theorem xB(l:List Nat)(x:Nat):(fD l x).length=l.length+1:=by rw[fD,ac7];simp
def jb(nd:List (List Nat)):Nat->Nat->List Nat->List Nat
 |0,_,l=>l
 |m+1,i,l=>jb nd m (i+1) (if nd.getD i []=[]then fD l i else l)
def eF(a:Nat):List Nat->List (List Nat)->List Nat->List Nat->List (List Nat)×List Nat×List Nat
 |[],nd,l,s=>(nd,l,s)
 |i::r,nd,l,s=>if dm a (nd.getD i [])=[]then eF a r (nd.set i (dm a (nd.getD i []))) (fD l i) s.tail else eF a r (nd.set i (dm a (nd.getD i []))) l s
theorem Nl{A:List Ob}{l s:List Nat}(s0:List Nat)(hs:s=s0.tail){f:Fr}{up:List Fr}(hb:f.base<=A.length)(hf:∀m,jd A.length m f=true)(hv:∀m,cH A.length m A=true):
 AM.Reach Tryz.prog Γ (.fr f up (hP A l s (gP s0))) (.fr f up (hP A l s none)):=by
 unfold gP
 split
 ·rename_i h0
  have hs0:s=[]:=by rw[hs,h0];rfl
  subst hs0
  have e:(hP A l [] (some 0)).set A.length (.row 1 av ((l++[]).map iN) none true false)=hP A l [] none:=by simp[hP]
  refine .oK (vz (A:=A) (l:=l) (s:=[]) (g:=some 0)) hb (hf _) (by
   rw[hP,jk,hv]
   simp) ?_
  rw[e];exact .refl _
 ·exact .refl _
set_option maxRecDepth 8000 in
theorem aeJ(c:Ct)(hc:cB c){M:List Ob}(hv:gp M)(nd:List (List Nat))(hn:nd.length=c.af.length)(L:Nat)(p:AV)(up:List Fr):∀m i:Nat,i+m=c.af.length->∀l:List Nat,l.length<=i->
 AM.Reach Tryz.prog Γ (yqV (.c8 L) (.ptr (M.length+(9+(c.af.length+c.af.length))) 0) (.ptr (M.length+(11+(c.af.length+c.af.length))) 0) (.int .i64 c.af.length) (.int .i64 i) (hP (aC c M nd) l [] none) ⟨[],.norm,M.length,up⟩)
  (yqW (.c8 L) (.ptr (M.length+(9+(c.af.length+c.af.length))) 0) (.ptr (M.length+(11+(c.af.length+c.af.length))) 0) (hP (aC c M nd) (jb nd m i l) [] none) ⟨[],.norm,M.length,up⟩):=by
 have hN:=hc.2.2.2.1;intro m
 induction m with
 |zero=>
  intro i hi l hl
  have q1:¬i<c.af.length:=by omega
  rw[jb];generalize hP (aC c M nd) l [] none=X at*;refine .ey 60 ?_;simp[q1];exact .exit rfl rfl
 |succ m ih=>
  intro i hi l hl
  have q1:i<c.af.length:=by omega
  have hAl:=pZ (M:=M) hn;have xw:=p_ (A:=aC c M nd) (l:=l) (s:=[]) (g:=none) (i:=M.length+(9+(c.af.length+c.af.length))) (by omega);have xn:=p_ (A:=aC c M nd) (l:=l) (s:=[]) (g:=none) (i:=M.length+7) (by omega);have xm:=p_ (A:=aC c M nd) (l:=l) (s:=[]) (g:=none) (i:=M.length+(9+(c.af.length+i))) (by omega);rw[Hm hn]at xw;rw[QV hn]at xn;rw[QS hn q1,ij]at xm;have yn:=EW (n:=M.length+6) (N:=c.af.length) q1;rw[show M.length+6+(3+(c.af.length+i))=M.length+(9+(c.af.length+i)) by omega]at yn;have yl:=Bj (n:=M.length+6) (N:=c.af.length) (m:=c.af.length) (aO _);have yt:List.take c.af.length (dC (M.length+6) c.af.length c.af.length)=dC (M.length+6) c.af.length c.af.length:=cJ (by rw[yl];exact aO _);obtain⟨_,yn'⟩:=dd.1 yn;rw[jb]
  by_cases h0:nd.getD i []=[]
  ·have hh:=ih (i+1) (by omega) (fD l i) (by rw[xB];omega);have hP':=Pz (Γ:=Γ) (aC c M nd) l [] i (by omega) (by omega)
   have hun:=fun f hb hf=>Nl (Γ:=Γ) (l:=fD l i) (s:=[]) [] rfl (f:=f) (up:=up) hb hf (fun m=>P3 hv (nd:=nd) (by rw[hAl];omega))
   rw[hAl]at hun hP';rw[show M.length+(10+(c.af.length+c.af.length))+1=M.length+(11+(c.af.length+c.af.length)) by omega]at hP';rw[if_pos h0];rw[h0]at xm;generalize hP (aC c M nd) l [] none=X at*;generalize hP (aC c M nd) (fD l i) [] none=Y at*;rw[List.tail_nil]at hP';generalize hP (aC c M nd) (fD l i) [] (gP [])=Z at*;generalize dC (M.length+6) c.af.length c.af.length=E at*;refine .ey 60 ?_;simp(disch:=omega) [q1,xw,xn,xm,yn,yl,yt,yn'];refine .PK 1 60 hP' ?_;simp(disch:=omega);refine .trans (hun _ (by simp) (by intro m;simp;omega)) ?_;refine .aR ?_;simp at hh⊢;exact hh
  ·have hh:=ih (i+1) (by omega) l (by omega);rw[if_neg h0]
   have xln:¬(nd.getD i []).length=0:=by simpa using h0
   generalize nd.getD i []=z at*
   have e0:(((z.map eK).length:Nat):Int)=0↔False:=by simp;exact h0
   generalize hP (aC c M nd) l [] none=X at*;generalize dC (M.length+6) c.af.length c.af.length=E at*;refine .ey 60 ?_;simp(disch:=omega) [q1,xw,xn,xm,yn,yl,yt,yn',h0,xln];refine .aR ?_;simp at hh⊢;exact hh
theorem aa4{A:List Ob}{l s:List Nat}{g:Option Nat}{i:Nat}(h:i<A.length)(o:Ob):(hP A l s g).set i o=hP (A.set i o) l s g:=by
 rw[hP,Aa _ _ h,hP,jG]
set_option maxRecDepth 8000 in
theorem afG(c:Ct)(hc:cB c){M:List Ob}(hv:gp M)(L a:Nat)(ha:a<c.af.length)(hb:∀i∈(bx c).getD a [],i<c.af.length)(up:List Fr):∀m j:Nat,j+m=((bx c).getD a []).length->∀(nd:List (List Nat))(l s:List Nat),nd.length=c.af.length->(∀x∈nd,x.Nodup)->l.length+m<2^38->j+m<2^38->
 AM.Reach Tryz.prog Γ (yqQ (.c8 L) (.ptr (M.length+(9+(c.af.length+c.af.length))) 0) (.ptr (M.length+(11+(c.af.length+c.af.length))) 0) (.int .i64 a) (.sl (M.length+(9+a)) 0 ((bx c).getD a []).length) (.int .i64 ((bx c).getD a []).length) (.int .i64 j) (hP (aC c M nd) l s none) ⟨[],.norm,M.length,up⟩)
  (yqR (.c8 L) (.ptr (M.length+(9+(c.af.length+c.af.length))) 0) (.ptr (M.length+(11+(c.af.length+c.af.length))) 0) (hP (aC c M (eF a (((bx c).getD a []).drop j) nd l s).1) (eF a (((bx c).getD a []).drop j) nd l s).2.1 (eF a (((bx c).getD a []).drop j) nd l s).2.2 none) ⟨[],.norm,M.length,up⟩):=by
 have hN:=hc.2.2.2.1;intro m
 induction m with
 |zero=>
  intro j hj nd l s hn hd hl hj2
  have q1:¬j<((bx c).getD a []).length:=by omega
  rw[bT (by omega),eF];generalize(bx c).getD a []=bs at*;generalize hP (aC c M nd) l s none=X at*;refine .ey 60 ?_;simp[q1];exact .exit rfl rfl
 |succ m ih=>
  intro j hj nd l s hn hd hl hj2;have xr:=p_ (A:=aC c M nd) (l:=l) (s:=s) (g:=none) (i:=M.length+(9+a)) (by rw[pZ hn];omega);rw[afS ha]at xr;generalize hbs:(bx c).getD a []=bs at*
  have q1:j<bs.length:=by omega
  have hi:=hb _ (bF q1)
  have xi:(bs.map iN)[j]? =some (.int .i64 (bs[j]:Nat)):=by simp[q1]
  rw[bZ q1,eF];generalize bs[j]=i at*;have hAl:=pZ (M:=M) hn;have xw:=p_ (A:=aC c M nd) (l:=l) (s:=s) (g:=none) (i:=M.length+(9+(c.af.length+c.af.length))) (by omega);have xn:=p_ (A:=aC c M nd) (l:=l) (s:=s) (g:=none) (i:=M.length+7) (by omega);have xm:=p_ (A:=aC c M nd) (l:=l) (s:=s) (g:=none) (i:=M.length+(9+(c.af.length+i))) (by omega);rw[Hm hn]at xw;rw[QV hn]at xn;rw[QS hn hi,ij]at xm;rw[fH]at xr
  have hXl:(hP (aC c M nd) l s none).length=M.length+(12+(c.af.length+c.af.length)):=by rw[xZ,hAl];omega
  have xs:∀o,((hP (aC c M nd) l s none).set (M.length+(9+(c.af.length+i))) o)[M.length+(9+(c.af.length+i))]? =some o:=fun o=>eL (by omega)
  clear hXl;have yn:=EW (n:=M.length+6) (N:=c.af.length) hi;rw[show M.length+6+(3+(c.af.length+i))=M.length+(9+(c.af.length+i)) by omega]at yn;have yl:=Bj (n:=M.length+6) (N:=c.af.length) (m:=c.af.length) (aO _);have yt:List.take c.af.length (dC (M.length+6) c.af.length c.af.length)=dC (M.length+6) c.af.length c.af.length:=cJ (by rw[yl];exact aO _);obtain⟨_,yn'⟩:=dd.1 yn
  have hnd:(nd.getD i []).Nodup:=by
   rw[bj,aM (by omega)];exact hd _ (bF _)
  have dc:=O7 a hnd
  have fin:(hP (aC c M nd) l s none).set (M.length+(9+(c.af.length+i))) (.map ((dm a (nd.getD i [])).map eK) true)=hP (aC c M (nd.set i (dm a (nd.getD i [])))) l s none:=by
   rw[aa4 (by omega),<-acQ _ hn hi];rfl
  have hn2:(nd.set i (dm a (nd.getD i []))).length=c.af.length:=by rw[jG];exact hn
  have hd2:∀x∈nd.set i (dm a (nd.getD i [])),x.Nodup:=fun x hx=>by
   rcases pq hx with h1|h1
   ·exact hd x h1
   ·rw[h1];exact Lu a hnd
  have hAl2:=pZ (M:=M) hn2
  by_cases h0:dm a (nd.getD i [])=[]
  ·have hh:=ih (j+1) (by omega) (nd.set i (dm a (nd.getD i []))) (fD l i) s.tail hn2 hd2 (by rw[xB];omega) (by omega);have hP':=Pz (Γ:=Γ) (aC c M (nd.set i (dm a (nd.getD i [])))) l s i (by omega) (by omega)
   have hun:=fun f hb hf=>Nl (Γ:=Γ) (l:=fD l i) (s:=s.tail) s rfl (f:=f) (up:=up) hb hf (fun m=>P3 hv (nd:=nd.set i (dm a (nd.getD i []))) (by rw[hAl2];omega))
   rw[hAl2]at hun hP';rw[show M.length+(10+(c.af.length+c.af.length))+1=M.length+(11+(c.af.length+c.af.length)) by omega]at hP';rw[if_pos h0]
   have hlz:(dm a (nd.getD i [])).length=0:=by rw[h0];rfl
   rw[h0]at dc fin;rw[h0]at hP' hun hh⊢;generalize(eF a (bs.drop (j+1)) (nd.set i []) (fD l i) s.tail)=R at*;generalize hP (aC c M nd) l s none=X at*;generalize hP (aC c M (nd.set i [])) l s none=Y at*;generalize hP (aC c M (nd.set i [])) (fD l i) s.tail none=Z at*;generalize hP (aC c M (nd.set i [])) (fD l i) s.tail (gP s)=W at*;generalize dC (M.length+6) c.af.length c.af.length=E at*;generalize hLz:nd.getD i []=z at*;refine .ey 60 ?_;simp(disch:=omega) [q1,xr,xi,xw,xn,xm,yn,yl,yt,yn',hi,dc,xs,isKey,bM,cj];simp at fin;rw[fin];refine .PK 1 60 hP' ?_;simp(disch:=omega);refine .trans (hun _ (by simp) (by intro m;simp;omega)) ?_;refine .aR ?_;simp at hh⊢;exact hh
  ·have hh:=ih (j+1) (by omega) (nd.set i (dm a (nd.getD i []))) l s hn2 hd2 (by omega) (by omega);rw[if_neg h0]
   have xln:¬(dm a (nd.getD i [])).length=0:=by simpa using h0
   generalize(eF a (bs.drop (j+1)) (nd.set i (dm a (nd.getD i []))) l s)=R at*;generalize hP (aC c M nd) l s none=X at*;generalize hP (aC c M (nd.set i (dm a (nd.getD i [])))) l s none=Y at*;generalize dC (M.length+6) c.af.length c.af.length=E at*;generalize dm a (nd.getD i [])=z' at*;generalize hLz:nd.getD i []=z at*;refine .ey 60 ?_;simp(disch:=omega) [q1,xr,xi,xw,xn,xm,yn,yl,yt,yn',hi,dc,xs,isKey,bM,cj,h0,xln];rw[fin];refine .aR ?_;simp at hh⊢;exact hh
end Go.Proofs.YtchjijfjidlpjaaGreatDoor
namespace Go.Proofs.YtchjijfjidlpjaaGreatDoor
open Go.AM Go.Proofs
theorem FN{l:List Nat}{i j:Nat}(hi:i<l.length)(hj:j<l.length):(swp l i j).Perm l:=by
 rw[List.perm_iff_count];intro a
 have e1:l.getD i 0=l[i]:=by rw[bj,aM hi];rfl
 have e2:l.getD j 0=l[j]:=by rw[bj,aM hj];rfl
 have e3:(l.set i l[j])[j]'(by simpa using hj)=l[j]:=by
  rw[List.getElem_set];split<;>rfl
 rw[swp,e1,e2,List.count_set (by simpa using hj),List.count_set hi,e3]
 have hp:l[i]=a->0<l.count a:=fun h=>TL.2 (h▸bF hi)
 by_cases h1:l[i]=a
 ·have:=hp h1
  by_cases h2:l[j]=a<;>simp[h1,h2]<;>omega
 ·by_cases h2:l[j]=a<;>simp[h1,h2]
theorem abf(j:Nat):∀l:List Nat,j<l.length->(nz l j).Perm l:=by
 induction j using Nat.strongRecOn with
 |_ j ih=>
  intro l hj;rw[nz]
  split
  ·exact .refl _
  ·split
   ·exact(ih _ (by omega) _ (by rw[dQ];omega)).trans (FN (by omega) hj)
   ·exact .refl _
theorem Yb(n:Nat):∀(m i:Nat)(l:List Nat),n-i<=m->n<=l.length->i<l.length->(gB n l i).1.Perm l:=by
 intro m
 induction m with
 |zero=>
  intro i l h hn hi;rw[gB,if_pos (by omega)]
 |succ m ih=>
  intro i l h hn hi;rw[gB]
  split
  ·exact .refl _
  ·split
   ·have:=yY l (2*i+1) n;have:=Cj l (j:=2*i+1) (n:=n) (by omega);exact(ih _ _ (by omega) (by rw[dQ];omega) (by rw[dQ];omega)).trans (FN hi (by omega))
   ·exact .refl _
theorem xg(l:List Nat)(x:Nat):(fD l x).Perm (x::l):=(abf _ _ (by simp)).trans List.perm_append_comm
def bm(l:List Nat):Nat:=(dk l).getD (l.length-1) 0
def dD(l:List Nat):List Nat:=(dk l).take (l.length-1)
theorem YZ{l:List Nat}(h:0<l.length):(dk l).Perm l:=by
 rw[dk];exact(Yb _ _ _ _ (aO _) (by rw[dQ];omega) (by rw[dQ];omega)).trans (FN h (by omega))
theorem YB{l:List Nat}(h:0<l.length):dk l=dD l++[bm l]:=by
 have hl:=BI l
 have hlt:l.length-1<(dk l).length:=by omega
 have h5:(dk l).getD (l.length-1) 0=(dk l)[l.length-1]:=by rw[bj,aM hlt];rfl
 rw[bm,dD,h5]
 conv=>lhs;rw[<-mn (l.length-1) (dk l)]
 congr 1;rw[bZ hlt,bT (by omega)]
theorem MY{l:List Nat}(h:0<l.length):(bm l::dD l).Perm l:=by
 have:=YZ h;rw[YB h]at this;exact List.perm_append_comm.symm.trans this
theorem Mr(l:List Nat):(dD l).length=l.length-1:=by rw[dD,eA,BI];omega
def k9(n:Nat)(l:List Nat):Prop:=∀k,0<k->k<n->l.getD ((k-1)/2) 0<=l.getD k 0
theorem xP{l:List Nat}{i j:Nat}(hi:i<l.length)(hj:j<l.length)(k:Nat):(swp l i j).getD k 0=if k=j then l.getD i 0 else if k=i then l.getD j 0 else l.getD k 0:=by
 simp only[swp,bj,om,jG]
 by_cases h1:j=k
 ·subst h1;simp[hj]
 ·have h1':¬k=j:=fun h=>h1 h.symm
  by_cases h2:i=k
  ·subst h2;simp[h1,h1',hi]
  ·have h2':¬k=i:=fun h=>h2 h.symm
   simp[h1,h1',h2,h2']
theorem abN(j:Nat):∀l:List Nat,j<l.length->(∀k,0<k->k<l.length->k≠j->l.getD ((k-1)/2) 0<=l.getD k 0)->(0<j->∀k,k<l.length->0<k->(k-1)/2=j->l.getD ((j-1)/2) 0<=l.getD k 0)->k9 l.length (nz l j):=by
 induction j using Nat.strongRecOn with
 |_ j ih=>
  intro l hj h1 h2;rw[nz]
  split
  ·rename_i h0;intro k hk hkl;exact h1 k hk hkl (by omega)
  ·rename_i h0
   have hpl:(j-1)/2<l.length:=by omega
   split
   ·rename_i hlt;have hs:=xP hpl hj
    have key:k9 (swp l ((j-1)/2) j).length (nz (swp l ((j-1)/2) j) ((j-1)/2)):=by
     refine ih _ (by omega) _ (by rw[dQ];exact hpl) (fun k hk hkl hkp=>?_) (fun hp k hkl hk hkp=>?_)
     ·rw[dQ]at hkl;rw[hs,hs]
      have hq:¬(k-1)/2=j\/(k-1)/2=j:=by omega
      by_cases hkj:k=j
      ·subst hkj;rw[if_neg (by omega),if_pos rfl,if_pos rfl];omega
      ·rw[if_neg hkj,if_neg hkp];have hk1:=h1 k hk hkl hkj
       by_cases hc:(k-1)/2=j
       ·rw[if_pos hc];exact h2 (by omega) k hkl hk hc
       ·rw[if_neg hc]
        by_cases hd:(k-1)/2=(j-1)/2
        ·rw[if_pos hd]
         rw[hd]at hk1;omega
        ·rw[if_neg hd];exact hk1
     ·rw[dQ]at hkl;rw[hs,hs,if_neg (by omega),if_neg (by omega)];have hpp:=h1 ((j-1)/2) hp hpl (by omega)
      by_cases hkj:k=j
      ·rw[if_pos hkj];exact hpp
      ·rw[if_neg hkj,if_neg (by omega)];have hk1:=h1 k hk hkl hkj
       rw[hkp]at hk1;omega
    rw[dQ]at key;exact key
   ·rename_i hge;intro k hk hkl
    by_cases hkj:k=j
    ·subst hkj;omega
    ·exact h1 k hk hkl hkj
theorem Lm{l:List Nat}(h:k9 l.length l)(x:Nat):k9 (fD l x).length (fD l x):=by
 have e:(fD l x).length=(l++[x]).length:=by rw[xB];simp
 have g:∀k,k<l.length->(l++[x]).getD k 0=l.getD k 0:=fun k hk=>by simp[cz hk]
 rw[e,fD];refine abN _ _ (by simp) (fun k hk hkl hkj=>?_) (fun hj k hkl hk hkp=>?_)
 ·simp only[bq,tA]at hkl;rw[g _ (by omega),g _ (by omega)];exact h k hk (by omega)
 ·simp only[bq,tA]at hkl;omega
theorem Yy(n:Nat):∀(m i:Nat)(l:List Nat),n-i<=m->n<=l.length->i<l.length->(∀k,0<k->k<n->(k-1)/2≠i->l.getD ((k-1)/2) 0<=l.getD k 0)->(0<i->∀k,k<n->0<k->(k-1)/2=i->l.getD ((i-1)/2) 0<=l.getD k 0)->k9 n (gB n l i).1:=by
 intro m
 induction m with
 |zero=>
  intro i l h hn hi h1 h2;rw[gB,if_pos (by omega)];intro k hk hkn;exact h1 k hk hkn (by omega)
 |succ m ih=>
  intro i l h hn hi h1 h2;rw[gB]
  split
  ·intro k hk hkn;exact h1 k hk hkn (by omega)
  ·rename_i hc;have kg:=yY l (2*i+1) n;have kl:=Cj l (j:=2*i+1) (n:=n) (by omega)
   have kk:gh l (2*i+1) n=2*i+1\/gh l (2*i+1) n=2*i+2:=by unfold gh;split<;>omega
   have least:∀k,k<n->0<k->(k-1)/2=i->l.getD (gh l (2*i+1) n) 0<=l.getD k 0:=by
    intro k hkn hk hkp
    have hk2:k=2*i+1\/k=2*i+1+1:=by omega
    unfold gh
    split
    ·rename_i hh
     rcases hk2 with rfl|rfl
     ·omega
     ·exact aO _
    ·rename_i hh
     rcases hk2 with rfl|rfl
     ·exact aO _
     ·have:¬l.getD (2*i+1+1) 0<l.getD (2*i+1) 0:=fun h=>hh ⟨hkn,h⟩
      omega
   generalize gh l (2*i+1) n=j at*
   have hjl:j<l.length:=by omega
   have hs:=xP hi hjl
   split
   ·rename_i hlt;refine ih _ _ (by omega) (by rw[dQ];exact hn) (by rw[dQ];exact hjl) (fun k hk hkn hkp=>?_) (fun hp k hkn hk hkp=>?_)
    ·rw[hs,hs,if_neg hkp]
     by_cases hkj:k=j
     ·subst hkj;rw[if_pos rfl,if_pos (by omega)];omega
     ·rw[if_neg hkj]
      by_cases hci:(k-1)/2=i
      ·rw[if_pos hci,if_neg (by omega)];exact least k hkn hk hci
      ·rw[if_neg hci];have hk1:=h1 k hk hkn hci
       by_cases hki:k=i
       ·rw[if_pos hki];subst hki;exact h2 hk j kl (by omega) (by omega)
       ·rw[if_neg hki];exact hk1
    ·rw[hs,hs]
     have hpi:(j-1)/2=i:=by omega
     have hjne:¬i=j:=by omega
     rw[hpi,if_neg hjne,if_pos rfl,if_neg (by omega),if_neg (by omega)];have:=h1 k hk hkn (by omega)
     rw[hkp]at this;exact this
   ·rename_i hge;intro k hk hkn
    by_cases hci:(k-1)/2=i
    ·have:=least k hkn hk hci
     show l.getD ((k-1)/2) 0<=l.getD k 0
     rw[hci];omega
    ·exact h1 k hk hkn hci
theorem Y4{n:Nat}{l:List Nat}(h:k9 n l):∀k,k<n->l.getD 0 0<=l.getD k 0:=by
 intro k
 induction k using Nat.strongRecOn with
 |_ k ih=>
  intro hk
  by_cases h0:k=0
  ·subst h0;exact aO _
  ·have h1:=h k (by omega) hk;have h2:=ih ((k-1)/2) (by omega) (by omega);omega
theorem XJ{l:List Nat}(h:k9 l.length l)(h0:0<l.length):k9 (dD l).length (dD l):=by
 have hs:=xP (l:=l) (i:=0) (j:=l.length-1) h0 (by omega)
 have hd:k9 (l.length-1) (dk l):=by
  rw[dk];refine Yy _ _ 0 _ (aO _) (by rw[dQ];omega) (by rw[dQ];omega) (fun k hk hkn hkp=>?_) (fun hp=>absurd hp (by omega));rw[hs,hs,if_neg (by omega),if_neg hkp,if_neg (by omega),if_neg (by omega)];exact h k hk (by omega)
 have hl:=BI l
 have g:∀k,k<l.length-1->(dD l).getD k 0=(dk l).getD k 0:=fun k hk=>by
  rw[dD];simp only[bj];rw[mr hk]
 rw[Mr];intro k hk hkn;rw[g _ (by omega),g _ hkn];exact hd k hk hkn
theorem abB{l:List Nat}(h0:0<l.length):bm l=l.getD 0 0:=by
 have hs:=xP (l:=l) (i:=0) (j:=l.length-1) h0 (by omega)
 have fm:∀(n m i:Nat)(x:List Nat),n-i<=m->n<x.length->i<=n->(i<x.length)->(i<n\/n=0)->(gB n x i).1.getD n 0=x.getD n 0:=by
  intro n m
  induction m with
  |zero=>
   intro i x h1 h2 h3 h4 h5;rw[gB,if_pos (by omega)]
  |succ m ih=>
   intro i x h1 h2 h3 h4 h5;rw[gB]
   split
   ·rfl
   ·rename_i hc;have kg:=yY x (2*i+1) n;have kl:=Cj x (j:=2*i+1) (n:=n) (by omega);generalize gh x (2*i+1) n=j at*
    split
    ·rw[ih j _ (by omega) (by rw[dQ];exact h2) (by omega) (by rw[dQ];omega) (by omega),xP h4 (by omega),if_neg (by omega),if_neg (by omega)]
    ·rfl
 rw[bm,dk,fm _ _ 0 _ (aO _) (by rw[dQ];omega) (by omega) (by rw[dQ];omega) (by omega),hs,if_pos rfl]
theorem abX{l:List Nat}(h:k9 l.length l)(h0:0<l.length){x:Nat}(hx:x∈l):bm l<=x:=by
 rw[abB h0];obtain⟨k,hk,rfl⟩:=eM hx;have:=Y4 h k hk;rw[bj (i:=k),aM hk]at this;exact this
end Go.Proofs.YtchjijfjidlpjaaGreatDoor
namespace Go.Proofs.YtchjijfjidlpjaaGreatDoor
open Go.AM Go.Proofs
variable{Γ:Nat->Option AV}
def qc(b:List (List Nat)):Nat->List (List Nat)->List Nat->List Nat->List Nat
 |0,_,_,_=>[]
 |f+1,nd,l,s=>if l=[]then[]else
  bm l::qc b f (eF (bm l) (b.getD (bm l) []) nd (dD l) (bm l::s)).1 (eF (bm l) (b.getD (bm l) []) nd (dD l) (bm l::s)).2.1 (eF (bm l) (b.getD (bm l) []) nd (dD l) (bm l::s)).2.2
def sP(b:List (List Nat)):Nat->List (List Nat)->List Nat->List Nat->Prop
 |0,_,l,_=>l=[]
 |f+1,nd,l,s=>l=[]\/sP b f (eF (bm l) (b.getD (bm l) []) nd (dD l) (bm l::s)).1 (eF (bm l) (b.getD (bm l) []) nd (dD l) (bm l::s)).2.1 (eF (bm l) (b.getD (bm l) []) nd (dD l) (bm l::s)).2.2
theorem GH(a N:Nat):∀(r:List Nat)(nd:List (List Nat))(l s:List Nat),(∀i∈r,i<N)->nd.length=N->(∀x∈nd,x.Nodup)->(∀x∈l,x<N)->
 (eF a r nd l s).1.length=N/\(∀x∈(eF a r nd l s).1,x.Nodup)/\(∀x∈(eF a r nd l s).2.1,x<N)/\(eF a r nd l s).2.1.length<=l.length+r.length
 |[],nd,l,s,_,h2,h3,h4=>⟨h2,h3,h4,by simp[eF]⟩
 |i::r,nd,l,s,h1,h2,h3,h4=>by
  have hi:=h1 i (by simp)
  have hn:(nd.set i (dm a (nd.getD i []))).length=N:=by simpa using h2
  have hd:∀x∈nd.set i (dm a (nd.getD i [])),x.Nodup:=fun x hx=>by
   rcases pq hx with h5|h5
   ·exact h3 x h5
   ·rw[h5];refine Lu a ?_;rw[bj,aM (by omega)];exact h3 _ (bF _)
  rw[eF]
  split
  ·have:=GH a N r _ (fD l i) s.tail (fun x hx=>h1 x (by simp[hx])) hn hd (fun x hx=>by
    have:=(xg l i).mem_iff.1 hx
    rcases bo.1 this with rfl|h6
    ·exact hi
    ·exact h4 x h6)
   rw[xB]at this;refine⟨this.1,this.2.1,this.2.2.1,?_⟩;have:=this.2.2.2
   simp only[bz];omega
  ·have:=GH a N r _ l s (fun x hx=>h1 x (by simp[hx])) hn hd h4;refine⟨this.1,this.2.1,this.2.2.1,?_⟩;have:=this.2.2.2
   simp only[bz];omega
set_option maxRecDepth 8000 in
theorem afq(c:Ct)(hc:cB c)(hbL:∀x∈bx c,x.length<=2^21/\∀i∈x,i<c.af.length){S:Type}(M:S->List Ob)(F:S->Nat->S)(n L r:Nat)(hM:∀x,(M x).length=n)(hv:∀x,gp (M x))(hr:r<n)(I:S->Nat->Prop)(hI:∀x k a,I x k->a<c.af.length->I (F x a) (k+1))
 (hB:∀x k a T up,I x k->k<2^20->a<c.af.length->(∀m,up.all (jd r m)=true)->(∀m,cH r m T=true)->AM.Reach Tryz.prog Γ ((iR.yl L).cfg [.int .i64 a] up (M x++T)) (.back up (.bool true) (M (F x a)++T)))
 (up:List Fr)(hup:∀m,up.all (jd r m)=true):∀(f:Nat)(x:S)(k:Nat)(nd:List (List Nat))(l s:List Nat),nd.length=c.af.length->(∀x∈nd,x.Nodup)->(∀a∈l,a<c.af.length)->l.length+f*2^22<=2^37->I x k->k+f<=2^20->sP (bx c) f nd l s->
 ∃T,AM.Reach Tryz.prog Γ (Rk (.c8 L) (.ptr (n+(9+(c.af.length+c.af.length))) 0) (.ptr (n+(11+(c.af.length+c.af.length))) 0) (hP (aC c (M x) nd) l s none) ⟨[],.norm,n,up⟩)
  (.back up (.aE []) (M ((qc (bx c) f nd l s).foldl F x)++T)):=by
 have stop:∀(x:S)(nd:List (List Nat))(s:List Nat),nd.length=c.af.length->∃T,AM.Reach Tryz.prog Γ (Rk (.c8 L) (.ptr (n+(9+(c.af.length+c.af.length))) 0) (.ptr (n+(11+(c.af.length+c.af.length))) 0) (hP (aC c (M x) nd) [] s none) ⟨[],.norm,n,up⟩)
  (.back up (.aE []) (M x++T)):=by
  intro x nd s hn;have hAl:=pZ (M:=M x) hn;rw[hM]at hAl;have xc:=o5 (A:=aC c (M x) nd) (l:=[]) (s:=s) (g:=none);have h1:=Cp (Γ:=Γ) (aC c (M x) nd) [] s none (.inl rfl)
  have he:hP (aC c (M x) nd) [] s none=M x++(tC c n nd++[.row 1 av (s.map iN) none true false,.cells [.sl (n+(10+(c.af.length+c.af.length))) 0 0]]):=by
   rw[hP,hAl]
   conv=>lhs;rw[y8,hM]
   simp
  rw[hAl,show n+(10+(c.af.length+c.af.length))+1=n+(11+(c.af.length+c.af.length)) by omega]at xc;rw[hAl]at h1;refine⟨tC c n nd++[.row 1 av (s.map iN) none true false,.cells [.sl (n+(10+(c.af.length+c.af.length))) 0 0]],?_⟩;rw[<-he];generalize hP (aC c (M x) nd) [] s none=X at*;simp at xc h1;refine .bw 60 ?_;simp[xc];refine .bA 60 h1 ?_;simp
 intro f
 induction f with
 |zero=>
  intro x k nd l s hn hd hl hb hIx hk hE;rw[sP]at hE;subst hE;rw[qc];exact stop x nd s hn
 |succ f ih=>
  intro x k nd l s hn hd hl hb hIx hk hE;rw[qc]
  by_cases h0:l=[]
  ·subst h0;rw[if_pos rfl];exact stop x nd s hn
  ·rw[sP]at hE;have hE:=hE.resolve_left h0;rw[if_neg h0];have hpos:0<l.length:=rQ.2 h0;have hhr:=MY hpos;have ha:bm l<c.af.length:=hl _ (hhr.mem_iff.1 (by simp))
   have hrl:∀y∈dD l,y<c.af.length:=fun y hy=>hl _ (hhr.mem_iff.1 (by simp[hy]))
   have hbm:(bx c).getD (bm l) []∈bx c:=by
    rw[bj,aM (by rw[gQ];exact ha)];exact bF _
   obtain⟨hb1,hb2⟩:=hbL _ hbm;have hok:=GH (bm l) c.af.length ((bx c).getD (bm l) []) nd (dD l) (bm l::s) hb2 hn hd hrl;have hrest:=Mr l
   have h3:=fun M' hv'=>afG (Γ:=Γ) c hc (M:=M') hv' L (bm l) ha hb2 up ((bx c).getD (bm l) []).length 0 (by omega) nd (dD l) (bm l::s) hn hd (by omega) (by omega)
   obtain⟨T,hT⟩:=ih (F x (bm l)) (k+1) _ _ _ hok.1 hok.2.1 hok.2.2.1 (by have:=hok.2.2.2;omega) (hI x k _ hIx ha) (by omega) hE;refine⟨T,?_⟩;have hAl:=pZ (M:=M x) hn;have hAl2:=pZ (M:=M (F x (bm l))) hn;rw[hM]at hAl hAl2;have h3':=h3 (M (F x (bm l))) (hv _);rw[fe,hM]at h3';have xc:=o5 (A:=aC c (M x) nd) (l:=l) (s:=s) (g:=none);have h1:=Cp (Γ:=Γ) (aC c (M x) nd) l s none (.inl rfl);have h2:=afv (Γ:=Γ) (aC c (M x) nd) l s hpos (by omega);rw[hAl]at xc h1 h2;rw[show n+(10+(c.af.length+c.af.length))+1=n+(11+(c.af.length+c.af.length)) by omega]at xc h2;rw[show(dk l).getD (l.length-1) 0=bm l from rfl,show(dk l).take (l.length-1)=dD l from rfl]at h2
   let T2:List Ob:=tC c n nd++[.row 1 av ((dD l++bm l::s).map iN) none true false,.cells [.sl (n+(10+(c.af.length+c.af.length))) 0 (dD l).length]]
   have he:∀y,hP (aC c (M y) nd) (dD l) (bm l::s) none=M y++T2:=fun y=>by
    have hy:=pZ (M:=M y) hn;rw[hM]at hy;rw[hP,hy]
    conv=>lhs;rw[y8,hM]
    simp[T2]
   have hTv:∀m,cH r m T2=true:=fun m=>by
    have hne:(n+(10+(c.af.length+c.af.length))==r)=false:=by simp;omega
    rw[show T2=tC c n nd++[.row 1 av ((dD l++bm l::s).map iN) none true false,.cells [.sl (n+(10+(c.af.length+c.af.length))) 0 (dD l).length]]from rfl,jk,aeZ n hr];simp[hne]
   have hbody:=fun up hup=>hB x k (bm l) T2 up hIx (by omega) ha hup hTv
   rw[<-he,<-he]at hbody
   have hlp:(0:Int)<l.length:=by omega
   have xw:=p_ (A:=aC c (M (F x (bm l))) nd) (l:=dD l) (s:=bm l::s) (g:=none) (i:=n+(9+(c.af.length+c.af.length))) (by omega);have xb:=p_ (A:=aC c (M (F x (bm l))) nd) (l:=dD l) (s:=bm l::s) (g:=none) (i:=n+8) (by omega);have w1:=Hm (M:=M (F x (bm l))) hn;have w2:=afX (c:=c) (M:=M (F x (bm l))) (nd:=nd);rw[hM]at w1 w2;rw[w1]at xw;rw[w2]at xb;have yb:=sD (n:=n+6) (b:=bx c) (k:=bm l) (by rw[gQ];exact ha)
   have egd:(bx c)[bm l]'(by rw[gQ];exact ha)=(bx c).getD (bm l) []:=by rw[bj,aM (by rw[gQ];exact ha)];rfl
   rw[egd,show n+6+(3+bm l)=n+(9+bm l) by omega]at yb;have zl:=qY (n+6) (bx c);rw[gQ]at zl;have zt:List.take c.af.length (fK (n+6) (bx c))=fK (n+6) (bx c):=cJ (by rw[zl];exact aO _);obtain⟨_,yb'⟩:=dd.1 yb;generalize hRR:eF (bm l) ((bx c).getD (bm l) []) nd (dD l) (bm l::s)=R at*;have hfold:(bm l::qc (bx c) f R.1 R.2.1 R.2.2).foldl F x=(qc (bx c) f R.1 R.2.1 R.2.2).foldl F (F x (bm l)):=rfl;rw[hfold];clear hfold he hTv h3 hok w1 w2;generalize hP (aC c (M x) nd) l s none=X at*;generalize hP (aC c (M x) nd) (dD l) (bm l::s) none=Y at*;generalize hP (aC c (M (F x (bm l))) nd) (dD l) (bm l::s) none=Z at*;generalize hP (aC c (M (F x (bm l))) R.1) R.2.1 R.2.2 none=W at*;generalize fK (n+6) (bx c)=E at*;generalize(bx c).getD (bm l) []=bs at*
   generalize bm l=a at*;refine .bw 60 ?_;simp[xc];refine .bA 60 h1 ?_;simp[hpos];refine .bA 8 h2 ?_;simp;refine Reach.afc (l:=L) (args:=[.int .i64 a]) (v:=.bool true) (h':=Z) (by simp) (hbody _ (fun m=>by simp[hup m];omega)) ?_;refine .bw 60 ?_;simp[xw,xb,yb,yb',zl,zt,ha];refine .inLoop ?_;simp at h3'⊢;refine .trans h3' ?_;refine .bw 60 ?_;simp;refine .aR ?_;simp at hT⊢;exact hT
theorem Ga(nd:List (List Nat))(N:Nat):∀(m i:Nat)(l:List Nat),i+m=N->(∀a∈l,a<N)->(∀a∈jb nd m i l,a<N)/\(jb nd m i l).length<=l.length+m
 |0,i,l,h,hl=>⟨hl,by simp[jb]⟩
 |m+1,i,l,h,hl=>by
  rw[jb]
  split
  ·have:=Ga nd N m (i+1) (fD l i) (by omega) (fun a ha=>by
    rcases bo.1 ((xg l i).mem_iff.1 ha)with rfl|h1
    ·omega
    ·exact hl a h1)
   rw[xB]at this;exact⟨this.1,by omega⟩
  ·have:=Ga nd N m (i+1) l (by omega) hl;exact⟨this.1,by omega⟩
theorem Et(pl:List (Bs×Nat)):∀(l:List Bs)(a:List Nat),a.Nodup->(eX pl l a).Nodup
 |[],a,h=>h
 |s::r,a,h=>by
  rw[eX]
  split
  ·exact Et pl r a h
  ·refine Et pl r _ ?_
   split
   ·exact h
   ·rename_i k _ hk;rw[jM];refine⟨h,by simp,fun x hx y hy=>?_⟩;simp only[cq]at hy;subst hy
    exact fun he=>hk (he▸hx)
theorem KC(pl:List (Bs×Nat)):∀(l:List Gt)(i:Nat)(nd b:List (List Nat)),(∀x∈nd,x.Nodup)->∀x∈(fA pl l i nd b).1,x.Nodup
 |[],_,_,_,h=>h
 |g::r,i,nd,b,h=>by
  rw[fA]
  refine KC pl r _ _ _ fun x hx=>?_
  rcases aN.1 hx with h1|h1
  ·exact h x h1
  ·rw[cq]at h1
   rw[h1];exact Et pl _ _ (by simp)
theorem WL(c:Ct):∀x∈ee c,x.Nodup:=KC _ _ _ _ _ (by simp)
theorem GJ(pl:List (Bs×Nat))(i:Nat):∀(l:List Bs)(a:List Nat)(b:List (List Nat)),∀x∈jD pl i l a b,∀y∈x,y=i\/∃z∈b,y∈z
 |[],_,_,x,hx,y,hy=>.inr ⟨x,hx,hy⟩
 |s::r,a,b,x,hx,y,hy=>by
  rw[jD]at hx
  split at hx
  ·exact GJ pl i r a b x hx y hy
  ·rename_i k _
   rcases GJ pl i r _ _ x hx y hy with h|⟨z,hz,hyz⟩
   ·exact .inl h
   ·split at hz
    ·exact .inr ⟨z,hz,hyz⟩
    ·rcases pq hz with h1|h1
     ·exact .inr ⟨z,h1,hyz⟩
     ·rw[h1]at hyz
      rcases aN.1 hyz with h2|h2
      ·by_cases hk:k<b.length
       ·rw[bj,aM hk]at h2;exact .inr ⟨_,bF hk,h2⟩
       ·rw[bj,fu (by omega)]at h2;simp at h2
      ·exact .inl (by simpa using h2)
theorem Mh(pl:List (Bs×Nat)):∀(l:List Gt)(i N B:Nat)(nd b:List (List Nat)),(∀g∈l,g.ins.length<2^10)->i+l.length=N->(∀x∈b,x.length<=B/\∀y∈x,y<N)->∀x∈(fA pl l i nd b).2,x.length<=B+l.length*2^10/\∀y∈x,y<N
 |[],_,_,_,_,_,_,_,h=>fun x hx=>by simpa using h x hx
 |g::r,i,N,B,nd,b,hg,hN,h=>fun x hx=>by
  rw[fA]at hx;simp only[bz]at hN⊢;have hb:=Gw pl i B g.ins [] b (fun x hx=>(h x hx).1)
  have:=Mh pl r (i+1) N (B+2^10) _ _ (fun y hy=>hg y (by simp[hy])) (by omega) (fun y hy=>by
   have:=hb y hy;have:=hg g (by simp);refine⟨by omega,fun z hz=>?_⟩
   rcases GJ pl i g.ins [] b y hy z hz with h1|⟨w,hw,hzw⟩
   ·omega
   ·exact(h w hw).2 z hzw) x hx
  rw[DI];exact⟨by omega,this.2⟩
theorem aaQ{c:Ct}(hc:cB c):∀x∈bx c,x.length<=2^21/\∀i∈x,i<c.af.length:=fun x hx=>by
 have hN:=hc.2.2.2.1
 have:=Mh (cf c) c.af 0 c.af.length 0 [] (List.replicate c.af.length []) (fun g hg=>(hc.2.2.2.2.1 g hg).2.1) (by omega) (fun y hy=>by
  rw[TM]at hy
  rw[hy.2];simp) x hx
 exact⟨by omega,this.2⟩
def oT(c:Ct)(f:Nat):List Nat:=qc (bx c) f (ee c) (jb (ee c) c.af.length 0 []) []
def Hh(c:Ct)(f:Nat):Prop:=sP (bx c) f (ee c) (jb (ee c) c.af.length 0 []) []
theorem afI(c:Ct){M:List Ob}(hw:cL M){nd:List (List Nat)}(hn:nd.length=c.af.length){m:Nat}(hm:M.length+(10+(c.af.length+c.af.length))<=m):cI m (aC c M nd)=true:=by
 have h1:=hw m (by omega);have h2:=aeS c (n:=M.length) (m:=m) (by omega);have h3:=OM (n:=M.length+6) (m:=m) (bx c) (by rw[gQ];omega);have h4:=Fh (n:=M.length+6) (N:=c.af.length) (m:=nd.length) (q:=m) (by omega);rw[y8,pC,tC,pC,pC,pC,pC,h1,h2,FH,FR];simp[hF,h3,h4];omega
set_option maxRecDepth 8000 in
theorem Z7(c:Ct)(hc:cB c)(hd:(c.af.map (·.name)).Nodup){S:Type}(M:S->List Ob)(F:S->Nat->S)(n L r p:Nat)(hM:∀x,(M x).length=n)(hw:∀x,cL (M x))(hv:∀x,gp (M x))(hr:r<n)(hL:L<n)(hp:∀x,(M x)[p]? =some (.cells (AV.cells (bW c))))(I:S->Nat->Prop)(hI:∀x k a,I x k->a<c.af.length->I (F x a) (k+1))
 (hB:∀x k a T up,I x k->k<2^20->a<c.af.length->(∀m,up.all (jd r m)=true)->(∀m,cH r m T=true)->AM.Reach Tryz.prog Γ ((iR.yl L).cfg [.int .i64 a] up (M x++T)) (.back up (.bool true) (M (F x a)++T)))
 (up:List Fr)(hup:∀m,up.all (jd r m)=true)(x:S)(hI0:I x 0)(f:Nat)(hf:f<=2^14)(hE:Hh c f):
 AM.Reach Tryz.prog Γ (.cl oA [.c8 L,.ptr p 0] up (M x)) (.back up (.aE []) (M ((oT c f).foldl F x))):=by
 have hN:=hc.2.2.2.1;have hi:=Ga (ee c) c.af.length c.af.length 0 [] (by omega) (by simp);obtain⟨T,hT⟩:=afq (Γ:=Γ) c hc (aaQ hc) M F n L r hM hv hr I hI hB up hup f x 0 (ee c) (jb (ee c) c.af.length 0 []) [] (uo c) (WL c) hi.1 (by have:=hi.2;simp only[c9]at this;omega) hI0 (by omega) hE;have h14:=aeJ (Γ:=Γ) c hc (hv x) (ee c) (uo c) L (.ptr p 0) up c.af.length 0 (by omega) [] (aO _);have hwt:=aeL (Γ:=Γ) c hc hd (hw x) (hv x);have hpx:=hp x;have hMx:=hM x
 have key:AM.Reach Tryz.prog Γ (.cl oA [.c8 L,.ptr p 0] up (M x)) (.back up (.aE []) (M ((oT c f).foldl F x)++T)):=by
  have e1:hQ (gY c (M x)) (ee c) (bx c)++([.cells [.sl (n+7) 0 c.af.length,.sl (n+8) 0 c.af.length]])=aC c (M x) (ee c):=by rw[aC,hM]
  have e2:aC c (M x) (ee c)++[.row 1 av [] none true false,.cells [.sl (aC c (M x) (ee c)).length 0 0]]=hP (aC c (M x) (ee c)) [] [] none:=by simp[hP]
  have e3:=pZ (M:=M x) (uo c)
  have e4:(hQ (gY c (M x)) (ee c) (bx c)).length=n+(9+(c.af.length+c.af.length)):=by rw[lT,kh,gQ,uo,hM];omega
  rw[kh]at hwt;rw[hM]at h14 hwt e3;refine .bJ 60 U1 ?_;simp[hpx];have e5:=afI c (hw x) (uo c) (m:=n+(10+(c.af.length+c.af.length))) (by rw[hM];omega);have hpn:=ba hpx;rw[hM]at hpn
  have e7:(aC c (M x) (ee c))[p]? =some (.cells (AV.cells (bW c))):=by rw[y8];exact gR hpx _
  rw[<-e1]at e2 e5 e7 h14 hT;refine .bA 5 hwt ?_;generalize hQ (gY c (M x)) (ee c) (bx c)=X at*;simp
  have et:(X++[Ob.cells [.sl (n+7) 0 c.af.length,.sl (n+8) 0 c.af.length],.row 1 nH [] none true false,.row 1 jq [] none true false]).take (n+(10+(c.af.length+c.af.length)))=X++[.cells [.sl (n+7) 0 c.af.length,.sl (n+8) 0 c.af.length]]:=by
   rw[show n+(10+(c.af.length+c.af.length))=X.length+1 by omega,List.take_length_add_append];rfl
  refine .vf (n:=n+(10+(c.af.length+c.af.length))) et (by simp[hM]) (by simp;omega) e5 ?_
  have hXl:(X++[Ob.cells [.sl (n+7) 0 c.af.length,.sl (n+8) 0 c.af.length]]).length=n+(10+(c.af.length+c.af.length)):=by simp;omega
  rw[hXl]at e2;generalize X++[Ob.cells [.sl (n+7) 0 c.af.length,.sl (n+8) 0 c.af.length]]=A at*;refine .aaU 60 av (es:=[]) (by simp) rfl ?_;have e6:A++[Ob.row 1 av [] none true false,.cells [.sl (n+(10+(c.af.length+c.af.length))) 0 0]]=hP A [] [] none:=e2
  have e8:=fun os=>gR e7 os
  simp[e8,hXl,cr];rw[e6];refine .inLoop ?_
  have e9:n+(10+(c.af.length+c.af.length))+1=n+(11+(c.af.length+c.af.length)):=by omega
  rw[e9,e4,hM];simp at h14⊢;refine .trans h14 ?_;refine .bw 60 ?_;simp;refine .inLoop ?_;unfold oT;simp at hT⊢;exact hT
 have:=AM.Reach.leave key rfl (by
  rw[hM,<-hM ((oT c f).foldl F x),List.take_left]
  exact hw _ _ (aO _))
 rw[hM,<-hM ((oT c f).foldl F x),List.take_left]at this;exact this
theorem Nr(N:List Bs):∀l:List Bs,((iJ N l).1=6/\(iJ N l).2∉N)\/(iJ N l=(0,[])/\∀s∈l,s∈N)
 |[]=>.inr ⟨rfl,fun s hs=>by cases hs⟩
 |a::l=>by
  rw[iJ]
  by_cases h:a∈N
  ·rw[if_pos h]
   rcases Nr N l with h1|⟨h1,h2⟩
   ·exact .inl h1
   ·refine .inr ⟨h1,fun s hs=>?_⟩
    rcases bo.1 hs with rfl|hs
    ·exact h
    ·exact h2 s hs
  ·rw[if_neg h];exact .inl ⟨rfl,h⟩
theorem NQ(r:Int×Bs):∀l:List Gt,jW r l=r/\(∀g∈l,gD g=true)\/(jW r l).1=1
 |[]=>.inl ⟨rfl,fun g hg=>by cases hg⟩
 |g::l=>by
  rw[jW]
  by_cases h:gD g=true
  ·rw[if_pos h]
   rcases NQ r l with⟨h1,h2⟩|h1
   ·refine .inl ⟨h1,fun x hx=>?_⟩
    rcases bo.1 hx with rfl|hx
    ·exact h
    ·exact h2 x hx
   ·exact .inr h1
  ·rw[if_neg h];exact .inr rfl
theorem Nf(r:Int×Bs):∀l:List Lt,lg r l=r/\(∀q∈l,lU q=true)\/(lg r l).1=1
 |[]=>.inl ⟨rfl,fun g hg=>by cases hg⟩
 |g::l=>by
  rw[lg]
  by_cases h:lU g=true
  ·rw[if_pos h]
   rcases Nf r l with⟨h1,h2⟩|h1
   ·refine .inl ⟨h1,fun x hx=>?_⟩
    rcases bo.1 hx with rfl|hx
    ·exact h
    ·exact h2 x hx
   ·exact .inr h1
  ·rw[if_neg h];exact .inr rfl
theorem NT(r:Int×Bs):∀l:List Bs,oU r l=r/\(∀s∈l,fC s=true)\/(oU r l).1=4
 |[]=>.inl ⟨rfl,fun g hg=>by cases hg⟩
 |g::l=>by
  rw[oU]
  by_cases h:fC g=true
  ·rw[if_pos h]
   rcases NT r l with⟨h1,h2⟩|h1
   ·refine .inl ⟨h1,fun x hx=>?_⟩
    rcases bo.1 hx with rfl|hx
    ·exact h
    ·exact h2 x hx
   ·exact .inr h1
  ·rw[if_neg h];exact .inr rfl
theorem PH(t:Option Bs)(r:Int×Bs):(t=none/\nn t r=r)\/(nn t r).1=5:=by
 cases t with
 |none=>exact .inl ⟨rfl,rfl⟩
 |some s=>exact .inr rfl
structure ew(c:Ct):Prop where
 ni:fI c=false
 names:∀s∈qh c,fC s=true
 a8:iF (aD c)=none
 outs:iF c.aq=none
 init:∀q∈c.ah,lU q=true
 af:∀g∈c.af,gD g=true
 used:∀s∈eU c,s∈aD c
theorem abw(c:Ct):((eg c).1≠0/\((eg c).1=6->(eg c).2∉aD c))\/(eg c=(0,[])/\ew c):=by
 unfold eg
 cases hl:fI c with
 |true=>exact .inl ⟨by simp,by simp⟩
 |false=>
  rw[if_neg (by simp)]
  rcases NT (nn (iF (aD c)) (nn (iF c.aq) (lg (jW (iJ (aD c) (eU c)) c.af) c.ah))) (qh c)with⟨e1,h1⟩|h1
  ·rw[e1]
   rcases PH (iF (aD c)) (nn (iF c.aq) (lg (jW (iJ (aD c) (eU c)) c.af) c.ah))with⟨h2,e2⟩|h2
   ·rw[e2]
    rcases PH (iF c.aq) (lg (jW (iJ (aD c) (eU c)) c.af) c.ah)with⟨h3,e3⟩|h3
    ·rw[e3]
     rcases Nf (jW (iJ (aD c) (eU c)) c.af) c.ah with⟨e4,h4⟩|h4
     ·rw[e4]
      rcases NQ (iJ (aD c) (eU c)) c.af with⟨e5,h5⟩|h5
      ·rw[e5]
       rcases Nr (aD c) (eU c)with⟨h6,h7⟩|⟨e6,h6⟩
       ·exact .inl ⟨by rw[h6];decide,fun _=>h7⟩
       ·exact .inr ⟨e6,⟨hl,h1,h2,h3,h4,h5,h6⟩⟩
      ·exact .inl ⟨by rw[h5];decide,fun h=>by rw[h5]at h;cases h⟩
     ·exact .inl ⟨by rw[h4];decide,fun h=>by rw[h4]at h;cases h⟩
    ·exact .inl ⟨by rw[h3];decide,fun h=>by rw[h3]at h;cases h⟩
   ·exact .inl ⟨by rw[h2];decide,fun h=>by rw[h2]at h;cases h⟩
  ·exact .inl ⟨by rw[h1];decide,fun h=>by rw[h1]at h;cases h⟩
theorem D9:∀(l seen:List Bs),lK seen l=none->l.Nodup/\∀s∈l,s∉seen
 |[],seen,_=>⟨List.nodup_nil,fun s hs=>by cases hs⟩
 |a::l,seen,h=>by
  rw[lK]at h
  by_cases hm:a∈seen
  ·rw[if_pos hm]at h;cases h
  ·rw[if_neg hm]at h;obtain⟨h1,h2⟩:=D9 l _ h;refine⟨kM.2 ⟨fun ha=>h2 a ha (by simp),h1⟩,fun s hs=>?_⟩
   rcases bo.1 hs with rfl|hs
   ·exact hm
   ·exact fun hs2=>h2 s hs (by simp[hs2])
theorem ew.nodup{c:Ct}(h:ew c):(aD c).Nodup:=(D9 _ _ h.a8).1
def GtB(g:Gt):Prop:=g.name.length<2^40/\g.ins.length<2^40/\g.rows.length<2^40/\(∀s∈g.ins,s.length<2^40)/\∀s∈g.rows,s.length<2^40
def jF(c:Ct):Prop:=c.an.length<2^40/\c.aq.length<2^40/\c.ah.length<2^40/\c.af.length<2^40/\(∀g∈c.af,GtB g)/\
 (∀s∈c.an,s.length<2^40)/\(∀s∈c.aq,s.length<2^40)/\∀q∈c.ah,q.name.length<2^40/\q.next.length<2^40
theorem PF{α:Type}{p:α->Bool}:∀{l:List α},bC p l=false->∀x∈l,p x=false
 |[],_,x,hx=>by cases hx
 |a::l,h,x,hx=>by
  rw[lF,j_]at h
  rcases bo.1 hx with rfl|hx
  ·exact h.1
  ·exact PF h.2 x hx
theorem Lp{c:Ct}(hb:jF c)(hl:fI c=false):cB c:=by
 simp only[fI,j_,iz]at hl;obtain⟨h1,h2,h3⟩:=hl;obtain⟨b1,b2,b3,b4,b5,b6⟩:=hb;refine⟨by omega,by omega,by omega,by omega,fun g hg=>?_,b6⟩;obtain⟨g1,g2,g3,g4⟩:=b5 g hg;have:=PF h1 g hg;simp only[sI,j_,iz]at this;exact⟨g1,by omega,by omega,g4⟩
set_option maxRecDepth 8000 in
theorem FW(hΓ:eG Γ)(c:Ct)(hb:jF c):aP Tryz.prog Γ nK [bW c] (te (eg c)):=by
 cases hl:fI c with
 |false=>exact acO hΓ c (Lp hb hl)
 |true=>
  have b0:=hb.1;have b1:=hb.2.1;have b3:=hb.2.2.1;have b4:=hb.2.2.2.1;have hC:=J9 (Γ:=Γ) (fl:=false) (Pb c.af) c.hG (by omega) (h:=IN c) trivial;have e0:((c.an.length:Int)+c.ah.length+c.af.length<=200)=(c.an.length+c.ah.length+c.af.length<=200):=propext (by omega);have e1:((c.aq.length:Int)<=200)=(c.aq.length<=200):=propext (by omega);refine .run 160 KK (by simp) ?_;unfold eg
  by_cases h1:c.an.length+c.ah.length+c.af.length<=200
  ·by_cases h2:c.aq.length<=200
   ·simp(disch:=omega) [e0,e1,h1,h2];refine .bA 160 hC ?_
    have h3:bC sI c.af=true:=by
     simp only[fI,fv,aW]at hl
     rcases hl with h|h|h
     ·exact h
     ·omega
     ·omega
    rw[h3];simp;refine .lV 160 (by simp) (mw 8 []) ?_;simp;refine .dr 90 ?_;simp;exact .back (by simp[hl])
   ·simp(disch:=omega) [e0,e1,h1,h2];refine .lV 160 (by simp) (mw 8 []) ?_;simp;refine .dr 90 ?_;simp;exact .back (by simp[hl])
  ·simp(disch:=omega) [e0,e1,h1];refine .lV 160 (by simp) (mw 8 []) ?_;simp;refine .dr 90 ?_;simp;exact .back (by simp[hl])
def kW(c:Ct):Bool:=decide ((eg c).1=0)
theorem O4(hΓ:eG Γ)(c:Ct)(hb:jF c):aP Tryz.prog Γ Ax [bW c] (.bool (kW c)):=by
 have hC:=FW hΓ c hb;unfold kW;generalize eg c=r at*;obtain⟨e,s⟩:=r;refine .run 60 VX (by simp) ?_;simp;refine .call 60 (by simp) hC ?_;simp;exact .back (by simp)
theorem Bl{c:Ct}(h:kW c=true):ew c/\eg c=(0,[]):=by
 rcases abw c with⟨h1,_⟩|⟨h1,h2⟩
 ·exact absurd (qP h) h1
 ·exact⟨h2,h1⟩
theorem uB{c:Ct}(hb:jF c)(h:kW c=true):cB c:=Lp hb (Bl h).1.ni
theorem ue{c:Ct}(h:kW c=true):(c.af.map (·.name)).Nodup:=by
 have:=(Bl h).1.nodup;rw[aD,jM]at this;exact this.2.1
def jU(c:Ct)(out:List Nat):List (Bs×Nat):=(cf c).filter fun x=>!out.contains x.2
theorem GO{c:Ct}{x:Bs×Nat}(hx:x∈cf c):∃h:x.2<c.af.length,x.1=c.af[x.2].name:=by
 obtain⟨j,hj,rfl⟩:=eM hx;rw[uV]at hj;rw[xV c j hj];exact⟨hj,rfl⟩
theorem BK{c:Ct}(hd:(c.af.map (·.name)).Nodup){i j:Nat}(hi:i<c.af.length)(hj:j<c.af.length)(h:c.af[i].name=c.af[j].name):i=j:=by
 have h1:(c.af.map (·.name))[i]'(by simpa using hi)=(c.af.map (·.name))[j]'(by simpa using hj):=by simpa using h
 exact(z8 hd).1 h1
theorem Zi{c:Ct}(hd:(c.af.map (·.name)).Nodup)(out:List Nat){a:Nat}(ha:a<c.af.length):o6 c.af[a].name (jU c out)=jU c (out++[a]):=by
 unfold o6 jU;rw[List.filter_filter];apply List.filter_congr;intro x hx;obtain⟨h1,h2⟩:=GO hx;have e:(x.1=c.af[a].name)↔x.2=a:=⟨fun h=>BK hd h1 ha (by rw[<-h2,h]),fun h=>by rw[h2];simp[h]⟩;rw[iB];simp only[ay,aW,iA,wh,iz,aN,cq,not_or,e];exact⟨fun h=>⟨h.2,h.1⟩,fun h=>⟨h.2,h.1⟩⟩
theorem WT{c:Ct}(hd:(c.af.map (·.name)).Nodup)(out:List Nat):((jU c out).map (·.1)).Nodup:=by
 have h1:((cf c).map (·.1)).Nodup:=by rw[abt];exact hd
 exact h1.sublist ((TN).map _)
theorem MG(c:Ct):jU c []=cf c:=by simp[jU]
theorem MA{c:Ct}(hd:(c.af.map (·.name)).Nodup)(out:List Nat){i:Nat}(hi:i<c.af.length):getM c.af[i].name (jU c out)=if i∈out then none else some i:=by
 have key:∀l:List (Bs×Nat),(∀x∈l,x∈cf c)->getM c.af[i].name (l.filter fun x=>!out.contains x.2)=if i∈out then none else if(c.af[i].name,i)∈l then some i else none:=by
  intro l
  induction l with
  |nil=>intro _;simp[getM]
  |cons x l ih=>
   intro hl;obtain⟨h1,h2⟩:=GO (hl x (by simp))
   have ih:=ih fun y hy=>hl y (by simp[hy])
   by_cases hx:x.2=i
   ·have hx1:x=(c.af[i].name,i):=by
     obtain⟨a,b⟩:=x;simp only at hx h2;subst hx;rw[h2]
    by_cases ho:i∈out
    ·rw[nF,if_neg (by rw[hx1];simpa using ho),ih,if_pos ho,if_pos ho]
    ·rw[nF,if_pos (by rw[hx1];simpa using ho),if_neg ho,hx1];simp[getM]
   ·have hne:¬c.af[i].name=x.1:=fun h=>hx (BK hd h1 hi (by rw[<-h2,h])).symm.symm
    have hm:((c.af[i].name,i)∈x::l)↔(c.af[i].name,i)∈l:=by
     rw[bo];exact⟨fun h=>h.resolve_left fun h=>hx (by rw[<-h]),.inr⟩
    rw[nF]
    split
    ·rw[getM,if_neg hne,ih];simp only[hm]
    ·rw[ih];simp only[hm]
 have hm:(c.af[i].name,i)∈cf c:=by
  have:=bF (l:=cf c) (n:=i) (by rw[uV];exact hi);rwa[xV c i hi]at this
 rw[jU,key _ fun x hx=>hx,if_pos hm]
abbrev lpS:Ob:=.loop .ready .none nJ [U,.ptr 0 0,.sl 1 0 0,.sl 2 0 0,.ptr 3 0,.ptr 7 0,U,U,U,U,U,U,U,U,U,U,U,U,U,U,U,U,U,U,U,U,U,U,U,U,U,U,U,U,U,U,U,U,U,U,U,U,U,U,U,U,U,U,U,U,U,U,U,U] [19] (.ae HE) Ij
abbrev lpE:Ob:=.loop .exhausted .none nJ [U,.ptr 0 0,.sl 1 0 0,.sl 2 0 0,.ptr 3 0,.ptr 7 0,U,U,U,U,U,U,U,U,U,U,U,U,U,U,U,U,U,U,U,U,U,U,U,U,U,U,U,U,U,U,U,U,U,U,U,U,U,U,U,U,U,U,U,U,U,U,U,U] [19] (.ae HE) Ij
abbrev hS(c:Ct)(out:List Nat):List Ob:=[.cells (AV.cells (bW c)),.row 1 av [] none true false,.row 1 aw [] none true false,.cells [.sl 4 0 out.length],.row 1 av (out.map iN) none true false,.cells (AV.cells (bW c)),.map ((jU c out).map lu) true,.cells [.mp 6],.cells (AV.cells (bW c)),.bH true,lpS]
set_option maxRecDepth 8000 in
theorem aeH(c:Ct)(hd:(c.af.map (·.name)).Nodup)(out:List Nat)(a:Nat)(T:List Ob)(up:List Fr)(ho:out.length<2^20)(ha:a<c.af.length)(hup:∀m,up.all (jd 4 m)=true)(hT:∀m,cH 4 m T=true):
 AM.Reach Tryz.prog Γ ((iR.yl 10).cfg [.int .i64 a] up (hS c out++T)) (.back up (.bool true) (hS c (out++[a])++T)):=by
 have q2:=bU (c.hG.of ha);have hdl:=MP (E:=.sc .str) (e:=AV.str) sK (fun n:Nat=>AV.int .i64 n) c.af[a].name (WT hd out);rw[Zi hd out ha]at hdl
 have hle:(out.length+1)*8<=140737488355328:=by omega
 have hvp:=fun m=>sO 4 m (jU c out)
 simp[iR.cfg];refine .bw 13 ?_;simp(disch:=omega) [hle];refine .trans (.n9 [19,20,21,22,23] _) ?_;simp[oa];refine .acu (i:=4) rfl (by simp) (hup _) (by simp[hT,hvp]) ?_;refine .bw 60 ?_;simp[q2,ha,hdl,isKey,bM,cj]
theorem adu(c:Ct)(out:List Nat):cL (hS c out):=fun m hm=>by
 have h1:=vc m (jU c out);simp at hm
 simp[h1];omega
theorem adM(c:Ct)(out:List Nat):gp (hS c out):=fun i m hi=>by
 have h1:=sO i m (jU c out);simp at hi
 simp[h1];omega
def kv(out:List Nat):List Gt->Nat->List Bs
 |[],_=>[]
 |g::r,i=>if i∈out then kv out r (i+1)else g.name::kv out r (i+1)
set_option maxRecDepth 8000 in
theorem ac1(c:Ct)(hc:cB c)(hd:(c.af.map (·.name)).Nodup)(out:List Nat):∀n i:Nat,i+n=c.af.length->∀l:List Bs,l.length<=i->
 aB Tryz.prog Γ (yeO (.ptr 3 0) (.ptr 7 0) (.sl 11 0 l.length) (.list false c.kG (c.af.map eo)) (.int .i64 c.af.length) (.int .i64 i)
  [.cells (AV.cells (bW c)),.row 1 av [] none true false,.row 1 aw [] none true false,.cells [.sl 4 0 out.length],.row 1 av (out.map iN) none true false,.cells (AV.cells (bW c)),.map ((jU c out).map lu) true,.cells [.mp 6],.cells (AV.cells (bW c)),.bH true,lpE,.row 1 aw (l.map .str) none true false] ⟨[.mark 9],.norm,0,[]⟩)
  (.ret (.aE [.own 1 av (out.map iN),.own 1 aw ((l++kv out (c.af.drop i) i).map .str)])):=by
 have hN:=hc.2.2.2.1
 have hbp:=fun m=>vc m (jU c out)
 have hvp:=fun i m=>sO i m (jU c out)
 intro n
 induction n with
 |zero=>
  intro i hi l hl
  have q1:¬i<c.af.length:=by omega
  rw[bT (by omega),kv,eR];refine .go 60 ?_;simp[q1];exact .back (by simp)
 |succ n ih=>
  intro i hi l hl
  have q1:i<c.af.length:=by omega
  have q2:=bU (c.hG.of q1);have hfi:=xd (E:=.sc .str) (e:=AV.str) sK (fun n:Nat=>AV.int .i64 n) c.af[i].name (jU c out);rw[MA hd out q1]at hfi;rw[bZ q1,kv]
  by_cases h0:i∈out
  ·have hh:=ih (i+1) (by omega) l (by omega);rw[if_pos h0]at hfi⊢;refine .go 90 ?_;simp(disch:=omega) [q1,q2,hfi,isKey,bM,cj];refine .aR ?_;simp;refine .drop 12 rfl (by simp) (by simp) (by simp[hbp]) ?_;simp at hh⊢;exact hh
  ·have hh:=ih (i+1) (by omega) (l++[c.af[i].name]) (by simp;omega)
   have hle:((l.length:Int)+1)*16<=140737488355328:=by omega
   rw[if_neg h0]at hfi⊢;refine .go 90 ?_;simp(disch:=omega) [q1,q2,hfi,isKey,bM,cj,hle];refine .aR ?_;simp;refine .drop 12 rfl (by simp) (by simp) (by simp[hbp]) ?_;refine .reset (i:=11) rfl (by simp) (by simp) (by simp[hvp]) ?_;simp at hh⊢;exact hh
set_option maxRecDepth 8000 in
theorem aeP(hΓ:eG Γ)(c:Ct)(hb:jF c)(hr:kW c=true)(f:Nat)(hf:f<=2^14)(hE:Hh c f)(hl:(oT c f).length<2^20):aP Tryz.prog Γ nJ [bW c] (.aE [.own 1 av ((oT c f).map iN),.own 1 aw ((kv (oT c f) c.af 0).map .str)]):=by
 have hc:=uB hb hr;have hd:=ue hr;have hR:=O4 hΓ c hb;rw[hr]at hR
 have hpl:=fun h hw up=>Oi (Γ:=Γ) c hc (ue hr) (h:=h) hw up
 have hfold:∀(l out:List Nat),l.foldl (fun x a=>x++[a]) out=out++l:=by
  intro l
  induction l with
  |nil=>intro out;simp
  |cons a l ih=>intro out;rw[pn,ih];simp
 have hcm:=fun up hup=>Z7 (Γ:=Γ) c hc hd (hS c) (fun x a=>x++[a]) 11 10 4 8 (fun _=>rfl) (adu c) (adM c) (by omega) (by omega) (fun _=>rfl) (fun x k=>x.length=k) (fun x k a h _=>by simp[h]) (fun x k a T up h hk ha hup hT=>aeH c hd x a T up (by omega) ha hup hT) up hup [] rfl f hf hE
 rw[hfold,kK]at hcm;have h1:=ac1 (Γ:=Γ) c hc hd (oT c f) c.af.length 0 (by omega) [] (by simp);refine .run 60 Kq (by simp) ?_;simp;refine .call 60 (by simp) hR ?_;simp;refine .bA 60 (hpl _ ?_) ?_
 ·intro m hm;simp at hm
  simp;omega
 simp;refine .go 60 ?_;simp;refine .enter 60 VB ?_;simp;rw[<-MG c];refine .reach (hcm _ ?_) (.go 60 ?_)
 ·simp
 simp;refine .inLoop ?_;simp at h1⊢;exact h1
theorem adG(hΓ:eG Γ)(c:Ct)(hb:jF c)(hr:kW c=false):aP Tryz.prog Γ nJ [bW c] (.aE [.own 1 av [],.own 1 aw []]):=by
 have hR:=O4 hΓ c hb;rw[hr]at hR;refine .run 60 Kq (by simp) ?_;simp;refine .call 60 (by simp) hR ?_;simp;exact .back (by simp)
end Go.Proofs.YtchjijfjidlpjaaGreatDoor
namespace Go.Proofs.YtchjijfjidlpjaaGreatDoor
open Go.AM Go.Proofs
def eJ(c:Ct)(i j:Nat):Bool:=match c.af[i]?,c.af[j]? with
 |some g,some h=>g.ins.contains h.name
 |_,_=>false
theorem q9{c:Ct}{i j:Nat}(h:eJ c i j=true):i<c.af.length/\j<c.af.length:=by
 unfold eJ at h
 split at h
 ·rename_i g h' h1 h2;exact⟨(dd.1 h1).1,(dd.1 h2).1⟩
 ·cases h
theorem y0{c:Ct}{i j:Nat}(hi:i<c.af.length)(hj:j<c.af.length):eJ c i j=true↔c.af[j].name∈c.af[i].ins:=by
 simp[eJ,hi,hj]
theorem On{K V:Type}[DecidableEq K]{k:K}{v:V}:∀{l:List (K×V)},getM k l=some v->(k,v)∈l
 |[],h=>by cases h
 |(a,u)::l,h=>by
  rw[getM]at h
  split at h
  ·rename_i h1;cases h;subst h1;simp
  ·exact dP _ (On h)
theorem P7{c:Ct}(hd:(c.af.map (·.name)).Nodup){s:Bs}{k:Nat}:getM s (cf c)=some k↔∃h:k<c.af.length,c.af[k].name=s:=by
 constructor
 ·intro h;obtain⟨h1,h2⟩:=GO (On h);exact⟨h1,h2.symm⟩
 ·rintro⟨h,rfl⟩
  have:=MA hd [] h;rw[MG]at this;simpa using this
theorem Bb(pl:List (Bs×Nat))(x:Nat):∀(l:List Bs)(a:List Nat),x∈eX pl l a↔x∈a\/∃s∈l,getM s pl=some x
 |[],a=>by simp[eX]
 |s::r,a=>by
  rw[eX]
  split
  ·rename_i h0;rw[Bb pl x r a];simp[h0]
  ·rename_i k h0;rw[Bb pl x r]
   have hk:(x∈if k∈a then a else a++[k])↔x∈a\/x=k:=by
    split
    ·rename_i hm;exact⟨.inl,fun h=>h.elim id fun h=>h▸hm⟩
    ·simp
   rw[hk];simp only[bo,exists_eq_or_imp,h0,aj];constructor
   ·rintro((h|h)|h)
    ·exact .inl h
    ·exact .inr (.inl h.symm)
    ·exact .inr (.inr h)
   ·rintro(h|h|h)
    ·exact .inl (.inl h)
    ·exact .inl (.inr h.symm)
    ·exact .inr h
theorem Be(pl:List (Bs×Nat)):∀(l:List Gt)(i:Nat)(nd b:List (List Nat)),(fA pl l i nd b).1=nd++l.map fun g=>eX pl g.ins []
 |[],_,_,_=>by simp[fA]
 |g::r,i,nd,b=>by rw[fA,Be pl r];simp
theorem xh{c:Ct}(hd:(c.af.map (·.name)).Nodup){i:Nat}(hi:i<c.af.length)(x:Nat):x∈(ee c).getD i []↔eJ c i x=true:=by
 have e:(ee c).getD i []=eX (cf c) c.af[i].ins []:=by
  rw[ee,Be];simp[hi]
 rw[e,Bb];constructor
 ·rintro(h|⟨s,hs,h⟩)
  ·cases h
  ·obtain⟨h1,h2⟩:=(P7 hd).1 h;exact(y0 hi h1).2 (h2▸hs)
 ·intro h;obtain⟨_,h1⟩:=q9 h;exact .inr ⟨_,(y0 hi h1).1 h,(P7 hd).2 ⟨h1,rfl⟩⟩
theorem B6(pl:List (Bs×Nat))(i k:Nat):∀(l:List Bs)(a:List Nat)(b:List (List Nat)),k<b.length->(jD pl i l a b).getD k []=if k∈eX pl l a/\k∉a then b.getD k []++[i]else b.getD k []
 |[],a,b,hk=>by
  rw[jD,eX,if_neg (fun h=>h.2 h.1)]
 |s::r,a,b,hk=>by
  rw[jD,eX]
  split
  ·exact B6 pl i k r a b hk
  ·rename_i k0 h0
   by_cases hm:k0∈a
   ·simp only[if_pos hm];exact B6 pl i k r a b hk
   ·simp only[if_neg hm];rw[B6 pl i k r _ _ (by simpa using hk)]
    have hset:(b.set k0 (b.getD k0 []++[i])).getD k []=if k0=k then b.getD k []++[i]else b.getD k []:=by
     simp only[bj,om]
     by_cases h1:k0=k
     ·subst h1;simp[hk]
     ·simp[h1]
    rw[hset]
    by_cases h1:k0=k
    ·subst h1;have hin:k0∈eX pl r (a++[k0]):=(Bb pl k0 r _).2 (.inl (by simp));rw[if_neg (by simp),if_pos rfl,if_pos ⟨hin,hm⟩]
    ·have hiff:(k∈eX pl r (a++[k0])/\k∉a++[k0])↔(k∈eX pl r (a++[k0])/\k∉a):=by
      simp only[aN,cq,not_or];exact⟨fun h=>⟨h.1,h.2.1⟩,fun h=>⟨h.1,h.2,fun h2=>h1 h2.symm⟩⟩
     rw[if_neg h1];simp only[hiff]
def nj(pl:List (Bs×Nat))(k:Nat):List Gt->Nat->List Nat
 |[],_=>[]
 |g::r,i=>if k∈eX pl g.ins []then i::nj pl k r (i+1)else nj pl k r (i+1)
theorem Mt(pl:List (Bs×Nat))(k:Nat):∀(l:List Gt)(i:Nat)(nd b:List (List Nat)),k<b.length->(fA pl l i nd b).2.getD k []=b.getD k []++nj pl k l i
 |[],_,_,_,_=>by simp[fA,nj]
 |g::r,i,nd,b,hk=>by
  rw[fA,Mt pl k r _ _ _ (by rw[xU];exact hk),B6 pl i k g.ins [] b hk,nj]
  split
  ·rename_i h
   rw[if_pos h.1];simp
  ·rename_i h;rw[if_neg fun h1=>h ⟨h1,by simp⟩]
theorem Gy(pl:List (Bs×Nat))(k j:Nat):∀(l:List Gt)(i:Nat),j∈nj pl k l i↔∃t,∃h:t<l.length,j=i+t/\k∈eX pl l[t].ins []
 |[],i=>by simp[nj]
 |g::r,i=>by
  have ih:=Gy pl k j r (i+1)
  have hs:(∃t,∃h:t<(g::r).length,j=i+t/\k∈eX pl (g::r)[t].ins [])↔(j=i/\k∈eX pl g.ins [])\/∃t,∃h:t<r.length,j=i+1+t/\k∈eX pl r[t].ins []:=by
   constructor
   ·rintro⟨t,h,e,hm⟩
    cases t with
    |zero=>exact .inl ⟨e,hm⟩
    |succ t=>exact .inr ⟨t,by simpa using h,by omega,hm⟩
   ·rintro(⟨e,hm⟩|⟨t,h,e,hm⟩)
    ·exact⟨0,by simp,e,hm⟩
    ·exact⟨t+1,by simpa using h,by omega,hm⟩
  rw[hs,nj]
  split
  ·rename_i h0;simp only[bo,ih,h0,rO]
  ·rename_i h0;simp only[ih,h0,and_false,false_or]
theorem Fl(pl:List (Bs×Nat))(k:Nat):∀(l:List Gt)(i:Nat),(nj pl k l i).Nodup
 |[],i=>by simp[nj]
 |g::r,i=>by
  rw[nj]
  split
  ·rw[kM];refine⟨fun h=>?_,Fl pl k r (i+1)⟩;obtain⟨t,_,e,_⟩:=(Gy pl k i r (i+1)).1 h;omega
  ·exact Fl pl k r (i+1)
theorem Pf(c:Ct){k:Nat}(hk:k<c.af.length):(bx c).getD k []=nj (cf c) k c.af 0:=by
 rw[bx,Mt _ _ _ _ _ _ (by simpa using hk)];simp[hk]
theorem uP{c:Ct}(hd:(c.af.map (·.name)).Nodup){k:Nat}(hk:k<c.af.length)(i:Nat):i∈(bx c).getD k []↔eJ c i k=true:=by
 rw[Pf c hk,Gy];constructor
 ·rintro⟨t,ht,e,hm⟩
  have:i=t:=by omega
  subst this;rw[<-xh hd ht,ee,Be];simpa[ht]using hm
 ·intro h;obtain⟨hi,_⟩:=q9 h;refine⟨i,hi,by omega,?_⟩;rw[<-xh hd hi,ee,Be]at h;simpa[hi]using h
theorem Lh(c:Ct){k:Nat}(hk:k<c.af.length):((bx c).getD k []).Nodup:=by rw[Pf c hk];exact Fl _ _ _ _
def jA(c:Ct)(done:List Nat)(k:Nat):Bool:=!done.contains k&&(List.range c.af.length).all fun x=>!eJ c k x||done.contains x
theorem iX{c:Ct}{done:List Nat}{k:Nat}:jA c done k=true↔k∉done/\∀x,eJ c k x=true->x∈done:=by
 simp only[jA,ay,iA,wh,iz,dU,dL,fv,aW];constructor
 ·rintro⟨h1,h2⟩
  refine⟨h1,fun x hx=>?_⟩
  rcases h2 x (q9 hx).2 with h|h
  ·rw[h]at hx;cases hx
  ·exact h
 ·rintro⟨h1,h2⟩
  refine⟨h1,fun x _=>?_⟩
  cases hx:eJ c k x with
  |false=>exact .inl rfl
  |true=>exact .inr (h2 x hx)
def kZ(c:Ct)(done:List Nat):Option Nat:=(List.range c.af.length).find? (jA c done)
def gW(c:Ct):Nat->List Nat->List Nat
 |0,_=>[]
 |f+1,done=>match kZ c done with
  |none=>[]
  |some k=>k::gW c f (done++[k])
def aV(c:Ct):List Nat:=gW c c.af.length []
theorem LG{c:Ct}{done:List Nat}{a:Nat}(ha:a<c.af.length)(h1:jA c done a=true)(h2:∀j<a,jA c done j=false):kZ c done=some a:=by
 rw[kZ,List.find?_range_eq_some];exact⟨h1,by simpa using ha,fun j hj=>by simp[h2 j hj]⟩
theorem Ya{c:Ct}{done:List Nat}(h:∀a<c.af.length,jA c done a=false):kZ c done=none:=by
 rw[kZ,List.find?_eq_none];intro x hx
 rw[h x (by simpa using hx)];simp
theorem Oc{c:Ct}{done:List Nat}{a:Nat}(h:kZ c done=some a):a<c.af.length/\jA c done a=true/\∀j<a,jA c done j=false:=by
 rw[kZ,List.find?_range_eq_some]at h;exact⟨by simpa using h.2.1,h.1,fun j hj=>by simpa using h.2.2 j hj⟩
theorem aaG{c:Ct}{done:List Nat}(h:kZ c done=none){a:Nat}(ha:a<c.af.length):jA c done a=false:=by
 rw[kZ,List.find?_eq_none]at h;simpa using h a (by simpa using ha)
structure Inv(c:Ct)(done:List Nat)(nd:List (List Nat))(l:List Nat):Prop where
 len:nd.length=c.af.length
 SP:∀i<c.af.length,∀x,x∈nd.getD i []↔eJ c i x=true/\x∉done
 ls:∀i,i∈l↔i<c.af.length/\jA c done i=true
 zw:l.Nodup
 heap:k9 l.length l
 R8:done.Nodup
 lt:∀x∈done,x<c.af.length
 all:∀i∈done,∀x,eJ c i x=true->x∈done
structure ta(c:Ct)(done:List Nat)(a:Nat)(r:List Nat)(nd:List (List Nat))(l:List Nat):Prop where
 len:nd.length=c.af.length
 lr:∀i<c.af.length,i∈r->∀x,x∈nd.getD i []↔eJ c i x=true/\x∉done
 new:∀i<c.af.length,i∉r->∀x,x∈nd.getD i []↔eJ c i x=true/\x∉done++[a]
 ls:∀i,i∈l↔i<c.af.length/\i∉r/\jA c (done++[a]) i=true
 zw:l.Nodup
 heap:k9 l.length l
theorem aca(a:Nat)(l:List Nat)(x:Nat):x∈dm a l↔x∈l/\x≠a:=by simp[dm]
theorem ta.run{c:Ct}{done:List Nat}{a:Nat}(ha:a∉done)(haa:∀x,eJ c a x=true->x∈done)(hall:∀i∈done,∀x,eJ c i x=true->x∈done):∀(r:List Nat)(nd:List (List Nat))(l s:List Nat),r.Nodup->(∀i∈r,eJ c i a=true)->ta c done a r nd l->
 ta c done a [] (eF a r nd l s).1 (eF a r nd l s).2.1
 |[],nd,l,s,_,_,h=>h
 |i::r,nd,l,s,hr,hW,h=>by
  have hi:=(q9 (hW i (by simp))).1;rw[kM]at hr
  have hil:i∉l:=fun hm=>((h.ls i).1 hm).2.1 (by simp)
  have hid:i∉done:=fun hm=>ha (hall i hm a (hW i (by simp)))
  have hia:i≠a:=fun he=>ha (haa a (he▸hW i (by simp)))
  have hg:∀j,(nd.set i (dm a (nd.getD i []))).getD j []=if i=j then dm a (nd.getD i [])else nd.getD j []:=fun j=>by
   simp only[bj,om]
   by_cases h1:i=j
   ·subst h1;simp[h.len,hi]
   ·simp[h1]
  have hmem:∀x,x∈dm a (nd.getD i [])↔eJ c i x=true/\x∉done++[a]:=fun x=>by
   rw[aca,h.lr i hi (by simp) x];simp only[aN,cq,not_or];exact⟨fun h=>⟨h.1.1,h.1.2,h.2⟩,fun h=>⟨⟨h.1,h.2.1⟩,h.2.2⟩⟩
  have hold:∀j<c.af.length,j∈r->∀x,x∈(nd.set i (dm a (nd.getD i []))).getD j []↔eJ c j x=true/\x∉done:=fun j hj hjr x=>by
   have hne:¬i=j:=fun he=>hr.1 (he▸hjr)
   rw[hg,if_neg hne];exact h.lr j hj (by simp[hjr]) x
  have hnew:∀j<c.af.length,j∉r->∀x,x∈(nd.set i (dm a (nd.getD i []))).getD j []↔eJ c j x=true/\x∉done++[a]:=fun j hj hjr x=>by
   rw[hg]
   by_cases he:i=j
   ·subst he;rw[if_pos rfl];exact hmem x
   ·rw[if_neg he];exact h.new j hj (by simp only[bo,not_or];exact⟨fun h=>he h.symm,hjr⟩) x
  rw[eF]
  split
  ·rename_i h0;refine ta.run ha haa hall r _ _ _ hr.2 (fun j hj=>hW j (by simp[hj])) ⟨by simpa using h.len,hold,hnew,fun j=>?_,?_,Lm h.heap i⟩
   ·rw[(xg l i).mem_iff,bo];constructor
    ·rintro(rfl|hj)
     ·refine⟨hi,hr.1,iX.2 ⟨by simp[hid,hia],fun x hx=>?_⟩⟩
      refine DJ fun hn=>?_
      have:=(hmem x).2 ⟨hx,hn⟩
      rw[h0]at this;cases this
     ·have:=(h.ls j).1 hj;exact⟨this.1,fun h2=>this.2.1 (by simp[h2]),this.2.2⟩
    ·rintro⟨h1,h2,h3⟩
     by_cases he:j=i
     ·exact .inl he
     ·exact .inr ((h.ls j).2 ⟨h1,by simp only[bo,not_or];exact⟨he,h2⟩,h3⟩)
   ·rw[(xg l i).nodup_iff,kM];exact⟨hil,h.zw⟩
  ·rename_i h0;refine ta.run ha haa hall r _ _ _ hr.2 (fun j hj=>hW j (by simp[hj])) ⟨by simpa using h.len,hold,hnew,fun j=>?_,h.zw,h.heap⟩;rw[h.ls j];refine⟨fun⟨h1,h2,h3⟩=>⟨h1,fun h4=>h2 (by simp[h4]),h3⟩,fun⟨h1,h2,h3⟩=>⟨h1,?_,h3⟩⟩;simp only[bo,not_or];refine⟨fun he=>?_,h2⟩;subst he;apply h0;rw[JQ];intro x hx;obtain⟨h5,h6⟩:=(hmem x).1 hx;exact h6 ((iX.1 h3).2 x h5)
theorem Inv.step{c:Ct}(hd:(c.af.map (·.name)).Nodup){done:List Nat}{nd:List (List Nat)}{l:List Nat}(h:Inv c done nd l)(h0:l≠[])(s:List Nat):
 kZ c done=some (bm l)/\Inv c (done++[bm l]) (eF (bm l) ((bx c).getD (bm l) []) nd (dD l) s).1 (eF (bm l) ((bx c).getD (bm l) []) nd (dD l) s).2.1:=by
 have hpos:0<l.length:=rQ.2 h0;have hhr:=MY hpos;have hal:bm l∈l:=hhr.mem_iff.1 (by simp);obtain⟨ha,hmay⟩:=(h.ls _).1 hal;obtain⟨had,haa⟩:=iX.1 hmay;have hnod:=hhr.nodup_iff.2 h.zw;rw[kM]at hnod
 have hn:kZ c done=some (bm l):=LG ha hmay fun j hj=>by
  rw[JS];intro hm;have:=abX h.heap hpos ((h.ls j).2 ⟨by omega,hm⟩);omega
 refine⟨hn,?_⟩
 have hR:ta c done (bm l) ((bx c).getD (bm l) []) nd (dD l):=by
  refine⟨h.len,fun i hi _ x=>h.SP i hi x,fun i hi hir x=>?_,fun i=>?_,hnod.2,XJ h.heap hpos⟩
  ·rw[h.SP i hi x];refine⟨fun⟨h1,h2⟩=>⟨h1,?_⟩,fun⟨h1,h2⟩=>⟨h1,fun h3=>h2 (by simp[h3])⟩⟩;simp only[aN,cq,not_or];exact⟨h2,fun he=>hir ((uP hd ha i).2 (he▸h1))⟩
  ·have hil:i∈l↔i=bm l\/i∈dD l:=by rw[<-hhr.mem_iff,bo]
   constructor
   ·intro hi;obtain⟨h1,h2⟩:=(h.ls i).1 (hil.2 (.inr hi));obtain⟨h3,h4⟩:=iX.1 h2;refine⟨h1,fun hb=>?_,iX.2 ⟨?_,fun x hx=>by simp[h4 x hx]⟩⟩
    ·exact had (h4 _ ((uP hd ha i).1 hb))
    ·simp only[aN,cq,not_or];exact⟨h3,fun he=>hnod.1 (he▸hi)⟩
   ·rintro⟨h1,h2,h3⟩
    obtain⟨h4,h5⟩:=iX.1 h3;simp only[aN,cq,not_or]at h4
    have hi:i∈l:=(h.ls i).2 ⟨h1,iX.2 ⟨h4.1,fun x hx=>by
     have:=h5 x hx;simp only[aN,cq]at this
     rcases this with h6|h6
     ·exact h6
     ·exact absurd ((uP hd ha i).2 (h6▸hx)) h2⟩⟩
    exact(hil.1 hi).resolve_left h4.2
 have hE:=ta.run had haa h.all _ _ _ s (Lh c ha) (fun i hi=>(uP hd ha i).1 hi) hR;refine⟨hE.len,fun i hi x=>hE.new i hi (by simp) x,fun i=>by rw[hE.ls i];simp,hE.zw,hE.heap,?_,fun x hx=>?_,fun i hi x hx=>?_⟩
 ·rw[jM];refine⟨h.R8,by simp,fun x hx y hy=>?_⟩;rw[cq]at hy;subst hy
  exact fun he=>had (he▸hx)
 ·rcases aN.1 hx with h1|h1
  ·exact h.lt x h1
  ·rw[cq]at h1;subst h1;exact ha
 ·rcases aN.1 hi with h1|h1
  ·simp[h.all i h1 x hx]
  ·rw[cq]at h1;subst h1;simp[haa x hx]
theorem F3:∀(N:Nat)(l:List Nat),l.Nodup->(∀x∈l,x<N)->l.length<=N
 |0,[],_,_=>aO _
 |0,x::l,_,h=>absurd (h x (by simp)) (by omega)
 |N+1,l,hn,h=>by
  have h1:=F3 N (l.erase N) (hn.erase N) fun x hx=>by
   obtain⟨h2,h3⟩:=hn.mem_erase_iff.1 hx
   have:=h x h3;omega
  by_cases hm:N∈l
  ·rw[TG hm]at h1;omega
  ·rw[List.erase_of_not_mem hm]at h1;omega
theorem Inv.come{c:Ct}(hd:(c.af.map (·.name)).Nodup):∀(f:Nat)(done:List Nat)(nd:List (List Nat))(l s:List Nat),Inv c done nd l->qc (bx c) f nd l s=gW c f done
 |0,_,_,_,_,_=>rfl
 |f+1,done,nd,l,s,h=>by
  rw[qc,gW]
  by_cases h0:l=[]
  ·have hn:kZ c done=none:=Ya fun a ha=>by
    rw[JS];intro hm;have:=(h.ls a).2 ⟨ha,hm⟩
    rw[h0]at this;cases this
   rw[if_pos h0,hn]
  ·obtain⟨h1,h2⟩:=h.step hd h0 (bm l::s);rw[if_neg h0,h1];simp only;rw[Inv.come hd f _ _ _ _ h2]
theorem Inv.ends{c:Ct}(hd:(c.af.map (·.name)).Nodup):∀(f:Nat)(done:List Nat)(nd:List (List Nat))(l s:List Nat),Inv c done nd l->c.af.length<=done.length+f->sP (bx c) f nd l s
 |0,done,nd,l,s,h,hf=>by
  show l=[]
  rw[JQ];intro x hx;obtain⟨h1,h2⟩:=(h.ls x).1 hx;have h3:=(iX.1 h2).1
  have:=F3 c.af.length (x::done) (kM.2 ⟨h3,h.R8⟩) (fun y hy=>by
   rcases bo.1 hy with rfl|hy
   ·exact h1
   ·exact h.lt y hy)
  simp only[bz]at this;omega
 |f+1,done,nd,l,s,h,hf=>by
  rw[sP]
  by_cases h0:l=[]
  ·exact .inl h0
  ·obtain⟨h1,h2⟩:=h.step hd h0 (bm l::s);exact .inr (Inv.ends hd f _ _ _ _ h2 (by simp;omega))
theorem EY(nd:List (List Nat))(N:Nat):∀(m i:Nat)(l:List Nat),i+m=N->l.Nodup->(∀x∈l,x<i)->k9 l.length l->
 (∀x,x∈jb nd m i l↔x∈l\/(i<=x/\x<N/\nd.getD x []=[]))/\(jb nd m i l).Nodup/\k9 (jb nd m i l).length (jb nd m i l)
 |0,i,l,h,h1,h2,h3=>⟨fun x=>by simp[jb];omega,h1,h3⟩
 |m+1,i,l,h,h1,h2,h3=>by
  rw[jb]
  have hil:i∉l:=fun hm=>by have:=h2 i hm;omega
  split
  ·rename_i h0;have hp:=xg l i
   obtain⟨a1,a2,a3⟩:=EY nd N m (i+1) (fD l i) (by omega) (by rw[hp.nodup_iff,kM];exact⟨hil,h1⟩) (fun x hx=>by
    rcases bo.1 (hp.mem_iff.1 hx)with rfl|hx
    ·omega
    ·have:=h2 x hx;omega) (Lm h3 i)
   refine⟨fun x=>?_,a2,a3⟩;rw[a1 x,hp.mem_iff,bo];constructor
   ·rintro((rfl|hx)|⟨b1,b2,b3⟩)
    ·exact .inr ⟨aO _,by omega,h0⟩
    ·exact .inl hx
    ·exact .inr ⟨by omega,b2,b3⟩
   ·rintro(hx|⟨b1,b2,b3⟩)
    ·exact .inl (.inr hx)
    ·by_cases he:x=i
     ·exact .inl (.inl he)
     ·exact .inr ⟨by omega,b2,b3⟩
  ·rename_i h0;obtain⟨a1,a2,a3⟩:=EY nd N m (i+1) l (by omega) h1 (fun x hx=>by have:=h2 x hx;omega) h3;refine⟨fun x=>?_,a2,a3⟩;rw[a1 x];constructor
   ·rintro(hx|⟨b1,b2,b3⟩)
    ·exact .inl hx
    ·exact .inr ⟨by omega,b2,b3⟩
   ·rintro(hx|⟨b1,b2,b3⟩)
    ·exact .inl hx
    ·refine .inr ⟨?_,b2,b3⟩
     have:x≠i:=fun he=>h0 (he▸b3)
     omega
theorem QR{c:Ct}(hd:(c.af.map (·.name)).Nodup):Inv c [] (ee c) (jb (ee c) c.af.length 0 []):=by
 obtain⟨h1,h2,h3⟩:=EY (ee c) c.af.length c.af.length 0 [] (by omega) (by simp) (by simp) (fun k hk hkl=>by simp at hkl);refine⟨uo c,fun i hi x=>by rw[xh hd hi];simp,fun i=>?_,h2,h3,by simp,by simp,by simp⟩;rw[h1 i];constructor
 ·rintro(h|⟨_,a,b⟩)
  ·cases h
  ·refine⟨a,iX.2 ⟨by simp,fun x hx=>?_⟩⟩;have:=(xh hd a x).2 hx
   rw[b]at this;exact this
 ·rintro⟨a,b⟩
  refine .inr ⟨by omega,a,?_⟩;rw[JQ];intro x hx;have:=(iX.1 b).2 x ((xh hd a x).1 hx)
  cases this
theorem OC{c:Ct}(hd:(c.af.map (·.name)).Nodup):oT c c.af.length=aV c:=Inv.come hd _ _ _ _ _ (QR hd)
theorem ZY{c:Ct}(hd:(c.af.map (·.name)).Nodup):Hh c c.af.length:=Inv.ends hd _ _ _ _ _ (QR hd) (by simp)
theorem Mx(c:Ct):∀(f:Nat)(done:List Nat),(gW c f done).length<=f
 |0,_=>by simp[gW]
 |f+1,done=>by
  rw[gW]
  split
  ·simp
  ·rename_i k _;have:=Mx c f (done++[k])
   simp only[bz];omega
theorem NW(c:Ct):∀(f:Nat)(done:List Nat),∀x∈gW c f done,x<c.af.length
 |0,_=>by simp[gW]
 |f+1,done=>by
  rw[gW]
  split
  ·simp
  ·rename_i k hk;intro x hx
   rcases bo.1 hx with rfl|hx
   ·exact(Oc hk).1
   ·exact NW c f _ x hx
end Go.Proofs.YtchjijfjidlpjaaGreatDoor
namespace Go.Proofs.YtchjijfjidlpjaaGreatDoor
open Go.AM Go.Proofs
variable{Γ:Nat->Option AV}
def vt(c:Ct):List Nat:=if kW c=true then aV c else[]
def mH(c:Ct):List Bs:=if kW c=true then kv (aV c) c.af 0 else[]
theorem K4{c:Ct}(hc:cB c):(aV c).length<2^20:=by
 have h1:=Mx c c.af.length [];have:=hc.2.2.2.1
 unfold aV;omega
theorem Gi(hΓ:eG Γ)(c:Ct)(hb:jF c):aP Tryz.prog Γ nJ [bW c] (.aE [.own 1 av ((vt c).map iN),.own 1 aw ((mH c).map .str)]):=by
 unfold vt mH
 cases hr:kW c with
 |false=>simpa using adG hΓ c hb hr
 |true=>
  have hc:=uB hb hr;have hd:=ue hr;have hN:=hc.2.2.2.1;have h:=aeP hΓ c hb hr c.af.length (by omega) (ZY hd) (by rw[OC hd];exact K4 hc);rw[OC hd]at h;simpa using h
def mJ(c:Ct):Int×Bs:=if(eg c).1=0 then(match mH c with
 |[]=>(0,[])
 |s::_=>(7,s))else eg c
set_option maxRecDepth 8000 in
theorem N0(hΓ:eG Γ)(c:Ct)(hb:jF c):aP Tryz.prog Γ wS [bW c] (te (mJ c)):=by
 have hC:=FW hΓ c hb;have hS:=Gi hΓ c hb;unfold mJ;generalize eg c=r at*;obtain⟨e,s⟩:=r;refine .run 60 V_ (by simp) ?_;simp;refine .call 60 (by simp) hC ?_
 by_cases h0:e=0
 ·simp[h0];refine .call 60 (by simp) hS ?_
  cases mH c with
  |nil=>
   simp;exact .back (by simp)
  |cons a l=>
   have hl:(0:Int)<(l.length:Int)+1:=by omega
   simp[hl];exact .back (by simp)
 ·simp[h0];exact .back (by simp)
def ae9(c:Ct):List (Bs×(Bool×Nat×List Bs)):=c.ah.map (fun q=>(q.name,(true,1,[q.next])))++c.af.map fun g=>(g.name,(false,g.ki,g.ins))
abbrev eNx(x:Bool×Nat×List Bs):AV:=.list x.1 x.2.1 (x.2.2.map .str)
abbrev HB(x:Bs×(Bool×Nat×List Bs)):AV×AV:=(.str x.1,eNx x.2)
@[simp] theorem acg(n:Nat):∀l:List (Bs×(Bool×Nat×List Bs)),gE n (l.map HB)=true
 |[]=>rfl
 |x::r=>by simp[acg n r]
@[simp] theorem adT(n m:Nat):∀l:List (Bs×(Bool×Nat×List Bs)),n8 n m (l.map HB)=true
 |[]=>rfl
 |x::r=>by simp[adT n m r]
abbrev rJ(c:Ct)(inn hist:List Bs)(g:Option Nat):List Ob:=[.cells (AV.cells (bW c)),.row 1 aw [] none true false,.map ((ae9 c).map HB) true,.map (inn.map jX) true,.row 1 aw (hist.map .str) g true false]
abbrev C3(c:Ct):List Ob:=[.cells (AV.cells (bW c)),.row 1 av [] none true false]
def td(a:Nat):List Nat->List Nat->List Nat
 |[],lv=>lv
 |i::r,lv=>td a r (lv.set i (max (lv.getD i 0) (lv.getD a 0+1)))
theorem ND(a:Nat):∀(r lv:List Nat),(td a r lv).length=lv.length
 |[],_=>rfl
 |i::r,lv=>by rw[td,ND a r];simp
def Hu(k:Nat)(l:List Nat):List Nat:=if k∈l then l else l++[k]
def s9(c:Ct)(s:List Nat×List Nat)(a:Nat):List Nat×List Nat:=(td a ((bx c).getD a []) s.1,Hu a s.2)
def vp(s:Bs):Bool:=decide (60<s.length)
def q_(m:Nat)(l:List Bs):Bool:=decide (l.length<=m)&&!bC vp l
theorem Ed(l:List Bs)(m:Nat)(hm:m<1000){k:Nat}(hk:Kd 1 k l):aP Tryz.prog Γ sd [.list false k (l.map .str),.int .i64 m] (.bool (q_ m l)):=by
 have key:∀n i:Nat,i+n=l.length->i<=m+1->aB Tryz.prog Γ (yfX (.list false k (l.map .str)) (.int .i64 m) (.int .i64 i) []) (.ret (.bool (decide (l.length<=m)&&!bC vp (l.drop i)))):=by
  intro n
  induction n with
  |zero=>
   intro i hi hL
   have q1:¬i<l.length:=by omega
   have e1:((l.length:Int)<=m)=(l.length<=m):=propext (by omega);rw[bT (by omega),FM];refine .go 60 ?_;simp[q1,e1];exact .back (by simp)
  |succ n ih=>
   intro i hi hL
   have q1:i<l.length:=by omega
   have q2:=bU (hk.of q1)
   by_cases h2:i<=m
   ·have h2':((i:Int)<=m)=True:=bU (by omega);have hh:=ih (i+1) (by omega) (by omega);have e3:((60:Int)<(l[i].length:Int))=(60<l[i].length):=propext (by omega);rw[bZ q1,lF];refine .go 60 ?_
    by_cases h3:60<l[i].length
    ·have hl:vp l[i]=true:=by simp[vp,h3]
     simp[q1,q2,h2',e3,h3,hl];exact .back (by simp[h3])
    ·have hl:vp l[i]=false:=by simp only[vp,iz];exact h3
     simp(disch:=omega) [q1,q2,h2',e3,h3,hl];refine .aR ?_;simp at hh⊢;exact hh
   ·have h2':((i:Int)<=m)=False:=kc (by omega);have e1:((l.length:Int)<=m)=False:=kc (by omega)
    have h3:¬l.length<=m:=by omega
    refine .go 60 ?_;simp[q1,h2',e1,h3];exact .back (by simp)
 refine .run 60 Xp (by simp) ?_;simp;refine .inLoop ?_;have hh:=key l.length 0 (by omega) (by omega);simp[q_]at hh⊢;exact hh
end Go.Proofs.YtchjijfjidlpjaaGreatDoor
namespace Go.Proofs.YtchjijfjidlpjaaGreatDoor
open Go.AM Go.Proofs
theorem Fq(c:Ct):∀(f:Nat)(done:List Nat),done.Nodup->(∀x∈done,x<c.af.length)->
 (done++gW c f done).Nodup/\(∀p a q,gW c f done=p++a::q->jA c (done++p) a=true/\∀j<a,jA c (done++p) j=false)/\(c.af.length<=done.length+f->∀a<c.af.length,jA c (done++gW c f done) a=false)
 |0,done,hd,hl=>by
  refine⟨by simpa[gW]using hd,fun p a q h=>by simp[gW]at h,fun hf a ha=>?_⟩;rw[JS];intro hm;have h3:=(iX.1 hm).1;simp only[gW,eR]at h3
  have:=F3 c.af.length (a::done) (kM.2 ⟨h3,hd⟩) (fun y hy=>by
   rcases bo.1 hy with rfl|hy
   ·exact ha
   ·exact hl y hy)
  simp only[bz]at this;omega
 |f+1,done,hd,hl=>by
  rw[gW]
  cases hn:kZ c done with
  |none=>
   refine⟨by simpa using hd,fun p a q h=>by simp at h,fun hf a ha=>?_⟩;simpa using aaG hn ha
  |some k=>
   obtain⟨hk,hm,hj⟩:=Oc hn;have h3:=(iX.1 hm).1
   obtain⟨i1,i2,i3⟩:=Fq c f (done++[k]) (by
    rw[jM];refine⟨hd,by simp,fun x hx y hy=>?_⟩;rw[cq]at hy;subst hy
    exact fun he=>h3 (he▸hx)) (fun x hx=>by
    rcases aN.1 hx with hx|hx
    ·exact hl x hx
    ·rw[cq]at hx;subst hx;exact hk)
   simp only[cM,tB]at i1 i2 i3;refine⟨i1,fun p a q h=>?_,fun hf a ha=>i3 (by simp;omega) a ha⟩
   cases p with
   |nil=>
    simp only[kK,zU]at h;rw[eR,<-h.1];exact⟨hm,hj⟩
   |cons x p=>
    simp only[ep,zU]at h;obtain⟨rfl,h⟩:=h;exact i2 p a q h
theorem Ei(c:Ct):(aV c).Nodup:=by simpa[aV]using(Fq c c.af.length [] (by simp) (by simp)).1
theorem pJ(c:Ct):∀x∈aV c,x<c.af.length:=NW c _ _
theorem EX(c:Ct){p q:List Nat}{a:Nat}(h:aV c=p++a::q):jA c p a=true/\∀j<a,jA c p j=false:=by
 simpa using(Fq c c.af.length [] (by simp) (by simp)).2.1 p a q h
theorem aa6(c:Ct){i:Nat}(hi:i<(aV c).length){x:Nat}(hx:eJ c (aV c)[i] x=true):x∈(aV c).take i:=by
 have h:aV c=(aV c).take i++(aV c)[i]::(aV c).drop (i+1):=by
  rw[<-bZ hi,mn]
 exact(iX.1 (EX c h).1).2 x hx
theorem EE(out:List Nat)(s:Bs):∀(l:List Gt)(i:Nat),s∈kv out l i↔∃t,∃h:t<l.length,l[t].name=s/\i+t∉out
 |[],i=>by simp[kv]
 |g::r,i=>by
  have hs:(∃t,∃h:t<(g::r).length,(g::r)[t].name=s/\i+t∉out)↔(g.name=s/\i∉out)\/∃t,∃h:t<r.length,r[t].name=s/\i+1+t∉out:=by
   constructor
   ·rintro⟨t,h,e,hm⟩
    cases t with
    |zero=>exact .inl ⟨e,hm⟩
    |succ t=>exact .inr ⟨t,by simpa using h,e,by rwa[show i+1+t=i+(t+1) by omega]⟩
   ·rintro(⟨e,hm⟩|⟨t,h,e,hm⟩)
    ·exact⟨0,by simp,e,hm⟩
    ·exact⟨t+1,by simpa using h,e,by rwa[show i+(t+1)=i+1+t by omega]⟩
  rw[hs,kv]
  split
  ·rename_i h0;rw[EE out s r (i+1)];exact⟨.inr,fun h=>h.elim (fun h=>absurd h0 h.2) id⟩
  ·rename_i h0;rw[bo,EE out s r (i+1)];exact⟨fun h=>h.imp (fun h=>⟨h.symm,h0⟩) id,fun h=>h.imp (fun h=>h.1.symm) id⟩
theorem abp{c:Ct}(hd:(c.af.map (·.name)).Nodup)(out:List Nat){i:Nat}(hi:i<c.af.length):c.af[i].name∈kv out c.af 0↔i∉out:=by
 rw[EE];constructor
 ·rintro⟨t,ht,e,hm⟩
  rw[iv]at hm;rwa[<-BK hd ht hi e]
 ·intro h;exact⟨i,hi,rfl,by rwa[iv]⟩
theorem La(out:List Nat):∀(l:List Gt)(i:Nat),(kv out l i).length=((List.range l.length).filter fun t=>!out.contains (i+t)).length
 |[],i=>rfl
 |g::r,i=>by
  have ih:=La out r (i+1);rw[kv,bz,List.range_succ_eq_map,nF]
  have e:((List.range r.length).map Nat.succ).filter (fun t=>!out.contains (i+t))=((List.range r.length).filter fun t=>!out.contains (i+1+t)).map Nat.succ:=by
   rw[List.filter_map];congr 1;apply List.filter_congr;intro x _;simp only[Function.comp];rw[show i+Nat.succ x=i+1+x by omega]
  rw[e]
  by_cases h0:i∈out
  ·rw[if_pos h0,if_neg (by simpa using h0),ih,eb]
  ·rw[if_neg h0,if_pos (by simpa using h0),bz,bz,ih,eb]
theorem ZM(N:Nat)(out:List Nat)(hd:out.Nodup)(hl:∀x∈out,x<N):out.length+((List.range N).filter fun t=>!out.contains t).length=N:=by
 have h1:((List.range N).filter fun t=>out.contains t).Perm out:=by
  rw[List.perm_ext_iff_of_nodup (JH.filter _) hd];intro a;simp only[du,dL,wh,aW];exact⟨fun h=>h.2,fun h=>⟨hl a h,h⟩⟩
 have h2:∀l:List Nat,(l.filter fun t=>out.contains t).length+(l.filter fun t=>!out.contains t).length=l.length:=by
  intro l
  induction l with
  |nil=>rfl
  |cons a l ih=>
   rw[nF,nF]
   cases h:out.contains a<;>simp at ih⊢<;>omega
 have:=h2 (List.range N);rw[h1.length_eq,pt]at this;exact this
theorem aap(c:Ct):(aV c).length+(kv (aV c) c.af 0).length=c.af.length:=by
 rw[La];simp only[iv];exact ZM _ _ (Ei c) (pJ c)
end Go.Proofs.YtchjijfjidlpjaaGreatDoor
namespace Go.Proofs.YtchjijfjidlpjaaGreatDoor
open Go.AM Go.Proofs
variable{Γ:Nat->Option AV}
def HX(c:Ct)(a:Nat):Bs:=match c.af[a]? with
 |some g=>g.name
 |none=>[]
theorem B7{c:Ct}{a:Nat}(h:a<c.af.length):HX c a=c.af[a].name:=by simp[HX,h]
theorem N4(a:Nat):∀(r lv:List Nat)(i:Nat),r.Nodup->a∉r->i<lv.length->(td a r lv).getD i 0=if i∈r then max (lv.getD i 0) (lv.getD a 0+1)else lv.getD i 0
 |[],lv,i,_,_,_=>by simp[td]
 |j::r,lv,i,hr,ha,hi=>by
  rw[kM]at hr;simp only[bo,not_or]at ha
  have hg:∀k,(lv.set j (max (lv.getD j 0) (lv.getD a 0+1))).getD k 0=if j=k/\k<lv.length then max (lv.getD j 0) (lv.getD a 0+1)else lv.getD k 0:=fun k=>by
   simp only[bj,om]
   by_cases h1:j=k
   ·subst h1
    by_cases h2:j<lv.length
    ·simp[h2]
    ·simp[h2]
   ·simp[h1]
  have e1:=hg a;have e2:=hg i;rw[if_neg (fun h=>ha.1 h.1.symm)]at e1;rw[td,N4 a r _ i hr.2 ha.2 (by simpa using hi),e1,e2]
  by_cases hij:j=i
  ·subst hij;rw[if_neg hr.1,if_pos ⟨rfl,hi⟩,if_pos (by simp)]
  ·have hne:¬i=j:=fun h=>hij h.symm
   have e3:¬(j=i/\i<lv.length):=fun h=>hij h.1
   simp only[if_neg e3]
   by_cases h3:i∈r
   ·rw[if_pos h3,if_pos (by simp[h3])]
   ·rw[if_neg h3,if_neg (by simp[h3,hne])]
structure Hx(c:Ct)(p:List Nat)(s:List Nat×List Nat):Prop where
 len:s.1.length=c.af.length
 cm:∀x,x∈s.2↔x∈p
 ge:∀i<c.af.length,∀a∈p,eJ c i a=true->s.1.getD a 0+1<=s.1.getD i 0
 eq:∀i<c.af.length,s.1.getD i 0=0\/∃a∈p,eJ c i a=true/\s.1.getD i 0=s.1.getD a 0+1
theorem aaT(k x:Nat)(l:List Nat):x∈Hu k l↔x∈l\/x=k:=by
 unfold Hu
 split
 ·rename_i h;exact⟨.inl,fun h1=>h1.elim id fun h1=>h1▸h⟩
 ·simp
theorem Hx.step{c:Ct}(hd:(c.af.map (·.name)).Nodup){p:List Nat}{s:List Nat×List Nat}(h:Hx c p s)(hall:∀i∈p,∀x,eJ c i x=true->x∈p){a:Nat}(ha:a<c.af.length)(hm:jA c p a=true):Hx c (p++[a]) (s9 c s a):=by
 obtain⟨hap,haa⟩:=iX.1 hm
 have hab:a∉(bx c).getD a []:=fun hb=>hap (haa a ((uP hd ha a).1 hb))
 have hg:∀i<c.af.length,(s9 c s a).1.getD i 0=if eJ c i a=true then max (s.1.getD i 0) (s.1.getD a 0+1)else s.1.getD i 0:=fun i hi=>by
  rw[s9,N4 a _ _ i (Lh c ha) hab (by rw[h.len];exact hi)];simp only[uP hd ha i]
 have hsame:∀x∈p,x<c.af.length->(s9 c s a).1.getD x 0=s.1.getD x 0:=fun x hx hxl=>by
  rw[hg x hxl,if_neg fun hk=>hap (hall x hx a hk)]
 have hsa:(s9 c s a).1.getD a 0=s.1.getD a 0:=by rw[hg a ha,if_neg fun hk=>hap (haa a hk)]
 refine⟨by rw[s9,ND];exact h.len,fun x=>?_,fun i hi x hx hk=>?_,fun i hi=>?_⟩
 ·rw[s9];simp only[aaT,h.cm,aN,cq]
 ·rcases aN.1 hx with hx|hx
  ·have:=h.ge i hi x hx hk;rw[hsame x hx (q9 hk).2,hg i hi]
   split<;>omega
  ·rw[cq]at hx;subst hx
   rw[hsa,hg i hi,if_pos hk];omega
 ·rw[hg i hi]
  by_cases hk:eJ c i a=true
  ·rw[if_pos hk]
   rcases Nat.le_total (s.1.getD i 0) (s.1.getD a 0+1)with hle|hle
   ·exact .inr ⟨a,by simp,hk,by rw[hsa];omega⟩
   ·rcases h.eq i hi with h0|⟨x,hx,hkx,he⟩
    ·omega
    ·exact .inr ⟨x,by simp[hx],hkx,by rw[hsame x hx (q9 hkx).2];omega⟩
  ·rw[if_neg hk]
   rcases h.eq i hi with h0|⟨x,hx,hkx,he⟩
   ·exact .inl h0
   ·exact .inr ⟨x,by simp[hx],hkx,by rw[hsame x hx (q9 hkx).2];exact he⟩
theorem aan{c:Ct}(h:(mJ c).1=0):kW c=true/\mH c=[]/\mJ c=(0,[]):=by
 unfold mJ at h⊢
 by_cases h0:(eg c).1=0
 ·rw[if_pos h0]at h⊢
  cases hn:mH c with
  |nil=>exact⟨ow h0,rfl,rfl⟩
  |cons s l=>rw[hn]at h;cases h
 ·rw[if_neg h0]at h;exact absurd h h0
theorem Nt(N:List Bs):∀l:List Bs,(∀s∈l,s∈N)->iJ N l=(0,[])
 |[],_=>rfl
 |a::l,h=>by rw[iJ,if_pos (h a (by simp)),Nt N l fun s hs=>h s (by simp[hs])]
theorem Nu(r:Int×Bs):∀l:List Gt,(∀g∈l,gD g=true)->jW r l=r
 |[],_=>rfl
 |a::l,h=>by rw[jW,if_pos (h a (by simp)),Nu r l fun s hs=>h s (by simp[hs])]
theorem NG(r:Int×Bs):∀l:List Lt,(∀g∈l,lU g=true)->lg r l=r
 |[],_=>rfl
 |a::l,h=>by rw[lg,if_pos (h a (by simp)),NG r l fun s hs=>h s (by simp[hs])]
theorem Nz(r:Int×Bs):∀l:List Bs,(∀g∈l,fC g=true)->oU r l=r
 |[],_=>rfl
 |a::l,h=>by rw[oU,if_pos (h a (by simp)),Nz r l fun s hs=>h s (by simp[hs])]
theorem FO{c:Ct}(h:ew c):eg c=(0,[]):=by
 unfold eg;rw[h.ni,if_neg (by simp),Nz _ _ h.names,h.a8,h.outs,NG _ _ h.init,Nu _ _ h.af,Nt _ _ h.used];rfl
theorem xE{c:Ct}(h:ew c):kW c=true:=by rw[kW,FO h];rfl
theorem Ml:∀(l seen:List Bs),l.Nodup->(∀s∈l,s∉seen)->lK seen l=none
 |[],_,_,_=>rfl
 |a::l,seen,hn,h=>by
  rw[kM]at hn;rw[lK,if_neg (h a (by simp))]
  refine Ml l _ hn.2 fun s hs=>?_
  simp only[aN,cq,not_or];exact⟨h s (by simp[hs]),fun he=>hn.1 (he▸hs)⟩
theorem N7{l:List Bs}(h:l.Nodup):iF l=none:=Ml l [] h (by simp)
theorem X7{d:Ct}(h:∀i<d.af.length,∀x,eJ d i x=true->x<i):aV d=List.range d.af.length:=by
 have key:∀f i,i+f=d.af.length->gW d f (List.range i)=(List.range f).map (i+·):=by
  intro f
  induction f with
  |zero=>intro i _;simp[gW]
  |succ f ih=>
   intro i hi
   have hn:kZ d (List.range i)=some i:=LG (by omega) (iX.2 ⟨by simp,fun x hx=>by
    rw[dL];exact h i (by omega) x hx⟩) fun j hj=>by
     rw[JS];intro hm;exact(iX.1 hm).1 (by rw[dL];exact hj)
   rw[gW,hn];simp only;rw[<-DG,ih (i+1) (by omega),List.range_succ_eq_map,bL,jH];congr 1;apply mq;intro x _
   simp only[Function.comp];omega
 have:=key d.af.length 0 (by omega);simp only[List.range_zero,iv,List.map_id']at this
 rw[aV];exact this
theorem FF{c:Ct}{s:Bs}:s∈aD c↔s∈c.an\/(∃q∈c.ah,q.name=s)\/∃g∈c.af,g.name=s:=by
 simp[aD]
end Go.Proofs.YtchjijfjidlpjaaGreatDoor
