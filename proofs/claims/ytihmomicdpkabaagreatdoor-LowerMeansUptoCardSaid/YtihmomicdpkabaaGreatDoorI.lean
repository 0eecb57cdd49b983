/- Order: what comes: the loops. -/
import Derived.Test.YtihmomicdpkabaaGreatDoorH
import Derived.Test.YtihmomicdpkabaaGreatDoorG
import Derived.Test.YtihmomicdpkabaaGreatDoorF
import Derived.Test.YtihmomicdpkabaaGreatDoorAMd
import Derived.Test.YtihmomicdpkabaaGreatDoorCards
import Derived.Test.YtihmomicdpkabaaGreatDoorTie
import Derived.ProofKit
import Derived.Deep.DeepHandedRow
import Derived.LaidMore
import Derived.Test.YtihmomicdpkabaaGreatDoorCode
set_option linter.unusedSimpArgs false
set_option linter.unusedVariables false
namespace Go.Proofs.YtihmomicdpkabaaGreatDoor
open Go.AM Go.Proofs
variable{Γ:Nat->Option AV}
def dp(a:Nat)(l:List Nat):List Nat:=l.filter fun x=>decide (¬x=a)
theorem NZ(a:Nat):∀{l:List Nat},l.Nodup->mi (.sc .int) (.int .i64 a) (l.map eK)=some ((dp a l).map eK)
 |[],_=>rfl
 |b::l,h=>by
  simp only[lW]at h
  by_cases h2:a=b
  ·subst h2
   have h3:dp a l=l:=by
    unfold dp;rw[zb];intro x hx
    exact qV fun hn=>h.1 (hn▸hx)
   have h4:dp a (a::l)=l:=by rw[<-h3];simp[dp]
   simp only[b_,mi,Br,decide_true,h4]
  ·have h4:dp a (b::l)=b::dp a l:=by
    unfold dp;rw[zd,if_pos (by simpa using fun h=>h2 h.symm)]
   simp only[b_,mi,Br,h2,mR,NZ a h.2,du,h4]
theorem Kx(a:Nat){l:List Nat}(h:l.Nodup):(dp a l).Nodup:=h.filter _
theorem wk(l:List Nat)(x:Nat):(e_ l x).length=l.length+1:=by rw[e_,acs];simp
def iC(nd:List (List Nat)):Nat->Nat->List Nat->List Nat
 |0,_,l=>l
 |m+1,i,l=>iC nd m (i+1) (if nd.getD i []=[]then e_ l i else l)
def eg(a:Nat):List Nat->List (List Nat)->List Nat->List Nat->List (List Nat)×List Nat×List Nat
 |[],nd,l,s=>(nd,l,s)
 |i::r,nd,l,s=>if dp a (nd.getD i [])=[]then eg a r (nd.set i (dp a (nd.getD i []))) (e_ l i) s.tail else eg a r (nd.set i (dp a (nd.getD i []))) l s
theorem MN{A:List Ob}{l s:List Nat}(s0:List Nat)(hs:s=s0.tail){f:Fr}{up:List Fr}(hb:f.base<=A.length)(hf:∀m,gn A.length m f=true)(hv:∀m,cH A.length m A=true):
 AM.Reach Tryz.prog Γ (.fr f up (hP A l s (gP s0))) (.fr f up (hP A l s none)):=by
 unfold gP
 split
 ·rename_i h0
  have hs0:s=[]:=by rw[hs,h0];rfl
  subst hs0
  have e:(hP A l [] (some 0)).set A.length (.row 1 aq ((l++[]).map iN) none true false)=hP A l [] none:=by simp[hP]
  refine .lq (uE (A:=A) (l:=l) (s:=[]) (g:=some 0)) hb (hf _) (by
   rw[hP,iR,hv]
   simp) ?_
  rw[e];exact .refl _
 ·exact .refl _
set_option maxRecDepth 8000 in
theorem aeu(c:Ct)(hc:bW c){M:List Ob}(hv:dW M)(nd:List (List Nat))(hn:nd.length=c.af.length)(L:Nat)(p:AV)(up:List Fr):∀m i:Nat,i+m=c.af.length->∀l:List Nat,l.length<=i->
 AM.Reach Tryz.prog Γ (ytH (.cS L) (.ptr (M.length+(9+(c.af.length+c.af.length))) 0) (.ptr (M.length+(11+(c.af.length+c.af.length))) 0) (.int .i64 c.af.length) (.int .i64 i) (hP (aC c M nd) l [] none) ⟨[],.norm,M.length,up⟩)
  (ytI (.cS L) (.ptr (M.length+(9+(c.af.length+c.af.length))) 0) (.ptr (M.length+(11+(c.af.length+c.af.length))) 0) (hP (aC c M nd) (iC nd m i l) [] none) ⟨[],.norm,M.length,up⟩):=by
 have hN:=hc.2.2.2.1;intro m
 induction m with
 |zero=>
  intro i hi l hl
  have q1:¬i<c.af.length:=by omega
  rw[iC];generalize hP (aC c M nd) l [] none=X at*;refine .dh 60 ?_;simp[q1];exact .exit rfl rfl
 |succ m ih=>
  intro i hi l hl
  have q1:i<c.af.length:=by omega
  have hAl:=oV (M:=M) hn;have xw:=o9 (A:=aC c M nd) (l:=l) (s:=[]) (g:=none) (i:=M.length+(9+(c.af.length+c.af.length))) (by omega);have xn:=o9 (A:=aC c M nd) (l:=l) (s:=[]) (g:=none) (i:=M.length+7) (by omega);have xm:=o9 (A:=aC c M nd) (l:=l) (s:=[]) (g:=none) (i:=M.length+(9+(c.af.length+i))) (by omega);rw[GD hn]at xw;rw[PD hn]at xn;rw[PU hn q1,gR]at xm;have yn:=ED (n:=M.length+6) (N:=c.af.length) q1;rw[show M.length+6+(3+(c.af.length+i))=M.length+(9+(c.af.length+i)) by omega]at yn;have yl:=Al (n:=M.length+6) (N:=c.af.length) (m:=c.af.length) (aR _);have yt:List.take c.af.length (dx (M.length+6) c.af.length c.af.length)=dx (M.length+6) c.af.length c.af.length:=cd (by rw[yl];exact aR _);obtain⟨_,yn'⟩:=cW.1 yn;rw[iC]
  by_cases h0:nd.getD i []=[]
  ·have hh:=ih (i+1) (by omega) (e_ l i) (by rw[wk];omega);have hP':=OS (Γ:=Γ) (aC c M nd) l [] i (by omega) (by omega)
   have hun:=fun f hb hf=>MN (Γ:=Γ) (l:=e_ l i) (s:=[]) [] rfl (f:=f) (up:=up) hb hf (fun m=>OE hv (nd:=nd) (by rw[hAl];omega))
   rw[hAl]at hun hP';rw[show M.length+(10+(c.af.length+c.af.length))+1=M.length+(11+(c.af.length+c.af.length)) by omega]at hP';rw[if_pos h0];rw[h0]at xm;generalize hP (aC c M nd) l [] none=X at*;generalize hP (aC c M nd) (e_ l i) [] none=Y at*;rw[List.tail_nil]at hP';generalize hP (aC c M nd) (e_ l i) [] (gP [])=Z at*;generalize dx (M.length+6) c.af.length c.af.length=E at*;refine .dh 60 ?_;simp(disch:=omega) [q1,xw,xn,xm,yn,yl,yt,yn'];refine .OI 1 60 hP' ?_;simp(disch:=omega);refine .trans (hun _ (by simp) (by intro m;simp;omega)) ?_;refine .aH ?_;simp at hh⊢;exact hh
  ·have hh:=ih (i+1) (by omega) l (by omega);rw[if_neg h0]
   have xln:¬(nd.getD i []).length=0:=by simpa using h0
   generalize nd.getD i []=z at*
   have e0:(((z.map eK).length:Nat):Int)=0↔False:=by simp;exact h0
   generalize hP (aC c M nd) l [] none=X at*;generalize dx (M.length+6) c.af.length c.af.length=E at*;refine .dh 60 ?_;simp(disch:=omega) [q1,xw,xn,xm,yn,yl,yt,yn',h0,xln];refine .aH ?_;simp at hh⊢;exact hh
theorem abx{A:List Ob}{l s:List Nat}{g:Option Nat}{i:Nat}(h:i<A.length)(o:Ob):(hP A l s g).set i o=hP (A.set i o) l s g:=by
 rw[hP,kq _ _ h,hP,jk]
set_option maxRecDepth 8000 in
theorem afi(c:Ct)(hc:bW c){M:List Ob}(hv:dW M)(L a:Nat)(ha:a<c.af.length)(hb:∀i∈(bD c).getD a [],i<c.af.length)(up:List Fr):∀m j:Nat,j+m=((bD c).getD a []).length->∀(nd:List (List Nat))(l s:List Nat),nd.length=c.af.length->(∀x∈nd,x.Nodup)->l.length+m<2^38->j+m<2^38->
 AM.Reach Tryz.prog Γ (ytC (.cS L) (.ptr (M.length+(9+(c.af.length+c.af.length))) 0) (.ptr (M.length+(11+(c.af.length+c.af.length))) 0) (.int .i64 a) (.sl (M.length+(9+a)) 0 ((bD c).getD a []).length) (.int .i64 ((bD c).getD a []).length) (.int .i64 j) (hP (aC c M nd) l s none) ⟨[],.norm,M.length,up⟩)
  (ytD (.cS L) (.ptr (M.length+(9+(c.af.length+c.af.length))) 0) (.ptr (M.length+(11+(c.af.length+c.af.length))) 0) (hP (aC c M (eg a (((bD c).getD a []).drop j) nd l s).1) (eg a (((bD c).getD a []).drop j) nd l s).2.1 (eg a (((bD c).getD a []).drop j) nd l s).2.2 none) ⟨[],.norm,M.length,up⟩):=by
 have hN:=hc.2.2.2.1;intro m
 induction m with
 |zero=>
  intro j hj nd l s hn hd hl hj2
  have q1:¬j<((bD c).getD a []).length:=by omega
  rw[bw (by omega),eg];generalize(bD c).getD a []=bs at*;generalize hP (aC c M nd) l s none=X at*;refine .dh 60 ?_;simp[q1];exact .exit rfl rfl
 |succ m ih=>
  intro j hj nd l s hn hd hl hj2;have xr:=o9 (A:=aC c M nd) (l:=l) (s:=s) (g:=none) (i:=M.length+(9+a)) (by rw[oV hn];omega);rw[agj ha]at xr;generalize hbs:(bD c).getD a []=bs at*
  have q1:j<bs.length:=by omega
  have hi:=hb _ (bz q1)
  have xi:(bs.map iN)[j]? =some (.int .i64 (bs[j]:Nat)):=by simp[q1]
  rw[bQ q1,eg];generalize bs[j]=i at*;have hAl:=oV (M:=M) hn;have xw:=o9 (A:=aC c M nd) (l:=l) (s:=s) (g:=none) (i:=M.length+(9+(c.af.length+c.af.length))) (by omega);have xn:=o9 (A:=aC c M nd) (l:=l) (s:=s) (g:=none) (i:=M.length+7) (by omega);have xm:=o9 (A:=aC c M nd) (l:=l) (s:=s) (g:=none) (i:=M.length+(9+(c.af.length+i))) (by omega);rw[GD hn]at xw;rw[PD hn]at xn;rw[PU hn hi,gR]at xm;rw[fo]at xr
  have hXl:(hP (aC c M nd) l s none).length=M.length+(12+(c.af.length+c.af.length)):=by rw[xd,hAl];omega
  have xs:∀o,((hP (aC c M nd) l s none).set (M.length+(9+(c.af.length+i))) o)[M.length+(9+(c.af.length+i))]? =some o:=fun o=>ep (by omega)
  clear hXl;have yn:=ED (n:=M.length+6) (N:=c.af.length) hi;rw[show M.length+6+(3+(c.af.length+i))=M.length+(9+(c.af.length+i)) by omega]at yn;have yl:=Al (n:=M.length+6) (N:=c.af.length) (m:=c.af.length) (aR _);have yt:List.take c.af.length (dx (M.length+6) c.af.length c.af.length)=dx (M.length+6) c.af.length c.af.length:=cd (by rw[yl];exact aR _);obtain⟨_,yn'⟩:=cW.1 yn
  have hnd:(nd.getD i []).Nodup:=by
   rw[bp,bl (by omega)];exact hd _ (bz _)
  have dc:=NZ a hnd
  have fin:(hP (aC c M nd) l s none).set (M.length+(9+(c.af.length+i))) (.map ((dp a (nd.getD i [])).map eK) true)=hP (aC c M (nd.set i (dp a (nd.getD i [])))) l s none:=by
   rw[abx (by omega),<-ace _ hn hi];rfl
  have hn2:(nd.set i (dp a (nd.getD i []))).length=c.af.length:=by rw[jk];exact hn
  have hd2:∀x∈nd.set i (dp a (nd.getD i [])),x.Nodup:=fun x hx=>by
   rcases oj hx with h1|h1
   ·exact hd x h1
   ·rw[h1];exact Kx a hnd
  have hAl2:=oV (M:=M) hn2
  by_cases h0:dp a (nd.getD i [])=[]
  ·have hh:=ih (j+1) (by omega) (nd.set i (dp a (nd.getD i []))) (e_ l i) s.tail hn2 hd2 (by rw[wk];omega) (by omega);have hP':=OS (Γ:=Γ) (aC c M (nd.set i (dp a (nd.getD i [])))) l s i (by omega) (by omega)
   have hun:=fun f hb hf=>MN (Γ:=Γ) (l:=e_ l i) (s:=s.tail) s rfl (f:=f) (up:=up) hb hf (fun m=>OE hv (nd:=nd.set i (dp a (nd.getD i []))) (by rw[hAl2];omega))
   rw[hAl2]at hun hP';rw[show M.length+(10+(c.af.length+c.af.length))+1=M.length+(11+(c.af.length+c.af.length)) by omega]at hP';rw[if_pos h0]
   have hlz:(dp a (nd.getD i [])).length=0:=by rw[h0];rfl
   rw[h0]at dc fin;rw[h0]at hP' hun hh⊢;generalize(eg a (bs.drop (j+1)) (nd.set i []) (e_ l i) s.tail)=R at*;generalize hP (aC c M nd) l s none=X at*;generalize hP (aC c M (nd.set i [])) l s none=Y at*;generalize hP (aC c M (nd.set i [])) (e_ l i) s.tail none=Z at*;generalize hP (aC c M (nd.set i [])) (e_ l i) s.tail (gP s)=W at*;generalize dx (M.length+6) c.af.length c.af.length=E at*;generalize hLz:nd.getD i []=z at*;refine .dh 60 ?_;simp(disch:=omega) [q1,xr,xi,xw,xn,xm,yn,yl,yt,yn',hi,dc,xs,isKey,bR,cz];simp at fin;rw[fin];refine .OI 1 60 hP' ?_;simp(disch:=omega);refine .trans (hun _ (by simp) (by intro m;simp;omega)) ?_;refine .aH ?_;simp at hh⊢;exact hh
  ·have hh:=ih (j+1) (by omega) (nd.set i (dp a (nd.getD i []))) l s hn2 hd2 (by omega) (by omega);rw[if_neg h0]
   have xln:¬(dp a (nd.getD i [])).length=0:=by simpa using h0
   generalize(eg a (bs.drop (j+1)) (nd.set i (dp a (nd.getD i []))) l s)=R at*;generalize hP (aC c M nd) l s none=X at*;generalize hP (aC c M (nd.set i (dp a (nd.getD i [])))) l s none=Y at*;generalize dx (M.length+6) c.af.length c.af.length=E at*;generalize dp a (nd.getD i [])=z' at*;generalize hLz:nd.getD i []=z at*;refine .dh 60 ?_;simp(disch:=omega) [q1,xr,xi,xw,xn,xm,yn,yl,yt,yn',hi,dc,xs,isKey,bR,cz,h0,xln];rw[fin];refine .aH ?_;simp at hh⊢;exact hh
end Go.Proofs.YtihmomicdpkabaaGreatDoor
namespace Go.Proofs.YtihmomicdpkabaaGreatDoor
open Go.AM Go.Proofs
theorem E7{l:List Nat}{i j:Nat}(hi:i<l.length)(hj:j<l.length):(swp l i j).Perm l:=by
 rw[List.perm_iff_count];intro a
 have e1:l.getD i 0=l[i]:=by rw[bp,bl hi];rfl
 have e2:l.getD j 0=l[j]:=by rw[bp,bl hj];rfl
 have e3:(l.set i l[j])[j]'(by simpa using hj)=l[j]:=by
  rw[List.getElem_set];split<;>rfl
 rw[swp,e1,e2,List.count_set (by simpa using hj),List.count_set hi,e3]
 have hp:l[i]=a->0<l.count a:=fun h=>Tk.2 (h▸bz hi)
 by_cases h1:l[i]=a
 ·have:=hp h1
  by_cases h2:l[j]=a<;>simp[h1,h2]<;>omega
 ·by_cases h2:l[j]=a<;>simp[h1,h2]
theorem abn(j:Nat):∀l:List Nat,j<l.length->(mM l j).Perm l:=by
 induction j using Nat.strongRecOn with
 |_ j ih=>
  intro l hj;rw[mM]
  split
  ·exact .refl _
  ·split
   ·exact(ih _ (by omega) _ (by rw[dF];omega)).trans (E7 (by omega) hj)
   ·exact .refl _
theorem XT(n:Nat):∀(m i:Nat)(l:List Nat),n-i<=m->n<=l.length->i<l.length->(gh n l i).1.Perm l:=by
 intro m
 induction m with
 |zero=>
  intro i l h hn hi;rw[gh,if_pos (by omega)]
 |succ m ih=>
  intro i l h hn hi;rw[gh]
  split
  ·exact .refl _
  ·split
   ·have:=w7 l (2*i+1) n;have:=Bx l (j:=2*i+1) (n:=n) (by omega);exact(ih _ _ (by omega) (by rw[dF];omega) (by rw[dF];omega)).trans (E7 hi (by omega))
   ·exact .refl _
theorem we(l:List Nat)(x:Nat):(e_ l x).Perm (x::l):=(abn _ _ (by simp)).trans List.perm_append_comm
def bq(l:List Nat):Nat:=(dq l).getD (l.length-1) 0
def dw(l:List Nat):List Nat:=(dq l).take (l.length-1)
theorem Zn{l:List Nat}(h:0<l.length):(dq l).Perm l:=by
 rw[dq];exact(XT _ _ _ _ (aR _) (by rw[dF];omega) (by rw[dF];omega)).trans (E7 h (by omega))
theorem X5{l:List Nat}(h:0<l.length):dq l=dw l++[bq l]:=by
 have hl:=AU l
 have hlt:l.length-1<(dq l).length:=by omega
 have h5:(dq l).getD (l.length-1) 0=(dq l)[l.length-1]:=by rw[bp,bl hlt];rfl
 rw[bq,dw,h5]
 conv=>lhs;rw[<-lU (l.length-1) (dq l)]
 congr 1;rw[bQ hlt,bw (by omega)]
theorem Lq{l:List Nat}(h:0<l.length):(bq l::dw l).Perm l:=by
 have:=Zn h;rw[X5 h]at this;exact List.perm_append_comm.symm.trans this
theorem LV(l:List Nat):(dw l).length=l.length-1:=by rw[dw,fW,AU];omega
def kP(n:Nat)(l:List Nat):Prop:=∀k,0<k->k<n->l.getD ((k-1)/2) 0<=l.getD k 0
theorem wT{l:List Nat}{i j:Nat}(hi:i<l.length)(hj:j<l.length)(k:Nat):(swp l i j).getD k 0=if k=j then l.getD i 0 else if k=i then l.getD j 0 else l.getD k 0:=by
 simp only[swp,bp,ny,jk]
 by_cases h1:j=k
 ·subst h1;simp[hj]
 ·have h1':¬k=j:=fun h=>h1 h.symm
  by_cases h2:i=k
  ·subst h2;simp[h1,h1',hi]
  ·have h2':¬k=i:=fun h=>h2 h.symm
   simp[h1,h1',h2,h2']
theorem aaK(j:Nat):∀l:List Nat,j<l.length->(∀k,0<k->k<l.length->k≠j->l.getD ((k-1)/2) 0<=l.getD k 0)->(0<j->∀k,k<l.length->0<k->(k-1)/2=j->l.getD ((j-1)/2) 0<=l.getD k 0)->kP l.length (mM l j):=by
 induction j using Nat.strongRecOn with
 |_ j ih=>
  intro l hj h1 h2;rw[mM]
  split
  ·rename_i h0;intro k hk hkl;exact h1 k hk hkl (by omega)
  ·rename_i h0
   have hpl:(j-1)/2<l.length:=by omega
   split
   ·rename_i hlt;have hs:=wT hpl hj
    have key:kP (swp l ((j-1)/2) j).length (mM (swp l ((j-1)/2) j) ((j-1)/2)):=by
     refine ih _ (by omega) _ (by rw[dF];exact hpl) (fun k hk hkl hkp=>?_) (fun hp k hkl hk hkp=>?_)
     ·rw[dF]at hkl;rw[hs,hs]
      have hq:¬(k-1)/2=j\/(k-1)/2=j:=by omega
      by_cases hkj:k=j
      ·subst hkj;rw[if_neg (by omega),if_pos rfl,if_pos rfl];omega
      ·rw[if_neg hkj,if_neg hkp];have hk1:=h1 k hk hkl hkj
       by_cases hc:(k-1)/2=j
       ·rw[if_pos hc];exact h2 (by omega) k hkl hk hc
       ·rw[if_neg hc]
        by_cases hd:(k-1)/2=(j-1)/2
        ·rw[if_pos hd]
         rw[hd]at hk1;omega
        ·rw[if_neg hd];exact hk1
     ·rw[dF]at hkl;rw[hs,hs,if_neg (by omega),if_neg (by omega)];have hpp:=h1 ((j-1)/2) hp hpl (by omega)
      by_cases hkj:k=j
      ·rw[if_pos hkj];exact hpp
      ·rw[if_neg hkj,if_neg (by omega)];have hk1:=h1 k hk hkl hkj
       rw[hkp]at hk1;omega
    rw[dF]at key;exact key
   ·rename_i hge;intro k hk hkl
    by_cases hkj:k=j
    ·subst hkj;omega
    ·exact h1 k hk hkl hkj
theorem KO{l:List Nat}(h:kP l.length l)(x:Nat):kP (e_ l x).length (e_ l x):=by
 have e:(e_ l x).length=(l++[x]).length:=by rw[wk];simp
 have g:∀k,k<l.length->(l++[x]).getD k 0=l.getD k 0:=fun k hk=>by simp[cV hk]
 rw[e,e_];refine aaK _ _ (by simp) (fun k hk hkl hkj=>?_) (fun hj k hkl hk hkp=>?_)
 ·simp only[bN,sH]at hkl;rw[g _ (by omega),g _ (by omega)];exact h k hk (by omega)
 ·simp only[bN,sH]at hkl;omega
theorem XU(n:Nat):∀(m i:Nat)(l:List Nat),n-i<=m->n<=l.length->i<l.length->(∀k,0<k->k<n->(k-1)/2≠i->l.getD ((k-1)/2) 0<=l.getD k 0)->(0<i->∀k,k<n->0<k->(k-1)/2=i->l.getD ((i-1)/2) 0<=l.getD k 0)->kP n (gh n l i).1:=by
 intro m
 induction m with
 |zero=>
  intro i l h hn hi h1 h2;rw[gh,if_pos (by omega)];intro k hk hkn;exact h1 k hk hkn (by omega)
 |succ m ih=>
  intro i l h hn hi h1 h2;rw[gh]
  split
  ·intro k hk hkn;exact h1 k hk hkn (by omega)
  ·rename_i hc;have kg:=w7 l (2*i+1) n;have kl:=Bx l (j:=2*i+1) (n:=n) (by omega)
   have kk:fT l (2*i+1) n=2*i+1\/fT l (2*i+1) n=2*i+2:=by unfold fT;split<;>omega
   have least:∀k,k<n->0<k->(k-1)/2=i->l.getD (fT l (2*i+1) n) 0<=l.getD k 0:=by
    intro k hkn hk hkp
    have hk2:k=2*i+1\/k=2*i+1+1:=by omega
    unfold fT
    split
    ·rename_i hh
     rcases hk2 with rfl|rfl
     ·omega
     ·exact aR _
    ·rename_i hh
     rcases hk2 with rfl|rfl
     ·exact aR _
     ·have:¬l.getD (2*i+1+1) 0<l.getD (2*i+1) 0:=fun h=>hh ⟨hkn,h⟩
      omega
   generalize fT l (2*i+1) n=j at*
   have hjl:j<l.length:=by omega
   have hs:=wT hi hjl
   split
   ·rename_i hlt;refine ih _ _ (by omega) (by rw[dF];exact hn) (by rw[dF];exact hjl) (fun k hk hkn hkp=>?_) (fun hp k hkn hk hkp=>?_)
    ·rw[hs,hs,if_neg hkp]
     by_cases hkj:k=j
     ·subst hkj;rw[if_pos rfl,if_pos (by omega)];omega
     ·rw[if_neg hkj]
      by_cases hci:(k-1)/2=i
      ·rw[if_pos hci,if_neg (by omega)];exact least k hkn hk hci
      ·rw[if_neg hci];have hk1:=h1 k hk hkn hci
       by_cases hki:k=i
       ·rw[if_pos hki];subst hki;exact h2 hk j kl (by omega) (by omega)
       ·rw[if_neg hki];exact hk1
    ·rw[hs,hs]
     have hpi:(j-1)/2=i:=by omega
     have hjne:¬i=j:=by omega
     rw[hpi,if_neg hjne,if_pos rfl,if_neg (by omega),if_neg (by omega)];have:=h1 k hk hkn (by omega)
     rw[hkp]at this;exact this
   ·rename_i hge;intro k hk hkn
    by_cases hci:(k-1)/2=i
    ·have:=least k hkn hk hci
     show l.getD ((k-1)/2) 0<=l.getD k 0
     rw[hci];omega
    ·exact h1 k hk hkn hci
theorem Z9{n:Nat}{l:List Nat}(h:kP n l):∀k,k<n->l.getD 0 0<=l.getD k 0:=by
 intro k
 induction k using Nat.strongRecOn with
 |_ k ih=>
  intro hk
  by_cases h0:k=0
  ·subst h0;exact aR _
  ·have h1:=h k (by omega) hk;have h2:=ih ((k-1)/2) (by omega) (by omega);omega
theorem YJ{l:List Nat}(h:kP l.length l)(h0:0<l.length):kP (dw l).length (dw l):=by
 have hs:=wT (l:=l) (i:=0) (j:=l.length-1) h0 (by omega)
 have hd:kP (l.length-1) (dq l):=by
  rw[dq];refine XU _ _ 0 _ (aR _) (by rw[dF];omega) (by rw[dF];omega) (fun k hk hkn hkp=>?_) (fun hp=>absurd hp (by omega));rw[hs,hs,if_neg (by omega),if_neg hkp,if_neg (by omega),if_neg (by omega)];exact h k hk (by omega)
 have hl:=AU l
 have g:∀k,k<l.length-1->(dw l).getD k 0=(dq l).getD k 0:=fun k hk=>by
  rw[dw];simp only[bp];rw[za hk]
 rw[LV];intro k hk hkn;rw[g _ (by omega),g _ hkn];exact hd k hk hkn
theorem aba{l:List Nat}(h0:0<l.length):bq l=l.getD 0 0:=by
 have hs:=wT (l:=l) (i:=0) (j:=l.length-1) h0 (by omega)
 have gm:∀(n m i:Nat)(x:List Nat),n-i<=m->n<x.length->i<=n->(i<x.length)->(i<n\/n=0)->(gh n x i).1.getD n 0=x.getD n 0:=by
  intro n m
  induction m with
  |zero=>
   intro i x h1 h2 h3 h4 h5;rw[gh,if_pos (by omega)]
  |succ m ih=>
   intro i x h1 h2 h3 h4 h5;rw[gh]
   split
   ·rfl
   ·rename_i hc;have kg:=w7 x (2*i+1) n;have kl:=Bx x (j:=2*i+1) (n:=n) (by omega);generalize fT x (2*i+1) n=j at*
    split
    ·rw[ih j _ (by omega) (by rw[dF];exact h2) (by omega) (by rw[dF];omega) (by omega),wT h4 (by omega),if_neg (by omega),if_neg (by omega)]
    ·rfl
 rw[bq,dq,gm _ _ 0 _ (aR _) (by rw[dF];omega) (by omega) (by rw[dF];omega) (by omega),hs,if_pos rfl]
theorem aca{l:List Nat}(h:kP l.length l)(h0:0<l.length){x:Nat}(hx:x∈l):bq l<=x:=by
 rw[aba h0];obtain⟨k,hk,rfl⟩:=ku hx;have:=Z9 h k hk;rw[bp (i:=k),bl hk]at this;exact this
end Go.Proofs.YtihmomicdpkabaaGreatDoor
namespace Go.Proofs.YtihmomicdpkabaaGreatDoor
open Go.AM Go.Proofs
variable{Γ:Nat->Option AV}
def pf(b:List (List Nat)):Nat->List (List Nat)->List Nat->List Nat->List Nat
 |0,_,_,_=>[]
 |f+1,nd,l,s=>if l=[]then[]else
  bq l::pf b f (eg (bq l) (b.getD (bq l) []) nd (dw l) (bq l::s)).1 (eg (bq l) (b.getD (bq l) []) nd (dw l) (bq l::s)).2.1 (eg (bq l) (b.getD (bq l) []) nd (dw l) (bq l::s)).2.2
def rU(b:List (List Nat)):Nat->List (List Nat)->List Nat->List Nat->Prop
 |0,_,l,_=>l=[]
 |f+1,nd,l,s=>l=[]\/rU b f (eg (bq l) (b.getD (bq l) []) nd (dw l) (bq l::s)).1 (eg (bq l) (b.getD (bq l) []) nd (dw l) (bq l::s)).2.1 (eg (bq l) (b.getD (bq l) []) nd (dw l) (bq l::s)).2.2
theorem FF(a N:Nat):∀(r:List Nat)(nd:List (List Nat))(l s:List Nat),(∀i∈r,i<N)->nd.length=N->(∀x∈nd,x.Nodup)->(∀x∈l,x<N)->
 (eg a r nd l s).1.length=N/\(∀x∈(eg a r nd l s).1,x.Nodup)/\(∀x∈(eg a r nd l s).2.1,x<N)/\(eg a r nd l s).2.1.length<=l.length+r.length
 |[],nd,l,s,_,h2,h3,h4=>⟨h2,h3,h4,by simp[eg]⟩
 |i::r,nd,l,s,h1,h2,h3,h4=>by
  have hi:=h1 i (by simp)
  have hn:(nd.set i (dp a (nd.getD i []))).length=N:=by simpa using h2
  have hd:∀x∈nd.set i (dp a (nd.getD i [])),x.Nodup:=fun x hx=>by
   rcases oj hx with h5|h5
   ·exact h3 x h5
   ·rw[h5];refine Kx a ?_;rw[bp,bl (by omega)];exact h3 _ (bz _)
  rw[eg]
  split
  ·have:=FF a N r _ (e_ l i) s.tail (fun x hx=>h1 x (by simp[hx])) hn hd (fun x hx=>by
    have:=(we l i).mem_iff.1 hx
    rcases bu.1 this with rfl|h6
    ·exact hi
    ·exact h4 x h6)
   rw[wk]at this;refine⟨this.1,this.2.1,this.2.2.1,?_⟩;have:=this.2.2.2
   simp only[bX];omega
  ·have:=FF a N r _ l s (fun x hx=>h1 x (by simp[hx])) hn hd h4;refine⟨this.1,this.2.1,this.2.2.1,?_⟩;have:=this.2.2.2
   simp only[bX];omega
set_option maxRecDepth 8000 in
theorem afk(c:Ct)(hc:bW c)(hbL:∀x∈bD c,x.length<=2^21/\∀i∈x,i<c.af.length){S:Type}(M:S->List Ob)(F:S->Nat->S)(n L r:Nat)(hM:∀x,(M x).length=n)(hv:∀x,dW (M x))(hr:r<n)(I:S->Nat->Prop)(hI:∀x k a,I x k->a<c.af.length->I (F x a) (k+1))
 (hB:∀x k a T up,I x k->k<2^20->a<c.af.length->(∀m,up.all (gn r m)=true)->(∀m,cH r m T=true)->AM.Reach Tryz.prog Γ ((ji.yl L).cfg [.int .i64 a] up (M x++T)) (.back up (.bool true) (M (F x a)++T)))
 (up:List Fr)(hup:∀m,up.all (gn r m)=true):∀(f:Nat)(x:S)(k:Nat)(nd:List (List Nat))(l s:List Nat),nd.length=c.af.length->(∀x∈nd,x.Nodup)->(∀a∈l,a<c.af.length)->l.length+f*2^22<=2^37->I x k->k+f<=2^20->rU (bD c) f nd l s->
 ∃T,AM.Reach Tryz.prog Γ (QG (.cS L) (.ptr (n+(9+(c.af.length+c.af.length))) 0) (.ptr (n+(11+(c.af.length+c.af.length))) 0) (hP (aC c (M x) nd) l s none) ⟨[],.norm,n,up⟩)
  (.back up (.aB []) (M ((pf (bD c) f nd l s).foldl F x)++T)):=by
 have stop:∀(x:S)(nd:List (List Nat))(s:List Nat),nd.length=c.af.length->∃T,AM.Reach Tryz.prog Γ (QG (.cS L) (.ptr (n+(9+(c.af.length+c.af.length))) 0) (.ptr (n+(11+(c.af.length+c.af.length))) 0) (hP (aC c (M x) nd) [] s none) ⟨[],.norm,n,up⟩)
  (.back up (.aB []) (M x++T)):=by
  intro x nd s hn;have hAl:=oV (M:=M x) hn;rw[hM]at hAl;have xc:=n6 (A:=aC c (M x) nd) (l:=[]) (s:=s) (g:=none);have h1:=BE (Γ:=Γ) (aC c (M x) nd) [] s none (.inl rfl)
  have he:hP (aC c (M x) nd) [] s none=M x++(tC c n nd++[.row 1 aq (s.map iN) none true false,.cells [.sl (n+(10+(c.af.length+c.af.length))) 0 0]]):=by
   rw[hP,hAl]
   conv=>lhs;rw[xx,hM]
   simp
  rw[hAl,show n+(10+(c.af.length+c.af.length))+1=n+(11+(c.af.length+c.af.length)) by omega]at xc;rw[hAl]at h1;refine⟨tC c n nd++[.row 1 aq (s.map iN) none true false,.cells [.sl (n+(10+(c.af.length+c.af.length))) 0 0]],?_⟩;rw[<-he];generalize hP (aC c (M x) nd) [] s none=X at*;simp at xc h1;refine .aU 60 ?_;simp[xc];refine .aX 60 h1 ?_;simp
 intro f
 induction f with
 |zero=>
  intro x k nd l s hn hd hl hb hIx hk hE;rw[rU]at hE;subst hE;rw[pf];exact stop x nd s hn
 |succ f ih=>
  intro x k nd l s hn hd hl hb hIx hk hE;rw[pf]
  by_cases h0:l=[]
  ·subst h0;rw[if_pos rfl];exact stop x nd s hn
  ·rw[rU]at hE;have hE:=hE.resolve_left h0;rw[if_neg h0];have hpos:0<l.length:=pM.2 h0;have hhr:=Lq hpos;have ha:bq l<c.af.length:=hl _ (hhr.mem_iff.1 (by simp))
   have hrl:∀y∈dw l,y<c.af.length:=fun y hy=>hl _ (hhr.mem_iff.1 (by simp[hy]))
   have hbm:(bD c).getD (bq l) []∈bD c:=by
    rw[bp,bl (by rw[gF];exact ha)];exact bz _
   obtain⟨hb1,hb2⟩:=hbL _ hbm;have hok:=FF (bq l) c.af.length ((bD c).getD (bq l) []) nd (dw l) (bq l::s) hb2 hn hd hrl;have hrest:=LV l
   have h3:=fun M' hv'=>afi (Γ:=Γ) c hc (M:=M') hv' L (bq l) ha hb2 up ((bD c).getD (bq l) []).length 0 (by omega) nd (dw l) (bq l::s) hn hd (by omega) (by omega)
   obtain⟨T,hT⟩:=ih (F x (bq l)) (k+1) _ _ _ hok.1 hok.2.1 hok.2.2.1 (by have:=hok.2.2.2;omega) (hI x k _ hIx ha) (by omega) hE;refine⟨T,?_⟩;have hAl:=oV (M:=M x) hn;have hAl2:=oV (M:=M (F x (bq l))) hn;rw[hM]at hAl hAl2;have h3':=h3 (M (F x (bq l))) (hv _);rw[ir,hM]at h3';have xc:=n6 (A:=aC c (M x) nd) (l:=l) (s:=s) (g:=none);have h1:=BE (Γ:=Γ) (aC c (M x) nd) l s none (.inl rfl);have h2:=afK (Γ:=Γ) (aC c (M x) nd) l s hpos (by omega);rw[hAl]at xc h1 h2;rw[show n+(10+(c.af.length+c.af.length))+1=n+(11+(c.af.length+c.af.length)) by omega]at xc h2;rw[show(dq l).getD (l.length-1) 0=bq l from rfl,show(dq l).take (l.length-1)=dw l from rfl]at h2
   let T2:List Ob:=tC c n nd++[.row 1 aq ((dw l++bq l::s).map iN) none true false,.cells [.sl (n+(10+(c.af.length+c.af.length))) 0 (dw l).length]]
   have he:∀y,hP (aC c (M y) nd) (dw l) (bq l::s) none=M y++T2:=fun y=>by
    have hy:=oV (M:=M y) hn;rw[hM]at hy;rw[hP,hy]
    conv=>lhs;rw[xx,hM]
    simp[T2]
   have hTv:∀m,cH r m T2=true:=fun m=>by
    have hne:(n+(10+(c.af.length+c.af.length))==r)=false:=by simp;omega
    rw[show T2=tC c n nd++[.row 1 aq ((dw l++bq l::s).map iN) none true false,.cells [.sl (n+(10+(c.af.length+c.af.length))) 0 (dw l).length]]from rfl,iR,aey n hr];simp[hne]
   have hbody:=fun up hup=>hB x k (bq l) T2 up hIx (by omega) ha hup hTv
   rw[<-he,<-he]at hbody
   have hlp:(0:Int)<l.length:=by omega
   have xw:=o9 (A:=aC c (M (F x (bq l))) nd) (l:=dw l) (s:=bq l::s) (g:=none) (i:=n+(9+(c.af.length+c.af.length))) (by omega);have xb:=o9 (A:=aC c (M (F x (bq l))) nd) (l:=dw l) (s:=bq l::s) (g:=none) (i:=n+8) (by omega);have w1:=GD (M:=M (F x (bq l))) hn;have w2:=agc (c:=c) (M:=M (F x (bq l))) (nd:=nd);rw[hM]at w1 w2;rw[w1]at xw;rw[w2]at xb;have yb:=rK (n:=n+6) (b:=bD c) (k:=bq l) (by rw[gF];exact ha)
   have egd:(bD c)[bq l]'(by rw[gF];exact ha)=(bD c).getD (bq l) []:=by rw[bp,bl (by rw[gF];exact ha)];rfl
   rw[egd,show n+6+(3+bq l)=n+(9+bq l) by omega]at yb;have zl:=qb (n+6) (bD c);rw[gF]at zl;have zt:List.take c.af.length (fw (n+6) (bD c))=fw (n+6) (bD c):=cd (by rw[zl];exact aR _);obtain⟨_,yb'⟩:=cW.1 yb;generalize hRR:eg (bq l) ((bD c).getD (bq l) []) nd (dw l) (bq l::s)=R at*;have hfold:(bq l::pf (bD c) f R.1 R.2.1 R.2.2).foldl F x=(pf (bD c) f R.1 R.2.1 R.2.2).foldl F (F x (bq l)):=rfl;rw[hfold];clear hfold he hTv h3 hok w1 w2;generalize hP (aC c (M x) nd) l s none=X at*;generalize hP (aC c (M x) nd) (dw l) (bq l::s) none=Y at*;generalize hP (aC c (M (F x (bq l))) nd) (dw l) (bq l::s) none=Z at*;generalize hP (aC c (M (F x (bq l))) R.1) R.2.1 R.2.2 none=W at*;generalize fw (n+6) (bD c)=E at*;generalize(bD c).getD (bq l) []=bs at*
   generalize bq l=a at*;refine .aU 60 ?_;simp[xc];refine .aX 60 h1 ?_;simp[hpos];refine .aX 8 h2 ?_;simp;refine Reach.afg (l:=L) (args:=[.int .i64 a]) (v:=.bool true) (h':=Z) (by simp) (hbody _ (fun m=>by simp[hup m];omega)) ?_;refine .aU 60 ?_;simp[xw,xb,yb,yb',zl,zt,ha];refine .inLoop ?_;simp at h3'⊢;refine .trans h3' ?_;refine .aU 60 ?_;simp;refine .aH ?_;simp at hT⊢;exact hT
theorem E8(nd:List (List Nat))(N:Nat):∀(m i:Nat)(l:List Nat),i+m=N->(∀a∈l,a<N)->(∀a∈iC nd m i l,a<N)/\(iC nd m i l).length<=l.length+m
 |0,i,l,h,hl=>⟨hl,by simp[iC]⟩
 |m+1,i,l,h,hl=>by
  rw[iC]
  split
  ·have:=E8 nd N m (i+1) (e_ l i) (by omega) (fun a ha=>by
    rcases bu.1 ((we l i).mem_iff.1 ha)with rfl|h1
    ·omega
    ·exact hl a h1)
   rw[wk]at this;exact⟨this.1,by omega⟩
  ·have:=E8 nd N m (i+1) l (by omega) hl;exact⟨this.1,by omega⟩
theorem DY(pl:List (Bs×Nat)):∀(l:List Bs)(a:List Nat),a.Nodup->(eJ pl l a).Nodup
 |[],a,h=>h
 |s::r,a,h=>by
  rw[eJ]
  split
  ·exact DY pl r a h
  ·refine DY pl r _ ?_
   split
   ·exact h
   ·rename_i k _ hk;rw[sN];refine⟨h,by simp,fun x hx y hy=>?_⟩;simp only[dE]at hy;subst hy
    exact fun he=>hk (he▸hx)
theorem J_(pl:List (Bs×Nat)):∀(l:List Gt)(i:Nat)(nd b:List (List Nat)),(∀x∈nd,x.Nodup)->∀x∈(fh pl l i nd b).1,x.Nodup
 |[],_,_,_,h=>h
 |g::r,i,nd,b,h=>by
  rw[fh]
  refine J_ pl r _ _ _ fun x hx=>?_
  rcases bm.1 hx with h1|h1
  ·exact h x h1
  ·rw[dE]at h1
   rw[h1];exact DY pl _ _ (by simp)
theorem We(c:Ct):∀x∈dS c,x.Nodup:=J_ _ _ _ _ _ (by simp)
theorem Fs(pl:List (Bs×Nat))(i:Nat):∀(l:List Bs)(a:List Nat)(b:List (List Nat)),∀x∈jj pl i l a b,∀y∈x,y=i\/∃z∈b,y∈z
 |[],_,_,x,hx,y,hy=>.inr ⟨x,hx,hy⟩
 |s::r,a,b,x,hx,y,hy=>by
  rw[jj]at hx
  split at hx
  ·exact Fs pl i r a b x hx y hy
  ·rename_i k _
   rcases Fs pl i r _ _ x hx y hy with h|⟨z,hz,hyz⟩
   ·exact .inl h
   ·split at hz
    ·exact .inr ⟨z,hz,hyz⟩
    ·rcases oj hz with h1|h1
     ·exact .inr ⟨z,h1,hyz⟩
     ·rw[h1]at hyz
      rcases bm.1 hyz with h2|h2
      ·by_cases hk:k<b.length
       ·rw[bp,bl hk]at h2;exact .inr ⟨_,bz hk,h2⟩
       ·rw[bp,jN (by omega)]at h2;simp at h2
      ·exact .inl (by simpa using h2)
theorem Ls(pl:List (Bs×Nat)):∀(l:List Gt)(i N B:Nat)(nd b:List (List Nat)),(∀g∈l,g.ins.length<2^10)->i+l.length=N->(∀x∈b,x.length<=B/\∀y∈x,y<N)->∀x∈(fh pl l i nd b).2,x.length<=B+l.length*2^10/\∀y∈x,y<N
 |[],_,_,_,_,_,_,_,h=>fun x hx=>by simpa using h x hx
 |g::r,i,N,B,nd,b,hg,hN,h=>fun x hx=>by
  rw[fh]at hx;simp only[bX]at hN⊢;have hb:=Fu pl i B g.ins [] b (fun x hx=>(h x hx).1)
  have:=Ls pl r (i+1) N (B+2^10) _ _ (fun y hy=>hg y (by simp[hy])) (by omega) (fun y hy=>by
   have:=hb y hy;have:=hg g (by simp);refine⟨by omega,fun z hz=>?_⟩
   rcases Fs pl i g.ins [] b y hy z hz with h1|⟨w,hw,hzw⟩
   ·omega
   ·exact(h w hw).2 z hzw) x hx
  rw[De];exact⟨by omega,this.2⟩
theorem abi{c:Ct}(hc:bW c):∀x∈bD c,x.length<=2^21/\∀i∈x,i<c.af.length:=fun x hx=>by
 have hN:=hc.2.2.2.1
 have:=Ls (cj c) c.af 0 c.af.length 0 [] (List.replicate c.af.length []) (fun g hg=>(hc.2.2.2.2.1 g hg).2.1) (by omega) (fun y hy=>by
  rw[Tp]at hy
  rw[hy.2];simp) x hx
 exact⟨by omega,this.2⟩
def nV(c:Ct)(f:Nat):List Nat:=pf (bD c) f (dS c) (iC (dS c) c.af.length 0 []) []
def GG(c:Ct)(f:Nat):Prop:=rU (bD c) f (dS c) (iC (dS c) c.af.length 0 []) []
theorem afF(c:Ct){M:List Ob}(hw:cu M){nd:List (List Nat)}(hn:nd.length=c.af.length){m:Nat}(hm:M.length+(10+(c.af.length+c.af.length))<=m):cG m (aC c M nd)=true:=by
 have h1:=hw m (by omega);have h2:=ad9 c (n:=M.length) (m:=m) (by omega);have h3:=Nv (n:=M.length+6) (m:=m) (bD c) (by rw[gF];omega);have h4:=Ex (n:=M.length+6) (N:=c.af.length) (m:=nd.length) (q:=m) (by omega);rw[xx,oC,tC,oC,oC,oC,oC,h1,h2,Fh,Fi];simp[hF,h3,h4];omega
set_option maxRecDepth 8000 in
theorem ZT(c:Ct)(hc:bW c)(hd:(c.af.map (·.name)).Nodup){S:Type}(M:S->List Ob)(F:S->Nat->S)(n L r p:Nat)(hM:∀x,(M x).length=n)(hw:∀x,cu (M x))(hv:∀x,dW (M x))(hr:r<n)(hL:L<n)(hp:∀x,(M x)[p]? =some (.cells (AV.cells (bL c))))(I:S->Nat->Prop)(hI:∀x k a,I x k->a<c.af.length->I (F x a) (k+1))
 (hB:∀x k a T up,I x k->k<2^20->a<c.af.length->(∀m,up.all (gn r m)=true)->(∀m,cH r m T=true)->AM.Reach Tryz.prog Γ ((ji.yl L).cfg [.int .i64 a] up (M x++T)) (.back up (.bool true) (M (F x a)++T)))
 (up:List Fr)(hup:∀m,up.all (gn r m)=true)(x:S)(hI0:I x 0)(f:Nat)(hf:f<=2^14)(hE:GG c f):
 AM.Reach Tryz.prog Γ (.cl nE [.cS L,.ptr p 0] up (M x)) (.back up (.aB []) (M ((nV c f).foldl F x))):=by
 have hN:=hc.2.2.2.1;have hi:=E8 (dS c) c.af.length c.af.length 0 [] (by omega) (by simp);obtain⟨T,hT⟩:=afk (Γ:=Γ) c hc (abi hc) M F n L r hM hv hr I hI hB up hup f x 0 (dS c) (iC (dS c) c.af.length 0 []) [] (tz c) (We c) hi.1 (by have:=hi.2;simp only[dt]at this;omega) hI0 (by omega) hE;have h14:=aeu (Γ:=Γ) c hc (hv x) (dS c) (tz c) L (.ptr p 0) up c.af.length 0 (by omega) [] (aR _);have hwt:=aeA (Γ:=Γ) c hc hd (hw x) (hv x);have hpx:=hp x;have hMx:=hM x
 have key:AM.Reach Tryz.prog Γ (.cl nE [.cS L,.ptr p 0] up (M x)) (.back up (.aB []) (M ((nV c f).foldl F x)++T)):=by
  have e1:hQ (gM c (M x)) (dS c) (bD c)++([.cells [.sl (n+7) 0 c.af.length,.sl (n+8) 0 c.af.length]])=aC c (M x) (dS c):=by rw[aC,hM]
  have e2:aC c (M x) (dS c)++[.row 1 aq [] none true false,.cells [.sl (aC c (M x) (dS c)).length 0 0]]=hP (aC c (M x) (dS c)) [] [] none:=by simp[hP]
  have e3:=oV (M:=M x) (tz c)
  have e4:(hQ (gM c (M x)) (dS c) (bD c)).length=n+(9+(c.af.length+c.af.length)):=by rw[lz,jU,gF,tz,hM];omega
  rw[jU]at hwt;rw[hM]at h14 hwt e3;refine .br 60 U2 ?_;simp[hpx];have e5:=afF c (hw x) (tz c) (m:=n+(10+(c.af.length+c.af.length))) (by rw[hM];omega);have hpn:=aV hpx;rw[hM]at hpn
  have e7:(aC c (M x) (dS c))[p]? =some (.cells (AV.cells (bL c))):=by rw[xx];exact dJ hpx _
  rw[<-e1]at e2 e5 e7 h14 hT;refine .aX 5 hwt ?_;generalize hQ (gM c (M x)) (dS c) (bD c)=X at*;simp
  have et:(X++[Ob.cells [.sl (n+7) 0 c.af.length,.sl (n+8) 0 c.af.length],.row 1 jR [] none true false,.row 1 iW [] none true false]).take (n+(10+(c.af.length+c.af.length)))=X++[.cells [.sl (n+7) 0 c.af.length,.sl (n+8) 0 c.af.length]]:=by
   rw[show n+(10+(c.af.length+c.af.length))=X.length+1 by omega,List.take_length_add_append];rfl
  refine .j0 (n:=n+(10+(c.af.length+c.af.length))) et (by simp[hM]) (by simp;omega) e5 ?_
  have hXl:(X++[Ob.cells [.sl (n+7) 0 c.af.length,.sl (n+8) 0 c.af.length]]).length=n+(10+(c.af.length+c.af.length)):=by simp;omega
  rw[hXl]at e2;generalize X++[Ob.cells [.sl (n+7) 0 c.af.length,.sl (n+8) 0 c.af.length]]=A at*;refine .aay 60 aq (es:=[]) (by simp) rfl ?_;have e6:A++[Ob.row 1 aq [] none true false,.cells [.sl (n+(10+(c.af.length+c.af.length))) 0 0]]=hP A [] [] none:=e2
  have e8:=fun os=>dJ e7 os
  simp[e8,hXl,cq];rw[e6];refine .inLoop ?_
  have e9:n+(10+(c.af.length+c.af.length))+1=n+(11+(c.af.length+c.af.length)):=by omega
  rw[e9,e4,hM];simp at h14⊢;refine .trans h14 ?_;refine .aU 60 ?_;simp;refine .inLoop ?_;unfold nV;simp at hT⊢;exact hT
 have:=AM.Reach.leave key rfl (by
  rw[hM,<-hM ((nV c f).foldl F x),List.take_left]
  exact hw _ _ (aR _))
 rw[hM,<-hM ((nV c f).foldl F x),List.take_left]at this;exact this
theorem Nn(N:List Bs):∀l:List Bs,((ia N l).1=6/\(ia N l).2∉N)\/(ia N l=(0,[])/\∀s∈l,s∈N)
 |[]=>.inr ⟨rfl,fun s hs=>by cases hs⟩
 |a::l=>by
  rw[ia]
  by_cases h:a∈N
  ·rw[if_pos h]
   rcases Nn N l with h1|⟨h1,h2⟩
   ·exact .inl h1
   ·refine .inr ⟨h1,fun s hs=>?_⟩
    rcases bu.1 hs with rfl|hs
    ·exact h
    ·exact h2 s hs
  ·rw[if_neg h];exact .inl ⟨rfl,h⟩
theorem Mi(r:Int×Bs):∀l:List Gt,jD r l=r/\(∀g∈l,jE g=true)\/(jD r l).1=1
 |[]=>.inl ⟨rfl,fun g hg=>by cases hg⟩
 |g::l=>by
  rw[jD]
  by_cases h:jE g=true
  ·rw[if_pos h]
   rcases Mi r l with⟨h1,h2⟩|h1
   ·refine .inl ⟨h1,fun x hx=>?_⟩
    rcases bu.1 hx with rfl|hx
    ·exact h
    ·exact h2 x hx
   ·exact .inr h1
  ·rw[if_neg h];exact .inr rfl
theorem Ng(r:Int×Bs):∀l:List Lt,kN r l=r/\(∀q∈l,mb q=true)\/(kN r l).1=1
 |[]=>.inl ⟨rfl,fun g hg=>by cases hg⟩
 |g::l=>by
  rw[kN]
  by_cases h:mb g=true
  ·rw[if_pos h]
   rcases Ng r l with⟨h1,h2⟩|h1
   ·refine .inl ⟨h1,fun x hx=>?_⟩
    rcases bu.1 hx with rfl|hx
    ·exact h
    ·exact h2 x hx
   ·exact .inr h1
  ·rw[if_neg h];exact .inr rfl
theorem M1(r:Int×Bs):∀l:List Bs,nT r l=r/\(∀s∈l,ja s=true)\/(nT r l).1=4
 |[]=>.inl ⟨rfl,fun g hg=>by cases hg⟩
 |g::l=>by
  rw[nT]
  by_cases h:ja g=true
  ·rw[if_pos h]
   rcases M1 r l with⟨h1,h2⟩|h1
   ·refine .inl ⟨h1,fun x hx=>?_⟩
    rcases bu.1 hx with rfl|hx
    ·exact h
    ·exact h2 x hx
   ·exact .inr h1
  ·rw[if_neg h];exact .inr rfl
theorem OU(t:Option Bs)(r:Int×Bs):(t=none/\mH t r=r)\/(mH t r).1=5:=by
 cases t with
 |none=>exact .inl ⟨rfl,rfl⟩
 |some s=>exact .inr rfl
structure eU(c:Ct):Prop where
 lR:jd c=false
 names:∀s∈qf c,ja s=true
 P0:iX (aD c)=none
 outs:iX c.bg=none
 init:∀q∈c.ak,mb q=true
 af:∀g∈c.af,jE g=true
 used:∀s∈eS c,s∈aD c
theorem aa8(c:Ct):((iz c).1≠0/\((iz c).1=6->(iz c).2∉aD c))\/(iz c=(0,[])/\eU c):=by
 unfold iz
 cases hl:jd c with
 |true=>exact .inl ⟨by simp,by simp⟩
 |false=>
  rw[if_neg (by simp)]
  rcases M1 (mH (iX (aD c)) (mH (iX c.bg) (kN (jD (ia (aD c) (eS c)) c.af) c.ak))) (qf c)with⟨e1,h1⟩|h1
  ·rw[e1]
   rcases OU (iX (aD c)) (mH (iX c.bg) (kN (jD (ia (aD c) (eS c)) c.af) c.ak))with⟨h2,e2⟩|h2
   ·rw[e2]
    rcases OU (iX c.bg) (kN (jD (ia (aD c) (eS c)) c.af) c.ak)with⟨h3,e3⟩|h3
    ·rw[e3]
     rcases Ng (jD (ia (aD c) (eS c)) c.af) c.ak with⟨e4,h4⟩|h4
     ·rw[e4]
      rcases Mi (ia (aD c) (eS c)) c.af with⟨e5,h5⟩|h5
      ·rw[e5]
       rcases Nn (aD c) (eS c)with⟨h6,h7⟩|⟨e6,h6⟩
       ·exact .inl ⟨by rw[h6];decide,fun _=>h7⟩
       ·exact .inr ⟨e6,⟨hl,h1,h2,h3,h4,h5,h6⟩⟩
      ·exact .inl ⟨by rw[h5];decide,fun h=>by rw[h5]at h;cases h⟩
     ·exact .inl ⟨by rw[h4];decide,fun h=>by rw[h4]at h;cases h⟩
    ·exact .inl ⟨by rw[h3];decide,fun h=>by rw[h3]at h;cases h⟩
   ·exact .inl ⟨by rw[h2];decide,fun h=>by rw[h2]at h;cases h⟩
  ·exact .inl ⟨by rw[h1];decide,fun h=>by rw[h1]at h;cases h⟩
theorem JU:∀(l seen:List Bs),m6 seen l=none->l.Nodup/\∀s∈l,s∉seen
 |[],seen,_=>⟨List.nodup_nil,fun s hs=>by cases hs⟩
 |a::l,seen,h=>by
  rw[m6]at h
  by_cases hm:a∈seen
  ·rw[if_pos hm]at h;cases h
  ·rw[if_neg hm]at h;obtain⟨h1,h2⟩:=JU l _ h;refine⟨lW.2 ⟨fun ha=>h2 a ha (by simp),h1⟩,fun s hs=>?_⟩
   rcases bu.1 hs with rfl|hs
   ·exact hm
   ·exact fun hs2=>h2 s hs (by simp[hs2])
theorem eU.nodup{c:Ct}(h:eU c):(aD c).Nodup:=(JU _ _ h.P0).1
def GtB(g:Gt):Prop:=g.name.length<2^40/\g.ins.length<2^40/\g.rows.length<2^40/\(∀s∈g.ins,s.length<2^40)/\∀s∈g.rows,s.length<2^40
def iJ(c:Ct):Prop:=c.aE.length<2^40/\c.bg.length<2^40/\c.ak.length<2^40/\c.af.length<2^40/\(∀g∈c.af,GtB g)/\
 (∀s∈c.aE,s.length<2^40)/\(∀s∈c.bg,s.length<2^40)/\∀q∈c.ak,q.name.length<2^40/\q.next.length<2^40
theorem O_{α:Type}{p:α->Bool}:∀{l:List α},bt p l=false->∀x∈l,p x=false
 |[],_,x,hx=>by cases hx
 |a::l,h,x,hx=>by
  rw[iT,jQ]at h
  rcases bu.1 hx with rfl|hx
  ·exact h.1
  ·exact O_ h.2 x hx
theorem bW.CI{c:Ct}(h:bW c):iJ c:=by
 obtain⟨h1,h2,h3,h4,h5,h6⟩:=h;refine⟨by omega,by omega,by omega,by omega,fun g hg=>?_,h6⟩;obtain⟨g1,g2,g3,g4⟩:=h5 g hg;exact⟨g1,by omega,by omega,g4⟩
theorem KL{c:Ct}(hb:iJ c)(hl:jd c=false):bW c:=by
 simp only[jd,jQ,jn]at hl;obtain⟨h1,h2,h3⟩:=hl;obtain⟨b1,b2,b3,b4,b5,b6⟩:=hb;refine⟨by omega,by omega,by omega,by omega,fun g hg=>?_,b6⟩;obtain⟨g1,g2,g3,g4⟩:=b5 g hg;have:=O_ h1 g hg;simp only[rN,jQ,jn]at this;exact⟨g1,by omega,by omega,g4⟩
set_option maxRecDepth 8000 in
theorem Mk(hΓ:eT Γ)(c:Ct)(hb:iJ c):aL Tryz.prog Γ nF [bL c] (sn (iz c)):=by
 cases hl:jd c with
 |false=>exact adG hΓ c (KL hb hl)
 |true=>
  have b0:=hb.1;have b1:=hb.2.1;have b3:=hb.2.2.1;have b4:=hb.2.2.2.1;have hC:=Jy (Γ:=Γ) (fl:=false) (NN c.af) c.hG (by omega) (h:=ID c) trivial;have e0:((c.aE.length:Int)+c.ak.length+c.af.length<=200)=(c.aE.length+c.ak.length+c.af.length<=200):=propext (by omega);have e1:((c.bg.length:Int)<=200)=(c.bg.length<=200):=propext (by omega);refine .run 160 Kg (by simp) ?_;unfold iz
  by_cases h1:c.aE.length+c.ak.length+c.af.length<=200
  ·by_cases h2:c.bg.length<=200
   ·simp(disch:=omega) [e0,e1,h1,h2];refine .aX 160 hC ?_
    have h3:bt rN c.af=true:=by
     simp only[jd,eX,bf]at hl
     rcases hl with h|h|h
     ·exact h
     ·omega
     ·omega
    rw[h3];simp;refine .lD 160 (by simp) (lY 8 []) ?_;simp;refine .dr 90 ?_;simp;exact .back (by simp[hl])
   ·simp(disch:=omega) [e0,e1,h1,h2];refine .lD 160 (by simp) (lY 8 []) ?_;simp;refine .dr 90 ?_;simp;exact .back (by simp[hl])
  ·simp(disch:=omega) [e0,e1,h1];refine .lD 160 (by simp) (lY 8 []) ?_;simp;refine .dr 90 ?_;simp;exact .back (by simp[hl])
def kJ(c:Ct):Bool:=decide ((iz c).1=0)
theorem NV(hΓ:eT Γ)(c:Ct)(hb:iJ c):aL Tryz.prog Γ zF [bL c] (.bool (kJ c)):=by
 have hC:=Mk hΓ c hb;unfold kJ;generalize iz c=r at*;obtain⟨e,s⟩:=r;refine .run 60 V6 (by simp) ?_;simp;refine .call 60 (by simp) hC ?_;simp;exact .back (by simp)
theorem wH{c:Ct}(h:kJ c=true):eU c/\iz c=(0,[]):=by
 rcases aa8 c with⟨h1,_⟩|⟨h1,h2⟩
 ·exact absurd (Df h) h1
 ·exact⟨h2,h1⟩
theorem rz{c:Ct}(hb:iJ c)(h:kJ c=true):bW c:=KL hb (wH h).1.lR
theorem tn{c:Ct}(h:kJ c=true):(c.af.map (·.name)).Nodup:=by
 have:=(wH h).1.nodup;rw[aD,sN]at this;exact this.2.1
end Go.Proofs.YtihmomicdpkabaaGreatDoor
namespace Go.Proofs.YtihmomicdpkabaaGreatDoor
open Go.AM Go.Proofs Go.ChangeShapes Go.WideShapes Go.ChangeAt Go.RowKit
theorem own:ownKnob Tryz.prog.godebug=none:=by kernel_rfl
theorem laid:laidOutB Tryz.prog=true:=by kernel_rfl
theorem afN:mapsRowed Tryz.prog=true:=by kernel_rfl
def GI:List (Lit×DataW Unit):=match(Rows.laid_patchbay_net_ins:DataW Unit)with
 |.map D=>D
 |_=>[]
theorem acZ:(Rows.laid_patchbay_net_ins:DataW Unit)=.map GI:=by kernel_rfl
def xD:List (AV×AV):=[(.int .i64 0,p2 0 0),(.int .i64 1,p2 0 0),(.int .i64 2,p2 1 1),(.int .i64 3,p2 1 1),(.int .i64 4,p2 2 8),(.int .i64 5,p2 2 8),(.int .i64 6,p2 2 8),(.int .i64 7,p2 2 8),(.int .i64 8,p2 2 8),(.int .i64 9,p2 2 8),(.int .i64 10,p2 0 8)]
theorem adV:(GI.map fun d=>(i_ d.1,nW d.2))=xD:=by kernel_rfl
theorem afb:Tryz.prog.globalNamed "patchbay/net.ins" =some 1:=by kernel_rfl
theorem agd:(Tryz.prog.globals[1]?).map (·.type)=some 211:=by kernel_rfl
theorem agh:Tryz.prog.underlying 211=some (.map 30 63):=by kernel_rfl
theorem QE:Tryz.prog.underlying 30=some (.int .i64):=by kernel_rfl
theorem u74:Tryz.prog.underlying 63=some (.array 2 3):=by kernel_rfl
theorem u3:Tryz.prog.underlying 3=some (.int .i64):=by kernel_rfl
theorem u4:Tryz.prog.underlying 4=some .bool:=by kernel_rfl
abbrev aep:Nat:=2
def BT:List (Lit×DataW Unit):=match(Rows.laid_patchbay_lower_ops:DataW Unit)with
 |.iface _ (.map D)=>D
 |_=>[]
theorem adC:(Rows.laid_patchbay_lower_ops:DataW Unit)=.iface "func table" (.map BT):=by kernel_rfl
def uC:List (List UInt8×FuncId):=[([40,42,112,97,116,99,104,98,97,121,47,108,111,119,101,114,46,98,117,105,108,100,101,114,41,46,110,111,110,101],vB),
 ([40,42,112,97,116,99,104,98,97,121,47,108,111,119,101,114,46,98,117,105,108,100,101,114,41,46,97,108,108],sV),
 ([40,42,112,97,116,99,104,98,97,121,47,108,111,119,101,114,46,98,117,105,108,100,101,114,41,46,111,110,101],sW),
 ([40,42,112,97,116,99,104,98,97,121,47,108,111,119,101,114,46,98,117,105,108,100,101,114,41,46,111,100,100],sX)]
def xG(t:List UInt8):FuncId:=((uC.find? fun p=>p.1==t).map (·.2)).getD 0
def BS:List (AV×AV):=(List.range 10).map fun(n:Nat)=>(.int .i64 (n:Int),HB (pt (n:Int)) ((n%2:Nat):Int))
theorem adn:((DataW.funcsOutEntries BT).map fun d=>(i_ d.1,nN xG d.2))=BS:=by kernel_rfl
theorem ae9:Tryz.prog.globalNamed "patchbay/lower.ops" =some 0:=by kernel_rfl
theorem afW:(Tryz.prog.globals[0]?).map (·.type)=some 111:=by kernel_rfl
theorem agi:Tryz.prog.underlying 111=some (.map 30 109):=by kernel_rfl
def O':DataW (List UInt8)->Bool
 |.agg [.held t,.lit (.int .i64 _)]=>uC.any fun p=>p.1==t
 |_=>false
theorem ZB:((DataW.funcsOutEntries BT).all fun d=>O' d.2)=true:=by kernel_rfl
theorem abc:((List.range Tryz.prog.funcs.size).all fun f=>match Tryz.prog.funcs[f]? with
 |some fn=>!(uC.any fun p=>p.1==fn.name.toUTF8.data.toList)||xG fn.name.toUTF8.data.toList==f
 |none=>true)=true:=by kernel_rfl
theorem afx:∃fs,Tryz.prog.underlying 109=some (.struct fs)/\fs.toList.map (fun f=>(f.type,f.offset))=[(107,0),(3,1)]:=⟨_,Tryz.underlying109,by kernel_rfl⟩
theorem adM{t:List UInt8}(h:(uC.any fun p=>p.1==t)=true)(f:FuncId)(fn:Func)(hf:Tryz.prog.funcs[f]? =some fn)(hn:fn.name.toUTF8.data.toList=t):xG t=f:=by
 have hs:f<Tryz.prog.funcs.size:=by
  refine vk fun hc=>?_
  rw[nu (Nat.le_of_not_lt hc)]at hf
  cases hf
 have h1:=dA.1 abc f (er.2 hs);generalize Tryz.prog.funcs[f]? =o at hf h1;subst hf;have h2:(!(uC.any fun p=>p.1==fn.name.toUTF8.data.toList)||xG fn.name.toUTF8.data.toList==f)=true:=h1;rw[hn,h]at h2;simpa using h2
theorem abN{W:World}(h:laidMetH Tryz.prog Rows.lowerOnceRow.laid W):∃Γ:Nat->Option AV,(eT Γ/\uJ Γ)/\∀n a,Γ n=some a->aK 0 a.cells=true/\∃vs,VL (gw W) [] a.cells vs/\∀j(hj:j<vs.length),W.cell? ⟨n,j,none⟩=some vs[j]:=by
 obtain⟨ks,us,h1,h2,z,hz,hm⟩:=abW (XQ h) (by kernel_rfl) (name:= "patchbay/net.ins") (D:=GI) (by
  rw[<-acZ]
  refine dR.2 ⟨ec _ (pQ ..),by kernel_rfl⟩) afb agd agh
  (fun v q hq=>by obtain⟨a,b,_⟩:=Ny QE (g:=gw W) (h:=[]) hq;exact⟨a,b⟩) (fun n v x hf ht=>aaZ u74 u3 (by kernel_rfl) (by kernel_rfl) hf ht)
 obtain⟨fs,hfs,hfs2⟩:=afx
 obtain⟨ks2,us2,h12,h22,z2,hz2,hm2⟩:=ZA h (name:= "patchbay/lower.ops") (en:=BT) (by
  rw[<-adC]
  exact ec _ (ec _ (pQ ..))) xG ae9 afW agi
  (fun v q hq=>by obtain⟨a,b,_⟩:=Ny QE (g:=gw W) (h:=[]) hq;exact⟨a,b⟩) (fun n v x hx hf ht=>by
   obtain⟨d,hd,he⟩:=hx;have h4:=dA.1 ZB d hd;rw[he]at h4
   obtain⟨t0,k0,hxe,hk0⟩:∃t0 k0,x.1=.agg [.held t0,.lit (.int .i64 k0)]/\(uC.any fun p=>p.1==t0)=true:=by
    unfold O' at h4
    split at h4
    ·rename_i t0 k0 hxe;exact⟨t0,k0,hxe,h4⟩
    ·cases h4
   refine abF hfs hfs2 (by kernel_rfl) u3 (by kernel_rfl) (by kernel_rfl) (by kernel_rfl) hxe ?_ (adM hk0) hf ht
   rintro rfl
   exact absurd hk0 (by decide))
 have hcase:∀n m:Int,(cn (.sc .int) (.int .i64 n) (.int .i64 m)=some true/\AV.int .i64 n=.int .i64 m)\/(cn (.sc .int) (.int .i64 n) (.int .i64 m)=some false/\AV.int .i64 n≠.int .i64 m):=by
  intro n m
  by_cases hnm:n=m
  ·exact .inl ⟨by simp[cn,eG,hnm],by rw[hnm]⟩
  ·exact .inr ⟨by simp[cn,eG,hnm],by simp[hnm]⟩
 refine⟨fun n=>if n=1 then some (.de ks us)else if n=0 then some (.de ks2 us2)else none,⟨⟨ks,us,rfl,fun n=>?_⟩,⟨ks2,us2,rfl,fun n=>?_⟩⟩,fun n a hn=>?_⟩
 ·rw[hz];rw[adV]at hm
  obtain⟨r,e1,e2,e3⟩:=DT (.sc .int) (.int .i64 n) z (by
   intro y hy;have hy2:=(hm y).1 hy;simp only[xD,bu,pR,pG]at hy2
   rcases hy2 with rfl|rfl|rfl|rfl|rfl|rfl|rfl|rfl|rfl|rfl|rfl<;>exact hcase _ _)
  rw[e1];unfold GJ
  cases r with
  |some v=>
   have hv:=(hm _).1 (e3 v rfl);simp only[xD,bu,pR,pG,bP,AV.int.injEq,u9]at hv
   rcases hv with⟨rfl,rfl⟩|⟨rfl,rfl⟩|⟨rfl,rfl⟩|⟨rfl,rfl⟩|⟨rfl,rfl⟩|⟨rfl,rfl⟩|⟨rfl,rfl⟩|⟨rfl,rfl⟩|⟨rfl,rfl⟩|⟨rfl,rfl⟩|⟨rfl,rfl⟩<;>rfl
  |none=>
   have hno:∀y∈xD,¬(AV.int .i64 n=y.1):=fun y hy=>e2 rfl y ((hm y).2 hy)
   simp only[xD,bu,pR,pG,Je,forall_eq,AV.int.injEq,u9]at hno;rw[if_neg (by omega),if_neg (by omega),if_neg (by omega),if_neg (by omega)]
 ·rw[hz2];rw[adn]at hm2
  obtain⟨r,e1,e2,e3⟩:=DT (.sc .int) (.int .i64 n) z2 (by
   intro y hy;have hy2:=(hm2 y).1 hy;simp only[BS,cI]at hy2;obtain⟨k,_,rfl⟩:=hy2
   exact hcase _ _)
  rw[e1];unfold B1
  cases r with
  |some v=>
   have hv:=(hm2 _).1 (e3 v rfl);simp only[BS,cI,er,bP,AV.int.injEq,u9]at hv;obtain⟨k,hk,rfl,rfl⟩:=hv;rw[if_pos (by omega)];simp
  |none=>
   have hno:∀y∈BS,¬(AV.int .i64 n=y.1):=fun y hy=>e2 rfl y ((hm2 y).2 hy)
   rw[if_neg]
   rintro⟨h0,h9⟩
   obtain⟨k,rfl⟩:=kp h0;exact hno (.int .i64 k,HB (pt k) ((k%2:Nat):Int)) (cI.2 ⟨k,er.2 (by omega),rfl⟩) rfl
 ·simp only at hn
  split at hn
  ·rename_i h0
   cases hn
   subst h0;exact⟨h1,h2⟩
  ·split at hn
   ·rename_i h0
    cases hn
    subst h0;exact⟨h12,h22⟩
   ·cases hn
noncomputable def FZ(os:Os):World:=
 {World.doorLaid Tryz.prog 4000 os with heap:=((World.doorLaid Tryz.prog 4000 os).heap.toList.zipIdx.map fun x=>if x.2=aep then(match x.1 with
  |.cells _ t q=>.cells (Go.Pinned.utf8FirstZ.map fun n:Nat=>Value.int .u8 (n:Int)).toArray t q
  |o=>o)else x.1).toArray}
theorem abg(os:Os)(args:Array Value):laidMetH Tryz.prog Rows.lowerOnceRow.laid ((FZ os).forCall (fun _ _=>0) ⟨#[],args,[]⟩).memory:=
 laidMetH_of_parts3 (fuel:=8) (laidMet_of_run' 8 (by kernel_rfl) (by kernel_rfl)) (by kernel_rfl) (by kernel_rfl)
abbrev shI:Sh:=.int .i64
abbrev xz:Sh:=.list 1 false .str
abbrev PG:Sh:=.parts [.str,.str,.int .i64]
abbrev PR:Sh:=.parts [.str,.int .i64,xz,xz,.bool]
abbrev PW:Sh:=.parts [xz,xz,.list 3 true PG,.list 5 true PR]
abbrev Gv:Sh:=.list 1 false .bool
theorem afc{B:Nat}{cs:List AV}(h:ea B shI cs):∃n:Int,cs=[.int .i64 n]:=by
 simp only[ea]at h;obtain⟨n,rfl,h1,h2⟩:=h;exact⟨n,rfl⟩
theorem acA{B:Nat}{cs:List AV}(h:ea B .str cs):∃s:List UInt8,cs=[.str s]/\s.length<=B:=by
 simp only[ea]at h;exact h
theorem Ax{B:Nat}{cs:List AV}(h:ea B xz cs):∃l:List (List UInt8),cs=[.list false 1 (l.map .str)]/\l.length<=B/\∀s∈l,s.length<=B:=by
 simp only[ea]at h;obtain⟨xs,rfl,h0,h1⟩:=h
 obtain⟨l,hl,hn⟩:=wW (f:=lS false) (e:=fun s:{s:List UInt8//s.length<=B}=>AV.str s.val) (fun x hx=>by
  obtain⟨⟨n,rfl,hb⟩,_⟩:=h1 x hx
  exact⟨⟨n,hb⟩,rfl⟩)
 refine⟨l.map (·.val),by rw[hl,iO];rfl,by rw[iq];omega,fun s hs=>?_⟩;obtain⟨x,_,rfl⟩:=cI.1 hs;exact x.property
def I0(B:Nat)(q:Lt):Prop:=q.name.length<=B/\q.next.length<=B
def Iw(B:Nat)(g:Gt):Prop:=g.name.length<=B/\g.ins.length<=B/\g.rows.length<=B/\(∀s∈g.ins,s.length<=B)/\∀s∈g.rows,s.length<=B
def xT(B:Nat)(c:Ct):Prop:=c.aE.length<=B/\c.bg.length<=B/\c.ak.length<=B/\c.af.length<=B/\(∀g∈c.af,Iw B g)/\(∀s∈c.aE,s.length<=B)/\(∀s∈c.bg,s.length<=B)/\∀q∈c.ak,I0 B q
theorem xT.CI{B:Nat}{c:Ct}(h:xT B c)(hB:B<2^40):iJ c:=by
 obtain⟨h1,h2,h3,h4,h5,h6,h7,h8⟩:=h;refine⟨by omega,by omega,by omega,by omega,fun g hg=>?_,fun s hs=>?_,fun s hs=>?_,fun q hq=>?_⟩
 ·obtain⟨a,b,d,e,f⟩:=h5 g hg;exact⟨by omega,by omega,by omega,fun s hs=>by have:=e s hs;omega,fun s hs=>by have:=f s hs;omega⟩
 ·have:=h6 s hs;omega
 ·have:=h7 s hs;omega
 ·obtain⟨a,b⟩:=h8 q hq;exact⟨by omega,by omega⟩
theorem dec_lt{B:Nat}{cs:List AV}(h:ea B PG cs):∃q:Lt,AV.agg cs=od q/\I0 B q:=by
 simp only[ea,qu]at h;obtain⟨_,_,rfl,⟨a,rfl,ha⟩,_,_,rfl,⟨b,rfl,hb⟩,_,_,rfl,⟨m,rfl,_⟩,rfl⟩:=h;exact⟨⟨a,b,m⟩,rfl,ha,hb⟩
theorem aes{B:Nat}{cs:List AV}(h:ea B PR cs):∃g:Gt,AV.agg cs=cR g/\Iw B g:=by
 rw[ea]at h;simp only[qu]at h;obtain⟨_,_,rfl,h1,_,_,rfl,h2,_,_,rfl,h3,_,_,rfl,h4,_,_,rfl,h5,rfl⟩:=h;obtain⟨n,rfl,hn⟩:=acA h1;obtain⟨op,rfl⟩:=afc h2;obtain⟨i,rfl,hi,hi2⟩:=Ax h3;obtain⟨r,rfl,hr,hr2⟩:=Ax h4;simp only[ea]at h5;obtain⟨b,rfl⟩:=h5;exact⟨⟨n,op,i,r,b,1,1,.self,.self⟩,rfl,hn,hi,hr,hi2,hr2⟩
theorem aeI{B:Nat}{cs:List AV}(h:ea B PW cs):∃c:Ct,AV.agg cs=bL c/\xT B c:=by
 rw[ea]at h;simp only[qu]at h;obtain⟨_,_,rfl,h1,_,_,rfl,h2,_,_,rfl,h3,_,_,rfl,h4,rfl⟩:=h;obtain⟨i,rfl,hi,hi2⟩:=Ax h1;obtain⟨o,rfl,ho,ho2⟩:=Ax h2;rw[ea]at h3 h4;obtain⟨xs,rfl,hxs,h3⟩:=h3;obtain⟨ys,rfl,hys,h4⟩:=h4
 obtain⟨l,hl,hn⟩:=wW (f:=lS true) (e:=fun q:{q:Lt//I0 B q}=>od q.val) (fun x hx=>by
  obtain⟨t,ht,hb⟩:=dec_lt (h3 x hx).1
  exact⟨⟨t,hb⟩,ht⟩)
 obtain⟨g,hg,hm⟩:=wW (f:=lS true) (e:=fun q:{q:Gt//Iw B q}=>cR q.val) (fun x hx=>by
  obtain⟨t,ht,hb⟩:=aes (h4 x hx).1
  exact⟨⟨t,hb⟩,ht⟩)
 refine⟨⟨i,o,l.map (·.val),g.map (·.val),1,1,3,5,.self,.self,.self,.self⟩,by rw[hl,hg];simp[bL,iO,zf],hi,ho,by rw[iq];omega,by rw[iq];omega,fun x hx=>?_,hi2,ho2,fun x hx=>?_⟩
 ·obtain⟨y,_,rfl⟩:=cI.1 hx;exact y.property
 ·obtain⟨y,_,rfl⟩:=cI.1 hx;exact y.property
end Go.Proofs.YtihmomicdpkabaaGreatDoor
namespace Go.Proofs.YtihmomicdpkabaaGreatDoor
open Go.AM Go.Proofs
variable{Γ:Nat->Option AV}
def jA(c:Ct)(out:List Nat):List (Bs×Nat):=(cj c).filter fun x=>!out.contains x.2
theorem F8{c:Ct}{x:Bs×Nat}(hx:x∈cj c):∃h:x.2<c.af.length,x.1=c.af[x.2].name:=by
 obtain⟨j,hj,rfl⟩:=ku hx;rw[ub]at hj;rw[wY c j hj];exact⟨hj,rfl⟩
theorem AT{c:Ct}(hd:(c.af.map (·.name)).Nodup){i j:Nat}(hi:i<c.af.length)(hj:j<c.af.length)(h:c.af[i].name=c.af[j].name):i=j:=by
 have h1:(c.af.map (·.name))[i]'(by simpa using hi)=(c.af.map (·.name))[j]'(by simpa using hj):=by simpa using h
 exact(ze hd).1 h1
theorem ZC{c:Ct}(hd:(c.af.map (·.name)).Nodup)(out:List Nat){a:Nat}(ha:a<c.af.length):n3 c.af[a].name (jA c out)=jA c (out++[a]):=by
 unfold n3 jA;rw[List.filter_filter];apply List.filter_congr;intro x hx;obtain⟨h1,h2⟩:=F8 hx;have e:(x.1=c.af[a].name)↔x.2=a:=⟨fun h=>AT hd h1 ha (by rw[<-h2,h]),fun h=>by rw[h2];simp[h]⟩;rw[fE];simp only[av,bf,jq,y_,jn,bm,dE,not_or,e];exact⟨fun h=>⟨h.2,h.1⟩,fun h=>⟨h.2,h.1⟩⟩
theorem Xr{c:Ct}(hd:(c.af.map (·.name)).Nodup)(out:List Nat):((jA c out).map (·.1)).Nodup:=by
 have h1:((cj c).map (·.1)).Nodup:=by rw[abj];exact hd
 exact h1.sublist ((List.filter_sublist).map _)
theorem Lz(c:Ct):jA c []=cj c:=by simp[jA]
theorem Lx{c:Ct}(hd:(c.af.map (·.name)).Nodup)(out:List Nat){i:Nat}(hi:i<c.af.length):getM c.af[i].name (jA c out)=if i∈out then none else some i:=by
 have key:∀l:List (Bs×Nat),(∀x∈l,x∈cj c)->getM c.af[i].name (l.filter fun x=>!out.contains x.2)=if i∈out then none else if(c.af[i].name,i)∈l then some i else none:=by
  intro l
  induction l with
  |nil=>intro _;simp[getM]
  |cons x l ih=>
   intro hl;obtain⟨h1,h2⟩:=F8 (hl x (by simp))
   have ih:=ih fun y hy=>hl y (by simp[hy])
   by_cases hx:x.2=i
   ·have hx1:x=(c.af[i].name,i):=by
     obtain⟨a,b⟩:=x;simp only at hx h2;subst hx;rw[h2]
    by_cases ho:i∈out
    ·rw[zd,if_neg (by rw[hx1];simpa using ho),ih,if_pos ho,if_pos ho]
    ·rw[zd,if_pos (by rw[hx1];simpa using ho),if_neg ho,hx1];simp[getM]
   ·have hne:¬c.af[i].name=x.1:=fun h=>hx (AT hd h1 hi (by rw[<-h2,h])).symm.symm
    have hm:((c.af[i].name,i)∈x::l)↔(c.af[i].name,i)∈l:=by
     rw[bu];exact⟨fun h=>h.resolve_left fun h=>hx (by rw[<-h]),.inr⟩
    rw[zd]
    split
    ·rw[getM,if_neg hne,ih];simp only[hm]
    ·rw[ih];simp only[hm]
 have hm:(c.af[i].name,i)∈cj c:=by
  have:=bz (l:=cj c) (n:=i) (by rw[ub];exact hi);rwa[wY c i hi]at this
 rw[jA,key _ fun x hx=>hx,if_pos hm]
abbrev lpS:Ob:=.loop .ready .none mU [U,.ptr 0 0,.sl 1 0 0,.sl 2 0 0,.ptr 3 0,.ptr 7 0,U,U,U,U,U,U,U,U,U,U,U,U,U,U,U,U,U,U,U,U,U,U,U,U,U,U,U,U,U,U,U,U,U,U,U,U,U,U,U,U,U,U,U,U,U,U,U,U] [19] (.ae Ix) HQ
abbrev lpE:Ob:=.loop .exhausted .none mU [U,.ptr 0 0,.sl 1 0 0,.sl 2 0 0,.ptr 3 0,.ptr 7 0,U,U,U,U,U,U,U,U,U,U,U,U,U,U,U,U,U,U,U,U,U,U,U,U,U,U,U,U,U,U,U,U,U,U,U,U,U,U,U,U,U,U,U,U,U,U,U,U] [19] (.ae Ix) HQ
abbrev hS(c:Ct)(out:List Nat):List Ob:=[.cells (AV.cells (bL c)),.row 1 aq [] none true false,.row 1 aF [] none true false,.cells [.sl 4 0 out.length],.row 1 aq (out.map iN) none true false,.cells (AV.cells (bL c)),.map ((jA c out).map gU) true,.cells [.mp 6],.cells (AV.cells (bL c)),.bA true,lpS]
set_option maxRecDepth 8000 in
theorem aeM(c:Ct)(hd:(c.af.map (·.name)).Nodup)(out:List Nat)(a:Nat)(T:List Ob)(up:List Fr)(ho:out.length<2^20)(ha:a<c.af.length)(hup:∀m,up.all (gn 4 m)=true)(hT:∀m,cH 4 m T=true):
 AM.Reach Tryz.prog Γ ((ji.yl 10).cfg [.int .i64 a] up (hS c out++T)) (.back up (.bool true) (hS c (out++[a])++T)):=by
 have q2:=bY (c.hG.of ha);have hdl:=L1 (E:=.sc .str) (e:=AV.str) m7 (fun n:Nat=>AV.int .i64 n) c.af[a].name (Xr hd out);rw[ZC hd out ha]at hdl
 have hle:(out.length+1)*8<=140737488355328:=by omega
 have hvp:=fun m=>o7 4 m (jA c out)
 simp[ji.cfg];refine .aU 13 ?_;simp(disch:=omega) [hle];refine .trans (.lK [19,20,21,22,23] _) ?_;simp[lI];refine .FO (i:=4) rfl (by simp) (hup _) (by simp[hT,hvp]) ?_;refine .aU 60 ?_;simp[q2,ha,hdl,isKey,bR,cz]
theorem adD(c:Ct)(out:List Nat):cu (hS c out):=fun m hm=>by
 have h1:=nO m (jA c out);simp at hm
 simp[h1];omega
theorem acf(c:Ct)(out:List Nat):dW (hS c out):=fun i m hi=>by
 have h1:=o7 i m (jA c out);simp at hi
 simp[h1];omega
def mf(out:List Nat):List Gt->Nat->List Bs
 |[],_=>[]
 |g::r,i=>if i∈out then mf out r (i+1)else g.name::mf out r (i+1)
set_option maxRecDepth 8000 in
theorem acz(c:Ct)(hc:bW c)(hd:(c.af.map (·.name)).Nodup)(out:List Nat):∀n i:Nat,i+n=c.af.length->∀l:List Bs,l.length<=i->
 aw Tryz.prog Γ (ygx (.ptr 3 0) (.ptr 7 0) (.sl 11 0 l.length) (.list false c.kG (c.af.map cR)) (.int .i64 c.af.length) (.int .i64 i)
  [.cells (AV.cells (bL c)),.row 1 aq [] none true false,.row 1 aF [] none true false,.cells [.sl 4 0 out.length],.row 1 aq (out.map iN) none true false,.cells (AV.cells (bL c)),.map ((jA c out).map gU) true,.cells [.mp 6],.cells (AV.cells (bL c)),.bA true,lpE,.row 1 aF (l.map .str) none true false] ⟨[.mark 9],.norm,0,[]⟩)
  (.ret (.aB [.own 1 aq (out.map iN),.own 1 aF ((l++mf out (c.af.drop i) i).map .str)])):=by
 have hN:=hc.2.2.2.1
 have hbp:=fun m=>nO m (jA c out)
 have hvp:=fun i m=>o7 i m (jA c out)
 intro n
 induction n with
 |zero=>
  intro i hi l hl
  have q1:¬i<c.af.length:=by omega
  rw[bw (by omega),mf,fX];refine .go 60 ?_;simp[q1];exact .back (by simp)
 |succ n ih=>
  intro i hi l hl
  have q1:i<c.af.length:=by omega
  have q2:=bY (c.hG.of q1);have hfi:=v_ (E:=.sc .str) (e:=AV.str) m7 (fun n:Nat=>AV.int .i64 n) c.af[i].name (jA c out);rw[Lx hd out q1]at hfi;rw[bQ q1,mf]
  by_cases h0:i∈out
  ·have hh:=ih (i+1) (by omega) l (by omega);rw[if_pos h0]at hfi⊢;refine .go 90 ?_;simp(disch:=omega) [q1,q2,hfi,isKey,bR,cz];refine .aH ?_;simp;refine .drop 12 rfl (by simp) (by simp) (by simp[hbp]) ?_;simp at hh⊢;exact hh
  ·have hh:=ih (i+1) (by omega) (l++[c.af[i].name]) (by simp;omega)
   have hle:((l.length:Int)+1)*16<=140737488355328:=by omega
   rw[if_neg h0]at hfi⊢;refine .go 90 ?_;simp(disch:=omega) [q1,q2,hfi,isKey,bR,cz,hle];refine .aH ?_;simp;refine .drop 12 rfl (by simp) (by simp) (by simp[hbp]) ?_;refine .reset (i:=11) rfl (by simp) (by simp) (by simp[hvp]) ?_;simp at hh⊢;exact hh
set_option maxRecDepth 8000 in
theorem aeb(hΓ:eT Γ)(c:Ct)(hb:iJ c)(hr:kJ c=true)(f:Nat)(hf:f<=2^14)(hE:GG c f)(hl:(nV c f).length<2^20):aL Tryz.prog Γ mU [bL c] (.aB [.own 1 aq ((nV c f).map iN),.own 1 aF ((mf (nV c f) c.af 0).map .str)]):=by
 have hc:=rz hb hr;have hd:=tn hr;have hR:=NV hΓ c hb;rw[hr]at hR
 have hpl:=fun h hw up=>Nc (Γ:=Γ) c hc (tn hr) (h:=h) hw up
 have hfold:∀(l out:List Nat),l.foldl (fun x a=>x++[a]) out=out++l:=by
  intro l
  induction l with
  |nil=>intro out;simp
  |cons a l ih=>intro out;rw[u7,ih];simp
 have hcm:=fun up hup=>ZT (Γ:=Γ) c hc hd (hS c) (fun x a=>x++[a]) 11 10 4 8 (fun _=>rfl) (adD c) (acf c) (by omega) (by omega) (fun _=>rfl) (fun x k=>x.length=k) (fun x k a h _=>by simp[h]) (fun x k a T up h hk ha hup hT=>aeM c hd x a T up (by omega) ha hup hT) up hup [] rfl f hf hE
 rw[hfold,lf]at hcm;have h1:=acz (Γ:=Γ) c hc hd (nV c f) c.af.length 0 (by omega) [] (by simp);refine .run 60 JQ (by simp) ?_;simp;refine .call 60 (by simp) hR ?_;simp;refine .aX 60 (hpl _ ?_) ?_
 ·intro m hm;simp at hm
  simp;omega
 simp;refine .go 60 ?_;simp;refine .enter 60 Vt ?_;simp;rw[<-Lz c];refine .reach (hcm _ ?_) (.go 60 ?_)
 ·simp
 simp;refine .inLoop ?_;simp at h1⊢;exact h1
theorem adu(hΓ:eT Γ)(c:Ct)(hb:iJ c)(hr:kJ c=false):aL Tryz.prog Γ mU [bL c] (.aB [.own 1 aq [],.own 1 aF []]):=by
 have hR:=NV hΓ c hb;rw[hr]at hR;refine .run 60 JQ (by simp) ?_;simp;refine .call 60 (by simp) hR ?_;simp;exact .back (by simp)
end Go.Proofs.YtihmomicdpkabaaGreatDoor
namespace Go.Proofs.YtihmomicdpkabaaGreatDoor
open Go.AM Go.Proofs
def eM(c:Ct)(i j:Nat):Bool:=match c.af[i]?,c.af[j]? with
 |some g,some h=>g.ins.contains h.name
 |_,_=>false
theorem rP{c:Ct}{i j:Nat}(h:eM c i j=true):i<c.af.length/\j<c.af.length:=by
 unfold eM at h
 split at h
 ·rename_i g h' h1 h2;exact⟨(cW.1 h1).1,(cW.1 h2).1⟩
 ·cases h
theorem xa{c:Ct}{i j:Nat}(hi:i<c.af.length)(hj:j<c.af.length):eM c i j=true↔c.af[j].name∈c.af[i].ins:=by
 simp[eM,hi,hj]
theorem MY{K V:Type}[DecidableEq K]{k:K}{v:V}:∀{l:List (K×V)},getM k l=some v->(k,v)∈l
 |[],h=>by cases h
 |(a,u)::l,h=>by
  rw[getM]at h
  split at h
  ·rename_i h1;cases h;subst h1;simp
  ·exact ec _ (MY h)
theorem OD{c:Ct}(hd:(c.af.map (·.name)).Nodup){s:Bs}{k:Nat}:getM s (cj c)=some k↔∃h:k<c.af.length,c.af[k].name=s:=by
 constructor
 ·intro h;obtain⟨h1,h2⟩:=F8 (MY h);exact⟨h1,h2.symm⟩
 ·rintro⟨h,rfl⟩
  have:=Lx hd [] h;rw[Lz]at this;simpa using this
theorem Au(pl:List (Bs×Nat))(x:Nat):∀(l:List Bs)(a:List Nat),x∈eJ pl l a↔x∈a\/∃s∈l,getM s pl=some x
 |[],a=>by simp[eJ]
 |s::r,a=>by
  rw[eJ]
  split
  ·rename_i h0;rw[Au pl x r a];simp[h0]
  ·rename_i k h0;rw[Au pl x r]
   have hk:(x∈if k∈a then a else a++[k])↔x∈a\/x=k:=by
    split
    ·rename_i hm;exact⟨.inl,fun h=>h.elim id fun h=>h▸hm⟩
    ·simp
   rw[hk];simp only[bu,exists_eq_or_imp,h0,aj];constructor
   ·rintro((h|h)|h)
    ·exact .inl h
    ·exact .inr (.inl h.symm)
    ·exact .inr (.inr h)
   ·rintro(h|h|h)
    ·exact .inl (.inl h)
    ·exact .inl (.inr h.symm)
    ·exact .inr h
theorem Aj(pl:List (Bs×Nat)):∀(l:List Gt)(i:Nat)(nd b:List (List Nat)),(fh pl l i nd b).1=nd++l.map fun g=>eJ pl g.ins []
 |[],_,_,_=>by simp[fh]
 |g::r,i,nd,b=>by rw[fh,Aj pl r];simp
theorem wi{c:Ct}(hd:(c.af.map (·.name)).Nodup){i:Nat}(hi:i<c.af.length)(x:Nat):x∈(dS c).getD i []↔eM c i x=true:=by
 have e:(dS c).getD i []=eJ (cj c) c.af[i].ins []:=by
  rw[dS,Aj];simp[hi]
 rw[e,Au];constructor
 ·rintro(h|⟨s,hs,h⟩)
  ·cases h
  ·obtain⟨h1,h2⟩:=(OD hd).1 h;exact(xa hi h1).2 (h2▸hs)
 ·intro h;obtain⟨_,h1⟩:=rP h;exact .inr ⟨_,(xa hi h1).1 h,(OD hd).2 ⟨h1,rfl⟩⟩
theorem Bd(pl:List (Bs×Nat))(i k:Nat):∀(l:List Bs)(a:List Nat)(b:List (List Nat)),k<b.length->(jj pl i l a b).getD k []=if k∈eJ pl l a/\k∉a then b.getD k []++[i]else b.getD k []
 |[],a,b,hk=>by
  rw[jj,eJ,if_neg (fun h=>h.2 h.1)]
 |s::r,a,b,hk=>by
  rw[jj,eJ]
  split
  ·exact Bd pl i k r a b hk
  ·rename_i k0 h0
   by_cases hm:k0∈a
   ·simp only[if_pos hm];exact Bd pl i k r a b hk
   ·simp only[if_neg hm];rw[Bd pl i k r _ _ (by simpa using hk)]
    have hset:(b.set k0 (b.getD k0 []++[i])).getD k []=if k0=k then b.getD k []++[i]else b.getD k []:=by
     simp only[bp,ny]
     by_cases h1:k0=k
     ·subst h1;simp[hk]
     ·simp[h1]
    rw[hset]
    by_cases h1:k0=k
    ·subst h1;have hin:k0∈eJ pl r (a++[k0]):=(Au pl k0 r _).2 (.inl (by simp));rw[if_neg (by simp),if_pos rfl,if_pos ⟨hin,hm⟩]
    ·have hiff:(k∈eJ pl r (a++[k0])/\k∉a++[k0])↔(k∈eJ pl r (a++[k0])/\k∉a):=by
      simp only[bm,dE,not_or];exact⟨fun h=>⟨h.1,h.2.1⟩,fun h=>⟨h.1,h.2,fun h2=>h1 h2.symm⟩⟩
     rw[if_neg h1];simp only[hiff]
def mN(pl:List (Bs×Nat))(k:Nat):List Gt->Nat->List Nat
 |[],_=>[]
 |g::r,i=>if k∈eJ pl g.ins []then i::mN pl k r (i+1)else mN pl k r (i+1)
theorem K9(pl:List (Bs×Nat))(k:Nat):∀(l:List Gt)(i:Nat)(nd b:List (List Nat)),k<b.length->(fh pl l i nd b).2.getD k []=b.getD k []++mN pl k l i
 |[],_,_,_,_=>by simp[fh,mN]
 |g::r,i,nd,b,hk=>by
  rw[fh,K9 pl k r _ _ _ (by rw[wR];exact hk),Bd pl i k g.ins [] b hk,mN]
  split
  ·rename_i h
   rw[if_pos h.1];simp
  ·rename_i h;rw[if_neg fun h1=>h ⟨h1,by simp⟩]
theorem Fq(pl:List (Bs×Nat))(k j:Nat):∀(l:List Gt)(i:Nat),j∈mN pl k l i↔∃t,∃h:t<l.length,j=i+t/\k∈eJ pl l[t].ins []
 |[],i=>by simp[mN]
 |g::r,i=>by
  have ih:=Fq pl k j r (i+1)
  have hs:(∃t,∃h:t<(g::r).length,j=i+t/\k∈eJ pl (g::r)[t].ins [])↔(j=i/\k∈eJ pl g.ins [])\/∃t,∃h:t<r.length,j=i+1+t/\k∈eJ pl r[t].ins []:=by
   constructor
   ·rintro⟨t,h,e,hm⟩
    cases t with
    |zero=>exact .inl ⟨e,hm⟩
    |succ t=>exact .inr ⟨t,by simpa using h,by omega,hm⟩
   ·rintro(⟨e,hm⟩|⟨t,h,e,hm⟩)
    ·exact⟨0,by simp,e,hm⟩
    ·exact⟨t+1,by simpa using h,by omega,hm⟩
  rw[hs,mN]
  split
  ·rename_i h0;simp only[bu,ih,h0,oh]
  ·rename_i h0;simp only[ih,h0,and_false,false_or]
theorem Es(pl:List (Bs×Nat))(k:Nat):∀(l:List Gt)(i:Nat),(mN pl k l i).Nodup
 |[],i=>by simp[mN]
 |g::r,i=>by
  rw[mN]
  split
  ·rw[lW];refine⟨fun h=>?_,Es pl k r (i+1)⟩;obtain⟨t,_,e,_⟩:=(Fq pl k i r (i+1)).1 h;omega
  ·exact Es pl k r (i+1)
theorem Ov(c:Ct){k:Nat}(hk:k<c.af.length):(bD c).getD k []=mN (cj c) k c.af 0:=by
 rw[bD,K9 _ _ _ _ _ _ (by simpa using hk)];simp[hk]
theorem tO{c:Ct}(hd:(c.af.map (·.name)).Nodup){k:Nat}(hk:k<c.af.length)(i:Nat):i∈(bD c).getD k []↔eM c i k=true:=by
 rw[Ov c hk,Fq];constructor
 ·rintro⟨t,ht,e,hm⟩
  have:i=t:=by omega
  subst this;rw[<-wi hd ht,dS,Aj];simpa[ht]using hm
 ·intro h;obtain⟨hi,_⟩:=rP h;refine⟨i,hi,by omega,?_⟩;rw[<-wi hd hi,dS,Aj]at h;simpa[hi]using h
theorem KX(c:Ct){k:Nat}(hk:k<c.af.length):((bD c).getD k []).Nodup:=by rw[Ov c hk];exact Es _ _ _ _
def je(c:Ct)(done:List Nat)(k:Nat):Bool:=!done.contains k&&(List.range c.af.length).all fun x=>!eM c k x||done.contains x
theorem jr{c:Ct}{done:List Nat}{k:Nat}:je c done k=true↔k∉done/\∀x,eM c k x=true->x∈done:=by
 simp only[je,av,jq,y_,jn,dA,er,eX,bf];constructor
 ·rintro⟨h1,h2⟩
  refine⟨h1,fun x hx=>?_⟩
  rcases h2 x (rP hx).2 with h|h
  ·rw[h]at hx;cases hx
  ·exact h
 ·rintro⟨h1,h2⟩
  refine⟨h1,fun x _=>?_⟩
  cases hx:eM c k x with
  |false=>exact .inl rfl
  |true=>exact .inr (h2 x hx)
def lG(c:Ct)(done:List Nat):Option Nat:=(List.range c.af.length).find? (je c done)
def jc(c:Ct):Nat->List Nat->List Nat
 |0,_=>[]
 |f+1,done=>match lG c done with
  |none=>[]
  |some k=>k::jc c f (done++[k])
def aP(c:Ct):List Nat:=jc c c.af.length []
theorem XV{c:Ct}{done:List Nat}{a:Nat}(ha:a<c.af.length)(h1:je c done a=true)(h2:∀j<a,je c done j=false):lG c done=some a:=by
 rw[lG,List.find?_range_eq_some];exact⟨h1,by simpa using ha,fun j hj=>by simp[h2 j hj]⟩
theorem Yv{c:Ct}{done:List Nat}(h:∀a<c.af.length,je c done a=false):lG c done=none:=by
 rw[lG,List.find?_eq_none];intro x hx
 rw[h x (by simpa using hx)];simp
theorem MG{c:Ct}{done:List Nat}{a:Nat}(h:lG c done=some a):a<c.af.length/\je c done a=true/\∀j<a,je c done j=false:=by
 rw[lG,List.find?_range_eq_some]at h;exact⟨by simpa using h.2.1,h.1,fun j hj=>by simpa using h.2.2 j hj⟩
theorem aa4{c:Ct}{done:List Nat}(h:lG c done=none){a:Nat}(ha:a<c.af.length):je c done a=false:=by
 rw[lG,List.find?_eq_none]at h;simpa using h a (by simpa using ha)
structure Inv(c:Ct)(done:List Nat)(nd:List (List Nat))(l:List Nat):Prop where
 len:nd.length=c.af.length
 Q3:∀i<c.af.length,∀x,x∈nd.getD i []↔eM c i x=true/\x∉done
 ls:∀i,i∈l↔i<c.af.length/\je c done i=true
 xU:l.Nodup
 heap:kP l.length l
 RA:done.Nodup
 lt:∀x∈done,x<c.af.length
 all:∀i∈done,∀x,eM c i x=true->x∈done
structure sf(c:Ct)(done:List Nat)(a:Nat)(r:List Nat)(nd:List (List Nat))(l:List Nat):Prop where
 len:nd.length=c.af.length
 k5:∀i<c.af.length,i∈r->∀x,x∈nd.getD i []↔eM c i x=true/\x∉done
 new:∀i<c.af.length,i∉r->∀x,x∈nd.getD i []↔eM c i x=true/\x∉done++[a]
 ls:∀i,i∈l↔i<c.af.length/\i∉r/\je c (done++[a]) i=true
 xU:l.Nodup
 heap:kP l.length l
theorem aaX(a:Nat)(l:List Nat)(x:Nat):x∈dp a l↔x∈l/\x≠a:=by simp[dp]
theorem sf.run{c:Ct}{done:List Nat}{a:Nat}(ha:a∉done)(haa:∀x,eM c a x=true->x∈done)(hall:∀i∈done,∀x,eM c i x=true->x∈done):∀(r:List Nat)(nd:List (List Nat))(l s:List Nat),r.Nodup->(∀i∈r,eM c i a=true)->sf c done a r nd l->
 sf c done a [] (eg a r nd l s).1 (eg a r nd l s).2.1
 |[],nd,l,s,_,_,h=>h
 |i::r,nd,l,s,hr,hW,h=>by
  have hi:=(rP (hW i (by simp))).1;rw[lW]at hr
  have hil:i∉l:=fun hm=>((h.ls i).1 hm).2.1 (by simp)
  have hid:i∉done:=fun hm=>ha (hall i hm a (hW i (by simp)))
  have hia:i≠a:=fun he=>ha (haa a (he▸hW i (by simp)))
  have hg:∀j,(nd.set i (dp a (nd.getD i []))).getD j []=if i=j then dp a (nd.getD i [])else nd.getD j []:=fun j=>by
   simp only[bp,ny]
   by_cases h1:i=j
   ·subst h1;simp[h.len,hi]
   ·simp[h1]
  have hmem:∀x,x∈dp a (nd.getD i [])↔eM c i x=true/\x∉done++[a]:=fun x=>by
   rw[aaX,h.k5 i hi (by simp) x];simp only[bm,dE,not_or];exact⟨fun h=>⟨h.1.1,h.1.2,h.2⟩,fun h=>⟨⟨h.1,h.2.1⟩,h.2.2⟩⟩
  have hold:∀j<c.af.length,j∈r->∀x,x∈(nd.set i (dp a (nd.getD i []))).getD j []↔eM c j x=true/\x∉done:=fun j hj hjr x=>by
   have hne:¬i=j:=fun he=>hr.1 (he▸hjr)
   rw[hg,if_neg hne];exact h.k5 j hj (by simp[hjr]) x
  have hnew:∀j<c.af.length,j∉r->∀x,x∈(nd.set i (dp a (nd.getD i []))).getD j []↔eM c j x=true/\x∉done++[a]:=fun j hj hjr x=>by
   rw[hg]
   by_cases he:i=j
   ·subst he;rw[if_pos rfl];exact hmem x
   ·rw[if_neg he];exact h.new j hj (by simp only[bu,not_or];exact⟨fun h=>he h.symm,hjr⟩) x
  rw[eg]
  split
  ·rename_i h0;refine sf.run ha haa hall r _ _ _ hr.2 (fun j hj=>hW j (by simp[hj])) ⟨by simpa using h.len,hold,hnew,fun j=>?_,?_,KO h.heap i⟩
   ·rw[(we l i).mem_iff,bu];constructor
    ·rintro(rfl|hj)
     ·refine⟨hi,hr.1,jr.2 ⟨by simp[hid,hia],fun x hx=>?_⟩⟩
      refine Classical.byContradiction fun hn=>?_
      have:=(hmem x).2 ⟨hx,hn⟩
      rw[h0]at this;cases this
     ·have:=(h.ls j).1 hj;exact⟨this.1,fun h2=>this.2.1 (by simp[h2]),this.2.2⟩
    ·rintro⟨h1,h2,h3⟩
     by_cases he:j=i
     ·exact .inl he
     ·exact .inr ((h.ls j).2 ⟨h1,by simp only[bu,not_or];exact⟨he,h2⟩,h3⟩)
   ·rw[(we l i).nodup_iff,lW];exact⟨hil,h.xU⟩
  ·rename_i h0;refine sf.run ha haa hall r _ _ _ hr.2 (fun j hj=>hW j (by simp[hj])) ⟨by simpa using h.len,hold,hnew,fun j=>?_,h.xU,h.heap⟩;rw[h.ls j];refine⟨fun⟨h1,h2,h3⟩=>⟨h1,fun h4=>h2 (by simp[h4]),h3⟩,fun⟨h1,h2,h3⟩=>⟨h1,?_,h3⟩⟩;simp only[bu,not_or];refine⟨fun he=>?_,h2⟩;subst he;apply h0;rw[Jg];intro x hx;obtain⟨h5,h6⟩:=(hmem x).1 hx;exact h6 ((jr.1 h3).2 x h5)
theorem Inv.step{c:Ct}(hd:(c.af.map (·.name)).Nodup){done:List Nat}{nd:List (List Nat)}{l:List Nat}(h:Inv c done nd l)(h0:l≠[])(s:List Nat):
 lG c done=some (bq l)/\Inv c (done++[bq l]) (eg (bq l) ((bD c).getD (bq l) []) nd (dw l) s).1 (eg (bq l) ((bD c).getD (bq l) []) nd (dw l) s).2.1:=by
 have hpos:0<l.length:=pM.2 h0;have hhr:=Lq hpos;have hal:bq l∈l:=hhr.mem_iff.1 (by simp);obtain⟨ha,hmay⟩:=(h.ls _).1 hal;obtain⟨had,haa⟩:=jr.1 hmay;have hnod:=hhr.nodup_iff.2 h.xU;rw[lW]at hnod
 have hn:lG c done=some (bq l):=XV ha hmay fun j hj=>by
  rw[Db];intro hm;have:=aca h.heap hpos ((h.ls j).2 ⟨by omega,hm⟩);omega
 refine⟨hn,?_⟩
 have hR:sf c done (bq l) ((bD c).getD (bq l) []) nd (dw l):=by
  refine⟨h.len,fun i hi _ x=>h.Q3 i hi x,fun i hi hir x=>?_,fun i=>?_,hnod.2,YJ h.heap hpos⟩
  ·rw[h.Q3 i hi x];refine⟨fun⟨h1,h2⟩=>⟨h1,?_⟩,fun⟨h1,h2⟩=>⟨h1,fun h3=>h2 (by simp[h3])⟩⟩;simp only[bm,dE,not_or];exact⟨h2,fun he=>hir ((tO hd ha i).2 (he▸h1))⟩
  ·have hil:i∈l↔i=bq l\/i∈dw l:=by rw[<-hhr.mem_iff,bu]
   constructor
   ·intro hi;obtain⟨h1,h2⟩:=(h.ls i).1 (hil.2 (.inr hi));obtain⟨h3,h4⟩:=jr.1 h2;refine⟨h1,fun hb=>?_,jr.2 ⟨?_,fun x hx=>by simp[h4 x hx]⟩⟩
    ·exact had (h4 _ ((tO hd ha i).1 hb))
    ·simp only[bm,dE,not_or];exact⟨h3,fun he=>hnod.1 (he▸hi)⟩
   ·rintro⟨h1,h2,h3⟩
    obtain⟨h4,h5⟩:=jr.1 h3;simp only[bm,dE,not_or]at h4
    have hi:i∈l:=(h.ls i).2 ⟨h1,jr.2 ⟨h4.1,fun x hx=>by
     have:=h5 x hx;simp only[bm,dE]at this
     rcases this with h6|h6
     ·exact h6
     ·exact absurd ((tO hd ha i).2 (h6▸hx)) h2⟩⟩
    exact(hil.1 hi).resolve_left h4.2
 have hE:=sf.run had haa h.all _ _ _ s (KX c ha) (fun i hi=>(tO hd ha i).1 hi) hR;refine⟨hE.len,fun i hi x=>hE.new i hi (by simp) x,fun i=>by rw[hE.ls i];simp,hE.xU,hE.heap,?_,fun x hx=>?_,fun i hi x hx=>?_⟩
 ·rw[sN];refine⟨h.RA,by simp,fun x hx y hy=>?_⟩;rw[dE]at hy;subst hy
  exact fun he=>had (he▸hx)
 ·rcases bm.1 hx with h1|h1
  ·exact h.lt x h1
  ·rw[dE]at h1;subst h1;exact ha
 ·rcases bm.1 hi with h1|h1
  ·simp[h.all i h1 x hx]
  ·rw[dE]at h1;subst h1;simp[haa x hx]
theorem Fb:∀(N:Nat)(l:List Nat),l.Nodup->(∀x∈l,x<N)->l.length<=N
 |0,[],_,_=>aR _
 |0,x::l,_,h=>absurd (h x (by simp)) (by omega)
 |N+1,l,hn,h=>by
  have h1:=Fb N (l.erase N) (hn.erase N) fun x hx=>by
   obtain⟨h2,h3⟩:=hn.mem_erase_iff.1 hx
   have:=h x h3;omega
  by_cases hm:N∈l
  ·rw[List.length_erase_of_mem hm]at h1;omega
  ·rw[List.erase_of_not_mem hm]at h1;omega
theorem Inv.come{c:Ct}(hd:(c.af.map (·.name)).Nodup):∀(f:Nat)(done:List Nat)(nd:List (List Nat))(l s:List Nat),Inv c done nd l->pf (bD c) f nd l s=jc c f done
 |0,_,_,_,_,_=>rfl
 |f+1,done,nd,l,s,h=>by
  rw[pf,jc]
  by_cases h0:l=[]
  ·have hn:lG c done=none:=Yv fun a ha=>by
    rw[Db];intro hm;have:=(h.ls a).2 ⟨ha,hm⟩
    rw[h0]at this;cases this
   rw[if_pos h0,hn]
  ·obtain⟨h1,h2⟩:=h.step hd h0 (bq l::s);rw[if_neg h0,h1];simp only;rw[Inv.come hd f _ _ _ _ h2]
theorem Inv.ends{c:Ct}(hd:(c.af.map (·.name)).Nodup):∀(f:Nat)(done:List Nat)(nd:List (List Nat))(l s:List Nat),Inv c done nd l->c.af.length<=done.length+f->rU (bD c) f nd l s
 |0,done,nd,l,s,h,hf=>by
  show l=[]
  rw[Jg];intro x hx;obtain⟨h1,h2⟩:=(h.ls x).1 hx;have h3:=(jr.1 h2).1
  have:=Fb c.af.length (x::done) (lW.2 ⟨h3,h.RA⟩) (fun y hy=>by
   rcases bu.1 hy with rfl|hy
   ·exact h1
   ·exact h.lt y hy)
  simp only[bX]at this;omega
 |f+1,done,nd,l,s,h,hf=>by
  rw[rU]
  by_cases h0:l=[]
  ·exact .inl h0
  ·obtain⟨h1,h2⟩:=h.step hd h0 (bq l::s);exact .inr (Inv.ends hd f _ _ _ _ h2 (by simp;omega))
theorem EI(nd:List (List Nat))(N:Nat):∀(m i:Nat)(l:List Nat),i+m=N->l.Nodup->(∀x∈l,x<i)->kP l.length l->
 (∀x,x∈iC nd m i l↔x∈l\/(i<=x/\x<N/\nd.getD x []=[]))/\(iC nd m i l).Nodup/\kP (iC nd m i l).length (iC nd m i l)
 |0,i,l,h,h1,h2,h3=>⟨fun x=>by simp[iC];omega,h1,h3⟩
 |m+1,i,l,h,h1,h2,h3=>by
  rw[iC]
  have hil:i∉l:=fun hm=>by have:=h2 i hm;omega
  split
  ·rename_i h0;have hp:=we l i
   obtain⟨a1,a2,a3⟩:=EI nd N m (i+1) (e_ l i) (by omega) (by rw[hp.nodup_iff,lW];exact⟨hil,h1⟩) (fun x hx=>by
    rcases bu.1 (hp.mem_iff.1 hx)with rfl|hx
    ·omega
    ·have:=h2 x hx;omega) (KO h3 i)
   refine⟨fun x=>?_,a2,a3⟩;rw[a1 x,hp.mem_iff,bu];constructor
   ·rintro((rfl|hx)|⟨b1,b2,b3⟩)
    ·exact .inr ⟨aR _,by omega,h0⟩
    ·exact .inl hx
    ·exact .inr ⟨by omega,b2,b3⟩
   ·rintro(hx|⟨b1,b2,b3⟩)
    ·exact .inl (.inr hx)
    ·by_cases he:x=i
     ·exact .inl (.inl he)
     ·exact .inr ⟨by omega,b2,b3⟩
  ·rename_i h0;obtain⟨a1,a2,a3⟩:=EI nd N m (i+1) l (by omega) h1 (fun x hx=>by have:=h2 x hx;omega) h3;refine⟨fun x=>?_,a2,a3⟩;rw[a1 x];constructor
   ·rintro(hx|⟨b1,b2,b3⟩)
    ·exact .inl hx
    ·exact .inr ⟨by omega,b2,b3⟩
   ·rintro(hx|⟨b1,b2,b3⟩)
    ·exact .inl hx
    ·refine .inr ⟨?_,b2,b3⟩
     have:x≠i:=fun he=>h0 (he▸b3)
     omega
theorem PH{c:Ct}(hd:(c.af.map (·.name)).Nodup):Inv c [] (dS c) (iC (dS c) c.af.length 0 []):=by
 obtain⟨h1,h2,h3⟩:=EI (dS c) c.af.length c.af.length 0 [] (by omega) (by simp) (by simp) (fun k hk hkl=>by simp at hkl);refine⟨tz c,fun i hi x=>by rw[wi hd hi];simp,fun i=>?_,h2,h3,by simp,by simp,by simp⟩;rw[h1 i];constructor
 ·rintro(h|⟨_,a,b⟩)
  ·cases h
  ·refine⟨a,jr.2 ⟨by simp,fun x hx=>?_⟩⟩;have:=(wi hd a x).2 hx
   rw[b]at this;exact this
 ·rintro⟨a,b⟩
  refine .inr ⟨by omega,a,?_⟩;rw[Jg];intro x hx;have:=(jr.1 b).2 x ((wi hd a x).1 hx)
  cases this
theorem N0{c:Ct}(hd:(c.af.map (·.name)).Nodup):nV c c.af.length=aP c:=Inv.come hd _ _ _ _ _ (PH hd)
theorem Y5{c:Ct}(hd:(c.af.map (·.name)).Nodup):GG c c.af.length:=Inv.ends hd _ _ _ _ _ (PH hd) (by simp)
theorem L7(c:Ct):∀(f:Nat)(done:List Nat),(jc c f done).length<=f
 |0,_=>by simp[jc]
 |f+1,done=>by
  rw[jc]
  split
  ·simp
  ·rename_i k _;have:=L7 c f (done++[k])
   simp only[bX];omega
theorem Ns(c:Ct):∀(f:Nat)(done:List Nat),∀x∈jc c f done,x<c.af.length
 |0,_=>by simp[jc]
 |f+1,done=>by
  rw[jc]
  split
  ·simp
  ·rename_i k hk;intro x hx
   rcases bu.1 hx with rfl|hx
   ·exact(MG hk).1
   ·exact Ns c f _ x hx
end Go.Proofs.YtihmomicdpkabaaGreatDoor
namespace Go.Proofs.YtihmomicdpkabaaGreatDoor
open Go.AM Go.Proofs
variable{Γ:Nat->Option AV}
def uw(c:Ct):List Nat:=if kJ c=true then aP c else[]
def o6(c:Ct):List Bs:=if kJ c=true then mf (aP c) c.af 0 else[]
theorem D'{c:Ct}(hc:bW c):(aP c).length<2^20:=by
 have h1:=L7 c c.af.length [];have:=hc.2.2.2.1
 unfold aP;omega
theorem FG(hΓ:eT Γ)(c:Ct)(hb:iJ c):aL Tryz.prog Γ mU [bL c] (.aB [.own 1 aq ((uw c).map iN),.own 1 aF ((o6 c).map .str)]):=by
 unfold uw o6
 cases hr:kJ c with
 |false=>simpa using adu hΓ c hb hr
 |true=>
  have hc:=rz hb hr;have hd:=tn hr;have hN:=hc.2.2.2.1;have h:=aeb hΓ c hb hr c.af.length (by omega) (Y5 hd) (by rw[N0 hd];exact D' hc);rw[N0 hd]at h;simpa using h
def me(c:Ct):Int×Bs:=if(iz c).1=0 then(match o6 c with
 |[]=>(0,[])
 |s::_=>(7,s))else iz c
set_option maxRecDepth 8000 in
theorem Mg(hΓ:eT Γ)(c:Ct)(hb:iJ c):aL Tryz.prog Γ vK [bL c] (sn (me c)):=by
 have hC:=Mk hΓ c hb;have hS:=FG hΓ c hb;unfold me;generalize iz c=r at*;obtain⟨e,s⟩:=r;refine .run 60 VR (by simp) ?_;simp;refine .call 60 (by simp) hC ?_
 by_cases h0:e=0
 ·simp[h0];refine .call 60 (by simp) hS ?_
  cases o6 c with
  |nil=>
   simp;exact .back (by simp)
  |cons a l=>
   have hl:(0:Int)<(l.length:Int)+1:=by omega
   simp[hl];exact .back (by simp)
 ·simp[h0];exact .back (by simp)
def afG(c:Ct):List (Bs×(Bool×Nat×List Bs)):=c.ak.map (fun q=>(q.name,(true,1,[q.next])))++c.af.map fun g=>(g.name,(false,g.ki,g.ins))
abbrev eNx(x:Bool×Nat×List Bs):AV:=.list x.1 x.2.1 (x.2.2.map .str)
abbrev IH(x:Bs×(Bool×Nat×List Bs)):AV×AV:=(.str x.1,eNx x.2)
@[simp] theorem acU(n:Nat):∀l:List (Bs×(Bool×Nat×List Bs)),fR n (l.map IH)=true
 |[]=>rfl
 |x::r=>by simp[acU n r]
@[simp] theorem adx(n m:Nat):∀l:List (Bs×(Bool×Nat×List Bs)),nj n m (l.map IH)=true
 |[]=>rfl
 |x::r=>by simp[adx n m r]
abbrev qC(c:Ct)(inn hist:List Bs)(g:Option Nat):List Ob:=[.cells (AV.cells (bL c)),.row 1 aF [] none true false,.map ((afG c).map IH) true,.map (inn.map jw) true,.row 1 aF (hist.map .str) g true false]
abbrev CT(c:Ct):List Ob:=[.cells (AV.cells (bL c)),.row 1 aq [] none true false]
def su(a:Nat):List Nat->List Nat->List Nat
 |[],lv=>lv
 |i::r,lv=>su a r (lv.set i (max (lv.getD i 0) (lv.getD a 0+1)))
theorem MB(a:Nat):∀(r lv:List Nat),(su a r lv).length=lv.length
 |[],_=>rfl
 |i::r,lv=>by rw[su,MB a r];simp
def GL(k:Nat)(l:List Nat):List Nat:=if k∈l then l else l++[k]
def sg(c:Ct)(s:List Nat×List Nat)(a:Nat):List Nat×List Nat:=(su a ((bD c).getD a []) s.1,GL a s.2)
def rY(s:Bs):Bool:=decide (60<s.length)
def iA(m:Nat)(l:List Bs):Bool:=decide (l.length<=m)&&!bt rY l
theorem zS(l:List Bs)(m:Nat)(hm:m<1000){k:Nat}(hk:Kd 1 k l):aL Tryz.prog Γ pZ [.list false k (l.map .str),.int .i64 m] (.bool (iA m l)):=by
 have key:∀n i:Nat,i+n=l.length->i<=m+1->aw Tryz.prog Γ (ysW (.list false k (l.map .str)) (.int .i64 m) (.int .i64 i) []) (.ret (.bool (decide (l.length<=m)&&!bt rY (l.drop i)))):=by
  intro n
  induction n with
  |zero=>
   intro i hi hL
   have q1:¬i<l.length:=by omega
   have e1:((l.length:Int)<=m)=(l.length<=m):=propext (by omega);rw[bw (by omega),rD];refine .go 60 ?_;simp[q1,e1];exact .back (by simp)
  |succ n ih=>
   intro i hi hL
   have q1:i<l.length:=by omega
   have q2:=bY (hk.of q1)
   by_cases h2:i<=m
   ·have h2':((i:Int)<=m)=True:=bY (by omega);have hh:=ih (i+1) (by omega) (by omega);have e3:((60:Int)<(l[i].length:Int))=(60<l[i].length):=propext (by omega);rw[bQ q1,iT];refine .go 60 ?_
    by_cases h3:60<l[i].length
    ·have hl:rY l[i]=true:=by simp[rY,h3]
     simp[q1,q2,h2',e3,h3,hl];exact .back (by simp[h3])
    ·have hl:rY l[i]=false:=by simp only[rY,jn];exact h3
     simp(disch:=omega) [q1,q2,h2',e3,h3,hl];refine .aH ?_;simp at hh⊢;exact hh
   ·have h2':((i:Int)<=m)=False:=iu (by omega);have e1:((l.length:Int)<=m)=False:=iu (by omega)
    have h3:¬l.length<=m:=by omega
    refine .go 60 ?_;simp[q1,h2',e1,h3];exact .back (by simp)
 refine .run 60 WV (by simp) ?_;simp;refine .inLoop ?_;have hh:=key l.length 0 (by omega) (by omega);simp[iA]at hh⊢;exact hh
theorem AK{m:Nat}{l:List Bs}(h:iA m l=true):l.length<=m/\∀s∈l,s.length<=60:=by
 simp only[iA,av,bf,jq]at h;refine⟨h.1,fun s hs=>?_⟩;have h2:=h.2;clear h
 induction l with
 |nil=>cases hs
 |cons a l ih=>
  rw[iT,jQ]at h2
  rcases bu.1 hs with rfl|hs
  ·have:=h2.1;simp only[rY,jn]at this;omega
  ·exact ih hs h2.2
def sj(g:Gt):Bool:=iA 12 g.ins&&(iA 140 g.rows&&decide (g.name.length<=60))
theorem aaa(g:Gt):aL Tryz.prog Γ zD [cR g] (.bool (sj g)):=by
 have h1:=zS (Γ:=Γ) g.ins 12 (by omega) g.hi;have h2:=zS (Γ:=Γ) g.rows 140 (by omega) g.hr;have e:((g.name.length:Int)<=60)=(g.name.length<=60):=propext (by omega);refine .run 60 VW (by simp) ?_;simp;refine .call 60 (by simp) h1 ?_;simp;refine .call 60 (by simp) h2 ?_;unfold sj
 cases iA 12 g.ins with
 |false=>simp;exact .back (by simp)
 |true=>
  cases iA 140 g.rows with
  |false=>simp;exact .back (by simp)
  |true=>simp[e];exact .back (by simp)
theorem abz{g:Gt}(h:sj g=true):r8 g:=by
 simp only[sj,av,bf]at h;obtain⟨a1,a2⟩:=AK h.1;obtain⟨b1,b2⟩:=AK h.2.1;exact⟨by omega,by omega,by omega,fun s hs=>by have:=a2 s hs;omega,fun s hs=>by have:=b2 s hs;omega⟩
def nR(q:Lt):Bool:=decide (60<q.name.length)||decide (60<q.next.length)
def uB(c:Ct):Bool:=!bt (fun g=>!sj g) (c.af.take 211)&&(!bt nR (c.ak.take 211)&&(iA 210 c.aE&&(iA 210 c.bg&&(decide (c.af.length<=210)&&decide (c.ak.length<=210)))))
theorem afD(c:Ct):aL Tryz.prog Γ rB [bL c] (.bool (uB c)):=by
 have h1:=zS (Γ:=Γ) c.aE 210 (by omega) c.hI;have h2:=zS (Γ:=Γ) c.bg 210 (by omega) c.hO;have e1:((c.af.length:Int)<=210)=(c.af.length<=210):=propext (by omega);have e2:((c.ak.length:Int)<=210)=(c.ak.length<=210):=propext (by omega)
 have fin:∀H,H=[Ob.cells (AV.cells (bL c))]->aw Tryz.prog Γ (ymU (.ptr 0 0) H) (.ret (.bool (iA 210 c.aE&&(iA 210 c.bg&&(decide (c.af.length<=210)&&decide (c.ak.length<=210)))))):=by
  rintro H rfl
  refine .go 60 ?_;simp;refine .call 60 (by simp) h1 ?_;simp;refine .call 60 (by simp) h2 ?_
  cases iA 210 c.aE with
  |false=>simp;exact .back (by simp)
  |true=>
   cases iA 210 c.bg with
   |false=>simp;exact .back (by simp)
   |true=>
    by_cases q:c.af.length<=210
    ·simp[e1,e2,q];exact .back (by simp[q])
    ·simp[e1,e2,q];exact .back (by simp[q])
 have keyL:∀n i:Nat,i+n=211->aw Tryz.prog Γ (ymT (.ptr 0 0) (.int .i64 i) [.cells (AV.cells (bL c))]) (.ret (.bool (!bt nR ((c.ak.take 211).drop i)&&(iA 210 c.aE&&(iA 210 c.bg&&(decide (c.af.length<=210)&&decide (c.ak.length<=210))))))):=by
  intro n
  induction n with
  |zero=>
   intro i hi;have q1:((i:Int)<=210)=False:=iu (by omega);have hf:=fin _ rfl;rw[bw (by simp;omega),rD]
   by_cases q0:i<c.ak.length
   ·refine .dh 60 ?_;simp[q1,q0];refine .reach (.exit rfl rfl) ?_;simp at hf⊢;exact hf
   ·refine .dh 60 ?_;simp[q0];refine .reach (.exit rfl rfl) ?_;simp at hf⊢;exact hf
  |succ n ih=>
   intro i hi;have q1:((i:Int)<=210)=True:=bY (by omega)
   by_cases q0:i<c.ak.length
   ·have q2:=bY (c.hL.of q0);have hh:=ih (i+1) (by omega)
    have hT:i<(c.ak.take 211).length:=by simp;omega
    have e3:((60:Int)<(c.ak[i].name.length:Int))=(60<c.ak[i].name.length):=propext (by omega);have e4:((60:Int)<(c.ak[i].next.length:Int))=(60<c.ak[i].next.length):=propext (by omega);rw[bQ hT,iT,pI];refine .go 90 ?_
    by_cases h3:60<c.ak[i].name.length
    ·have hl:nR c.ak[i]=true:=by simp[nR,h3]
     simp[q0,q1,q2,e3,h3,hl];exact .back (by simp)
    ·by_cases h4:60<c.ak[i].next.length
     ·have hl:nR c.ak[i]=true:=by simp[nR,h4]
      simp[q0,q1,q2,e3,h3,e4,h4,hl];exact .back (by simp)
     ·have hl:nR c.ak[i]=false:=by simp only[nR,h3,h4,mR,Bool.or_self]
      simp(disch:=omega) [q0,q1,q2,e3,h3,e4,h4,hl];refine .aH ?_;simp at hh⊢;exact hh
   ·have hf:=fin _ rfl;rw[bw (by simp;omega),rD];refine .dh 60 ?_;simp[q0];refine .reach (.exit rfl rfl) ?_;simp at hf⊢;exact hf
 have keyG:∀n i:Nat,i+n=211->aw Tryz.prog Γ (ymW (.ptr 0 0) (.int .i64 i) [.cells (AV.cells (bL c))]) (.ret (.bool (!bt (fun g=>!sj g) ((c.af.take 211).drop i)&&(!bt nR (c.ak.take 211)&&(iA 210 c.aE&&(iA 210 c.bg&&(decide (c.af.length<=210)&&decide (c.ak.length<=210)))))))):=by
  intro n;have hf:=keyL 211 0 (by omega)
  induction n with
  |zero=>
   intro i hi;have q1:((i:Int)<=210)=False:=iu (by omega);rw[bw (by simp;omega),rD];refine .go 60 ?_
   by_cases q0:i<c.af.length
   ·simp[q1,q0];refine .inLoop ?_;simp at hf⊢;exact hf
   ·simp[q0];refine .inLoop ?_;simp at hf⊢;exact hf
  |succ n ih=>
   intro i hi;have q1:((i:Int)<=210)=True:=bY (by omega)
   by_cases q0:i<c.af.length
   ·have q2:=bY (c.hG.of q0);have hh:=ih (i+1) (by omega)
    have hT:i<(c.af.take 211).length:=by simp;omega
    have hc:=aaa (Γ:=Γ) c.af[i];rw[bQ hT,iT,pI];refine .go 90 ?_;simp[q0,q1,q2];refine .call 90 (by simp) hc ?_
    cases h3:sj c.af[i]with
    |true=>
     simp(disch:=omega);refine .aH ?_;simp at hh⊢;exact hh
    |false=>
     simp;exact .back (by simp)
   ·rw[bw (by simp;omega),rD];refine .go 60 ?_;simp[q0];refine .inLoop ?_;simp at hf⊢;exact hf
 refine .run 60 ZP (by simp) ?_;simp;refine .inLoop ?_;have hh:=keyG 211 0 (by omega);simp[uB]at hh⊢;exact hh
theorem EV{α:Type}{p:α->Bool}:∀{l:List α},bt p l=false->∀x∈l,p x=false
 |[],_,x,hx=>by cases hx
 |a::l,h,x,hx=>by
  rw[iT,jQ]at h
  rcases bu.1 hx with rfl|hx
  ·exact h.1
  ·exact EV h.2 x hx
theorem NJ{c:Ct}(h:uB c=true):bW c:=by
 simp only[uB,av,bf,jq]at h;obtain⟨h1,h2,h3,h4,h5,h6⟩:=h;rw[cd (by omega)]at h1 h2;obtain⟨a1,a2⟩:=AK h3;obtain⟨b1,b2⟩:=AK h4;refine⟨by omega,by omega,by omega,by omega,fun g hg=>?_,fun s hs=>by have:=a2 s hs;omega,fun s hs=>by have:=b2 s hs;omega,fun q hq=>?_⟩
 ·have:=EV h1 g hg;exact abz (by simpa using this)
 ·have:=EV h2 q hq;simp only[nR,jQ,jn]at this;omega
end Go.Proofs.YtihmomicdpkabaaGreatDoor
namespace Go.Proofs.YtihmomicdpkabaaGreatDoor
open Go.AM Go.Proofs
theorem Ew(c:Ct):∀(f:Nat)(done:List Nat),done.Nodup->(∀x∈done,x<c.af.length)->
 (done++jc c f done).Nodup/\(∀p a q,jc c f done=p++a::q->je c (done++p) a=true/\∀j<a,je c (done++p) j=false)/\(c.af.length<=done.length+f->∀a<c.af.length,je c (done++jc c f done) a=false)
 |0,done,hd,hl=>by
  refine⟨by simpa[jc]using hd,fun p a q h=>by simp[jc]at h,fun hf a ha=>?_⟩;rw[Db];intro hm;have h3:=(jr.1 hm).1;simp only[jc,fX]at h3
  have:=Fb c.af.length (a::done) (lW.2 ⟨h3,hd⟩) (fun y hy=>by
   rcases bu.1 hy with rfl|hy
   ·exact ha
   ·exact hl y hy)
  simp only[bX]at this;omega
 |f+1,done,hd,hl=>by
  rw[jc]
  cases hn:lG c done with
  |none=>
   refine⟨by simpa using hd,fun p a q h=>by simp at h,fun hf a ha=>?_⟩;simpa using aa4 hn ha
  |some k=>
   obtain⟨hk,hm,hj⟩:=MG hn;have h3:=(jr.1 hm).1
   obtain⟨i1,i2,i3⟩:=Ew c f (done++[k]) (by
    rw[sN];refine⟨hd,by simp,fun x hx y hy=>?_⟩;rw[dE]at hy;subst hy
    exact fun he=>h3 (he▸hx)) (fun x hx=>by
    rcases bm.1 hx with hx|hx
    ·exact hl x hx
    ·rw[dE]at hx;subst hx;exact hk)
   simp only[fY,qR]at i1 i2 i3;refine⟨i1,fun p a q h=>?_,fun hf a ha=>i3 (by simp;omega) a ha⟩
   cases p with
   |nil=>
    simp only[lf,sF]at h;rw[fX,<-h.1];exact⟨hm,hj⟩
   |cons x p=>
    simp only[eO,sF]at h;obtain⟨rfl,h⟩:=h;exact i2 p a q h
theorem J8(c:Ct):(aP c).Nodup:=by simpa[aP]using(Ew c c.af.length [] (by simp) (by simp)).1
theorem oP(c:Ct):∀x∈aP c,x<c.af.length:=Ns c _ _
theorem EJ(c:Ct){p q:List Nat}{a:Nat}(h:aP c=p++a::q):je c p a=true/\∀j<a,je c p j=false:=by
 simpa using(Ew c c.af.length [] (by simp) (by simp)).2.1 p a q h
theorem aaB(c:Ct){i:Nat}(hi:i<(aP c).length){x:Nat}(hx:eM c (aP c)[i] x=true):x∈(aP c).take i:=by
 have h:aP c=(aP c).take i++(aP c)[i]::(aP c).drop (i+1):=by
  rw[<-bQ hi,lU]
 exact(jr.1 (EJ c h).1).2 x hx
theorem D9(out:List Nat)(s:Bs):∀(l:List Gt)(i:Nat),s∈mf out l i↔∃t,∃h:t<l.length,l[t].name=s/\i+t∉out
 |[],i=>by simp[mf]
 |g::r,i=>by
  have hs:(∃t,∃h:t<(g::r).length,(g::r)[t].name=s/\i+t∉out)↔(g.name=s/\i∉out)\/∃t,∃h:t<r.length,r[t].name=s/\i+1+t∉out:=by
   constructor
   ·rintro⟨t,h,e,hm⟩
    cases t with
    |zero=>exact .inl ⟨e,hm⟩
    |succ t=>exact .inr ⟨t,by simpa using h,e,by rwa[show i+1+t=i+(t+1) by omega]⟩
   ·rintro(⟨e,hm⟩|⟨t,h,e,hm⟩)
    ·exact⟨0,by simp,e,hm⟩
    ·exact⟨t+1,by simpa using h,e,by rwa[show i+(t+1)=i+1+t by omega]⟩
  rw[hs,mf]
  split
  ·rename_i h0;rw[D9 out s r (i+1)];exact⟨.inr,fun h=>h.elim (fun h=>absurd h0 h.2) id⟩
  ·rename_i h0;rw[bu,D9 out s r (i+1)];exact⟨fun h=>h.imp (fun h=>⟨h.symm,h0⟩) id,fun h=>h.imp (fun h=>h.1.symm) id⟩
theorem abe{c:Ct}(hd:(c.af.map (·.name)).Nodup)(out:List Nat){i:Nat}(hi:i<c.af.length):c.af[i].name∈mf out c.af 0↔i∉out:=by
 rw[D9];constructor
 ·rintro⟨t,ht,e,hm⟩
  rw[iP]at hm;rwa[<-AT hd ht hi e]
 ·intro h;exact⟨i,hi,rfl,by rwa[iP]⟩
end Go.Proofs.YtihmomicdpkabaaGreatDoor
namespace Go.Proofs.YtihmomicdpkabaaGreatDoor
open Go.AM Go.Proofs
variable{Γ:Nat->Option AV}
def G7(c:Ct)(a:Nat):Bs:=match c.af[a]? with
 |some g=>g.name
 |none=>[]
theorem Bz{c:Ct}{a:Nat}(h:a<c.af.length):G7 c a=c.af[a].name:=by simp[G7,h]
theorem Na(a:Nat):∀(r lv:List Nat)(i:Nat),r.Nodup->a∉r->i<lv.length->(su a r lv).getD i 0=if i∈r then max (lv.getD i 0) (lv.getD a 0+1)else lv.getD i 0
 |[],lv,i,_,_,_=>by simp[su]
 |j::r,lv,i,hr,ha,hi=>by
  rw[lW]at hr;simp only[bu,not_or]at ha
  have hg:∀k,(lv.set j (max (lv.getD j 0) (lv.getD a 0+1))).getD k 0=if j=k/\k<lv.length then max (lv.getD j 0) (lv.getD a 0+1)else lv.getD k 0:=fun k=>by
   simp only[bp,ny]
   by_cases h1:j=k
   ·subst h1
    by_cases h2:j<lv.length
    ·simp[h2]
    ·simp[h2]
   ·simp[h1]
  have e1:=hg a;have e2:=hg i;rw[if_neg (fun h=>ha.1 h.1.symm)]at e1;rw[su,Na a r _ i hr.2 ha.2 (by simpa using hi),e1,e2]
  by_cases hij:j=i
  ·subst hij;rw[if_neg hr.1,if_pos ⟨rfl,hi⟩,if_pos (by simp)]
  ·have hne:¬i=j:=fun h=>hij h.symm
   have e3:¬(j=i/\i<lv.length):=fun h=>hij h.1
   simp only[if_neg e3]
   by_cases h3:i∈r
   ·rw[if_pos h3,if_pos (by simp[h3])]
   ·rw[if_neg h3,if_neg (by simp[h3,hne])]
structure GF(c:Ct)(p:List Nat)(s:List Nat×List Nat):Prop where
 len:s.1.length=c.af.length
 cm:∀x,x∈s.2↔x∈p
 ge:∀i<c.af.length,∀a∈p,eM c i a=true->s.1.getD a 0+1<=s.1.getD i 0
 eq:∀i<c.af.length,s.1.getD i 0=0\/∃a∈p,eM c i a=true/\s.1.getD i 0=s.1.getD a 0+1
theorem abY(k x:Nat)(l:List Nat):x∈GL k l↔x∈l\/x=k:=by
 unfold GL
 split
 ·rename_i h;exact⟨.inl,fun h1=>h1.elim id fun h1=>h1▸h⟩
 ·simp
theorem GF.step{c:Ct}(hd:(c.af.map (·.name)).Nodup){p:List Nat}{s:List Nat×List Nat}(h:GF c p s)(hall:∀i∈p,∀x,eM c i x=true->x∈p){a:Nat}(ha:a<c.af.length)(hm:je c p a=true):GF c (p++[a]) (sg c s a):=by
 obtain⟨hap,haa⟩:=jr.1 hm
 have hab:a∉(bD c).getD a []:=fun hb=>hap (haa a ((tO hd ha a).1 hb))
 have hg:∀i<c.af.length,(sg c s a).1.getD i 0=if eM c i a=true then max (s.1.getD i 0) (s.1.getD a 0+1)else s.1.getD i 0:=fun i hi=>by
  rw[sg,Na a _ _ i (KX c ha) hab (by rw[h.len];exact hi)];simp only[tO hd ha i]
 have hsame:∀x∈p,x<c.af.length->(sg c s a).1.getD x 0=s.1.getD x 0:=fun x hx hxl=>by
  rw[hg x hxl,if_neg fun hk=>hap (hall x hx a hk)]
 have hsa:(sg c s a).1.getD a 0=s.1.getD a 0:=by rw[hg a ha,if_neg fun hk=>hap (haa a hk)]
 refine⟨by rw[sg,MB];exact h.len,fun x=>?_,fun i hi x hx hk=>?_,fun i hi=>?_⟩
 ·rw[sg];simp only[abY,h.cm,bm,dE]
 ·rcases bm.1 hx with hx|hx
  ·have:=h.ge i hi x hx hk;rw[hsame x hx (rP hk).2,hg i hi]
   split<;>omega
  ·rw[dE]at hx;subst hx
   rw[hsa,hg i hi,if_pos hk];omega
 ·rw[hg i hi]
  by_cases hk:eM c i a=true
  ·rw[if_pos hk]
   rcases Nat.le_total (s.1.getD i 0) (s.1.getD a 0+1)with hle|hle
   ·exact .inr ⟨a,by simp,hk,by rw[hsa];omega⟩
   ·rcases h.eq i hi with h0|⟨x,hx,hkx,he⟩
    ·omega
    ·exact .inr ⟨x,by simp[hx],hkx,by rw[hsame x hx (rP hkx).2];omega⟩
  ·rw[if_neg hk]
   rcases h.eq i hi with h0|⟨x,hx,hkx,he⟩
   ·exact .inl h0
   ·exact .inr ⟨x,by simp[hx],hkx,by rw[hsame x hx (rP hkx).2];exact he⟩
theorem Zw{c:Ct}(h:(me c).1=0):kJ c=true/\o6 c=[]/\me c=(0,[]):=by
 unfold me at h⊢
 by_cases h0:(iz c).1=0
 ·rw[if_pos h0]at h⊢
  cases hn:o6 c with
  |nil=>exact⟨qV h0,rfl,rfl⟩
  |cons s l=>rw[hn]at h;cases h
 ·rw[if_neg h0]at h;exact absurd h h0
end Go.Proofs.YtihmomicdpkabaaGreatDoor
