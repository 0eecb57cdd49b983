/- Order: what comes: the loops. -/
import Derived.Test.YtihmomicdpkabaaGreatDoorH
import Derived.Test.YtihmomicdpkabaaGreatDoorG
import Derived.Test.YtihmomicdpkabaaGreatDoorF
import Derived.Test.YtihmomicdpkabaaGreatDoorAMd
import Derived.Test.YtihmomicdpkabaaGreatDoorCards
import Derived.Test.YtihmomicdpkabaaGreatDoorTie
import Derived.ProofKit
import Derived.Deep.DeepHandedRow
import Derived.LaidMore
import Derived.Test.YtihmomicdpkabaaGreatDoorCode
set_option linter.unusedSimpArgs false
set_option linter.unusedVariables false
namespace Go.Proofs.YtihmomicdpkabaaGreatDoor
open Go.AM Go.Proofs
variable{Γ:Nat->Option AV}
def dm(a:Nat)(l:List Nat):List Nat:=l.filter fun x=>decide (¬x=a)
theorem NT(a:Nat):∀{l:List Nat},l.Nodup->ma (.sc .int) (.int .i64 a) (l.map eK)=some ((dm a l).map eK)
 |[],_=>rfl
 |b::l,h=>by
  simp only[k7]at h
  by_cases h2:a=b
  ·subst h2
   have h3:dm a l=l:=by
    unfold dm;rw[xY];intro x hx
    exact oo fun hn=>h.1 (hn▸hx)
   have h4:dm a (a::l)=l:=by rw[<-h3];simp[dm]
   simp only[b9,ma,A',decide_true,h4]
  ·have h4:dm a (b::l)=b::dm a l:=by
    unfold dm;rw[xZ,if_pos (by simpa using fun h=>h2 h.symm)]
   simp only[b9,ma,A',h2,mE,NT a h.2,dt,h4]
theorem KD(a:Nat){l:List Nat}(h:l.Nodup):(dm a l).Nodup:=h.filter _
theorem wh(l:List Nat)(x:Nat):(fh l x).length=l.length+1:=by rw[fh,abJ];simp
def iB(nd:List (List Nat)):Nat->Nat->List Nat->List Nat
 |0,_,l=>l
 |m+1,i,l=>iB nd m (i+1) (if nd.getD i []=[]then fh l i else l)
def eo(a:Nat):List Nat->List (List Nat)->List Nat->List Nat->List (List Nat)×List Nat×List Nat
 |[],nd,l,s=>(nd,l,s)
 |i::r,nd,l,s=>if dm a (nd.getD i [])=[]then eo a r (nd.set i (dm a (nd.getD i []))) (fh l i) s.tail else eo a r (nd.set i (dm a (nd.getD i []))) l s
theorem ML{A:List Ob}{l s:List Nat}(s0:List Nat)(hs:s=s0.tail){f:Fr}{up:List Fr}(hb:f.base<=A.length)(hf:∀m,gz A.length m f=true)(hv:∀m,cH A.length m A=true):
 AM.Reach Tryz.prog Γ (.fr f up (hP A l s (gP s0))) (.fr f up (hP A l s none)):=by
 unfold gP
 split
 ·rename_i h0
  have hs0:s=[]:=by rw[hs,h0];rfl
  subst hs0
  have e:(hP A l [] (some 0)).set A.length (.row 1 an ((l++[]).map iN) none true false)=hP A l [] none:=by simp[hP]
  refine .qb (uG (A:=A) (l:=l) (s:=[]) (g:=some 0)) hb (hf _) (by
   rw[hP,iP,hv]
   simp) ?_
  rw[e];exact .refl _
 ·exact .refl _
set_option maxRecDepth 8000 in
theorem adv(c:Ct)(hc:cj c){M:List Ob}(hv:fX M)(nd:List (List Nat))(hn:nd.length=c.af.length)(L:Nat)(p:AV)(up:List Fr):∀m i:Nat,i+m=c.af.length->∀l:List Nat,l.length<=i->
 AM.Reach Tryz.prog Γ (yuz (.cV L) (.ptr (M.length+(9+(c.af.length+c.af.length))) 0) (.ptr (M.length+(11+(c.af.length+c.af.length))) 0) (.int .i64 c.af.length) (.int .i64 i) (hP (aC c M nd) l [] none) ⟨[],.norm,M.length,up⟩)
  (yuA (.cV L) (.ptr (M.length+(9+(c.af.length+c.af.length))) 0) (.ptr (M.length+(11+(c.af.length+c.af.length))) 0) (hP (aC c M nd) (iB nd m i l) [] none) ⟨[],.norm,M.length,up⟩):=by
 have hN:=hc.2.2.2.1;intro m
 induction m with
 |zero=>
  intro i hi l hl
  have q1:¬i<c.af.length:=by omega
  rw[iB];generalize hP (aC c M nd) l [] none=X at*;refine .dN 60 ?_;simp[q1];exact .exit rfl rfl
 |succ m ih=>
  intro i hi l hl
  have q1:i<c.af.length:=by omega
  have hAl:=oZ (M:=M) hn;have xw:=o8 (A:=aC c M nd) (l:=l) (s:=[]) (g:=none) (i:=M.length+(9+(c.af.length+c.af.length))) (by omega);have xn:=o8 (A:=aC c M nd) (l:=l) (s:=[]) (g:=none) (i:=M.length+7) (by omega);have xm:=o8 (A:=aC c M nd) (l:=l) (s:=[]) (g:=none) (i:=M.length+(9+(c.af.length+i))) (by omega);rw[GG hn]at xw;rw[PB hn]at xn;rw[PH hn q1,gS]at xm;have yn:=ET (n:=M.length+6) (N:=c.af.length) q1;rw[show M.length+6+(3+(c.af.length+i))=M.length+(9+(c.af.length+i)) by omega]at yn;have yl:=Ac (n:=M.length+6) (N:=c.af.length) (m:=c.af.length) (aU _);have yt:List.take c.af.length (dw (M.length+6) c.af.length c.af.length)=dw (M.length+6) c.af.length c.af.length:=cS (by rw[yl];exact aU _);obtain⟨_,yn'⟩:=dD.1 yn;rw[iB]
  by_cases h0:nd.getD i []=[]
  ·have hh:=ih (i+1) (by omega) (fh l i) (by rw[wh];omega);have hP':=OC (Γ:=Γ) (aC c M nd) l [] i (by omega) (by omega)
   have hun:=fun f hb hf=>ML (Γ:=Γ) (l:=fh l i) (s:=[]) [] rfl (f:=f) (up:=up) hb hf (fun m=>OE hv (nd:=nd) (by rw[hAl];omega))
   rw[hAl]at hun hP';rw[show M.length+(10+(c.af.length+c.af.length))+1=M.length+(11+(c.af.length+c.af.length)) by omega]at hP';rw[if_pos h0];rw[h0]at xm;generalize hP (aC c M nd) l [] none=X at*;generalize hP (aC c M nd) (fh l i) [] none=Y at*;rw[List.tail_nil]at hP';generalize hP (aC c M nd) (fh l i) [] (gP [])=Z at*;generalize dw (M.length+6) c.af.length c.af.length=E at*;refine .dN 60 ?_;simp(disch:=omega) [q1,xw,xn,xm,yn,yl,yt,yn'];refine .Ov 1 60 hP' ?_;simp(disch:=omega);refine .trans (hun _ (by simp) (by intro m;simp;omega)) ?_;refine .aL ?_;simp at hh⊢;exact hh
  ·have hh:=ih (i+1) (by omega) l (by omega);rw[if_neg h0]
   have xln:¬(nd.getD i []).length=0:=by simpa using h0
   generalize nd.getD i []=z at*
   have e0:(((z.map eK).length:Nat):Int)=0↔False:=by simp;exact h0
   generalize hP (aC c M nd) l [] none=X at*;generalize dw (M.length+6) c.af.length c.af.length=E at*;refine .dN 60 ?_;simp(disch:=omega) [q1,xw,xn,xm,yn,yl,yt,yn',h0,xln];refine .aL ?_;simp at hh⊢;exact hh
theorem ZM{A:List Ob}{l s:List Nat}{g:Option Nat}{i:Nat}(h:i<A.length)(o:Ob):(hP A l s g).set i o=hP (A.set i o) l s g:=by
 rw[hP,j8 _ _ h,hP,jg]
set_option maxRecDepth 8000 in
theorem aeB(c:Ct)(hc:cj c){M:List Ob}(hv:fX M)(L a:Nat)(ha:a<c.af.length)(hb:∀i∈(bD c).getD a [],i<c.af.length)(up:List Fr):∀m j:Nat,j+m=((bD c).getD a []).length->∀(nd:List (List Nat))(l s:List Nat),nd.length=c.af.length->(∀x∈nd,x.Nodup)->l.length+m<2^38->j+m<2^38->
 AM.Reach Tryz.prog Γ (yuu (.cV L) (.ptr (M.length+(9+(c.af.length+c.af.length))) 0) (.ptr (M.length+(11+(c.af.length+c.af.length))) 0) (.int .i64 a) (.sl (M.length+(9+a)) 0 ((bD c).getD a []).length) (.int .i64 ((bD c).getD a []).length) (.int .i64 j) (hP (aC c M nd) l s none) ⟨[],.norm,M.length,up⟩)
  (yuv (.cV L) (.ptr (M.length+(9+(c.af.length+c.af.length))) 0) (.ptr (M.length+(11+(c.af.length+c.af.length))) 0) (hP (aC c M (eo a (((bD c).getD a []).drop j) nd l s).1) (eo a (((bD c).getD a []).drop j) nd l s).2.1 (eo a (((bD c).getD a []).drop j) nd l s).2.2 none) ⟨[],.norm,M.length,up⟩):=by
 have hN:=hc.2.2.2.1;intro m
 induction m with
 |zero=>
  intro j hj nd l s hn hd hl hj2
  have q1:¬j<((bD c).getD a []).length:=by omega
  rw[bw (by omega),eo];generalize(bD c).getD a []=bs at*;generalize hP (aC c M nd) l s none=X at*;refine .dN 60 ?_;simp[q1];exact .exit rfl rfl
 |succ m ih=>
  intro j hj nd l s hn hd hl hj2;have xr:=o8 (A:=aC c M nd) (l:=l) (s:=s) (g:=none) (i:=M.length+(9+a)) (by rw[oZ hn];omega);rw[afk ha]at xr;generalize hbs:(bD c).getD a []=bs at*
  have q1:j<bs.length:=by omega
  have hi:=hb _ (bC q1)
  have xi:(bs.map iN)[j]? =some (.int .i64 (bs[j]:Nat)):=by simp[q1]
  rw[bM q1,eo];generalize bs[j]=i at*;have hAl:=oZ (M:=M) hn;have xw:=o8 (A:=aC c M nd) (l:=l) (s:=s) (g:=none) (i:=M.length+(9+(c.af.length+c.af.length))) (by omega);have xn:=o8 (A:=aC c M nd) (l:=l) (s:=s) (g:=none) (i:=M.length+7) (by omega);have xm:=o8 (A:=aC c M nd) (l:=l) (s:=s) (g:=none) (i:=M.length+(9+(c.af.length+i))) (by omega);rw[GG hn]at xw;rw[PB hn]at xn;rw[PH hn hi,gS]at xm;rw[fo]at xr
  have hXl:(hP (aC c M nd) l s none).length=M.length+(12+(c.af.length+c.af.length)):=by rw[wN,hAl];omega
  have xs:∀o,((hP (aC c M nd) l s none).set (M.length+(9+(c.af.length+i))) o)[M.length+(9+(c.af.length+i))]? =some o:=fun o=>er (by omega)
  clear hXl;have yn:=ET (n:=M.length+6) (N:=c.af.length) hi;rw[show M.length+6+(3+(c.af.length+i))=M.length+(9+(c.af.length+i)) by omega]at yn;have yl:=Ac (n:=M.length+6) (N:=c.af.length) (m:=c.af.length) (aU _);have yt:List.take c.af.length (dw (M.length+6) c.af.length c.af.length)=dw (M.length+6) c.af.length c.af.length:=cS (by rw[yl];exact aU _);obtain⟨_,yn'⟩:=dD.1 yn
  have hnd:(nd.getD i []).Nodup:=by
   rw[bo,bg (by omega)];exact hd _ (bC _)
  have dc:=NT a hnd
  have fin:(hP (aC c M nd) l s none).set (M.length+(9+(c.af.length+i))) (.map ((dm a (nd.getD i [])).map eK) true)=hP (aC c M (nd.set i (dm a (nd.getD i [])))) l s none:=by
   rw[ZM (by omega),<-abD _ hn hi];rfl
  have hn2:(nd.set i (dm a (nd.getD i []))).length=c.af.length:=by rw[jg];exact hn
  have hd2:∀x∈nd.set i (dm a (nd.getD i [])),x.Nodup:=fun x hx=>by
   rcases oh hx with h1|h1
   ·exact hd x h1
   ·rw[h1];exact KD a hnd
  have hAl2:=oZ (M:=M) hn2
  by_cases h0:dm a (nd.getD i [])=[]
  ·have hh:=ih (j+1) (by omega) (nd.set i (dm a (nd.getD i []))) (fh l i) s.tail hn2 hd2 (by rw[wh];omega) (by omega);have hP':=OC (Γ:=Γ) (aC c M (nd.set i (dm a (nd.getD i [])))) l s i (by omega) (by omega)
   have hun:=fun f hb hf=>ML (Γ:=Γ) (l:=fh l i) (s:=s.tail) s rfl (f:=f) (up:=up) hb hf (fun m=>OE hv (nd:=nd.set i (dm a (nd.getD i []))) (by rw[hAl2];omega))
   rw[hAl2]at hun hP';rw[show M.length+(10+(c.af.length+c.af.length))+1=M.length+(11+(c.af.length+c.af.length)) by omega]at hP';rw[if_pos h0]
   have hlz:(dm a (nd.getD i [])).length=0:=by rw[h0];rfl
   rw[h0]at dc fin;rw[h0]at hP' hun hh⊢;generalize(eo a (bs.drop (j+1)) (nd.set i []) (fh l i) s.tail)=R at*;generalize hP (aC c M nd) l s none=X at*;generalize hP (aC c M (nd.set i [])) l s none=Y at*;generalize hP (aC c M (nd.set i [])) (fh l i) s.tail none=Z at*;generalize hP (aC c M (nd.set i [])) (fh l i) s.tail (gP s)=W at*;generalize dw (M.length+6) c.af.length c.af.length=E at*;generalize hLz:nd.getD i []=z at*;refine .dN 60 ?_;simp(disch:=omega) [q1,xr,xi,xw,xn,xm,yn,yl,yt,yn',hi,dc,xs,isKey,cf,cP];simp at fin;rw[fin];refine .Ov 1 60 hP' ?_;simp(disch:=omega);refine .trans (hun _ (by simp) (by intro m;simp;omega)) ?_;refine .aL ?_;simp at hh⊢;exact hh
  ·have hh:=ih (j+1) (by omega) (nd.set i (dm a (nd.getD i []))) l s hn2 hd2 (by omega) (by omega);rw[if_neg h0]
   have xln:¬(dm a (nd.getD i [])).length=0:=by simpa using h0
   generalize(eo a (bs.drop (j+1)) (nd.set i (dm a (nd.getD i []))) l s)=R at*;generalize hP (aC c M nd) l s none=X at*;generalize hP (aC c M (nd.set i (dm a (nd.getD i [])))) l s none=Y at*;generalize dw (M.length+6) c.af.length c.af.length=E at*;generalize dm a (nd.getD i [])=z' at*;generalize hLz:nd.getD i []=z at*;refine .dN 60 ?_;simp(disch:=omega) [q1,xr,xi,xw,xn,xm,yn,yl,yt,yn',hi,dc,xs,isKey,cf,cP,h0,xln];rw[fin];refine .aL ?_;simp at hh⊢;exact hh
end Go.Proofs.YtihmomicdpkabaaGreatDoor
namespace Go.Proofs.YtihmomicdpkabaaGreatDoor
open Go.AM Go.Proofs
theorem FC{l:List Nat}{i j:Nat}(hi:i<l.length)(hj:j<l.length):(swp l i j).Perm l:=by
 rw[List.perm_iff_count];intro a
 have e1:l.getD i 0=l[i]:=by rw[bo,bg hi];rfl
 have e2:l.getD j 0=l[j]:=by rw[bo,bg hj];rfl
 have e3:(l.set i l[j])[j]'(by simpa using hj)=l[j]:=by
  rw[List.getElem_set];split<;>rfl
 rw[swp,e1,e2,List.count_set (by simpa using hj),List.count_set hi,e3]
 have hp:l[i]=a->0<l.count a:=fun h=>SC.2 (h▸bC hi)
 by_cases h1:l[i]=a
 ·have:=hp h1
  by_cases h2:l[j]=a<;>simp[h1,h2]<;>omega
 ·by_cases h2:l[j]=a<;>simp[h1,h2]
theorem aag(j:Nat):∀l:List Nat,j<l.length->(mu l j).Perm l:=by
 induction j using Nat.strongRecOn with
 |_ j ih=>
  intro l hj;rw[mu]
  split
  ·exact .refl _
  ·split
   ·exact(ih _ (by omega) _ (by rw[dG];omega)).trans (FC (by omega) hj)
   ·exact .refl _
theorem W2(n:Nat):∀(m i:Nat)(l:List Nat),n-i<=m->n<=l.length->i<l.length->(gm n l i).1.Perm l:=by
 intro m
 induction m with
 |zero=>
  intro i l h hn hi;rw[gm,if_pos (by omega)]
 |succ m ih=>
  intro i l h hn hi;rw[gm]
  split
  ·exact .refl _
  ·split
   ·have:=wP l (2*i+1) n;have:=Bk l (j:=2*i+1) (n:=n) (by omega);exact(ih _ _ (by omega) (by rw[dG];omega) (by rw[dG];omega)).trans (FC hi (by omega))
   ·exact .refl _
theorem vU(l:List Nat)(x:Nat):(fh l x).Perm (x::l):=(aag _ _ (by simp)).trans List.perm_append_comm
def bq(l:List Nat):Nat:=(dp l).getD (l.length-1) 0
def dx(l:List Nat):List Nat:=(dp l).take (l.length-1)
theorem X4{l:List Nat}(h:0<l.length):(dp l).Perm l:=by
 rw[dp];exact(W2 _ _ _ _ (aU _) (by rw[dG];omega) (by rw[dG];omega)).trans (FC h (by omega))
theorem Xj{l:List Nat}(h:0<l.length):dp l=dx l++[bq l]:=by
 have hl:=AA l
 have hlt:l.length-1<(dp l).length:=by omega
 have h5:(dp l).getD (l.length-1) 0=(dp l)[l.length-1]:=by rw[bo,bg hlt];rfl
 rw[bq,dx,h5]
 conv=>lhs;rw[<-ng (l.length-1) (dp l)]
 congr 1;rw[bM hlt,bw (by omega)]
theorem L1{l:List Nat}(h:0<l.length):(bq l::dx l).Perm l:=by
 have:=X4 h;rw[Xj h]at this;exact List.perm_append_comm.symm.trans this
theorem LZ(l:List Nat):(dx l).length=l.length-1:=by rw[dx,gE,AA];omega
def kx(n:Nat)(l:List Nat):Prop:=∀k,0<k->k<n->l.getD ((k-1)/2) 0<=l.getD k 0
theorem wH{l:List Nat}{i j:Nat}(hi:i<l.length)(hj:j<l.length)(k:Nat):(swp l i j).getD k 0=if k=j then l.getD i 0 else if k=i then l.getD j 0 else l.getD k 0:=by
 simp only[swp,bo,nj,jg]
 by_cases h1:j=k
 ·subst h1;simp[hj]
 ·have h1':¬k=j:=fun h=>h1 h.symm
  by_cases h2:i=k
  ·subst h2;simp[h1,h1',hi]
  ·have h2':¬k=i:=fun h=>h2 h.symm
   simp[h1,h1',h2,h2']
theorem aaB(j:Nat):∀l:List Nat,j<l.length->(∀k,0<k->k<l.length->k≠j->l.getD ((k-1)/2) 0<=l.getD k 0)->(0<j->∀k,k<l.length->0<k->(k-1)/2=j->l.getD ((j-1)/2) 0<=l.getD k 0)->kx l.length (mu l j):=by
 induction j using Nat.strongRecOn with
 |_ j ih=>
  intro l hj h1 h2;rw[mu]
  split
  ·rename_i h0;intro k hk hkl;exact h1 k hk hkl (by omega)
  ·rename_i h0
   have hpl:(j-1)/2<l.length:=by omega
   split
   ·rename_i hlt;have hs:=wH hpl hj
    have key:kx (swp l ((j-1)/2) j).length (mu (swp l ((j-1)/2) j) ((j-1)/2)):=by
     refine ih _ (by omega) _ (by rw[dG];exact hpl) (fun k hk hkl hkp=>?_) (fun hp k hkl hk hkp=>?_)
     ·rw[dG]at hkl;rw[hs,hs]
      have hq:¬(k-1)/2=j\/(k-1)/2=j:=by omega
      by_cases hkj:k=j
      ·subst hkj;rw[if_neg (by omega),if_pos rfl,if_pos rfl];omega
      ·rw[if_neg hkj,if_neg hkp];have hk1:=h1 k hk hkl hkj
       by_cases hc:(k-1)/2=j
       ·rw[if_pos hc];exact h2 (by omega) k hkl hk hc
       ·rw[if_neg hc]
        by_cases hd:(k-1)/2=(j-1)/2
        ·rw[if_pos hd]
         rw[hd]at hk1;omega
        ·rw[if_neg hd];exact hk1
     ·rw[dG]at hkl;rw[hs,hs,if_neg (by omega),if_neg (by omega)];have hpp:=h1 ((j-1)/2) hp hpl (by omega)
      by_cases hkj:k=j
      ·rw[if_pos hkj];exact hpp
      ·rw[if_neg hkj,if_neg (by omega)];have hk1:=h1 k hk hkl hkj
       rw[hkp]at hk1;omega
    rw[dG]at key;exact key
   ·rename_i hge;intro k hk hkl
    by_cases hkj:k=j
    ·subst hkj;omega
    ·exact h1 k hk hkl hkj
theorem KK{l:List Nat}(h:kx l.length l)(x:Nat):kx (fh l x).length (fh l x):=by
 have e:(fh l x).length=(l++[x]).length:=by rw[wh];simp
 have g:∀k,k<l.length->(l++[x]).getD k 0=l.getD k 0:=fun k hk=>by simp[cR hk]
 rw[e,fh];refine aaB _ _ (by simp) (fun k hk hkl hkj=>?_) (fun hj k hkl hk hkp=>?_)
 ·simp only[bR,sJ]at hkl;rw[g _ (by omega),g _ (by omega)];exact h k hk (by omega)
 ·simp only[bR,sJ]at hkl;omega
theorem XH(n:Nat):∀(m i:Nat)(l:List Nat),n-i<=m->n<=l.length->i<l.length->(∀k,0<k->k<n->(k-1)/2≠i->l.getD ((k-1)/2) 0<=l.getD k 0)->(0<i->∀k,k<n->0<k->(k-1)/2=i->l.getD ((i-1)/2) 0<=l.getD k 0)->kx n (gm n l i).1:=by
 intro m
 induction m with
 |zero=>
  intro i l h hn hi h1 h2;rw[gm,if_pos (by omega)];intro k hk hkn;exact h1 k hk hkn (by omega)
 |succ m ih=>
  intro i l h hn hi h1 h2;rw[gm]
  split
  ·intro k hk hkn;exact h1 k hk hkn (by omega)
  ·rename_i hc;have kg:=wP l (2*i+1) n;have kl:=Bk l (j:=2*i+1) (n:=n) (by omega)
   have kk:fR l (2*i+1) n=2*i+1\/fR l (2*i+1) n=2*i+2:=by unfold fR;split<;>omega
   have least:∀k,k<n->0<k->(k-1)/2=i->l.getD (fR l (2*i+1) n) 0<=l.getD k 0:=by
    intro k hkn hk hkp
    have hk2:k=2*i+1\/k=2*i+1+1:=by omega
    unfold fR
    split
    ·rename_i hh
     rcases hk2 with rfl|rfl
     ·omega
     ·exact aU _
    ·rename_i hh
     rcases hk2 with rfl|rfl
     ·exact aU _
     ·have:¬l.getD (2*i+1+1) 0<l.getD (2*i+1) 0:=fun h=>hh ⟨hkn,h⟩
      omega
   generalize fR l (2*i+1) n=j at*
   have hjl:j<l.length:=by omega
   have hs:=wH hi hjl
   split
   ·rename_i hlt;refine ih _ _ (by omega) (by rw[dG];exact hn) (by rw[dG];exact hjl) (fun k hk hkn hkp=>?_) (fun hp k hkn hk hkp=>?_)
    ·rw[hs,hs,if_neg hkp]
     by_cases hkj:k=j
     ·subst hkj;rw[if_pos rfl,if_pos (by omega)];omega
     ·rw[if_neg hkj]
      by_cases hci:(k-1)/2=i
      ·rw[if_pos hci,if_neg (by omega)];exact least k hkn hk hci
      ·rw[if_neg hci];have hk1:=h1 k hk hkn hci
       by_cases hki:k=i
       ·rw[if_pos hki];subst hki;exact h2 hk j kl (by omega) (by omega)
       ·rw[if_neg hki];exact hk1
    ·rw[hs,hs]
     have hpi:(j-1)/2=i:=by omega
     have hjne:¬i=j:=by omega
     rw[hpi,if_neg hjne,if_pos rfl,if_neg (by omega),if_neg (by omega)];have:=h1 k hk hkn (by omega)
     rw[hkp]at this;exact this
   ·rename_i hge;intro k hk hkn
    by_cases hci:(k-1)/2=i
    ·have:=least k hkn hk hci
     show l.getD ((k-1)/2) 0<=l.getD k 0
     rw[hci];omega
    ·exact h1 k hk hkn hci
theorem Y9{n:Nat}{l:List Nat}(h:kx n l):∀k,k<n->l.getD 0 0<=l.getD k 0:=by
 intro k
 induction k using Nat.strongRecOn with
 |_ k ih=>
  intro hk
  by_cases h0:k=0
  ·subst h0;exact aU _
  ·have h1:=h k (by omega) hk;have h2:=ih ((k-1)/2) (by omega) (by omega);omega
theorem XT{l:List Nat}(h:kx l.length l)(h0:0<l.length):kx (dx l).length (dx l):=by
 have hs:=wH (l:=l) (i:=0) (j:=l.length-1) h0 (by omega)
 have hd:kx (l.length-1) (dp l):=by
  rw[dp];refine XH _ _ 0 _ (aU _) (by rw[dG];omega) (by rw[dG];omega) (fun k hk hkn hkp=>?_) (fun hp=>absurd hp (by omega));rw[hs,hs,if_neg (by omega),if_neg hkp,if_neg (by omega),if_neg (by omega)];exact h k hk (by omega)
 have hl:=AA l
 have g:∀k,k<l.length-1->(dx l).getD k 0=(dp l).getD k 0:=fun k hk=>by
  rw[dx];simp only[bo];rw[xX hk]
 rw[LZ];intro k hk hkn;rw[g _ (by omega),g _ hkn];exact hd k hk hkn
theorem abb{l:List Nat}(h0:0<l.length):bq l=l.getD 0 0:=by
 have hs:=wH (l:=l) (i:=0) (j:=l.length-1) h0 (by omega)
 have gu:∀(n m i:Nat)(x:List Nat),n-i<=m->n<x.length->i<=n->(i<x.length)->(i<n\/n=0)->(gm n x i).1.getD n 0=x.getD n 0:=by
  intro n m
  induction m with
  |zero=>
   intro i x h1 h2 h3 h4 h5;rw[gm,if_pos (by omega)]
  |succ m ih=>
   intro i x h1 h2 h3 h4 h5;rw[gm]
   split
   ·rfl
   ·rename_i hc;have kg:=wP x (2*i+1) n;have kl:=Bk x (j:=2*i+1) (n:=n) (by omega);generalize fR x (2*i+1) n=j at*
    split
    ·rw[ih j _ (by omega) (by rw[dG];exact h2) (by omega) (by rw[dG];omega) (by omega),wH h4 (by omega),if_neg (by omega),if_neg (by omega)]
    ·rfl
 rw[bq,dp,gu _ _ 0 _ (aU _) (by rw[dG];omega) (by omega) (by rw[dG];omega) (by omega),hs,if_pos rfl]
theorem aaq{l:List Nat}(h:kx l.length l)(h0:0<l.length){x:Nat}(hx:x∈l):bq l<=x:=by
 rw[abb h0];obtain⟨k,hk,rfl⟩:=k8 hx;have:=Y9 h k hk;rw[bo (i:=k),bg hk]at this;exact this
end Go.Proofs.YtihmomicdpkabaaGreatDoor
namespace Go.Proofs.YtihmomicdpkabaaGreatDoor
open Go.AM Go.Proofs
variable{Γ:Nat->Option AV}
def o9(b:List (List Nat)):Nat->List (List Nat)->List Nat->List Nat->List Nat
 |0,_,_,_=>[]
 |f+1,nd,l,s=>if l=[]then[]else
  bq l::o9 b f (eo (bq l) (b.getD (bq l) []) nd (dx l) (bq l::s)).1 (eo (bq l) (b.getD (bq l) []) nd (dx l) (bq l::s)).2.1 (eo (bq l) (b.getD (bq l) []) nd (dx l) (bq l::s)).2.2
def rZ(b:List (List Nat)):Nat->List (List Nat)->List Nat->List Nat->Prop
 |0,_,l,_=>l=[]
 |f+1,nd,l,s=>l=[]\/rZ b f (eo (bq l) (b.getD (bq l) []) nd (dx l) (bq l::s)).1 (eo (bq l) (b.getD (bq l) []) nd (dx l) (bq l::s)).2.1 (eo (bq l) (b.getD (bq l) []) nd (dx l) (bq l::s)).2.2
theorem FV(a N:Nat):∀(r:List Nat)(nd:List (List Nat))(l s:List Nat),(∀i∈r,i<N)->nd.length=N->(∀x∈nd,x.Nodup)->(∀x∈l,x<N)->
 (eo a r nd l s).1.length=N/\(∀x∈(eo a r nd l s).1,x.Nodup)/\(∀x∈(eo a r nd l s).2.1,x<N)/\(eo a r nd l s).2.1.length<=l.length+r.length
 |[],nd,l,s,_,h2,h3,h4=>⟨h2,h3,h4,by simp[eo]⟩
 |i::r,nd,l,s,h1,h2,h3,h4=>by
  have hi:=h1 i (by simp)
  have hn:(nd.set i (dm a (nd.getD i []))).length=N:=by simpa using h2
  have hd:∀x∈nd.set i (dm a (nd.getD i [])),x.Nodup:=fun x hx=>by
   rcases oh hx with h5|h5
   ·exact h3 x h5
   ·rw[h5];refine KD a ?_;rw[bo,bg (by omega)];exact h3 _ (bC _)
  rw[eo]
  split
  ·have:=FV a N r _ (fh l i) s.tail (fun x hx=>h1 x (by simp[hx])) hn hd (fun x hx=>by
    have:=(vU l i).mem_iff.1 hx
    rcases bt.1 this with rfl|h6
    ·exact hi
    ·exact h4 x h6)
   rw[wh]at this;refine⟨this.1,this.2.1,this.2.2.1,?_⟩;have:=this.2.2.2
   simp only[bP];omega
  ·have:=FV a N r _ l s (fun x hx=>h1 x (by simp[hx])) hn hd h4;refine⟨this.1,this.2.1,this.2.2.1,?_⟩;have:=this.2.2.2
   simp only[bP];omega
set_option maxRecDepth 8000 in
theorem aeT(c:Ct)(hc:cj c)(hbL:∀x∈bD c,x.length<=2^21/\∀i∈x,i<c.af.length){S:Type}(M:S->List Ob)(F:S->Nat->S)(n L r:Nat)(hM:∀x,(M x).length=n)(hv:∀x,fX (M x))(hr:r<n)(I:S->Nat->Prop)(hI:∀x k a,I x k->a<c.af.length->I (F x a) (k+1))
 (hB:∀x k a T up,I x k->k<2^20->a<c.af.length->(∀m,up.all (gz r m)=true)->(∀m,cH r m T=true)->AM.Reach Tryz.prog Γ ((jf.yl L).cfg [.int .i64 a] up (M x++T)) (.back up (.bool true) (M (F x a)++T)))
 (up:List Fr)(hup:∀m,up.all (gz r m)=true):∀(f:Nat)(x:S)(k:Nat)(nd:List (List Nat))(l s:List Nat),nd.length=c.af.length->(∀x∈nd,x.Nodup)->(∀a∈l,a<c.af.length)->l.length+f*2^22<=2^37->I x k->k+f<=2^20->rZ (bD c) f nd l s->
 ∃T,AM.Reach Tryz.prog Γ (Sa (.cV L) (.ptr (n+(9+(c.af.length+c.af.length))) 0) (.ptr (n+(11+(c.af.length+c.af.length))) 0) (hP (aC c (M x) nd) l s none) ⟨[],.norm,n,up⟩)
  (.back up (.aH []) (M ((o9 (bD c) f nd l s).foldl F x)++T)):=by
 have stop:∀(x:S)(nd:List (List Nat))(s:List Nat),nd.length=c.af.length->∃T,AM.Reach Tryz.prog Γ (Sa (.cV L) (.ptr (n+(9+(c.af.length+c.af.length))) 0) (.ptr (n+(11+(c.af.length+c.af.length))) 0) (hP (aC c (M x) nd) [] s none) ⟨[],.norm,n,up⟩)
  (.back up (.aH []) (M x++T)):=by
  intro x nd s hn;have hAl:=oZ (M:=M x) hn;rw[hM]at hAl;have xc:=nZ (A:=aC c (M x) nd) (l:=[]) (s:=s) (g:=none);have h1:=Bw (Γ:=Γ) (aC c (M x) nd) [] s none (.inl rfl)
  have he:hP (aC c (M x) nd) [] s none=M x++(tC c n nd++[.row 1 an (s.map iN) none true false,.cells [.sl (n+(10+(c.af.length+c.af.length))) 0 0]]):=by
   rw[hP,hAl]
   conv=>lhs;rw[wX,hM]
   simp
  rw[hAl,show n+(10+(c.af.length+c.af.length))+1=n+(11+(c.af.length+c.af.length)) by omega]at xc;rw[hAl]at h1;refine⟨tC c n nd++[.row 1 an (s.map iN) none true false,.cells [.sl (n+(10+(c.af.length+c.af.length))) 0 0]],?_⟩;rw[<-he];generalize hP (aC c (M x) nd) [] s none=X at*;simp at xc h1;refine .bf 60 ?_;simp[xc];refine .bd 60 h1 ?_;simp
 intro f
 induction f with
 |zero=>
  intro x k nd l s hn hd hl hb hIx hk hE;rw[rZ]at hE;subst hE;rw[o9];exact stop x nd s hn
 |succ f ih=>
  intro x k nd l s hn hd hl hb hIx hk hE;rw[o9]
  by_cases h0:l=[]
  ·subst h0;rw[if_pos rfl];exact stop x nd s hn
  ·rw[rZ]at hE;have hE:=hE.resolve_left h0;rw[if_neg h0];have hpos:0<l.length:=qU.2 h0;have hhr:=L1 hpos;have ha:bq l<c.af.length:=hl _ (hhr.mem_iff.1 (by simp))
   have hrl:∀y∈dx l,y<c.af.length:=fun y hy=>hl _ (hhr.mem_iff.1 (by simp[hy]))
   have hbm:(bD c).getD (bq l) []∈bD c:=by
    rw[bo,bg (by rw[gH];exact ha)];exact bC _
   obtain⟨hb1,hb2⟩:=hbL _ hbm;have hok:=FV (bq l) c.af.length ((bD c).getD (bq l) []) nd (dx l) (bq l::s) hb2 hn hd hrl;have hrest:=LZ l
   have h3:=fun M' hv'=>aeB (Γ:=Γ) c hc (M:=M') hv' L (bq l) ha hb2 up ((bD c).getD (bq l) []).length 0 (by omega) nd (dx l) (bq l::s) hn hd (by omega) (by omega)
   obtain⟨T,hT⟩:=ih (F x (bq l)) (k+1) _ _ _ hok.1 hok.2.1 hok.2.2.1 (by have:=hok.2.2.2;omega) (hI x k _ hIx ha) (by omega) hE;refine⟨T,?_⟩;have hAl:=oZ (M:=M x) hn;have hAl2:=oZ (M:=M (F x (bq l))) hn;rw[hM]at hAl hAl2;have h3':=h3 (M (F x (bq l))) (hv _);rw[iq,hM]at h3';have xc:=nZ (A:=aC c (M x) nd) (l:=l) (s:=s) (g:=none);have h1:=Bw (Γ:=Γ) (aC c (M x) nd) l s none (.inl rfl);have h2:=aev (Γ:=Γ) (aC c (M x) nd) l s hpos (by omega);rw[hAl]at xc h1 h2;rw[show n+(10+(c.af.length+c.af.length))+1=n+(11+(c.af.length+c.af.length)) by omega]at xc h2;rw[show(dp l).getD (l.length-1) 0=bq l from rfl,show(dp l).take (l.length-1)=dx l from rfl]at h2
   let T2:List Ob:=tC c n nd++[.row 1 an ((dx l++bq l::s).map iN) none true false,.cells [.sl (n+(10+(c.af.length+c.af.length))) 0 (dx l).length]]
   have he:∀y,hP (aC c (M y) nd) (dx l) (bq l::s) none=M y++T2:=fun y=>by
    have hy:=oZ (M:=M y) hn;rw[hM]at hy;rw[hP,hy]
    conv=>lhs;rw[wX,hM]
    simp[T2]
   have hTv:∀m,cH r m T2=true:=fun m=>by
    have hne:(n+(10+(c.af.length+c.af.length))==r)=false:=by simp;omega
    rw[show T2=tC c n nd++[.row 1 an ((dx l++bq l::s).map iN) none true false,.cells [.sl (n+(10+(c.af.length+c.af.length))) 0 (dx l).length]]from rfl,iP,adN n hr];simp[hne]
   have hbody:=fun up hup=>hB x k (bq l) T2 up hIx (by omega) ha hup hTv
   rw[<-he,<-he]at hbody
   have hlp:(0:Int)<l.length:=by omega
   have xw:=o8 (A:=aC c (M (F x (bq l))) nd) (l:=dx l) (s:=bq l::s) (g:=none) (i:=n+(9+(c.af.length+c.af.length))) (by omega);have xb:=o8 (A:=aC c (M (F x (bq l))) nd) (l:=dx l) (s:=bq l::s) (g:=none) (i:=n+8) (by omega);have w1:=GG (M:=M (F x (bq l))) hn;have w2:=ae5 (c:=c) (M:=M (F x (bq l))) (nd:=nd);rw[hM]at w1 w2;rw[w1]at xw;rw[w2]at xb;have yb:=rL (n:=n+6) (b:=bD c) (k:=bq l) (by rw[gH];exact ha)
   have egd:(bD c)[bq l]'(by rw[gH];exact ha)=(bD c).getD (bq l) []:=by rw[bo,bg (by rw[gH];exact ha)];rfl
   rw[egd,show n+6+(3+bq l)=n+(9+bq l) by omega]at yb;have zl:=p7 (n+6) (bD c);rw[gH]at zl;have zt:List.take c.af.length (fy (n+6) (bD c))=fy (n+6) (bD c):=cS (by rw[zl];exact aU _);obtain⟨_,yb'⟩:=dD.1 yb;generalize hRR:eo (bq l) ((bD c).getD (bq l) []) nd (dx l) (bq l::s)=R at*;have hfold:(bq l::o9 (bD c) f R.1 R.2.1 R.2.2).foldl F x=(o9 (bD c) f R.1 R.2.1 R.2.2).foldl F (F x (bq l)):=rfl;rw[hfold];clear hfold he hTv h3 hok w1 w2;generalize hP (aC c (M x) nd) l s none=X at*;generalize hP (aC c (M x) nd) (dx l) (bq l::s) none=Y at*;generalize hP (aC c (M (F x (bq l))) nd) (dx l) (bq l::s) none=Z at*;generalize hP (aC c (M (F x (bq l))) R.1) R.2.1 R.2.2 none=W at*;generalize fy (n+6) (bD c)=E at*;generalize(bD c).getD (bq l) []=bs at*
   generalize bq l=a at*;refine .bf 60 ?_;simp[xc];refine .bd 60 h1 ?_;simp[hpos];refine .bd 8 h2 ?_;simp;refine Reach.aeQ (l:=L) (args:=[.int .i64 a]) (v:=.bool true) (h':=Z) (by simp) (hbody _ (fun m=>by simp[hup m];omega)) ?_;refine .bf 60 ?_;simp[xw,xb,yb,yb',zl,zt,ha];refine .inLoop ?_;simp at h3'⊢;refine .trans h3' ?_;refine .bf 60 ?_;simp;refine .aL ?_;simp at hT⊢;exact hT
theorem FB(nd:List (List Nat))(N:Nat):∀(m i:Nat)(l:List Nat),i+m=N->(∀a∈l,a<N)->(∀a∈iB nd m i l,a<N)/\(iB nd m i l).length<=l.length+m
 |0,i,l,h,hl=>⟨hl,by simp[iB]⟩
 |m+1,i,l,h,hl=>by
  rw[iB]
  split
  ·have:=FB nd N m (i+1) (fh l i) (by omega) (fun a ha=>by
    rcases bt.1 ((vU l i).mem_iff.1 ha)with rfl|h1
    ·omega
    ·exact hl a h1)
   rw[wh]at this;exact⟨this.1,by omega⟩
  ·have:=FB nd N m (i+1) l (by omega) hl;exact⟨this.1,by omega⟩
theorem DS(pl:List (Bs×Nat)):∀(l:List Bs)(a:List Nat),a.Nodup->(eJ pl l a).Nodup
 |[],a,h=>h
 |s::r,a,h=>by
  rw[eJ]
  split
  ·exact DS pl r a h
  ·refine DS pl r _ ?_
   split
   ·exact h
   ·rename_i k _ hk;rw[q9];refine⟨h,by simp,fun x hx y hy=>?_⟩;simp only[dC]at hy;subst hy
    exact fun he=>hk (he▸hx)
theorem JY(pl:List (Bs×Nat)):∀(l:List Gt)(i:Nat)(nd b:List (List Nat)),(∀x∈nd,x.Nodup)->∀x∈(ff pl l i nd b).1,x.Nodup
 |[],_,_,_,h=>h
 |g::r,i,nd,b,h=>by
  rw[ff]
  refine JY pl r _ _ _ fun x hx=>?_
  rcases bl.1 hx with h1|h1
  ·exact h x h1
  ·rw[dC]at h1
   rw[h1];exact DS pl _ _ (by simp)
theorem V5(c:Ct):∀x∈dQ c,x.Nodup:=JY _ _ _ _ _ (by simp)
theorem FR(pl:List (Bs×Nat))(i:Nat):∀(l:List Bs)(a:List Nat)(b:List (List Nat)),∀x∈je pl i l a b,∀y∈x,y=i\/∃z∈b,y∈z
 |[],_,_,x,hx,y,hy=>.inr ⟨x,hx,hy⟩
 |s::r,a,b,x,hx,y,hy=>by
  rw[je]at hx
  split at hx
  ·exact FR pl i r a b x hx y hy
  ·rename_i k _
   rcases FR pl i r _ _ x hx y hy with h|⟨z,hz,hyz⟩
   ·exact .inl h
   ·split at hz
    ·exact .inr ⟨z,hz,hyz⟩
    ·rcases oh hz with h1|h1
     ·exact .inr ⟨z,h1,hyz⟩
     ·rw[h1]at hyz
      rcases bl.1 hyz with h2|h2
      ·by_cases hk:k<b.length
       ·rw[bo,bg hk]at h2;exact .inr ⟨_,bC hk,h2⟩
       ·rw[bo,jJ (by omega)]at h2;simp at h2
      ·exact .inl (by simpa using h2)
theorem Lu(pl:List (Bs×Nat)):∀(l:List Gt)(i N B:Nat)(nd b:List (List Nat)),(∀g∈l,g.ins.length<2^10)->i+l.length=N->(∀x∈b,x.length<=B/\∀y∈x,y<N)->∀x∈(ff pl l i nd b).2,x.length<=B+l.length*2^10/\∀y∈x,y<N
 |[],_,_,_,_,_,_,_,h=>fun x hx=>by simpa using h x hx
 |g::r,i,N,B,nd,b,hg,hN,h=>fun x hx=>by
  rw[ff]at hx;simp only[bP]at hN⊢;have hb:=F1 pl i B g.ins [] b (fun x hx=>(h x hx).1)
  have:=Lu pl r (i+1) N (B+2^10) _ _ (fun y hy=>hg y (by simp[hy])) (by omega) (fun y hy=>by
   have:=hb y hy;have:=hg g (by simp);refine⟨by omega,fun z hz=>?_⟩
   rcases FR pl i g.ins [] b y hy z hz with h1|⟨w,hw,hzw⟩
   ·omega
   ·exact(h w hw).2 z hzw) x hx
  rw[C7];exact⟨by omega,this.2⟩
theorem aak{c:Ct}(hc:cj c):∀x∈bD c,x.length<=2^21/\∀i∈x,i<c.af.length:=fun x hx=>by
 have hN:=hc.2.2.2.1
 have:=Lu (bZ c) c.af 0 c.af.length 0 [] (List.replicate c.af.length []) (fun g hg=>(hc.2.2.2.2.1 g hg).2.1) (by omega) (fun y hy=>by
  rw[SI]at hy
  rw[hy.2];simp) x hx
 exact⟨by omega,this.2⟩
def nO(c:Ct)(f:Nat):List Nat:=o9 (bD c) f (dQ c) (iB (dQ c) c.af.length 0 []) []
def GS(c:Ct)(f:Nat):Prop:=rZ (bD c) f (dQ c) (iB (dQ c) c.af.length 0 []) []
theorem aeX(c:Ct){M:List Ob}(hw:cO M){nd:List (List Nat)}(hn:nd.length=c.af.length){m:Nat}(hm:M.length+(10+(c.af.length+c.af.length))<=m):cE m (aC c M nd)=true:=by
 have h1:=hw m (by omega);have h2:=adm c (n:=M.length) (m:=m) (by omega);have h3:=N0 (n:=M.length+6) (m:=m) (bD c) (by rw[gH];omega);have h4:=EA (n:=M.length+6) (N:=c.af.length) (m:=nd.length) (q:=m) (by omega);rw[wX,oB,tC,oB,oB,oB,oB,h1,h2,Fk,Fq];simp[hF,h3,h4];omega
set_option maxRecDepth 8000 in
theorem Zv(c:Ct)(hc:cj c)(hd:(c.af.map (·.name)).Nodup){S:Type}(M:S->List Ob)(F:S->Nat->S)(n L r p:Nat)(hM:∀x,(M x).length=n)(hw:∀x,cO (M x))(hv:∀x,fX (M x))(hr:r<n)(hL:L<n)(hp:∀x,(M x)[p]? =some (.cells (AV.cells (bX c))))(I:S->Nat->Prop)(hI:∀x k a,I x k->a<c.af.length->I (F x a) (k+1))
 (hB:∀x k a T up,I x k->k<2^20->a<c.af.length->(∀m,up.all (gz r m)=true)->(∀m,cH r m T=true)->AM.Reach Tryz.prog Γ ((jf.yl L).cfg [.int .i64 a] up (M x++T)) (.back up (.bool true) (M (F x a)++T)))
 (up:List Fr)(hup:∀m,up.all (gz r m)=true)(x:S)(hI0:I x 0)(f:Nat)(hf:f<=2^14)(hE:GS c f):
 AM.Reach Tryz.prog Γ (.cl nv [.cV L,.ptr p 0] up (M x)) (.back up (.aH []) (M ((nO c f).foldl F x))):=by
 have hN:=hc.2.2.2.1;have hi:=FB (dQ c) c.af.length c.af.length 0 [] (by omega) (by simp);obtain⟨T,hT⟩:=aeT (Γ:=Γ) c hc (aak hc) M F n L r hM hv hr I hI hB up hup f x 0 (dQ c) (iB (dQ c) c.af.length 0 []) [] (tr c) (V5 c) hi.1 (by have:=hi.2;simp only[dh]at this;omega) hI0 (by omega) hE;have h14:=adv (Γ:=Γ) c hc (hv x) (dQ c) (tr c) L (.ptr p 0) up c.af.length 0 (by omega) [] (aU _);have hwt:=adx (Γ:=Γ) c hc hd (hw x) (hv x);have hpx:=hp x;have hMx:=hM x
 have key:AM.Reach Tryz.prog Γ (.cl nv [.cV L,.ptr p 0] up (M x)) (.back up (.aH []) (M ((nO c f).foldl F x)++T)):=by
  have e1:hQ (gJ c (M x)) (dQ c) (bD c)++([.cells [.sl (n+7) 0 c.af.length,.sl (n+8) 0 c.af.length]])=aC c (M x) (dQ c):=by rw[aC,hM]
  have e2:aC c (M x) (dQ c)++[.row 1 an [] none true false,.cells [.sl (aC c (M x) (dQ c)).length 0 0]]=hP (aC c (M x) (dQ c)) [] [] none:=by simp[hP]
  have e3:=oZ (M:=M x) (tr c)
  have e4:(hQ (gJ c (M x)) (dQ c) (bD c)).length=n+(9+(c.af.length+c.af.length)):=by rw[lh,jO,gH,tr,hM];omega
  rw[jO]at hwt;rw[hM]at h14 hwt e3;refine .bF 60 Uq ?_;simp[hpx];have e5:=aeX c (hw x) (tr c) (m:=n+(10+(c.af.length+c.af.length))) (by rw[hM];omega);have hpn:=aV hpx;rw[hM]at hpn
  have e7:(aC c (M x) (dQ c))[p]? =some (.cells (AV.cells (bX c))):=by rw[wX];exact fE hpx _
  rw[<-e1]at e2 e5 e7 h14 hT;refine .bd 5 hwt ?_;generalize hQ (gJ c (M x)) (dQ c) (bD c)=X at*;simp
  have et:(X++[Ob.cells [.sl (n+7) 0 c.af.length,.sl (n+8) 0 c.af.length],.row 1 jL [] none true false,.row 1 iT [] none true false]).take (n+(10+(c.af.length+c.af.length)))=X++[.cells [.sl (n+7) 0 c.af.length,.sl (n+8) 0 c.af.length]]:=by
   rw[show n+(10+(c.af.length+c.af.length))=X.length+1 by omega,List.take_length_add_append];rfl
  refine .mT (n:=n+(10+(c.af.length+c.af.length))) et (by simp[hM]) (by simp;omega) e5 ?_
  have hXl:(X++[Ob.cells [.sl (n+7) 0 c.af.length,.sl (n+8) 0 c.af.length]]).length=n+(10+(c.af.length+c.af.length)):=by simp;omega
  rw[hXl]at e2;generalize X++[Ob.cells [.sl (n+7) 0 c.af.length,.sl (n+8) 0 c.af.length]]=A at*;refine .aaX 60 an (es:=[]) (by simp) rfl ?_;have e6:A++[Ob.row 1 an [] none true false,.cells [.sl (n+(10+(c.af.length+c.af.length))) 0 0]]=hP A [] [] none:=e2
  have e8:=fun os=>fE e7 os
  simp[e8,hXl,cg];rw[e6];refine .inLoop ?_
  have e9:n+(10+(c.af.length+c.af.length))+1=n+(11+(c.af.length+c.af.length)):=by omega
  rw[e9,e4,hM];simp at h14⊢;refine .trans h14 ?_;refine .bf 60 ?_;simp;refine .inLoop ?_;unfold nO;simp at hT⊢;exact hT
 have:=AM.Reach.leave key rfl (by
  rw[hM,<-hM ((nO c f).foldl F x),List.take_left]
  exact hw _ _ (aU _))
 rw[hM,<-hM ((nO c f).foldl F x),List.take_left]at this;exact this
theorem L7(N:List Bs):∀l:List Bs,((ic N l).1=6/\(ic N l).2∉N)\/(ic N l=(0,[])/\∀s∈l,s∈N)
 |[]=>.inr ⟨rfl,fun s hs=>by cases hs⟩
 |a::l=>by
  rw[ic]
  by_cases h:a∈N
  ·rw[if_pos h]
   rcases L7 N l with h1|⟨h1,h2⟩
   ·exact .inl h1
   ·refine .inr ⟨h1,fun s hs=>?_⟩
    rcases bt.1 hs with rfl|hs
    ·exact h
    ·exact h2 s hs
  ·rw[if_neg h];exact .inl ⟨rfl,h⟩
theorem M5(r:Int×Bs):∀l:List Gt,ju r l=r/\(∀g∈l,jV g=true)\/(ju r l).1=1
 |[]=>.inl ⟨rfl,fun g hg=>by cases hg⟩
 |g::l=>by
  rw[ju]
  by_cases h:jV g=true
  ·rw[if_pos h]
   rcases M5 r l with⟨h1,h2⟩|h1
   ·refine .inl ⟨h1,fun x hx=>?_⟩
    rcases bt.1 hx with rfl|hx
    ·exact h
    ·exact h2 x hx
   ·exact .inr h1
  ·rw[if_neg h];exact .inr rfl
theorem Mu(r:Int×Bs):∀l:List Lt,kz r l=r/\(∀q∈l,lW q=true)\/(kz r l).1=1
 |[]=>.inl ⟨rfl,fun g hg=>by cases hg⟩
 |g::l=>by
  rw[kz]
  by_cases h:lW g=true
  ·rw[if_pos h]
   rcases Mu r l with⟨h1,h2⟩|h1
   ·refine .inl ⟨h1,fun x hx=>?_⟩
    rcases bt.1 hx with rfl|hx
    ·exact h
    ·exact h2 x hx
   ·exact .inr h1
  ·rw[if_neg h];exact .inr rfl
theorem M1(r:Int×Bs):∀l:List Bs,nP r l=r/\(∀s∈l,iC s=true)\/(nP r l).1=4
 |[]=>.inl ⟨rfl,fun g hg=>by cases hg⟩
 |g::l=>by
  rw[nP]
  by_cases h:iC g=true
  ·rw[if_pos h]
   rcases M1 r l with⟨h1,h2⟩|h1
   ·refine .inl ⟨h1,fun x hx=>?_⟩
    rcases bt.1 hx with rfl|hx
    ·exact h
    ·exact h2 x hx
   ·exact .inr h1
  ·rw[if_neg h];exact .inr rfl
theorem Oq(t:Option Bs)(r:Int×Bs):(t=none/\mq t r=r)\/(mq t r).1=5:=by
 cases t with
 |none=>exact .inl ⟨rfl,rfl⟩
 |some s=>exact .inr rfl
structure fQ(c:Ct):Prop where
 lG:iZ c=false
 names:∀s∈l9 c,iC s=true
 Pp:iy (aD c)=none
 outs:iy c.aW=none
 init:∀q∈c.ak,lW q=true
 af:∀g∈c.af,jV g=true
 used:∀s∈eS c,s∈aD c
theorem aax(c:Ct):((iw c).1≠0/\((iw c).1=6->(iw c).2∉aD c))\/(iw c=(0,[])/\fQ c):=by
 unfold iw
 cases hl:iZ c with
 |true=>exact .inl ⟨by simp,by simp⟩
 |false=>
  rw[if_neg (by simp)]
  rcases M1 (mq (iy (aD c)) (mq (iy c.aW) (kz (ju (ic (aD c) (eS c)) c.af) c.ak))) (l9 c)with⟨e1,h1⟩|h1
  ·rw[e1]
   rcases Oq (iy (aD c)) (mq (iy c.aW) (kz (ju (ic (aD c) (eS c)) c.af) c.ak))with⟨h2,e2⟩|h2
   ·rw[e2]
    rcases Oq (iy c.aW) (kz (ju (ic (aD c) (eS c)) c.af) c.ak)with⟨h3,e3⟩|h3
    ·rw[e3]
     rcases Mu (ju (ic (aD c) (eS c)) c.af) c.ak with⟨e4,h4⟩|h4
     ·rw[e4]
      rcases M5 (ic (aD c) (eS c)) c.af with⟨e5,h5⟩|h5
      ·rw[e5]
       rcases L7 (aD c) (eS c)with⟨h6,h7⟩|⟨e6,h6⟩
       ·exact .inl ⟨by rw[h6];decide,fun _=>h7⟩
       ·exact .inr ⟨e6,⟨hl,h1,h2,h3,h4,h5,h6⟩⟩
      ·exact .inl ⟨by rw[h5];decide,fun h=>by rw[h5]at h;cases h⟩
     ·exact .inl ⟨by rw[h4];decide,fun h=>by rw[h4]at h;cases h⟩
    ·exact .inl ⟨by rw[h3];decide,fun h=>by rw[h3]at h;cases h⟩
   ·exact .inl ⟨by rw[h2];decide,fun h=>by rw[h2]at h;cases h⟩
  ·exact .inl ⟨by rw[h1];decide,fun h=>by rw[h1]at h;cases h⟩
theorem JM:∀(l seen:List Bs),lp seen l=none->l.Nodup/\∀s∈l,s∉seen
 |[],seen,_=>⟨List.nodup_nil,fun s hs=>by cases hs⟩
 |a::l,seen,h=>by
  rw[lp]at h
  by_cases hm:a∈seen
  ·rw[if_pos hm]at h;cases h
  ·rw[if_neg hm]at h;obtain⟨h1,h2⟩:=JM l _ h;refine⟨k7.2 ⟨fun ha=>h2 a ha (by simp),h1⟩,fun s hs=>?_⟩
   rcases bt.1 hs with rfl|hs
   ·exact hm
   ·exact fun hs2=>h2 s hs (by simp[hs2])
theorem fQ.nodup{c:Ct}(h:fQ c):(aD c).Nodup:=(JM _ _ h.Pp).1
def GtB(g:Gt):Prop:=g.name.length<2^40/\g.ins.length<2^40/\g.rows.length<2^40/\(∀s∈g.ins,s.length<2^40)/\∀s∈g.rows,s.length<2^40
def jb(c:Ct):Prop:=c.aB.length<2^40/\c.aW.length<2^40/\c.ak.length<2^40/\c.af.length<2^40/\(∀g∈c.af,GtB g)/\
 (∀s∈c.aB,s.length<2^40)/\(∀s∈c.aW,s.length<2^40)/\∀q∈c.ak,q.name.length<2^40/\q.next.length<2^40
theorem Gi{α:Type}{p:α->Bool}:∀{l:List α},br p l=false->∀x∈l,p x=false
 |[],_,x,hx=>by cases hx
 |a::l,h,x,hx=>by
  rw[gX,jK]at h
  rcases bt.1 hx with rfl|hx
  ·exact h.1
  ·exact Gi h.2 x hx
theorem cj.Cb{c:Ct}(h:cj c):jb c:=by
 obtain⟨h1,h2,h3,h4,h5,h6⟩:=h;refine⟨by omega,by omega,by omega,by omega,fun g hg=>?_,h6⟩;obtain⟨g1,g2,g3,g4⟩:=h5 g hg;exact⟨g1,by omega,by omega,g4⟩
theorem Kr{c:Ct}(hb:jb c)(hl:iZ c=false):cj c:=by
 simp only[iZ,jK,iO]at hl;obtain⟨h1,h2,h3⟩:=hl;obtain⟨b1,b2,b3,b4,b5,b6⟩:=hb;refine⟨by omega,by omega,by omega,by omega,fun g hg=>?_,b6⟩;obtain⟨g1,g2,g3,g4⟩:=b5 g hg;have:=Gi h1 g hg;simp only[rU,jK,iO]at this;exact⟨g1,by omega,by omega,g4⟩
set_option maxRecDepth 8000 in
theorem Ml(hΓ:jB Γ)(c:Ct)(hb:jb c):aP Tryz.prog Γ nz [bX c] (sn (iw c)):=by
 cases hl:iZ c with
 |false=>exact abL hΓ c (Kr hb hl)
 |true=>
  have b0:=hb.1;have b1:=hb.2.1;have b3:=hb.2.2.1;have b4:=hb.2.2.2.1;have hC:=Jx (Γ:=Γ) (fl:=false) (NU c.af) c.hG (by omega) (h:=Hu c) trivial;have e0:((c.aB.length:Int)+c.ak.length+c.af.length<=200)=(c.aB.length+c.ak.length+c.af.length<=200):=propext (by omega);have e1:((c.aW.length:Int)<=200)=(c.aW.length<=200):=propext (by omega);refine .run 160 J9 (by simp) ?_;unfold iw
  by_cases h1:c.aB.length+c.ak.length+c.af.length<=200
  ·by_cases h2:c.aW.length<=200
   ·simp(disch:=omega) [e0,e1,h1,h2];refine .bd 160 hC ?_
    have h3:br rU c.af=true:=by
     simp only[iZ,eY,a_]at hl
     rcases hl with h|h|h
     ·exact h
     ·omega
     ·omega
    rw[h3];simp;refine .lz 160 (by simp) (lL 8 []) ?_;simp;refine .dr 90 ?_;simp;exact .back (by simp[hl])
   ·simp(disch:=omega) [e0,e1,h1,h2];refine .lz 160 (by simp) (lL 8 []) ?_;simp;refine .dr 90 ?_;simp;exact .back (by simp[hl])
  ·simp(disch:=omega) [e0,e1,h1];refine .lz 160 (by simp) (lL 8 []) ?_;simp;refine .dr 90 ?_;simp;exact .back (by simp[hl])
def kv(c:Ct):Bool:=decide ((iw c).1=0)
theorem Ns(hΓ:jB Γ)(c:Ct)(hb:jb c):aP Tryz.prog Γ zp [bX c] (.bool (kv c)):=by
 have hC:=Ml hΓ c hb;unfold kv;generalize iw c=r at*;obtain⟨e,s⟩:=r;refine .run 60 Va (by simp) ?_;simp;refine .call 60 (by simp) hC ?_;simp;exact .back (by simp)
theorem tQ{c:Ct}(h:kv c=true):fQ c/\iw c=(0,[]):=by
 rcases aax c with⟨h1,_⟩|⟨h1,h2⟩
 ·exact absurd (C9 h) h1
 ·exact⟨h2,h1⟩
theorem rE{c:Ct}(hb:jb c)(h:kv c=true):cj c:=Kr hb (tQ h).1.lG
theorem ry{c:Ct}(h:kv c=true):(c.af.map (·.name)).Nodup:=by
 have:=(tQ h).1.nodup;rw[aD,q9]at this;exact this.2.1
end Go.Proofs.YtihmomicdpkabaaGreatDoor
namespace Go.Proofs.YtihmomicdpkabaaGreatDoor
open Go.AM Go.Proofs Go.ChangeShapes Go.WideShapes Go.ChangeAt Go.RowKit
theorem own:ownKnob Tryz.prog.godebug=none:=by kernel_rfl
theorem laid:laidOutB Tryz.prog=true:=by kernel_rfl
theorem aec:mapsRowed Tryz.prog=true:=by kernel_rfl
def GU:List (Lit×DataW Unit):=match(Rows.laid_patchbay_net_ins:DataW Unit)with
 |.map D=>D
 |_=>[]
theorem abZ:(Rows.laid_patchbay_net_ins:DataW Unit)=.map GU:=by kernel_rfl
def xh:List (AV×AV):=[(.int .i64 0,p2 0 0),(.int .i64 1,p2 0 0),(.int .i64 2,p2 1 1),(.int .i64 3,p2 1 1),(.int .i64 4,p2 2 8),(.int .i64 5,p2 2 8),(.int .i64 6,p2 2 8),(.int .i64 7,p2 2 8),(.int .i64 8,p2 2 8),(.int .i64 9,p2 2 8),(.int .i64 10,p2 0 8)]
theorem abU:(GU.map fun d=>(iV d.1,nK d.2))=xh:=by kernel_rfl
theorem aef:Tryz.prog.globalNamed "patchbay/net.ins" =some 1:=by kernel_rfl
theorem afg:(Tryz.prog.globals[1]?).map (·.type)=some 211:=by kernel_rfl
theorem ae4:Tryz.prog.underlying 211=some (.map 30 63):=by kernel_rfl
theorem Sd:Tryz.prog.underlying 30=some (.int .i64):=by kernel_rfl
theorem u74:Tryz.prog.underlying 63=some (.array 2 3):=by kernel_rfl
theorem u3:Tryz.prog.underlying 3=some (.int .i64):=by kernel_rfl
theorem u4:Tryz.prog.underlying 4=some .bool:=by kernel_rfl
abbrev ad8:Nat:=2
def BI:List (Lit×DataW Unit):=match(Rows.laid_patchbay_lower_ops:DataW Unit)with
 |.iface _ (.map D)=>D
 |_=>[]
theorem acj:(Rows.laid_patchbay_lower_ops:DataW Unit)=.iface "func table" (.map BI):=by kernel_rfl
def uJ:List (List UInt8×FuncId):=[([40,42,112,97,116,99,104,98,97,121,47,108,111,119,101,114,46,98,117,105,108,100,101,114,41,46,110,111,110,101],vz),
 ([40,42,112,97,116,99,104,98,97,121,47,108,111,119,101,114,46,98,117,105,108,100,101,114,41,46,97,108,108],sY),
 ([40,42,112,97,116,99,104,98,97,121,47,108,111,119,101,114,46,98,117,105,108,100,101,114,41,46,111,110,101],sX),
 ([40,42,112,97,116,99,104,98,97,121,47,108,111,119,101,114,46,98,117,105,108,100,101,114,41,46,111,100,100],sW)]
def xj(t:List UInt8):FuncId:=((uJ.find? fun p=>p.1==t).map (·.2)).getD 0
def BE:List (AV×AV):=(List.range 10).map fun(n:Nat)=>(.int .i64 (n:Int),Hi (pw (n:Int)) ((n%2:Nat):Int))
theorem acX:((DataW.funcsOutEntries BI).map fun d=>(iV d.1,nI xj d.2))=BE:=by kernel_rfl
theorem aed:Tryz.prog.globalNamed "patchbay/lower.ops" =some 0:=by kernel_rfl
theorem ae6:(Tryz.prog.globals[0]?).map (·.type)=some 111:=by kernel_rfl
theorem afl:Tryz.prog.underlying 111=some (.map 30 109):=by kernel_rfl
def Ow:DataW (List UInt8)->Bool
 |.agg [.held t,.lit (.int .i64 _)]=>uJ.any fun p=>p.1==t
 |_=>false
theorem YQ:((DataW.funcsOutEntries BI).all fun d=>Ow d.2)=true:=by kernel_rfl
theorem aau:((List.range Tryz.prog.funcs.size).all fun f=>match Tryz.prog.funcs[f]? with
 |some fn=>!(uJ.any fun p=>p.1==fn.name.toUTF8.data.toList)||xj fn.name.toUTF8.data.toList==f
 |none=>true)=true:=by kernel_rfl
theorem aeb:∃fs,Tryz.prog.underlying 109=some (.struct fs)/\fs.toList.map (fun f=>(f.type,f.offset))=[(107,0),(3,1)]:=⟨_,Tryz.underlying109,by kernel_rfl⟩
theorem ab6{t:List UInt8}(h:(uJ.any fun p=>p.1==t)=true)(f:FuncId)(fn:Func)(hf:Tryz.prog.funcs[f]? =some fn)(hn:fn.name.toUTF8.data.toList=t):xj t=f:=by
 have hs:f<Tryz.prog.funcs.size:=by
  refine vl fun hc=>?_
  rw[nf (Nat.le_of_not_lt hc)]at hf
  cases hf
 have h1:=dE.1 aau f (eu.2 hs);generalize Tryz.prog.funcs[f]? =o at hf h1;subst hf;have h2:(!(uJ.any fun p=>p.1==fn.name.toUTF8.data.toList)||xj fn.name.toUTF8.data.toList==f)=true:=h1;rw[hn,h]at h2;simpa using h2
theorem aaT{W:World}(h:laidMetH Tryz.prog Rows.lowerOnceRow.laid W):∃Γ:Nat->Option AV,(jB Γ/\uF Γ)/\∀n a,Γ n=some a->aK 0 a.cells=true/\∃vs,VL (gw W) [] a.cells vs/\∀j(hj:j<vs.length),W.cell? ⟨n,j,none⟩=some vs[j]:=by
 obtain⟨ks,us,h1,h2,z,hz,hm⟩:=ZS (XR h) (by kernel_rfl) (name:= "patchbay/net.ins") (D:=GU) (by
  rw[<-abZ]
  refine dP.2 ⟨ec _ (pN ..),by kernel_rfl⟩) aef afg ae4
  (fun v q hq=>by obtain⟨a,b,_⟩:=NM Sd (g:=gw W) (h:=[]) hq;exact⟨a,b⟩) (fun n v x hf ht=>aaz u74 u3 (by kernel_rfl) (by kernel_rfl) hf ht)
 obtain⟨fs,hfs,hfs2⟩:=aeb
 obtain⟨ks2,us2,h12,h22,z2,hz2,hm2⟩:=Za h (name:= "patchbay/lower.ops") (en:=BI) (by
  rw[<-acj]
  exact ec _ (ec _ (pN ..))) xj aed ae6 afl
  (fun v q hq=>by obtain⟨a,b,_⟩:=NM Sd (g:=gw W) (h:=[]) hq;exact⟨a,b⟩) (fun n v x hx hf ht=>by
   obtain⟨d,hd,he⟩:=hx;have h4:=dE.1 YQ d hd;rw[he]at h4
   obtain⟨t0,k0,hxe,hk0⟩:∃t0 k0,x.1=.agg [.held t0,.lit (.int .i64 k0)]/\(uJ.any fun p=>p.1==t0)=true:=by
    unfold Ow at h4
    split at h4
    ·rename_i t0 k0 hxe;exact⟨t0,k0,hxe,h4⟩
    ·cases h4
   refine aa8 hfs hfs2 (by kernel_rfl) u3 (by kernel_rfl) (by kernel_rfl) (by kernel_rfl) hxe ?_ (ab6 hk0) hf ht
   rintro rfl
   exact absurd hk0 (by decide))
 have hcase:∀n m:Int,(b_ (.sc .int) (.int .i64 n) (.int .i64 m)=some true/\AV.int .i64 n=.int .i64 m)\/(b_ (.sc .int) (.int .i64 n) (.int .i64 m)=some false/\AV.int .i64 n≠.int .i64 m):=by
  intro n m
  by_cases hnm:n=m
  ·exact .inl ⟨by simp[b_,eI,hnm],by rw[hnm]⟩
  ·exact .inr ⟨by simp[b_,eI,hnm],by simp[hnm]⟩
 refine⟨fun n=>if n=1 then some (.db ks us)else if n=0 then some (.db ks2 us2)else none,⟨⟨ks,us,rfl,fun n=>?_⟩,⟨ks2,us2,rfl,fun n=>?_⟩⟩,fun n a hn=>?_⟩
 ·rw[hz];rw[abU]at hm
  obtain⟨r,e1,e2,e3⟩:=D1 (.sc .int) (.int .i64 n) z (by
   intro y hy;have hy2:=(hm y).1 hy;simp only[xh,bt,pO,pG]at hy2
   rcases hy2 with rfl|rfl|rfl|rfl|rfl|rfl|rfl|rfl|rfl|rfl|rfl<;>exact hcase _ _)
  rw[e1];unfold GH
  cases r with
  |some v=>
   have hv:=(hm _).1 (e3 v rfl);simp only[xh,bt,pO,pG,bL,AV.int.injEq,u_]at hv
   rcases hv with⟨rfl,rfl⟩|⟨rfl,rfl⟩|⟨rfl,rfl⟩|⟨rfl,rfl⟩|⟨rfl,rfl⟩|⟨rfl,rfl⟩|⟨rfl,rfl⟩|⟨rfl,rfl⟩|⟨rfl,rfl⟩|⟨rfl,rfl⟩|⟨rfl,rfl⟩<;>rfl
  |none=>
   have hno:∀y∈xh,¬(AV.int .i64 n=y.1):=fun y hy=>e2 rfl y ((hm y).2 hy)
   simp only[xh,bt,pO,pG,Ji,forall_eq,AV.int.injEq,u_]at hno;rw[if_neg (by omega),if_neg (by omega),if_neg (by omega),if_neg (by omega)]
 ·rw[hz2];rw[acX]at hm2
  obtain⟨r,e1,e2,e3⟩:=D1 (.sc .int) (.int .i64 n) z2 (by
   intro y hy;have hy2:=(hm2 y).1 hy;simp only[BE,cC]at hy2;obtain⟨k,_,rfl⟩:=hy2
   exact hcase _ _)
  rw[e1];unfold BM
  cases r with
  |some v=>
   have hv:=(hm2 _).1 (e3 v rfl);simp only[BE,cC,eu,bL,AV.int.injEq,u_]at hv;obtain⟨k,hk,rfl,rfl⟩:=hv;rw[if_pos (by omega)];simp
  |none=>
   have hno:∀y∈BE,¬(AV.int .i64 n=y.1):=fun y hy=>e2 rfl y ((hm2 y).2 hy)
   rw[if_neg]
   rintro⟨h0,h9⟩
   obtain⟨k,rfl⟩:=k6 h0;exact hno (.int .i64 k,Hi (pw k) ((k%2:Nat):Int)) (cC.2 ⟨k,eu.2 (by omega),rfl⟩) rfl
 ·simp only at hn
  split at hn
  ·rename_i h0
   cases hn
   subst h0;exact⟨h1,h2⟩
  ·split at hn
   ·rename_i h0
    cases hn
    subst h0;exact⟨h12,h22⟩
   ·cases hn
noncomputable def Gg(os:Os):World:=
 {World.doorLaid Tryz.prog 4000 os with heap:=((World.doorLaid Tryz.prog 4000 os).heap.toList.zipIdx.map fun x=>if x.2=ad8 then(match x.1 with
  |.cells _ t q=>.cells (Go.Pinned.utf8FirstZ.map fun n:Nat=>Value.int .u8 (n:Int)).toArray t q
  |o=>o)else x.1).toArray}
theorem Z2(os:Os)(args:Array Value):laidMetH Tryz.prog Rows.lowerOnceRow.laid ((Gg os).forCall (fun _ _=>0) ⟨#[],args,[]⟩).memory:=
 laidMetH_of_parts3 (fuel:=8) (laidMet_of_run' 8 (by kernel_rfl) (by kernel_rfl)) (by kernel_rfl) (by kernel_rfl)
abbrev shI:Sh:=.int .i64
abbrev xt:Sh:=.list 1 false .str
abbrev Pn:Sh:=.parts [.str,.str,.int .i64]
abbrev Pl:Sh:=.parts [.str,.int .i64,xt,xt,.bool]
abbrev Pm:Sh:=.parts [xt,xt,.list 3 true Pn,.list 5 true Pl]
theorem aej{B:Nat}{cs:List AV}(h:eA B shI cs):∃n:Int,cs=[.int .i64 n]:=by
 simp only[eA]at h;obtain⟨n,rfl,h1,h2⟩:=h;exact⟨n,rfl⟩
theorem aca{B:Nat}{cs:List AV}(h:eA B .str cs):∃s:List UInt8,cs=[.str s]/\s.length<=B:=by
 simp only[eA]at h;exact h
theorem AB{B:Nat}{cs:List AV}(h:eA B xt cs):∃l:List (List UInt8),cs=[.list false 1 (l.map .str)]/\l.length<=B/\∀s∈l,s.length<=B:=by
 simp only[eA]at h;obtain⟨xs,rfl,h0,h1⟩:=h
 obtain⟨l,hl,hn⟩:=A7 (f:=mr false) (e:=fun s:{s:List UInt8//s.length<=B}=>AV.str s.val) (fun x hx=>by
  obtain⟨⟨n,rfl,hb⟩,_⟩:=h1 x hx
  exact⟨⟨n,hb⟩,rfl⟩)
 refine⟨l.map (·.val),by rw[hl,ij];rfl,by rw[il];omega,fun s hs=>?_⟩;obtain⟨x,_,rfl⟩:=cC.1 hs;exact x.property
def HI(B:Nat)(q:Lt):Prop:=q.name.length<=B/\q.next.length<=B
def Hm(B:Nat)(g:Gt):Prop:=g.name.length<=B/\g.ins.length<=B/\g.rows.length<=B/\(∀s∈g.ins,s.length<=B)/\∀s∈g.rows,s.length<=B
def xL(B:Nat)(c:Ct):Prop:=c.aB.length<=B/\c.aW.length<=B/\c.ak.length<=B/\c.af.length<=B/\(∀g∈c.af,Hm B g)/\(∀s∈c.aB,s.length<=B)/\(∀s∈c.aW,s.length<=B)/\∀q∈c.ak,HI B q
theorem xL.Cb{B:Nat}{c:Ct}(h:xL B c)(hB:B<2^40):jb c:=by
 obtain⟨h1,h2,h3,h4,h5,h6,h7,h8⟩:=h;refine⟨by omega,by omega,by omega,by omega,fun g hg=>?_,fun s hs=>?_,fun s hs=>?_,fun q hq=>?_⟩
 ·obtain⟨a,b,d,e,f⟩:=h5 g hg;exact⟨by omega,by omega,by omega,fun s hs=>by have:=e s hs;omega,fun s hs=>by have:=f s hs;omega⟩
 ·have:=h6 s hs;omega
 ·have:=h7 s hs;omega
 ·obtain⟨a,b⟩:=h8 q hq;exact⟨by omega,by omega⟩
theorem dec_lt{B:Nat}{cs:List AV}(h:eA B Pn cs):∃q:Lt,AV.agg cs=pC q/\HI B q:=by
 simp only[eA,qv]at h;obtain⟨_,_,rfl,⟨a,rfl,ha⟩,_,_,rfl,⟨b,rfl,hb⟩,_,_,rfl,⟨m,rfl,_⟩,rfl⟩:=h;exact⟨⟨a,b,m⟩,rfl,ha,hb⟩
theorem ac9{B:Nat}{cs:List AV}(h:eA B Pl cs):∃g:Gt,AV.agg cs=dg g/\Hm B g:=by
 rw[eA]at h;simp only[qv]at h;obtain⟨_,_,rfl,h1,_,_,rfl,h2,_,_,rfl,h3,_,_,rfl,h4,_,_,rfl,h5,rfl⟩:=h;obtain⟨n,rfl,hn⟩:=aca h1;obtain⟨op,rfl⟩:=aej h2;obtain⟨i,rfl,hi,hi2⟩:=AB h3;obtain⟨r,rfl,hr,hr2⟩:=AB h4;simp only[eA]at h5;obtain⟨b,rfl⟩:=h5;exact⟨⟨n,op,i,r,b,1,1,.self,.self⟩,rfl,hn,hi,hr,hi2,hr2⟩
theorem adD{B:Nat}{cs:List AV}(h:eA B Pm cs):∃c:Ct,AV.agg cs=bX c/\xL B c:=by
 rw[eA]at h;simp only[qv]at h;obtain⟨_,_,rfl,h1,_,_,rfl,h2,_,_,rfl,h3,_,_,rfl,h4,rfl⟩:=h;obtain⟨i,rfl,hi,hi2⟩:=AB h1;obtain⟨o,rfl,ho,ho2⟩:=AB h2;rw[eA]at h3 h4;obtain⟨xs,rfl,hxs,h3⟩:=h3;obtain⟨ys,rfl,hys,h4⟩:=h4
 obtain⟨l,hl,hn⟩:=A7 (f:=mr true) (e:=fun q:{q:Lt//HI B q}=>pC q.val) (fun x hx=>by
  obtain⟨t,ht,hb⟩:=dec_lt (h3 x hx).1
  exact⟨⟨t,hb⟩,ht⟩)
 obtain⟨g,hg,hm⟩:=A7 (f:=mr true) (e:=fun q:{q:Gt//Hm B q}=>dg q.val) (fun x hx=>by
  obtain⟨t,ht,hb⟩:=ac9 (h4 x hx).1
  exact⟨⟨t,hb⟩,ht⟩)
 refine⟨⟨i,o,l.map (·.val),g.map (·.val),1,1,3,5,.self,.self,.self,.self⟩,by rw[hl,hg];simp[bX,ij,x_],hi,ho,by rw[il];omega,by rw[il];omega,fun x hx=>?_,hi2,ho2,fun x hx=>?_⟩
 ·obtain⟨y,_,rfl⟩:=cC.1 hx;exact y.property
 ·obtain⟨y,_,rfl⟩:=cC.1 hx;exact y.property
end Go.Proofs.YtihmomicdpkabaaGreatDoor
namespace Go.Proofs.YtihmomicdpkabaaGreatDoor
open Go.AM Go.Proofs
variable{Γ:Nat->Option AV}
def jt(c:Ct)(out:List Nat):List (Bs×Nat):=(bZ c).filter fun x=>!out.contains x.2
theorem Ge{c:Ct}{x:Bs×Nat}(hx:x∈bZ c):∃h:x.2<c.af.length,x.1=c.af[x.2].name:=by
 obtain⟨j,hj,rfl⟩:=k8 hx;rw[tZ]at hj;rw[wM c j hj];exact⟨hj,rfl⟩
theorem Ao{c:Ct}(hd:(c.af.map (·.name)).Nodup){i j:Nat}(hi:i<c.af.length)(hj:j<c.af.length)(h:c.af[i].name=c.af[j].name):i=j:=by
 have h1:(c.af.map (·.name))[i]'(by simpa using hi)=(c.af.map (·.name))[j]'(by simpa using hj):=by simpa using h
 exact(C8 hd).1 h1
theorem Y_{c:Ct}(hd:(c.af.map (·.name)).Nodup)(out:List Nat){a:Nat}(ha:a<c.af.length):nT c.af[a].name (jt c out)=jt c (out++[a]):=by
 unfold nT jt;rw[List.filter_filter];apply List.filter_congr;intro x hx;obtain⟨h1,h2⟩:=Ge hx;have e:(x.1=c.af[a].name)↔x.2=a:=⟨fun h=>Ao hd h1 ha (by rw[<-h2,h]),fun h=>by rw[h2];simp[h]⟩;rw[eZ];simp only[av,a_,jl,xW,iO,bl,dC,not_or,e];exact⟨fun h=>⟨h.2,h.1⟩,fun h=>⟨h.2,h.1⟩⟩
theorem Wu{c:Ct}(hd:(c.af.map (·.name)).Nodup)(out:List Nat):((jt c out).map (·.1)).Nodup:=by
 have h1:((bZ c).map (·.1)).Nodup:=by rw[Z6];exact hd
 exact h1.sublist ((List.filter_sublist).map _)
theorem K7(c:Ct):jt c []=bZ c:=by simp[jt]
theorem KZ{c:Ct}(hd:(c.af.map (·.name)).Nodup)(out:List Nat){i:Nat}(hi:i<c.af.length):getM c.af[i].name (jt c out)=if i∈out then none else some i:=by
 have key:∀l:List (Bs×Nat),(∀x∈l,x∈bZ c)->getM c.af[i].name (l.filter fun x=>!out.contains x.2)=if i∈out then none else if(c.af[i].name,i)∈l then some i else none:=by
  intro l
  induction l with
  |nil=>intro _;simp[getM]
  |cons x l ih=>
   intro hl;obtain⟨h1,h2⟩:=Ge (hl x (by simp))
   have ih:=ih fun y hy=>hl y (by simp[hy])
   by_cases hx:x.2=i
   ·have hx1:x=(c.af[i].name,i):=by
     obtain⟨a,b⟩:=x;simp only at hx h2;subst hx;rw[h2]
    by_cases ho:i∈out
    ·rw[xZ,if_neg (by rw[hx1];simpa using ho),ih,if_pos ho,if_pos ho]
    ·rw[xZ,if_pos (by rw[hx1];simpa using ho),if_neg ho,hx1];simp[getM]
   ·have hne:¬c.af[i].name=x.1:=fun h=>hx (Ao hd h1 hi (by rw[<-h2,h])).symm.symm
    have hm:((c.af[i].name,i)∈x::l)↔(c.af[i].name,i)∈l:=by
     rw[bt];exact⟨fun h=>h.resolve_left fun h=>hx (by rw[<-h]),.inr⟩
    rw[xZ]
    split
    ·rw[getM,if_neg hne,ih];simp only[hm]
    ·rw[ih];simp only[hm]
 have hm:(c.af[i].name,i)∈bZ c:=by
  have:=bC (l:=bZ c) (n:=i) (by rw[tZ];exact hi);rwa[wM c i hi]at this
 rw[jt,key _ fun x hx=>hx,if_pos hm]
abbrev lpS:Ob:=.loop .ready .none mH [U,.ptr 0 0,.sl 1 0 0,.sl 2 0 0,.ptr 3 0,.ptr 7 0,U,U,U,U,U,U,U,U,U,U,U,U,U,U,U,U,U,U,U,U,U,U,U,U,U,U,U,U,U,U,U,U,U,U,U,U,U,U,U,U,U,U,U,U,U,U,U,U] [19] (.ae HW) HK
abbrev lpE:Ob:=.loop .exhausted .none mH [U,.ptr 0 0,.sl 1 0 0,.sl 2 0 0,.ptr 3 0,.ptr 7 0,U,U,U,U,U,U,U,U,U,U,U,U,U,U,U,U,U,U,U,U,U,U,U,U,U,U,U,U,U,U,U,U,U,U,U,U,U,U,U,U,U,U,U,U,U,U,U,U] [19] (.ae HW) HK
abbrev hS(c:Ct)(out:List Nat):List Ob:=[.cells (AV.cells (bX c)),.row 1 an [] none true false,.row 1 aE [] none true false,.cells [.sl 4 0 out.length],.row 1 an (out.map iN) none true false,.cells (AV.cells (bX c)),.map ((jt c out).map gT) true,.cells [.mp 6],.cells (AV.cells (bX c)),.bx true,lpS]
set_option maxRecDepth 8000 in
theorem adJ(c:Ct)(hd:(c.af.map (·.name)).Nodup)(out:List Nat)(a:Nat)(T:List Ob)(up:List Fr)(ho:out.length<2^20)(ha:a<c.af.length)(hup:∀m,up.all (gz 4 m)=true)(hT:∀m,cH 4 m T=true):
 AM.Reach Tryz.prog Γ ((jf.yl 10).cfg [.int .i64 a] up (hS c out++T)) (.back up (.bool true) (hS c (out++[a])++T)):=by
 have q2:=cv (c.hG.of ha);have hdl:=Le (E:=.sc .str) (e:=AV.str) qf (fun n:Nat=>AV.int .i64 n) c.af[a].name (Wu hd out);rw[Y_ hd out ha]at hdl
 have hle:(out.length+1)*8<=140737488355328:=by omega
 have hvp:=fun m=>oU 4 m (jt c out)
 simp[jf.cfg];refine .bf 13 ?_;simp(disch:=omega) [hle];refine .trans (.m9 [19,20,21,22,23] _) ?_;simp[m7];refine .F5 (i:=4) rfl (by simp) (hup _) (by simp[hT,hvp]) ?_;refine .bf 60 ?_;simp[q2,ha,hdl,isKey,cf,cP]
theorem acN(c:Ct)(out:List Nat):cO (hS c out):=fun m hm=>by
 have h1:=nG m (jt c out);simp at hm
 simp[h1];omega
theorem acf(c:Ct)(out:List Nat):fX (hS c out):=fun i m hi=>by
 have h1:=oU i m (jt c out);simp at hi
 simp[h1];omega
def lr(out:List Nat):List Gt->Nat->List Bs
 |[],_=>[]
 |g::r,i=>if i∈out then lr out r (i+1)else g.name::lr out r (i+1)
set_option maxRecDepth 8000 in
theorem abt(c:Ct)(hc:cj c)(hd:(c.af.map (·.name)).Nodup)(out:List Nat):∀n i:Nat,i+n=c.af.length->∀l:List Bs,l.length<=i->
 ay Tryz.prog Γ (yhr (.ptr 3 0) (.ptr 7 0) (.sl 11 0 l.length) (.list false c.kG (c.af.map dg)) (.int .i64 c.af.length) (.int .i64 i)
  [.cells (AV.cells (bX c)),.row 1 an [] none true false,.row 1 aE [] none true false,.cells [.sl 4 0 out.length],.row 1 an (out.map iN) none true false,.cells (AV.cells (bX c)),.map ((jt c out).map gT) true,.cells [.mp 6],.cells (AV.cells (bX c)),.bx true,lpE,.row 1 aE (l.map .str) none true false] ⟨[.mark 9],.norm,0,[]⟩)
  (.ret (.aH [.own 1 an (out.map iN),.own 1 aE ((l++lr out (c.af.drop i) i).map .str)])):=by
 have hN:=hc.2.2.2.1
 have hbp:=fun m=>nG m (jt c out)
 have hvp:=fun i m=>oU i m (jt c out)
 intro n
 induction n with
 |zero=>
  intro i hi l hl
  have q1:¬i<c.af.length:=by omega
  rw[bw (by omega),lr,fZ];refine .go 60 ?_;simp[q1];exact .back (by simp)
 |succ n ih=>
  intro i hi l hl
  have q1:i<c.af.length:=by omega
  have q2:=cv (c.hG.of q1);have hfi:=zS (E:=.sc .str) (e:=AV.str) qf (fun n:Nat=>AV.int .i64 n) c.af[i].name (jt c out);rw[KZ hd out q1]at hfi;rw[bM q1,lr]
  by_cases h0:i∈out
  ·have hh:=ih (i+1) (by omega) l (by omega);rw[if_pos h0]at hfi⊢;refine .go 90 ?_;simp(disch:=omega) [q1,q2,hfi,isKey,cf,cP];refine .aL ?_;simp;refine .drop 12 rfl (by simp) (by simp) (by simp[hbp]) ?_;simp at hh⊢;exact hh
  ·have hh:=ih (i+1) (by omega) (l++[c.af[i].name]) (by simp;omega)
   have hle:((l.length:Int)+1)*16<=140737488355328:=by omega
   rw[if_neg h0]at hfi⊢;refine .go 90 ?_;simp(disch:=omega) [q1,q2,hfi,isKey,cf,cP,hle];refine .aL ?_;simp;refine .drop 12 rfl (by simp) (by simp) (by simp[hbp]) ?_;refine .reset (i:=11) rfl (by simp) (by simp) (by simp[hvp]) ?_;simp at hh⊢;exact hh
set_option maxRecDepth 8000 in
theorem adB(hΓ:jB Γ)(c:Ct)(hb:jb c)(hr:kv c=true)(f:Nat)(hf:f<=2^14)(hE:GS c f)(hl:(nO c f).length<2^20):aP Tryz.prog Γ mH [bX c] (.aH [.own 1 an ((nO c f).map iN),.own 1 aE ((lr (nO c f) c.af 0).map .str)]):=by
 have hc:=rE hb hr;have hd:=ry hr;have hR:=Ns hΓ c hb;rw[hr]at hR
 have hpl:=fun h hw up=>MD (Γ:=Γ) c hc (ry hr) (h:=h) hw up
 have hfold:∀(l out:List Nat),l.foldl (fun x a=>x++[a]) out=out++l:=by
  intro l
  induction l with
  |nil=>intro out;simp
  |cons a l ih=>intro out;rw[u9,ih];simp
 have hcm:=fun up hup=>Zv (Γ:=Γ) c hc hd (hS c) (fun x a=>x++[a]) 11 10 4 8 (fun _=>rfl) (acN c) (acf c) (by omega) (by omega) (fun _=>rfl) (fun x k=>x.length=k) (fun x k a h _=>by simp[h]) (fun x k a T up h hk ha hup hT=>adJ c hd x a T up (by omega) ha hup hT) up hup [] rfl f hf hE
 rw[hfold,kY]at hcm;have h1:=abt (Γ:=Γ) c hc hd (nO c f) c.af.length 0 (by omega) [] (by simp);refine .run 60 JU (by simp) ?_;simp;refine .call 60 (by simp) hR ?_;simp;refine .bd 60 (hpl _ ?_) ?_
 ·intro m hm;simp at hm
  simp;omega
 simp;refine .go 60 ?_;simp;refine .enter 60 U4 ?_;simp;rw[<-K7 c];refine .reach (hcm _ ?_) (.go 60 ?_)
 ·simp
 simp;refine .inLoop ?_;simp at h1⊢;exact h1
theorem abF(hΓ:jB Γ)(c:Ct)(hb:jb c)(hr:kv c=false):aP Tryz.prog Γ mH [bX c] (.aH [.own 1 an [],.own 1 aE []]):=by
 have hR:=Ns hΓ c hb;rw[hr]at hR;refine .run 60 JU (by simp) ?_;simp;refine .call 60 (by simp) hR ?_;simp;exact .back (by simp)
end Go.Proofs.YtihmomicdpkabaaGreatDoor
namespace Go.Proofs.YtihmomicdpkabaaGreatDoor
open Go.AM Go.Proofs
def eN(c:Ct)(i j:Nat):Bool:=match c.af[i]?,c.af[j]? with
 |some g,some h=>g.ins.contains h.name
 |_,_=>false
theorem rS{c:Ct}{i j:Nat}(h:eN c i j=true):i<c.af.length/\j<c.af.length:=by
 unfold eN at h
 split at h
 ·rename_i g h' h1 h2;exact⟨(dD.1 h1).1,(dD.1 h2).1⟩
 ·cases h
theorem wQ{c:Ct}{i j:Nat}(hi:i<c.af.length)(hj:j<c.af.length):eN c i j=true↔c.af[j].name∈c.af[i].ins:=by
 simp[eN,hi,hj]
theorem Nj{K V:Type}[DecidableEq K]{k:K}{v:V}:∀{l:List (K×V)},getM k l=some v->(k,v)∈l
 |[],h=>by cases h
 |(a,u)::l,h=>by
  rw[getM]at h
  split at h
  ·rename_i h1;cases h;subst h1;simp
  ·exact ec _ (Nj h)
theorem OK{c:Ct}(hd:(c.af.map (·.name)).Nodup){s:Bs}{k:Nat}:getM s (bZ c)=some k↔∃h:k<c.af.length,c.af[k].name=s:=by
 constructor
 ·intro h;obtain⟨h1,h2⟩:=Ge (Nj h);exact⟨h1,h2.symm⟩
 ·rintro⟨h,rfl⟩
  have:=KZ hd [] h;rw[K7]at this;simpa using this
theorem zT(pl:List (Bs×Nat))(x:Nat):∀(l:List Bs)(a:List Nat),x∈eJ pl l a↔x∈a\/∃s∈l,getM s pl=some x
 |[],a=>by simp[eJ]
 |s::r,a=>by
  rw[eJ]
  split
  ·rename_i h0;rw[zT pl x r a];simp[h0]
  ·rename_i k h0;rw[zT pl x r]
   have hk:(x∈if k∈a then a else a++[k])↔x∈a\/x=k:=by
    split
    ·rename_i hm;exact⟨.inl,fun h=>h.elim id fun h=>h▸hm⟩
    ·simp
   rw[hk];simp only[bt,exists_eq_or_imp,h0,aj];constructor
   ·rintro((h|h)|h)
    ·exact .inl h
    ·exact .inr (.inl h.symm)
    ·exact .inr (.inr h)
   ·rintro(h|h|h)
    ·exact .inl (.inl h)
    ·exact .inl (.inr h.symm)
    ·exact .inr h
theorem Ag(pl:List (Bs×Nat)):∀(l:List Gt)(i:Nat)(nd b:List (List Nat)),(ff pl l i nd b).1=nd++l.map fun g=>eJ pl g.ins []
 |[],_,_,_=>by simp[ff]
 |g::r,i,nd,b=>by rw[ff,Ag pl r];simp
theorem v_{c:Ct}(hd:(c.af.map (·.name)).Nodup){i:Nat}(hi:i<c.af.length)(x:Nat):x∈(dQ c).getD i []↔eN c i x=true:=by
 have e:(dQ c).getD i []=eJ (bZ c) c.af[i].ins []:=by
  rw[dQ,Ag];simp[hi]
 rw[e,zT];constructor
 ·rintro(h|⟨s,hs,h⟩)
  ·cases h
  ·obtain⟨h1,h2⟩:=(OK hd).1 h;exact(wQ hi h1).2 (h2▸hs)
 ·intro h;obtain⟨_,h1⟩:=rS h;exact .inr ⟨_,(wQ hi h1).1 h,(OK hd).2 ⟨h1,rfl⟩⟩
theorem A5(pl:List (Bs×Nat))(i k:Nat):∀(l:List Bs)(a:List Nat)(b:List (List Nat)),k<b.length->(je pl i l a b).getD k []=if k∈eJ pl l a/\k∉a then b.getD k []++[i]else b.getD k []
 |[],a,b,hk=>by
  rw[je,eJ,if_neg (fun h=>h.2 h.1)]
 |s::r,a,b,hk=>by
  rw[je,eJ]
  split
  ·exact A5 pl i k r a b hk
  ·rename_i k0 h0
   by_cases hm:k0∈a
   ·simp only[if_pos hm];exact A5 pl i k r a b hk
   ·simp only[if_neg hm];rw[A5 pl i k r _ _ (by simpa using hk)]
    have hset:(b.set k0 (b.getD k0 []++[i])).getD k []=if k0=k then b.getD k []++[i]else b.getD k []:=by
     simp only[bo,nj]
     by_cases h1:k0=k
     ·subst h1;simp[hk]
     ·simp[h1]
    rw[hset]
    by_cases h1:k0=k
    ·subst h1;have hin:k0∈eJ pl r (a++[k0]):=(zT pl k0 r _).2 (.inl (by simp));rw[if_neg (by simp),if_pos rfl,if_pos ⟨hin,hm⟩]
    ·have hiff:(k∈eJ pl r (a++[k0])/\k∉a++[k0])↔(k∈eJ pl r (a++[k0])/\k∉a):=by
      simp only[bl,dC,not_or];exact⟨fun h=>⟨h.1,h.2.1⟩,fun h=>⟨h.1,h.2,fun h2=>h1 h2.symm⟩⟩
     rw[if_neg h1];simp only[hiff]
def mA(pl:List (Bs×Nat))(k:Nat):List Gt->Nat->List Nat
 |[],_=>[]
 |g::r,i=>if k∈eJ pl g.ins []then i::mA pl k r (i+1)else mA pl k r (i+1)
theorem Lg(pl:List (Bs×Nat))(k:Nat):∀(l:List Gt)(i:Nat)(nd b:List (List Nat)),k<b.length->(ff pl l i nd b).2.getD k []=b.getD k []++mA pl k l i
 |[],_,_,_,_=>by simp[ff,mA]
 |g::r,i,nd,b,hk=>by
  rw[ff,Lg pl k r _ _ _ (by rw[wG];exact hk),A5 pl i k g.ins [] b hk,mA]
  split
  ·rename_i h
   rw[if_pos h.1];simp
  ·rename_i h;rw[if_neg fun h1=>h ⟨h1,by simp⟩]
theorem F3(pl:List (Bs×Nat))(k j:Nat):∀(l:List Gt)(i:Nat),j∈mA pl k l i↔∃t,∃h:t<l.length,j=i+t/\k∈eJ pl l[t].ins []
 |[],i=>by simp[mA]
 |g::r,i=>by
  have ih:=F3 pl k j r (i+1)
  have hs:(∃t,∃h:t<(g::r).length,j=i+t/\k∈eJ pl (g::r)[t].ins [])↔(j=i/\k∈eJ pl g.ins [])\/∃t,∃h:t<r.length,j=i+1+t/\k∈eJ pl r[t].ins []:=by
   constructor
   ·rintro⟨t,h,e,hm⟩
    cases t with
    |zero=>exact .inl ⟨e,hm⟩
    |succ t=>exact .inr ⟨t,by simpa using h,by omega,hm⟩
   ·rintro(⟨e,hm⟩|⟨t,h,e,hm⟩)
    ·exact⟨0,by simp,e,hm⟩
    ·exact⟨t+1,by simpa using h,by omega,hm⟩
  rw[hs,mA]
  split
  ·rename_i h0;simp only[bt,ih,h0,oe]
  ·rename_i h0;simp only[ih,h0,and_false,false_or]
theorem EG(pl:List (Bs×Nat))(k:Nat):∀(l:List Gt)(i:Nat),(mA pl k l i).Nodup
 |[],i=>by simp[mA]
 |g::r,i=>by
  rw[mA]
  split
  ·rw[k7];refine⟨fun h=>?_,EG pl k r (i+1)⟩;obtain⟨t,_,e,_⟩:=(F3 pl k i r (i+1)).1 h;omega
  ·exact EG pl k r (i+1)
theorem Np(c:Ct){k:Nat}(hk:k<c.af.length):(bD c).getD k []=mA (bZ c) k c.af 0:=by
 rw[bD,Lg _ _ _ _ _ _ (by simpa using hk)];simp[hk]
theorem tP{c:Ct}(hd:(c.af.map (·.name)).Nodup){k:Nat}(hk:k<c.af.length)(i:Nat):i∈(bD c).getD k []↔eN c i k=true:=by
 rw[Np c hk,F3];constructor
 ·rintro⟨t,ht,e,hm⟩
  have:i=t:=by omega
  subst this;rw[<-v_ hd ht,dQ,Ag];simpa[ht]using hm
 ·intro h;obtain⟨hi,_⟩:=rS h;refine⟨i,hi,by omega,?_⟩;rw[<-v_ hd hi,dQ,Ag]at h;simpa[hi]using h
theorem Ko(c:Ct){k:Nat}(hk:k<c.af.length):((bD c).getD k []).Nodup:=by rw[Np c hk];exact EG _ _ _ _
def iY(c:Ct)(done:List Nat)(k:Nat):Bool:=!done.contains k&&(List.range c.af.length).all fun x=>!eN c k x||done.contains x
theorem jn{c:Ct}{done:List Nat}{k:Nat}:iY c done k=true↔k∉done/\∀x,eN c k x=true->x∈done:=by
 simp only[iY,av,jl,xW,iO,dE,eu,eY,a_];constructor
 ·rintro⟨h1,h2⟩
  refine⟨h1,fun x hx=>?_⟩
  rcases h2 x (rS hx).2 with h|h
  ·rw[h]at hx;cases hx
  ·exact h
 ·rintro⟨h1,h2⟩
  refine⟨h1,fun x _=>?_⟩
  cases hx:eN c k x with
  |false=>exact .inl rfl
  |true=>exact .inr (h2 x hx)
def lx(c:Ct)(done:List Nat):Option Nat:=(List.range c.af.length).find? (iY c done)
def iX(c:Ct):Nat->List Nat->List Nat
 |0,_=>[]
 |f+1,done=>match lx c done with
  |none=>[]
  |some k=>k::iX c f (done++[k])
def aR(c:Ct):List Nat:=iX c c.af.length []
theorem Xe{c:Ct}{done:List Nat}{a:Nat}(ha:a<c.af.length)(h1:iY c done a=true)(h2:∀j<a,iY c done j=false):lx c done=some a:=by
 rw[lx,List.find?_range_eq_some];exact⟨h1,by simpa using ha,fun j hj=>by simp[h2 j hj]⟩
theorem XI{c:Ct}{done:List Nat}(h:∀a<c.af.length,iY c done a=false):lx c done=none:=by
 rw[lx,List.find?_eq_none];intro x hx
 rw[h x (by simpa using hx)];simp
theorem MZ{c:Ct}{done:List Nat}{a:Nat}(h:lx c done=some a):a<c.af.length/\iY c done a=true/\∀j<a,iY c done j=false:=by
 rw[lx,List.find?_range_eq_some]at h;exact⟨by simpa using h.2.1,h.1,fun j hj=>by simpa using h.2.2 j hj⟩
theorem aa0{c:Ct}{done:List Nat}(h:lx c done=none){a:Nat}(ha:a<c.af.length):iY c done a=false:=by
 rw[lx,List.find?_eq_none]at h;simpa using h a (by simpa using ha)
structure Inv(c:Ct)(done:List Nat)(nd:List (List Nat))(l:List Nat):Prop where
 len:nd.length=c.af.length
 RI:∀i<c.af.length,∀x,x∈nd.getD i []↔eN c i x=true/\x∉done
 ls:∀i,i∈l↔i<c.af.length/\iY c done i=true
 xM:l.Nodup
 heap:kx l.length l
 Rs:done.Nodup
 lt:∀x∈done,x<c.af.length
 all:∀i∈done,∀x,eN c i x=true->x∈done
structure sv(c:Ct)(done:List Nat)(a:Nat)(r:List Nat)(nd:List (List Nat))(l:List Nat):Prop where
 len:nd.length=c.af.length
 kS:∀i<c.af.length,i∈r->∀x,x∈nd.getD i []↔eN c i x=true/\x∉done
 new:∀i<c.af.length,i∉r->∀x,x∈nd.getD i []↔eN c i x=true/\x∉done++[a]
 ls:∀i,i∈l↔i<c.af.length/\i∉r/\iY c (done++[a]) i=true
 xM:l.Nodup
 heap:kx l.length l
theorem ZD(a:Nat)(l:List Nat)(x:Nat):x∈dm a l↔x∈l/\x≠a:=by simp[dm]
theorem sv.run{c:Ct}{done:List Nat}{a:Nat}(ha:a∉done)(haa:∀x,eN c a x=true->x∈done)(hall:∀i∈done,∀x,eN c i x=true->x∈done):∀(r:List Nat)(nd:List (List Nat))(l s:List Nat),r.Nodup->(∀i∈r,eN c i a=true)->sv c done a r nd l->
 sv c done a [] (eo a r nd l s).1 (eo a r nd l s).2.1
 |[],nd,l,s,_,_,h=>h
 |i::r,nd,l,s,hr,hW,h=>by
  have hi:=(rS (hW i (by simp))).1;rw[k7]at hr
  have hil:i∉l:=fun hm=>((h.ls i).1 hm).2.1 (by simp)
  have hid:i∉done:=fun hm=>ha (hall i hm a (hW i (by simp)))
  have hia:i≠a:=fun he=>ha (haa a (he▸hW i (by simp)))
  have hg:∀j,(nd.set i (dm a (nd.getD i []))).getD j []=if i=j then dm a (nd.getD i [])else nd.getD j []:=fun j=>by
   simp only[bo,nj]
   by_cases h1:i=j
   ·subst h1;simp[h.len,hi]
   ·simp[h1]
  have hmem:∀x,x∈dm a (nd.getD i [])↔eN c i x=true/\x∉done++[a]:=fun x=>by
   rw[ZD,h.kS i hi (by simp) x];simp only[bl,dC,not_or];exact⟨fun h=>⟨h.1.1,h.1.2,h.2⟩,fun h=>⟨⟨h.1,h.2.1⟩,h.2.2⟩⟩
  have hold:∀j<c.af.length,j∈r->∀x,x∈(nd.set i (dm a (nd.getD i []))).getD j []↔eN c j x=true/\x∉done:=fun j hj hjr x=>by
   have hne:¬i=j:=fun he=>hr.1 (he▸hjr)
   rw[hg,if_neg hne];exact h.kS j hj (by simp[hjr]) x
  have hnew:∀j<c.af.length,j∉r->∀x,x∈(nd.set i (dm a (nd.getD i []))).getD j []↔eN c j x=true/\x∉done++[a]:=fun j hj hjr x=>by
   rw[hg]
   by_cases he:i=j
   ·subst he;rw[if_pos rfl];exact hmem x
   ·rw[if_neg he];exact h.new j hj (by simp only[bt,not_or];exact⟨fun h=>he h.symm,hjr⟩) x
  rw[eo]
  split
  ·rename_i h0;refine sv.run ha haa hall r _ _ _ hr.2 (fun j hj=>hW j (by simp[hj])) ⟨by simpa using h.len,hold,hnew,fun j=>?_,?_,KK h.heap i⟩
   ·rw[(vU l i).mem_iff,bt];constructor
    ·rintro(rfl|hj)
     ·refine⟨hi,hr.1,jn.2 ⟨by simp[hid,hia],fun x hx=>?_⟩⟩
      refine SJ fun hn=>?_
      have:=(hmem x).2 ⟨hx,hn⟩
      rw[h0]at this;cases this
     ·have:=(h.ls j).1 hj;exact⟨this.1,fun h2=>this.2.1 (by simp[h2]),this.2.2⟩
    ·rintro⟨h1,h2,h3⟩
     by_cases he:j=i
     ·exact .inl he
     ·exact .inr ((h.ls j).2 ⟨h1,by simp only[bt,not_or];exact⟨he,h2⟩,h3⟩)
   ·rw[(vU l i).nodup_iff,k7];exact⟨hil,h.xM⟩
  ·rename_i h0;refine sv.run ha haa hall r _ _ _ hr.2 (fun j hj=>hW j (by simp[hj])) ⟨by simpa using h.len,hold,hnew,fun j=>?_,h.xM,h.heap⟩;rw[h.ls j];refine⟨fun⟨h1,h2,h3⟩=>⟨h1,fun h4=>h2 (by simp[h4]),h3⟩,fun⟨h1,h2,h3⟩=>⟨h1,?_,h3⟩⟩;simp only[bt,not_or];refine⟨fun he=>?_,h2⟩;subst he;apply h0;rw[Jk];intro x hx;obtain⟨h5,h6⟩:=(hmem x).1 hx;exact h6 ((jn.1 h3).2 x h5)
theorem Inv.step{c:Ct}(hd:(c.af.map (·.name)).Nodup){done:List Nat}{nd:List (List Nat)}{l:List Nat}(h:Inv c done nd l)(h0:l≠[])(s:List Nat):
 lx c done=some (bq l)/\Inv c (done++[bq l]) (eo (bq l) ((bD c).getD (bq l) []) nd (dx l) s).1 (eo (bq l) ((bD c).getD (bq l) []) nd (dx l) s).2.1:=by
 have hpos:0<l.length:=qU.2 h0;have hhr:=L1 hpos;have hal:bq l∈l:=hhr.mem_iff.1 (by simp);obtain⟨ha,hmay⟩:=(h.ls _).1 hal;obtain⟨had,haa⟩:=jn.1 hmay;have hnod:=hhr.nodup_iff.2 h.xM;rw[k7]at hnod
 have hn:lx c done=some (bq l):=Xe ha hmay fun j hj=>by
  rw[C4];intro hm;have:=aaq h.heap hpos ((h.ls j).2 ⟨by omega,hm⟩);omega
 refine⟨hn,?_⟩
 have hR:sv c done (bq l) ((bD c).getD (bq l) []) nd (dx l):=by
  refine⟨h.len,fun i hi _ x=>h.RI i hi x,fun i hi hir x=>?_,fun i=>?_,hnod.2,XT h.heap hpos⟩
  ·rw[h.RI i hi x];refine⟨fun⟨h1,h2⟩=>⟨h1,?_⟩,fun⟨h1,h2⟩=>⟨h1,fun h3=>h2 (by simp[h3])⟩⟩;simp only[bl,dC,not_or];exact⟨h2,fun he=>hir ((tP hd ha i).2 (he▸h1))⟩
  ·have hil:i∈l↔i=bq l\/i∈dx l:=by rw[<-hhr.mem_iff,bt]
   constructor
   ·intro hi;obtain⟨h1,h2⟩:=(h.ls i).1 (hil.2 (.inr hi));obtain⟨h3,h4⟩:=jn.1 h2;refine⟨h1,fun hb=>?_,jn.2 ⟨?_,fun x hx=>by simp[h4 x hx]⟩⟩
    ·exact had (h4 _ ((tP hd ha i).1 hb))
    ·simp only[bl,dC,not_or];exact⟨h3,fun he=>hnod.1 (he▸hi)⟩
   ·rintro⟨h1,h2,h3⟩
    obtain⟨h4,h5⟩:=jn.1 h3;simp only[bl,dC,not_or]at h4
    have hi:i∈l:=(h.ls i).2 ⟨h1,jn.2 ⟨h4.1,fun x hx=>by
     have:=h5 x hx;simp only[bl,dC]at this
     rcases this with h6|h6
     ·exact h6
     ·exact absurd ((tP hd ha i).2 (h6▸hx)) h2⟩⟩
    exact(hil.1 hi).resolve_left h4.2
 have hE:=sv.run had haa h.all _ _ _ s (Ko c ha) (fun i hi=>(tP hd ha i).1 hi) hR;refine⟨hE.len,fun i hi x=>hE.new i hi (by simp) x,fun i=>by rw[hE.ls i];simp,hE.xM,hE.heap,?_,fun x hx=>?_,fun i hi x hx=>?_⟩
 ·rw[q9];refine⟨h.Rs,by simp,fun x hx y hy=>?_⟩;rw[dC]at hy;subst hy
  exact fun he=>had (he▸hx)
 ·rcases bl.1 hx with h1|h1
  ·exact h.lt x h1
  ·rw[dC]at h1;subst h1;exact ha
 ·rcases bl.1 hi with h1|h1
  ·simp[h.all i h1 x hx]
  ·rw[dC]at h1;subst h1;simp[haa x hx]
theorem Fa:∀(N:Nat)(l:List Nat),l.Nodup->(∀x∈l,x<N)->l.length<=N
 |0,[],_,_=>aU _
 |0,x::l,_,h=>absurd (h x (by simp)) (by omega)
 |N+1,l,hn,h=>by
  have h1:=Fa N (l.erase N) (hn.erase N) fun x hx=>by
   obtain⟨h2,h3⟩:=hn.mem_erase_iff.1 hx
   have:=h x h3;omega
  by_cases hm:N∈l
  ·rw[List.length_erase_of_mem hm]at h1;omega
  ·rw[List.erase_of_not_mem hm]at h1;omega
theorem Inv.come{c:Ct}(hd:(c.af.map (·.name)).Nodup):∀(f:Nat)(done:List Nat)(nd:List (List Nat))(l s:List Nat),Inv c done nd l->o9 (bD c) f nd l s=iX c f done
 |0,_,_,_,_,_=>rfl
 |f+1,done,nd,l,s,h=>by
  rw[o9,iX]
  by_cases h0:l=[]
  ·have hn:lx c done=none:=XI fun a ha=>by
    rw[C4];intro hm;have:=(h.ls a).2 ⟨ha,hm⟩
    rw[h0]at this;cases this
   rw[if_pos h0,hn]
  ·obtain⟨h1,h2⟩:=h.step hd h0 (bq l::s);rw[if_neg h0,h1];simp only;rw[Inv.come hd f _ _ _ _ h2]
theorem Inv.ends{c:Ct}(hd:(c.af.map (·.name)).Nodup):∀(f:Nat)(done:List Nat)(nd:List (List Nat))(l s:List Nat),Inv c done nd l->c.af.length<=done.length+f->rZ (bD c) f nd l s
 |0,done,nd,l,s,h,hf=>by
  show l=[]
  rw[Jk];intro x hx;obtain⟨h1,h2⟩:=(h.ls x).1 hx;have h3:=(jn.1 h2).1
  have:=Fa c.af.length (x::done) (k7.2 ⟨h3,h.Rs⟩) (fun y hy=>by
   rcases bt.1 hy with rfl|hy
   ·exact h1
   ·exact h.lt y hy)
  simp only[bP]at this;omega
 |f+1,done,nd,l,s,h,hf=>by
  rw[rZ]
  by_cases h0:l=[]
  ·exact .inl h0
  ·obtain⟨h1,h2⟩:=h.step hd h0 (bq l::s);exact .inr (Inv.ends hd f _ _ _ _ h2 (by simp;omega))
theorem EN(nd:List (List Nat))(N:Nat):∀(m i:Nat)(l:List Nat),i+m=N->l.Nodup->(∀x∈l,x<i)->kx l.length l->
 (∀x,x∈iB nd m i l↔x∈l\/(i<=x/\x<N/\nd.getD x []=[]))/\(iB nd m i l).Nodup/\kx (iB nd m i l).length (iB nd m i l)
 |0,i,l,h,h1,h2,h3=>⟨fun x=>by simp[iB];omega,h1,h3⟩
 |m+1,i,l,h,h1,h2,h3=>by
  rw[iB]
  have hil:i∉l:=fun hm=>by have:=h2 i hm;omega
  split
  ·rename_i h0;have hp:=vU l i
   obtain⟨a1,a2,a3⟩:=EN nd N m (i+1) (fh l i) (by omega) (by rw[hp.nodup_iff,k7];exact⟨hil,h1⟩) (fun x hx=>by
    rcases bt.1 (hp.mem_iff.1 hx)with rfl|hx
    ·omega
    ·have:=h2 x hx;omega) (KK h3 i)
   refine⟨fun x=>?_,a2,a3⟩;rw[a1 x,hp.mem_iff,bt];constructor
   ·rintro((rfl|hx)|⟨b1,b2,b3⟩)
    ·exact .inr ⟨aU _,by omega,h0⟩
    ·exact .inl hx
    ·exact .inr ⟨by omega,b2,b3⟩
   ·rintro(hx|⟨b1,b2,b3⟩)
    ·exact .inl (.inr hx)
    ·by_cases he:x=i
     ·exact .inl (.inl he)
     ·exact .inr ⟨by omega,b2,b3⟩
  ·rename_i h0;obtain⟨a1,a2,a3⟩:=EN nd N m (i+1) l (by omega) h1 (fun x hx=>by have:=h2 x hx;omega) h3;refine⟨fun x=>?_,a2,a3⟩;rw[a1 x];constructor
   ·rintro(hx|⟨b1,b2,b3⟩)
    ·exact .inl hx
    ·exact .inr ⟨by omega,b2,b3⟩
   ·rintro(hx|⟨b1,b2,b3⟩)
    ·exact .inl hx
    ·refine .inr ⟨?_,b2,b3⟩
     have:x≠i:=fun he=>h0 (he▸b3)
     omega
theorem PE{c:Ct}(hd:(c.af.map (·.name)).Nodup):Inv c [] (dQ c) (iB (dQ c) c.af.length 0 []):=by
 obtain⟨h1,h2,h3⟩:=EN (dQ c) c.af.length c.af.length 0 [] (by omega) (by simp) (by simp) (fun k hk hkl=>by simp at hkl);refine⟨tr c,fun i hi x=>by rw[v_ hd hi];simp,fun i=>?_,h2,h3,by simp,by simp,by simp⟩;rw[h1 i];constructor
 ·rintro(h|⟨_,a,b⟩)
  ·cases h
  ·refine⟨a,jn.2 ⟨by simp,fun x hx=>?_⟩⟩;have:=(v_ hd a x).2 hx
   rw[b]at this;exact this
 ·rintro⟨a,b⟩
  refine .inr ⟨by omega,a,?_⟩;rw[Jk];intro x hx;have:=(jn.1 b).2 x ((v_ hd a x).1 hx)
  cases this
theorem N3{c:Ct}(hd:(c.af.map (·.name)).Nodup):nO c c.af.length=aR c:=Inv.come hd _ _ _ _ _ (PE hd)
theorem Yq{c:Ct}(hd:(c.af.map (·.name)).Nodup):GS c c.af.length:=Inv.ends hd _ _ _ _ _ (PE hd) (by simp)
theorem LN(c:Ct):∀(f:Nat)(done:List Nat),(iX c f done).length<=f
 |0,_=>by simp[iX]
 |f+1,done=>by
  rw[iX]
  split
  ·simp
  ·rename_i k _;have:=LN c f (done++[k])
   simp only[bP];omega
theorem Mz(c:Ct):∀(f:Nat)(done:List Nat),∀x∈iX c f done,x<c.af.length
 |0,_=>by simp[iX]
 |f+1,done=>by
  rw[iX]
  split
  ·simp
  ·rename_i k hk;intro x hx
   rcases bt.1 hx with rfl|hx
   ·exact(MZ hk).1
   ·exact Mz c f _ x hx
end Go.Proofs.YtihmomicdpkabaaGreatDoor
namespace Go.Proofs.YtihmomicdpkabaaGreatDoor
open Go.AM Go.Proofs
variable{Γ:Nat->Option AV}
def Bp(c:Ct):List Nat:=if kv c=true then aR c else[]
def mR(c:Ct):List Bs:=if kv c=true then lr (aR c) c.af 0 else[]
theorem KM{c:Ct}(hc:cj c):(aR c).length<2^20:=by
 have h1:=LN c c.af.length [];have:=hc.2.2.2.1
 unfold aR;omega
theorem NV(hΓ:jB Γ)(c:Ct)(hb:jb c):aP Tryz.prog Γ mH [bX c] (.aH [.own 1 an ((Bp c).map iN),.own 1 aE ((mR c).map .str)]):=by
 unfold Bp mR
 cases hr:kv c with
 |false=>simpa using abF hΓ c hb hr
 |true=>
  have hc:=rE hb hr;have hd:=ry hr;have hN:=hc.2.2.2.1;have h:=adB hΓ c hb hr c.af.length (by omega) (Yq hd) (by rw[N3 hd];exact KM hc);rw[N3 hd]at h;simpa using h
def jo(c:Ct):Int×Bs:=if(iw c).1=0 then(match mR c with
 |[]=>(0,[])
 |s::_=>(7,s))else iw c
set_option maxRecDepth 8000 in
theorem Mm(hΓ:jB Γ)(c:Ct)(hb:jb c):aP Tryz.prog Γ ta [bX c] (sn (jo c)):=by
 have hC:=Ml hΓ c hb;have hS:=NV hΓ c hb;unfold jo;generalize iw c=r at*;obtain⟨e,s⟩:=r;refine .run 60 Vw (by simp) ?_;simp;refine .call 60 (by simp) hC ?_
 by_cases h0:e=0
 ·simp[h0];refine .call 60 (by simp) hS ?_
  cases mR c with
  |nil=>
   simp;exact .back (by simp)
  |cons a l=>
   have hl:(0:Int)<(l.length:Int)+1:=by omega
   simp[hl];exact .back (by simp)
 ·simp[h0];exact .back (by simp)
def aeg(c:Ct):List (Bs×(Bool×Nat×List Bs)):=c.ak.map (fun q=>(q.name,(true,1,[q.next])))++c.af.map fun g=>(g.name,(false,g.ki,g.ins))
abbrev eNx(x:Bool×Nat×List Bs):AV:=.list x.1 x.2.1 (x.2.2.map .str)
abbrev IA(x:Bs×(Bool×Nat×List Bs)):AV×AV:=(.str x.1,eNx x.2)
@[simp] theorem abo(n:Nat):∀l:List (Bs×(Bool×Nat×List Bs)),fT n (l.map IA)=true
 |[]=>rfl
 |x::r=>by simp[abo n r]
@[simp] theorem abu(n m:Nat):∀l:List (Bs×(Bool×Nat×List Bs)),m6 n m (l.map IA)=true
 |[]=>rfl
 |x::r=>by simp[abu n m r]
abbrev qL(c:Ct)(inn hist:List Bs)(g:Option Nat):List Ob:=[.cells (AV.cells (bX c)),.row 1 aE [] none true false,.map ((aeg c).map IA) true,.map (inn.map jr) true,.row 1 aE (hist.map .str) g true false]
abbrev mn(c:Ct):List Ob:=[.cells (AV.cells (bX c)),.row 1 an [] none true false]
def sm(a:Nat):List Nat->List Nat->List Nat
 |[],lv=>lv
 |i::r,lv=>sm a r (lv.set i (max (lv.getD i 0) (lv.getD a 0+1)))
theorem Mi(a:Nat):∀(r lv:List Nat),(sm a r lv).length=lv.length
 |[],_=>rfl
 |i::r,lv=>by rw[sm,Mi a r];simp
def GM(k:Nat)(l:List Nat):List Nat:=if k∈l then l else l++[k]
def so(c:Ct)(s:List Nat×List Nat)(a:Nat):List Nat×List Nat:=(sm a ((bD c).getD a []) s.1,GM a s.2)
def rX(s:Bs):Bool:=decide (60<s.length)
def hY(m:Nat)(l:List Bs):Bool:=decide (l.length<=m)&&!br rX l
theorem zD(l:List Bs)(m:Nat)(hm:m<1000){k:Nat}(hk:Kd 1 k l):aP Tryz.prog Γ pW [.list false k (l.map .str),.int .i64 m] (.bool (hY m l)):=by
 have key:∀n i:Nat,i+n=l.length->i<=m+1->ay Tryz.prog Γ (ytO (.list false k (l.map .str)) (.int .i64 m) (.int .i64 i) []) (.ret (.bool (decide (l.length<=m)&&!br rX (l.drop i)))):=by
  intro n
  induction n with
  |zero=>
   intro i hi hL
   have q1:¬i<l.length:=by omega
   have e1:((l.length:Int)<=m)=(l.length<=m):=propext (by omega);rw[bw (by omega),rF];refine .go 60 ?_;simp[q1,e1];exact .back (by simp)
  |succ n ih=>
   intro i hi hL
   have q1:i<l.length:=by omega
   have q2:=cv (hk.of q1)
   by_cases h2:i<=m
   ·have h2':((i:Int)<=m)=True:=cv (by omega);have hh:=ih (i+1) (by omega) (by omega);have e3:((60:Int)<(l[i].length:Int))=(60<l[i].length):=propext (by omega);rw[bM q1,gX];refine .go 60 ?_
    by_cases h3:60<l[i].length
    ·have hl:rX l[i]=true:=by simp[rX,h3]
     simp[q1,q2,h2',e3,h3,hl];exact .back (by simp[h3])
    ·have hl:rX l[i]=false:=by simp only[rX,iO];exact h3
     simp(disch:=omega) [q1,q2,h2',e3,h3,hl];refine .aL ?_;simp at hh⊢;exact hh
   ·have h2':((i:Int)<=m)=False:=j7 (by omega);have e1:((l.length:Int)<=m)=False:=j7 (by omega)
    have h3:¬l.length<=m:=by omega
    refine .go 60 ?_;simp[q1,h2',e1,h3];exact .back (by simp)
 refine .run 60 Wq (by simp) ?_;simp;refine .inLoop ?_;have hh:=key l.length 0 (by omega) (by omega);simp[hY]at hh⊢;exact hh
theorem Ar{m:Nat}{l:List Bs}(h:hY m l=true):l.length<=m/\∀s∈l,s.length<=60:=by
 simp only[hY,av,a_,jl]at h;refine⟨h.1,fun s hs=>?_⟩;have h2:=h.2;clear h
 induction l with
 |nil=>cases hs
 |cons a l ih=>
  rw[gX,jK]at h2
  rcases bt.1 hs with rfl|hs
  ·have:=h2.1;simp only[rX,iO]at this;omega
  ·exact ih hs h2.2
def ph(g:Gt):Bool:=hY 12 g.ins&&(hY 140 g.rows&&decide (g.name.length<=60))
theorem YT(g:Gt):aP Tryz.prog Γ zu [dg g] (.bool (ph g)):=by
 have h1:=zD (Γ:=Γ) g.ins 12 (by omega) g.hi;have h2:=zD (Γ:=Γ) g.rows 140 (by omega) g.hr;have e:((g.name.length:Int)<=60)=(g.name.length<=60):=propext (by omega);refine .run 60 U' (by simp) ?_;simp;refine .call 60 (by simp) h1 ?_;simp;refine .call 60 (by simp) h2 ?_;unfold ph
 cases hY 12 g.ins with
 |false=>simp;exact .back (by simp)
 |true=>
  cases hY 140 g.rows with
  |false=>simp;exact .back (by simp)
  |true=>simp[e];exact .back (by simp)
theorem aa6{g:Gt}(h:ph g=true):w7 g:=by
 simp only[ph,av,a_]at h;obtain⟨a1,a2⟩:=Ar h.1;obtain⟨b1,b2⟩:=Ar h.2.1;exact⟨by omega,by omega,by omega,fun s hs=>by have:=a2 s hs;omega,fun s hs=>by have:=b2 s hs;omega⟩
def nL(q:Lt):Bool:=decide (60<q.name.length)||decide (60<q.next.length)
def sk(c:Ct):Bool:=!br (fun g=>!ph g) (c.af.take 211)&&(!br nL (c.ak.take 211)&&(hY 210 c.aB&&(hY 210 c.aW&&(decide (c.af.length<=210)&&decide (c.ak.length<=210)))))
theorem aeL(c:Ct):aP Tryz.prog Γ rC [bX c] (.bool (sk c)):=by
 have h1:=zD (Γ:=Γ) c.aB 210 (by omega) c.hI;have h2:=zD (Γ:=Γ) c.aW 210 (by omega) c.hO;have e1:((c.af.length:Int)<=210)=(c.af.length<=210):=propext (by omega);have e2:((c.ak.length:Int)<=210)=(c.ak.length<=210):=propext (by omega)
 have fin:∀H,H=[Ob.cells (AV.cells (bX c))]->ay Tryz.prog Γ (ynJ (.ptr 0 0) H) (.ret (.bool (hY 210 c.aB&&(hY 210 c.aW&&(decide (c.af.length<=210)&&decide (c.ak.length<=210)))))):=by
  rintro H rfl
  refine .go 60 ?_;simp;refine .call 60 (by simp) h1 ?_;simp;refine .call 60 (by simp) h2 ?_
  cases hY 210 c.aB with
  |false=>simp;exact .back (by simp)
  |true=>
   cases hY 210 c.aW with
   |false=>simp;exact .back (by simp)
   |true=>
    by_cases q:c.af.length<=210
    ·simp[e1,e2,q];exact .back (by simp[q])
    ·simp[e1,e2,q];exact .back (by simp[q])
 have keyL:∀n i:Nat,i+n=211->ay Tryz.prog Γ (ynI (.ptr 0 0) (.int .i64 i) [.cells (AV.cells (bX c))]) (.ret (.bool (!br nL ((c.ak.take 211).drop i)&&(hY 210 c.aB&&(hY 210 c.aW&&(decide (c.af.length<=210)&&decide (c.ak.length<=210))))))):=by
  intro n
  induction n with
  |zero=>
   intro i hi;have q1:((i:Int)<=210)=False:=j7 (by omega);have hf:=fin _ rfl;rw[bw (by simp;omega),rF]
   by_cases q0:i<c.ak.length
   ·refine .dN 60 ?_;simp[q1,q0];refine .reach (.exit rfl rfl) ?_;simp at hf⊢;exact hf
   ·refine .dN 60 ?_;simp[q0];refine .reach (.exit rfl rfl) ?_;simp at hf⊢;exact hf
  |succ n ih=>
   intro i hi;have q1:((i:Int)<=210)=True:=cv (by omega)
   by_cases q0:i<c.ak.length
   ·have q2:=cv (c.hL.of q0);have hh:=ih (i+1) (by omega)
    have hT:i<(c.ak.take 211).length:=by simp;omega
    have e3:((60:Int)<(c.ak[i].name.length:Int))=(60<c.ak[i].name.length):=propext (by omega);have e4:((60:Int)<(c.ak[i].next.length:Int))=(60<c.ak[i].next.length):=propext (by omega);rw[bM hT,gX,qQ];refine .go 90 ?_
    by_cases h3:60<c.ak[i].name.length
    ·have hl:nL c.ak[i]=true:=by simp[nL,h3]
     simp[q0,q1,q2,e3,h3,hl];exact .back (by simp)
    ·by_cases h4:60<c.ak[i].next.length
     ·have hl:nL c.ak[i]=true:=by simp[nL,h4]
      simp[q0,q1,q2,e3,h3,e4,h4,hl];exact .back (by simp)
     ·have hl:nL c.ak[i]=false:=by simp only[nL,h3,h4,mE,Bool.or_self]
      simp(disch:=omega) [q0,q1,q2,e3,h3,e4,h4,hl];refine .aL ?_;simp at hh⊢;exact hh
   ·have hf:=fin _ rfl;rw[bw (by simp;omega),rF];refine .dN 60 ?_;simp[q0];refine .reach (.exit rfl rfl) ?_;simp at hf⊢;exact hf
 have keyG:∀n i:Nat,i+n=211->ay Tryz.prog Γ (ynL (.ptr 0 0) (.int .i64 i) [.cells (AV.cells (bX c))]) (.ret (.bool (!br (fun g=>!ph g) ((c.af.take 211).drop i)&&(!br nL (c.ak.take 211)&&(hY 210 c.aB&&(hY 210 c.aW&&(decide (c.af.length<=210)&&decide (c.ak.length<=210)))))))):=by
  intro n;have hf:=keyL 211 0 (by omega)
  induction n with
  |zero=>
   intro i hi;have q1:((i:Int)<=210)=False:=j7 (by omega);rw[bw (by simp;omega),rF];refine .go 60 ?_
   by_cases q0:i<c.af.length
   ·simp[q1,q0];refine .inLoop ?_;simp at hf⊢;exact hf
   ·simp[q0];refine .inLoop ?_;simp at hf⊢;exact hf
  |succ n ih=>
   intro i hi;have q1:((i:Int)<=210)=True:=cv (by omega)
   by_cases q0:i<c.af.length
   ·have q2:=cv (c.hG.of q0);have hh:=ih (i+1) (by omega)
    have hT:i<(c.af.take 211).length:=by simp;omega
    have hc:=YT (Γ:=Γ) c.af[i];rw[bM hT,gX,qQ];refine .go 90 ?_;simp[q0,q1,q2];refine .call 90 (by simp) hc ?_
    cases h3:ph c.af[i]with
    |true=>
     simp(disch:=omega);refine .aL ?_;simp at hh⊢;exact hh
    |false=>
     simp;exact .back (by simp)
   ·rw[bw (by simp;omega),rF];refine .go 60 ?_;simp[q0];refine .inLoop ?_;simp at hf⊢;exact hf
 refine .run 60 Zf (by simp) ?_;simp;refine .inLoop ?_;have hh:=keyG 211 0 (by omega);simp[sk]at hh⊢;exact hh
theorem Ft{α:Type}{p:α->Bool}:∀{l:List α},br p l=false->∀x∈l,p x=false
 |[],_,x,hx=>by cases hx
 |a::l,h,x,hx=>by
  rw[gX,jK]at h
  rcases bt.1 hx with rfl|hx
  ·exact h.1
  ·exact Ft h.2 x hx
theorem NY{c:Ct}(h:sk c=true):cj c:=by
 simp only[sk,av,a_,jl]at h;obtain⟨h1,h2,h3,h4,h5,h6⟩:=h;rw[cS (by omega)]at h1 h2;obtain⟨a1,a2⟩:=Ar h3;obtain⟨b1,b2⟩:=Ar h4;refine⟨by omega,by omega,by omega,by omega,fun g hg=>?_,fun s hs=>by have:=a2 s hs;omega,fun s hs=>by have:=b2 s hs;omega,fun q hq=>?_⟩
 ·have:=Ft h1 g hg;exact aa6 (by simpa using this)
 ·have:=Ft h2 q hq;simp only[nL,jK,iO]at this;omega
end Go.Proofs.YtihmomicdpkabaaGreatDoor
namespace Go.Proofs.YtihmomicdpkabaaGreatDoor
open Go.AM Go.Proofs
theorem EB(c:Ct):∀(f:Nat)(done:List Nat),done.Nodup->(∀x∈done,x<c.af.length)->
 (done++iX c f done).Nodup/\(∀p a q,iX c f done=p++a::q->iY c (done++p) a=true/\∀j<a,iY c (done++p) j=false)/\(c.af.length<=done.length+f->∀a<c.af.length,iY c (done++iX c f done) a=false)
 |0,done,hd,hl=>by
  refine⟨by simpa[iX]using hd,fun p a q h=>by simp[iX]at h,fun hf a ha=>?_⟩;rw[C4];intro hm;have h3:=(jn.1 hm).1;simp only[iX,fZ]at h3
  have:=Fa c.af.length (a::done) (k7.2 ⟨h3,hd⟩) (fun y hy=>by
   rcases bt.1 hy with rfl|hy
   ·exact ha
   ·exact hl y hy)
  simp only[bP]at this;omega
 |f+1,done,hd,hl=>by
  rw[iX]
  cases hn:lx c done with
  |none=>
   refine⟨by simpa using hd,fun p a q h=>by simp at h,fun hf a ha=>?_⟩;simpa using aa0 hn ha
  |some k=>
   obtain⟨hk,hm,hj⟩:=MZ hn;have h3:=(jn.1 hm).1
   obtain⟨i1,i2,i3⟩:=EB c f (done++[k]) (by
    rw[q9];refine⟨hd,by simp,fun x hx y hy=>?_⟩;rw[dC]at hy;subst hy
    exact fun he=>h3 (he▸hx)) (fun x hx=>by
    rcases bl.1 hx with hx|hx
    ·exact hl x hx
    ·rw[dC]at hx;subst hx;exact hk)
   simp only[eQ,qT]at i1 i2 i3;refine⟨i1,fun p a q h=>?_,fun hf a ha=>i3 (by simp;omega) a ha⟩
   cases p with
   |nil=>
    simp only[kY,sI]at h;rw[fZ,<-h.1];exact⟨hm,hj⟩
   |cons x p=>
    simp only[eP,sI]at h;obtain⟨rfl,h⟩:=h;exact i2 p a q h
theorem J6(c:Ct):(aR c).Nodup:=by simpa[aR]using(EB c c.af.length [] (by simp) (by simp)).1
theorem oL(c:Ct):∀x∈aR c,x<c.af.length:=Mz c _ _
theorem EL(c:Ct){p q:List Nat}{a:Nat}(h:aR c=p++a::q):iY c p a=true/\∀j<a,iY c p j=false:=by
 simpa using(EB c c.af.length [] (by simp) (by simp)).2.1 p a q h
theorem ZW(c:Ct){i:Nat}(hi:i<(aR c).length){x:Nat}(hx:eN c (aR c)[i] x=true):x∈(aR c).take i:=by
 have h:aR c=(aR c).take i++(aR c)[i]::(aR c).drop (i+1):=by
  rw[<-bM hi,ng]
 exact(jn.1 (EL c h).1).2 x hx
theorem Ej(out:List Nat)(s:Bs):∀(l:List Gt)(i:Nat),s∈lr out l i↔∃t,∃h:t<l.length,l[t].name=s/\i+t∉out
 |[],i=>by simp[lr]
 |g::r,i=>by
  have hs:(∃t,∃h:t<(g::r).length,(g::r)[t].name=s/\i+t∉out)↔(g.name=s/\i∉out)\/∃t,∃h:t<r.length,r[t].name=s/\i+1+t∉out:=by
   constructor
   ·rintro⟨t,h,e,hm⟩
    cases t with
    |zero=>exact .inl ⟨e,hm⟩
    |succ t=>exact .inr ⟨t,by simpa using h,e,by rwa[show i+1+t=i+(t+1) by omega]⟩
   ·rintro(⟨e,hm⟩|⟨t,h,e,hm⟩)
    ·exact⟨0,by simp,e,hm⟩
    ·exact⟨t+1,by simpa using h,e,by rwa[show i+(t+1)=i+1+t by omega]⟩
  rw[hs,lr]
  split
  ·rename_i h0;rw[Ej out s r (i+1)];exact⟨.inr,fun h=>h.elim (fun h=>absurd h0 h.2) id⟩
  ·rename_i h0;rw[bt,Ej out s r (i+1)];exact⟨fun h=>h.imp (fun h=>⟨h.symm,h0⟩) id,fun h=>h.imp (fun h=>h.1.symm) id⟩
theorem MB{c:Ct}(hd:(c.af.map (·.name)).Nodup)(out:List Nat){i:Nat}(hi:i<c.af.length):c.af[i].name∈lr out c.af 0↔i∉out:=by
 rw[Ej];constructor
 ·rintro⟨t,ht,e,hm⟩
  rw[iM]at hm;rwa[<-Ao hd ht hi e]
 ·intro h;exact⟨i,hi,rfl,by rwa[iM]⟩
end Go.Proofs.YtihmomicdpkabaaGreatDoor
namespace Go.Proofs.YtihmomicdpkabaaGreatDoor
open Go.AM Go.Proofs
variable{Γ:Nat->Option AV}
def HP(c:Ct)(a:Nat):Bs:=match c.af[a]? with
 |some g=>g.name
 |none=>[]
theorem Bj{c:Ct}{a:Nat}(h:a<c.af.length):HP c a=c.af[a].name:=by simp[HP,h]
theorem Mw(a:Nat):∀(r lv:List Nat)(i:Nat),r.Nodup->a∉r->i<lv.length->(sm a r lv).getD i 0=if i∈r then max (lv.getD i 0) (lv.getD a 0+1)else lv.getD i 0
 |[],lv,i,_,_,_=>by simp[sm]
 |j::r,lv,i,hr,ha,hi=>by
  rw[k7]at hr;simp only[bt,not_or]at ha
  have hg:∀k,(lv.set j (max (lv.getD j 0) (lv.getD a 0+1))).getD k 0=if j=k/\k<lv.length then max (lv.getD j 0) (lv.getD a 0+1)else lv.getD k 0:=fun k=>by
   simp only[bo,nj]
   by_cases h1:j=k
   ·subst h1
    by_cases h2:j<lv.length
    ·simp[h2]
    ·simp[h2]
   ·simp[h1]
  have e1:=hg a;have e2:=hg i;rw[if_neg (fun h=>ha.1 h.1.symm)]at e1;rw[sm,Mw a r _ i hr.2 ha.2 (by simpa using hi),e1,e2]
  by_cases hij:j=i
  ·subst hij;rw[if_neg hr.1,if_pos ⟨rfl,hi⟩,if_pos (by simp)]
  ·have hne:¬i=j:=fun h=>hij h.symm
   have e3:¬(j=i/\i<lv.length):=fun h=>hij h.1
   simp only[if_neg e3]
   by_cases h3:i∈r
   ·rw[if_pos h3,if_pos (by simp[h3])]
   ·rw[if_neg h3,if_neg (by simp[h3,hne])]
structure GJ(c:Ct)(p:List Nat)(s:List Nat×List Nat):Prop where
 len:s.1.length=c.af.length
 cm:∀x,x∈s.2↔x∈p
 ge:∀i<c.af.length,∀a∈p,eN c i a=true->s.1.getD a 0+1<=s.1.getD i 0
 eq:∀i<c.af.length,s.1.getD i 0=0\/∃a∈p,eN c i a=true/\s.1.getD i 0=s.1.getD a 0+1
theorem aa9(k x:Nat)(l:List Nat):x∈GM k l↔x∈l\/x=k:=by
 unfold GM
 split
 ·rename_i h;exact⟨.inl,fun h1=>h1.elim id fun h1=>h1▸h⟩
 ·simp
theorem GJ.step{c:Ct}(hd:(c.af.map (·.name)).Nodup){p:List Nat}{s:List Nat×List Nat}(h:GJ c p s)(hall:∀i∈p,∀x,eN c i x=true->x∈p){a:Nat}(ha:a<c.af.length)(hm:iY c p a=true):GJ c (p++[a]) (so c s a):=by
 obtain⟨hap,haa⟩:=jn.1 hm
 have hab:a∉(bD c).getD a []:=fun hb=>hap (haa a ((tP hd ha a).1 hb))
 have hg:∀i<c.af.length,(so c s a).1.getD i 0=if eN c i a=true then max (s.1.getD i 0) (s.1.getD a 0+1)else s.1.getD i 0:=fun i hi=>by
  rw[so,Mw a _ _ i (Ko c ha) hab (by rw[h.len];exact hi)];simp only[tP hd ha i]
 have hsame:∀x∈p,x<c.af.length->(so c s a).1.getD x 0=s.1.getD x 0:=fun x hx hxl=>by
  rw[hg x hxl,if_neg fun hk=>hap (hall x hx a hk)]
 have hsa:(so c s a).1.getD a 0=s.1.getD a 0:=by rw[hg a ha,if_neg fun hk=>hap (haa a hk)]
 refine⟨by rw[so,Mi];exact h.len,fun x=>?_,fun i hi x hx hk=>?_,fun i hi=>?_⟩
 ·rw[so];simp only[aa9,h.cm,bl,dC]
 ·rcases bl.1 hx with hx|hx
  ·have:=h.ge i hi x hx hk;rw[hsame x hx (rS hk).2,hg i hi]
   split<;>omega
  ·rw[dC]at hx;subst hx
   rw[hsa,hg i hi,if_pos hk];omega
 ·rw[hg i hi]
  by_cases hk:eN c i a=true
  ·rw[if_pos hk]
   rcases Nat.le_total (s.1.getD i 0) (s.1.getD a 0+1)with hle|hle
   ·exact .inr ⟨a,by simp,hk,by rw[hsa];omega⟩
   ·rcases h.eq i hi with h0|⟨x,hx,hkx,he⟩
    ·omega
    ·exact .inr ⟨x,by simp[hx],hkx,by rw[hsame x hx (rS hkx).2];omega⟩
  ·rw[if_neg hk]
   rcases h.eq i hi with h0|⟨x,hx,hkx,he⟩
   ·exact .inl h0
   ·exact .inr ⟨x,by simp[hx],hkx,by rw[hsame x hx (rS hkx).2];exact he⟩
theorem ZA{c:Ct}(h:(jo c).1=0):kv c=true/\mR c=[]/\jo c=(0,[]):=by
 unfold jo at h⊢
 by_cases h0:(iw c).1=0
 ·rw[if_pos h0]at h⊢
  cases hn:mR c with
  |nil=>exact⟨oo h0,rfl,rfl⟩
  |cons s l=>rw[hn]at h;cases h
 ·rw[if_neg h0]at h;exact absurd h h0
end Go.Proofs.YtihmomicdpkabaaGreatDoor
