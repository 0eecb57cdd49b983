/- Order: what comes: the loops. -/
import Derived.Test.YtihmomicdpkabaaGreatDoorH
import Derived.Test.YtihmomicdpkabaaGreatDoorG
import Derived.Test.YtihmomicdpkabaaGreatDoorF
import Derived.Test.YtihmomicdpkabaaGreatDoorAMd
import Derived.Test.YtihmomicdpkabaaGreatDoorCards
import Derived.Test.YtihmomicdpkabaaGreatDoorTie
import Derived.ProofKit
import Derived.Deep.DeepHandedRow
import Derived.LaidMore
import Derived.Test.YtihmomicdpkabaaGreatDoorCode
set_option linter.unusedSimpArgs false
set_option linter.unusedVariables false
namespace Go.Proofs.YtihmomicdpkabaaGreatDoor
open Go.AM Go.Proofs
variable{Γ:Nat->Option AV}
def dn(a:Nat)(l:List Nat):List Nat:=l.filter fun x=>decide (¬x=a)
theorem OO(a:Nat):∀{l:List Nat},l.Nodup->mA (.sc .int) (.int .i64 a) (l.map eK)=some ((dn a l).map eK)
 |[],_=>rfl
 |b::l,h=>by
  simp only[l5]at h
  by_cases h2:a=b
  ·subst h2
   have h3:dn a l=l:=by
    unfold dn;rw[zr];intro x hx
    exact ri fun hn=>h.1 (hn▸hx)
   have h4:dn a (a::l)=l:=by rw[<-h3];simp[dn]
   simp only[cd,mA,BF,decide_true,h4]
  ·have h4:dn a (b::l)=b::dn a l:=by
    unfold dn;rw[zu,if_pos (by simpa using fun h=>h2 h.symm)]
   simp only[cd,mA,BF,h2,mY,OO a h.2,dv,h4]
theorem K8(a:Nat){l:List Nat}(h:l.Nodup):(dn a l).Nodup:=h.filter _
theorem wK(l:List Nat)(x:Nat):(fo l x).length=l.length+1:=by rw[fo,adB];simp
def iL(nd:List (List Nat)):Nat->Nat->List Nat->List Nat
 |0,_,l=>l
 |m+1,i,l=>iL nd m (i+1) (if nd.getD i []=[]then fo l i else l)
def ep(a:Nat):List Nat->List (List Nat)->List Nat->List Nat->List (List Nat)×List Nat×List Nat
 |[],nd,l,s=>(nd,l,s)
 |i::r,nd,l,s=>if dn a (nd.getD i [])=[]then ep a r (nd.set i (dn a (nd.getD i []))) (fo l i) s.tail else ep a r (nd.set i (dn a (nd.getD i []))) l s
theorem ME{A:List Ob}{l s:List Nat}(s0:List Nat)(hs:s=s0.tail){f:Fr}{up:List Fr}(hb:f.base<=A.length)(hf:∀m,fX A.length m f=true)(hv:∀m,cJ A.length m A=true):
 AM.Reach Tryz.prog Γ (.fr f up (hP A l s (gP s0))) (.fr f up (hP A l s none)):=by
 unfold gP
 split
 ·rename_i h0
  have hs0:s=[]:=by rw[hs,h0];rfl
  subst hs0
  have e:(hP A l [] (some 0)).set A.length (.row 1 aq ((l++[]).map iN) none true false)=hP A l [] none:=by simp[hP]
  refine .lA (uP (A:=A) (l:=l) (s:=[]) (g:=some 0)) hb (hf _) (by
   rw[hP,iU,hv]
   simp) ?_
  rw[e];exact .refl _
 ·exact .refl _
set_option maxRecDepth 8000 in
theorem afn(c:Ct)(hc:bX c){M:List Ob}(hv:dY M)(nd:List (List Nat))(hn:nd.length=c.af.length)(L:Nat)(p:AV)(up:List Fr):∀m i:Nat,i+m=c.af.length->∀l:List Nat,l.length<=i->
 AM.Reach Tryz.prog Γ (yuK (.cR L) (.ptr (M.length+(9+(c.af.length+c.af.length))) 0) (.ptr (M.length+(11+(c.af.length+c.af.length))) 0) (.int .i64 c.af.length) (.int .i64 i) (hP (aC c M nd) l [] none) ⟨[],.norm,M.length,up⟩)
  (yuL (.cR L) (.ptr (M.length+(9+(c.af.length+c.af.length))) 0) (.ptr (M.length+(11+(c.af.length+c.af.length))) 0) (hP (aC c M nd) (iL nd m i l) [] none) ⟨[],.norm,M.length,up⟩):=by
 have hN:=hc.2.2.2.1;intro m
 induction m with
 |zero=>
  intro i hi l hl
  have q1:¬i<c.af.length:=by omega
  rw[iL];generalize hP (aC c M nd) l [] none=X at*;refine .di 60 ?_;simp[q1];exact .exit rfl rfl
 |succ m ih=>
  intro i hi l hl
  have q1:i<c.af.length:=by omega
  have hAl:=pk (M:=M) hn;have xw:=py (A:=aC c M nd) (l:=l) (s:=[]) (g:=none) (i:=M.length+(9+(c.af.length+c.af.length))) (by omega);have xn:=py (A:=aC c M nd) (l:=l) (s:=[]) (g:=none) (i:=M.length+7) (by omega);have xm:=py (A:=aC c M nd) (l:=l) (s:=[]) (g:=none) (i:=M.length+(9+(c.af.length+i))) (by omega);rw[GV hn]at xw;rw[Qk hn]at xn;rw[P0 hn q1,gX]at xm;have yn:=E1 (n:=M.length+6) (N:=c.af.length) q1;rw[show M.length+6+(3+(c.af.length+i))=M.length+(9+(c.af.length+i)) by omega]at yn;have yl:=Ax (n:=M.length+6) (N:=c.af.length) (m:=c.af.length) (aT _);have yt:List.take c.af.length (dz (M.length+6) c.af.length c.af.length)=dz (M.length+6) c.af.length c.af.length:=bR (by rw[yl];exact aT _);obtain⟨_,yn'⟩:=cW.1 yn;rw[iL]
  by_cases h0:nd.getD i []=[]
  ·have hh:=ih (i+1) (by omega) (fo l i) (by rw[wK];omega);have hP':=OX (Γ:=Γ) (aC c M nd) l [] i (by omega) (by omega)
   have hun:=fun f hb hf=>ME (Γ:=Γ) (l:=fo l i) (s:=[]) [] rfl (f:=f) (up:=up) hb hf (fun m=>Pf hv (nd:=nd) (by rw[hAl];omega))
   rw[hAl]at hun hP';rw[show M.length+(10+(c.af.length+c.af.length))+1=M.length+(11+(c.af.length+c.af.length)) by omega]at hP';rw[if_pos h0];rw[h0]at xm;generalize hP (aC c M nd) l [] none=X at*;generalize hP (aC c M nd) (fo l i) [] none=Y at*;rw[List.tail_nil]at hP';generalize hP (aC c M nd) (fo l i) [] (gP [])=Z at*;generalize dz (M.length+6) c.af.length c.af.length=E at*;refine .di 60 ?_;simp(disch:=omega) [q1,xw,xn,xm,yn,yl,yt,yn'];refine .O2 1 60 hP' ?_;simp(disch:=omega);refine .trans (hun _ (by simp) (by intro m;simp;omega)) ?_;refine .aF ?_;simp at hh⊢;exact hh
  ·have hh:=ih (i+1) (by omega) l (by omega);rw[if_neg h0]
   have xln:¬(nd.getD i []).length=0:=by simpa using h0
   generalize nd.getD i []=z at*
   have e0:(((z.map eK).length:Nat):Int)=0↔False:=by simp;exact h0
   generalize hP (aC c M nd) l [] none=X at*;generalize dz (M.length+6) c.af.length c.af.length=E at*;refine .di 60 ?_;simp(disch:=omega) [q1,xw,xn,xm,yn,yl,yt,yn',h0,xln];refine .aF ?_;simp at hh⊢;exact hh
theorem ab3{A:List Ob}{l s:List Nat}{g:Option Nat}{i:Nat}(h:i<A.length)(o:Ob):(hP A l s g).set i o=hP (A.set i o) l s g:=by
 rw[hP,kz _ _ h,hP,jn]
set_option maxRecDepth 8000 in
theorem afX(c:Ct)(hc:bX c){M:List Ob}(hv:dY M)(L a:Nat)(ha:a<c.af.length)(hb:∀i∈(bF c).getD a [],i<c.af.length)(up:List Fr):∀m j:Nat,j+m=((bF c).getD a []).length->∀(nd:List (List Nat))(l s:List Nat),nd.length=c.af.length->(∀x∈nd,x.Nodup)->l.length+m<2^38->j+m<2^38->
 AM.Reach Tryz.prog Γ (yuF (.cR L) (.ptr (M.length+(9+(c.af.length+c.af.length))) 0) (.ptr (M.length+(11+(c.af.length+c.af.length))) 0) (.int .i64 a) (.sl (M.length+(9+a)) 0 ((bF c).getD a []).length) (.int .i64 ((bF c).getD a []).length) (.int .i64 j) (hP (aC c M nd) l s none) ⟨[],.norm,M.length,up⟩)
  (yuG (.cR L) (.ptr (M.length+(9+(c.af.length+c.af.length))) 0) (.ptr (M.length+(11+(c.af.length+c.af.length))) 0) (hP (aC c M (ep a (((bF c).getD a []).drop j) nd l s).1) (ep a (((bF c).getD a []).drop j) nd l s).2.1 (ep a (((bF c).getD a []).drop j) nd l s).2.2 none) ⟨[],.norm,M.length,up⟩):=by
 have hN:=hc.2.2.2.1;intro m
 induction m with
 |zero=>
  intro j hj nd l s hn hd hl hj2
  have q1:¬j<((bF c).getD a []).length:=by omega
  rw[br (by omega),ep];generalize(bF c).getD a []=bs at*;generalize hP (aC c M nd) l s none=X at*;refine .di 60 ?_;simp[q1];exact .exit rfl rfl
 |succ m ih=>
  intro j hj nd l s hn hd hl hj2;have xr:=py (A:=aC c M nd) (l:=l) (s:=s) (g:=none) (i:=M.length+(9+a)) (by rw[pk hn];omega);rw[ag6 ha]at xr;generalize hbs:(bF c).getD a []=bs at*
  have q1:j<bs.length:=by omega
  have hi:=hb _ (bx q1)
  have xi:(bs.map iN)[j]? =some (.int .i64 (bs[j]:Nat)):=by simp[q1]
  rw[bL q1,ep];generalize bs[j]=i at*;have hAl:=pk (M:=M) hn;have xw:=py (A:=aC c M nd) (l:=l) (s:=s) (g:=none) (i:=M.length+(9+(c.af.length+c.af.length))) (by omega);have xn:=py (A:=aC c M nd) (l:=l) (s:=s) (g:=none) (i:=M.length+7) (by omega);have xm:=py (A:=aC c M nd) (l:=l) (s:=s) (g:=none) (i:=M.length+(9+(c.af.length+i))) (by omega);rw[GV hn]at xw;rw[Qk hn]at xn;rw[P0 hn hi,gX]at xm;rw[fA]at xr
  have hXl:(hP (aC c M nd) l s none).length=M.length+(12+(c.af.length+c.af.length)):=by rw[xD,hAl];omega
  have xs:∀o,((hP (aC c M nd) l s none).set (M.length+(9+(c.af.length+i))) o)[M.length+(9+(c.af.length+i))]? =some o:=fun o=>eu (by omega)
  clear hXl;have yn:=E1 (n:=M.length+6) (N:=c.af.length) hi;rw[show M.length+6+(3+(c.af.length+i))=M.length+(9+(c.af.length+i)) by omega]at yn;have yl:=Ax (n:=M.length+6) (N:=c.af.length) (m:=c.af.length) (aT _);have yt:List.take c.af.length (dz (M.length+6) c.af.length c.af.length)=dz (M.length+6) c.af.length c.af.length:=bR (by rw[yl];exact aT _);obtain⟨_,yn'⟩:=cW.1 yn
  have hnd:(nd.getD i []).Nodup:=by
   rw[bp,bm (by omega)];exact hd _ (bx _)
  have dc:=OO a hnd
  have fin:(hP (aC c M nd) l s none).set (M.length+(9+(c.af.length+i))) (.map ((dn a (nd.getD i [])).map eK) true)=hP (aC c M (nd.set i (dn a (nd.getD i [])))) l s none:=by
   rw[ab3 (by omega),<-ad6 _ hn hi];rfl
  have hn2:(nd.set i (dn a (nd.getD i []))).length=c.af.length:=by rw[jn];exact hn
  have hd2:∀x∈nd.set i (dn a (nd.getD i [])),x.Nodup:=fun x hx=>by
   rcases oA hx with h1|h1
   ·exact hd x h1
   ·rw[h1];exact K8 a hnd
  have hAl2:=pk (M:=M) hn2
  by_cases h0:dn a (nd.getD i [])=[]
  ·have hh:=ih (j+1) (by omega) (nd.set i (dn a (nd.getD i []))) (fo l i) s.tail hn2 hd2 (by rw[wK];omega) (by omega);have hP':=OX (Γ:=Γ) (aC c M (nd.set i (dn a (nd.getD i [])))) l s i (by omega) (by omega)
   have hun:=fun f hb hf=>ME (Γ:=Γ) (l:=fo l i) (s:=s.tail) s rfl (f:=f) (up:=up) hb hf (fun m=>Pf hv (nd:=nd.set i (dn a (nd.getD i []))) (by rw[hAl2];omega))
   rw[hAl2]at hun hP';rw[show M.length+(10+(c.af.length+c.af.length))+1=M.length+(11+(c.af.length+c.af.length)) by omega]at hP';rw[if_pos h0]
   have hlz:(dn a (nd.getD i [])).length=0:=by rw[h0];rfl
   rw[h0]at dc fin;rw[h0]at hP' hun hh⊢;generalize(ep a (bs.drop (j+1)) (nd.set i []) (fo l i) s.tail)=R at*;generalize hP (aC c M nd) l s none=X at*;generalize hP (aC c M (nd.set i [])) l s none=Y at*;generalize hP (aC c M (nd.set i [])) (fo l i) s.tail none=Z at*;generalize hP (aC c M (nd.set i [])) (fo l i) s.tail (gP s)=W at*;generalize dz (M.length+6) c.af.length c.af.length=E at*;generalize hLz:nd.getD i []=z at*;refine .di 60 ?_;simp(disch:=omega) [q1,xr,xi,xw,xn,xm,yn,yl,yt,yn',hi,dc,xs,isKey,bU,cz];simp at fin;rw[fin];refine .O2 1 60 hP' ?_;simp(disch:=omega);refine .trans (hun _ (by simp) (by intro m;simp;omega)) ?_;refine .aF ?_;simp at hh⊢;exact hh
  ·have hh:=ih (j+1) (by omega) (nd.set i (dn a (nd.getD i []))) l s hn2 hd2 (by omega) (by omega);rw[if_neg h0]
   have xln:¬(dn a (nd.getD i [])).length=0:=by simpa using h0
   generalize(ep a (bs.drop (j+1)) (nd.set i (dn a (nd.getD i []))) l s)=R at*;generalize hP (aC c M nd) l s none=X at*;generalize hP (aC c M (nd.set i (dn a (nd.getD i [])))) l s none=Y at*;generalize dz (M.length+6) c.af.length c.af.length=E at*;generalize dn a (nd.getD i [])=z' at*;generalize hLz:nd.getD i []=z at*;refine .di 60 ?_;simp(disch:=omega) [q1,xr,xi,xw,xn,xm,yn,yl,yt,yn',hi,dc,xs,isKey,bU,cz,h0,xln];rw[fin];refine .aF ?_;simp at hh⊢;exact hh
end Go.Proofs.YtihmomicdpkabaaGreatDoor
namespace Go.Proofs.YtihmomicdpkabaaGreatDoor
open Go.AM Go.Proofs
theorem Fi{l:List Nat}{i j:Nat}(hi:i<l.length)(hj:j<l.length):(swp l i j).Perm l:=by
 rw[List.perm_iff_count];intro a
 have e1:l.getD i 0=l[i]:=by rw[bp,bm hi];rfl
 have e2:l.getD j 0=l[j]:=by rw[bp,bm hj];rfl
 have e3:(l.set i l[j])[j]'(by simpa using hj)=l[j]:=by
  rw[List.getElem_set];split<;>rfl
 rw[swp,e1,e2,List.count_set (by simpa using hj),List.count_set hi,e3]
 have hp:l[i]=a->0<l.count a:=fun h=>TW.2 (h▸bx hi)
 by_cases h1:l[i]=a
 ·have:=hp h1
  by_cases h2:l[j]=a<;>simp[h1,h2]<;>omega
 ·by_cases h2:l[j]=a<;>simp[h1,h2]
theorem abX(j:Nat):∀l:List Nat,j<l.length->(mV l j).Perm l:=by
 induction j using Nat.strongRecOn with
 |_ j ih=>
  intro l hj;rw[mV]
  split
  ·exact .refl _
  ·split
   ·exact(ih _ (by omega) _ (by rw[dH];omega)).trans (Fi (by omega) hj)
   ·exact .refl _
theorem Yu(n:Nat):∀(m i:Nat)(l:List Nat),n-i<=m->n<=l.length->i<l.length->(gq n l i).1.Perm l:=by
 intro m
 induction m with
 |zero=>
  intro i l h hn hi;rw[gq,if_pos (by omega)]
 |succ m ih=>
  intro i l h hn hi;rw[gq]
  split
  ·exact .refl _
  ·split
   ·have:=xB l (2*i+1) n;have:=BJ l (j:=2*i+1) (n:=n) (by omega);exact(ih _ _ (by omega) (by rw[dH];omega) (by rw[dH];omega)).trans (Fi hi (by omega))
   ·exact .refl _
theorem wF(l:List Nat)(x:Nat):(fo l x).Perm (x::l):=(abX _ _ (by simp)).trans List.perm_append_comm
def bq(l:List Nat):Nat:=(dq l).getD (l.length-1) 0
def dy(l:List Nat):List Nat:=(dq l).take (l.length-1)
theorem aaH{l:List Nat}(h:0<l.length):(dq l).Perm l:=by
 rw[dq];exact(Yu _ _ _ _ (aT _) (by rw[dH];omega) (by rw[dH];omega)).trans (Fi h (by omega))
theorem Zk{l:List Nat}(h:0<l.length):dq l=dy l++[bq l]:=by
 have hl:=A9 l
 have hlt:l.length-1<(dq l).length:=by omega
 have h5:(dq l).getD (l.length-1) 0=(dq l)[l.length-1]:=by rw[bp,bm hlt];rfl
 rw[bq,dy,h5]
 conv=>lhs;rw[<-lZ (l.length-1) (dq l)]
 congr 1;rw[bL hlt,br (by omega)]
theorem Ls{l:List Nat}(h:0<l.length):(bq l::dy l).Perm l:=by
 have:=aaH h;rw[Zk h]at this;exact List.perm_append_comm.symm.trans this
theorem Mf(l:List Nat):(dy l).length=l.length-1:=by rw[dy,fI,A9];omega
def kU(n:Nat)(l:List Nat):Prop:=∀k,0<k->k<n->l.getD ((k-1)/2) 0<=l.getD k 0
theorem xj{l:List Nat}{i j:Nat}(hi:i<l.length)(hj:j<l.length)(k:Nat):(swp l i j).getD k 0=if k=j then l.getD i 0 else if k=i then l.getD j 0 else l.getD k 0:=by
 simp only[swp,bp,nH,jn]
 by_cases h1:j=k
 ·subst h1;simp[hj]
 ·have h1':¬k=j:=fun h=>h1 h.symm
  by_cases h2:i=k
  ·subst h2;simp[h1,h1',hi]
  ·have h2':¬k=i:=fun h=>h2 h.symm
   simp[h1,h1',h2,h2']
theorem acK(j:Nat):∀l:List Nat,j<l.length->(∀k,0<k->k<l.length->k≠j->l.getD ((k-1)/2) 0<=l.getD k 0)->(0<j->∀k,k<l.length->0<k->(k-1)/2=j->l.getD ((j-1)/2) 0<=l.getD k 0)->kU l.length (mV l j):=by
 induction j using Nat.strongRecOn with
 |_ j ih=>
  intro l hj h1 h2;rw[mV]
  split
  ·rename_i h0;intro k hk hkl;exact h1 k hk hkl (by omega)
  ·rename_i h0
   have hpl:(j-1)/2<l.length:=by omega
   split
   ·rename_i hlt;have hs:=xj hpl hj
    have key:kU (swp l ((j-1)/2) j).length (mV (swp l ((j-1)/2) j) ((j-1)/2)):=by
     refine ih _ (by omega) _ (by rw[dH];exact hpl) (fun k hk hkl hkp=>?_) (fun hp k hkl hk hkp=>?_)
     ·rw[dH]at hkl;rw[hs,hs]
      have hq:¬(k-1)/2=j\/(k-1)/2=j:=by omega
      by_cases hkj:k=j
      ·subst hkj;rw[if_neg (by omega),if_pos rfl,if_pos rfl];omega
      ·rw[if_neg hkj,if_neg hkp];have hk1:=h1 k hk hkl hkj
       by_cases hc:(k-1)/2=j
       ·rw[if_pos hc];exact h2 (by omega) k hkl hk hc
       ·rw[if_neg hc]
        by_cases hd:(k-1)/2=(j-1)/2
        ·rw[if_pos hd]
         rw[hd]at hk1;omega
        ·rw[if_neg hd];exact hk1
     ·rw[dH]at hkl;rw[hs,hs,if_neg (by omega),if_neg (by omega)];have hpp:=h1 ((j-1)/2) hp hpl (by omega)
      by_cases hkj:k=j
      ·rw[if_pos hkj];exact hpp
      ·rw[if_neg hkj,if_neg (by omega)];have hk1:=h1 k hk hkl hkj
       rw[hkp]at hk1;omega
    rw[dH]at key;exact key
   ·rename_i hge;intro k hk hkl
    by_cases hkj:k=j
    ·subst hkj;omega
    ·exact h1 k hk hkl hkj
theorem KU{l:List Nat}(h:kU l.length l)(x:Nat):kU (fo l x).length (fo l x):=by
 have e:(fo l x).length=(l++[x]).length:=by rw[wK];simp
 have g:∀k,k<l.length->(l++[x]).getD k 0=l.getD k 0:=fun k hk=>by simp[cV hk]
 rw[e,fo];refine acK _ _ (by simp) (fun k hk hkl hkj=>?_) (fun hj k hkl hk hkp=>?_)
 ·simp only[bQ,sR]at hkl;rw[g _ (by omega),g _ (by omega)];exact h k hk (by omega)
 ·simp only[bQ,sR]at hkl;omega
theorem Zv(n:Nat):∀(m i:Nat)(l:List Nat),n-i<=m->n<=l.length->i<l.length->(∀k,0<k->k<n->(k-1)/2≠i->l.getD ((k-1)/2) 0<=l.getD k 0)->(0<i->∀k,k<n->0<k->(k-1)/2=i->l.getD ((i-1)/2) 0<=l.getD k 0)->kU n (gq n l i).1:=by
 intro m
 induction m with
 |zero=>
  intro i l h hn hi h1 h2;rw[gq,if_pos (by omega)];intro k hk hkn;exact h1 k hk hkn (by omega)
 |succ m ih=>
  intro i l h hn hi h1 h2;rw[gq]
  split
  ·intro k hk hkn;exact h1 k hk hkn (by omega)
  ·rename_i hc;have kg:=xB l (2*i+1) n;have kl:=BJ l (j:=2*i+1) (n:=n) (by omega)
   have kk:fY l (2*i+1) n=2*i+1\/fY l (2*i+1) n=2*i+2:=by unfold fY;split<;>omega
   have least:∀k,k<n->0<k->(k-1)/2=i->l.getD (fY l (2*i+1) n) 0<=l.getD k 0:=by
    intro k hkn hk hkp
    have hk2:k=2*i+1\/k=2*i+1+1:=by omega
    unfold fY
    split
    ·rename_i hh
     rcases hk2 with rfl|rfl
     ·omega
     ·exact aT _
    ·rename_i hh
     rcases hk2 with rfl|rfl
     ·exact aT _
     ·have:¬l.getD (2*i+1+1) 0<l.getD (2*i+1) 0:=fun h=>hh ⟨hkn,h⟩
      omega
   generalize fY l (2*i+1) n=j at*
   have hjl:j<l.length:=by omega
   have hs:=xj hi hjl
   split
   ·rename_i hlt;refine ih _ _ (by omega) (by rw[dH];exact hn) (by rw[dH];exact hjl) (fun k hk hkn hkp=>?_) (fun hp k hkn hk hkp=>?_)
    ·rw[hs,hs,if_neg hkp]
     by_cases hkj:k=j
     ·subst hkj;rw[if_pos rfl,if_pos (by omega)];omega
     ·rw[if_neg hkj]
      by_cases hci:(k-1)/2=i
      ·rw[if_pos hci,if_neg (by omega)];exact least k hkn hk hci
      ·rw[if_neg hci];have hk1:=h1 k hk hkn hci
       by_cases hki:k=i
       ·rw[if_pos hki];subst hki;exact h2 hk j kl (by omega) (by omega)
       ·rw[if_neg hki];exact hk1
    ·rw[hs,hs]
     have hpi:(j-1)/2=i:=by omega
     have hjne:¬i=j:=by omega
     rw[hpi,if_neg hjne,if_pos rfl,if_neg (by omega),if_neg (by omega)];have:=h1 k hk hkn (by omega)
     rw[hkp]at this;exact this
   ·rename_i hge;intro k hk hkn
    by_cases hci:(k-1)/2=i
    ·have:=least k hkn hk hci
     show l.getD ((k-1)/2) 0<=l.getD k 0
     rw[hci];omega
    ·exact h1 k hk hkn hci
theorem ZL{n:Nat}{l:List Nat}(h:kU n l):∀k,k<n->l.getD 0 0<=l.getD k 0:=by
 intro k
 induction k using Nat.strongRecOn with
 |_ k ih=>
  intro hk
  by_cases h0:k=0
  ·subst h0;exact aT _
  ·have h1:=h k (by omega) hk;have h2:=ih ((k-1)/2) (by omega) (by omega);omega
theorem YZ{l:List Nat}(h:kU l.length l)(h0:0<l.length):kU (dy l).length (dy l):=by
 have hs:=xj (l:=l) (i:=0) (j:=l.length-1) h0 (by omega)
 have hd:kU (l.length-1) (dq l):=by
  rw[dq];refine Zv _ _ 0 _ (aT _) (by rw[dH];omega) (by rw[dH];omega) (fun k hk hkn hkp=>?_) (fun hp=>absurd hp (by omega));rw[hs,hs,if_neg (by omega),if_neg hkp,if_neg (by omega),if_neg (by omega)];exact h k hk (by omega)
 have hl:=A9 l
 have g:∀k,k<l.length-1->(dy l).getD k 0=(dq l).getD k 0:=fun k hk=>by
  rw[dy];simp only[bp];rw[zq hk]
 rw[Mf];intro k hk hkn;rw[g _ (by omega),g _ hkn];exact hd k hk hkn
theorem ac4{l:List Nat}(h0:0<l.length):bq l=l.getD 0 0:=by
 have hs:=xj (l:=l) (i:=0) (j:=l.length-1) h0 (by omega)
 have gu:∀(n m i:Nat)(x:List Nat),n-i<=m->n<x.length->i<=n->(i<x.length)->(i<n\/n=0)->(gq n x i).1.getD n 0=x.getD n 0:=by
  intro n m
  induction m with
  |zero=>
   intro i x h1 h2 h3 h4 h5;rw[gq,if_pos (by omega)]
  |succ m ih=>
   intro i x h1 h2 h3 h4 h5;rw[gq]
   split
   ·rfl
   ·rename_i hc;have kg:=xB x (2*i+1) n;have kl:=BJ x (j:=2*i+1) (n:=n) (by omega);generalize fY x (2*i+1) n=j at*
    split
    ·rw[ih j _ (by omega) (by rw[dH];exact h2) (by omega) (by rw[dH];omega) (by omega),xj h4 (by omega),if_neg (by omega),if_neg (by omega)]
    ·rfl
 rw[bq,dq,gu _ _ 0 _ (aT _) (by rw[dH];omega) (by omega) (by rw[dH];omega) (by omega),hs,if_pos rfl]
theorem ac1{l:List Nat}(h:kU l.length l)(h0:0<l.length){x:Nat}(hx:x∈l):bq l<=x:=by
 rw[ac4 h0];obtain⟨k,hk,rfl⟩:=kC hx;have:=ZL h k hk;rw[bp (i:=k),bm hk]at this;exact this
end Go.Proofs.YtihmomicdpkabaaGreatDoor
namespace Go.Proofs.YtihmomicdpkabaaGreatDoor
open Go.AM Go.Proofs
variable{Γ:Nat->Option AV}
def pq(b:List (List Nat)):Nat->List (List Nat)->List Nat->List Nat->List Nat
 |0,_,_,_=>[]
 |f+1,nd,l,s=>if l=[]then[]else
  bq l::pq b f (ep (bq l) (b.getD (bq l) []) nd (dy l) (bq l::s)).1 (ep (bq l) (b.getD (bq l) []) nd (dy l) (bq l::s)).2.1 (ep (bq l) (b.getD (bq l) []) nd (dy l) (bq l::s)).2.2
def si(b:List (List Nat)):Nat->List (List Nat)->List Nat->List Nat->Prop
 |0,_,l,_=>l=[]
 |f+1,nd,l,s=>l=[]\/si b f (ep (bq l) (b.getD (bq l) []) nd (dy l) (bq l::s)).1 (ep (bq l) (b.getD (bq l) []) nd (dy l) (bq l::s)).2.1 (ep (bq l) (b.getD (bq l) []) nd (dy l) (bq l::s)).2.2
theorem FP(a N:Nat):∀(r:List Nat)(nd:List (List Nat))(l s:List Nat),(∀i∈r,i<N)->nd.length=N->(∀x∈nd,x.Nodup)->(∀x∈l,x<N)->
 (ep a r nd l s).1.length=N/\(∀x∈(ep a r nd l s).1,x.Nodup)/\(∀x∈(ep a r nd l s).2.1,x<N)/\(ep a r nd l s).2.1.length<=l.length+r.length
 |[],nd,l,s,_,h2,h3,h4=>⟨h2,h3,h4,by simp[ep]⟩
 |i::r,nd,l,s,h1,h2,h3,h4=>by
  have hi:=h1 i (by simp)
  have hn:(nd.set i (dn a (nd.getD i []))).length=N:=by simpa using h2
  have hd:∀x∈nd.set i (dn a (nd.getD i [])),x.Nodup:=fun x hx=>by
   rcases oA hx with h5|h5
   ·exact h3 x h5
   ·rw[h5];refine K8 a ?_;rw[bp,bm (by omega)];exact h3 _ (bx _)
  rw[ep]
  split
  ·have:=FP a N r _ (fo l i) s.tail (fun x hx=>h1 x (by simp[hx])) hn hd (fun x hx=>by
    have:=(wF l i).mem_iff.1 hx
    rcases bw.1 this with rfl|h6
    ·exact hi
    ·exact h4 x h6)
   rw[wK]at this;refine⟨this.1,this.2.1,this.2.2.1,?_⟩;have:=this.2.2.2
   simp only[bW];omega
  ·have:=FP a N r _ l s (fun x hx=>h1 x (by simp[hx])) hn hd h4;refine⟨this.1,this.2.1,this.2.2.1,?_⟩;have:=this.2.2.2
   simp only[bW];omega
set_option maxRecDepth 8000 in
theorem agb(c:Ct)(hc:bX c)(hbL:∀x∈bF c,x.length<=2^21/\∀i∈x,i<c.af.length){S:Type}(M:S->List Ob)(F:S->Nat->S)(n L r:Nat)(hM:∀x,(M x).length=n)(hv:∀x,dY (M x))(hr:r<n)(I:S->Nat->Prop)(hI:∀x k a,I x k->a<c.af.length->I (F x a) (k+1))
 (hB:∀x k a T up,I x k->k<2^20->a<c.af.length->(∀m,up.all (fX r m)=true)->(∀m,cJ r m T=true)->AM.Reach Tryz.prog Γ ((jj.yl L).cfg [.int .i64 a] up (M x++T)) (.back up (.bool true) (M (F x a)++T)))
 (up:List Fr)(hup:∀m,up.all (fX r m)=true):∀(f:Nat)(x:S)(k:Nat)(nd:List (List Nat))(l s:List Nat),nd.length=c.af.length->(∀x∈nd,x.Nodup)->(∀a∈l,a<c.af.length)->l.length+f*2^22<=2^37->I x k->k+f<=2^20->si (bF c) f nd l s->
 ∃T,AM.Reach Tryz.prog Γ (Tm (.cR L) (.ptr (n+(9+(c.af.length+c.af.length))) 0) (.ptr (n+(11+(c.af.length+c.af.length))) 0) (hP (aC c (M x) nd) l s none) ⟨[],.norm,n,up⟩)
  (.back up (.aB []) (M ((pq (bF c) f nd l s).foldl F x)++T)):=by
 have stop:∀(x:S)(nd:List (List Nat))(s:List Nat),nd.length=c.af.length->∃T,AM.Reach Tryz.prog Γ (Tm (.cR L) (.ptr (n+(9+(c.af.length+c.af.length))) 0) (.ptr (n+(11+(c.af.length+c.af.length))) 0) (hP (aC c (M x) nd) [] s none) ⟨[],.norm,n,up⟩)
  (.back up (.aB []) (M x++T)):=by
  intro x nd s hn;have hAl:=pk (M:=M x) hn;rw[hM]at hAl;have xc:=oh (A:=aC c (M x) nd) (l:=[]) (s:=s) (g:=none);have h1:=BS (Γ:=Γ) (aC c (M x) nd) [] s none (.inl rfl)
  have he:hP (aC c (M x) nd) [] s none=M x++(tC c n nd++[.row 1 aq (s.map iN) none true false,.cells [.sl (n+(10+(c.af.length+c.af.length))) 0 0]]):=by
   rw[hP,hAl]
   conv=>lhs;rw[xL,hM]
   simp
  rw[hAl,show n+(10+(c.af.length+c.af.length))+1=n+(11+(c.af.length+c.af.length)) by omega]at xc;rw[hAl]at h1;refine⟨tC c n nd++[.row 1 aq (s.map iN) none true false,.cells [.sl (n+(10+(c.af.length+c.af.length))) 0 0]],?_⟩;rw[<-he];generalize hP (aC c (M x) nd) [] s none=X at*;simp at xc h1;refine .aR 60 ?_;simp[xc];refine .aX 60 h1 ?_;simp
 intro f
 induction f with
 |zero=>
  intro x k nd l s hn hd hl hb hIx hk hE;rw[si]at hE;subst hE;rw[pq];exact stop x nd s hn
 |succ f ih=>
  intro x k nd l s hn hd hl hb hIx hk hE;rw[pq]
  by_cases h0:l=[]
  ·subst h0;rw[if_pos rfl];exact stop x nd s hn
  ·rw[si]at hE;have hE:=hE.resolve_left h0;rw[if_neg h0];have hpos:0<l.length:=pV.2 h0;have hhr:=Ls hpos;have ha:bq l<c.af.length:=hl _ (hhr.mem_iff.1 (by simp))
   have hrl:∀y∈dy l,y<c.af.length:=fun y hy=>hl _ (hhr.mem_iff.1 (by simp[hy]))
   have hbm:(bF c).getD (bq l) []∈bF c:=by
    rw[bp,bm (by rw[gJ];exact ha)];exact bx _
   obtain⟨hb1,hb2⟩:=hbL _ hbm;have hok:=FP (bq l) c.af.length ((bF c).getD (bq l) []) nd (dy l) (bq l::s) hb2 hn hd hrl;have hrest:=Mf l
   have h3:=fun M' hv'=>afX (Γ:=Γ) c hc (M:=M') hv' L (bq l) ha hb2 up ((bF c).getD (bq l) []).length 0 (by omega) nd (dy l) (bq l::s) hn hd (by omega) (by omega)
   obtain⟨T,hT⟩:=ih (F x (bq l)) (k+1) _ _ _ hok.1 hok.2.1 hok.2.2.1 (by have:=hok.2.2.2;omega) (hI x k _ hIx ha) (by omega) hE;refine⟨T,?_⟩;have hAl:=pk (M:=M x) hn;have hAl2:=pk (M:=M (F x (bq l))) hn;rw[hM]at hAl hAl2;have h3':=h3 (M (F x (bq l))) (hv _);rw[eT,hM]at h3';have xc:=oh (A:=aC c (M x) nd) (l:=l) (s:=s) (g:=none);have h1:=BS (Γ:=Γ) (aC c (M x) nd) l s none (.inl rfl);have h2:=agI (Γ:=Γ) (aC c (M x) nd) l s hpos (by omega);rw[hAl]at xc h1 h2;rw[show n+(10+(c.af.length+c.af.length))+1=n+(11+(c.af.length+c.af.length)) by omega]at xc h2;rw[show(dq l).getD (l.length-1) 0=bq l from rfl,show(dq l).take (l.length-1)=dy l from rfl]at h2
   let T2:List Ob:=tC c n nd++[.row 1 aq ((dy l++bq l::s).map iN) none true false,.cells [.sl (n+(10+(c.af.length+c.af.length))) 0 (dy l).length]]
   have he:∀y,hP (aC c (M y) nd) (dy l) (bq l::s) none=M y++T2:=fun y=>by
    have hy:=pk (M:=M y) hn;rw[hM]at hy;rw[hP,hy]
    conv=>lhs;rw[xL,hM]
    simp[T2]
   have hTv:∀m,cJ r m T2=true:=fun m=>by
    have hne:(n+(10+(c.af.length+c.af.length))==r)=false:=by simp;omega
    rw[show T2=tC c n nd++[.row 1 aq ((dy l++bq l::s).map iN) none true false,.cells [.sl (n+(10+(c.af.length+c.af.length))) 0 (dy l).length]]from rfl,iU,afM n hr];simp[hne]
   have hbody:=fun up hup=>hB x k (bq l) T2 up hIx (by omega) ha hup hTv
   rw[<-he,<-he]at hbody
   have hlp:(0:Int)<l.length:=by omega
   have xw:=py (A:=aC c (M (F x (bq l))) nd) (l:=dy l) (s:=bq l::s) (g:=none) (i:=n+(9+(c.af.length+c.af.length))) (by omega);have xb:=py (A:=aC c (M (F x (bq l))) nd) (l:=dy l) (s:=bq l::s) (g:=none) (i:=n+8) (by omega);have w1:=GV (M:=M (F x (bq l))) hn;have w2:=ag2 (c:=c) (M:=M (F x (bq l))) (nd:=nd);rw[hM]at w1 w2;rw[w1]at xw;rw[w2]at xb;have yb:=rU (n:=n+6) (b:=bF c) (k:=bq l) (by rw[gJ];exact ha)
   have egd:(bF c)[bq l]'(by rw[gJ];exact ha)=(bF c).getD (bq l) []:=by rw[bp,bm (by rw[gJ];exact ha)];rfl
   rw[egd,show n+6+(3+bq l)=n+(9+bq l) by omega]at yb;have zl:=ql (n+6) (bF c);rw[gJ]at zl;have zt:List.take c.af.length (fF (n+6) (bF c))=fF (n+6) (bF c):=bR (by rw[zl];exact aT _);obtain⟨_,yb'⟩:=cW.1 yb;generalize hRR:ep (bq l) ((bF c).getD (bq l) []) nd (dy l) (bq l::s)=R at*;have hfold:(bq l::pq (bF c) f R.1 R.2.1 R.2.2).foldl F x=(pq (bF c) f R.1 R.2.1 R.2.2).foldl F (F x (bq l)):=rfl;rw[hfold];clear hfold he hTv h3 hok w1 w2;generalize hP (aC c (M x) nd) l s none=X at*;generalize hP (aC c (M x) nd) (dy l) (bq l::s) none=Y at*;generalize hP (aC c (M (F x (bq l))) nd) (dy l) (bq l::s) none=Z at*;generalize hP (aC c (M (F x (bq l))) R.1) R.2.1 R.2.2 none=W at*;generalize fF (n+6) (bF c)=E at*;generalize(bF c).getD (bq l) []=bs at*
   generalize bq l=a at*;refine .aR 60 ?_;simp[xc];refine .aX 60 h1 ?_;simp[hpos];refine .aX 8 h2 ?_;simp;refine Reach.af6 (l:=L) (args:=[.int .i64 a]) (v:=.bool true) (h':=Z) (by simp) (hbody _ (fun m=>by simp[hup m];omega)) ?_;refine .aR 60 ?_;simp[xw,xb,yb,yb',zl,zt,ha];refine .inLoop ?_;simp at h3'⊢;refine .trans h3' ?_;refine .aR 60 ?_;simp;refine .aF ?_;simp at hT⊢;exact hT
theorem Fq(nd:List (List Nat))(N:Nat):∀(m i:Nat)(l:List Nat),i+m=N->(∀a∈l,a<N)->(∀a∈iL nd m i l,a<N)/\(iL nd m i l).length<=l.length+m
 |0,i,l,h,hl=>⟨hl,by simp[iL]⟩
 |m+1,i,l,h,hl=>by
  rw[iL]
  split
  ·have:=Fq nd N m (i+1) (fo l i) (by omega) (fun a ha=>by
    rcases bw.1 ((wF l i).mem_iff.1 ha)with rfl|h1
    ·omega
    ·exact hl a h1)
   rw[wK]at this;exact⟨this.1,by omega⟩
  ·have:=Fq nd N m (i+1) l (by omega) hl;exact⟨this.1,by omega⟩
theorem D5(pl:List (Bs×Nat)):∀(l:List Bs)(a:List Nat),a.Nodup->(eJ pl l a).Nodup
 |[],a,h=>h
 |s::r,a,h=>by
  rw[eJ]
  split
  ·exact D5 pl r a h
  ·refine D5 pl r _ ?_
   split
   ·exact h
   ·rename_i k _ hk;rw[sY];refine⟨h,by simp,fun x hx y hy=>?_⟩;simp only[dG]at hy;subst hy
    exact fun he=>hk (he▸hx)
theorem KI(pl:List (Bs×Nat)):∀(l:List Gt)(i:Nat)(nd b:List (List Nat)),(∀x∈nd,x.Nodup)->∀x∈(fq pl l i nd b).1,x.Nodup
 |[],_,_,_,h=>h
 |g::r,i,nd,b,h=>by
  rw[fq]
  refine KI pl r _ _ _ fun x hx=>?_
  rcases bn.1 hx with h1|h1
  ·exact h x h1
  ·rw[dG]at h1
   rw[h1];exact D5 pl _ _ (by simp)
theorem WY(c:Ct):∀x∈dU c,x.Nodup:=KI _ _ _ _ _ (by simp)
theorem F7(pl:List (Bs×Nat))(i:Nat):∀(l:List Bs)(a:List Nat)(b:List (List Nat)),∀x∈jm pl i l a b,∀y∈x,y=i\/∃z∈b,y∈z
 |[],_,_,x,hx,y,hy=>.inr ⟨x,hx,hy⟩
 |s::r,a,b,x,hx,y,hy=>by
  rw[jm]at hx
  split at hx
  ·exact F7 pl i r a b x hx y hy
  ·rename_i k _
   rcases F7 pl i r _ _ x hx y hy with h|⟨z,hz,hyz⟩
   ·exact .inl h
   ·split at hz
    ·exact .inr ⟨z,hz,hyz⟩
    ·rcases oA hz with h1|h1
     ·exact .inr ⟨z,h1,hyz⟩
     ·rw[h1]at hyz
      rcases bn.1 hyz with h2|h2
      ·by_cases hk:k<b.length
       ·rw[bp,bm hk]at h2;exact .inr ⟨_,bx hk,h2⟩
       ·rw[bp,jS (by omega)]at h2;simp at h2
      ·exact .inl (by simpa using h2)
theorem L3(pl:List (Bs×Nat)):∀(l:List Gt)(i N B:Nat)(nd b:List (List Nat)),(∀g∈l,g.ins.length<2^10)->i+l.length=N->(∀x∈b,x.length<=B/\∀y∈x,y<N)->∀x∈(fq pl l i nd b).2,x.length<=B+l.length*2^10/\∀y∈x,y<N
 |[],_,_,_,_,_,_,_,h=>fun x hx=>by simpa using h x hx
 |g::r,i,N,B,nd,b,hg,hN,h=>fun x hx=>by
  rw[fq]at hx;simp only[bW]at hN⊢;have hb:=FT pl i B g.ins [] b (fun x hx=>(h x hx).1)
  have:=L3 pl r (i+1) N (B+2^10) _ _ (fun y hy=>hg y (by simp[hy])) (by omega) (fun y hy=>by
   have:=hb y hy;have:=hg g (by simp);refine⟨by omega,fun z hz=>?_⟩
   rcases F7 pl i g.ins [] b y hy z hz with h1|⟨w,hw,hzw⟩
   ·omega
   ·exact(h w hw).2 z hzw) x hx
  rw[DC];exact⟨by omega,this.2⟩
theorem abQ{c:Ct}(hc:bX c):∀x∈bF c,x.length<=2^21/\∀i∈x,i<c.af.length:=fun x hx=>by
 have hN:=hc.2.2.2.1
 have:=L3 (cj c) c.af 0 c.af.length 0 [] (List.replicate c.af.length []) (fun g hg=>(hc.2.2.2.2.1 g hg).2.1) (by omega) (fun y hy=>by
  rw[T1]at hy
  rw[hy.2];simp) x hx
 exact⟨by omega,this.2⟩
def n9(c:Ct)(f:Nat):List Nat:=pq (bF c) f (dU c) (iL (dU c) c.af.length 0 []) []
def GY(c:Ct)(f:Nat):Prop:=si (bF c) f (dU c) (iL (dU c) c.af.length 0 []) []
theorem agM(c:Ct){M:List Ob}(hw:cr M){nd:List (List Nat)}(hn:nd.length=c.af.length){m:Nat}(hm:M.length+(10+(c.af.length+c.af.length))<=m):cI m (aC c M nd)=true:=by
 have h1:=hw m (by omega);have h2:=afC c (n:=M.length) (m:=m) (by omega);have h3:=Oh (n:=M.length+6) (m:=m) (bF c) (by rw[gJ];omega);have h4:=EP (n:=M.length+6) (N:=c.af.length) (m:=nd.length) (q:=m) (by omega);rw[xL,oN,tC,oN,oN,oN,oN,h1,h2,FI,Fp];simp[hF,h3,h4];omega
set_option maxRecDepth 8000 in
theorem aaO(c:Ct)(hc:bX c)(hd:(c.af.map (·.name)).Nodup){S:Type}(M:S->List Ob)(F:S->Nat->S)(n L r p:Nat)(hM:∀x,(M x).length=n)(hw:∀x,cr (M x))(hv:∀x,dY (M x))(hr:r<n)(hL:L<n)(hp:∀x,(M x)[p]? =some (.cells (AV.cells (bH c))))(I:S->Nat->Prop)(hI:∀x k a,I x k->a<c.af.length->I (F x a) (k+1))
 (hB:∀x k a T up,I x k->k<2^20->a<c.af.length->(∀m,up.all (fX r m)=true)->(∀m,cJ r m T=true)->AM.Reach Tryz.prog Γ ((jj.yl L).cfg [.int .i64 a] up (M x++T)) (.back up (.bool true) (M (F x a)++T)))
 (up:List Fr)(hup:∀m,up.all (fX r m)=true)(x:S)(hI0:I x 0)(f:Nat)(hf:f<=2^14)(hE:GY c f):
 AM.Reach Tryz.prog Γ (.cl nN [.cR L,.ptr p 0] up (M x)) (.back up (.aB []) (M ((n9 c f).foldl F x))):=by
 have hN:=hc.2.2.2.1;have hi:=Fq (dU c) c.af.length c.af.length 0 [] (by omega) (by simp);obtain⟨T,hT⟩:=agb (Γ:=Γ) c hc (abQ hc) M F n L r hM hv hr I hI hB up hup f x 0 (dU c) (iL (dU c) c.af.length 0 []) [] (tP c) (WY c) hi.1 (by have:=hi.2;simp only[du]at this;omega) hI0 (by omega) hE;have h14:=afn (Γ:=Γ) c hc (hv x) (dU c) (tP c) L (.ptr p 0) up c.af.length 0 (by omega) [] (aT _);have hwt:=afk (Γ:=Γ) c hc hd (hw x) (hv x);have hpx:=hp x;have hMx:=hM x
 have key:AM.Reach Tryz.prog Γ (.cl nN [.cR L,.ptr p 0] up (M x)) (.back up (.aB []) (M ((n9 c f).foldl F x)++T)):=by
  have e1:hQ (gS c (M x)) (dU c) (bF c)++([.cells [.sl (n+7) 0 c.af.length,.sl (n+8) 0 c.af.length]])=aC c (M x) (dU c):=by rw[aC,hM]
  have e2:aC c (M x) (dU c)++[.row 1 aq [] none true false,.cells [.sl (aC c (M x) (dU c)).length 0 0]]=hP (aC c (M x) (dU c)) [] [] none:=by simp[hP]
  have e3:=pk (M:=M x) (tP c)
  have e4:(hQ (gS c (M x)) (dU c) (bF c)).length=n+(9+(c.af.length+c.af.length)):=by rw[lD,jZ,gJ,tP,hM];omega
  rw[jZ]at hwt;rw[hM]at h14 hwt e3;refine .bt 60 VG ?_;simp[hpx];have e5:=agM c (hw x) (tP c) (m:=n+(10+(c.af.length+c.af.length))) (by rw[hM];omega);have hpn:=aZ hpx;rw[hM]at hpn
  have e7:(aC c (M x) (dU c))[p]? =some (.cells (AV.cells (bH c))):=by rw[xL];exact dL hpx _
  rw[<-e1]at e2 e5 e7 h14 hT;refine .aX 5 hwt ?_;generalize hQ (gS c (M x)) (dU c) (bF c)=X at*;simp
  have et:(X++[Ob.cells [.sl (n+7) 0 c.af.length,.sl (n+8) 0 c.af.length],.row 1 jW [] none true false,.row 1 iZ [] none true false]).take (n+(10+(c.af.length+c.af.length)))=X++[.cells [.sl (n+7) 0 c.af.length,.sl (n+8) 0 c.af.length]]:=by
   rw[show n+(10+(c.af.length+c.af.length))=X.length+1 by omega,List.take_length_add_append];rfl
  refine .jz (n:=n+(10+(c.af.length+c.af.length))) et (by simp[hM]) (by simp;omega) e5 ?_
  have hXl:(X++[Ob.cells [.sl (n+7) 0 c.af.length,.sl (n+8) 0 c.af.length]]).length=n+(10+(c.af.length+c.af.length)):=by simp;omega
  rw[hXl]at e2;generalize X++[Ob.cells [.sl (n+7) 0 c.af.length,.sl (n+8) 0 c.af.length]]=A at*;refine .abj 60 aq (es:=[]) (by simp) rfl ?_;have e6:A++[Ob.row 1 aq [] none true false,.cells [.sl (n+(10+(c.af.length+c.af.length))) 0 0]]=hP A [] [] none:=e2
  have e8:=fun os=>dL e7 os
  simp[e8,hXl,cq];rw[e6];refine .inLoop ?_
  have e9:n+(10+(c.af.length+c.af.length))+1=n+(11+(c.af.length+c.af.length)):=by omega
  rw[e9,e4,hM];simp at h14⊢;refine .trans h14 ?_;refine .aR 60 ?_;simp;refine .inLoop ?_;unfold n9;simp at hT⊢;exact hT
 have:=AM.Reach.leave key rfl (by
  rw[hM,<-hM ((n9 c f).foldl F x),List.take_left]
  exact hw _ _ (aT _))
 rw[hM,<-hM ((n9 c f).foldl F x),List.take_left]at this;exact this
theorem MW(N:List Bs):∀l:List Bs,((ik N l).1=6/\(ik N l).2∉N)\/(ik N l=(0,[])/\∀s∈l,s∈N)
 |[]=>.inr ⟨rfl,fun s hs=>by cases hs⟩
 |a::l=>by
  rw[ik]
  by_cases h:a∈N
  ·rw[if_pos h]
   rcases MW N l with h1|⟨h1,h2⟩
   ·exact .inl h1
   ·refine .inr ⟨h1,fun s hs=>?_⟩
    rcases bw.1 hs with rfl|hs
    ·exact h
    ·exact h2 s hs
  ·rw[if_neg h];exact .inl ⟨rfl,h⟩
theorem No(r:Int×Bs):∀l:List Gt,jE r l=r/\(∀g∈l,jB g=true)\/(jE r l).1=1
 |[]=>.inl ⟨rfl,fun g hg=>by cases hg⟩
 |g::l=>by
  rw[jE]
  by_cases h:jB g=true
  ·rw[if_pos h]
   rcases No r l with⟨h1,h2⟩|h1
   ·refine .inl ⟨h1,fun x hx=>?_⟩
    rcases bw.1 hx with rfl|hx
    ·exact h
    ·exact h2 x hx
   ·exact .inr h1
  ·rw[if_neg h];exact .inr rfl
theorem Mr(r:Int×Bs):∀l:List Lt,kW r l=r/\(∀q∈l,me q=true)\/(kW r l).1=1
 |[]=>.inl ⟨rfl,fun g hg=>by cases hg⟩
 |g::l=>by
  rw[kW]
  by_cases h:me g=true
  ·rw[if_pos h]
   rcases Mr r l with⟨h1,h2⟩|h1
   ·refine .inl ⟨h1,fun x hx=>?_⟩
    rcases bw.1 hx with rfl|hx
    ·exact h
    ·exact h2 x hx
   ·exact .inr h1
  ·rw[if_neg h];exact .inr rfl
theorem M5(r:Int×Bs):∀l:List Bs,n4 r l=r/\(∀s∈l,jd s=true)\/(n4 r l).1=4
 |[]=>.inl ⟨rfl,fun g hg=>by cases hg⟩
 |g::l=>by
  rw[n4]
  by_cases h:jd g=true
  ·rw[if_pos h]
   rcases M5 r l with⟨h1,h2⟩|h1
   ·refine .inl ⟨h1,fun x hx=>?_⟩
    rcases bw.1 hx with rfl|hx
    ·exact h
    ·exact h2 x hx
   ·exact .inr h1
  ·rw[if_neg h];exact .inr rfl
theorem Pu(t:Option Bs)(r:Int×Bs):(t=none/\mL t r=r)\/(mL t r).1=5:=by
 cases t with
 |none=>exact .inl ⟨rfl,rfl⟩
 |some s=>exact .inr rfl
structure eN(c:Ct):Prop where
 lV:jg c=false
 names:∀s∈qw c,jd s=true
 Qg:i_ (aD c)=none
 outs:i_ c.bf=none
 init:∀q∈c.ai,me q=true
 af:∀g∈c.af,jB g=true
 used:∀s∈eV c,s∈aD c
theorem ac0(c:Ct):((iF c).1≠0/\((iF c).1=6->(iF c).2∉aD c))\/(iF c=(0,[])/\eN c):=by
 unfold iF
 cases hl:jg c with
 |true=>exact .inl ⟨by simp,by simp⟩
 |false=>
  rw[if_neg (by simp)]
  rcases M5 (mL (i_ (aD c)) (mL (i_ c.bf) (kW (jE (ik (aD c) (eV c)) c.af) c.ai))) (qw c)with⟨e1,h1⟩|h1
  ·rw[e1]
   rcases Pu (i_ (aD c)) (mL (i_ c.bf) (kW (jE (ik (aD c) (eV c)) c.af) c.ai))with⟨h2,e2⟩|h2
   ·rw[e2]
    rcases Pu (i_ c.bf) (kW (jE (ik (aD c) (eV c)) c.af) c.ai)with⟨h3,e3⟩|h3
    ·rw[e3]
     rcases Mr (jE (ik (aD c) (eV c)) c.af) c.ai with⟨e4,h4⟩|h4
     ·rw[e4]
      rcases No (ik (aD c) (eV c)) c.af with⟨e5,h5⟩|h5
      ·rw[e5]
       rcases MW (aD c) (eV c)with⟨h6,h7⟩|⟨e6,h6⟩
       ·exact .inl ⟨by rw[h6];decide,fun _=>h7⟩
       ·exact .inr ⟨e6,⟨hl,h1,h2,h3,h4,h5,h6⟩⟩
      ·exact .inl ⟨by rw[h5];decide,fun h=>by rw[h5]at h;cases h⟩
     ·exact .inl ⟨by rw[h4];decide,fun h=>by rw[h4]at h;cases h⟩
    ·exact .inl ⟨by rw[h3];decide,fun h=>by rw[h3]at h;cases h⟩
   ·exact .inl ⟨by rw[h2];decide,fun h=>by rw[h2]at h;cases h⟩
  ·exact .inl ⟨by rw[h1];decide,fun h=>by rw[h1]at h;cases h⟩
theorem Kg:∀(l seen:List Bs),ng seen l=none->l.Nodup/\∀s∈l,s∉seen
 |[],seen,_=>⟨List.nodup_nil,fun s hs=>by cases hs⟩
 |a::l,seen,h=>by
  rw[ng]at h
  by_cases hm:a∈seen
  ·rw[if_pos hm]at h;cases h
  ·rw[if_neg hm]at h;obtain⟨h1,h2⟩:=Kg l _ h;refine⟨l5.2 ⟨fun ha=>h2 a ha (by simp),h1⟩,fun s hs=>?_⟩
   rcases bw.1 hs with rfl|hs
   ·exact hm
   ·exact fun hs2=>h2 s hs (by simp[hs2])
theorem eN.nodup{c:Ct}(h:eN c):(aD c).Nodup:=(Kg _ _ h.Qg).1
def GtB(g:Gt):Prop:=g.name.length<2^40/\g.ins.length<2^40/\g.rows.length<2^40/\(∀s∈g.ins,s.length<2^40)/\∀s∈g.rows,s.length<2^40
def h_(c:Ct):Prop:=c.aG.length<2^40/\c.bf.length<2^40/\c.ai.length<2^40/\c.af.length<2^40/\(∀g∈c.af,GtB g)/\
 (∀s∈c.aG,s.length<2^40)/\(∀s∈c.bf,s.length<2^40)/\∀q∈c.ai,q.name.length<2^40/\q.next.length<2^40
theorem Ps{α:Type}{p:α->Bool}:∀{l:List α},bu p l=false->∀x∈l,p x=false
 |[],_,x,hx=>by cases hx
 |a::l,h,x,hx=>by
  rw[iW,jV]at h
  rcases bw.1 hx with rfl|hx
  ·exact h.1
  ·exact Ps h.2 x hx
theorem bX.CY{c:Ct}(h:bX c):h_ c:=by
 obtain⟨h1,h2,h3,h4,h5,h6⟩:=h;refine⟨by omega,by omega,by omega,by omega,fun g hg=>?_,h6⟩;obtain⟨g1,g2,g3,g4⟩:=h5 g hg;exact⟨g1,by omega,by omega,g4⟩
theorem Lb{c:Ct}(hb:h_ c)(hl:jg c=false):bX c:=by
 simp only[jg,jV,jr]at hl;obtain⟨h1,h2,h3⟩:=hl;obtain⟨b1,b2,b3,b4,b5,b6⟩:=hb;refine⟨by omega,by omega,by omega,by omega,fun g hg=>?_,b6⟩;obtain⟨g1,g2,g3,g4⟩:=b5 g hg;have:=Ps h1 g hg;simp only[r_,jV,jr]at this;exact⟨g1,by omega,by omega,g4⟩
set_option maxRecDepth 8000 in
theorem MX(hΓ:ek Γ)(c:Ct)(hb:h_ c):aM Tryz.prog Γ nO [bH c] (sE (iF c)):=by
 cases hl:jg c with
 |false=>exact aeD hΓ c (Lb hb hl)
 |true=>
  have b0:=hb.1;have b1:=hb.2.1;have b3:=hb.2.2.1;have b4:=hb.2.2.2.1;have hC:=JY (Γ:=Γ) (fl:=false) (NZ c.af) c.hG (by omega) (h:=Ic c) trivial;have e0:((c.aG.length:Int)+c.ai.length+c.af.length<=200)=(c.aG.length+c.ai.length+c.af.length<=200):=propext (by omega);have e1:((c.bf.length:Int)<=200)=(c.bf.length<=200):=propext (by omega);refine .run 160 Kt (by simp) ?_;unfold iF
  by_cases h1:c.aG.length+c.ai.length+c.af.length<=200
  ·by_cases h2:c.bf.length<=200
   ·simp(disch:=omega) [e0,e1,h1,h2];refine .aX 160 hC ?_
    have h3:bu r_ c.af=true:=by
     simp only[jg,fa,bj]at hl
     rcases hl with h|h|h
     ·exact h
     ·omega
     ·omega
    rw[h3];simp;refine .lN 160 (by simp) (l7 8 []) ?_;simp;refine .dr 90 ?_;simp;exact .back (by simp[hl])
   ·simp(disch:=omega) [e0,e1,h1,h2];refine .lN 160 (by simp) (l7 8 []) ?_;simp;refine .dr 90 ?_;simp;exact .back (by simp[hl])
  ·simp(disch:=omega) [e0,e1,h1];refine .lN 160 (by simp) (l7 8 []) ?_;simp;refine .dr 90 ?_;simp;exact .back (by simp[hl])
def kR(c:Ct):Bool:=decide ((iF c).1=0)
theorem Of(hΓ:ek Γ)(c:Ct)(hb:h_ c):aM Tryz.prog Γ z7 [bH c] (.bool (kR c)):=by
 have hC:=MX hΓ c hb;unfold kR;generalize iF c=r at*;obtain⟨e,s⟩:=r;refine .run 60 Wv (by simp) ?_;simp;refine .call 60 (by simp) hC ?_;simp;exact .back (by simp)
theorem w6{c:Ct}(h:kR c=true):eN c/\iF c=(0,[]):=by
 rcases ac0 c with⟨h1,_⟩|⟨h1,h2⟩
 ·exact absurd (DD h) h1
 ·exact⟨h2,h1⟩
theorem rJ{c:Ct}(hb:h_ c)(h:kR c=true):bX c:=Lb hb (w6 h).1.lV
theorem tI{c:Ct}(h:kR c=true):(c.af.map (·.name)).Nodup:=by
 have:=(w6 h).1.nodup;rw[aD,sY]at this;exact this.2.1
end Go.Proofs.YtihmomicdpkabaaGreatDoor
namespace Go.Proofs.YtihmomicdpkabaaGreatDoor
open Go.AM Go.Proofs Go.ChangeShapes Go.WideShapes Go.ChangeAt Go.RowKit
theorem own:ownKnob Tryz.prog.godebug=none:=by kernel_rfl
theorem laid:laidOutB Tryz.prog=true:=by kernel_rfl
theorem agN:mapsRowed Tryz.prog=true:=by kernel_rfl
def G6:List (Lit×DataW Unit):=match(Rows.laid_patchbay_net_ins:DataW Unit)with
 |.map D=>D
 |_=>[]
theorem ady:(Rows.laid_patchbay_net_ins:DataW Unit)=.map G6:=by kernel_rfl
def xU:List (AV×AV):=[(.int .i64 0,p2 0 0),(.int .i64 1,p2 0 0),(.int .i64 2,p2 1 1),(.int .i64 3,p2 1 1),(.int .i64 4,p2 2 8),(.int .i64 5,p2 2 8),(.int .i64 6,p2 2 8),(.int .i64 7,p2 2 8),(.int .i64 8,p2 2 8),(.int .i64 9,p2 2 8),(.int .i64 10,p2 0 8)]
theorem adG:(G6.map fun d=>(jf d.1,n7 d.2))=xU:=by kernel_rfl
theorem afV:Tryz.prog.globalNamed "patchbay/net.ins" =some 1:=by kernel_rfl
theorem ag1:(Tryz.prog.globals[1]?).map (·.type)=some 211:=by kernel_rfl
theorem ag4:Tryz.prog.underlying 211=some (.map 30 63):=by kernel_rfl
theorem S5:Tryz.prog.underlying 30=some (.int .i64):=by kernel_rfl
theorem u74:Tryz.prog.underlying 63=some (.array 2 3):=by kernel_rfl
theorem u3:Tryz.prog.underlying 3=some (.int .i64):=by kernel_rfl
theorem u4:Tryz.prog.underlying 4=some .bool:=by kernel_rfl
abbrev afb:Nat:=2
def Ce:List (Lit×DataW Unit):=match(Rows.laid_patchbay_lower_ops:DataW Unit)with
 |.iface _ (.map D)=>D
 |_=>[]
theorem aeC:(Rows.laid_patchbay_lower_ops:DataW Unit)=.iface "func table" (.map Ce):=by kernel_rfl
def uU:List (List UInt8×FuncId):=[([40,42,112,97,116,99,104,98,97,121,47,108,111,119,101,114,46,98,117,105,108,100,101,114,41,46,110,111,110,101],vQ),
 ([40,42,112,97,116,99,104,98,97,121,47,108,111,119,101,114,46,98,117,105,108,100,101,114,41,46,97,108,108],ta),
 ([40,42,112,97,116,99,104,98,97,121,47,108,111,119,101,114,46,98,117,105,108,100,101,114,41,46,111,110,101],tc),
 ([40,42,112,97,116,99,104,98,97,121,47,108,111,119,101,114,46,98,117,105,108,100,101,114,41,46,111,100,100],td)]
def xW(t:List UInt8):FuncId:=((uU.find? fun p=>p.1==t).map (·.2)).getD 0
def B_:List (AV×AV):=(List.range 10).map fun(n:Nat)=>(.int .i64 (n:Int),II (pB (n:Int)) ((n%2:Nat):Int))
theorem adC:((DataW.funcsOutEntries Ce).map fun d=>(jf d.1,n3 xW d.2))=B_:=by kernel_rfl
theorem agu:Tryz.prog.globalNamed "patchbay/lower.ops" =some 0:=by kernel_rfl
theorem agO:(Tryz.prog.globals[0]?).map (·.type)=some 111:=by kernel_rfl
theorem agQ:Tryz.prog.underlying 111=some (.map 30 109):=by kernel_rfl
def Px:DataW (List UInt8)->Bool
 |.agg [.held t,.lit (.int .i64 _)]=>uU.any fun p=>p.1==t
 |_=>false
theorem abg:((DataW.funcsOutEntries Ce).all fun d=>Px d.2)=true:=by kernel_rfl
theorem ack:((List.range Tryz.prog.funcs.size).all fun f=>match Tryz.prog.funcs[f]? with
 |some fn=>!(uU.any fun p=>p.1==fn.name.toUTF8.data.toList)||xW fn.name.toUTF8.data.toList==f
 |none=>true)=true:=by kernel_rfl
theorem agG:∃fs,Tryz.prog.underlying 109=some (.struct fs)/\fs.toList.map (fun f=>(f.type,f.offset))=[(107,0),(3,1)]:=⟨_,Tryz.underlying109,by kernel_rfl⟩
theorem ac6{t:List UInt8}(h:(uU.any fun p=>p.1==t)=true)(f:FuncId)(fn:Func)(hf:Tryz.prog.funcs[f]? =some fn)(hn:fn.name.toUTF8.data.toList=t):xW t=f:=by
 have hs:f<Tryz.prog.funcs.size:=by
  refine vA fun hc=>?_
  rw[nE (Nat.le_of_not_lt hc)]at hf
  cases hf
 have h1:=dw.1 ack f (ew.2 hs);generalize Tryz.prog.funcs[f]? =o at hf h1;subst hf;have h2:(!(uU.any fun p=>p.1==fn.name.toUTF8.data.toList)||xW fn.name.toUTF8.data.toList==f)=true:=h1;rw[hn,h]at h2;simpa using h2
theorem abO{W:World}(h:laidMetH Tryz.prog Rows.lowerOnceRow.laid W):∃Γ:Nat->Option AV,(ek Γ/\uV Γ)/\∀n a,Γ n=some a->aK 0 a.cells=true/\∃vs,VL (gw W) [] a.cells vs/\∀j(hj:j<vs.length),W.cell? ⟨n,j,none⟩=some vs[j]:=by
 obtain⟨ks,us,h1,h2,z,hz,hm⟩:=ab0 (YP h) (by kernel_rfl) (name:= "patchbay/net.ins") (D:=G6) (by
  rw[<-ady]
  refine dT.2 ⟨ee _ (pZ ..),by kernel_rfl⟩) afV ag1 ag4
  (fun v q hq=>by obtain⟨a,b,_⟩:=Oa S5 (g:=gw W) (h:=[]) hq;exact⟨a,b⟩) (fun n v x hf ht=>abH u74 u3 (by kernel_rfl) (by kernel_rfl) hf ht)
 obtain⟨fs,hfs,hfs2⟩:=agG
 obtain⟨ks2,us2,h12,h22,z2,hz2,hm2⟩:=Z8 h (name:= "patchbay/lower.ops") (en:=Ce) (by
  rw[<-aeC]
  exact ee _ (ee _ (pZ ..))) xW agu agO agQ
  (fun v q hq=>by obtain⟨a,b,_⟩:=Oa S5 (g:=gw W) (h:=[]) hq;exact⟨a,b⟩) (fun n v x hx hf ht=>by
   obtain⟨d,hd,he⟩:=hx;have h4:=dw.1 abg d hd;rw[he]at h4
   obtain⟨t0,k0,hxe,hk0⟩:∃t0 k0,x.1=.agg [.held t0,.lit (.int .i64 k0)]/\(uU.any fun p=>p.1==t0)=true:=by
    unfold Px at h4
    split at h4
    ·rename_i t0 k0 hxe;exact⟨t0,k0,hxe,h4⟩
    ·cases h4
   refine ach hfs hfs2 (by kernel_rfl) u3 (by kernel_rfl) (by kernel_rfl) (by kernel_rfl) hxe ?_ (ac6 hk0) hf ht
   rintro rfl
   exact absurd hk0 (by decide))
 have hcase:∀n m:Int,(cn (.sc .int) (.int .i64 n) (.int .i64 m)=some true/\AV.int .i64 n=.int .i64 m)\/(cn (.sc .int) (.int .i64 n) (.int .i64 m)=some false/\AV.int .i64 n≠.int .i64 m):=by
  intro n m
  by_cases hnm:n=m
  ·exact .inl ⟨by simp[cn,eL,hnm],by rw[hnm]⟩
  ·exact .inr ⟨by simp[cn,eL,hnm],by simp[hnm]⟩
 refine⟨fun n=>if n=1 then some (.dg ks us)else if n=0 then some (.dg ks2 us2)else none,⟨⟨ks,us,rfl,fun n=>?_⟩,⟨ks2,us2,rfl,fun n=>?_⟩⟩,fun n a hn=>?_⟩
 ·rw[hz];rw[adG]at hm
  obtain⟨r,e1,e2,e3⟩:=D2 (.sc .int) (.int .i64 n) z (by
   intro y hy;have hy2:=(hm y).1 hy;simp only[xU,bw,p1,pP]at hy2
   rcases hy2 with rfl|rfl|rfl|rfl|rfl|rfl|rfl|rfl|rfl|rfl|rfl<;>exact hcase _ _)
  rw[e1];unfold G4
  cases r with
  |some v=>
   have hv:=(hm _).1 (e3 v rfl);simp only[xU,bw,p1,pP,bT,AV.int.injEq,vr]at hv
   rcases hv with⟨rfl,rfl⟩|⟨rfl,rfl⟩|⟨rfl,rfl⟩|⟨rfl,rfl⟩|⟨rfl,rfl⟩|⟨rfl,rfl⟩|⟨rfl,rfl⟩|⟨rfl,rfl⟩|⟨rfl,rfl⟩|⟨rfl,rfl⟩|⟨rfl,rfl⟩<;>rfl
  |none=>
   have hno:∀y∈xU,¬(AV.int .i64 n=y.1):=fun y hy=>e2 rfl y ((hm y).2 hy)
   simp only[xU,bw,p1,pP,JB,forall_eq,AV.int.injEq,vr]at hno;rw[if_neg (by omega),if_neg (by omega),if_neg (by omega),if_neg (by omega)]
 ·rw[hz2];rw[adC]at hm2
  obtain⟨r,e1,e2,e3⟩:=D2 (.sc .int) (.int .i64 n) z2 (by
   intro y hy;have hy2:=(hm2 y).1 hy;simp only[B_,cF]at hy2;obtain⟨k,_,rfl⟩:=hy2
   exact hcase _ _)
  rw[e1];unfold B4
  cases r with
  |some v=>
   have hv:=(hm2 _).1 (e3 v rfl);simp only[B_,cF,ew,bT,AV.int.injEq,vr]at hv;obtain⟨k,hk,rfl,rfl⟩:=hv;rw[if_pos (by omega)];simp
  |none=>
   have hno:∀y∈B_,¬(AV.int .i64 n=y.1):=fun y hy=>e2 rfl y ((hm2 y).2 hy)
   rw[if_neg]
   rintro⟨h0,h9⟩
   obtain⟨k,rfl⟩:=ky h0;exact hno (.int .i64 k,II (pB k) ((k%2:Nat):Int)) (cF.2 ⟨k,ew.2 (by omega),rfl⟩) rfl
 ·simp only at hn
  split at hn
  ·rename_i h0
   cases hn
   subst h0;exact⟨h1,h2⟩
  ·split at hn
   ·rename_i h0
    cases hn
    subst h0;exact⟨h12,h22⟩
   ·cases hn
noncomputable def Gw(os:Os):World:=
 {World.doorLaid Tryz.prog 4000 os with heap:=((World.doorLaid Tryz.prog 4000 os).heap.toList.zipIdx.map fun x=>if x.2=afb then(match x.1 with
  |.cells _ t q=>.cells (Go.Pinned.utf8FirstZ.map fun n:Nat=>Value.int .u8 (n:Int)).toArray t q
  |o=>o)else x.1).toArray}
theorem acH(os:Os)(args:Array Value):laidMetH Tryz.prog Rows.lowerOnceRow.laid ((Gw os).forCall (fun _ _=>0) ⟨#[],args,[]⟩).memory:=
 laidMetH_of_parts3 (fuel:=8) (laidMet_of_run' 8 (by kernel_rfl) (by kernel_rfl)) (by kernel_rfl) (by kernel_rfl)
abbrev shI:Sh:=.int .i64
abbrev xV:Sh:=.list 1 false .str
abbrev P3:Sh:=.parts [.str,.str,.int .i64]
abbrev Qf:Sh:=.parts [.str,.int .i64,xV,xV,.bool]
abbrev P_:Sh:=.parts [xV,xV,.list 3 true P3,.list 5 true Qf]
abbrev B6:Sh:=.list 1 false .bool
abbrev P1:Sh:=.list 1 false B6
theorem aaC{B:Nat}{cs:List AV}(h:dD B B6 cs):∃l:List Bool,cs=[.list false 1 (l.map .bool)]:=by
 simp only[dD]at h;obtain⟨xs,rfl,h0,h1⟩:=h
 obtain⟨l,hl,hn⟩:=rT (f:=kj false) (e:=AV.bool) (fun x hx=>by
  obtain⟨⟨n,rfl⟩,_⟩:=h1 x hx
  exact⟨n,rfl⟩)
 exact⟨l,by rw[hl]⟩
theorem abE{B:Nat}{cs:List AV}(h:dD B P1 cs):∃l:List (Nat×List Bool),cs=[.list false 1 (l.map gR)]/\∀x∈l,Kd 1 x.1 x.2:=by
 rw[dD]at h;obtain⟨xs,rfl,_,h1⟩:=h
 obtain⟨l,hl,_⟩:=rT (f:=kj false) (e:=fun q:List Bool=>gR (1,q)) (fun x hx=>by
  obtain⟨t,ht⟩:=aaC (h1 x hx).1
  exact⟨t,by rw[ht];rfl⟩)
 refine⟨l.map fun q=>(1,q),by rw[hl,iz];rfl,fun x hx=>?_⟩;obtain⟨y,_,rfl⟩:=cF.1 hx;exact .self
theorem agB{B:Nat}{cs:List AV}(h:dD B shI cs):∃n:Int,cs=[.int .i64 n]:=by
 simp only[dD]at h;obtain⟨n,rfl,h1,h2⟩:=h;exact⟨n,rfl⟩
theorem aep{B:Nat}{cs:List AV}(h:dD B .str cs):∃s:List UInt8,cs=[.str s]/\s.length<=B:=by
 simp only[dD]at h;exact h
theorem AY{B:Nat}{cs:List AV}(h:dD B xV cs):∃l:List (List UInt8),cs=[.list false 1 (l.map .str)]/\l.length<=B/\∀s∈l,s.length<=B:=by
 simp only[dD]at h;obtain⟨xs,rfl,h0,h1⟩:=h
 obtain⟨l,hl,hn⟩:=rT (f:=kj false) (e:=fun s:{s:List UInt8//s.length<=B}=>AV.str s.val) (fun x hx=>by
  obtain⟨⟨n,rfl,hb⟩,_⟩:=h1 x hx
  exact⟨⟨n,hb⟩,rfl⟩)
 refine⟨l.map (·.val),by rw[hl,iz];rfl,by rw[iB];omega,fun s hs=>?_⟩;obtain⟨x,_,rfl⟩:=cF.1 hs;exact x.property
def HE(B:Nat)(q:Lt):Prop:=q.name.length<=B/\q.next.length<=B
def IT(B:Nat)(g:Gt):Prop:=g.name.length<=B/\g.ins.length<=B/\g.rows.length<=B/\(∀s∈g.ins,s.length<=B)/\∀s∈g.rows,s.length<=B
def yV(B:Nat)(c:Ct):Prop:=c.aG.length<=B/\c.bf.length<=B/\c.ai.length<=B/\c.af.length<=B/\(∀g∈c.af,IT B g)/\(∀s∈c.aG,s.length<=B)/\(∀s∈c.bf,s.length<=B)/\∀q∈c.ai,HE B q
theorem yV.CY{B:Nat}{c:Ct}(h:yV B c)(hB:B<2^40):h_ c:=by
 obtain⟨h1,h2,h3,h4,h5,h6,h7,h8⟩:=h;refine⟨by omega,by omega,by omega,by omega,fun g hg=>?_,fun s hs=>?_,fun s hs=>?_,fun q hq=>?_⟩
 ·obtain⟨a,b,d,e,f⟩:=h5 g hg;exact⟨by omega,by omega,by omega,fun s hs=>by have:=e s hs;omega,fun s hs=>by have:=f s hs;omega⟩
 ·have:=h6 s hs;omega
 ·have:=h7 s hs;omega
 ·obtain⟨a,b⟩:=h8 q hq;exact⟨by omega,by omega⟩
theorem dec_lt{B:Nat}{cs:List AV}(h:dD B P3 cs):∃q:Lt,AV.agg cs=nD q/\HE B q:=by
 simp only[dD,qu]at h;obtain⟨_,_,rfl,⟨a,rfl,ha⟩,_,_,rfl,⟨b,rfl,hb⟩,_,_,rfl,⟨m,rfl,_⟩,rfl⟩:=h;exact⟨⟨a,b,m⟩,rfl,ha,hb⟩
theorem ae1{B:Nat}{cs:List AV}(h:dD B Qf cs):∃g:Gt,AV.agg cs=cU g/\IT B g:=by
 rw[dD]at h;simp only[qu]at h;obtain⟨_,_,rfl,h1,_,_,rfl,h2,_,_,rfl,h3,_,_,rfl,h4,_,_,rfl,h5,rfl⟩:=h;obtain⟨n,rfl,hn⟩:=aep h1;obtain⟨op,rfl⟩:=agB h2;obtain⟨i,rfl,hi,hi2⟩:=AY h3;obtain⟨r,rfl,hr,hr2⟩:=AY h4;simp only[dD]at h5;obtain⟨b,rfl⟩:=h5;exact⟨⟨n,op,i,r,b,1,1,.self,.self⟩,rfl,hn,hi,hr,hi2,hr2⟩
theorem ae9{B:Nat}{cs:List AV}(h:dD B P_ cs):∃c:Ct,AV.agg cs=bH c/\yV B c:=by
 rw[dD]at h;simp only[qu]at h;obtain⟨_,_,rfl,h1,_,_,rfl,h2,_,_,rfl,h3,_,_,rfl,h4,rfl⟩:=h;obtain⟨i,rfl,hi,hi2⟩:=AY h1;obtain⟨o,rfl,ho,ho2⟩:=AY h2;rw[dD]at h3 h4;obtain⟨xs,rfl,hxs,h3⟩:=h3;obtain⟨ys,rfl,hys,h4⟩:=h4
 obtain⟨l,hl,hn⟩:=rT (f:=kj true) (e:=fun q:{q:Lt//HE B q}=>nD q.val) (fun x hx=>by
  obtain⟨t,ht,hb⟩:=dec_lt (h3 x hx).1
  exact⟨⟨t,hb⟩,ht⟩)
 obtain⟨g,hg,hm⟩:=rT (f:=kj true) (e:=fun q:{q:Gt//IT B q}=>cU q.val) (fun x hx=>by
  obtain⟨t,ht,hb⟩:=ae1 (h4 x hx).1
  exact⟨⟨t,hb⟩,ht⟩)
 refine⟨⟨i,o,l.map (·.val),g.map (·.val),1,1,3,5,.self,.self,.self,.self⟩,by rw[hl,hg];simp[bH,iz,zx],hi,ho,by rw[iB];omega,by rw[iB];omega,fun x hx=>?_,hi2,ho2,fun x hx=>?_⟩
 ·obtain⟨y,_,rfl⟩:=cF.1 hx;exact y.property
 ·obtain⟨y,_,rfl⟩:=cF.1 hx;exact y.property
end Go.Proofs.YtihmomicdpkabaaGreatDoor
namespace Go.Proofs.YtihmomicdpkabaaGreatDoor
open Go.AM Go.Proofs
variable{Γ:Nat->Option AV}
def jF(c:Ct)(out:List Nat):List (Bs×Nat):=(cj c).filter fun x=>!out.contains x.2
theorem Gp{c:Ct}{x:Bs×Nat}(hx:x∈cj c):∃h:x.2<c.af.length,x.1=c.af[x.2].name:=by
 obtain⟨j,hj,rfl⟩:=kC hx;rw[uo]at hj;rw[xf c j hj];exact⟨hj,rfl⟩
theorem A0{c:Ct}(hd:(c.af.map (·.name)).Nodup){i j:Nat}(hi:i<c.af.length)(hj:j<c.af.length)(h:c.af[i].name=c.af[j].name):i=j:=by
 have h1:(c.af.map (·.name))[i]'(by simpa using hi)=(c.af.map (·.name))[j]'(by simpa using hj):=by simpa using h
 exact(zw hd).1 h1
theorem ZT{c:Ct}(hd:(c.af.map (·.name)).Nodup)(out:List Nat){a:Nat}(ha:a<c.af.length):oj c.af[a].name (jF c out)=jF c (out++[a]):=by
 unfold oj jF;rw[List.filter_filter];apply List.filter_congr;intro x hx;obtain⟨h1,h2⟩:=Gp hx;have e:(x.1=c.af[a].name)↔x.2=a:=⟨fun h=>A0 hd h1 ha (by rw[<-h2,h]),fun h=>by rw[h2];simp[h]⟩;rw[fJ];simp only[av,bj,ju,zp,jr,bn,dG,not_or,e];exact⟨fun h=>⟨h.2,h.1⟩,fun h=>⟨h.2,h.1⟩⟩
theorem Yq{c:Ct}(hd:(c.af.map (·.name)).Nodup)(out:List Nat):((jF c out).map (·.1)).Nodup:=by
 have h1:((cj c).map (·.1)).Nodup:=by rw[abV];exact hd
 exact h1.sublist ((List.filter_sublist).map _)
theorem LA(c:Ct):jF c []=cj c:=by simp[jF]
theorem Lm{c:Ct}(hd:(c.af.map (·.name)).Nodup)(out:List Nat){i:Nat}(hi:i<c.af.length):getM c.af[i].name (jF c out)=if i∈out then none else some i:=by
 have key:∀l:List (Bs×Nat),(∀x∈l,x∈cj c)->getM c.af[i].name (l.filter fun x=>!out.contains x.2)=if i∈out then none else if(c.af[i].name,i)∈l then some i else none:=by
  intro l
  induction l with
  |nil=>intro _;simp[getM]
  |cons x l ih=>
   intro hl;obtain⟨h1,h2⟩:=Gp (hl x (by simp))
   have ih:=ih fun y hy=>hl y (by simp[hy])
   by_cases hx:x.2=i
   ·have hx1:x=(c.af[i].name,i):=by
     obtain⟨a,b⟩:=x;simp only at hx h2;subst hx;rw[h2]
    by_cases ho:i∈out
    ·rw[zu,if_neg (by rw[hx1];simpa using ho),ih,if_pos ho,if_pos ho]
    ·rw[zu,if_pos (by rw[hx1];simpa using ho),if_neg ho,hx1];simp[getM]
   ·have hne:¬c.af[i].name=x.1:=fun h=>hx (A0 hd h1 hi (by rw[<-h2,h])).symm.symm
    have hm:((c.af[i].name,i)∈x::l)↔(c.af[i].name,i)∈l:=by
     rw[bw];exact⟨fun h=>h.resolve_left fun h=>hx (by rw[<-h]),.inr⟩
    rw[zu]
    split
    ·rw[getM,if_neg hne,ih];simp only[hm]
    ·rw[ih];simp only[hm]
 have hm:(c.af[i].name,i)∈cj c:=by
  have:=bx (l:=cj c) (n:=i) (by rw[uo];exact hi);rwa[xf c i hi]at this
 rw[jF,key _ fun x hx=>hx,if_pos hm]
abbrev lpS:Ob:=.loop .ready .none m5 [U,.ptr 0 0,.sl 1 0 0,.sl 2 0 0,.ptr 3 0,.ptr 7 0,U,U,U,U,U,U,U,U,U,U,U,U,U,U,U,U,U,U,U,U,U,U,U,U,U,U,U,U,U,U,U,U,U,U,U,U,U,U,U,U,U,U,U,U,U,U,U,U] [19] (.ae IY) IF
abbrev lpE:Ob:=.loop .exhausted .none m5 [U,.ptr 0 0,.sl 1 0 0,.sl 2 0 0,.ptr 3 0,.ptr 7 0,U,U,U,U,U,U,U,U,U,U,U,U,U,U,U,U,U,U,U,U,U,U,U,U,U,U,U,U,U,U,U,U,U,U,U,U,U,U,U,U,U,U,U,U,U,U,U,U] [19] (.ae IY) IF
abbrev hS(c:Ct)(out:List Nat):List Ob:=[.cells (AV.cells (bH c)),.row 1 aq [] none true false,.row 1 aE [] none true false,.cells [.sl 4 0 out.length],.row 1 aq (out.map iN) none true false,.cells (AV.cells (bH c)),.map ((jF c out).map g_) true,.cells [.mp 6],.cells (AV.cells (bH c)),.bA true,lpS]
set_option maxRecDepth 8000 in
theorem afL(c:Ct)(hd:(c.af.map (·.name)).Nodup)(out:List Nat)(a:Nat)(T:List Ob)(up:List Fr)(ho:out.length<2^20)(ha:a<c.af.length)(hup:∀m,up.all (fX 4 m)=true)(hT:∀m,cJ 4 m T=true):
 AM.Reach Tryz.prog Γ ((jj.yl 10).cfg [.int .i64 a] up (hS c out++T)) (.back up (.bool true) (hS c (out++[a])++T)):=by
 have q2:=bP (c.hG.of ha);have hdl:=L_ (E:=.sc .str) (e:=AV.str) nh (fun n:Nat=>AV.int .i64 n) c.af[a].name (Yq hd out);rw[ZT hd out ha]at hdl
 have hle:(out.length+1)*8<=140737488355328:=by omega
 have hvp:=fun m=>pg 4 m (jF c out)
 simp[jj.cfg];refine .aR 13 ?_;simp(disch:=omega) [hle];refine .trans (.lU [19,20,21,22,23] _) ?_;simp[lS];refine .Bf (i:=4) rfl (by simp) (hup _) (by simp[hT,hvp]) ?_;refine .aR 60 ?_;simp[q2,ha,hdl,isKey,bU,cz]
theorem adE(c:Ct)(out:List Nat):cr (hS c out):=fun m hm=>by
 have h1:=nX m (jF c out);simp at hm
 simp[h1];omega
theorem adz(c:Ct)(out:List Nat):dY (hS c out):=fun i m hi=>by
 have h1:=pg i m (jF c out);simp at hi
 simp[h1];omega
def ml(out:List Nat):List Gt->Nat->List Bs
 |[],_=>[]
 |g::r,i=>if i∈out then ml out r (i+1)else g.name::ml out r (i+1)
set_option maxRecDepth 8000 in
theorem aed(c:Ct)(hc:bX c)(hd:(c.af.map (·.name)).Nodup)(out:List Nat):∀n i:Nat,i+n=c.af.length->∀l:List Bs,l.length<=i->
 aw Tryz.prog Γ (yhy (.ptr 3 0) (.ptr 7 0) (.sl 11 0 l.length) (.list false c.kG (c.af.map cU)) (.int .i64 c.af.length) (.int .i64 i)
  [.cells (AV.cells (bH c)),.row 1 aq [] none true false,.row 1 aE [] none true false,.cells [.sl 4 0 out.length],.row 1 aq (out.map iN) none true false,.cells (AV.cells (bH c)),.map ((jF c out).map g_) true,.cells [.mp 6],.cells (AV.cells (bH c)),.bA true,lpE,.row 1 aE (l.map .str) none true false] ⟨[.mark 9],.norm,0,[]⟩)
  (.ret (.aB [.own 1 aq (out.map iN),.own 1 aE ((l++ml out (c.af.drop i) i).map .str)])):=by
 have hN:=hc.2.2.2.1
 have hbp:=fun m=>nX m (jF c out)
 have hvp:=fun i m=>pg i m (jF c out)
 intro n
 induction n with
 |zero=>
  intro i hi l hl
  have q1:¬i<c.af.length:=by omega
  rw[br (by omega),ml,eS];refine .go 60 ?_;simp[q1];exact .back (by simp)
 |succ n ih=>
  intro i hi l hl
  have q1:i<c.af.length:=by omega
  have q2:=bP (c.hG.of q1);have hfi:=wB (E:=.sc .str) (e:=AV.str) nh (fun n:Nat=>AV.int .i64 n) c.af[i].name (jF c out);rw[Lm hd out q1]at hfi;rw[bL q1,ml]
  by_cases h0:i∈out
  ·have hh:=ih (i+1) (by omega) l (by omega);rw[if_pos h0]at hfi⊢;refine .go 90 ?_;simp(disch:=omega) [q1,q2,hfi,isKey,bU,cz];refine .aF ?_;simp;refine .drop 12 rfl (by simp) (by simp) (by simp[hbp]) ?_;simp at hh⊢;exact hh
  ·have hh:=ih (i+1) (by omega) (l++[c.af[i].name]) (by simp;omega)
   have hle:((l.length:Int)+1)*16<=140737488355328:=by omega
   rw[if_neg h0]at hfi⊢;refine .go 90 ?_;simp(disch:=omega) [q1,q2,hfi,isKey,bU,cz,hle];refine .aF ?_;simp;refine .drop 12 rfl (by simp) (by simp) (by simp[hbp]) ?_;refine .reset (i:=11) rfl (by simp) (by simp) (by simp[hvp]) ?_;simp at hh⊢;exact hh
set_option maxRecDepth 8000 in
theorem afN(hΓ:ek Γ)(c:Ct)(hb:h_ c)(hr:kR c=true)(f:Nat)(hf:f<=2^14)(hE:GY c f)(hl:(n9 c f).length<2^20):aM Tryz.prog Γ m5 [bH c] (.aB [.own 1 aq ((n9 c f).map iN),.own 1 aE ((ml (n9 c f) c.af 0).map .str)]):=by
 have hc:=rJ hb hr;have hd:=tI hr;have hR:=Of hΓ c hb;rw[hr]at hR
 have hpl:=fun h hw up=>Ny (Γ:=Γ) c hc (tI hr) (h:=h) hw up
 have hfold:∀(l out:List Nat),l.foldl (fun x a=>x++[a]) out=out++l:=by
  intro l
  induction l with
  |nil=>intro out;simp
  |cons a l ih=>intro out;rw[vq,ih];simp
 have hcm:=fun up hup=>aaO (Γ:=Γ) c hc hd (hS c) (fun x a=>x++[a]) 11 10 4 8 (fun _=>rfl) (adE c) (adz c) (by omega) (by omega) (fun _=>rfl) (fun x k=>x.length=k) (fun x k a h _=>by simp[h]) (fun x k a T up h hk ha hup hT=>afL c hd x a T up (by omega) ha hup hT) up hup [] rfl f hf hE
 rw[hfold,lq]at hcm;have h1:=aed (Γ:=Γ) c hc hd (n9 c f) c.af.length 0 (by omega) [] (by simp);refine .run 60 Ke (by simp) ?_;simp;refine .call 60 (by simp) hR ?_;simp;refine .aX 60 (hpl _ ?_) ?_
 ·intro m hm;simp at hm
  simp;omega
 simp;refine .go 60 ?_;simp;refine .enter 60 Wh ?_;simp;rw[<-LA c];refine .reach (hcm _ ?_) (.go 60 ?_)
 ·simp
 simp;refine .inLoop ?_;simp at h1⊢;exact h1
theorem aeB(hΓ:ek Γ)(c:Ct)(hb:h_ c)(hr:kR c=false):aM Tryz.prog Γ m5 [bH c] (.aB [.own 1 aq [],.own 1 aE []]):=by
 have hR:=Of hΓ c hb;rw[hr]at hR;refine .run 60 Ke (by simp) ?_;simp;refine .call 60 (by simp) hR ?_;simp;exact .back (by simp)
end Go.Proofs.YtihmomicdpkabaaGreatDoor
namespace Go.Proofs.YtihmomicdpkabaaGreatDoor
open Go.AM Go.Proofs
def eQ(c:Ct)(i j:Nat):Bool:=match c.af[i]?,c.af[j]? with
 |some g,some h=>g.ins.contains h.name
 |_,_=>false
theorem sa{c:Ct}{i j:Nat}(h:eQ c i j=true):i<c.af.length/\j<c.af.length:=by
 unfold eQ at h
 split at h
 ·rename_i g h' h1 h2;exact⟨(cW.1 h1).1,(cW.1 h2).1⟩
 ·cases h
theorem xx{c:Ct}{i j:Nat}(hi:i<c.af.length)(hj:j<c.af.length):eQ c i j=true↔c.af[j].name∈c.af[i].ins:=by
 simp[eQ,hi,hj]
theorem Nr{K V:Type}[DecidableEq K]{k:K}{v:V}:∀{l:List (K×V)},getM k l=some v->(k,v)∈l
 |[],h=>by cases h
 |(a,u)::l,h=>by
  rw[getM]at h
  split at h
  ·rename_i h1;cases h;subst h1;simp
  ·exact ee _ (Nr h)
theorem O8{c:Ct}(hd:(c.af.map (·.name)).Nodup){s:Bs}{k:Nat}:getM s (cj c)=some k↔∃h:k<c.af.length,c.af[k].name=s:=by
 constructor
 ·intro h;obtain⟨h1,h2⟩:=Gp (Nr h);exact⟨h1,h2.symm⟩
 ·rintro⟨h,rfl⟩
  have:=Lm hd [] h;rw[LA]at this;simpa using this
theorem AH(pl:List (Bs×Nat))(x:Nat):∀(l:List Bs)(a:List Nat),x∈eJ pl l a↔x∈a\/∃s∈l,getM s pl=some x
 |[],a=>by simp[eJ]
 |s::r,a=>by
  rw[eJ]
  split
  ·rename_i h0;rw[AH pl x r a];simp[h0]
  ·rename_i k h0;rw[AH pl x r]
   have hk:(x∈if k∈a then a else a++[k])↔x∈a\/x=k:=by
    split
    ·rename_i hm;exact⟨.inl,fun h=>h.elim id fun h=>h▸hm⟩
    ·simp
   rw[hk];simp only[bw,exists_eq_or_imp,h0,ak];constructor
   ·rintro((h|h)|h)
    ·exact .inl h
    ·exact .inr (.inl h.symm)
    ·exact .inr (.inr h)
   ·rintro(h|h|h)
    ·exact .inl (.inl h)
    ·exact .inl (.inr h.symm)
    ·exact .inr h
theorem Ay(pl:List (Bs×Nat)):∀(l:List Gt)(i:Nat)(nd b:List (List Nat)),(fq pl l i nd b).1=nd++l.map fun g=>eJ pl g.ins []
 |[],_,_,_=>by simp[fq]
 |g::r,i,nd,b=>by rw[fq,Ay pl r];simp
theorem wy{c:Ct}(hd:(c.af.map (·.name)).Nodup){i:Nat}(hi:i<c.af.length)(x:Nat):x∈(dU c).getD i []↔eQ c i x=true:=by
 have e:(dU c).getD i []=eJ (cj c) c.af[i].ins []:=by
  rw[dU,Ay];simp[hi]
 rw[e,AH];constructor
 ·rintro(h|⟨s,hs,h⟩)
  ·cases h
  ·obtain⟨h1,h2⟩:=(O8 hd).1 h;exact(xx hi h1).2 (h2▸hs)
 ·intro h;obtain⟨_,h1⟩:=sa h;exact .inr ⟨_,(xx hi h1).1 h,(O8 hd).2 ⟨h1,rfl⟩⟩
theorem Bi(pl:List (Bs×Nat))(i k:Nat):∀(l:List Bs)(a:List Nat)(b:List (List Nat)),k<b.length->(jm pl i l a b).getD k []=if k∈eJ pl l a/\k∉a then b.getD k []++[i]else b.getD k []
 |[],a,b,hk=>by
  rw[jm,eJ,if_neg (fun h=>h.2 h.1)]
 |s::r,a,b,hk=>by
  rw[jm,eJ]
  split
  ·exact Bi pl i k r a b hk
  ·rename_i k0 h0
   by_cases hm:k0∈a
   ·simp only[if_pos hm];exact Bi pl i k r a b hk
   ·simp only[if_neg hm];rw[Bi pl i k r _ _ (by simpa using hk)]
    have hset:(b.set k0 (b.getD k0 []++[i])).getD k []=if k0=k then b.getD k []++[i]else b.getD k []:=by
     simp only[bp,nH]
     by_cases h1:k0=k
     ·subst h1;simp[hk]
     ·simp[h1]
    rw[hset]
    by_cases h1:k0=k
    ·subst h1;have hin:k0∈eJ pl r (a++[k0]):=(AH pl k0 r _).2 (.inl (by simp));rw[if_neg (by simp),if_pos rfl,if_pos ⟨hin,hm⟩]
    ·have hiff:(k∈eJ pl r (a++[k0])/\k∉a++[k0])↔(k∈eJ pl r (a++[k0])/\k∉a):=by
      simp only[bn,dG,not_or];exact⟨fun h=>⟨h.1,h.2.1⟩,fun h=>⟨h.1,h.2,fun h2=>h1 h2.symm⟩⟩
     rw[if_neg h1];simp only[hiff]
def mR(pl:List (Bs×Nat))(k:Nat):List Gt->Nat->List Nat
 |[],_=>[]
 |g::r,i=>if k∈eJ pl g.ins []then i::mR pl k r (i+1)else mR pl k r (i+1)
theorem Mc(pl:List (Bs×Nat))(k:Nat):∀(l:List Gt)(i:Nat)(nd b:List (List Nat)),k<b.length->(fq pl l i nd b).2.getD k []=b.getD k []++mR pl k l i
 |[],_,_,_,_=>by simp[fq,mR]
 |g::r,i,nd,b,hk=>by
  rw[fq,Mc pl k r _ _ _ (by rw[xo];exact hk),Bi pl i k g.ins [] b hk,mR]
  split
  ·rename_i h
   rw[if_pos h.1];simp
  ·rename_i h;rw[if_neg fun h1=>h ⟨h1,by simp⟩]
theorem FY(pl:List (Bs×Nat))(k j:Nat):∀(l:List Gt)(i:Nat),j∈mR pl k l i↔∃t,∃h:t<l.length,j=i+t/\k∈eJ pl l[t].ins []
 |[],i=>by simp[mR]
 |g::r,i=>by
  have ih:=FY pl k j r (i+1)
  have hs:(∃t,∃h:t<(g::r).length,j=i+t/\k∈eJ pl (g::r)[t].ins [])↔(j=i/\k∈eJ pl g.ins [])\/∃t,∃h:t<r.length,j=i+1+t/\k∈eJ pl r[t].ins []:=by
   constructor
   ·rintro⟨t,h,e,hm⟩
    cases t with
    |zero=>exact .inl ⟨e,hm⟩
    |succ t=>exact .inr ⟨t,by simpa using h,by omega,hm⟩
   ·rintro(⟨e,hm⟩|⟨t,h,e,hm⟩)
    ·exact⟨0,by simp,e,hm⟩
    ·exact⟨t+1,by simpa using h,by omega,hm⟩
  rw[hs,mR]
  split
  ·rename_i h0;simp only[bw,ih,h0,ow]
  ·rename_i h0;simp only[ih,h0,and_false,false_or]
theorem EU(pl:List (Bs×Nat))(k:Nat):∀(l:List Gt)(i:Nat),(mR pl k l i).Nodup
 |[],i=>by simp[mR]
 |g::r,i=>by
  rw[mR]
  split
  ·rw[l5];refine⟨fun h=>?_,EU pl k r (i+1)⟩;obtain⟨t,_,e,_⟩:=(FY pl k i r (i+1)).1 h;omega
  ·exact EU pl k r (i+1)
theorem N2(c:Ct){k:Nat}(hk:k<c.af.length):(bF c).getD k []=mR (cj c) k c.af 0:=by
 rw[bF,Mc _ _ _ _ _ _ (by simpa using hk)];simp[hk]
theorem uj{c:Ct}(hd:(c.af.map (·.name)).Nodup){k:Nat}(hk:k<c.af.length)(i:Nat):i∈(bF c).getD k []↔eQ c i k=true:=by
 rw[N2 c hk,FY];constructor
 ·rintro⟨t,ht,e,hm⟩
  have:i=t:=by omega
  subst this;rw[<-wy hd ht,dU,Ay];simpa[ht]using hm
 ·intro h;obtain⟨hi,_⟩:=sa h;refine⟨i,hi,by omega,?_⟩;rw[<-wy hd hi,dU,Ay]at h;simpa[hi]using h
theorem Ld(c:Ct){k:Nat}(hk:k<c.af.length):((bF c).getD k []).Nodup:=by rw[N2 c hk];exact EU _ _ _ _
def ji(c:Ct)(done:List Nat)(k:Nat):Bool:=!done.contains k&&(List.range c.af.length).all fun x=>!eQ c k x||done.contains x
theorem jw{c:Ct}{done:List Nat}{k:Nat}:ji c done k=true↔k∉done/\∀x,eQ c k x=true->x∈done:=by
 simp only[ji,av,ju,zp,jr,dw,ew,fa,bj];constructor
 ·rintro⟨h1,h2⟩
  refine⟨h1,fun x hx=>?_⟩
  rcases h2 x (sa hx).2 with h|h
  ·rw[h]at hx;cases hx
  ·exact h
 ·rintro⟨h1,h2⟩
  refine⟨h1,fun x _=>?_⟩
  cases hx:eQ c k x with
  |false=>exact .inl rfl
  |true=>exact .inr (h2 x hx)
def lK(c:Ct)(done:List Nat):Option Nat:=(List.range c.af.length).find? (ji c done)
def jb(c:Ct):Nat->List Nat->List Nat
 |0,_=>[]
 |f+1,done=>match lK c done with
  |none=>[]
  |some k=>k::jb c f (done++[k])
def aP(c:Ct):List Nat:=jb c c.af.length []
theorem Zq{c:Ct}{done:List Nat}{a:Nat}(ha:a<c.af.length)(h1:ji c done a=true)(h2:∀j<a,ji c done j=false):lK c done=some a:=by
 rw[lK,List.find?_range_eq_some];exact⟨h1,by simpa using ha,fun j hj=>by simp[h2 j hj]⟩
theorem YC{c:Ct}{done:List Nat}(h:∀a<c.af.length,ji c done a=false):lK c done=none:=by
 rw[lK,List.find?_eq_none];intro x hx
 rw[h x (by simpa using hx)];simp
theorem Mx{c:Ct}{done:List Nat}{a:Nat}(h:lK c done=some a):a<c.af.length/\ji c done a=true/\∀j<a,ji c done j=false:=by
 rw[lK,List.find?_range_eq_some]at h;exact⟨by simpa using h.2.1,h.1,fun j hj=>by simpa using h.2.2 j hj⟩
theorem abL{c:Ct}{done:List Nat}(h:lK c done=none){a:Nat}(ha:a<c.af.length):ji c done a=false:=by
 rw[lK,List.find?_eq_none]at h;simpa using h a (by simpa using ha)
structure Inv(c:Ct)(done:List Nat)(nd:List (List Nat))(l:List Nat):Prop where
 len:nd.length=c.af.length
 RW:∀i<c.af.length,∀x,x∈nd.getD i []↔eQ c i x=true/\x∉done
 ls:∀i,i∈l↔i<c.af.length/\ji c done i=true
 za:l.Nodup
 heap:kU l.length l
 TC:done.Nodup
 lt:∀x∈done,x<c.af.length
 all:∀i∈done,∀x,eQ c i x=true->x∈done
structure sA(c:Ct)(done:List Nat)(a:Nat)(r:List Nat)(nd:List (List Nat))(l:List Nat):Prop where
 len:nd.length=c.af.length
 k9:∀i<c.af.length,i∈r->∀x,x∈nd.getD i []↔eQ c i x=true/\x∉done
 new:∀i<c.af.length,i∉r->∀x,x∈nd.getD i []↔eQ c i x=true/\x∉done++[a]
 ls:∀i,i∈l↔i<c.af.length/\i∉r/\ji c (done++[a]) i=true
 za:l.Nodup
 heap:kU l.length l
theorem acQ(a:Nat)(l:List Nat)(x:Nat):x∈dn a l↔x∈l/\x≠a:=by simp[dn]
theorem sA.run{c:Ct}{done:List Nat}{a:Nat}(ha:a∉done)(haa:∀x,eQ c a x=true->x∈done)(hall:∀i∈done,∀x,eQ c i x=true->x∈done):∀(r:List Nat)(nd:List (List Nat))(l s:List Nat),r.Nodup->(∀i∈r,eQ c i a=true)->sA c done a r nd l->
 sA c done a [] (ep a r nd l s).1 (ep a r nd l s).2.1
 |[],nd,l,s,_,_,h=>h
 |i::r,nd,l,s,hr,hW,h=>by
  have hi:=(sa (hW i (by simp))).1;rw[l5]at hr
  have hil:i∉l:=fun hm=>((h.ls i).1 hm).2.1 (by simp)
  have hid:i∉done:=fun hm=>ha (hall i hm a (hW i (by simp)))
  have hia:i≠a:=fun he=>ha (haa a (he▸hW i (by simp)))
  have hg:∀j,(nd.set i (dn a (nd.getD i []))).getD j []=if i=j then dn a (nd.getD i [])else nd.getD j []:=fun j=>by
   simp only[bp,nH]
   by_cases h1:i=j
   ·subst h1;simp[h.len,hi]
   ·simp[h1]
  have hmem:∀x,x∈dn a (nd.getD i [])↔eQ c i x=true/\x∉done++[a]:=fun x=>by
   rw[acQ,h.k9 i hi (by simp) x];simp only[bn,dG,not_or];exact⟨fun h=>⟨h.1.1,h.1.2,h.2⟩,fun h=>⟨⟨h.1,h.2.1⟩,h.2.2⟩⟩
  have hold:∀j<c.af.length,j∈r->∀x,x∈(nd.set i (dn a (nd.getD i []))).getD j []↔eQ c j x=true/\x∉done:=fun j hj hjr x=>by
   have hne:¬i=j:=fun he=>hr.1 (he▸hjr)
   rw[hg,if_neg hne];exact h.k9 j hj (by simp[hjr]) x
  have hnew:∀j<c.af.length,j∉r->∀x,x∈(nd.set i (dn a (nd.getD i []))).getD j []↔eQ c j x=true/\x∉done++[a]:=fun j hj hjr x=>by
   rw[hg]
   by_cases he:i=j
   ·subst he;rw[if_pos rfl];exact hmem x
   ·rw[if_neg he];exact h.new j hj (by simp only[bw,not_or];exact⟨fun h=>he h.symm,hjr⟩) x
  rw[ep]
  split
  ·rename_i h0;refine sA.run ha haa hall r _ _ _ hr.2 (fun j hj=>hW j (by simp[hj])) ⟨by simpa using h.len,hold,hnew,fun j=>?_,?_,KU h.heap i⟩
   ·rw[(wF l i).mem_iff,bw];constructor
    ·rintro(rfl|hj)
     ·refine⟨hi,hr.1,jw.2 ⟨by simp[hid,hia],fun x hx=>?_⟩⟩
      refine T3 fun hn=>?_
      have:=(hmem x).2 ⟨hx,hn⟩
      rw[h0]at this;cases this
     ·have:=(h.ls j).1 hj;exact⟨this.1,fun h2=>this.2.1 (by simp[h2]),this.2.2⟩
    ·rintro⟨h1,h2,h3⟩
     by_cases he:j=i
     ·exact .inl he
     ·exact .inr ((h.ls j).2 ⟨h1,by simp only[bw,not_or];exact⟨he,h2⟩,h3⟩)
   ·rw[(wF l i).nodup_iff,l5];exact⟨hil,h.za⟩
  ·rename_i h0;refine sA.run ha haa hall r _ _ _ hr.2 (fun j hj=>hW j (by simp[hj])) ⟨by simpa using h.len,hold,hnew,fun j=>?_,h.za,h.heap⟩;rw[h.ls j];refine⟨fun⟨h1,h2,h3⟩=>⟨h1,fun h4=>h2 (by simp[h4]),h3⟩,fun⟨h1,h2,h3⟩=>⟨h1,?_,h3⟩⟩;simp only[bw,not_or];refine⟨fun he=>?_,h2⟩;subst he;apply h0;rw[JD];intro x hx;obtain⟨h5,h6⟩:=(hmem x).1 hx;exact h6 ((jw.1 h3).2 x h5)
theorem Inv.step{c:Ct}(hd:(c.af.map (·.name)).Nodup){done:List Nat}{nd:List (List Nat)}{l:List Nat}(h:Inv c done nd l)(h0:l≠[])(s:List Nat):
 lK c done=some (bq l)/\Inv c (done++[bq l]) (ep (bq l) ((bF c).getD (bq l) []) nd (dy l) s).1 (ep (bq l) ((bF c).getD (bq l) []) nd (dy l) s).2.1:=by
 have hpos:0<l.length:=pV.2 h0;have hhr:=Ls hpos;have hal:bq l∈l:=hhr.mem_iff.1 (by simp);obtain⟨ha,hmay⟩:=(h.ls _).1 hal;obtain⟨had,haa⟩:=jw.1 hmay;have hnod:=hhr.nodup_iff.2 h.za;rw[l5]at hnod
 have hn:lK c done=some (bq l):=Zq ha hmay fun j hj=>by
  rw[Dz];intro hm;have:=ac1 h.heap hpos ((h.ls j).2 ⟨by omega,hm⟩);omega
 refine⟨hn,?_⟩
 have hR:sA c done (bq l) ((bF c).getD (bq l) []) nd (dy l):=by
  refine⟨h.len,fun i hi _ x=>h.RW i hi x,fun i hi hir x=>?_,fun i=>?_,hnod.2,YZ h.heap hpos⟩
  ·rw[h.RW i hi x];refine⟨fun⟨h1,h2⟩=>⟨h1,?_⟩,fun⟨h1,h2⟩=>⟨h1,fun h3=>h2 (by simp[h3])⟩⟩;simp only[bn,dG,not_or];exact⟨h2,fun he=>hir ((uj hd ha i).2 (he▸h1))⟩
  ·have hil:i∈l↔i=bq l\/i∈dy l:=by rw[<-hhr.mem_iff,bw]
   constructor
   ·intro hi;obtain⟨h1,h2⟩:=(h.ls i).1 (hil.2 (.inr hi));obtain⟨h3,h4⟩:=jw.1 h2;refine⟨h1,fun hb=>?_,jw.2 ⟨?_,fun x hx=>by simp[h4 x hx]⟩⟩
    ·exact had (h4 _ ((uj hd ha i).1 hb))
    ·simp only[bn,dG,not_or];exact⟨h3,fun he=>hnod.1 (he▸hi)⟩
   ·rintro⟨h1,h2,h3⟩
    obtain⟨h4,h5⟩:=jw.1 h3;simp only[bn,dG,not_or]at h4
    have hi:i∈l:=(h.ls i).2 ⟨h1,jw.2 ⟨h4.1,fun x hx=>by
     have:=h5 x hx;simp only[bn,dG]at this
     rcases this with h6|h6
     ·exact h6
     ·exact absurd ((uj hd ha i).2 (h6▸hx)) h2⟩⟩
    exact(hil.1 hi).resolve_left h4.2
 have hE:=sA.run had haa h.all _ _ _ s (Ld c ha) (fun i hi=>(uj hd ha i).1 hi) hR;refine⟨hE.len,fun i hi x=>hE.new i hi (by simp) x,fun i=>by rw[hE.ls i];simp,hE.za,hE.heap,?_,fun x hx=>?_,fun i hi x hx=>?_⟩
 ·rw[sY];refine⟨h.TC,by simp,fun x hx y hy=>?_⟩;rw[dG]at hy;subst hy
  exact fun he=>had (he▸hx)
 ·rcases bn.1 hx with h1|h1
  ·exact h.lt x h1
  ·rw[dG]at h1;subst h1;exact ha
 ·rcases bn.1 hi with h1|h1
  ·simp[h.all i h1 x hx]
  ·rw[dG]at h1;subst h1;simp[haa x hx]
theorem Fw:∀(N:Nat)(l:List Nat),l.Nodup->(∀x∈l,x<N)->l.length<=N
 |0,[],_,_=>aT _
 |0,x::l,_,h=>absurd (h x (by simp)) (by omega)
 |N+1,l,hn,h=>by
  have h1:=Fw N (l.erase N) (hn.erase N) fun x hx=>by
   obtain⟨h2,h3⟩:=hn.mem_erase_iff.1 hx
   have:=h x h3;omega
  by_cases hm:N∈l
  ·rw[List.length_erase_of_mem hm]at h1;omega
  ·rw[List.erase_of_not_mem hm]at h1;omega
theorem Inv.come{c:Ct}(hd:(c.af.map (·.name)).Nodup):∀(f:Nat)(done:List Nat)(nd:List (List Nat))(l s:List Nat),Inv c done nd l->pq (bF c) f nd l s=jb c f done
 |0,_,_,_,_,_=>rfl
 |f+1,done,nd,l,s,h=>by
  rw[pq,jb]
  by_cases h0:l=[]
  ·have hn:lK c done=none:=YC fun a ha=>by
    rw[Dz];intro hm;have:=(h.ls a).2 ⟨ha,hm⟩
    rw[h0]at this;cases this
   rw[if_pos h0,hn]
  ·obtain⟨h1,h2⟩:=h.step hd h0 (bq l::s);rw[if_neg h0,h1];simp only;rw[Inv.come hd f _ _ _ _ h2]
theorem Inv.ends{c:Ct}(hd:(c.af.map (·.name)).Nodup):∀(f:Nat)(done:List Nat)(nd:List (List Nat))(l s:List Nat),Inv c done nd l->c.af.length<=done.length+f->si (bF c) f nd l s
 |0,done,nd,l,s,h,hf=>by
  show l=[]
  rw[JD];intro x hx;obtain⟨h1,h2⟩:=(h.ls x).1 hx;have h3:=(jw.1 h2).1
  have:=Fw c.af.length (x::done) (l5.2 ⟨h3,h.TC⟩) (fun y hy=>by
   rcases bw.1 hy with rfl|hy
   ·exact h1
   ·exact h.lt y hy)
  simp only[bW]at this;omega
 |f+1,done,nd,l,s,h,hf=>by
  rw[si]
  by_cases h0:l=[]
  ·exact .inl h0
  ·obtain⟨h1,h2⟩:=h.step hd h0 (bq l::s);exact .inr (Inv.ends hd f _ _ _ _ h2 (by simp;omega))
theorem EW(nd:List (List Nat))(N:Nat):∀(m i:Nat)(l:List Nat),i+m=N->l.Nodup->(∀x∈l,x<i)->kU l.length l->
 (∀x,x∈iL nd m i l↔x∈l\/(i<=x/\x<N/\nd.getD x []=[]))/\(iL nd m i l).Nodup/\kU (iL nd m i l).length (iL nd m i l)
 |0,i,l,h,h1,h2,h3=>⟨fun x=>by simp[iL];omega,h1,h3⟩
 |m+1,i,l,h,h1,h2,h3=>by
  rw[iL]
  have hil:i∉l:=fun hm=>by have:=h2 i hm;omega
  split
  ·rename_i h0;have hp:=wF l i
   obtain⟨a1,a2,a3⟩:=EW nd N m (i+1) (fo l i) (by omega) (by rw[hp.nodup_iff,l5];exact⟨hil,h1⟩) (fun x hx=>by
    rcases bw.1 (hp.mem_iff.1 hx)with rfl|hx
    ·omega
    ·have:=h2 x hx;omega) (KU h3 i)
   refine⟨fun x=>?_,a2,a3⟩;rw[a1 x,hp.mem_iff,bw];constructor
   ·rintro((rfl|hx)|⟨b1,b2,b3⟩)
    ·exact .inr ⟨aT _,by omega,h0⟩
    ·exact .inl hx
    ·exact .inr ⟨by omega,b2,b3⟩
   ·rintro(hx|⟨b1,b2,b3⟩)
    ·exact .inl (.inr hx)
    ·by_cases he:x=i
     ·exact .inl (.inl he)
     ·exact .inr ⟨by omega,b2,b3⟩
  ·rename_i h0;obtain⟨a1,a2,a3⟩:=EW nd N m (i+1) l (by omega) h1 (fun x hx=>by have:=h2 x hx;omega) h3;refine⟨fun x=>?_,a2,a3⟩;rw[a1 x];constructor
   ·rintro(hx|⟨b1,b2,b3⟩)
    ·exact .inl hx
    ·exact .inr ⟨by omega,b2,b3⟩
   ·rintro(hx|⟨b1,b2,b3⟩)
    ·exact .inl hx
    ·refine .inr ⟨?_,b2,b3⟩
     have:x≠i:=fun he=>h0 (he▸b3)
     omega
theorem Qa{c:Ct}(hd:(c.af.map (·.name)).Nodup):Inv c [] (dU c) (iL (dU c) c.af.length 0 []):=by
 obtain⟨h1,h2,h3⟩:=EW (dU c) c.af.length c.af.length 0 [] (by omega) (by simp) (by simp) (fun k hk hkl=>by simp at hkl);refine⟨tP c,fun i hi x=>by rw[wy hd hi];simp,fun i=>?_,h2,h3,by simp,by simp,by simp⟩;rw[h1 i];constructor
 ·rintro(h|⟨_,a,b⟩)
  ·cases h
  ·refine⟨a,jw.2 ⟨by simp,fun x hx=>?_⟩⟩;have:=(wy hd a x).2 hx
   rw[b]at this;exact this
 ·rintro⟨a,b⟩
  refine .inr ⟨by omega,a,?_⟩;rw[JD];intro x hx;have:=(jw.1 b).2 x ((wy hd a x).1 hx)
  cases this
theorem Ox{c:Ct}(hd:(c.af.map (·.name)).Nodup):n9 c c.af.length=aP c:=Inv.come hd _ _ _ _ _ (Qa hd)
theorem aa5{c:Ct}(hd:(c.af.map (·.name)).Nodup):GY c c.af.length:=Inv.ends hd _ _ _ _ _ (Qa hd) (by simp)
theorem Lj(c:Ct):∀(f:Nat)(done:List Nat),(jb c f done).length<=f
 |0,_=>by simp[jb]
 |f+1,done=>by
  rw[jb]
  split
  ·simp
  ·rename_i k _;have:=Lj c f (done++[k])
   simp only[bW];omega
theorem Nj(c:Ct):∀(f:Nat)(done:List Nat),∀x∈jb c f done,x<c.af.length
 |0,_=>by simp[jb]
 |f+1,done=>by
  rw[jb]
  split
  ·simp
  ·rename_i k hk;intro x hx
   rcases bw.1 hx with rfl|hx
   ·exact(Mx hk).1
   ·exact Nj c f _ x hx
end Go.Proofs.YtihmomicdpkabaaGreatDoor
namespace Go.Proofs.YtihmomicdpkabaaGreatDoor
open Go.AM Go.Proofs
variable{Γ:Nat->Option AV}
def uL(c:Ct):List Nat:=if kR c=true then aP c else[]
def o_(c:Ct):List Bs:=if kR c=true then ml (aP c) c.af 0 else[]
theorem EF{c:Ct}(hc:bX c):(aP c).length<2^20:=by
 have h1:=Lj c c.af.length [];have:=hc.2.2.2.1
 unfold aP;omega
theorem F9(hΓ:ek Γ)(c:Ct)(hb:h_ c):aM Tryz.prog Γ m5 [bH c] (.aB [.own 1 aq ((uL c).map iN),.own 1 aE ((o_ c).map .str)]):=by
 unfold uL o_
 cases hr:kR c with
 |false=>simpa using aeB hΓ c hb hr
 |true=>
  have hc:=rJ hb hr;have hd:=tI hr;have hN:=hc.2.2.2.1;have h:=afN hΓ c hb hr c.af.length (by omega) (aa5 hd) (by rw[Ox hd];exact EF hc);rw[Ox hd]at h;simpa using h
def mg(c:Ct):Int×Bs:=if(iF c).1=0 then(match o_ c with
 |[]=>(0,[])
 |s::_=>(7,s))else iF c
set_option maxRecDepth 8000 in
theorem Na(hΓ:ek Γ)(c:Ct)(hb:h_ c):aM Tryz.prog Γ v7 [bH c] (sE (mg c)):=by
 have hC:=MX hΓ c hb;have hS:=F9 hΓ c hb;unfold mg;generalize iF c=r at*;obtain⟨e,s⟩:=r;refine .run 60 Wr (by simp) ?_;simp;refine .call 60 (by simp) hC ?_
 by_cases h0:e=0
 ·simp[h0];refine .call 60 (by simp) hS ?_
  cases o_ c with
  |nil=>
   simp;exact .back (by simp)
  |cons a l=>
   have hl:(0:Int)<(l.length:Int)+1:=by omega
   simp[hl];exact .back (by simp)
 ·simp[h0];exact .back (by simp)
def afZ(c:Ct):List (Bs×(Bool×Nat×List Bs)):=c.ai.map (fun q=>(q.name,(true,1,[q.next])))++c.af.map fun g=>(g.name,(false,g.ki,g.ins))
abbrev eNx(x:Bool×Nat×List Bs):AV:=.list x.1 x.2.1 (x.2.2.map .str)
abbrev HO(x:Bs×(Bool×Nat×List Bs)):AV×AV:=(.str x.1,eNx x.2)
@[simp] theorem aeN(n:Nat):∀l:List (Bs×(Bool×Nat×List Bs)),fT n (l.map HO)=true
 |[]=>rfl
 |x::r=>by simp[aeN n r]
@[simp] theorem aef(n m:Nat):∀l:List (Bs×(Bool×Nat×List Bs)),nz n m (l.map HO)=true
 |[]=>rfl
 |x::r=>by simp[aef n m r]
abbrev qO(c:Ct)(inn hist:List Bs)(g:Option Nat):List Ob:=[.cells (AV.cells (bH c)),.row 1 aE [] none true false,.map ((afZ c).map HO) true,.map (inn.map jG) true,.row 1 aE (hist.map .str) g true false]
abbrev Ci(c:Ct):List Ob:=[.cells (AV.cells (bH c)),.row 1 aq [] none true false]
def sF(a:Nat):List Nat->List Nat->List Nat
 |[],lv=>lv
 |i::r,lv=>sF a r (lv.set i (max (lv.getD i 0) (lv.getD a 0+1)))
theorem ND(a:Nat):∀(r lv:List Nat),(sF a r lv).length=lv.length
 |[],_=>rfl
 |i::r,lv=>by rw[sF,ND a r];simp
def G0(k:Nat)(l:List Nat):List Nat:=if k∈l then l else l++[k]
def sD(c:Ct)(s:List Nat×List Nat)(a:Nat):List Nat×List Nat:=(sF a ((bF c).getD a []) s.1,G0 a s.2)
def sq(s:Bs):Bool:=decide (60<s.length)
def iG(m:Nat)(l:List Bs):Bool:=decide (l.length<=m)&&!bu sq l
theorem Ah(l:List Bs)(m:Nat)(hm:m<1000){k:Nat}(hk:Kd 1 k l):aM Tryz.prog Γ qa [.list false k (l.map .str),.int .i64 m] (.bool (iG m l)):=by
 have key:∀n i:Nat,i+n=l.length->i<=m+1->aw Tryz.prog Γ (ytZ (.list false k (l.map .str)) (.int .i64 m) (.int .i64 i) []) (.ret (.bool (decide (l.length<=m)&&!bu sq (l.drop i)))):=by
  intro n
  induction n with
  |zero=>
   intro i hi hL
   have q1:¬i<l.length:=by omega
   have e1:((l.length:Int)<=m)=(l.length<=m):=propext (by omega);rw[br (by omega),rO];refine .go 60 ?_;simp[q1,e1];exact .back (by simp)
  |succ n ih=>
   intro i hi hL
   have q1:i<l.length:=by omega
   have q2:=bP (hk.of q1)
   by_cases h2:i<=m
   ·have h2':((i:Int)<=m)=True:=bP (by omega);have hh:=ih (i+1) (by omega) (by omega);have e3:((60:Int)<(l[i].length:Int))=(60<l[i].length):=propext (by omega);rw[bL q1,iW];refine .go 60 ?_
    by_cases h3:60<l[i].length
    ·have hl:sq l[i]=true:=by simp[sq,h3]
     simp[q1,q2,h2',e3,h3,hl];exact .back (by simp[h3])
    ·have hl:sq l[i]=false:=by simp only[sq,jr];exact h3
     simp(disch:=omega) [q1,q2,h2',e3,h3,hl];refine .aF ?_;simp at hh⊢;exact hh
   ·have h2':((i:Int)<=m)=False:=ie (by omega);have e1:((l.length:Int)<=m)=False:=ie (by omega)
    have h3:¬l.length<=m:=by omega
    refine .go 60 ?_;simp[q1,h2',e1,h3];exact .back (by simp)
 refine .run 60 Yh (by simp) ?_;simp;refine .inLoop ?_;have hh:=key l.length 0 (by omega) (by omega);simp[iG]at hh⊢;exact hh
theorem AN{m:Nat}{l:List Bs}(h:iG m l=true):l.length<=m/\∀s∈l,s.length<=60:=by
 simp only[iG,av,bj,ju]at h;refine⟨h.1,fun s hs=>?_⟩;have h2:=h.2;clear h
 induction l with
 |nil=>cases hs
 |cons a l ih=>
  rw[iW,jV]at h2
  rcases bw.1 hs with rfl|hs
  ·have:=h2.1;simp only[sq,jr]at this;omega
  ·exact ih hs h2.2
def sC(g:Gt):Bool:=iG 12 g.ins&&(iG 140 g.rows&&decide (g.name.length<=60))
theorem aaI(g:Gt):aM Tryz.prog Γ zY [cU g] (.bool (sC g)):=by
 have h1:=Ah (Γ:=Γ) g.ins 12 (by omega) g.hi;have h2:=Ah (Γ:=Γ) g.rows 140 (by omega) g.hr;have e:((g.name.length:Int)<=60)=(g.name.length<=60):=propext (by omega);refine .run 60 WT (by simp) ?_;simp;refine .call 60 (by simp) h1 ?_;simp;refine .call 60 (by simp) h2 ?_;unfold sC
 cases iG 12 g.ins with
 |false=>simp;exact .back (by simp)
 |true=>
  cases iG 140 g.rows with
  |false=>simp;exact .back (by simp)
  |true=>simp[e];exact .back (by simp)
theorem abT{g:Gt}(h:sC g=true):sk g:=by
 simp only[sC,av,bj]at h;obtain⟨a1,a2⟩:=AN h.1;obtain⟨b1,b2⟩:=AN h.2.1;exact⟨by omega,by omega,by omega,fun s hs=>by have:=a2 s hs;omega,fun s hs=>by have:=b2 s hs;omega⟩
def n8(q:Lt):Bool:=decide (60<q.name.length)||decide (60<q.next.length)
def uT(c:Ct):Bool:=!bu (fun g=>!sC g) (c.af.take 211)&&(!bu n8 (c.ai.take 211)&&(iG 210 c.aG&&(iG 210 c.bf&&(decide (c.af.length<=210)&&decide (c.ai.length<=210)))))
theorem agL(c:Ct):aM Tryz.prog Γ rK [bH c] (.bool (uT c)):=by
 have h1:=Ah (Γ:=Γ) c.aG 210 (by omega) c.hI;have h2:=Ah (Γ:=Γ) c.bf 210 (by omega) c.hO;have e1:((c.af.length:Int)<=210)=(c.af.length<=210):=propext (by omega);have e2:((c.ai.length:Int)<=210)=(c.ai.length<=210):=propext (by omega)
 have fin:∀H,H=[Ob.cells (AV.cells (bH c))]->aw Tryz.prog Γ (ynV (.ptr 0 0) H) (.ret (.bool (iG 210 c.aG&&(iG 210 c.bf&&(decide (c.af.length<=210)&&decide (c.ai.length<=210)))))):=by
  rintro H rfl
  refine .go 60 ?_;simp;refine .call 60 (by simp) h1 ?_;simp;refine .call 60 (by simp) h2 ?_
  cases iG 210 c.aG with
  |false=>simp;exact .back (by simp)
  |true=>
   cases iG 210 c.bf with
   |false=>simp;exact .back (by simp)
   |true=>
    by_cases q:c.af.length<=210
    ·simp[e1,e2,q];exact .back (by simp[q])
    ·simp[e1,e2,q];exact .back (by simp[q])
 have keyL:∀n i:Nat,i+n=211->aw Tryz.prog Γ (ynU (.ptr 0 0) (.int .i64 i) [.cells (AV.cells (bH c))]) (.ret (.bool (!bu n8 ((c.ai.take 211).drop i)&&(iG 210 c.aG&&(iG 210 c.bf&&(decide (c.af.length<=210)&&decide (c.ai.length<=210))))))):=by
  intro n
  induction n with
  |zero=>
   intro i hi;have q1:((i:Int)<=210)=False:=ie (by omega);have hf:=fin _ rfl;rw[br (by simp;omega),rO]
   by_cases q0:i<c.ai.length
   ·refine .di 60 ?_;simp[q1,q0];refine .reach (.exit rfl rfl) ?_;simp at hf⊢;exact hf
   ·refine .di 60 ?_;simp[q0];refine .reach (.exit rfl rfl) ?_;simp at hf⊢;exact hf
  |succ n ih=>
   intro i hi;have q1:((i:Int)<=210)=True:=bP (by omega)
   by_cases q0:i<c.ai.length
   ·have q2:=bP (c.hL.of q0);have hh:=ih (i+1) (by omega)
    have hT:i<(c.ai.take 211).length:=by simp;omega
    have e3:((60:Int)<(c.ai[i].name.length:Int))=(60<c.ai[i].name.length):=propext (by omega);have e4:((60:Int)<(c.ai[i].next.length:Int))=(60<c.ai[i].next.length):=propext (by omega);rw[bL hT,iW,ox];refine .go 90 ?_
    by_cases h3:60<c.ai[i].name.length
    ·have hl:n8 c.ai[i]=true:=by simp[n8,h3]
     simp[q0,q1,q2,e3,h3,hl];exact .back (by simp)
    ·by_cases h4:60<c.ai[i].next.length
     ·have hl:n8 c.ai[i]=true:=by simp[n8,h4]
      simp[q0,q1,q2,e3,h3,e4,h4,hl];exact .back (by simp)
     ·have hl:n8 c.ai[i]=false:=by simp only[n8,h3,h4,mY,Bool.or_self]
      simp(disch:=omega) [q0,q1,q2,e3,h3,e4,h4,hl];refine .aF ?_;simp at hh⊢;exact hh
   ·have hf:=fin _ rfl;rw[br (by simp;omega),rO];refine .di 60 ?_;simp[q0];refine .reach (.exit rfl rfl) ?_;simp at hf⊢;exact hf
 have keyG:∀n i:Nat,i+n=211->aw Tryz.prog Γ (ynX (.ptr 0 0) (.int .i64 i) [.cells (AV.cells (bH c))]) (.ret (.bool (!bu (fun g=>!sC g) ((c.af.take 211).drop i)&&(!bu n8 (c.ai.take 211)&&(iG 210 c.aG&&(iG 210 c.bf&&(decide (c.af.length<=210)&&decide (c.ai.length<=210)))))))):=by
  intro n;have hf:=keyL 211 0 (by omega)
  induction n with
  |zero=>
   intro i hi;have q1:((i:Int)<=210)=False:=ie (by omega);rw[br (by simp;omega),rO];refine .go 60 ?_
   by_cases q0:i<c.af.length
   ·simp[q1,q0];refine .inLoop ?_;simp at hf⊢;exact hf
   ·simp[q0];refine .inLoop ?_;simp at hf⊢;exact hf
  |succ n ih=>
   intro i hi;have q1:((i:Int)<=210)=True:=bP (by omega)
   by_cases q0:i<c.af.length
   ·have q2:=bP (c.hG.of q0);have hh:=ih (i+1) (by omega)
    have hT:i<(c.af.take 211).length:=by simp;omega
    have hc:=aaI (Γ:=Γ) c.af[i];rw[bL hT,iW,ox];refine .go 90 ?_;simp[q0,q1,q2];refine .call 90 (by simp) hc ?_
    cases h3:sC c.af[i]with
    |true=>
     simp(disch:=omega);refine .aF ?_;simp at hh⊢;exact hh
    |false=>
     simp;exact .back (by simp)
   ·rw[br (by simp;omega),rO];refine .go 60 ?_;simp[q0];refine .inLoop ?_;simp at hf⊢;exact hf
 refine .run 60 ZW (by simp) ?_;simp;refine .inLoop ?_;have hh:=keyG 211 0 (by omega);simp[uT]at hh⊢;exact hh
theorem Ft{α:Type}{p:α->Bool}:∀{l:List α},bu p l=false->∀x∈l,p x=false
 |[],_,x,hx=>by cases hx
 |a::l,h,x,hx=>by
  rw[iW,jV]at h
  rcases bw.1 hx with rfl|hx
  ·exact h.1
  ·exact Ft h.2 x hx
theorem NS{c:Ct}(h:uT c=true):bX c:=by
 simp only[uT,av,bj,ju]at h;obtain⟨h1,h2,h3,h4,h5,h6⟩:=h;rw[bR (by omega)]at h1 h2;obtain⟨a1,a2⟩:=AN h3;obtain⟨b1,b2⟩:=AN h4;refine⟨by omega,by omega,by omega,by omega,fun g hg=>?_,fun s hs=>by have:=a2 s hs;omega,fun s hs=>by have:=b2 s hs;omega,fun q hq=>?_⟩
 ·have:=Ft h1 g hg;exact abT (by simpa using this)
 ·have:=Ft h2 q hq;simp only[n8,jV,jr]at this;omega
end Go.Proofs.YtihmomicdpkabaaGreatDoor
namespace Go.Proofs.YtihmomicdpkabaaGreatDoor
open Go.AM Go.Proofs
theorem Fg(c:Ct):∀(f:Nat)(done:List Nat),done.Nodup->(∀x∈done,x<c.af.length)->
 (done++jb c f done).Nodup/\(∀p a q,jb c f done=p++a::q->ji c (done++p) a=true/\∀j<a,ji c (done++p) j=false)/\(c.af.length<=done.length+f->∀a<c.af.length,ji c (done++jb c f done) a=false)
 |0,done,hd,hl=>by
  refine⟨by simpa[jb]using hd,fun p a q h=>by simp[jb]at h,fun hf a ha=>?_⟩;rw[Dz];intro hm;have h3:=(jw.1 hm).1;simp only[jb,eS]at h3
  have:=Fw c.af.length (a::done) (l5.2 ⟨h3,hd⟩) (fun y hy=>by
   rcases bw.1 hy with rfl|hy
   ·exact ha
   ·exact hl y hy)
  simp only[bW]at this;omega
 |f+1,done,hd,hl=>by
  rw[jb]
  cases hn:lK c done with
  |none=>
   refine⟨by simpa using hd,fun p a q h=>by simp at h,fun hf a ha=>?_⟩;simpa using abL hn ha
  |some k=>
   obtain⟨hk,hm,hj⟩:=Mx hn;have h3:=(jw.1 hm).1
   obtain⟨i1,i2,i3⟩:=Fg c f (done++[k]) (by
    rw[sY];refine⟨hd,by simp,fun x hx y hy=>?_⟩;rw[dG]at hy;subst hy
    exact fun he=>h3 (he▸hx)) (fun x hx=>by
    rcases bn.1 hx with hx|hx
    ·exact hl x hx
    ·rw[dG]at hx;subst hx;exact hk)
   simp only[gf,q_]at i1 i2 i3;refine⟨i1,fun p a q h=>?_,fun hf a ha=>i3 (by simp;omega) a ha⟩
   cases p with
   |nil=>
    simp only[lq,sQ]at h;rw[eS,<-h.1];exact⟨hm,hj⟩
   |cons x p=>
    simp only[eR,sQ]at h;obtain⟨rfl,h⟩:=h;exact i2 p a q h
theorem Kz(c:Ct):(aP c).Nodup:=by simpa[aP]using(Fg c c.af.length [] (by simp) (by simp)).1
theorem oY(c:Ct):∀x∈aP c,x<c.af.length:=Nj c _ _
theorem EH(c:Ct){p q:List Nat}{a:Nat}(h:aP c=p++a::q):ji c p a=true/\∀j<a,ji c p j=false:=by
 simpa using(Fg c c.af.length [] (by simp) (by simp)).2.1 p a q h
theorem acs(c:Ct){i:Nat}(hi:i<(aP c).length){x:Nat}(hx:eQ c (aP c)[i] x=true):x∈(aP c).take i:=by
 have h:aP c=(aP c).take i++(aP c)[i]::(aP c).drop (i+1):=by
  rw[<-bL hi,lZ]
 exact(jw.1 (EH c h).1).2 x hx
theorem El(out:List Nat)(s:Bs):∀(l:List Gt)(i:Nat),s∈ml out l i↔∃t,∃h:t<l.length,l[t].name=s/\i+t∉out
 |[],i=>by simp[ml]
 |g::r,i=>by
  have hs:(∃t,∃h:t<(g::r).length,(g::r)[t].name=s/\i+t∉out)↔(g.name=s/\i∉out)\/∃t,∃h:t<r.length,r[t].name=s/\i+1+t∉out:=by
   constructor
   ·rintro⟨t,h,e,hm⟩
    cases t with
    |zero=>exact .inl ⟨e,hm⟩
    |succ t=>exact .inr ⟨t,by simpa using h,e,by rwa[show i+1+t=i+(t+1) by omega]⟩
   ·rintro(⟨e,hm⟩|⟨t,h,e,hm⟩)
    ·exact⟨0,by simp,e,hm⟩
    ·exact⟨t+1,by simpa using h,e,by rwa[show i+(t+1)=i+1+t by omega]⟩
  rw[hs,ml]
  split
  ·rename_i h0;rw[El out s r (i+1)];exact⟨.inr,fun h=>h.elim (fun h=>absurd h0 h.2) id⟩
  ·rename_i h0;rw[bw,El out s r (i+1)];exact⟨fun h=>h.imp (fun h=>⟨h.symm,h0⟩) id,fun h=>h.imp (fun h=>h.1.symm) id⟩
theorem acu{c:Ct}(hd:(c.af.map (·.name)).Nodup)(out:List Nat){i:Nat}(hi:i<c.af.length):c.af[i].name∈ml out c.af 0↔i∉out:=by
 rw[El];constructor
 ·rintro⟨t,ht,e,hm⟩
  rw[iS]at hm;rwa[<-A0 hd ht hi e]
 ·intro h;exact⟨i,hi,rfl,by rwa[iS]⟩
end Go.Proofs.YtihmomicdpkabaaGreatDoor
namespace Go.Proofs.YtihmomicdpkabaaGreatDoor
open Go.AM Go.Proofs
variable{Γ:Nat->Option AV}
def Hi(c:Ct)(a:Nat):Bs:=match c.af[a]? with
 |some g=>g.name
 |none=>[]
theorem BD{c:Ct}{a:Nat}(h:a<c.af.length):Hi c a=c.af[a].name:=by simp[Hi,h]
theorem Mw(a:Nat):∀(r lv:List Nat)(i:Nat),r.Nodup->a∉r->i<lv.length->(sF a r lv).getD i 0=if i∈r then max (lv.getD i 0) (lv.getD a 0+1)else lv.getD i 0
 |[],lv,i,_,_,_=>by simp[sF]
 |j::r,lv,i,hr,ha,hi=>by
  rw[l5]at hr;simp only[bw,not_or]at ha
  have hg:∀k,(lv.set j (max (lv.getD j 0) (lv.getD a 0+1))).getD k 0=if j=k/\k<lv.length then max (lv.getD j 0) (lv.getD a 0+1)else lv.getD k 0:=fun k=>by
   simp only[bp,nH]
   by_cases h1:j=k
   ·subst h1
    by_cases h2:j<lv.length
    ·simp[h2]
    ·simp[h2]
   ·simp[h1]
  have e1:=hg a;have e2:=hg i;rw[if_neg (fun h=>ha.1 h.1.symm)]at e1;rw[sF,Mw a r _ i hr.2 ha.2 (by simpa using hi),e1,e2]
  by_cases hij:j=i
  ·subst hij;rw[if_neg hr.1,if_pos ⟨rfl,hi⟩,if_pos (by simp)]
  ·have hne:¬i=j:=fun h=>hij h.symm
   have e3:¬(j=i/\i<lv.length):=fun h=>hij h.1
   simp only[if_neg e3]
   by_cases h3:i∈r
   ·rw[if_pos h3,if_pos (by simp[h3])]
   ·rw[if_neg h3,if_neg (by simp[h3,hne])]
structure G2(c:Ct)(p:List Nat)(s:List Nat×List Nat):Prop where
 len:s.1.length=c.af.length
 cm:∀x,x∈s.2↔x∈p
 ge:∀i<c.af.length,∀a∈p,eQ c i a=true->s.1.getD a 0+1<=s.1.getD i 0
 eq:∀i<c.af.length,s.1.getD i 0=0\/∃a∈p,eQ c i a=true/\s.1.getD i 0=s.1.getD a 0+1
theorem abk(k x:Nat)(l:List Nat):x∈G0 k l↔x∈l\/x=k:=by
 unfold G0
 split
 ·rename_i h;exact⟨.inl,fun h1=>h1.elim id fun h1=>h1▸h⟩
 ·simp
theorem G2.step{c:Ct}(hd:(c.af.map (·.name)).Nodup){p:List Nat}{s:List Nat×List Nat}(h:G2 c p s)(hall:∀i∈p,∀x,eQ c i x=true->x∈p){a:Nat}(ha:a<c.af.length)(hm:ji c p a=true):G2 c (p++[a]) (sD c s a):=by
 obtain⟨hap,haa⟩:=jw.1 hm
 have hab:a∉(bF c).getD a []:=fun hb=>hap (haa a ((uj hd ha a).1 hb))
 have hg:∀i<c.af.length,(sD c s a).1.getD i 0=if eQ c i a=true then max (s.1.getD i 0) (s.1.getD a 0+1)else s.1.getD i 0:=fun i hi=>by
  rw[sD,Mw a _ _ i (Ld c ha) hab (by rw[h.len];exact hi)];simp only[uj hd ha i]
 have hsame:∀x∈p,x<c.af.length->(sD c s a).1.getD x 0=s.1.getD x 0:=fun x hx hxl=>by
  rw[hg x hxl,if_neg fun hk=>hap (hall x hx a hk)]
 have hsa:(sD c s a).1.getD a 0=s.1.getD a 0:=by rw[hg a ha,if_neg fun hk=>hap (haa a hk)]
 refine⟨by rw[sD,ND];exact h.len,fun x=>?_,fun i hi x hx hk=>?_,fun i hi=>?_⟩
 ·rw[sD];simp only[abk,h.cm,bn,dG]
 ·rcases bn.1 hx with hx|hx
  ·have:=h.ge i hi x hx hk;rw[hsame x hx (sa hk).2,hg i hi]
   split<;>omega
  ·rw[dG]at hx;subst hx
   rw[hsa,hg i hi,if_pos hk];omega
 ·rw[hg i hi]
  by_cases hk:eQ c i a=true
  ·rw[if_pos hk]
   rcases Nat.le_total (s.1.getD i 0) (s.1.getD a 0+1)with hle|hle
   ·exact .inr ⟨a,by simp,hk,by rw[hsa];omega⟩
   ·rcases h.eq i hi with h0|⟨x,hx,hkx,he⟩
    ·omega
    ·exact .inr ⟨x,by simp[hx],hkx,by rw[hsame x hx (sa hkx).2];omega⟩
  ·rw[if_neg hk]
   rcases h.eq i hi with h0|⟨x,hx,hkx,he⟩
   ·exact .inl h0
   ·exact .inr ⟨x,by simp[hx],hkx,by rw[hsame x hx (sa hkx).2];exact he⟩
theorem aaN{c:Ct}(h:(mg c).1=0):kR c=true/\o_ c=[]/\mg c=(0,[]):=by
 unfold mg at h⊢
 by_cases h0:(iF c).1=0
 ·rw[if_pos h0]at h⊢
  cases hn:o_ c with
  |nil=>exact⟨ri h0,rfl,rfl⟩
  |cons s l=>rw[hn]at h;cases h
 ·rw[if_neg h0]at h;exact absurd h h0
end Go.Proofs.YtihmomicdpkabaaGreatDoor
