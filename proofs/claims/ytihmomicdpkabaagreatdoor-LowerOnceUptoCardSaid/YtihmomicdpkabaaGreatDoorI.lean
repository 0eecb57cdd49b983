/- Order: what comes: the loops. -/
import Derived.Test.YtihmomicdpkabaaGreatDoorH
import Derived.Test.YtihmomicdpkabaaGreatDoorG
import Derived.Test.YtihmomicdpkabaaGreatDoorF
import Derived.Test.YtihmomicdpkabaaGreatDoorAMd
import Derived.Test.YtihmomicdpkabaaGreatDoorCards
import Derived.Test.YtihmomicdpkabaaGreatDoorTie
import Derived.ProofKit
import Derived.Deep.DeepHandedRow
import Derived.LaidMore
import Derived.Test.YtihmomicdpkabaaGreatDoorCode
set_option linter.unusedSimpArgs false
set_option linter.unusedVariables false
namespace Go.Proofs.YtihmomicdpkabaaGreatDoor
open Go.AM Go.Proofs
variable{Γ:Nat->Option AV}
def di(a:Nat)(l:List Nat):List Nat:=l.filter fun x=>decide (¬x=a)
theorem MC(a:Nat):∀{l:List Nat},l.Nodup->lH (.sc .int) (.int .i64 a) (l.map eK)=some ((di a l).map eK)
 |[],_=>rfl
 |b::l,h=>by
  simp only[l8]at h
  by_cases h2:a=b
  ·subst h2
   have h3:di a l=l:=by
    unfold di;rw[w9];intro x hx
    exact qo fun hn=>h.1 (hn▸hx)
   have h4:di a (a::l)=l:=by rw[<-h3];simp[di]
   simp only[cn,lH,Ak,decide_true,h4]
  ·have h4:di a (b::l)=b::di a l:=by
    unfold di;rw[xd,if_pos (by simpa using fun h=>h2 h.symm)]
   simp only[cn,lH,Ak,h2,l6,MC a h.2,dp,h4]
theorem JL(a:Nat){l:List Nat}(h:l.Nodup):(di a l).Nodup:=h.filter _
theorem vq(l:List Nat)(x:Nat):(eV l x).length=l.length+1:=by rw[eV,aac];simp
def ia(nd:List (List Nat)):Nat->Nat->List Nat->List Nat
 |0,_,l=>l
 |m+1,i,l=>ia nd m (i+1) (if nd.getD i []=[]then eV l i else l)
def ec(a:Nat):List Nat->List (List Nat)->List Nat->List Nat->List (List Nat)×List Nat×List Nat
 |[],nd,l,s=>(nd,l,s)
 |i::r,nd,l,s=>if di a (nd.getD i [])=[]then ec a r (nd.set i (di a (nd.getD i []))) (eV l i) s.tail else ec a r (nd.set i (di a (nd.getD i []))) l s
theorem L0{A:List Ob}{l s:List Nat}(s0:List Nat)(hs:s=s0.tail){f:Fr}{up:List Fr}(hb:f.base<=A.length)(hf:∀m,fZ A.length m f=true)(hv:∀m,cD A.length m A=true):
 AM.Reach Tryz.prog Γ (.fr f up (hP A l s (gP s0))) (.fr f up (hP A l s none)):=by
 unfold gP
 split
 ·rename_i h0
  have hs0:s=[]:=by rw[hs,h0];rfl
  subst hs0
  have e:(hP A l [] (some 0)).set A.length (.row 1 aq ((l++[]).map iN) none true false)=hP A l [] none:=by simp[hP]
  refine .pF (tP (A:=A) (l:=l) (s:=[]) (g:=some 0)) hb (hf _) (by
   rw[hP,iv,hv]
   simp) ?_
  rw[e];exact .refl _
 ·exact .refl _
set_option maxRecDepth 8000 in
theorem ach(c:Ct)(hc:bY c){M:List Ob}(hv:fL M)(nd:List (List Nat))(hn:nd.length=c.af.length)(L:Nat)(p:AV)(up:List Fr):∀m i:Nat,i+m=c.af.length->∀l:List Nat,l.length<=i->
 AM.Reach Tryz.prog Γ (ytF (.cQ L) (.ptr (M.length+(9+(c.af.length+c.af.length))) 0) (.ptr (M.length+(11+(c.af.length+c.af.length))) 0) (.int .i64 c.af.length) (.int .i64 i) (hP (aC c M nd) l [] none) ⟨[],.norm,M.length,up⟩)
  (ytG (.cQ L) (.ptr (M.length+(9+(c.af.length+c.af.length))) 0) (.ptr (M.length+(11+(c.af.length+c.af.length))) 0) (hP (aC c M nd) (ia nd m i l) [] none) ⟨[],.norm,M.length,up⟩):=by
 have hN:=hc.2.2.2.1;intro m
 induction m with
 |zero=>
  intro i hi l hl
  have q1:¬i<c.af.length:=by omega
  rw[ia];generalize hP (aC c M nd) l [] none=X at*;refine .dK 60 ?_;simp[q1];exact .exit rfl rfl
 |succ m ih=>
  intro i hi l hl
  have q1:i<c.af.length:=by omega
  have hAl:=oh (M:=M) hn;have xw:=oB (A:=aC c M nd) (l:=l) (s:=[]) (g:=none) (i:=M.length+(9+(c.af.length+c.af.length))) (by omega);have xn:=oB (A:=aC c M nd) (l:=l) (s:=[]) (g:=none) (i:=M.length+7) (by omega);have xm:=oB (A:=aC c M nd) (l:=l) (s:=[]) (g:=none) (i:=M.length+(9+(c.af.length+i))) (by omega);rw[FW hn]at xw;rw[N8 hn]at xn;rw[Oh hn q1,gG]at xm;have yn:=DS (n:=M.length+6) (N:=c.af.length) q1;rw[show M.length+6+(3+(c.af.length+i))=M.length+(9+(c.af.length+i)) by omega]at yn;have yl:=zk (n:=M.length+6) (N:=c.af.length) (m:=c.af.length) (aW _);have yt:List.take c.af.length (dv (M.length+6) c.af.length c.af.length)=dv (M.length+6) c.af.length c.af.length:=cL (by rw[yl];exact aW _);obtain⟨_,yn'⟩:=dB.1 yn;rw[ia]
  by_cases h0:nd.getD i []=[]
  ·have hh:=ih (i+1) (by omega) (eV l i) (by rw[vq];omega);have hP':=Nn (Γ:=Γ) (aC c M nd) l [] i (by omega) (by omega)
   have hun:=fun f hb hf=>L0 (Γ:=Γ) (l:=eV l i) (s:=[]) [] rfl (f:=f) (up:=up) hb hf (fun m=>Nj hv (nd:=nd) (by rw[hAl];omega))
   rw[hAl]at hun hP';rw[show M.length+(10+(c.af.length+c.af.length))+1=M.length+(11+(c.af.length+c.af.length)) by omega]at hP';rw[if_pos h0];rw[h0]at xm;generalize hP (aC c M nd) l [] none=X at*;generalize hP (aC c M nd) (eV l i) [] none=Y at*;rw[List.tail_nil]at hP';generalize hP (aC c M nd) (eV l i) [] (gP [])=Z at*;generalize dv (M.length+6) c.af.length c.af.length=E at*;refine .dK 60 ?_;simp(disch:=omega) [q1,xw,xn,xm,yn,yl,yt,yn'];refine .M9 1 60 hP' ?_;simp(disch:=omega);refine .trans (hun _ (by simp) (by intro m;simp;omega)) ?_;refine .aN ?_;simp at hh⊢;exact hh
  ·have hh:=ih (i+1) (by omega) l (by omega);rw[if_neg h0]
   have xln:¬(nd.getD i []).length=0:=by simpa using h0
   generalize nd.getD i []=z at*
   have e0:(((z.map eK).length:Nat):Int)=0↔False:=by simp;exact h0
   generalize hP (aC c M nd) l [] none=X at*;generalize dv (M.length+6) c.af.length c.af.length=E at*;refine .dK 60 ?_;simp(disch:=omega) [q1,xw,xn,xm,yn,yl,yt,yn',h0,xln];refine .aN ?_;simp at hh⊢;exact hh
theorem ZE{A:List Ob}{l s:List Nat}{g:Option Nat}{i:Nat}(h:i<A.length)(o:Ob):(hP A l s g).set i o=hP (A.set i o) l s g:=by
 rw[hP,jS _ _ h,hP,kx]
set_option maxRecDepth 8000 in
theorem acZ(c:Ct)(hc:bY c){M:List Ob}(hv:fL M)(L a:Nat)(ha:a<c.af.length)(hb:∀i∈(bw c).getD a [],i<c.af.length)(up:List Fr):∀m j:Nat,j+m=((bw c).getD a []).length->∀(nd:List (List Nat))(l s:List Nat),nd.length=c.af.length->(∀x∈nd,x.Nodup)->l.length+m<2^38->j+m<2^38->
 AM.Reach Tryz.prog Γ (ytA (.cQ L) (.ptr (M.length+(9+(c.af.length+c.af.length))) 0) (.ptr (M.length+(11+(c.af.length+c.af.length))) 0) (.int .i64 a) (.sl (M.length+(9+a)) 0 ((bw c).getD a []).length) (.int .i64 ((bw c).getD a []).length) (.int .i64 j) (hP (aC c M nd) l s none) ⟨[],.norm,M.length,up⟩)
  (ytB (.cQ L) (.ptr (M.length+(9+(c.af.length+c.af.length))) 0) (.ptr (M.length+(11+(c.af.length+c.af.length))) 0) (hP (aC c M (ec a (((bw c).getD a []).drop j) nd l s).1) (ec a (((bw c).getD a []).drop j) nd l s).2.1 (ec a (((bw c).getD a []).drop j) nd l s).2.2 none) ⟨[],.norm,M.length,up⟩):=by
 have hN:=hc.2.2.2.1;intro m
 induction m with
 |zero=>
  intro j hj nd l s hn hd hl hj2
  have q1:¬j<((bw c).getD a []).length:=by omega
  rw[bu (by omega),ec];generalize(bw c).getD a []=bs at*;generalize hP (aC c M nd) l s none=X at*;refine .dK 60 ?_;simp[q1];exact .exit rfl rfl
 |succ m ih=>
  intro j hj nd l s hn hd hl hj2;have xr:=oB (A:=aC c M nd) (l:=l) (s:=s) (g:=none) (i:=M.length+(9+a)) (by rw[oh hn];omega);rw[adL ha]at xr;generalize hbs:(bw c).getD a []=bs at*
  have q1:j<bs.length:=by omega
  have hi:=hb _ (bC q1)
  have xi:(bs.map iN)[j]? =some (.int .i64 (bs[j]:Nat)):=by simp[q1]
  rw[bT q1,ec];generalize bs[j]=i at*;have hAl:=oh (M:=M) hn;have xw:=oB (A:=aC c M nd) (l:=l) (s:=s) (g:=none) (i:=M.length+(9+(c.af.length+c.af.length))) (by omega);have xn:=oB (A:=aC c M nd) (l:=l) (s:=s) (g:=none) (i:=M.length+7) (by omega);have xm:=oB (A:=aC c M nd) (l:=l) (s:=s) (g:=none) (i:=M.length+(9+(c.af.length+i))) (by omega);rw[FW hn]at xw;rw[N8 hn]at xn;rw[Oh hn hi,gG]at xm;rw[eY]at xr
  have hXl:(hP (aC c M nd) l s none).length=M.length+(12+(c.af.length+c.af.length)):=by rw[vT,hAl];omega
  have xs:∀o,((hP (aC c M nd) l s none).set (M.length+(9+(c.af.length+i))) o)[M.length+(9+(c.af.length+i))]? =some o:=fun o=>ef (by omega)
  clear hXl;have yn:=DS (n:=M.length+6) (N:=c.af.length) hi;rw[show M.length+6+(3+(c.af.length+i))=M.length+(9+(c.af.length+i)) by omega]at yn;have yl:=zk (n:=M.length+6) (N:=c.af.length) (m:=c.af.length) (aW _);have yt:List.take c.af.length (dv (M.length+6) c.af.length c.af.length)=dv (M.length+6) c.af.length c.af.length:=cL (by rw[yl];exact aW _);obtain⟨_,yn'⟩:=dB.1 yn
  have hnd:(nd.getD i []).Nodup:=by
   rw[bG,bn (by omega)];exact hd _ (bC _)
  have dc:=MC a hnd
  have fin:(hP (aC c M nd) l s none).set (M.length+(9+(c.af.length+i))) (.map ((di a (nd.getD i [])).map eK) true)=hP (aC c M (nd.set i (di a (nd.getD i [])))) l s none:=by
   rw[ZE (by omega),<-Z_ _ hn hi];rfl
  have hn2:(nd.set i (di a (nd.getD i []))).length=c.af.length:=by rw[kx];exact hn
  have hd2:∀x∈nd.set i (di a (nd.getD i [])),x.Nodup:=fun x hx=>by
   rcases nK hx with h1|h1
   ·exact hd x h1
   ·rw[h1];exact JL a hnd
  have hAl2:=oh (M:=M) hn2
  by_cases h0:di a (nd.getD i [])=[]
  ·have hh:=ih (j+1) (by omega) (nd.set i (di a (nd.getD i []))) (eV l i) s.tail hn2 hd2 (by rw[vq];omega) (by omega);have hP':=Nn (Γ:=Γ) (aC c M (nd.set i (di a (nd.getD i [])))) l s i (by omega) (by omega)
   have hun:=fun f hb hf=>L0 (Γ:=Γ) (l:=eV l i) (s:=s.tail) s rfl (f:=f) (up:=up) hb hf (fun m=>Nj hv (nd:=nd.set i (di a (nd.getD i []))) (by rw[hAl2];omega))
   rw[hAl2]at hun hP';rw[show M.length+(10+(c.af.length+c.af.length))+1=M.length+(11+(c.af.length+c.af.length)) by omega]at hP';rw[if_pos h0]
   have hlz:(di a (nd.getD i [])).length=0:=by rw[h0];rfl
   rw[h0]at dc fin;rw[h0]at hP' hun hh⊢;generalize(ec a (bs.drop (j+1)) (nd.set i []) (eV l i) s.tail)=R at*;generalize hP (aC c M nd) l s none=X at*;generalize hP (aC c M (nd.set i [])) l s none=Y at*;generalize hP (aC c M (nd.set i [])) (eV l i) s.tail none=Z at*;generalize hP (aC c M (nd.set i [])) (eV l i) s.tail (gP s)=W at*;generalize dv (M.length+6) c.af.length c.af.length=E at*;generalize hLz:nd.getD i []=z at*;refine .dK 60 ?_;simp(disch:=omega) [q1,xr,xi,xw,xn,xm,yn,yl,yt,yn',hi,dc,xs,isKey,b_,cM];simp at fin;rw[fin];refine .M9 1 60 hP' ?_;simp(disch:=omega);refine .trans (hun _ (by simp) (by intro m;simp;omega)) ?_;refine .aN ?_;simp at hh⊢;exact hh
  ·have hh:=ih (j+1) (by omega) (nd.set i (di a (nd.getD i []))) l s hn2 hd2 (by omega) (by omega);rw[if_neg h0]
   have xln:¬(di a (nd.getD i [])).length=0:=by simpa using h0
   generalize(ec a (bs.drop (j+1)) (nd.set i (di a (nd.getD i []))) l s)=R at*;generalize hP (aC c M nd) l s none=X at*;generalize hP (aC c M (nd.set i (di a (nd.getD i [])))) l s none=Y at*;generalize dv (M.length+6) c.af.length c.af.length=E at*;generalize di a (nd.getD i [])=z' at*;generalize hLz:nd.getD i []=z at*;refine .dK 60 ?_;simp(disch:=omega) [q1,xr,xi,xw,xn,xm,yn,yl,yt,yn',hi,dc,xs,isKey,b_,cM,h0,xln];rw[fin];refine .aN ?_;simp at hh⊢;exact hh
end Go.Proofs.YtihmomicdpkabaaGreatDoor
namespace Go.Proofs.YtihmomicdpkabaaGreatDoor
open Go.AM Go.Proofs
theorem Ee{l:List Nat}{i j:Nat}(hi:i<l.length)(hj:j<l.length):(swp l i j).Perm l:=by
 rw[List.perm_iff_count];intro a
 have e1:l.getD i 0=l[i]:=by rw[bG,bn hi];rfl
 have e2:l.getD j 0=l[j]:=by rw[bG,bn hj];rfl
 have e3:(l.set i l[j])[j]'(by simpa using hj)=l[j]:=by
  rw[List.getElem_set];split<;>rfl
 rw[swp,e1,e2,List.count_set (by simpa using hj),List.count_set hi,e3]
 have hp:l[i]=a->0<l.count a:=fun h=>Rm.2 (h▸bC hi)
 by_cases h1:l[i]=a
 ·have:=hp h1
  by_cases h2:l[j]=a<;>simp[h1,h2]<;>omega
 ·by_cases h2:l[j]=a<;>simp[h1,h2]
theorem YW(j:Nat):∀l:List Nat,j<l.length->(lU l j).Perm l:=by
 induction j using Nat.strongRecOn with
 |_ j ih=>
  intro l hj;rw[lU]
  split
  ·exact .refl _
  ·split
   ·exact(ih _ (by omega) _ (by rw[dC];omega)).trans (Ee (by omega) hj)
   ·exact .refl _
theorem Wh(n:Nat):∀(m i:Nat)(l:List Nat),n-i<=m->n<=l.length->i<l.length->(fS n l i).1.Perm l:=by
 intro m
 induction m with
 |zero=>
  intro i l h hn hi;rw[fS,if_pos (by omega)]
 |succ m ih=>
  intro i l h hn hi;rw[fS]
  split
  ·exact .refl _
  ·split
   ·have:=vQ l (2*i+1) n;have:=As l (j:=2*i+1) (n:=n) (by omega);exact(ih _ _ (by omega) (by rw[dC];omega) (by rw[dC];omega)).trans (Ee hi (by omega))
   ·exact .refl _
theorem vf(l:List Nat)(x:Nat):(eV l x).Perm (x::l):=(YW _ _ (by simp)).trans List.perm_append_comm
def bm(l:List Nat):Nat:=(dj l).getD (l.length-1) 0
def du(l:List Nat):List Nat:=(dj l).take (l.length-1)
theorem W1{l:List Nat}(h:0<l.length):(dj l).Perm l:=by
 rw[dj];exact(Wh _ _ _ _ (aW _) (by rw[dC];omega) (by rw[dC];omega)).trans (Ee h (by omega))
theorem WI{l:List Nat}(h:0<l.length):dj l=du l++[bm l]:=by
 have hl:=zO l
 have hlt:l.length-1<(dj l).length:=by omega
 have h5:(dj l).getD (l.length-1) 0=(dj l)[l.length-1]:=by rw[bG,bn hlt];rfl
 rw[bm,du,h5]
 conv=>lhs;rw[<-nH (l.length-1) (dj l)]
 congr 1;rw[bT hlt,bu (by omega)]
theorem J'{l:List Nat}(h:0<l.length):(bm l::du l).Perm l:=by
 have:=W1 h;rw[WI h]at this;exact List.perm_append_comm.symm.trans this
theorem JS(l:List Nat):(du l).length=l.length-1:=by rw[du,gK,zO];omega
def j8(n:Nat)(l:List Nat):Prop:=∀k,0<k->k<n->l.getD ((k-1)/2) 0<=l.getD k 0
theorem vK{l:List Nat}{i j:Nat}(hi:i<l.length)(hj:j<l.length)(k:Nat):(swp l i j).getD k 0=if k=j then l.getD i 0 else if k=i then l.getD j 0 else l.getD k 0:=by
 simp only[swp,bG,nM,kx]
 by_cases h1:j=k
 ·subst h1;simp[hj]
 ·have h1':¬k=j:=fun h=>h1 h.symm
  by_cases h2:i=k
  ·subst h2;simp[h1,h1',hi]
  ·have h2':¬k=i:=fun h=>h2 h.symm
   simp[h1,h1',h2,h2']
theorem ZY(j:Nat):∀l:List Nat,j<l.length->(∀k,0<k->k<l.length->k≠j->l.getD ((k-1)/2) 0<=l.getD k 0)->(0<j->∀k,k<l.length->0<k->(k-1)/2=j->l.getD ((j-1)/2) 0<=l.getD k 0)->j8 l.length (lU l j):=by
 induction j using Nat.strongRecOn with
 |_ j ih=>
  intro l hj h1 h2;rw[lU]
  split
  ·rename_i h0;intro k hk hkl;exact h1 k hk hkl (by omega)
  ·rename_i h0
   have hpl:(j-1)/2<l.length:=by omega
   split
   ·rename_i hlt;have hs:=vK hpl hj
    have key:j8 (swp l ((j-1)/2) j).length (lU (swp l ((j-1)/2) j) ((j-1)/2)):=by
     refine ih _ (by omega) _ (by rw[dC];exact hpl) (fun k hk hkl hkp=>?_) (fun hp k hkl hk hkp=>?_)
     ·rw[dC]at hkl;rw[hs,hs]
      have hq:¬(k-1)/2=j\/(k-1)/2=j:=by omega
      by_cases hkj:k=j
      ·subst hkj;rw[if_neg (by omega),if_pos rfl,if_pos rfl];omega
      ·rw[if_neg hkj,if_neg hkp];have hk1:=h1 k hk hkl hkj
       by_cases hc:(k-1)/2=j
       ·rw[if_pos hc];exact h2 (by omega) k hkl hk hc
       ·rw[if_neg hc]
        by_cases hd:(k-1)/2=(j-1)/2
        ·rw[if_pos hd]
         rw[hd]at hk1;omega
        ·rw[if_neg hd];exact hk1
     ·rw[dC]at hkl;rw[hs,hs,if_neg (by omega),if_neg (by omega)];have hpp:=h1 ((j-1)/2) hp hpl (by omega)
      by_cases hkj:k=j
      ·rw[if_pos hkj];exact hpp
      ·rw[if_neg hkj,if_neg (by omega)];have hk1:=h1 k hk hkl hkj
       rw[hkp]at hk1;omega
    rw[dC]at key;exact key
   ·rename_i hge;intro k hk hkl
    by_cases hkj:k=j
    ·subst hkj;omega
    ·exact h1 k hk hkl hkj
theorem Ju{l:List Nat}(h:j8 l.length l)(x:Nat):j8 (eV l x).length (eV l x):=by
 have e:(eV l x).length=(l++[x]).length:=by rw[vq];simp
 have g:∀k,k<l.length->(l++[x]).getD k 0=l.getD k 0:=fun k hk=>by simp[dz hk]
 rw[e,eV];refine ZY _ _ (by simp) (fun k hk hkl hkj=>?_) (fun hj k hkl hk hkp=>?_)
 ·simp only[bM,rU]at hkl;rw[g _ (by omega),g _ (by omega)];exact h k hk (by omega)
 ·simp only[bM,rU]at hkl;omega
theorem VS(n:Nat):∀(m i:Nat)(l:List Nat),n-i<=m->n<=l.length->i<l.length->(∀k,0<k->k<n->(k-1)/2≠i->l.getD ((k-1)/2) 0<=l.getD k 0)->(0<i->∀k,k<n->0<k->(k-1)/2=i->l.getD ((i-1)/2) 0<=l.getD k 0)->j8 n (fS n l i).1:=by
 intro m
 induction m with
 |zero=>
  intro i l h hn hi h1 h2;rw[fS,if_pos (by omega)];intro k hk hkn;exact h1 k hk hkn (by omega)
 |succ m ih=>
  intro i l h hn hi h1 h2;rw[fS]
  split
  ·intro k hk hkn;exact h1 k hk hkn (by omega)
  ·rename_i hc;have kg:=vQ l (2*i+1) n;have kl:=As l (j:=2*i+1) (n:=n) (by omega)
   have kk:fH l (2*i+1) n=2*i+1\/fH l (2*i+1) n=2*i+2:=by unfold fH;split<;>omega
   have least:∀k,k<n->0<k->(k-1)/2=i->l.getD (fH l (2*i+1) n) 0<=l.getD k 0:=by
    intro k hkn hk hkp
    have hk2:k=2*i+1\/k=2*i+1+1:=by omega
    unfold fH
    split
    ·rename_i hh
     rcases hk2 with rfl|rfl
     ·omega
     ·exact aW _
    ·rename_i hh
     rcases hk2 with rfl|rfl
     ·exact aW _
     ·have:¬l.getD (2*i+1+1) 0<l.getD (2*i+1) 0:=fun h=>hh ⟨hkn,h⟩
      omega
   generalize fH l (2*i+1) n=j at*
   have hjl:j<l.length:=by omega
   have hs:=vK hi hjl
   split
   ·rename_i hlt;refine ih _ _ (by omega) (by rw[dC];exact hn) (by rw[dC];exact hjl) (fun k hk hkn hkp=>?_) (fun hp k hkn hk hkp=>?_)
    ·rw[hs,hs,if_neg hkp]
     by_cases hkj:k=j
     ·subst hkj;rw[if_pos rfl,if_pos (by omega)];omega
     ·rw[if_neg hkj]
      by_cases hci:(k-1)/2=i
      ·rw[if_pos hci,if_neg (by omega)];exact least k hkn hk hci
      ·rw[if_neg hci];have hk1:=h1 k hk hkn hci
       by_cases hki:k=i
       ·rw[if_pos hki];subst hki;exact h2 hk j kl (by omega) (by omega)
       ·rw[if_neg hki];exact hk1
    ·rw[hs,hs]
     have hpi:(j-1)/2=i:=by omega
     have hjne:¬i=j:=by omega
     rw[hpi,if_neg hjne,if_pos rfl,if_neg (by omega),if_neg (by omega)];have:=h1 k hk hkn (by omega)
     rw[hkp]at this;exact this
   ·rename_i hge;intro k hk hkn
    by_cases hci:(k-1)/2=i
    ·have:=least k hkn hk hci
     show l.getD ((k-1)/2) 0<=l.getD k 0
     rw[hci];omega
    ·exact h1 k hk hkn hci
theorem Yi{n:Nat}{l:List Nat}(h:j8 n l):∀k,k<n->l.getD 0 0<=l.getD k 0:=by
 intro k
 induction k using Nat.strongRecOn with
 |_ k ih=>
  intro hk
  by_cases h0:k=0
  ·subst h0;exact aW _
  ·have h1:=h k (by omega) hk;have h2:=ih ((k-1)/2) (by omega) (by omega);omega
theorem WD{l:List Nat}(h:j8 l.length l)(h0:0<l.length):j8 (du l).length (du l):=by
 have hs:=vK (l:=l) (i:=0) (j:=l.length-1) h0 (by omega)
 have hd:j8 (l.length-1) (dj l):=by
  rw[dj];refine VS _ _ 0 _ (aW _) (by rw[dC];omega) (by rw[dC];omega) (fun k hk hkn hkp=>?_) (fun hp=>absurd hp (by omega));rw[hs,hs,if_neg (by omega),if_neg hkp,if_neg (by omega),if_neg (by omega)];exact h k hk (by omega)
 have hl:=zO l
 have g:∀k,k<l.length-1->(du l).getD k 0=(dj l).getD k 0:=fun k hk=>by
  rw[du];simp only[bG];rw[w8 hk]
 rw[JS];intro k hk hkn;rw[g _ (by omega),g _ hkn];exact hd k hk hkn
theorem Ze{l:List Nat}(h0:0<l.length):bm l=l.getD 0 0:=by
 have hs:=vK (l:=l) (i:=0) (j:=l.length-1) h0 (by omega)
 have fU:∀(n m i:Nat)(x:List Nat),n-i<=m->n<x.length->i<=n->(i<x.length)->(i<n\/n=0)->(fS n x i).1.getD n 0=x.getD n 0:=by
  intro n m
  induction m with
  |zero=>
   intro i x h1 h2 h3 h4 h5;rw[fS,if_pos (by omega)]
  |succ m ih=>
   intro i x h1 h2 h3 h4 h5;rw[fS]
   split
   ·rfl
   ·rename_i hc;have kg:=vQ x (2*i+1) n;have kl:=As x (j:=2*i+1) (n:=n) (by omega);generalize fH x (2*i+1) n=j at*
    split
    ·rw[ih j _ (by omega) (by rw[dC];exact h2) (by omega) (by rw[dC];omega) (by omega),vK h4 (by omega),if_neg (by omega),if_neg (by omega)]
    ·rfl
 rw[bm,dj,fU _ _ 0 _ (aW _) (by rw[dC];omega) (by omega) (by rw[dC];omega) (by omega),hs,if_pos rfl]
theorem YR{l:List Nat}(h:j8 l.length l)(h0:0<l.length){x:Nat}(hx:x∈l):bm l<=x:=by
 rw[Ze h0];obtain⟨k,hk,rfl⟩:=o7 hx;have:=Yi h k hk;rw[bG (i:=k),bn hk]at this;exact this
end Go.Proofs.YtihmomicdpkabaaGreatDoor
namespace Go.Proofs.YtihmomicdpkabaaGreatDoor
open Go.AM Go.Proofs
variable{Γ:Nat->Option AV}
def oD(b:List (List Nat)):Nat->List (List Nat)->List Nat->List Nat->List Nat
 |0,_,_,_=>[]
 |f+1,nd,l,s=>if l=[]then[]else
  bm l::oD b f (ec (bm l) (b.getD (bm l) []) nd (du l) (bm l::s)).1 (ec (bm l) (b.getD (bm l) []) nd (du l) (bm l::s)).2.1 (ec (bm l) (b.getD (bm l) []) nd (du l) (bm l::s)).2.2
def rm(b:List (List Nat)):Nat->List (List Nat)->List Nat->List Nat->Prop
 |0,_,l,_=>l=[]
 |f+1,nd,l,s=>l=[]\/rm b f (ec (bm l) (b.getD (bm l) []) nd (du l) (bm l::s)).1 (ec (bm l) (b.getD (bm l) []) nd (du l) (bm l::s)).2.1 (ec (bm l) (b.getD (bm l) []) nd (du l) (bm l::s)).2.2
theorem EC(a N:Nat):∀(r:List Nat)(nd:List (List Nat))(l s:List Nat),(∀i∈r,i<N)->nd.length=N->(∀x∈nd,x.Nodup)->(∀x∈l,x<N)->
 (ec a r nd l s).1.length=N/\(∀x∈(ec a r nd l s).1,x.Nodup)/\(∀x∈(ec a r nd l s).2.1,x<N)/\(ec a r nd l s).2.1.length<=l.length+r.length
 |[],nd,l,s,_,h2,h3,h4=>⟨h2,h3,h4,by simp[ec]⟩
 |i::r,nd,l,s,h1,h2,h3,h4=>by
  have hi:=h1 i (by simp)
  have hn:(nd.set i (di a (nd.getD i []))).length=N:=by simpa using h2
  have hd:∀x∈nd.set i (di a (nd.getD i [])),x.Nodup:=fun x hx=>by
   rcases nK hx with h5|h5
   ·exact h3 x h5
   ·rw[h5];refine JL a ?_;rw[bG,bn (by omega)];exact h3 _ (bC _)
  rw[ec]
  split
  ·have:=EC a N r _ (eV l i) s.tail (fun x hx=>h1 x (by simp[hx])) hn hd (fun x hx=>by
    have:=(vf l i).mem_iff.1 hx
    rcases bq.1 this with rfl|h6
    ·exact hi
    ·exact h4 x h6)
   rw[vq]at this;refine⟨this.1,this.2.1,this.2.2.1,?_⟩;have:=this.2.2.2
   simp only[b9];omega
  ·have:=EC a N r _ l s (fun x hx=>h1 x (by simp[hx])) hn hd h4;refine⟨this.1,this.2.1,this.2.2.1,?_⟩;have:=this.2.2.2
   simp only[b9];omega
set_option maxRecDepth 8000 in
theorem acP(c:Ct)(hc:bY c)(hbL:∀x∈bw c,x.length<=2^21/\∀i∈x,i<c.af.length){S:Type}(M:S->List Ob)(F:S->Nat->S)(n L r:Nat)(hM:∀x,(M x).length=n)(hv:∀x,fL (M x))(hr:r<n)(I:S->Nat->Prop)(hI:∀x k a,I x k->a<c.af.length->I (F x a) (k+1))
 (hB:∀x k a T up,I x k->k<2^20->a<c.af.length->(∀m,up.all (fZ r m)=true)->(∀m,cD r m T=true)->AM.Reach Tryz.prog Γ ((iR.yl L).cfg [.int .i64 a] up (M x++T)) (.back up (.bool true) (M (F x a)++T)))
 (up:List Fr)(hup:∀m,up.all (fZ r m)=true):∀(f:Nat)(x:S)(k:Nat)(nd:List (List Nat))(l s:List Nat),nd.length=c.af.length->(∀x∈nd,x.Nodup)->(∀a∈l,a<c.af.length)->l.length+f*2^22<=2^37->I x k->k+f<=2^20->rm (bw c) f nd l s->
 ∃T,AM.Reach Tryz.prog Γ (Pu (.cQ L) (.ptr (n+(9+(c.af.length+c.af.length))) 0) (.ptr (n+(11+(c.af.length+c.af.length))) 0) (hP (aC c (M x) nd) l s none) ⟨[],.norm,n,up⟩)
  (.back up (.aG []) (M ((oD (bw c) f nd l s).foldl F x)++T)):=by
 have stop:∀(x:S)(nd:List (List Nat))(s:List Nat),nd.length=c.af.length->∃T,AM.Reach Tryz.prog Γ (Pu (.cQ L) (.ptr (n+(9+(c.af.length+c.af.length))) 0) (.ptr (n+(11+(c.af.length+c.af.length))) 0) (hP (aC c (M x) nd) [] s none) ⟨[],.norm,n,up⟩)
  (.back up (.aG []) (M x++T)):=by
  intro x nd s hn;have hAl:=oh (M:=M x) hn;rw[hM]at hAl;have xc:=np (A:=aC c (M x) nd) (l:=[]) (s:=s) (g:=none);have h1:=AN (Γ:=Γ) (aC c (M x) nd) [] s none (.inl rfl)
  have he:hP (aC c (M x) nd) [] s none=M x++(tC c n nd++[.row 1 aq (s.map iN) none true false,.cells [.sl (n+(10+(c.af.length+c.af.length))) 0 0]]):=by
   rw[hP,hAl]
   conv=>lhs;rw[vW,hM]
   simp
  rw[hAl,show n+(10+(c.af.length+c.af.length))+1=n+(11+(c.af.length+c.af.length)) by omega]at xc;rw[hAl]at h1;refine⟨tC c n nd++[.row 1 aq (s.map iN) none true false,.cells [.sl (n+(10+(c.af.length+c.af.length))) 0 0]],?_⟩;rw[<-he];generalize hP (aC c (M x) nd) [] s none=X at*;simp at xc h1;refine .ba 60 ?_;simp[xc];refine .a_ 60 h1 ?_;simp
 intro f
 induction f with
 |zero=>
  intro x k nd l s hn hd hl hb hIx hk hE;rw[rm]at hE;subst hE;rw[oD];exact stop x nd s hn
 |succ f ih=>
  intro x k nd l s hn hd hl hb hIx hk hE;rw[oD]
  by_cases h0:l=[]
  ·subst h0;rw[if_pos rfl];exact stop x nd s hn
  ·rw[rm]at hE;have hE:=hE.resolve_left h0;rw[if_neg h0];have hpos:0<l.length:=qk.2 h0;have hhr:=J' hpos;have ha:bm l<c.af.length:=hl _ (hhr.mem_iff.1 (by simp))
   have hrl:∀y∈du l,y<c.af.length:=fun y hy=>hl _ (hhr.mem_iff.1 (by simp[hy]))
   have hbm:(bw c).getD (bm l) []∈bw c:=by
    rw[bG,bn (by rw[gq];exact ha)];exact bC _
   obtain⟨hb1,hb2⟩:=hbL _ hbm;have hok:=EC (bm l) c.af.length ((bw c).getD (bm l) []) nd (du l) (bm l::s) hb2 hn hd hrl;have hrest:=JS l
   have h3:=fun M' hv'=>acZ (Γ:=Γ) c hc (M:=M') hv' L (bm l) ha hb2 up ((bw c).getD (bm l) []).length 0 (by omega) nd (du l) (bm l::s) hn hd (by omega) (by omega)
   obtain⟨T,hT⟩:=ih (F x (bm l)) (k+1) _ _ _ hok.1 hok.2.1 hok.2.2.1 (by have:=hok.2.2.2;omega) (hI x k _ hIx ha) (by omega) hE;refine⟨T,?_⟩;have hAl:=oh (M:=M x) hn;have hAl2:=oh (M:=M (F x (bm l))) hn;rw[hM]at hAl hAl2;have h3':=h3 (M (F x (bm l))) (hv _);rw[iu,hM]at h3';have xc:=np (A:=aC c (M x) nd) (l:=l) (s:=s) (g:=none);have h1:=AN (Γ:=Γ) (aC c (M x) nd) l s none (.inl rfl);have h2:=adq (Γ:=Γ) (aC c (M x) nd) l s hpos (by omega);rw[hAl]at xc h1 h2;rw[show n+(10+(c.af.length+c.af.length))+1=n+(11+(c.af.length+c.af.length)) by omega]at xc h2;rw[show(dj l).getD (l.length-1) 0=bm l from rfl,show(dj l).take (l.length-1)=du l from rfl]at h2
   let T2:List Ob:=tC c n nd++[.row 1 aq ((du l++bm l::s).map iN) none true false,.cells [.sl (n+(10+(c.af.length+c.af.length))) 0 (du l).length]]
   have he:∀y,hP (aC c (M y) nd) (du l) (bm l::s) none=M y++T2:=fun y=>by
    have hy:=oh (M:=M y) hn;rw[hM]at hy;rw[hP,hy]
    conv=>lhs;rw[vW,hM]
    simp[T2]
   have hTv:∀m,cD r m T2=true:=fun m=>by
    have hne:(n+(10+(c.af.length+c.af.length))==r)=false:=by simp;omega
    rw[show T2=tC c n nd++[.row 1 aq ((du l++bm l::s).map iN) none true false,.cells [.sl (n+(10+(c.af.length+c.af.length))) 0 (du l).length]]from rfl,iv,acH n hr];simp[hne]
   have hbody:=fun up hup=>hB x k (bm l) T2 up hIx (by omega) ha hup hTv
   rw[<-he,<-he]at hbody
   have hlp:(0:Int)<l.length:=by omega
   have xw:=oB (A:=aC c (M (F x (bm l))) nd) (l:=du l) (s:=bm l::s) (g:=none) (i:=n+(9+(c.af.length+c.af.length))) (by omega);have xb:=oB (A:=aC c (M (F x (bm l))) nd) (l:=du l) (s:=bm l::s) (g:=none) (i:=n+8) (by omega);have w1:=FW (M:=M (F x (bm l))) hn;have w2:=adZ (c:=c) (M:=M (F x (bm l))) (nd:=nd);rw[hM]at w1 w2;rw[w1]at xw;rw[w2]at xb;have yb:=qU (n:=n+6) (b:=bw c) (k:=bm l) (by rw[gq];exact ha)
   have egd:(bw c)[bm l]'(by rw[gq];exact ha)=(bw c).getD (bm l) []:=by rw[bG,bn (by rw[gq];exact ha)];rfl
   rw[egd,show n+6+(3+bm l)=n+(9+bm l) by omega]at yb;have zl:=pA (n+6) (bw c);rw[gq]at zl;have zt:List.take c.af.length (fa (n+6) (bw c))=fa (n+6) (bw c):=cL (by rw[zl];exact aW _);obtain⟨_,yb'⟩:=dB.1 yb;generalize hRR:ec (bm l) ((bw c).getD (bm l) []) nd (du l) (bm l::s)=R at*;have hfold:(bm l::oD (bw c) f R.1 R.2.1 R.2.2).foldl F x=(oD (bw c) f R.1 R.2.1 R.2.2).foldl F (F x (bm l)):=rfl;rw[hfold];clear hfold he hTv h3 hok w1 w2;generalize hP (aC c (M x) nd) l s none=X at*;generalize hP (aC c (M x) nd) (du l) (bm l::s) none=Y at*;generalize hP (aC c (M (F x (bm l))) nd) (du l) (bm l::s) none=Z at*;generalize hP (aC c (M (F x (bm l))) R.1) R.2.1 R.2.2 none=W at*;generalize fa (n+6) (bw c)=E at*;generalize(bw c).getD (bm l) []=bs at*
   generalize bm l=a at*;refine .ba 60 ?_;simp[xc];refine .a_ 60 h1 ?_;simp[hpos];refine .a_ 8 h2 ?_;simp;refine Reach.ac3 (l:=L) (args:=[.int .i64 a]) (v:=.bool true) (h':=Z) (by simp) (hbody _ (fun m=>by simp[hup m];omega)) ?_;refine .ba 60 ?_;simp[xw,xb,yb,yb',zl,zt,ha];refine .inLoop ?_;simp at h3'⊢;refine .trans h3' ?_;refine .ba 60 ?_;simp;refine .aN ?_;simp at hT⊢;exact hT
theorem D'(nd:List (List Nat))(N:Nat):∀(m i:Nat)(l:List Nat),i+m=N->(∀a∈l,a<N)->(∀a∈ia nd m i l,a<N)/\(ia nd m i l).length<=l.length+m
 |0,i,l,h,hl=>⟨hl,by simp[ia]⟩
 |m+1,i,l,h,hl=>by
  rw[ia]
  split
  ·have:=D' nd N m (i+1) (eV l i) (by omega) (fun a ha=>by
    rcases bq.1 ((vf l i).mem_iff.1 ha)with rfl|h1
    ·omega
    ·exact hl a h1)
   rw[vq]at this;exact⟨this.1,by omega⟩
  ·have:=D' nd N m (i+1) l (by omega) hl;exact⟨this.1,by omega⟩
theorem C4(pl:List (Bs×Nat)):∀(l:List Bs)(a:List Nat),a.Nodup->(eA pl l a).Nodup
 |[],a,h=>h
 |s::r,a,h=>by
  rw[eA]
  split
  ·exact C4 pl r a h
  ·refine C4 pl r _ ?_
   split
   ·exact h
   ·rename_i k _ hk;rw[Ce];refine⟨h,by simp,fun x hx y hy=>?_⟩;simp only[dA]at hy;subst hy
    exact fun he=>hk (he▸hx)
theorem I0(pl:List (Bs×Nat)):∀(l:List Gt)(i:Nat)(nd b:List (List Nat)),(∀x∈nd,x.Nodup)->∀x∈(eW pl l i nd b).1,x.Nodup
 |[],_,_,_,h=>h
 |g::r,i,nd,b,h=>by
  rw[eW]
  refine I0 pl r _ _ _ fun x hx=>?_
  rcases bF.1 hx with h1|h1
  ·exact h x h1
  ·rw[dA]at h1
   rw[h1];exact C4 pl _ _ (by simp)
theorem UM(c:Ct):∀x∈dN c,x.Nodup:=I0 _ _ _ _ _ (by simp)
theorem EF(pl:List (Bs×Nat))(i:Nat):∀(l:List Bs)(a:List Nat)(b:List (List Nat)),∀x∈iS pl i l a b,∀y∈x,y=i\/∃z∈b,y∈z
 |[],_,_,x,hx,y,hy=>.inr ⟨x,hx,hy⟩
 |s::r,a,b,x,hx,y,hy=>by
  rw[iS]at hx
  split at hx
  ·exact EF pl i r a b x hx y hy
  ·rename_i k _
   rcases EF pl i r _ _ x hx y hy with h|⟨z,hz,hyz⟩
   ·exact .inl h
   ·split at hz
    ·exact .inr ⟨z,hz,hyz⟩
    ·rcases nK hz with h1|h1
     ·exact .inr ⟨z,h1,hyz⟩
     ·rw[h1]at hyz
      rcases bF.1 hyz with h2|h2
      ·by_cases hk:k<b.length
       ·rw[bG,bn hk]at h2;exact .inr ⟨_,bC hk,h2⟩
       ·rw[bG,jq (by omega)]at h2;simp at h2
      ·exact .inl (by simpa using h2)
theorem KA(pl:List (Bs×Nat)):∀(l:List Gt)(i N B:Nat)(nd b:List (List Nat)),(∀g∈l,g.ins.length<2^10)->i+l.length=N->(∀x∈b,x.length<=B/\∀y∈x,y<N)->∀x∈(eW pl l i nd b).2,x.length<=B+l.length*2^10/\∀y∈x,y<N
 |[],_,_,_,_,_,_,_,h=>fun x hx=>by simpa using h x hx
 |g::r,i,N,B,nd,b,hg,hN,h=>fun x hx=>by
  rw[eW]at hx;simp only[b9]at hN⊢;have hb:=E5 pl i B g.ins [] b (fun x hx=>(h x hx).1)
  have:=KA pl r (i+1) N (B+2^10) _ _ (fun y hy=>hg y (by simp[hy])) (by omega) (fun y hy=>by
   have:=hb y hy;have:=hg g (by simp);refine⟨by omega,fun z hz=>?_⟩
   rcases EF pl i g.ins [] b y hy z hz with h1|⟨w,hw,hzw⟩
   ·omega
   ·exact(h w hw).2 z hzw) x hx
  rw[Cf];exact⟨by omega,this.2⟩
theorem ZZ{c:Ct}(hc:bY c):∀x∈bw c,x.length<=2^21/\∀i∈x,i<c.af.length:=fun x hx=>by
 have hN:=hc.2.2.2.1
 have:=KA (bW c) c.af 0 c.af.length 0 [] (List.replicate c.af.length []) (fun g hg=>(hc.2.2.2.2.1 g hg).2.1) (by omega) (fun y hy=>by
  rw[Rw]at hy
  rw[hy.2];simp) x hx
 exact⟨by omega,this.2⟩
def ng(c:Ct)(f:Nat):List Nat:=oD (bw c) f (dN c) (ia (dN c) c.af.length 0 []) []
def FH(c:Ct)(f:Nat):Prop:=rm (bw c) f (dN c) (ia (dN c) c.af.length 0 []) []
theorem adp(c:Ct){M:List Ob}(hw:cI M){nd:List (List Nat)}(hn:nd.length=c.af.length){m:Nat}(hm:M.length+(10+(c.af.length+c.af.length))<=m):cw m (aC c M nd)=true:=by
 have h1:=hw m (by omega);have h2:=abP c (n:=M.length) (m:=m) (by omega);have h3:=Mz (n:=M.length+6) (m:=m) (bw c) (by rw[gq];omega);have h4:=DY (n:=M.length+6) (N:=c.af.length) (m:=nd.length) (q:=m) (by omega);rw[vW,nX,tC,nX,nX,nX,nX,h1,h2,D_,Ea];simp[hF,h3,h4];omega
set_option maxRecDepth 8000 in
theorem Yd(c:Ct)(hc:bY c)(hd:(c.af.map (·.name)).Nodup){S:Type}(M:S->List Ob)(F:S->Nat->S)(n L r p:Nat)(hM:∀x,(M x).length=n)(hw:∀x,cI (M x))(hv:∀x,fL (M x))(hr:r<n)(hL:L<n)(hp:∀x,(M x)[p]? =some (.cells (AV.cells (bR c))))(I:S->Nat->Prop)(hI:∀x k a,I x k->a<c.af.length->I (F x a) (k+1))
 (hB:∀x k a T up,I x k->k<2^20->a<c.af.length->(∀m,up.all (fZ r m)=true)->(∀m,cD r m T=true)->AM.Reach Tryz.prog Γ ((iR.yl L).cfg [.int .i64 a] up (M x++T)) (.back up (.bool true) (M (F x a)++T)))
 (up:List Fr)(hup:∀m,up.all (fZ r m)=true)(x:S)(hI0:I x 0)(f:Nat)(hf:f<=2^14)(hE:FH c f):
 AM.Reach Tryz.prog Γ (.cl mS [.cQ L,.ptr p 0] up (M x)) (.back up (.aG []) (M ((ng c f).foldl F x))):=by
 have hN:=hc.2.2.2.1;have hi:=D' (dN c) c.af.length c.af.length 0 [] (by omega) (by simp);obtain⟨T,hT⟩:=acP (Γ:=Γ) c hc (ZZ hc) M F n L r hM hv hr I hI hB up hup f x 0 (dN c) (ia (dN c) c.af.length 0 []) [] (sJ c) (UM c) hi.1 (by have:=hi.2;simp only[dq]at this;omega) hI0 (by omega) hE;have h14:=ach (Γ:=Γ) c hc (hv x) (dN c) (sJ c) L (.ptr p 0) up c.af.length 0 (by omega) [] (aW _);have hwt:=ab1 (Γ:=Γ) c hc hd (hw x) (hv x);have hpx:=hp x;have hMx:=hM x
 have key:AM.Reach Tryz.prog Γ (.cl mS [.cQ L,.ptr p 0] up (M x)) (.back up (.aG []) (M ((ng c f).foldl F x)++T)):=by
  have e1:hQ (gC c (M x)) (dN c) (bw c)++([.cells [.sl (n+7) 0 c.af.length,.sl (n+8) 0 c.af.length]])=aC c (M x) (dN c):=by rw[aC,hM]
  have e2:aC c (M x) (dN c)++[.row 1 aq [] none true false,.cells [.sl (aC c (M x) (dN c)).length 0 0]]=hP (aC c (M x) (dN c)) [] [] none:=by simp[hP]
  have e3:=oh (M:=M x) (sJ c)
  have e4:(hQ (gC c (M x)) (dN c) (bw c)).length=n+(9+(c.af.length+c.af.length)):=by rw[kK,jA,gq,sJ,hM];omega
  rw[jA]at hwt;rw[hM]at h14 hwt e3;refine .bB 60 S8 ?_;simp[hpx];have e5:=adp c (hw x) (sJ c) (m:=n+(10+(c.af.length+c.af.length))) (by rw[hM];omega);have hpn:=aV hpx;rw[hM]at hpn
  have e7:(aC c (M x) (dN c))[p]? =some (.cells (AV.cells (bR c))):=by rw[vW];exact fq hpx _
  rw[<-e1]at e2 e5 e7 h14 hT;refine .a_ 5 hwt ?_;generalize hQ (gC c (M x)) (dN c) (bw c)=X at*;simp
  have et:(X++[Ob.cells [.sl (n+7) 0 c.af.length,.sl (n+8) 0 c.af.length],.row 1 jv [] none true false,.row 1 iC [] none true false]).take (n+(10+(c.af.length+c.af.length)))=X++[.cells [.sl (n+7) 0 c.af.length,.sl (n+8) 0 c.af.length]]:=by
   rw[show n+(10+(c.af.length+c.af.length))=X.length+1 by omega,List.take_length_add_append];rfl
  refine .ml (n:=n+(10+(c.af.length+c.af.length))) et (by simp[hM]) (by simp;omega) e5 ?_
  have hXl:(X++[Ob.cells [.sl (n+7) 0 c.af.length,.sl (n+8) 0 c.af.length]]).length=n+(10+(c.af.length+c.af.length)):=by simp;omega
  rw[hXl]at e2;generalize X++[Ob.cells [.sl (n+7) 0 c.af.length,.sl (n+8) 0 c.af.length]]=A at*;refine .YH 60 aq (es:=[]) (by simp) rfl ?_;have e6:A++[Ob.row 1 aq [] none true false,.cells [.sl (n+(10+(c.af.length+c.af.length))) 0 0]]=hP A [] [] none:=e2
  have e8:=fun os=>fq e7 os
  simp[e8,hXl,cd];rw[e6];refine .inLoop ?_
  have e9:n+(10+(c.af.length+c.af.length))+1=n+(11+(c.af.length+c.af.length)):=by omega
  rw[e9,e4,hM];simp at h14⊢;refine .trans h14 ?_;refine .ba 60 ?_;simp;refine .inLoop ?_;unfold ng;simp at hT⊢;exact hT
 have:=AM.Reach.leave key rfl (by
  rw[hM,<-hM ((ng c f).foldl F x),List.take_left]
  exact hw _ _ (aW _))
 rw[hM,<-hM ((ng c f).foldl F x),List.take_left]at this;exact this
theorem Ln(N:List Bs):∀l:List Bs,((gO N l).1=6/\(gO N l).2∉N)\/(gO N l=(0,[])/\∀s∈l,s∈N)
 |[]=>.inr ⟨rfl,fun s hs=>by cases hs⟩
 |a::l=>by
  rw[gO]
  by_cases h:a∈N
  ·rw[if_pos h]
   rcases Ln N l with h1|⟨h1,h2⟩
   ·exact .inl h1
   ·refine .inr ⟨h1,fun s hs=>?_⟩
    rcases bq.1 hs with rfl|hs
    ·exact h
    ·exact h2 s hs
  ·rw[if_neg h];exact .inl ⟨rfl,h⟩
theorem KY(r:Int×Bs):∀l:List Gt,jd r l=r/\(∀g∈l,kR g=true)\/(jd r l).1=1
 |[]=>.inl ⟨rfl,fun g hg=>by cases hg⟩
 |g::l=>by
  rw[jd]
  by_cases h:kR g=true
  ·rw[if_pos h]
   rcases KY r l with⟨h1,h2⟩|h1
   ·refine .inl ⟨h1,fun x hx=>?_⟩
    rcases bq.1 hx with rfl|hx
    ·exact h
    ·exact h2 x hx
   ·exact .inr h1
  ·rw[if_neg h];exact .inr rfl
theorem Lh(r:Int×Bs):∀l:List Lt,j_ r l=r/\(∀q∈l,lr q=true)\/(j_ r l).1=1
 |[]=>.inl ⟨rfl,fun g hg=>by cases hg⟩
 |g::l=>by
  rw[j_]
  by_cases h:lr g=true
  ·rw[if_pos h]
   rcases Lh r l with⟨h1,h2⟩|h1
   ·refine .inl ⟨h1,fun x hx=>?_⟩
    rcases bq.1 hx with rfl|hx
    ·exact h
    ·exact h2 x hx
   ·exact .inr h1
  ·rw[if_neg h];exact .inr rfl
theorem Ly(r:Int×Bs):∀l:List Bs,m8 r l=r/\(∀s∈l,iK s=true)\/(m8 r l).1=4
 |[]=>.inl ⟨rfl,fun g hg=>by cases hg⟩
 |g::l=>by
  rw[m8]
  by_cases h:iK g=true
  ·rw[if_pos h]
   rcases Ly r l with⟨h1,h2⟩|h1
   ·refine .inl ⟨h1,fun x hx=>?_⟩
    rcases bq.1 hx with rfl|hx
    ·exact h
    ·exact h2 x hx
   ·exact .inr h1
  ·rw[if_neg h];exact .inr rfl
theorem Na(t:Option Bs)(r:Int×Bs):(t=none/\lR t r=r)\/(lR t r).1=5:=by
 cases t with
 |none=>exact .inl ⟨rfl,rfl⟩
 |some s=>exact .inr rfl
structure gU(c:Ct):Prop where
 k9:iO c=false
 names:∀s∈pR c,iK s=true
 rE:iD (aK c)=none
 outs:iD c.bg=none
 init:∀q∈c.an,lr q=true
 af:∀g∈c.af,kR g=true
 used:∀s∈gz c,s∈aK c
theorem Yv(c:Ct):((h_ c).1≠0/\((h_ c).1=6->(h_ c).2∉aK c))\/(h_ c=(0,[])/\gU c):=by
 unfold h_
 cases hl:iO c with
 |true=>exact .inl ⟨by simp,by simp⟩
 |false=>
  rw[if_neg (by simp)]
  rcases Ly (lR (iD (aK c)) (lR (iD c.bg) (j_ (jd (gO (aK c) (gz c)) c.af) c.an))) (pR c)with⟨e1,h1⟩|h1
  ·rw[e1]
   rcases Na (iD (aK c)) (lR (iD c.bg) (j_ (jd (gO (aK c) (gz c)) c.af) c.an))with⟨h2,e2⟩|h2
   ·rw[e2]
    rcases Na (iD c.bg) (j_ (jd (gO (aK c) (gz c)) c.af) c.an)with⟨h3,e3⟩|h3
    ·rw[e3]
     rcases Lh (jd (gO (aK c) (gz c)) c.af) c.an with⟨e4,h4⟩|h4
     ·rw[e4]
      rcases KY (gO (aK c) (gz c)) c.af with⟨e5,h5⟩|h5
      ·rw[e5]
       rcases Ln (aK c) (gz c)with⟨h6,h7⟩|⟨e6,h6⟩
       ·exact .inl ⟨by rw[h6];decide,fun _=>h7⟩
       ·exact .inr ⟨e6,⟨hl,h1,h2,h3,h4,h5,h6⟩⟩
      ·exact .inl ⟨by rw[h5];decide,fun h=>by rw[h5]at h;cases h⟩
     ·exact .inl ⟨by rw[h4];decide,fun h=>by rw[h4]at h;cases h⟩
    ·exact .inl ⟨by rw[h3];decide,fun h=>by rw[h3]at h;cases h⟩
   ·exact .inl ⟨by rw[h2];decide,fun h=>by rw[h2]at h;cases h⟩
  ·exact .inl ⟨by rw[h1];decide,fun h=>by rw[h1]at h;cases h⟩
theorem IQ:∀(l seen:List Bs),mn seen l=none->l.Nodup/\∀s∈l,s∉seen
 |[],seen,_=>⟨List.nodup_nil,fun s hs=>by cases hs⟩
 |a::l,seen,h=>by
  rw[mn]at h
  by_cases hm:a∈seen
  ·rw[if_pos hm]at h;cases h
  ·rw[if_neg hm]at h;obtain⟨h1,h2⟩:=IQ l _ h;refine⟨l8.2 ⟨fun ha=>h2 a ha (by simp),h1⟩,fun s hs=>?_⟩
   rcases bq.1 hs with rfl|hs
   ·exact hm
   ·exact fun hs2=>h2 s hs (by simp[hs2])
theorem gU.nodup{c:Ct}(h:gU c):(aK c).Nodup:=(IQ _ _ h.rE).1
def GtB(g:Gt):Prop:=g.name.length<2^40/\g.ins.length<2^40/\g.rows.length<2^40/\(∀s∈g.ins,s.length<2^40)/\∀s∈g.rows,s.length<2^40
def jo(c:Ct):Prop:=c.aM.length<2^40/\c.bg.length<2^40/\c.an.length<2^40/\c.af.length<2^40/\(∀g∈c.af,GtB g)/\
 (∀s∈c.aM,s.length<2^40)/\(∀s∈c.bg,s.length<2^40)/\∀q∈c.an,q.name.length<2^40/\q.next.length<2^40
theorem Nz{α:Type}{p:α->Bool}:∀{l:List α},bo p l=false->∀x∈l,p x=false
 |[],_,x,hx=>by cases hx
 |a::l,h,x,hx=>by
  rw[iy,ju]at h
  rcases bq.1 hx with rfl|hx
  ·exact h.1
  ·exact Nz h.2 x hx
theorem bY.Bl{c:Ct}(h:bY c):jo c:=by
 obtain⟨h1,h2,h3,h4,h5,h6⟩:=h;refine⟨by omega,by omega,by omega,by omega,fun g hg=>?_,h6⟩;obtain⟨g1,g2,g3,g4⟩:=h5 g hg;exact⟨g1,by omega,by omega,g4⟩
theorem Jx{c:Ct}(hb:jo c)(hl:iO c=false):bY c:=by
 simp only[iO,ju,iV]at hl;obtain⟨h1,h2,h3⟩:=hl;obtain⟨b1,b2,b3,b4,b5,b6⟩:=hb;refine⟨by omega,by omega,by omega,by omega,fun g hg=>?_,b6⟩;obtain⟨g1,g2,g3,g4⟩:=b5 g hg;have:=Nz h1 g hg;simp only[rj,ju,iV]at this;exact⟨g1,by omega,by omega,g4⟩
set_option maxRecDepth 8000 in
theorem Lk(hΓ:jh Γ)(c:Ct)(hb:jo c):aS Tryz.prog Γ mT [bR c] (rC (h_ c)):=by
 cases hl:iO c with
 |false=>exact aav hΓ c (Jx hb hl)
 |true=>
  have b0:=hb.1;have b1:=hb.2.1;have b3:=hb.2.2.1;have b4:=hb.2.2.2.1;have hC:=Ix (Γ:=Γ) (fl:=false) (Mp c.af) c.hG (by omega) (h:=Gx c) trivial;have e0:((c.aM.length:Int)+c.an.length+c.af.length<=200)=(c.aM.length+c.an.length+c.af.length<=200):=propext (by omega);have e1:((c.bg.length:Int)<=200)=(c.bg.length<=200):=propext (by omega);refine .run 160 I6 (by simp) ?_;unfold h_
  by_cases h1:c.aM.length+c.an.length+c.af.length<=200
  ·by_cases h2:c.bg.length<=200
   ·simp(disch:=omega) [e0,e1,h1,h2];refine .a_ 160 hC ?_
    have h3:bo rj c.af=true:=by
     simp only[iO,eH,bd]at hl
     rcases hl with h|h|h
     ·exact h
     ·omega
     ·omega
    rw[h3];simp;refine .kV 160 (by simp) (lg 8 []) ?_;simp;refine .dr 90 ?_;simp;exact .back (by simp[hl])
   ·simp(disch:=omega) [e0,e1,h1,h2];refine .kV 160 (by simp) (lg 8 []) ?_;simp;refine .dr 90 ?_;simp;exact .back (by simp[hl])
  ·simp(disch:=omega) [e0,e1,h1];refine .kV 160 (by simp) (lg 8 []) ?_;simp;refine .dr 90 ?_;simp;exact .back (by simp[hl])
def j5(c:Ct):Bool:=decide ((h_ c).1=0)
theorem MO(hΓ:jh Γ)(c:Ct)(hb:jo c):aS Tryz.prog Γ xJ [bR c] (.bool (j5 c)):=by
 have hC:=Lk hΓ c hb;unfold j5;generalize h_ c=r at*;obtain⟨e,s⟩:=r;refine .run 60 T0 (by simp) ?_;simp;refine .call 60 (by simp) hC ?_;simp;exact .back (by simp)
theorem zz{c:Ct}(h:j5 c=true):gU c/\h_ c=(0,[]):=by
 rcases Yv c with⟨h1,_⟩|⟨h1,h2⟩
 ·exact absurd (Cj h) h1
 ·exact⟨h2,h1⟩
theorem zw{c:Ct}(hb:jo c)(h:j5 c=true):bY c:=Jx hb (zz h).1.k9
theorem xW{c:Ct}(h:j5 c=true):(c.af.map (·.name)).Nodup:=by
 have:=(zz h).1.nodup;rw[aK,Ce]at this;exact this.2.1
end Go.Proofs.YtihmomicdpkabaaGreatDoor
namespace Go.Proofs.YtihmomicdpkabaaGreatDoor
open Go.AM Go.Proofs Go.ChangeShapes Go.WideShapes Go.ChangeAt Go.RowKit
theorem own:ownKnob Tryz.prog.godebug=none:=by kernel_rfl
theorem laid:laidOutB Tryz.prog=true:=by kernel_rfl
theorem acY:mapsRowed Tryz.prog=true:=by kernel_rfl
def FG:List (Lit×DataW Unit):=match(Rows.laid_patchbay_net_ins:DataW Unit)with
 |.map D=>D
 |_=>[]
theorem aad:(Rows.laid_patchbay_net_ins:DataW Unit)=.map FG:=by kernel_rfl
def wo:List (AV×AV):=[(.int .i64 0,p2 0 0),(.int .i64 1,p2 0 0),(.int .i64 2,p2 1 1),(.int .i64 3,p2 1 1),(.int .i64 4,p2 2 8),(.int .i64 5,p2 2 8),(.int .i64 6,p2 2 8),(.int .i64 7,p2 2 8),(.int .i64 8,p2 2 8),(.int .i64 9,p2 2 8),(.int .i64 10,p2 0 8)]
theorem aak:(FG.map fun d=>(iL d.1,m_ d.2))=wo:=by kernel_rfl
theorem adb:Tryz.prog.globalNamed "patchbay/net.ins" =some 1:=by kernel_rfl
theorem adF:(Tryz.prog.globals[1]?).map (·.type)=some 211:=by kernel_rfl
theorem adE:Tryz.prog.underlying 211=some (.map 30 63):=by kernel_rfl
theorem QJ:Tryz.prog.underlying 30=some (.int .i64):=by kernel_rfl
theorem u74:Tryz.prog.underlying 63=some (.array 2 3):=by kernel_rfl
theorem u3:Tryz.prog.underlying 3=some (.int .i64):=by kernel_rfl
theorem u4:Tryz.prog.underlying 4=some .bool:=by kernel_rfl
abbrev abJ:Nat:=2
def AY:List (Lit×DataW Unit):=match(Rows.laid_patchbay_lower_ops:DataW Unit)with
 |.iface _ (.map D)=>D
 |_=>[]
theorem abm:(Rows.laid_patchbay_lower_ops:DataW Unit)=.iface "func table" (.map AY):=by kernel_rfl
def tI:List (List UInt8×FuncId):=[([40,42,112,97,116,99,104,98,97,121,47,108,111,119,101,114,46,98,117,105,108,100,101,114,41,46,110,111,110,101],uJ),
 ([40,42,112,97,116,99,104,98,97,121,47,108,111,119,101,114,46,98,117,105,108,100,101,114,41,46,97,108,108],sb),
 ([40,42,112,97,116,99,104,98,97,121,47,108,111,119,101,114,46,98,117,105,108,100,101,114,41,46,111,110,101],sd),
 ([40,42,112,97,116,99,104,98,97,121,47,108,111,119,101,114,46,98,117,105,108,100,101,114,41,46,111,100,100],sf)]
def wv(t:List UInt8):FuncId:=((tI.find? fun p=>p.1==t).map (·.2)).getD 0
def A6:List (AV×AV):=(List.range 10).map fun(n:Nat)=>(.int .i64 (n:Int),Hu (oI (n:Int)) ((n%2:Nat):Int))
theorem aaR:((DataW.funcsOutEntries AY).map fun d=>(iL d.1,m3 wv d.2))=A6:=by kernel_rfl
theorem adh:Tryz.prog.globalNamed "patchbay/lower.ops" =some 0:=by kernel_rfl
theorem adY:(Tryz.prog.globals[0]?).map (·.type)=some 111:=by kernel_rfl
theorem adK:Tryz.prog.underlying 111=some (.map 30 109):=by kernel_rfl
def NC:DataW (List UInt8)->Bool
 |.agg [.held t,.lit (.int .i64 _)]=>tI.any fun p=>p.1==t
 |_=>false
theorem W_:((DataW.funcsOutEntries AY).all fun d=>NC d.2)=true:=by kernel_rfl
theorem Zu:((List.range Tryz.prog.funcs.size).all fun f=>match Tryz.prog.funcs[f]? with
 |some fn=>!(tI.any fun p=>p.1==fn.name.toUTF8.data.toList)||wv fn.name.toUTF8.data.toList==f
 |none=>true)=true:=by kernel_rfl
theorem acJ:∃fs,Tryz.prog.underlying 109=some (.struct fs)/\fs.toList.map (fun f=>(f.type,f.offset))=[(107,0),(3,1)]:=⟨_,Tryz.underlying109,by kernel_rfl⟩
theorem abe{t:List UInt8}(h:(tI.any fun p=>p.1==t)=true)(f:FuncId)(fn:Func)(hf:Tryz.prog.funcs[f]? =some fn)(hn:fn.name.toUTF8.data.toList=t):wv t=f:=by
 have hs:f<Tryz.prog.funcs.size:=by
  refine uv fun hc=>?_
  rw[mJ (Nat.le_of_not_lt hc)]at hf
  cases hf
 have h1:=dy.1 Zu f (eu.2 hs);generalize Tryz.prog.funcs[f]? =o at hf h1;subst hf;have h2:(!(tI.any fun p=>p.1==fn.name.toUTF8.data.toList)||wv fn.name.toUTF8.data.toList==f)=true:=h1;rw[hn,h]at h2;simpa using h2
theorem ZM{W:World}(h:laidMetH Tryz.prog Rows.lowerOnceRow.laid W):∃Γ:Nat->Option AV,(jh Γ/\tN Γ)/\∀n a,Γ n=some a->aI 0 a.cells=true/\∃vs,VL (gw W) [] a.cells vs/\∀j(hj:j<vs.length),W.cell? ⟨n,j,none⟩=some vs[j]:=by
 obtain⟨ks,us,h1,h2,z,hz,hm⟩:=Y8 (VU h) (by kernel_rfl) (name:= "patchbay/net.ins") (D:=FG) (by
  rw[<-aad]
  refine dM.2 ⟨dY _ (qm ..),by kernel_rfl⟩) adb adF adE
  (fun v q hq=>by obtain⟨a,b,_⟩:=MG QJ (g:=gw W) (h:=[]) hq;exact⟨a,b⟩) (fun n v x hf ht=>Zq u74 u3 (by kernel_rfl) (by kernel_rfl) hf ht)
 obtain⟨fs,hfs,hfs2⟩:=acJ
 obtain⟨ks2,us2,h12,h22,z2,hz2,hm2⟩:=XG h (name:= "patchbay/lower.ops") (en:=AY) (by
  rw[<-abm]
  exact dY _ (dY _ (qm ..))) wv adh adY adK
  (fun v q hq=>by obtain⟨a,b,_⟩:=MG QJ (g:=gw W) (h:=[]) hq;exact⟨a,b⟩) (fun n v x hx hf ht=>by
   obtain⟨d,hd,he⟩:=hx;have h4:=dy.1 W_ d hd;rw[he]at h4
   obtain⟨t0,k0,hxe,hk0⟩:∃t0 k0,x.1=.agg [.held t0,.lit (.int .i64 k0)]/\(tI.any fun p=>p.1==t0)=true:=by
    unfold NC at h4
    split at h4
    ·rename_i t0 k0 hxe;exact⟨t0,k0,hxe,h4⟩
    ·cases h4
   refine ZQ hfs hfs2 (by kernel_rfl) u3 (by kernel_rfl) (by kernel_rfl) (by kernel_rfl) hxe ?_ (abe hk0) hf ht
   rintro rfl
   exact absurd hk0 (by decide))
 have hcase:∀n m:Int,(bX (.sc .int) (.int .i64 n) (.int .i64 m)=some true/\AV.int .i64 n=.int .i64 m)\/(bX (.sc .int) (.int .i64 n) (.int .i64 m)=some false/\AV.int .i64 n≠.int .i64 m):=by
  intro n m
  by_cases hnm:n=m
  ·exact .inl ⟨by simp[bX,ez,hnm],by rw[hnm]⟩
  ·exact .inr ⟨by simp[bX,ez,hnm],by simp[hnm]⟩
 refine⟨fun n=>if n=1 then some (.c8 ks us)else if n=0 then some (.c8 ks2 us2)else none,⟨⟨ks,us,rfl,fun n=>?_⟩,⟨ks2,us2,rfl,fun n=>?_⟩⟩,fun n a hn=>?_⟩
 ·rw[hz];rw[aak]at hm
  obtain⟨r,e1,e2,e3⟩:=C_ (.sc .int) (.int .i64 n) z (by
   intro y hy;have hy2:=(hm y).1 hy;simp only[wo,bq,nP,nG]at hy2
   rcases hy2 with rfl|rfl|rfl|rfl|rfl|rfl|rfl|rfl|rfl|rfl|rfl<;>exact hcase _ _)
  rw[e1];unfold FQ
  cases r with
  |some v=>
   have hv:=(hm _).1 (e3 v rfl);simp only[wo,bq,nP,nG,bN,AV.int.injEq,ui]at hv
   rcases hv with⟨rfl,rfl⟩|⟨rfl,rfl⟩|⟨rfl,rfl⟩|⟨rfl,rfl⟩|⟨rfl,rfl⟩|⟨rfl,rfl⟩|⟨rfl,rfl⟩|⟨rfl,rfl⟩|⟨rfl,rfl⟩|⟨rfl,rfl⟩|⟨rfl,rfl⟩<;>rfl
  |none=>
   have hno:∀y∈wo,¬(AV.int .i64 n=y.1):=fun y hy=>e2 rfl y ((hm y).2 hy)
   simp only[wo,bq,nP,nG,Ii,forall_eq,AV.int.injEq,ui]at hno;rw[if_neg (by omega),if_neg (by omega),if_neg (by omega),if_neg (by omega)]
 ·rw[hz2];rw[aaR]at hm2
  obtain⟨r,e1,e2,e3⟩:=C_ (.sc .int) (.int .i64 n) z2 (by
   intro y hy;have hy2:=(hm2 y).1 hy;simp only[A6,dn]at hy2;obtain⟨k,_,rfl⟩:=hy2
   exact hcase _ _)
  rw[e1];unfold A4
  cases r with
  |some v=>
   have hv:=(hm2 _).1 (e3 v rfl);simp only[A6,dn,eu,bN,AV.int.injEq,ui]at hv;obtain⟨k,hk,rfl,rfl⟩:=hv;rw[if_pos (by omega)];simp
  |none=>
   have hno:∀y∈A6,¬(AV.int .i64 n=y.1):=fun y hy=>e2 rfl y ((hm2 y).2 hy)
   rw[if_neg]
   rintro⟨h0,h9⟩
   obtain⟨k,rfl⟩:=l7 h0;exact hno (.int .i64 k,Hu (oI k) ((k%2:Nat):Int)) (dn.2 ⟨k,eu.2 (by omega),rfl⟩) rfl
 ·simp only at hn
  split at hn
  ·rename_i h0
   cases hn
   subst h0;exact⟨h1,h2⟩
  ·split at hn
   ·rename_i h0
    cases hn
    subst h0;exact⟨h12,h22⟩
   ·cases hn
noncomputable def E9(os:Os):World:=
 {World.doorLaid Tryz.prog 4000 os with heap:=((World.doorLaid Tryz.prog 4000 os).heap.toList.zipIdx.map fun x=>if x.2=abJ then(match x.1 with
  |.cells _ t q=>.cells (Go.Pinned.utf8FirstZ.map fun n:Nat=>Value.int .u8 (n:Int)).toArray t q
  |o=>o)else x.1).toArray}
theorem YX(os:Os)(args:Array Value):laidMetH Tryz.prog Rows.lowerOnceRow.laid ((E9 os).forCall (fun _ _=>0) ⟨#[],args,[]⟩).memory:=
 laidMetH_of_parts3 (fuel:=8) (laidMet_of_run' 8 (by kernel_rfl) (by kernel_rfl)) (by kernel_rfl) (by kernel_rfl)
abbrev shI:Sh:=.int .i64
abbrev wg:Sh:=.list 1 false .str
abbrev On:Sh:=.parts [.str,.str,.int .i64]
abbrev N_:Sh:=.parts [.str,.int .i64,wg,wg,.bool]
abbrev Og:Sh:=.parts [wg,wg,.list 3 true On,.list 5 true N_]
theorem acW{B:Nat}{cs:List AV}(h:dW B shI cs):∃n:Int,cs=[.int .i64 n]:=by
 simp only[dW]at h;obtain⟨n,rfl,h1,h2⟩:=h;exact⟨n,rfl⟩
theorem abp{B:Nat}{cs:List AV}(h:dW B .str cs):∃s:List UInt8,cs=[.str s]/\s.length<=B:=by
 simp only[dW]at h;exact h
theorem zQ{B:Nat}{cs:List AV}(h:dW B wg cs):∃l:List (List UInt8),cs=[.list false 1 (l.map .str)]/\l.length<=B/\∀s∈l,s.length<=B:=by
 simp only[dW]at h;obtain⟨xs,rfl,h0,h1⟩:=h
 obtain⟨l,hl,hn⟩:=z7 (f:=lT false) (e:=fun s:{s:List UInt8//s.length<=B}=>AV.str s.val) (fun x hx=>by
  obtain⟨⟨n,rfl,hb⟩,_⟩:=h1 x hx
  exact⟨⟨n,hb⟩,rfl⟩)
 refine⟨l.map (·.val),by rw[hl,la];rfl,by rw[iq];omega,fun s hs=>?_⟩;obtain⟨x,_,rfl⟩:=dn.1 hs;exact x.property
def G1(B:Nat)(q:Lt):Prop:=q.name.length<=B/\q.next.length<=B
def HL(B:Nat)(g:Gt):Prop:=g.name.length<=B/\g.ins.length<=B/\g.rows.length<=B/\(∀s∈g.ins,s.length<=B)/\∀s∈g.rows,s.length<=B
def wA(B:Nat)(c:Ct):Prop:=c.aM.length<=B/\c.bg.length<=B/\c.an.length<=B/\c.af.length<=B/\(∀g∈c.af,HL B g)/\(∀s∈c.aM,s.length<=B)/\(∀s∈c.bg,s.length<=B)/\∀q∈c.an,G1 B q
theorem wA.Bl{B:Nat}{c:Ct}(h:wA B c)(hB:B<2^40):jo c:=by
 obtain⟨h1,h2,h3,h4,h5,h6,h7,h8⟩:=h;refine⟨by omega,by omega,by omega,by omega,fun g hg=>?_,fun s hs=>?_,fun s hs=>?_,fun q hq=>?_⟩
 ·obtain⟨a,b,d,e,f⟩:=h5 g hg;exact⟨by omega,by omega,by omega,fun s hs=>by have:=e s hs;omega,fun s hs=>by have:=f s hs;omega⟩
 ·have:=h6 s hs;omega
 ·have:=h7 s hs;omega
 ·obtain⟨a,b⟩:=h8 q hq;exact⟨by omega,by omega⟩
theorem dec_lt{B:Nat}{cs:List AV}(h:dW B On cs):∃q:Lt,AV.agg cs=oP q/\G1 B q:=by
 simp only[dW,pT]at h;obtain⟨_,_,rfl,⟨a,rfl,ha⟩,_,_,rfl,⟨b,rfl,hb⟩,_,_,rfl,⟨m,rfl,_⟩,rfl⟩:=h;exact⟨⟨a,b,m⟩,rfl,ha,hb⟩
theorem abR{B:Nat}{cs:List AV}(h:dW B N_ cs):∃g:Gt,AV.agg cs=cZ g/\HL B g:=by
 rw[dW]at h;simp only[pT]at h;obtain⟨_,_,rfl,h1,_,_,rfl,h2,_,_,rfl,h3,_,_,rfl,h4,_,_,rfl,h5,rfl⟩:=h;obtain⟨n,rfl,hn⟩:=abp h1;obtain⟨op,rfl⟩:=acW h2;obtain⟨i,rfl,hi,hi2⟩:=zQ h3;obtain⟨r,rfl,hr,hr2⟩:=zQ h4;simp only[dW]at h5;obtain⟨b,rfl⟩:=h5;exact⟨⟨n,op,i,r,b,1,1,.self,.self⟩,rfl,hn,hi,hr,hi2,hr2⟩
theorem acb{B:Nat}{cs:List AV}(h:dW B Og cs):∃c:Ct,AV.agg cs=bR c/\wA B c:=by
 rw[dW]at h;simp only[pT]at h;obtain⟨_,_,rfl,h1,_,_,rfl,h2,_,_,rfl,h3,_,_,rfl,h4,rfl⟩:=h;obtain⟨i,rfl,hi,hi2⟩:=zQ h1;obtain⟨o,rfl,ho,ho2⟩:=zQ h2;rw[dW]at h3 h4;obtain⟨xs,rfl,hxs,h3⟩:=h3;obtain⟨ys,rfl,hys,h4⟩:=h4
 obtain⟨l,hl,hn⟩:=z7 (f:=lT true) (e:=fun q:{q:Lt//G1 B q}=>oP q.val) (fun x hx=>by
  obtain⟨t,ht,hb⟩:=dec_lt (h3 x hx).1
  exact⟨⟨t,hb⟩,ht⟩)
 obtain⟨g,hg,hm⟩:=z7 (f:=lT true) (e:=fun q:{q:Gt//HL B q}=>cZ q.val) (fun x hx=>by
  obtain⟨t,ht,hb⟩:=abR (h4 x hx).1
  exact⟨⟨t,hb⟩,ht⟩)
 refine⟨⟨i,o,l.map (·.val),g.map (·.val),1,1,3,5,.self,.self,.self,.self⟩,by rw[hl,hg];simp[bR,la,xe],hi,ho,by rw[iq];omega,by rw[iq];omega,fun x hx=>?_,hi2,ho2,fun x hx=>?_⟩
 ·obtain⟨y,_,rfl⟩:=dn.1 hx;exact y.property
 ·obtain⟨y,_,rfl⟩:=dn.1 hx;exact y.property
end Go.Proofs.YtihmomicdpkabaaGreatDoor
namespace Go.Proofs.YtihmomicdpkabaaGreatDoor
open Go.AM Go.Proofs
variable{Γ:Nat->Option AV}
def i_(c:Ct)(out:List Nat):List (Bs×Nat):=(bW c).filter fun x=>!out.contains x.2
theorem E8{c:Ct}{x:Bs×Nat}(hx:x∈bW c):∃h:x.2<c.af.length,x.1=c.af[x.2].name:=by
 obtain⟨j,hj,rfl⟩:=o7 hx;rw[s9]at hj;rw[vM c j hj];exact⟨hj,rfl⟩
theorem El{c:Ct}(hd:(c.af.map (·.name)).Nodup){i j:Nat}(hi:i<c.af.length)(hj:j<c.af.length)(h:c.af[i].name=c.af[j].name):i=j:=by
 have h1:(c.af.map (·.name))[i]'(by simpa using hi)=(c.af.map (·.name))[j]'(by simpa using hj):=by simpa using h
 exact(Cg hd).1 h1
theorem Yj{c:Ct}(hd:(c.af.map (·.name)).Nodup)(out:List Nat){a:Nat}(ha:a<c.af.length):nr c.af[a].name (i_ c out)=i_ c (out++[a]):=by
 unfold nr i_;rw[List.filter_filter];apply List.filter_congr;intro x hx;obtain⟨h1,h2⟩:=E8 hx;have e:(x.1=c.af[a].name)↔x.2=a:=⟨fun h=>El hd h1 ha (by rw[<-h2,h]),fun h=>by rw[h2];simp[h]⟩;rw[fN];simp only[aw,bd,jR,w6,iV,bF,dA,not_or,e];exact⟨fun h=>⟨h.2,h.1⟩,fun h=>⟨h.2,h.1⟩⟩
theorem Vc{c:Ct}(hd:(c.af.map (·.name)).Nodup)(out:List Nat):((i_ c out).map (·.1)).Nodup:=by
 have h1:((bW c).map (·.1)).Nodup:=by rw[Yo];exact hd
 exact h1.sublist ((List.filter_sublist).map _)
theorem KQ(c:Ct):i_ c []=bW c:=by simp[i_]
theorem KM{c:Ct}(hd:(c.af.map (·.name)).Nodup)(out:List Nat){i:Nat}(hi:i<c.af.length):getM c.af[i].name (i_ c out)=if i∈out then none else some i:=by
 have key:∀l:List (Bs×Nat),(∀x∈l,x∈bW c)->getM c.af[i].name (l.filter fun x=>!out.contains x.2)=if i∈out then none else if(c.af[i].name,i)∈l then some i else none:=by
  intro l
  induction l with
  |nil=>intro _;simp[getM]
  |cons x l ih=>
   intro hl;obtain⟨h1,h2⟩:=E8 (hl x (by simp))
   have ih:=ih fun y hy=>hl y (by simp[hy])
   by_cases hx:x.2=i
   ·have hx1:x=(c.af[i].name,i):=by
     obtain⟨a,b⟩:=x;simp only at hx h2;subst hx;rw[h2]
    by_cases ho:i∈out
    ·rw[xd,if_neg (by rw[hx1];simpa using ho),ih,if_pos ho,if_pos ho]
    ·rw[xd,if_pos (by rw[hx1];simpa using ho),if_neg ho,hx1];simp[getM]
   ·have hne:¬c.af[i].name=x.1:=fun h=>hx (El hd h1 hi (by rw[<-h2,h])).symm.symm
    have hm:((c.af[i].name,i)∈x::l)↔(c.af[i].name,i)∈l:=by
     rw[bq];exact⟨fun h=>h.resolve_left fun h=>hx (by rw[<-h]),.inr⟩
    rw[xd]
    split
    ·rw[getM,if_neg hne,ih];simp only[hm]
    ·rw[ih];simp only[hm]
 have hm:(c.af[i].name,i)∈bW c:=by
  have:=bC (l:=bW c) (n:=i) (by rw[s9];exact hi);rwa[vM c i hi]at this
 rw[i_,key _ fun x hx=>hx,if_pos hm]
abbrev lpS:Ob:=.loop .ready .none ma [U,.ptr 0 0,.sl 1 0 0,.sl 2 0 0,.ptr 3 0,.ptr 7 0,U,U,U,U,U,U,U,U,U,U,U,U,U,U,U,U,U,U,U,U,U,U,U,U,U,U,U,U,U,U,U,U,U,U,U,U,U,U,U,U,U,U,U,U,U,U,U,U] [19] (.ae Gu) F6
abbrev lpE:Ob:=.loop .exhausted .none ma [U,.ptr 0 0,.sl 1 0 0,.sl 2 0 0,.ptr 3 0,.ptr 7 0,U,U,U,U,U,U,U,U,U,U,U,U,U,U,U,U,U,U,U,U,U,U,U,U,U,U,U,U,U,U,U,U,U,U,U,U,U,U,U,U,U,U,U,U,U,U,U,U] [19] (.ae Gu) F6
abbrev hS(c:Ct)(out:List Nat):List Ob:=[.cells (AV.cells (bR c)),.row 1 aq [] none true false,.row 1 aD [] none true false,.cells [.sl 4 0 out.length],.row 1 aq (out.map iN) none true false,.cells (AV.cells (bR c)),.map ((i_ c out).map gH) true,.cells [.mp 6],.cells (AV.cells (bR c)),.br true,lpS]
set_option maxRecDepth 8000 in
theorem ab2(c:Ct)(hd:(c.af.map (·.name)).Nodup)(out:List Nat)(a:Nat)(T:List Ob)(up:List Fr)(ho:out.length<2^20)(ha:a<c.af.length)(hup:∀m,up.all (fZ 4 m)=true)(hT:∀m,cD 4 m T=true):
 AM.Reach Tryz.prog Γ ((iR.yl 10).cfg [.int .i64 a] up (hS c out++T)) (.back up (.bool true) (hS c (out++[a])++T)):=by
 have q2:=cF (c.hG.of ha);have hdl:=Kt (E:=.sc .str) (e:=AV.str) pH (fun n:Nat=>AV.int .i64 n) c.af[a].name (Vc hd out);rw[Yj hd out ha]at hdl
 have hle:(out.length+1)*8<=140737488355328:=by omega
 have hvp:=fun m=>ot 4 m (i_ c out)
 simp[iR.cfg];refine .ba 13 ?_;simp(disch:=omega) [hle];refine .trans (.lN [19,20,21,22,23] _) ?_;simp[lM];refine .EW (i:=4) rfl (by simp) (hup _) (by simp[hT,hvp]) ?_;refine .ba 60 ?_;simp[q2,ha,hdl,isKey,b_,cM]
theorem abv(c:Ct)(out:List Nat):cI (hS c out):=fun m hm=>by
 have h1:=m6 m (i_ c out);simp at hm
 simp[h1];omega
theorem aaN(c:Ct)(out:List Nat):fL (hS c out):=fun i m hi=>by
 have h1:=ot i m (i_ c out);simp at hi
 simp[h1];omega
def lq(out:List Nat):List Gt->Nat->List Bs
 |[],_=>[]
 |g::r,i=>if i∈out then lq out r (i+1)else g.name::lq out r (i+1)
set_option maxRecDepth 8000 in
theorem abq(c:Ct)(hc:bY c)(hd:(c.af.map (·.name)).Nodup)(out:List Nat):∀n i:Nat,i+n=c.af.length->∀l:List Bs,l.length<=i->
 az Tryz.prog Γ (ygO (.ptr 3 0) (.ptr 7 0) (.sl 11 0 l.length) (.list false c.kG (c.af.map cZ)) (.int .i64 c.af.length) (.int .i64 i)
  [.cells (AV.cells (bR c)),.row 1 aq [] none true false,.row 1 aD [] none true false,.cells [.sl 4 0 out.length],.row 1 aq (out.map iN) none true false,.cells (AV.cells (bR c)),.map ((i_ c out).map gH) true,.cells [.mp 6],.cells (AV.cells (bR c)),.br true,lpE,.row 1 aD (l.map .str) none true false] ⟨[.mark 9],.norm,0,[]⟩)
  (.ret (.aG [.own 1 aq (out.map iN),.own 1 aD ((l++lq out (c.af.drop i) i).map .str)])):=by
 have hN:=hc.2.2.2.1
 have hbp:=fun m=>m6 m (i_ c out)
 have hvp:=fun i m=>ot i m (i_ c out)
 intro n
 induction n with
 |zero=>
  intro i hi l hl
  have q1:¬i<c.af.length:=by omega
  rw[bu (by omega),lq,fM];refine .go 60 ?_;simp[q1];exact .back (by simp)
 |succ n ih=>
  intro i hi l hl
  have q1:i<c.af.length:=by omega
  have q2:=cF (c.hG.of q1);have hfi:=y5 (E:=.sc .str) (e:=AV.str) pH (fun n:Nat=>AV.int .i64 n) c.af[i].name (i_ c out);rw[KM hd out q1]at hfi;rw[bT q1,lq]
  by_cases h0:i∈out
  ·have hh:=ih (i+1) (by omega) l (by omega);rw[if_pos h0]at hfi⊢;refine .go 90 ?_;simp(disch:=omega) [q1,q2,hfi,isKey,b_,cM];refine .aN ?_;simp;refine .drop 12 rfl (by simp) (by simp) (by simp[hbp]) ?_;simp at hh⊢;exact hh
  ·have hh:=ih (i+1) (by omega) (l++[c.af[i].name]) (by simp;omega)
   have hle:((l.length:Int)+1)*16<=140737488355328:=by omega
   rw[if_neg h0]at hfi⊢;refine .go 90 ?_;simp(disch:=omega) [q1,q2,hfi,isKey,b_,cM,hle];refine .aN ?_;simp;refine .drop 12 rfl (by simp) (by simp) (by simp[hbp]) ?_;refine .reset (i:=11) rfl (by simp) (by simp) (by simp[hvp]) ?_;simp at hh⊢;exact hh
set_option maxRecDepth 8000 in
theorem aco(hΓ:jh Γ)(c:Ct)(hb:jo c)(hr:j5 c=true)(f:Nat)(hf:f<=2^14)(hE:FH c f)(hl:(ng c f).length<2^20):aS Tryz.prog Γ ma [bR c] (.aG [.own 1 aq ((ng c f).map iN),.own 1 aD ((lq (ng c f) c.af 0).map .str)]):=by
 have hc:=zw hb hr;have hd:=xW hr;have hR:=MO hΓ c hb;rw[hr]at hR
 have hpl:=fun h hw up=>LA (Γ:=Γ) c hc (xW hr) (h:=h) hw up
 have hfold:∀(l out:List Nat),l.foldl (fun x a=>x++[a]) out=out++l:=by
  intro l
  induction l with
  |nil=>intro out;simp
  |cons a l ih=>intro out;rw[wT,ih];simp
 have hcm:=fun up hup=>Yd (Γ:=Γ) c hc hd (hS c) (fun x a=>x++[a]) 11 10 4 8 (fun _=>rfl) (abv c) (aaN c) (by omega) (by omega) (fun _=>rfl) (fun x k=>x.length=k) (fun x k a h _=>by simp[h]) (fun x k a T up h hk ha hup hT=>ab2 c hd x a T up (by omega) ha hup hT) up hup [] rfl f hf hE
 rw[hfold,ld]at hcm;have h1:=abq (Γ:=Γ) c hc hd (ng c f) c.af.length 0 (by omega) [] (by simp);refine .run 60 IW (by simp) ?_;simp;refine .call 60 (by simp) hR ?_;simp;refine .a_ 60 (hpl _ ?_) ?_
 ·intro m hm;simp at hm
  simp;omega
 simp;refine .go 60 ?_;simp;refine .enter 60 TI ?_;simp;rw[<-KQ c];refine .reach (hcm _ ?_) (.go 60 ?_)
 ·simp
 simp;refine .inLoop ?_;simp at h1⊢;exact h1
theorem aa6(hΓ:jh Γ)(c:Ct)(hb:jo c)(hr:j5 c=false):aS Tryz.prog Γ ma [bR c] (.aG [.own 1 aq [],.own 1 aD []]):=by
 have hR:=MO hΓ c hb;rw[hr]at hR;refine .run 60 IW (by simp) ?_;simp;refine .call 60 (by simp) hR ?_;simp;exact .back (by simp)
end Go.Proofs.YtihmomicdpkabaaGreatDoor
namespace Go.Proofs.YtihmomicdpkabaaGreatDoor
open Go.AM Go.Proofs
def eG(c:Ct)(i j:Nat):Bool:=match c.af[i]?,c.af[j]? with
 |some g,some h=>g.ins.contains h.name
 |_,_=>false
theorem ri{c:Ct}{i j:Nat}(h:eG c i j=true):i<c.af.length/\j<c.af.length:=by
 unfold eG at h
 split at h
 ·rename_i g h' h1 h2;exact⟨(dB.1 h1).1,(dB.1 h2).1⟩
 ·cases h
theorem Fi{c:Ct}{i j:Nat}(hi:i<c.af.length)(hj:j<c.af.length):eG c i j=true↔c.af[j].name∈c.af[i].ins:=by
 simp[eG,hi,hj]
theorem LM{K V:Type}[DecidableEq K]{k:K}{v:V}:∀{l:List (K×V)},getM k l=some v->(k,v)∈l
 |[],h=>by cases h
 |(a,u)::l,h=>by
  rw[getM]at h
  split at h
  ·rename_i h1;cases h;subst h1;simp
  ·exact dY _ (LM h)
theorem Nb{c:Ct}(hd:(c.af.map (·.name)).Nodup){s:Bs}{k:Nat}:getM s (bW c)=some k↔∃h:k<c.af.length,c.af[k].name=s:=by
 constructor
 ·intro h;obtain⟨h1,h2⟩:=E8 (LM h);exact⟨h1,h2.symm⟩
 ·rintro⟨h,rfl⟩
  have:=KM hd [] h;rw[KQ]at this;simpa using this
theorem zu(pl:List (Bs×Nat))(x:Nat):∀(l:List Bs)(a:List Nat),x∈eA pl l a↔x∈a\/∃s∈l,getM s pl=some x
 |[],a=>by simp[eA]
 |s::r,a=>by
  rw[eA]
  split
  ·rename_i h0;rw[zu pl x r a];simp[h0]
  ·rename_i k h0;rw[zu pl x r]
   have hk:(x∈if k∈a then a else a++[k])↔x∈a\/x=k:=by
    split
    ·rename_i hm;exact⟨.inl,fun h=>h.elim id fun h=>h▸hm⟩
    ·simp
   rw[hk];simp only[bq,exists_eq_or_imp,h0,aj];constructor
   ·rintro((h|h)|h)
    ·exact .inl h
    ·exact .inr (.inl h.symm)
    ·exact .inr (.inr h)
   ·rintro(h|h|h)
    ·exact .inl (.inl h)
    ·exact .inl (.inr h.symm)
    ·exact .inr h
theorem zp(pl:List (Bs×Nat)):∀(l:List Gt)(i:Nat)(nd b:List (List Nat)),(eW pl l i nd b).1=nd++l.map fun g=>eA pl g.ins []
 |[],_,_,_=>by simp[eW]
 |g::r,i,nd,b=>by rw[eW,zp pl r];simp
theorem vh{c:Ct}(hd:(c.af.map (·.name)).Nodup){i:Nat}(hi:i<c.af.length)(x:Nat):x∈(dN c).getD i []↔eG c i x=true:=by
 have e:(dN c).getD i []=eA (bW c) c.af[i].ins []:=by
  rw[dN,zp];simp[hi]
 rw[e,zu];constructor
 ·rintro(h|⟨s,hs,h⟩)
  ·cases h
  ·obtain⟨h1,h2⟩:=(Nb hd).1 h;exact(Fi hi h1).2 (h2▸hs)
 ·intro h;obtain⟨_,h1⟩:=ri h;exact .inr ⟨_,(Fi hi h1).1 h,(Nb hd).2 ⟨h1,rfl⟩⟩
theorem Ah(pl:List (Bs×Nat))(i k:Nat):∀(l:List Bs)(a:List Nat)(b:List (List Nat)),k<b.length->(iS pl i l a b).getD k []=if k∈eA pl l a/\k∉a then b.getD k []++[i]else b.getD k []
 |[],a,b,hk=>by
  rw[iS,eA,if_neg (fun h=>h.2 h.1)]
 |s::r,a,b,hk=>by
  rw[iS,eA]
  split
  ·exact Ah pl i k r a b hk
  ·rename_i k0 h0
   by_cases hm:k0∈a
   ·simp only[if_pos hm];exact Ah pl i k r a b hk
   ·simp only[if_neg hm];rw[Ah pl i k r _ _ (by simpa using hk)]
    have hset:(b.set k0 (b.getD k0 []++[i])).getD k []=if k0=k then b.getD k []++[i]else b.getD k []:=by
     simp only[bG,nM]
     by_cases h1:k0=k
     ·subst h1;simp[hk]
     ·simp[h1]
    rw[hset]
    by_cases h1:k0=k
    ·subst h1;have hin:k0∈eA pl r (a++[k0]):=(zu pl k0 r _).2 (.inl (by simp));rw[if_neg (by simp),if_pos rfl,if_pos ⟨hin,hm⟩]
    ·have hiff:(k∈eA pl r (a++[k0])/\k∉a++[k0])↔(k∈eA pl r (a++[k0])/\k∉a):=by
      simp only[bF,dA,not_or];exact⟨fun h=>⟨h.1,h.2.1⟩,fun h=>⟨h.1,h.2,fun h2=>h1 h2.symm⟩⟩
     rw[if_neg h1];simp only[hiff]
def lX(pl:List (Bs×Nat))(k:Nat):List Gt->Nat->List Nat
 |[],_=>[]
 |g::r,i=>if k∈eA pl g.ins []then i::lX pl k r (i+1)else lX pl k r (i+1)
theorem J1(pl:List (Bs×Nat))(k:Nat):∀(l:List Gt)(i:Nat)(nd b:List (List Nat)),k<b.length->(eW pl l i nd b).2.getD k []=b.getD k []++lX pl k l i
 |[],_,_,_,_=>by simp[eW,lX]
 |g::r,i,nd,b,hk=>by
  rw[eW,J1 pl k r _ _ _ (by rw[vJ];exact hk),Ah pl i k g.ins [] b hk,lX]
  split
  ·rename_i h
   rw[if_pos h.1];simp
  ·rename_i h;rw[if_neg fun h1=>h ⟨h1,by simp⟩]
theorem ET(pl:List (Bs×Nat))(k j:Nat):∀(l:List Gt)(i:Nat),j∈lX pl k l i↔∃t,∃h:t<l.length,j=i+t/\k∈eA pl l[t].ins []
 |[],i=>by simp[lX]
 |g::r,i=>by
  have ih:=ET pl k j r (i+1)
  have hs:(∃t,∃h:t<(g::r).length,j=i+t/\k∈eA pl (g::r)[t].ins [])↔(j=i/\k∈eA pl g.ins [])\/∃t,∃h:t<r.length,j=i+1+t/\k∈eA pl r[t].ins []:=by
   constructor
   ·rintro⟨t,h,e,hm⟩
    cases t with
    |zero=>exact .inl ⟨e,hm⟩
    |succ t=>exact .inr ⟨t,by simpa using h,by omega,hm⟩
   ·rintro(⟨e,hm⟩|⟨t,h,e,hm⟩)
    ·exact⟨0,by simp,e,hm⟩
    ·exact⟨t+1,by simpa using h,by omega,hm⟩
  rw[hs,lX]
  split
  ·rename_i h0;simp only[bq,ih,h0,nI]
  ·rename_i h0;simp only[ih,h0,and_false,false_or]
theorem DH(pl:List (Bs×Nat))(k:Nat):∀(l:List Gt)(i:Nat),(lX pl k l i).Nodup
 |[],i=>by simp[lX]
 |g::r,i=>by
  rw[lX]
  split
  ·rw[l8];refine⟨fun h=>?_,DH pl k r (i+1)⟩;obtain⟨t,_,e,_⟩:=(ET pl k i r (i+1)).1 h;omega
  ·exact DH pl k r (i+1)
theorem M5(c:Ct){k:Nat}(hk:k<c.af.length):(bw c).getD k []=lX (bW c) k c.af 0:=by
 rw[bw,J1 _ _ _ _ _ _ (by simpa using hk)];simp[hk]
theorem s7{c:Ct}(hd:(c.af.map (·.name)).Nodup){k:Nat}(hk:k<c.af.length)(i:Nat):i∈(bw c).getD k []↔eG c i k=true:=by
 rw[M5 c hk,ET];constructor
 ·rintro⟨t,ht,e,hm⟩
  have:i=t:=by omega
  subst this;rw[<-vh hd ht,dN,zp];simpa[ht]using hm
 ·intro h;obtain⟨hi,_⟩:=ri h;refine⟨i,hi,by omega,?_⟩;rw[<-vh hd hi,dN,zp]at h;simpa[hi]using h
theorem JJ(c:Ct){k:Nat}(hk:k<c.af.length):((bw c).getD k []).Nodup:=by rw[M5 c hk];exact DH _ _ _ _
def iP(c:Ct)(done:List Nat)(k:Nat):Bool:=!done.contains k&&(List.range c.af.length).all fun x=>!eG c k x||done.contains x
theorem j4{c:Ct}{done:List Nat}{k:Nat}:iP c done k=true↔k∉done/\∀x,eG c k x=true->x∈done:=by
 simp only[iP,aw,jR,w6,iV,dy,eu,eH,bd];constructor
 ·rintro⟨h1,h2⟩
  refine⟨h1,fun x hx=>?_⟩
  rcases h2 x (ri hx).2 with h|h
  ·rw[h]at hx;cases hx
  ·exact h
 ·rintro⟨h1,h2⟩
  refine⟨h1,fun x _=>?_⟩
  cases hx:eG c k x with
  |false=>exact .inl rfl
  |true=>exact .inr (h2 x hx)
def kU(c:Ct)(done:List Nat):Option Nat:=(List.range c.af.length).find? (iP c done)
def iH(c:Ct):Nat->List Nat->List Nat
 |0,_=>[]
 |f+1,done=>match kU c done with
  |none=>[]
  |some k=>k::iH c f (done++[k])
def aT(c:Ct):List Nat:=iH c c.af.length []
theorem Wi{c:Ct}{done:List Nat}{a:Nat}(ha:a<c.af.length)(h1:iP c done a=true)(h2:∀j<a,iP c done j=false):kU c done=some a:=by
 rw[kU,List.find?_range_eq_some];exact⟨h1,by simpa using ha,fun j hj=>by simp[h2 j hj]⟩
theorem WE{c:Ct}{done:List Nat}(h:∀a<c.af.length,iP c done a=false):kU c done=none:=by
 rw[kU,List.find?_eq_none];intro x hx
 rw[h x (by simpa using hx)];simp
theorem K3{c:Ct}{done:List Nat}{a:Nat}(h:kU c done=some a):a<c.af.length/\iP c done a=true/\∀j<a,iP c done j=false:=by
 rw[kU,List.find?_range_eq_some]at h;exact⟨by simpa using h.2.1,h.1,fun j hj=>by simpa using h.2.2 j hj⟩
theorem YT{c:Ct}{done:List Nat}(h:kU c done=none){a:Nat}(ha:a<c.af.length):iP c done a=false:=by
 rw[kU,List.find?_eq_none]at h;simpa using h a (by simpa using ha)
structure Inv(c:Ct)(done:List Nat)(nd:List (List Nat))(l:List Nat):Prop where
 len:nd.length=c.af.length
 Qr:∀i<c.af.length,∀x,x∈nd.getD i []↔eG c i x=true/\x∉done
 ls:∀i,i∈l↔i<c.af.length/\iP c done i=true
 wx:l.Nodup
 heap:j8 l.length l
 OB:done.Nodup
 lt:∀x∈done,x<c.af.length
 all:∀i∈done,∀x,eG c i x=true->x∈done
structure rv(c:Ct)(done:List Nat)(a:Nat)(r:List Nat)(nd:List (List Nat))(l:List Nat):Prop where
 len:nd.length=c.af.length
 kh:∀i<c.af.length,i∈r->∀x,x∈nd.getD i []↔eG c i x=true/\x∉done
 new:∀i<c.af.length,i∉r->∀x,x∈nd.getD i []↔eG c i x=true/\x∉done++[a]
 ls:∀i,i∈l↔i<c.af.length/\i∉r/\iP c (done++[a]) i=true
 wx:l.Nodup
 heap:j8 l.length l
theorem ZV(a:Nat)(l:List Nat)(x:Nat):x∈di a l↔x∈l/\x≠a:=by simp[di]
theorem rv.run{c:Ct}{done:List Nat}{a:Nat}(ha:a∉done)(haa:∀x,eG c a x=true->x∈done)(hall:∀i∈done,∀x,eG c i x=true->x∈done):∀(r:List Nat)(nd:List (List Nat))(l s:List Nat),r.Nodup->(∀i∈r,eG c i a=true)->rv c done a r nd l->
 rv c done a [] (ec a r nd l s).1 (ec a r nd l s).2.1
 |[],nd,l,s,_,_,h=>h
 |i::r,nd,l,s,hr,hW,h=>by
  have hi:=(ri (hW i (by simp))).1;rw[l8]at hr
  have hil:i∉l:=fun hm=>((h.ls i).1 hm).2.1 (by simp)
  have hid:i∉done:=fun hm=>ha (hall i hm a (hW i (by simp)))
  have hia:i≠a:=fun he=>ha (haa a (he▸hW i (by simp)))
  have hg:∀j,(nd.set i (di a (nd.getD i []))).getD j []=if i=j then di a (nd.getD i [])else nd.getD j []:=fun j=>by
   simp only[bG,nM]
   by_cases h1:i=j
   ·subst h1;simp[h.len,hi]
   ·simp[h1]
  have hmem:∀x,x∈di a (nd.getD i [])↔eG c i x=true/\x∉done++[a]:=fun x=>by
   rw[ZV,h.kh i hi (by simp) x];simp only[bF,dA,not_or];exact⟨fun h=>⟨h.1.1,h.1.2,h.2⟩,fun h=>⟨⟨h.1,h.2.1⟩,h.2.2⟩⟩
  have hold:∀j<c.af.length,j∈r->∀x,x∈(nd.set i (di a (nd.getD i []))).getD j []↔eG c j x=true/\x∉done:=fun j hj hjr x=>by
   have hne:¬i=j:=fun he=>hr.1 (he▸hjr)
   rw[hg,if_neg hne];exact h.kh j hj (by simp[hjr]) x
  have hnew:∀j<c.af.length,j∉r->∀x,x∈(nd.set i (di a (nd.getD i []))).getD j []↔eG c j x=true/\x∉done++[a]:=fun j hj hjr x=>by
   rw[hg]
   by_cases he:i=j
   ·subst he;rw[if_pos rfl];exact hmem x
   ·rw[if_neg he];exact h.new j hj (by simp only[bq,not_or];exact⟨fun h=>he h.symm,hjr⟩) x
  rw[ec]
  split
  ·rename_i h0;refine rv.run ha haa hall r _ _ _ hr.2 (fun j hj=>hW j (by simp[hj])) ⟨by simpa using h.len,hold,hnew,fun j=>?_,?_,Ju h.heap i⟩
   ·rw[(vf l i).mem_iff,bq];constructor
    ·rintro(rfl|hj)
     ·refine⟨hi,hr.1,j4.2 ⟨by simp[hid,hia],fun x hx=>?_⟩⟩
      refine Classical.byContradiction fun hn=>?_
      have:=(hmem x).2 ⟨hx,hn⟩
      rw[h0]at this;cases this
     ·have:=(h.ls j).1 hj;exact⟨this.1,fun h2=>this.2.1 (by simp[h2]),this.2.2⟩
    ·rintro⟨h1,h2,h3⟩
     by_cases he:j=i
     ·exact .inl he
     ·exact .inr ((h.ls j).2 ⟨h1,by simp only[bq,not_or];exact⟨he,h2⟩,h3⟩)
   ·rw[(vf l i).nodup_iff,l8];exact⟨hil,h.wx⟩
  ·rename_i h0;refine rv.run ha haa hall r _ _ _ hr.2 (fun j hj=>hW j (by simp[hj])) ⟨by simpa using h.len,hold,hnew,fun j=>?_,h.wx,h.heap⟩;rw[h.ls j];refine⟨fun⟨h1,h2,h3⟩=>⟨h1,fun h4=>h2 (by simp[h4]),h3⟩,fun⟨h1,h2,h3⟩=>⟨h1,?_,h3⟩⟩;simp only[bq,not_or];refine⟨fun he=>?_,h2⟩;subst he;apply h0;rw[Ci];intro x hx;obtain⟨h5,h6⟩:=(hmem x).1 hx;exact h6 ((j4.1 h3).2 x h5)
theorem Inv.step{c:Ct}(hd:(c.af.map (·.name)).Nodup){done:List Nat}{nd:List (List Nat)}{l:List Nat}(h:Inv c done nd l)(h0:l≠[])(s:List Nat):
 kU c done=some (bm l)/\Inv c (done++[bm l]) (ec (bm l) ((bw c).getD (bm l) []) nd (du l) s).1 (ec (bm l) ((bw c).getD (bm l) []) nd (du l) s).2.1:=by
 have hpos:0<l.length:=qk.2 h0;have hhr:=J' hpos;have hal:bm l∈l:=hhr.mem_iff.1 (by simp);obtain⟨ha,hmay⟩:=(h.ls _).1 hal;obtain⟨had,haa⟩:=j4.1 hmay;have hnod:=hhr.nodup_iff.2 h.wx;rw[l8]at hnod
 have hn:kU c done=some (bm l):=Wi ha hmay fun j hj=>by
  rw[Cd];intro hm;have:=YR h.heap hpos ((h.ls j).2 ⟨by omega,hm⟩);omega
 refine⟨hn,?_⟩
 have hR:rv c done (bm l) ((bw c).getD (bm l) []) nd (du l):=by
  refine⟨h.len,fun i hi _ x=>h.Qr i hi x,fun i hi hir x=>?_,fun i=>?_,hnod.2,WD h.heap hpos⟩
  ·rw[h.Qr i hi x];refine⟨fun⟨h1,h2⟩=>⟨h1,?_⟩,fun⟨h1,h2⟩=>⟨h1,fun h3=>h2 (by simp[h3])⟩⟩;simp only[bF,dA,not_or];exact⟨h2,fun he=>hir ((s7 hd ha i).2 (he▸h1))⟩
  ·have hil:i∈l↔i=bm l\/i∈du l:=by rw[<-hhr.mem_iff,bq]
   constructor
   ·intro hi;obtain⟨h1,h2⟩:=(h.ls i).1 (hil.2 (.inr hi));obtain⟨h3,h4⟩:=j4.1 h2;refine⟨h1,fun hb=>?_,j4.2 ⟨?_,fun x hx=>by simp[h4 x hx]⟩⟩
    ·exact had (h4 _ ((s7 hd ha i).1 hb))
    ·simp only[bF,dA,not_or];exact⟨h3,fun he=>hnod.1 (he▸hi)⟩
   ·rintro⟨h1,h2,h3⟩
    obtain⟨h4,h5⟩:=j4.1 h3;simp only[bF,dA,not_or]at h4
    have hi:i∈l:=(h.ls i).2 ⟨h1,j4.2 ⟨h4.1,fun x hx=>by
     have:=h5 x hx;simp only[bF,dA]at this
     rcases this with h6|h6
     ·exact h6
     ·exact absurd ((s7 hd ha i).2 (h6▸hx)) h2⟩⟩
    exact(hil.1 hi).resolve_left h4.2
 have hE:=rv.run had haa h.all _ _ _ s (JJ c ha) (fun i hi=>(s7 hd ha i).1 hi) hR;refine⟨hE.len,fun i hi x=>hE.new i hi (by simp) x,fun i=>by rw[hE.ls i];simp,hE.wx,hE.heap,?_,fun x hx=>?_,fun i hi x hx=>?_⟩
 ·rw[Ce];refine⟨h.OB,by simp,fun x hx y hy=>?_⟩;rw[dA]at hy;subst hy
  exact fun he=>had (he▸hx)
 ·rcases bF.1 hx with h1|h1
  ·exact h.lt x h1
  ·rw[dA]at h1;subst h1;exact ha
 ·rcases bF.1 hi with h1|h1
  ·simp[h.all i h1 x hx]
  ·rw[dA]at h1;subst h1;simp[haa x hx]
theorem D7:∀(N:Nat)(l:List Nat),l.Nodup->(∀x∈l,x<N)->l.length<=N
 |0,[],_,_=>aW _
 |0,x::l,_,h=>absurd (h x (by simp)) (by omega)
 |N+1,l,hn,h=>by
  have h1:=D7 N (l.erase N) (hn.erase N) fun x hx=>by
   obtain⟨h2,h3⟩:=hn.mem_erase_iff.1 hx
   have:=h x h3;omega
  by_cases hm:N∈l
  ·rw[List.length_erase_of_mem hm]at h1;omega
  ·rw[List.erase_of_not_mem hm]at h1;omega
theorem Inv.come{c:Ct}(hd:(c.af.map (·.name)).Nodup):∀(f:Nat)(done:List Nat)(nd:List (List Nat))(l s:List Nat),Inv c done nd l->oD (bw c) f nd l s=iH c f done
 |0,_,_,_,_,_=>rfl
 |f+1,done,nd,l,s,h=>by
  rw[oD,iH]
  by_cases h0:l=[]
  ·have hn:kU c done=none:=WE fun a ha=>by
    rw[Cd];intro hm;have:=(h.ls a).2 ⟨ha,hm⟩
    rw[h0]at this;cases this
   rw[if_pos h0,hn]
  ·obtain⟨h1,h2⟩:=h.step hd h0 (bm l::s);rw[if_neg h0,h1];simp only;rw[Inv.come hd f _ _ _ _ h2]
theorem Inv.ends{c:Ct}(hd:(c.af.map (·.name)).Nodup):∀(f:Nat)(done:List Nat)(nd:List (List Nat))(l s:List Nat),Inv c done nd l->c.af.length<=done.length+f->rm (bw c) f nd l s
 |0,done,nd,l,s,h,hf=>by
  show l=[]
  rw[Ci];intro x hx;obtain⟨h1,h2⟩:=(h.ls x).1 hx;have h3:=(j4.1 h2).1
  have:=D7 c.af.length (x::done) (l8.2 ⟨h3,h.OB⟩) (fun y hy=>by
   rcases bq.1 hy with rfl|hy
   ·exact h1
   ·exact h.lt y hy)
  simp only[b9]at this;omega
 |f+1,done,nd,l,s,h,hf=>by
  rw[rm]
  by_cases h0:l=[]
  ·exact .inl h0
  ·obtain⟨h1,h2⟩:=h.step hd h0 (bm l::s);exact .inr (Inv.ends hd f _ _ _ _ h2 (by simp;omega))
theorem D1(nd:List (List Nat))(N:Nat):∀(m i:Nat)(l:List Nat),i+m=N->l.Nodup->(∀x∈l,x<i)->j8 l.length l->
 (∀x,x∈ia nd m i l↔x∈l\/(i<=x/\x<N/\nd.getD x []=[]))/\(ia nd m i l).Nodup/\j8 (ia nd m i l).length (ia nd m i l)
 |0,i,l,h,h1,h2,h3=>⟨fun x=>by simp[ia];omega,h1,h3⟩
 |m+1,i,l,h,h1,h2,h3=>by
  rw[ia]
  have hil:i∉l:=fun hm=>by have:=h2 i hm;omega
  split
  ·rename_i h0;have hp:=vf l i
   obtain⟨a1,a2,a3⟩:=D1 nd N m (i+1) (eV l i) (by omega) (by rw[hp.nodup_iff,l8];exact⟨hil,h1⟩) (fun x hx=>by
    rcases bq.1 (hp.mem_iff.1 hx)with rfl|hx
    ·omega
    ·have:=h2 x hx;omega) (Ju h3 i)
   refine⟨fun x=>?_,a2,a3⟩;rw[a1 x,hp.mem_iff,bq];constructor
   ·rintro((rfl|hx)|⟨b1,b2,b3⟩)
    ·exact .inr ⟨aW _,by omega,h0⟩
    ·exact .inl hx
    ·exact .inr ⟨by omega,b2,b3⟩
   ·rintro(hx|⟨b1,b2,b3⟩)
    ·exact .inl (.inr hx)
    ·by_cases he:x=i
     ·exact .inl (.inl he)
     ·exact .inr ⟨by omega,b2,b3⟩
  ·rename_i h0;obtain⟨a1,a2,a3⟩:=D1 nd N m (i+1) l (by omega) h1 (fun x hx=>by have:=h2 x hx;omega) h3;refine⟨fun x=>?_,a2,a3⟩;rw[a1 x];constructor
   ·rintro(hx|⟨b1,b2,b3⟩)
    ·exact .inl hx
    ·exact .inr ⟨by omega,b2,b3⟩
   ·rintro(hx|⟨b1,b2,b3⟩)
    ·exact .inl hx
    ·refine .inr ⟨?_,b2,b3⟩
     have:x≠i:=fun he=>h0 (he▸b3)
     omega
theorem N9{c:Ct}(hd:(c.af.map (·.name)).Nodup):Inv c [] (dN c) (ia (dN c) c.af.length 0 []):=by
 obtain⟨h1,h2,h3⟩:=D1 (dN c) c.af.length c.af.length 0 [] (by omega) (by simp) (by simp) (fun k hk hkl=>by simp at hkl);refine⟨sJ c,fun i hi x=>by rw[vh hd hi];simp,fun i=>?_,h2,h3,by simp,by simp,by simp⟩;rw[h1 i];constructor
 ·rintro(h|⟨_,a,b⟩)
  ·cases h
  ·refine⟨a,j4.2 ⟨by simp,fun x hx=>?_⟩⟩;have:=(vh hd a x).2 hx
   rw[b]at this;exact this
 ·rintro⟨a,b⟩
  refine .inr ⟨by omega,a,?_⟩;rw[Ci];intro x hx;have:=(j4.1 b).2 x ((vh hd a x).1 hx)
  cases this
theorem Mv{c:Ct}(hd:(c.af.map (·.name)).Nodup):ng c c.af.length=aT c:=Inv.come hd _ _ _ _ _ (N9 hd)
theorem X3{c:Ct}(hd:(c.af.map (·.name)).Nodup):FH c c.af.length:=Inv.ends hd _ _ _ _ _ (N9 hd) (by simp)
theorem JY(c:Ct):∀(f:Nat)(done:List Nat),(iH c f done).length<=f
 |0,_=>by simp[iH]
 |f+1,done=>by
  rw[iH]
  split
  ·simp
  ·rename_i k _;have:=JY c f (done++[k])
   simp only[b9];omega
theorem K6(c:Ct):∀(f:Nat)(done:List Nat),∀x∈iH c f done,x<c.af.length
 |0,_=>by simp[iH]
 |f+1,done=>by
  rw[iH]
  split
  ·simp
  ·rename_i k hk;intro x hx
   rcases bq.1 hx with rfl|hx
   ·exact(K3 hk).1
   ·exact K6 c f _ x hx
end Go.Proofs.YtihmomicdpkabaaGreatDoor
namespace Go.Proofs.YtihmomicdpkabaaGreatDoor
open Go.AM Go.Proofs
variable{Γ:Nat->Option AV}
def AA(c:Ct):List Nat:=if j5 c=true then aT c else[]
def mr(c:Ct):List Bs:=if j5 c=true then lq (aT c) c.af 0 else[]
theorem Jp{c:Ct}(hc:bY c):(aT c).length<2^20:=by
 have h1:=JY c c.af.length [];have:=hc.2.2.2.1
 unfold aT;omega
theorem MH(hΓ:jh Γ)(c:Ct)(hb:jo c):aS Tryz.prog Γ ma [bR c] (.aG [.own 1 aq ((AA c).map iN),.own 1 aD ((mr c).map .str)]):=by
 unfold AA mr
 cases hr:j5 c with
 |false=>simpa using aa6 hΓ c hb hr
 |true=>
  have hc:=zw hb hr;have hd:=xW hr;have hN:=hc.2.2.2.1;have h:=aco hΓ c hb hr c.af.length (by omega) (X3 hd) (by rw[Mv hd];exact Jp hc);rw[Mv hd]at h;simpa using h
def kP(c:Ct):Int×Bs:=if(h_ c).1=0 then(match mr c with
 |[]=>(0,[])
 |s::_=>(7,s))else h_ c
set_option maxRecDepth 8000 in
theorem Yn(hΓ:jh Γ)(c:Ct)(hb:jo c):aS Tryz.prog Γ uR [bR c] (rC (kP c)):=by
 have hC:=Lk hΓ c hb;have hS:=MH hΓ c hb;unfold kP;generalize h_ c=r at*;obtain⟨e,s⟩:=r;refine .run 60 T_ (by simp) ?_;simp;refine .call 60 (by simp) hC ?_
 by_cases h0:e=0
 ·simp[h0];refine .call 60 (by simp) hS ?_
  cases mr c with
  |nil=>
   simp;exact .back (by simp)
  |cons a l=>
   have hl:(0:Int)<(l.length:Int)+1:=by omega
   simp[hl];exact .back (by simp)
 ·simp[h0];exact .back (by simp)
def NZ(c:Ct):List (Bs×(Bool×Nat×List Bs)):=c.an.map (fun q=>(q.name,(true,1,[q.next])))++c.af.map fun g=>(g.name,(false,g.ki,g.ins))
abbrev eNx(x:Bool×Nat×List Bs):AV:=.list x.1 x.2.1 (x.2.2.map .str)
abbrev Ge(x:Bs×(Bool×Nat×List Bs)):AV×AV:=(.str x.1,eNx x.2)
@[simp] theorem aam(n:Nat):∀l:List (Bs×(Bool×Nat×List Bs)),fE n (l.map Ge)=true
 |[]=>rfl
 |x::r=>by simp[aam n r]
@[simp] theorem aay(n m:Nat):∀l:List (Bs×(Bool×Nat×List Bs)),mE n m (l.map Ge)=true
 |[]=>rfl
 |x::r=>by simp[aay n m r]
def ac9(c:Ct)(s:Bs):List Bs:=match getM s (NZ c)with
 |some v=>v.2.2
 |none=>[]
abbrev p9(c:Ct)(inn hist:List Bs)(g:Option Nat):List Ob:=[.cells (AV.cells (bR c)),.row 1 aD [] none true false,.map ((NZ c).map Ge) true,.map (inn.map je) true,.row 1 aD (hist.map .str) g true false]
inductive tA(c:Ct)(rE:List Bs):Bs->Prop
 |base {s:Bs}:s∈rE->tA c rE s
 |step {s t:Bs}:tA c rE s->t∈ac9 c s->tA c rE t
abbrev p7(c:Ct):List Ob:=[.cells (AV.cells (bR c)),.row 1 aq [] none true false]
def rz(a:Nat):List Nat->List Nat->List Nat
 |[],lv=>lv
 |i::r,lv=>rz a r (lv.set i (max (lv.getD i 0) (lv.getD a 0+1)))
theorem Le(a:Nat):∀(r lv:List Nat),(rz a r lv).length=lv.length
 |[],_=>rfl
 |i::r,lv=>by rw[rz,Le a r];simp
def FT(k:Nat)(l:List Nat):List Nat:=if k∈l then l else l++[k]
def rB(c:Ct)(s:List Nat×List Nat)(a:Nat):List Nat×List Nat:=(rz a ((bw c).getD a []) s.1,FT a s.2)
def rp(s:Bs):Bool:=decide (60<s.length)
def hY(m:Nat)(l:List Bs):Bool:=decide (l.length<=m)&&!bo rp l
theorem xY(l:List Bs)(m:Nat)(hm:m<1000){k:Nat}(hk:Kd 1 k l):aS Tryz.prog Γ pg [.list false k (l.map .str),.int .i64 m] (.bool (hY m l)):=by
 have key:∀n i:Nat,i+n=l.length->i<=m+1->az Tryz.prog Γ (ysU (.list false k (l.map .str)) (.int .i64 m) (.int .i64 i) []) (.ret (.bool (decide (l.length<=m)&&!bo rp (l.drop i)))):=by
  intro n
  induction n with
  |zero=>
   intro i hi hL
   have q1:¬i<l.length:=by omega
   have e1:((l.length:Int)<=m)=(l.length<=m):=propext (by omega);rw[bu (by omega),qP];refine .go 60 ?_;simp[q1,e1];exact .back (by simp)
  |succ n ih=>
   intro i hi hL
   have q1:i<l.length:=by omega
   have q2:=cF (hk.of q1)
   by_cases h2:i<=m
   ·have h2':((i:Int)<=m)=True:=cF (by omega);have hh:=ih (i+1) (by omega) (by omega);have e3:((60:Int)<(l[i].length:Int))=(60<l[i].length):=propext (by omega);rw[bT q1,iy];refine .go 60 ?_
    by_cases h3:60<l[i].length
    ·have hl:rp l[i]=true:=by simp[rp,h3]
     simp[q1,q2,h2',e3,h3,hl];exact .back (by simp[h3])
    ·have hl:rp l[i]=false:=by simp only[rp,iV];exact h3
     simp(disch:=omega) [q1,q2,h2',e3,h3,hl];refine .aN ?_;simp at hh⊢;exact hh
   ·have h2':((i:Int)<=m)=False:=lf (by omega);have e1:((l.length:Int)<=m)=False:=lf (by omega)
    have h3:¬l.length<=m:=by omega
    refine .go 60 ?_;simp[q1,h2',e1,h3];exact .back (by simp)
 refine .run 60 UX (by simp) ?_;simp;refine .inLoop ?_;have hh:=key l.length 0 (by omega) (by omega);simp[hY]at hh⊢;exact hh
theorem zP{m:Nat}{l:List Bs}(h:hY m l=true):l.length<=m/\∀s∈l,s.length<=60:=by
 simp only[hY,aw,bd,jR]at h;refine⟨h.1,fun s hs=>?_⟩;have h2:=h.2;clear h
 induction l with
 |nil=>cases hs
 |cons a l ih=>
  rw[iy,ju]at h2
  rcases bq.1 hs with rfl|hs
  ·have:=h2.1;simp only[rp,iV]at this;omega
  ·exact ih hs h2.2
def rF(g:Gt):Bool:=hY 12 g.ins&&(hY 140 g.rows&&decide (g.name.length<=60))
theorem WN(g:Gt):aS Tryz.prog Γ xH [cZ g] (.bool (rF g)):=by
 have h1:=xY (Γ:=Γ) g.ins 12 (by omega) g.hi;have h2:=xY (Γ:=Γ) g.rows 140 (by omega) g.hr;have e:((g.name.length:Int)<=60)=(g.name.length<=60):=propext (by omega);refine .run 60 T5 (by simp) ?_;simp;refine .call 60 (by simp) h1 ?_;simp;refine .call 60 (by simp) h2 ?_;unfold rF
 cases hY 12 g.ins with
 |false=>simp;exact .back (by simp)
 |true=>
  cases hY 140 g.rows with
  |false=>simp;exact .back (by simp)
  |true=>simp[e];exact .back (by simp)
theorem Zo{g:Gt}(h:rF g=true):wc g:=by
 simp only[rF,aw,bd]at h;obtain⟨a1,a2⟩:=zP h.1;obtain⟨b1,b2⟩:=zP h.2.1;exact⟨by omega,by omega,by omega,fun s hs=>by have:=a2 s hs;omega,fun s hs=>by have:=b2 s hs;omega⟩
def nf(q:Lt):Bool:=decide (60<q.name.length)||decide (60<q.next.length)
def tK(c:Ct):Bool:=!bo (fun g=>!rF g) (c.af.take 211)&&(!bo nf (c.an.take 211)&&(hY 210 c.aM&&(hY 210 c.bg&&(decide (c.af.length<=210)&&decide (c.an.length<=210)))))
theorem acL(c:Ct):aS Tryz.prog Γ qM [bR c] (.bool (tK c)):=by
 have h1:=xY (Γ:=Γ) c.aM 210 (by omega) c.hI;have h2:=xY (Γ:=Γ) c.bg 210 (by omega) c.hO;have e1:((c.af.length:Int)<=210)=(c.af.length<=210):=propext (by omega);have e2:((c.an.length:Int)<=210)=(c.an.length<=210):=propext (by omega)
 have fin:∀H,H=[Ob.cells (AV.cells (bR c))]->az Tryz.prog Γ (yne (.ptr 0 0) H) (.ret (.bool (hY 210 c.aM&&(hY 210 c.bg&&(decide (c.af.length<=210)&&decide (c.an.length<=210)))))):=by
  rintro H rfl
  refine .go 60 ?_;simp;refine .call 60 (by simp) h1 ?_;simp;refine .call 60 (by simp) h2 ?_
  cases hY 210 c.aM with
  |false=>simp;exact .back (by simp)
  |true=>
   cases hY 210 c.bg with
   |false=>simp;exact .back (by simp)
   |true=>
    by_cases q:c.af.length<=210
    ·simp[e1,e2,q];exact .back (by simp[q])
    ·simp[e1,e2,q];exact .back (by simp[q])
 have keyL:∀n i:Nat,i+n=211->az Tryz.prog Γ (ynd (.ptr 0 0) (.int .i64 i) [.cells (AV.cells (bR c))]) (.ret (.bool (!bo nf ((c.an.take 211).drop i)&&(hY 210 c.aM&&(hY 210 c.bg&&(decide (c.af.length<=210)&&decide (c.an.length<=210))))))):=by
  intro n
  induction n with
  |zero=>
   intro i hi;have q1:((i:Int)<=210)=False:=lf (by omega);have hf:=fin _ rfl;rw[bu (by simp;omega),qP]
   by_cases q0:i<c.an.length
   ·refine .dK 60 ?_;simp[q1,q0];refine .reach (.exit rfl rfl) ?_;simp at hf⊢;exact hf
   ·refine .dK 60 ?_;simp[q0];refine .reach (.exit rfl rfl) ?_;simp at hf⊢;exact hf
  |succ n ih=>
   intro i hi;have q1:((i:Int)<=210)=True:=cF (by omega)
   by_cases q0:i<c.an.length
   ·have q2:=cF (c.hL.of q0);have hh:=ih (i+1) (by omega)
    have hT:i<(c.an.take 211).length:=by simp;omega
    have e3:((60:Int)<(c.an[i].name.length:Int))=(60<c.an[i].name.length):=propext (by omega);have e4:((60:Int)<(c.an[i].next.length:Int))=(60<c.an[i].next.length):=propext (by omega);rw[bT hT,iy,rS];refine .go 90 ?_
    by_cases h3:60<c.an[i].name.length
    ·have hl:nf c.an[i]=true:=by simp[nf,h3]
     simp[q0,q1,q2,e3,h3,hl];exact .back (by simp)
    ·by_cases h4:60<c.an[i].next.length
     ·have hl:nf c.an[i]=true:=by simp[nf,h4]
      simp[q0,q1,q2,e3,h3,e4,h4,hl];exact .back (by simp)
     ·have hl:nf c.an[i]=false:=by simp only[nf,h3,h4,l6,Bool.or_self]
      simp(disch:=omega) [q0,q1,q2,e3,h3,e4,h4,hl];refine .aN ?_;simp at hh⊢;exact hh
   ·have hf:=fin _ rfl;rw[bu (by simp;omega),qP];refine .dK 60 ?_;simp[q0];refine .reach (.exit rfl rfl) ?_;simp at hf⊢;exact hf
 have keyG:∀n i:Nat,i+n=211->az Tryz.prog Γ (yng (.ptr 0 0) (.int .i64 i) [.cells (AV.cells (bR c))]) (.ret (.bool (!bo (fun g=>!rF g) ((c.af.take 211).drop i)&&(!bo nf (c.an.take 211)&&(hY 210 c.aM&&(hY 210 c.bg&&(decide (c.af.length<=210)&&decide (c.an.length<=210)))))))):=by
  intro n;have hf:=keyL 211 0 (by omega)
  induction n with
  |zero=>
   intro i hi;have q1:((i:Int)<=210)=False:=lf (by omega);rw[bu (by simp;omega),qP];refine .go 60 ?_
   by_cases q0:i<c.af.length
   ·simp[q1,q0];refine .inLoop ?_;simp at hf⊢;exact hf
   ·simp[q0];refine .inLoop ?_;simp at hf⊢;exact hf
  |succ n ih=>
   intro i hi;have q1:((i:Int)<=210)=True:=cF (by omega)
   by_cases q0:i<c.af.length
   ·have q2:=cF (c.hG.of q0);have hh:=ih (i+1) (by omega)
    have hT:i<(c.af.take 211).length:=by simp;omega
    have hc:=WN (Γ:=Γ) c.af[i];rw[bT hT,iy,rS];refine .go 90 ?_;simp[q0,q1,q2];refine .call 90 (by simp) hc ?_
    cases h3:rF c.af[i]with
    |true=>
     simp(disch:=omega);refine .aN ?_;simp at hh⊢;exact hh
    |false=>
     simp;exact .back (by simp)
   ·rw[bu (by simp;omega),qP];refine .go 60 ?_;simp[q0];refine .inLoop ?_;simp at hf⊢;exact hf
 refine .run 60 XZ (by simp) ?_;simp;refine .inLoop ?_;have hh:=keyG 211 0 (by omega);simp[tK]at hh⊢;exact hh
theorem D9{α:Type}{p:α->Bool}:∀{l:List α},bo p l=false->∀x∈l,p x=false
 |[],_,x,hx=>by cases hx
 |a::l,h,x,hx=>by
  rw[iy,ju]at h
  rcases bq.1 hx with rfl|hx
  ·exact h.1
  ·exact D9 h.2 x hx
theorem EJ{c:Ct}(h:tK c=true):bY c:=by
 simp only[tK,aw,bd,jR]at h;obtain⟨h1,h2,h3,h4,h5,h6⟩:=h;rw[cL (by omega)]at h1 h2;obtain⟨a1,a2⟩:=zP h3;obtain⟨b1,b2⟩:=zP h4;refine⟨by omega,by omega,by omega,by omega,fun g hg=>?_,fun s hs=>by have:=a2 s hs;omega,fun s hs=>by have:=b2 s hs;omega,fun q hq=>?_⟩
 ·have:=D9 h1 g hg;exact Zo (by simpa using this)
 ·have:=D9 h2 q hq;simp only[nf,ju,iV]at this;omega
end Go.Proofs.YtihmomicdpkabaaGreatDoor
namespace Go.Proofs.YtihmomicdpkabaaGreatDoor
open Go.AM Go.Proofs
theorem DK(c:Ct):∀(f:Nat)(done:List Nat),done.Nodup->(∀x∈done,x<c.af.length)->
 (done++iH c f done).Nodup/\(∀p a q,iH c f done=p++a::q->iP c (done++p) a=true/\∀j<a,iP c (done++p) j=false)/\(c.af.length<=done.length+f->∀a<c.af.length,iP c (done++iH c f done) a=false)
 |0,done,hd,hl=>by
  refine⟨by simpa[iH]using hd,fun p a q h=>by simp[iH]at h,fun hf a ha=>?_⟩;rw[Cd];intro hm;have h3:=(j4.1 hm).1;simp only[iH,fM]at h3
  have:=D7 c.af.length (a::done) (l8.2 ⟨h3,hd⟩) (fun y hy=>by
   rcases bq.1 hy with rfl|hy
   ·exact ha
   ·exact hl y hy)
  simp only[b9]at this;omega
 |f+1,done,hd,hl=>by
  rw[iH]
  cases hn:kU c done with
  |none=>
   refine⟨by simpa using hd,fun p a q h=>by simp at h,fun hf a ha=>?_⟩;simpa using YT hn ha
  |some k=>
   obtain⟨hk,hm,hj⟩:=K3 hn;have h3:=(j4.1 hm).1
   obtain⟨i1,i2,i3⟩:=DK c f (done++[k]) (by
    rw[Ce];refine⟨hd,by simp,fun x hx y hy=>?_⟩;rw[dA]at hy;subst hy
    exact fun he=>h3 (he▸hx)) (fun x hx=>by
    rcases bF.1 hx with hx|hx
    ·exact hl x hx
    ·rw[dA]at hx;subst hx;exact hk)
   simp only[eQ,qh]at i1 i2 i3;refine⟨i1,fun p a q h=>?_,fun hf a ha=>i3 (by simp;omega) a ha⟩
   cases p with
   |nil=>
    simp only[ld,rT]at h;rw[fM,<-h.1];exact⟨hm,hj⟩
   |cons x p=>
    simp only[fh,rT]at h;obtain⟨rfl,h⟩:=h;exact i2 p a q h
theorem Ja(c:Ct):(aT c).Nodup:=by simpa[aT]using(DK c c.af.length [] (by simp) (by simp)).1
theorem me(c:Ct):∀x∈aT c,x<c.af.length:=K6 c _ _
theorem WS(c:Ct){p q:List Nat}{a:Nat}(h:aT c=p++a::q):iP c p a=true/\∀j<a,iP c p j=false:=by
 simpa using(DK c c.af.length [] (by simp) (by simp)).2.1 p a q h
theorem ZN(c:Ct){i:Nat}(hi:i<(aT c).length){x:Nat}(hx:eG c (aT c)[i] x=true):x∈(aT c).take i:=by
 have h:aT c=(aT c).take i++(aT c)[i]::(aT c).drop (i+1):=by
  rw[<-bT hi,nH]
 exact(j4.1 (WS c h).1).2 x hx
theorem y4(out:List Nat)(s:Bs):∀(l:List Gt)(i:Nat),s∈lq out l i↔∃t,∃h:t<l.length,l[t].name=s/\i+t∉out
 |[],i=>by simp[lq]
 |g::r,i=>by
  have hs:(∃t,∃h:t<(g::r).length,(g::r)[t].name=s/\i+t∉out)↔(g.name=s/\i∉out)\/∃t,∃h:t<r.length,r[t].name=s/\i+1+t∉out:=by
   constructor
   ·rintro⟨t,h,e,hm⟩
    cases t with
    |zero=>exact .inl ⟨e,hm⟩
    |succ t=>exact .inr ⟨t,by simpa using h,e,by rwa[show i+1+t=i+(t+1) by omega]⟩
   ·rintro(⟨e,hm⟩|⟨t,h,e,hm⟩)
    ·exact⟨0,by simp,e,hm⟩
    ·exact⟨t+1,by simpa using h,e,by rwa[show i+(t+1)=i+1+t by omega]⟩
  rw[hs,lq]
  split
  ·rename_i h0;rw[y4 out s r (i+1)];exact⟨.inr,fun h=>h.elim (fun h=>absurd h0 h.2) id⟩
  ·rename_i h0;rw[bq,y4 out s r (i+1)];exact⟨fun h=>h.imp (fun h=>⟨h.symm,h0⟩) id,fun h=>h.imp (fun h=>h.1.symm) id⟩
theorem Yw{c:Ct}(hd:(c.af.map (·.name)).Nodup)(out:List Nat){i:Nat}(hi:i<c.af.length):c.af[i].name∈lq out c.af 0↔i∉out:=by
 rw[y4];constructor
 ·rintro⟨t,ht,e,hm⟩
  rw[il]at hm;rwa[<-El hd ht hi e]
 ·intro h;exact⟨i,hi,rfl,by rwa[il]⟩
end Go.Proofs.YtihmomicdpkabaaGreatDoor
namespace Go.Proofs.YtihmomicdpkabaaGreatDoor
open Go.AM Go.Proofs
variable{Γ:Nat->Option AV}
theorem L7(a:Nat):∀(r lv:List Nat)(i:Nat),r.Nodup->a∉r->i<lv.length->(rz a r lv).getD i 0=if i∈r then max (lv.getD i 0) (lv.getD a 0+1)else lv.getD i 0
 |[],lv,i,_,_,_=>by simp[rz]
 |j::r,lv,i,hr,ha,hi=>by
  rw[l8]at hr;simp only[bq,not_or]at ha
  have hg:∀k,(lv.set j (max (lv.getD j 0) (lv.getD a 0+1))).getD k 0=if j=k/\k<lv.length then max (lv.getD j 0) (lv.getD a 0+1)else lv.getD k 0:=fun k=>by
   simp only[bG,nM]
   by_cases h1:j=k
   ·subst h1
    by_cases h2:j<lv.length
    ·simp[h2]
    ·simp[h2]
   ·simp[h1]
  have e1:=hg a;have e2:=hg i;rw[if_neg (fun h=>ha.1 h.1.symm)]at e1;rw[rz,L7 a r _ i hr.2 ha.2 (by simpa using hi),e1,e2]
  by_cases hij:j=i
  ·subst hij;rw[if_neg hr.1,if_pos ⟨rfl,hi⟩,if_pos (by simp)]
  ·have hne:¬i=j:=fun h=>hij h.symm
   have e3:¬(j=i/\i<lv.length):=fun h=>hij h.1
   simp only[if_neg e3]
   by_cases h3:i∈r
   ·rw[if_pos h3,if_pos (by simp[h3])]
   ·rw[if_neg h3,if_neg (by simp[h3,hne])]
structure FY(c:Ct)(p:List Nat)(s:List Nat×List Nat):Prop where
 len:s.1.length=c.af.length
 cm:∀x,x∈s.2↔x∈p
 ge:∀i<c.af.length,∀a∈p,eG c i a=true->s.1.getD a 0+1<=s.1.getD i 0
 eq:∀i<c.af.length,s.1.getD i 0=0\/∃a∈p,eG c i a=true/\s.1.getD i 0=s.1.getD a 0+1
theorem Yp(k x:Nat)(l:List Nat):x∈FT k l↔x∈l\/x=k:=by
 unfold FT
 split
 ·rename_i h;exact⟨.inl,fun h1=>h1.elim id fun h1=>h1▸h⟩
 ·simp
theorem FY.step{c:Ct}(hd:(c.af.map (·.name)).Nodup){p:List Nat}{s:List Nat×List Nat}(h:FY c p s)(hall:∀i∈p,∀x,eG c i x=true->x∈p){a:Nat}(ha:a<c.af.length)(hm:iP c p a=true):FY c (p++[a]) (rB c s a):=by
 obtain⟨hap,haa⟩:=j4.1 hm
 have hab:a∉(bw c).getD a []:=fun hb=>hap (haa a ((s7 hd ha a).1 hb))
 have hg:∀i<c.af.length,(rB c s a).1.getD i 0=if eG c i a=true then max (s.1.getD i 0) (s.1.getD a 0+1)else s.1.getD i 0:=fun i hi=>by
  rw[rB,L7 a _ _ i (JJ c ha) hab (by rw[h.len];exact hi)];simp only[s7 hd ha i]
 have hsame:∀x∈p,x<c.af.length->(rB c s a).1.getD x 0=s.1.getD x 0:=fun x hx hxl=>by
  rw[hg x hxl,if_neg fun hk=>hap (hall x hx a hk)]
 have hsa:(rB c s a).1.getD a 0=s.1.getD a 0:=by rw[hg a ha,if_neg fun hk=>hap (haa a hk)]
 refine⟨by rw[rB,Le];exact h.len,fun x=>?_,fun i hi x hx hk=>?_,fun i hi=>?_⟩
 ·rw[rB];simp only[Yp,h.cm,bF,dA]
 ·rcases bF.1 hx with hx|hx
  ·have:=h.ge i hi x hx hk;rw[hsame x hx (ri hk).2,hg i hi]
   split<;>omega
  ·rw[dA]at hx;subst hx
   rw[hsa,hg i hi,if_pos hk];omega
 ·rw[hg i hi]
  by_cases hk:eG c i a=true
  ·rw[if_pos hk]
   rcases Nat.le_total (s.1.getD i 0) (s.1.getD a 0+1)with hle|hle
   ·exact .inr ⟨a,by simp,hk,by rw[hsa];omega⟩
   ·rcases h.eq i hi with h0|⟨x,hx,hkx,he⟩
    ·omega
    ·exact .inr ⟨x,by simp[hx],hkx,by rw[hsame x hx (ri hkx).2];omega⟩
  ·rw[if_neg hk]
   rcases h.eq i hi with h0|⟨x,hx,hkx,he⟩
   ·exact .inl h0
   ·exact .inr ⟨x,by simp[hx],hkx,by rw[hsame x hx (ri hkx).2];exact he⟩
theorem Xc{c:Ct}(h:(kP c).1=0):j5 c=true/\mr c=[]/\kP c=(0,[]):=by
 unfold kP at h⊢
 by_cases h0:(h_ c).1=0
 ·rw[if_pos h0]at h⊢
  cases hn:mr c with
  |nil=>exact⟨qo h0,rfl,rfl⟩
  |cons s l=>rw[hn]at h;cases h
 ·rw[if_neg h0]at h;exact absurd h h0
end Go.Proofs.YtihmomicdpkabaaGreatDoor
