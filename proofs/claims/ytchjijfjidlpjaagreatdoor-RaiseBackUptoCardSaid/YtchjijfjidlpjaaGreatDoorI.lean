/- Order: what comes: the loops. -/
import Derived.Test.YtchjijfjidlpjaaGreatDoorH
import Derived.Test.YtchjijfjidlpjaaGreatDoorG
import Derived.Test.YtchjijfjidlpjaaGreatDoorAMd
import Derived.Test.YtchjijfjidlpjaaGreatDoorF
import Derived.Test.YtchjijfjidlpjaaGreatDoorCode
set_option linter.unusedSimpArgs false
set_option linter.unusedVariables false
namespace Go.Proofs.YtchjijfjidlpjaaGreatDoor
open Go.AM Go.Proofs
variable{Γ:Nat->Option AV}
def dG(a:Nat)(l:List Nat):List Nat:=l.filter fun x=>decide (¬x=a)
theorem QE(a:Nat):∀{l:List Nat},l.Nodup->nq (.sc .int) (.int .i64 a) (l.map eK)=some ((dG a l).map eK)
 |[],_=>rfl
 |b::l,h=>by
  simp only[lA]at h
  by_cases h2:a=b
  ·subst h2
   have h3:dG a l=l:=by
    unfold dG;rw[AY];intro x hx
    exact sY fun hn=>h.1 (hn▸hx)
   have h4:dG a (a::l)=l:=by rw[<-h3];simp[dG]
   simp only[bU,nq,ud,decide_true,h4]
  ·have h4:dG a (b::l)=b::dG a l:=by
    unfold dG;rw[rD,if_pos (by simpa using fun h=>h2 h.symm)]
   simp only[bU,nq,ud,h2,nV,QE a h.2,dm,h4]
theorem Nd(a:Nat){l:List Nat}(h:l.Nodup):(dG a l).Nodup:=h.filter _
theorem zd(l:List Nat)(x:Nat):(fZ l x).length=l.length+1:=by rw[fZ,ags];simp
def jv(nd:List (List Nat)):Nat->Nat->List Nat->List Nat
 |0,_,l=>l
 |m+1,i,l=>jv nd m (i+1) (if nd.getD i []=[]then fZ l i else l)
def eM(a:Nat):List Nat->List (List Nat)->List Nat->List Nat->List (List Nat)×List Nat×List Nat
 |[],nd,l,s=>(nd,l,s)
 |i::r,nd,l,s=>if dG a (nd.getD i [])=[]then eM a r (nd.set i (dG a (nd.getD i []))) (fZ l i) s.tail else eM a r (nd.set i (dG a (nd.getD i []))) l s
theorem OT{A:List Ob}{l s:List Nat}(s0:List Nat)(hs:s=s0.tail){f:Fr}{up:List Fr}(hb:f.base<=A.length)(hf:∀m,iv A.length m f=true)(hv:∀m,cQ A.length m A=true):
 AM.Reach Tryz.prog Γ (.fr f up (hP A l s (gP s0))) (.fr f up (hP A l s none)):=by
 unfold gP
 split
 ·rename_i h0
  have hs0:s=[]:=by rw[hs,h0];rfl
  subst hs0
  have e:(hP A l [] (some 0)).set A.length (.row 1 aq ((l++[]).map iN) none true false)=hP A l [] none:=by simp[hP]
  refine .rU (wD (A:=A) (l:=l) (s:=[]) (g:=some 0)) hb (hf _) (by
   rw[hP,jH,hv]
   simp) ?_
  rw[e];exact .refl _
 ·exact .refl _
set_option maxRecDepth 8000 in
theorem ahe(c:Ct)(hc:cK c){M:List Ob}(hv:gV M)(nd:List (List Nat))(hn:nd.length=c.af.length)(L:Nat)(p:AV)(up:List Fr):∀m i:Nat,i+m=c.af.length->∀l:List Nat,l.length<=i->
 AM.Reach Tryz.prog Γ (yqy (.cY L) (.ptr (M.length+(9+(c.af.length+c.af.length))) 0) (.ptr (M.length+(11+(c.af.length+c.af.length))) 0) (.int .i64 c.af.length) (.int .i64 i) (hP (aC c M nd) l [] none) ⟨[],.norm,M.length,up⟩)
  (yqz (.cY L) (.ptr (M.length+(9+(c.af.length+c.af.length))) 0) (.ptr (M.length+(11+(c.af.length+c.af.length))) 0) (hP (aC c M nd) (jv nd m i l) [] none) ⟨[],.norm,M.length,up⟩):=by
 have hN:=hc.2.2.2.1;intro m
 induction m with
 |zero=>
  intro i hi l hl
  have q1:¬i<c.af.length:=by omega
  rw[jv];generalize hP (aC c M nd) l [] none=X at*;refine .dW 60 ?_;simp[q1];exact .exit rfl rfl
 |succ m ih=>
  intro i hi l hl
  have q1:i<c.af.length:=by omega
  have hAl:=qC (M:=M) hn;have xw:=qR (A:=aC c M nd) (l:=l) (s:=[]) (g:=none) (i:=M.length+(9+(c.af.length+c.af.length))) (by omega);have xn:=qR (A:=aC c M nd) (l:=l) (s:=[]) (g:=none) (i:=M.length+7) (by omega);have xm:=qR (A:=aC c M nd) (l:=l) (s:=[]) (g:=none) (i:=M.length+(9+(c.af.length+i))) (by omega);rw[I9 hn]at xw;rw[SI hn]at xn;rw[SB hn q1,iT]at xm;have yn:=GL (n:=M.length+6) (N:=c.af.length) q1;rw[show M.length+6+(3+(c.af.length+i))=M.length+(9+(c.af.length+i)) by omega]at yn;have yl:=B5 (n:=M.length+6) (N:=c.af.length) (m:=c.af.length) (aQ _);have yt:List.take c.af.length (dQ (M.length+6) c.af.length c.af.length)=dQ (M.length+6) c.af.length c.af.length:=cR (by rw[yl];exact aQ _);obtain⟨_,yn'⟩:=db.1 yn;rw[jv]
  by_cases h0:nd.getD i []=[]
  ·have hh:=ih (i+1) (by omega) (fZ l i) (by rw[zd];omega);have hP':=Rx (Γ:=Γ) (aC c M nd) l [] i (by omega) (by omega)
   have hun:=fun f hb hf=>OT (Γ:=Γ) (l:=fZ l i) (s:=[]) [] rfl (f:=f) (up:=up) hb hf (fun m=>RP hv (nd:=nd) (by rw[hAl];omega))
   rw[hAl]at hun hP';rw[show M.length+(10+(c.af.length+c.af.length))+1=M.length+(11+(c.af.length+c.af.length)) by omega]at hP';rw[if_pos h0];rw[h0]at xm;generalize hP (aC c M nd) l [] none=X at*;generalize hP (aC c M nd) (fZ l i) [] none=Y at*;rw[List.tail_nil]at hP';generalize hP (aC c M nd) (fZ l i) [] (gP [])=Z at*;generalize dQ (M.length+6) c.af.length c.af.length=E at*;refine .dW 60 ?_;simp(disch:=omega) [q1,xw,xn,xm,yn,yl,yt,yn'];refine .RS 1 60 hP' ?_;simp(disch:=omega);refine .trans (hun _ (by simp) (by intro m;simp;omega)) ?_;refine .aO ?_;simp at hh⊢;exact hh
  ·have hh:=ih (i+1) (by omega) l (by omega);rw[if_neg h0]
   have xln:¬(nd.getD i []).length=0:=by simpa using h0
   generalize nd.getD i []=z at*
   have e0:(((z.map eK).length:Nat):Int)=0↔False:=by simp;exact h0
   generalize hP (aC c M nd) l [] none=X at*;generalize dQ (M.length+6) c.af.length c.af.length=E at*;refine .dW 60 ?_;simp(disch:=omega) [q1,xw,xn,xm,yn,yl,yt,yn',h0,xln];refine .aO ?_;simp at hh⊢;exact hh
theorem adV{A:List Ob}{l s:List Nat}{g:Option Nat}{i:Nat}(h:i<A.length)(o:Ob):(hP A l s g).set i o=hP (A.set i o) l s g:=by
 rw[hP,lz _ _ h,hP,jZ]
set_option maxRecDepth 8000 in
theorem aiC(c:Ct)(hc:cK c){M:List Ob}(hv:gV M)(L a:Nat)(ha:a<c.af.length)(hb:∀i∈(bK c).getD a [],i<c.af.length)(up:List Fr):∀m j:Nat,j+m=((bK c).getD a []).length->∀(nd:List (List Nat))(l s:List Nat),nd.length=c.af.length->(∀x∈nd,x.Nodup)->l.length+m<2^38->j+m<2^38->
 AM.Reach Tryz.prog Γ (yqt (.cY L) (.ptr (M.length+(9+(c.af.length+c.af.length))) 0) (.ptr (M.length+(11+(c.af.length+c.af.length))) 0) (.int .i64 a) (.sl (M.length+(9+a)) 0 ((bK c).getD a []).length) (.int .i64 ((bK c).getD a []).length) (.int .i64 j) (hP (aC c M nd) l s none) ⟨[],.norm,M.length,up⟩)
  (yqu (.cY L) (.ptr (M.length+(9+(c.af.length+c.af.length))) 0) (.ptr (M.length+(11+(c.af.length+c.af.length))) 0) (hP (aC c M (eM a (((bK c).getD a []).drop j) nd l s).1) (eM a (((bK c).getD a []).drop j) nd l s).2.1 (eM a (((bK c).getD a []).drop j) nd l s).2.2 none) ⟨[],.norm,M.length,up⟩):=by
 have hN:=hc.2.2.2.1;intro m
 induction m with
 |zero=>
  intro j hj nd l s hn hd hl hj2
  have q1:¬j<((bK c).getD a []).length:=by omega
  rw[bA (by omega),eM];generalize(bK c).getD a []=bs at*;generalize hP (aC c M nd) l s none=X at*;refine .dW 60 ?_;simp[q1];exact .exit rfl rfl
 |succ m ih=>
  intro j hj nd l s hn hd hl hj2;have xr:=qR (A:=aC c M nd) (l:=l) (s:=s) (g:=none) (i:=M.length+(9+a)) (by rw[qC hn];omega);rw[aiY ha]at xr;generalize hbs:(bK c).getD a []=bs at*
  have q1:j<bs.length:=by omega
  have hi:=hb _ (bw q1)
  have xi:(bs.map iN)[j]? =some (.int .i64 (bs[j]:Nat)):=by simp[q1]
  rw[bJ q1,eM];generalize bs[j]=i at*;have hAl:=qC (M:=M) hn;have xw:=qR (A:=aC c M nd) (l:=l) (s:=s) (g:=none) (i:=M.length+(9+(c.af.length+c.af.length))) (by omega);have xn:=qR (A:=aC c M nd) (l:=l) (s:=s) (g:=none) (i:=M.length+7) (by omega);have xm:=qR (A:=aC c M nd) (l:=l) (s:=s) (g:=none) (i:=M.length+(9+(c.af.length+i))) (by omega);rw[I9 hn]at xw;rw[SI hn]at xn;rw[SB hn hi,iT]at xm;rw[gn]at xr
  have hXl:(hP (aC c M nd) l s none).length=M.length+(12+(c.af.length+c.af.length)):=by rw[zS,hAl];omega
  have xs:∀o,((hP (aC c M nd) l s none).set (M.length+(9+(c.af.length+i))) o)[M.length+(9+(c.af.length+i))]? =some o:=fun o=>eI (by omega)
  clear hXl;have yn:=GL (n:=M.length+6) (N:=c.af.length) hi;rw[show M.length+6+(3+(c.af.length+i))=M.length+(9+(c.af.length+i)) by omega]at yn;have yl:=B5 (n:=M.length+6) (N:=c.af.length) (m:=c.af.length) (aQ _);have yt:List.take c.af.length (dQ (M.length+6) c.af.length c.af.length)=dQ (M.length+6) c.af.length c.af.length:=cR (by rw[yl];exact aQ _);obtain⟨_,yn'⟩:=db.1 yn
  have hnd:(nd.getD i []).Nodup:=by
   rw[bq,aR (by omega)];exact hd _ (bw _)
  have dc:=QE a hnd
  have fin:(hP (aC c M nd) l s none).set (M.length+(9+(c.af.length+i))) (.map ((dG a (nd.getD i [])).map eK) true)=hP (aC c M (nd.set i (dG a (nd.getD i [])))) l s none:=by
   rw[adV (by omega),<-af9 _ hn hi];rfl
  have hn2:(nd.set i (dG a (nd.getD i []))).length=c.af.length:=by rw[jZ];exact hn
  have hd2:∀x∈nd.set i (dG a (nd.getD i [])),x.Nodup:=fun x hx=>by
   rcases pT hx with h1|h1
   ·exact hd x h1
   ·rw[h1];exact Nd a hnd
  have hAl2:=qC (M:=M) hn2
  by_cases h0:dG a (nd.getD i [])=[]
  ·have hh:=ih (j+1) (by omega) (nd.set i (dG a (nd.getD i []))) (fZ l i) s.tail hn2 hd2 (by rw[zd];omega) (by omega);have hP':=Rx (Γ:=Γ) (aC c M (nd.set i (dG a (nd.getD i [])))) l s i (by omega) (by omega)
   have hun:=fun f hb hf=>OT (Γ:=Γ) (l:=fZ l i) (s:=s.tail) s rfl (f:=f) (up:=up) hb hf (fun m=>RP hv (nd:=nd.set i (dG a (nd.getD i []))) (by rw[hAl2];omega))
   rw[hAl2]at hun hP';rw[show M.length+(10+(c.af.length+c.af.length))+1=M.length+(11+(c.af.length+c.af.length)) by omega]at hP';rw[if_pos h0]
   have hlz:(dG a (nd.getD i [])).length=0:=by rw[h0];rfl
   rw[h0]at dc fin;rw[h0]at hP' hun hh⊢;generalize(eM a (bs.drop (j+1)) (nd.set i []) (fZ l i) s.tail)=R at*;generalize hP (aC c M nd) l s none=X at*;generalize hP (aC c M (nd.set i [])) l s none=Y at*;generalize hP (aC c M (nd.set i [])) (fZ l i) s.tail none=Z at*;generalize hP (aC c M (nd.set i [])) (fZ l i) s.tail (gP s)=W at*;generalize dQ (M.length+6) c.af.length c.af.length=E at*;generalize hLz:nd.getD i []=z at*;refine .dW 60 ?_;simp(disch:=omega) [q1,xr,xi,xw,xn,xm,yn,yl,yt,yn',hi,dc,xs,isKey,bN,b9];simp at fin;rw[fin];refine .RS 1 60 hP' ?_;simp(disch:=omega);refine .trans (hun _ (by simp) (by intro m;simp;omega)) ?_;refine .aO ?_;simp at hh⊢;exact hh
  ·have hh:=ih (j+1) (by omega) (nd.set i (dG a (nd.getD i []))) l s hn2 hd2 (by omega) (by omega);rw[if_neg h0]
   have xln:¬(dG a (nd.getD i [])).length=0:=by simpa using h0
   generalize(eM a (bs.drop (j+1)) (nd.set i (dG a (nd.getD i []))) l s)=R at*;generalize hP (aC c M nd) l s none=X at*;generalize hP (aC c M (nd.set i (dG a (nd.getD i [])))) l s none=Y at*;generalize dQ (M.length+6) c.af.length c.af.length=E at*;generalize dG a (nd.getD i [])=z' at*;generalize hLz:nd.getD i []=z at*;refine .dW 60 ?_;simp(disch:=omega) [q1,xr,xi,xw,xn,xm,yn,yl,yt,yn',hi,dc,xs,isKey,bN,b9,h0,xln];rw[fin];refine .aO ?_;simp at hh⊢;exact hh
end Go.Proofs.YtchjijfjidlpjaaGreatDoor
namespace Go.Proofs.YtchjijfjidlpjaaGreatDoor
open Go.AM Go.Proofs
theorem Hd{l:List Nat}{i j:Nat}(hi:i<l.length)(hj:j<l.length):(swp l i j).Perm l:=by
 rw[List.perm_iff_count];intro a
 have e1:l.getD i 0=l[i]:=by rw[bq,aR hi];rfl
 have e2:l.getD j 0=l[j]:=by rw[bq,aR hj];rfl
 have e3:(l.set i l[j])[j]'(by simpa using hj)=l[j]:=by
  rw[List.getElem_set];split<;>rfl
 rw[swp,e1,e2,List.count_set (by simpa using hj),List.count_set hi,e3]
 have hp:l[i]=a->0<l.count a:=fun h=>V7.2 (h▸bw hi)
 by_cases h1:l[i]=a
 ·have:=hp h1
  by_cases h2:l[j]=a<;>simp[h1,h2]<;>omega
 ·by_cases h2:l[j]=a<;>simp[h1,h2]
theorem aeJ(j:Nat):∀l:List Nat,j<l.length->(nI l j).Perm l:=by
 induction j using Nat.strongRecOn with
 |_ j ih=>
  intro l hj;rw[nI]
  split
  ·exact .refl _
  ·split
   ·exact(ih _ (by omega) _ (by rw[dY];omega)).trans (Hd (by omega) hj)
   ·exact .refl _
theorem aaV(n:Nat):∀(m i:Nat)(l:List Nat),n-i<=m->n<=l.length->i<l.length->(ie n l i).1.Perm l:=by
 intro m
 induction m with
 |zero=>
  intro i l h hn hi;rw[ie,if_pos (by omega)]
 |succ m ih=>
  intro i l h hn hi;rw[ie]
  split
  ·exact .refl _
  ·split
   ·have:=zQ l (2*i+1) n;have:=C3 l (j:=2*i+1) (n:=n) (by omega);exact(ih _ _ (by omega) (by rw[dY];omega) (by rw[dY];omega)).trans (Hd hi (by omega))
   ·exact .refl _
theorem y6(l:List Nat)(x:Nat):(fZ l x).Perm (x::l):=(aeJ _ _ (by simp)).trans List.perm_append_comm
def br(l:List Nat):Nat:=(dE l).getD (l.length-1) 0
def dR(l:List Nat):List Nat:=(dE l).take (l.length-1)
theorem aco{l:List Nat}(h:0<l.length):(dE l).Perm l:=by
 rw[dE];exact(aaV _ _ _ _ (aQ _) (by rw[dY];omega) (by rw[dY];omega)).trans (Hd h (by omega))
theorem aaP{l:List Nat}(h:0<l.length):dE l=dR l++[br l]:=by
 have hl:=Cf l
 have hlt:l.length-1<(dE l).length:=by omega
 have h5:(dE l).getD (l.length-1) 0=(dE l)[l.length-1]:=by rw[bq,aR hlt];rfl
 rw[br,dR,h5]
 conv=>lhs;rw[<-mT (l.length-1) (dE l)]
 congr 1;rw[bJ hlt,bA (by omega)]
theorem NR{l:List Nat}(h:0<l.length):(br l::dR l).Perm l:=by
 have:=aco h;rw[aaP h]at this;exact List.perm_append_comm.symm.trans this
theorem Ox(l:List Nat):(dR l).length=l.length-1:=by rw[dR,eR,Cf];omega
def lU(n:Nat)(l:List Nat):Prop:=∀k,0<k->k<n->l.getD ((k-1)/2) 0<=l.getD k 0
theorem zN{l:List Nat}{i j:Nat}(hi:i<l.length)(hj:j<l.length)(k:Nat):(swp l i j).getD k 0=if k=j then l.getD i 0 else if k=i then l.getD j 0 else l.getD k 0:=by
 simp only[swp,bq,pX,jZ]
 by_cases h1:j=k
 ·subst h1;simp[hj]
 ·have h1':¬k=j:=fun h=>h1 h.symm
  by_cases h2:i=k
  ·subst h2;simp[h1,h1',hi]
  ·have h2':¬k=i:=fun h=>h2 h.symm
   simp[h1,h1',h2,h2']
theorem aeC(j:Nat):∀l:List Nat,j<l.length->(∀k,0<k->k<l.length->k≠j->l.getD ((k-1)/2) 0<=l.getD k 0)->(0<j->∀k,k<l.length->0<k->(k-1)/2=j->l.getD ((j-1)/2) 0<=l.getD k 0)->lU l.length (nI l j):=by
 induction j using Nat.strongRecOn with
 |_ j ih=>
  intro l hj h1 h2;rw[nI]
  split
  ·rename_i h0;intro k hk hkl;exact h1 k hk hkl (by omega)
  ·rename_i h0
   have hpl:(j-1)/2<l.length:=by omega
   split
   ·rename_i hlt;have hs:=zN hpl hj
    have key:lU (swp l ((j-1)/2) j).length (nI (swp l ((j-1)/2) j) ((j-1)/2)):=by
     refine ih _ (by omega) _ (by rw[dY];exact hpl) (fun k hk hkl hkp=>?_) (fun hp k hkl hk hkp=>?_)
     ·rw[dY]at hkl;rw[hs,hs]
      have hq:¬(k-1)/2=j\/(k-1)/2=j:=by omega
      by_cases hkj:k=j
      ·subst hkj;rw[if_neg (by omega),if_pos rfl,if_pos rfl];omega
      ·rw[if_neg hkj,if_neg hkp];have hk1:=h1 k hk hkl hkj
       by_cases hc:(k-1)/2=j
       ·rw[if_pos hc];exact h2 (by omega) k hkl hk hc
       ·rw[if_neg hc]
        by_cases hd:(k-1)/2=(j-1)/2
        ·rw[if_pos hd]
         rw[hd]at hk1;omega
        ·rw[if_neg hd];exact hk1
     ·rw[dY]at hkl;rw[hs,hs,if_neg (by omega),if_neg (by omega)];have hpp:=h1 ((j-1)/2) hp hpl (by omega)
      by_cases hkj:k=j
      ·rw[if_pos hkj];exact hpp
      ·rw[if_neg hkj,if_neg (by omega)];have hk1:=h1 k hk hkl hkj
       rw[hkp]at hk1;omega
    rw[dY]at key;exact key
   ·rename_i hge;intro k hk hkl
    by_cases hkj:k=j
    ·subst hkj;omega
    ·exact h1 k hk hkl hkj
theorem Ng{l:List Nat}(h:lU l.length l)(x:Nat):lU (fZ l x).length (fZ l x):=by
 have e:(fZ l x).length=(l++[x]).length:=by rw[zd];simp
 have g:∀k,k<l.length->(l++[x]).getD k 0=l.getD k 0:=fun k hk=>by simp[cz hk]
 rw[e,fZ];refine aeC _ _ (by simp) (fun k hk hkl hkj=>?_) (fun hj k hkl hk hkp=>?_)
 ·simp only[bu,uE]at hkl;rw[g _ (by omega),g _ (by omega)];exact h k hk (by omega)
 ·simp only[bu,uE]at hkl;omega
theorem aaO(n:Nat):∀(m i:Nat)(l:List Nat),n-i<=m->n<=l.length->i<l.length->(∀k,0<k->k<n->(k-1)/2≠i->l.getD ((k-1)/2) 0<=l.getD k 0)->(0<i->∀k,k<n->0<k->(k-1)/2=i->l.getD ((i-1)/2) 0<=l.getD k 0)->lU n (ie n l i).1:=by
 intro m
 induction m with
 |zero=>
  intro i l h hn hi h1 h2;rw[ie,if_pos (by omega)];intro k hk hkn;exact h1 k hk hkn (by omega)
 |succ m ih=>
  intro i l h hn hi h1 h2;rw[ie]
  split
  ·intro k hk hkn;exact h1 k hk hkn (by omega)
  ·rename_i hc;have kg:=zQ l (2*i+1) n;have kl:=C3 l (j:=2*i+1) (n:=n) (by omega)
   have kk:gT l (2*i+1) n=2*i+1\/gT l (2*i+1) n=2*i+2:=by unfold gT;split<;>omega
   have least:∀k,k<n->0<k->(k-1)/2=i->l.getD (gT l (2*i+1) n) 0<=l.getD k 0:=by
    intro k hkn hk hkp
    have hk2:k=2*i+1\/k=2*i+1+1:=by omega
    unfold gT
    split
    ·rename_i hh
     rcases hk2 with rfl|rfl
     ·omega
     ·exact aQ _
    ·rename_i hh
     rcases hk2 with rfl|rfl
     ·exact aQ _
     ·have:¬l.getD (2*i+1+1) 0<l.getD (2*i+1) 0:=fun h=>hh ⟨hkn,h⟩
      omega
   generalize gT l (2*i+1) n=j at*
   have hjl:j<l.length:=by omega
   have hs:=zN hi hjl
   split
   ·rename_i hlt;refine ih _ _ (by omega) (by rw[dY];exact hn) (by rw[dY];exact hjl) (fun k hk hkn hkp=>?_) (fun hp k hkn hk hkp=>?_)
    ·rw[hs,hs,if_neg hkp]
     by_cases hkj:k=j
     ·subst hkj;rw[if_pos rfl,if_pos (by omega)];omega
     ·rw[if_neg hkj]
      by_cases hci:(k-1)/2=i
      ·rw[if_pos hci,if_neg (by omega)];exact least k hkn hk hci
      ·rw[if_neg hci];have hk1:=h1 k hk hkn hci
       by_cases hki:k=i
       ·rw[if_pos hki];subst hki;exact h2 hk j kl (by omega) (by omega)
       ·rw[if_neg hki];exact hk1
    ·rw[hs,hs]
     have hpi:(j-1)/2=i:=by omega
     have hjne:¬i=j:=by omega
     rw[hpi,if_neg hjne,if_pos rfl,if_neg (by omega),if_neg (by omega)];have:=h1 k hk hkn (by omega)
     rw[hkp]at this;exact this
   ·rename_i hge;intro k hk hkn
    by_cases hci:(k-1)/2=i
    ·have:=least k hkn hk hci
     show l.getD ((k-1)/2) 0<=l.getD k 0
     rw[hci];omega
    ·exact h1 k hk hkn hci
theorem ab9{n:Nat}{l:List Nat}(h:lU n l):∀k,k<n->l.getD 0 0<=l.getD k 0:=by
 intro k
 induction k using Nat.strongRecOn with
 |_ k ih=>
  intro hk
  by_cases h0:k=0
  ·subst h0;exact aQ _
  ·have h1:=h k (by omega) hk;have h2:=ih ((k-1)/2) (by omega) (by omega);omega
theorem aaZ{l:List Nat}(h:lU l.length l)(h0:0<l.length):lU (dR l).length (dR l):=by
 have hs:=zN (l:=l) (i:=0) (j:=l.length-1) h0 (by omega)
 have hd:lU (l.length-1) (dE l):=by
  rw[dE];refine aaO _ _ 0 _ (aQ _) (by rw[dY];omega) (by rw[dY];omega) (fun k hk hkn hkp=>?_) (fun hp=>absurd hp (by omega));rw[hs,hs,if_neg (by omega),if_neg hkp,if_neg (by omega),if_neg (by omega)];exact h k hk (by omega)
 have hl:=Cf l
 have g:∀k,k<l.length-1->(dR l).getD k 0=(dE l).getD k 0:=fun k hk=>by
  rw[dR];simp only[bq];rw[mV hk]
 rw[Ox];intro k hk hkn;rw[g _ (by omega),g _ hkn];exact hd k hk hkn
theorem aeL{l:List Nat}(h0:0<l.length):br l=l.getD 0 0:=by
 have hs:=zN (l:=l) (i:=0) (j:=l.length-1) h0 (by omega)
 have fN:∀(n m i:Nat)(x:List Nat),n-i<=m->n<x.length->i<=n->(i<x.length)->(i<n\/n=0)->(ie n x i).1.getD n 0=x.getD n 0:=by
  intro n m
  induction m with
  |zero=>
   intro i x h1 h2 h3 h4 h5;rw[ie,if_pos (by omega)]
  |succ m ih=>
   intro i x h1 h2 h3 h4 h5;rw[ie]
   split
   ·rfl
   ·rename_i hc;have kg:=zQ x (2*i+1) n;have kl:=C3 x (j:=2*i+1) (n:=n) (by omega);generalize gT x (2*i+1) n=j at*
    split
    ·rw[ih j _ (by omega) (by rw[dY];exact h2) (by omega) (by rw[dY];omega) (by omega),zN h4 (by omega),if_neg (by omega),if_neg (by omega)]
    ·rfl
 rw[br,dE,fN _ _ 0 _ (aQ _) (by rw[dY];omega) (by omega) (by rw[dY];omega) (by omega),hs,if_pos rfl]
theorem ae2{l:List Nat}(h:lU l.length l)(h0:0<l.length){x:Nat}(hx:x∈l):br l<=x:=by
 rw[aeL h0];obtain⟨k,hk,rfl⟩:=gC hx;have:=ab9 h k hk;rw[bq (i:=k),aR hk]at this;exact this
end Go.Proofs.YtchjijfjidlpjaaGreatDoor
namespace Go.Proofs.YtchjijfjidlpjaaGreatDoor
open Go.AM Go.Proofs
variable{Γ:Nat->Option AV}
def qS(b:List (List Nat)):Nat->List (List Nat)->List Nat->List Nat->List Nat
 |0,_,_,_=>[]
 |f+1,nd,l,s=>if l=[]then[]else
  br l::qS b f (eM (br l) (b.getD (br l) []) nd (dR l) (br l::s)).1 (eM (br l) (b.getD (br l) []) nd (dR l) (br l::s)).2.1 (eM (br l) (b.getD (br l) []) nd (dR l) (br l::s)).2.2
def um(b:List (List Nat)):Nat->List (List Nat)->List Nat->List Nat->Prop
 |0,_,l,_=>l=[]
 |f+1,nd,l,s=>l=[]\/um b f (eM (br l) (b.getD (br l) []) nd (dR l) (br l::s)).1 (eM (br l) (b.getD (br l) []) nd (dR l) (br l::s)).2.1 (eM (br l) (b.getD (br l) []) nd (dR l) (br l::s)).2.2
theorem HU(a N:Nat):∀(r:List Nat)(nd:List (List Nat))(l s:List Nat),(∀i∈r,i<N)->nd.length=N->(∀x∈nd,x.Nodup)->(∀x∈l,x<N)->
 (eM a r nd l s).1.length=N/\(∀x∈(eM a r nd l s).1,x.Nodup)/\(∀x∈(eM a r nd l s).2.1,x<N)/\(eM a r nd l s).2.1.length<=l.length+r.length
 |[],nd,l,s,_,h2,h3,h4=>⟨h2,h3,h4,by simp[eM]⟩
 |i::r,nd,l,s,h1,h2,h3,h4=>by
  have hi:=h1 i (by simp)
  have hn:(nd.set i (dG a (nd.getD i []))).length=N:=by simpa using h2
  have hd:∀x∈nd.set i (dG a (nd.getD i [])),x.Nodup:=fun x hx=>by
   rcases pT hx with h5|h5
   ·exact h3 x h5
   ·rw[h5];refine Nd a ?_;rw[bq,aR (by omega)];exact h3 _ (bw _)
  rw[eM]
  split
  ·have:=HU a N r _ (fZ l i) s.tail (fun x hx=>h1 x (by simp[hx])) hn hd (fun x hx=>by
    have:=(y6 l i).mem_iff.1 hx
    rcases bz.1 this with rfl|h6
    ·exact hi
    ·exact h4 x h6)
   rw[zd]at this;refine⟨this.1,this.2.1,this.2.2.1,?_⟩;have:=this.2.2.2
   simp only[bE];omega
  ·have:=HU a N r _ l s (fun x hx=>h1 x (by simp[hx])) hn hd h4;refine⟨this.1,this.2.1,this.2.2.1,?_⟩;have:=this.2.2.2
   simp only[bE];omega
set_option maxRecDepth 8000 in
theorem aiu(c:Ct)(hc:cK c)(hbL:∀x∈bK c,x.length<=2^21/\∀i∈x,i<c.af.length){S:Type}(M:S->List Ob)(F:S->Nat->S)(n L r:Nat)(hM:∀x,(M x).length=n)(hv:∀x,gV (M x))(hr:r<n)(I:S->Nat->Prop)(hI:∀x k a,I x k->a<c.af.length->I (F x a) (k+1))
 (hB:∀x k a T up,I x k->k<2^20->a<c.af.length->(∀m,up.all (iv r m)=true)->(∀m,cQ r m T=true)->AM.Reach Tryz.prog Γ ((jm.yl L).cfg [.int .i64 a] up (M x++T)) (.back up (.bool true) (M (F x a)++T)))
 (up:List Fr)(hup:∀m,up.all (iv r m)=true):∀(f:Nat)(x:S)(k:Nat)(nd:List (List Nat))(l s:List Nat),nd.length=c.af.length->(∀x∈nd,x.Nodup)->(∀a∈l,a<c.af.length)->l.length+f*2^22<=2^37->I x k->k+f<=2^20->um (bK c) f nd l s->
 ∃T,AM.Reach Tryz.prog Γ (Tp (.cY L) (.ptr (n+(9+(c.af.length+c.af.length))) 0) (.ptr (n+(11+(c.af.length+c.af.length))) 0) (hP (aC c (M x) nd) l s none) ⟨[],.norm,n,up⟩)
  (.back up (.aH []) (M ((qS (bK c) f nd l s).foldl F x)++T)):=by
 have stop:∀(x:S)(nd:List (List Nat))(s:List Nat),nd.length=c.af.length->∃T,AM.Reach Tryz.prog Γ (Tp (.cY L) (.ptr (n+(9+(c.af.length+c.af.length))) 0) (.ptr (n+(11+(c.af.length+c.af.length))) 0) (hP (aC c (M x) nd) [] s none) ⟨[],.norm,n,up⟩)
  (.back up (.aH []) (M x++T)):=by
  intro x nd s hn;have hAl:=qC (M:=M x) hn;rw[hM]at hAl;have xc:=pH (A:=aC c (M x) nd) (l:=[]) (s:=s) (g:=none);have h1:=Dq (Γ:=Γ) (aC c (M x) nd) [] s none (.inl rfl)
  have he:hP (aC c (M x) nd) [] s none=M x++(tC c n nd++[.row 1 aq (s.map iN) none true false,.cells [.sl (n+(10+(c.af.length+c.af.length))) 0 0]]):=by
   rw[hP,hAl]
   conv=>lhs;rw[Aa,hM]
   simp
  rw[hAl,show n+(10+(c.af.length+c.af.length))+1=n+(11+(c.af.length+c.af.length)) by omega]at xc;rw[hAl]at h1;refine⟨tC c n nd++[.row 1 aq (s.map iN) none true false,.cells [.sl (n+(10+(c.af.length+c.af.length))) 0 0]],?_⟩;rw[<-he];generalize hP (aC c (M x) nd) [] s none=X at*;simp at xc h1;refine .a8 60 ?_;simp[xc];refine .aW 60 h1 ?_;simp
 intro f
 induction f with
 |zero=>
  intro x k nd l s hn hd hl hb hIx hk hE;rw[um]at hE;subst hE;rw[qS];exact stop x nd s hn
 |succ f ih=>
  intro x k nd l s hn hd hl hb hIx hk hE;rw[qS]
  by_cases h0:l=[]
  ·subst h0;rw[if_pos rfl];exact stop x nd s hn
  ·rw[um]at hE;have hE:=hE.resolve_left h0;rw[if_neg h0];have hpos:0<l.length:=sQ.2 h0;have hhr:=NR hpos;have ha:br l<c.af.length:=hl _ (hhr.mem_iff.1 (by simp))
   have hrl:∀y∈dR l,y<c.af.length:=fun y hy=>hl _ (hhr.mem_iff.1 (by simp[hy]))
   have hbm:(bK c).getD (br l) []∈bK c:=by
    rw[bq,aR (by rw[iG];exact ha)];exact bw _
   obtain⟨hb1,hb2⟩:=hbL _ hbm;have hok:=HU (br l) c.af.length ((bK c).getD (br l) []) nd (dR l) (br l::s) hb2 hn hd hrl;have hrest:=Ox l
   have h3:=fun M' hv'=>aiC (Γ:=Γ) c hc (M:=M') hv' L (br l) ha hb2 up ((bK c).getD (br l) []).length 0 (by omega) nd (dR l) (br l::s) hn hd (by omega) (by omega)
   obtain⟨T,hT⟩:=ih (F x (br l)) (k+1) _ _ _ hok.1 hok.2.1 hok.2.2.1 (by have:=hok.2.2.2;omega) (hI x k _ hIx ha) (by omega) hE;refine⟨T,?_⟩;have hAl:=qC (M:=M x) hn;have hAl2:=qC (M:=M (F x (br l))) hn;rw[hM]at hAl hAl2;have h3':=h3 (M (F x (br l))) (hv _);rw[fg,hM]at h3';have xc:=pH (A:=aC c (M x) nd) (l:=l) (s:=s) (g:=none);have h1:=Dq (Γ:=Γ) (aC c (M x) nd) l s none (.inl rfl);have h2:=aio (Γ:=Γ) (aC c (M x) nd) l s hpos (by omega);rw[hAl]at xc h1 h2;rw[show n+(10+(c.af.length+c.af.length))+1=n+(11+(c.af.length+c.af.length)) by omega]at xc h2;rw[show(dE l).getD (l.length-1) 0=br l from rfl,show(dE l).take (l.length-1)=dR l from rfl]at h2
   let T2:List Ob:=tC c n nd++[.row 1 aq ((dR l++br l::s).map iN) none true false,.cells [.sl (n+(10+(c.af.length+c.af.length))) 0 (dR l).length]]
   have he:∀y,hP (aC c (M y) nd) (dR l) (br l::s) none=M y++T2:=fun y=>by
    have hy:=qC (M:=M y) hn;rw[hM]at hy;rw[hP,hy]
    conv=>lhs;rw[Aa,hM]
    simp[T2]
   have hTv:∀m,cQ r m T2=true:=fun m=>by
    have hne:(n+(10+(c.af.length+c.af.length))==r)=false:=by simp;omega
    rw[show T2=tC c n nd++[.row 1 aq ((dR l++br l::s).map iN) none true false,.cells [.sl (n+(10+(c.af.length+c.af.length))) 0 (dR l).length]]from rfl,jH,ahb n hr];simp[hne]
   have hbody:=fun up hup=>hB x k (br l) T2 up hIx (by omega) ha hup hTv
   rw[<-he,<-he]at hbody
   have hlp:(0:Int)<l.length:=by omega
   have xw:=qR (A:=aC c (M (F x (br l))) nd) (l:=dR l) (s:=br l::s) (g:=none) (i:=n+(9+(c.af.length+c.af.length))) (by omega);have xb:=qR (A:=aC c (M (F x (br l))) nd) (l:=dR l) (s:=br l::s) (g:=none) (i:=n+8) (by omega);have w1:=I9 (M:=M (F x (br l))) hn;have w2:=ai9 (c:=c) (M:=M (F x (br l))) (nd:=nd);rw[hM]at w1 w2;rw[w1]at xw;rw[w2]at xb;have yb:=tQ (n:=n+6) (b:=bK c) (k:=br l) (by rw[iG];exact ha)
   have egd:(bK c)[br l]'(by rw[iG];exact ha)=(bK c).getD (br l) []:=by rw[bq,aR (by rw[iG];exact ha)];rfl
   rw[egd,show n+6+(3+br l)=n+(9+br l) by omega]at yb;have zl:=rY (n+6) (bK c);rw[iG]at zl;have zt:List.take c.af.length (gv (n+6) (bK c))=gv (n+6) (bK c):=cR (by rw[zl];exact aQ _);obtain⟨_,yb'⟩:=db.1 yb;generalize hRR:eM (br l) ((bK c).getD (br l) []) nd (dR l) (br l::s)=R at*;have hfold:(br l::qS (bK c) f R.1 R.2.1 R.2.2).foldl F x=(qS (bK c) f R.1 R.2.1 R.2.2).foldl F (F x (br l)):=rfl;rw[hfold];clear hfold he hTv h3 hok w1 w2;generalize hP (aC c (M x) nd) l s none=X at*;generalize hP (aC c (M x) nd) (dR l) (br l::s) none=Y at*;generalize hP (aC c (M (F x (br l))) nd) (dR l) (br l::s) none=Z at*;generalize hP (aC c (M (F x (br l))) R.1) R.2.1 R.2.2 none=W at*;generalize gv (n+6) (bK c)=E at*;generalize(bK c).getD (br l) []=bs at*
   generalize br l=a at*;refine .a8 60 ?_;simp[xc];refine .aW 60 h1 ?_;simp[hpos];refine .aW 8 h2 ?_;simp;refine Reach.aik (l:=L) (args:=[.int .i64 a]) (v:=.bool true) (h':=Z) (by simp) (hbody _ (fun m=>by simp[hup m];omega)) ?_;refine .a8 60 ?_;simp[xw,xb,yb,yb',zl,zt,ha];refine .inLoop ?_;simp at h3'⊢;refine .trans h3' ?_;refine .a8 60 ?_;simp;refine .aO ?_;simp at hT⊢;exact hT
theorem Ha(nd:List (List Nat))(N:Nat):∀(m i:Nat)(l:List Nat),i+m=N->(∀a∈l,a<N)->(∀a∈jv nd m i l,a<N)/\(jv nd m i l).length<=l.length+m
 |0,i,l,h,hl=>⟨hl,by simp[jv]⟩
 |m+1,i,l,h,hl=>by
  rw[jv]
  split
  ·have:=Ha nd N m (i+1) (fZ l i) (by omega) (fun a ha=>by
    rcases bz.1 ((y6 l i).mem_iff.1 ha)with rfl|h1
    ·omega
    ·exact hl a h1)
   rw[zd]at this;exact⟨this.1,by omega⟩
  ·have:=Ha nd N m (i+1) l (by omega) hl;exact⟨this.1,by omega⟩
theorem F6(pl:List (Bs×Nat)):∀(l:List Bs)(a:List Nat),a.Nodup->(fj pl l a).Nodup
 |[],a,h=>h
 |s::r,a,h=>by
  rw[fj]
  split
  ·exact F6 pl r a h
  ·refine F6 pl r _ ?_
   split
   ·exact h
   ·rename_i k _ hk;rw[ly];refine⟨h,by simp,fun x hx y hy=>?_⟩;simp only[cE]at hy;subst hy
    exact fun he=>hk (he▸hx)
theorem MD(pl:List (Bs×Nat)):∀(l:List Gt)(i:Nat)(nd b:List (List Nat)),(∀x∈nd,x.Nodup)->∀x∈(ga pl l i nd b).1,x.Nodup
 |[],_,_,_,h=>h
 |g::r,i,nd,b,h=>by
  rw[ga]
  refine MD pl r _ _ _ fun x hx=>?_
  rcases aT.1 hx with h1|h1
  ·exact h x h1
  ·rw[cE]at h1
   rw[h1];exact F6 pl _ _ (by simp)
theorem Zk(c:Ct):∀x∈eu c,x.Nodup:=MD _ _ _ _ _ (by simp)
theorem Ii(pl:List (Bs×Nat))(i:Nat):∀(l:List Bs)(a:List Nat)(b:List (List Nat)),∀x∈jW pl i l a b,∀y∈x,y=i\/∃z∈b,y∈z
 |[],_,_,x,hx,y,hy=>.inr ⟨x,hx,hy⟩
 |s::r,a,b,x,hx,y,hy=>by
  rw[jW]at hx
  split at hx
  ·exact Ii pl i r a b x hx y hy
  ·rename_i k _
   rcases Ii pl i r _ _ x hx y hy with h|⟨z,hz,hyz⟩
   ·exact .inl h
   ·split at hz
    ·exact .inr ⟨z,hz,hyz⟩
    ·rcases pT hz with h1|h1
     ·exact .inr ⟨z,h1,hyz⟩
     ·rw[h1]at hyz
      rcases aT.1 hyz with h2|h2
      ·by_cases hk:k<b.length
       ·rw[bq,aR hk]at h2;exact .inr ⟨_,bw hk,h2⟩
       ·rw[bq,fS (by omega)]at h2;simp at h2
      ·exact .inl (by simpa using h2)
theorem OJ(pl:List (Bs×Nat)):∀(l:List Gt)(i N B:Nat)(nd b:List (List Nat)),(∀g∈l,g.ins.length<2^10)->i+l.length=N->(∀x∈b,x.length<=B/\∀y∈x,y<N)->∀x∈(ga pl l i nd b).2,x.length<=B+l.length*2^10/\∀y∈x,y<N
 |[],_,_,_,_,_,_,_,h=>fun x hx=>by simpa using h x hx
 |g::r,i,N,B,nd,b,hg,hN,h=>fun x hx=>by
  rw[ga]at hx;simp only[bE]at hN⊢;have hb:=H_ pl i B g.ins [] b (fun x hx=>(h x hx).1)
  have:=OJ pl r (i+1) N (B+2^10) _ _ (fun y hy=>hg y (by simp[hy])) (by omega) (fun y hy=>by
   have:=hb y hy;have:=hg g (by simp);refine⟨by omega,fun z hz=>?_⟩
   rcases Ii pl i g.ins [] b y hy z hz with h1|⟨w,hw,hzw⟩
   ·omega
   ·exact(h w hw).2 z hzw) x hx
  rw[E7];exact⟨by omega,this.2⟩
theorem aen{c:Ct}(hc:cK c):∀x∈bK c,x.length<=2^21/\∀i∈x,i<c.af.length:=fun x hx=>by
 have hN:=hc.2.2.2.1
 have:=OJ (cu c) c.af 0 c.af.length 0 [] (List.replicate c.af.length []) (fun g hg=>(hc.2.2.2.2.1 g hg).2.1) (by omega) (fun y hy=>by
  rw[V_]at hy
  rw[hy.2];simp) x hx
 exact⟨by omega,this.2⟩
def px(c:Ct)(f:Nat):List Nat:=qS (bK c) f (eu c) (jv (eu c) c.af.length 0 []) []
def I_(c:Ct)(f:Nat):Prop:=um (bK c) f (eu c) (jv (eu c) c.af.length 0 []) []
theorem air(c:Ct){M:List Ob}(hw:bS M){nd:List (List Nat)}(hn:nd.length=c.af.length){m:Nat}(hm:M.length+(10+(c.af.length+c.af.length))<=m):cr m (aC c M nd)=true:=by
 have h1:=hw m (by omega);have h2:=ahn c (n:=M.length) (m:=m) (by omega);have h3:=Q3 (n:=M.length+6) (m:=m) (bK c) (by rw[iG];omega);have h4:=G2 (n:=M.length+6) (N:=c.af.length) (m:=nd.length) (q:=m) (by omega);rw[Aa,qd,tC,qd,qd,qd,qd,h1,h2,Hh,HC];simp[hF,h3,h4];omega
set_option maxRecDepth 8000 in
theorem ac4(c:Ct)(hc:cK c)(hd:(c.af.map (·.name)).Nodup){S:Type}(M:S->List Ob)(F:S->Nat->S)(n L r p:Nat)(hM:∀x,(M x).length=n)(hw:∀x,bS (M x))(hv:∀x,gV (M x))(hr:r<n)(hL:L<n)(hp:∀x,(M x)[p]? =some (.cells (AV.cells (cN c))))(I:S->Nat->Prop)(hI:∀x k a,I x k->a<c.af.length->I (F x a) (k+1))
 (hB:∀x k a T up,I x k->k<2^20->a<c.af.length->(∀m,up.all (iv r m)=true)->(∀m,cQ r m T=true)->AM.Reach Tryz.prog Γ ((jm.yl L).cfg [.int .i64 a] up (M x++T)) (.back up (.bool true) (M (F x a)++T)))
 (up:List Fr)(hup:∀m,up.all (iv r m)=true)(x:S)(hI0:I x 0)(f:Nat)(hf:f<=2^14)(hE:I_ c f):
 AM.Reach Tryz.prog Γ (.cl o7 [.cY L,.ptr p 0] up (M x)) (.back up (.aH []) (M ((px c f).foldl F x))):=by
 have hN:=hc.2.2.2.1;have hi:=Ha (eu c) c.af.length c.af.length 0 [] (by omega) (by simp);obtain⟨T,hT⟩:=aiu (Γ:=Γ) c hc (aen hc) M F n L r hM hv hr I hI hB up hup f x 0 (eu c) (jv (eu c) c.af.length 0 []) [] (vp c) (Zk c) hi.1 (by have:=hi.2;simp only[cS]at this;omega) hI0 (by omega) hE;have h14:=ahe (Γ:=Γ) c hc (hv x) (eu c) (vp c) L (.ptr p 0) up c.af.length 0 (by omega) [] (aQ _);have hwt:=ahf (Γ:=Γ) c hc hd (hw x) (hv x);have hpx:=hp x;have hMx:=hM x
 have key:AM.Reach Tryz.prog Γ (.cl o7 [.cY L,.ptr p 0] up (M x)) (.back up (.aH []) (M ((px c f).foldl F x)++T)):=by
  have e1:hQ (iM c (M x)) (eu c) (bK c)++([.cells [.sl (n+7) 0 c.af.length,.sl (n+8) 0 c.af.length]])=aC c (M x) (eu c):=by rw[aC,hM]
  have e2:aC c (M x) (eu c)++[.row 1 aq [] none true false,.cells [.sl (aC c (M x) (eu c)).length 0 0]]=hP (aC c (M x) (eu c)) [] [] none:=by simp[hP]
  have e3:=qC (M:=M x) (vp c)
  have e4:(hQ (iM c (M x)) (eu c) (bK c)).length=n+(9+(c.af.length+c.af.length)):=by rw[my,kN,iG,vp,hM];omega
  rw[kN]at hwt;rw[hM]at h14 hwt e3;refine .bt 60 XN ?_;simp[hpx];have e5:=air c (hw x) (vp c) (m:=n+(10+(c.af.length+c.af.length))) (by rw[hM];omega);have hpn:=aV hpx;rw[hM]at hpn
  have e7:(aC c (M x) (eu c))[p]? =some (.cells (AV.cells (cN c))):=by rw[Aa];exact fF hpx _
  rw[<-e1]at e2 e5 e7 h14 hT;refine .aW 5 hwt ?_;generalize hQ (iM c (M x)) (eu c) (bK c)=X at*;simp
  have et:(X++[Ob.cells [.sl (n+7) 0 c.af.length,.sl (n+8) 0 c.af.length],.row 1 n4 [] none true false,.row 1 jK [] none true false]).take (n+(10+(c.af.length+c.af.length)))=X++[.cells [.sl (n+7) 0 c.af.length,.sl (n+8) 0 c.af.length]]:=by
   rw[show n+(10+(c.af.length+c.af.length))=X.length+1 by omega,List.take_length_add_append];rfl
  refine .oj (n:=n+(10+(c.af.length+c.af.length))) et (by simp[hM]) (by simp;omega) e5 ?_
  have hXl:(X++[Ob.cells [.sl (n+7) 0 c.af.length,.sl (n+8) 0 c.af.length]]).length=n+(10+(c.af.length+c.af.length)):=by simp;omega
  rw[hXl]at e2;generalize X++[Ob.cells [.sl (n+7) 0 c.af.length,.sl (n+8) 0 c.af.length]]=A at*;refine .adI 60 aq (es:=[]) (by simp) rfl ?_;have e6:A++[Ob.row 1 aq [] none true false,.cells [.sl (n+(10+(c.af.length+c.af.length))) 0 0]]=hP A [] [] none:=e2
  have e8:=fun os=>fF e7 os
  simp[e8,hXl,cA];rw[e6];refine .inLoop ?_
  have e9:n+(10+(c.af.length+c.af.length))+1=n+(11+(c.af.length+c.af.length)):=by omega
  rw[e9,e4,hM];simp at h14⊢;refine .trans h14 ?_;refine .a8 60 ?_;simp;refine .inLoop ?_;unfold px;simp at hT⊢;exact hT
 have:=AM.Reach.leave key rfl (by
  rw[hM,<-hM ((px c f).foldl F x),List.take_left]
  exact hw _ _ (aQ _))
 rw[hM,<-hM ((px c f).foldl F x),List.take_left]at this;exact this
theorem PA(N:List Bs):∀l:List Bs,((jh N l).1=6/\(jh N l).2∉N)\/(jh N l=(0,[])/\∀s∈l,s∈N)
 |[]=>.inr ⟨rfl,fun s hs=>by cases hs⟩
 |a::l=>by
  rw[jh]
  by_cases h:a∈N
  ·rw[if_pos h]
   rcases PA N l with h1|⟨h1,h2⟩
   ·exact .inl h1
   ·refine .inr ⟨h1,fun s hs=>?_⟩
    rcases bz.1 hs with rfl|hs
    ·exact h
    ·exact h2 s hs
  ·rw[if_neg h];exact .inl ⟨rfl,h⟩
theorem P7(r:Int×Bs):∀l:List Gt,ke r l=r/\(∀g∈l,jj g=true)\/(ke r l).1=1
 |[]=>.inl ⟨rfl,fun g hg=>by cases hg⟩
 |g::l=>by
  rw[ke]
  by_cases h:jj g=true
  ·rw[if_pos h]
   rcases P7 r l with⟨h1,h2⟩|h1
   ·refine .inl ⟨h1,fun x hx=>?_⟩
    rcases bz.1 hx with rfl|hx
    ·exact h
    ·exact h2 x hx
   ·exact .inr h1
  ·rw[if_neg h];exact .inr rfl
theorem P0(r:Int×Bs):∀l:List Lt,lS r l=r/\(∀q∈l,mn q=true)\/(lS r l).1=1
 |[]=>.inl ⟨rfl,fun g hg=>by cases hg⟩
 |g::l=>by
  rw[lS]
  by_cases h:mn g=true
  ·rw[if_pos h]
   rcases P0 r l with⟨h1,h2⟩|h1
   ·refine .inl ⟨h1,fun x hx=>?_⟩
    rcases bz.1 hx with rfl|hx
    ·exact h
    ·exact h2 x hx
   ·exact .inr h1
  ·rw[if_neg h];exact .inr rfl
theorem Pe(r:Int×Bs):∀l:List Bs,pr r l=r/\(∀s∈l,fK s=true)\/(pr r l).1=4
 |[]=>.inl ⟨rfl,fun g hg=>by cases hg⟩
 |g::l=>by
  rw[pr]
  by_cases h:fK g=true
  ·rw[if_pos h]
   rcases Pe r l with⟨h1,h2⟩|h1
   ·refine .inl ⟨h1,fun x hx=>?_⟩
    rcases bz.1 hx with rfl|hx
    ·exact h
    ·exact h2 x hx
   ·exact .inr h1
  ·rw[if_neg h];exact .inr rfl
theorem RF(t:Option Bs)(r:Int×Bs):(t=none/\nN t r=r)\/(nN t r).1=5:=by
 cases t with
 |none=>exact .inl ⟨rfl,rfl⟩
 |some s=>exact .inr rfl
structure e_(c:Ct):Prop where
 mS:gf c=false
 names:∀s∈mB c,fK s=true
 bn:je (aD c)=none
 outs:je c.aw=none
 init:∀q∈c.ah,mn q=true
 af:∀g∈c.af,jj g=true
 used:∀s∈fm c,s∈aD c
theorem aeb(c:Ct):((er c).1≠0/\((er c).1=6->(er c).2∉aD c))\/(er c=(0,[])/\e_ c):=by
 unfold er
 cases hl:gf c with
 |true=>exact .inl ⟨by simp,by simp⟩
 |false=>
  rw[if_neg (by simp)]
  rcases Pe (nN (je (aD c)) (nN (je c.aw) (lS (ke (jh (aD c) (fm c)) c.af) c.ah))) (mB c)with⟨e1,h1⟩|h1
  ·rw[e1]
   rcases RF (je (aD c)) (nN (je c.aw) (lS (ke (jh (aD c) (fm c)) c.af) c.ah))with⟨h2,e2⟩|h2
   ·rw[e2]
    rcases RF (je c.aw) (lS (ke (jh (aD c) (fm c)) c.af) c.ah)with⟨h3,e3⟩|h3
    ·rw[e3]
     rcases P0 (ke (jh (aD c) (fm c)) c.af) c.ah with⟨e4,h4⟩|h4
     ·rw[e4]
      rcases P7 (jh (aD c) (fm c)) c.af with⟨e5,h5⟩|h5
      ·rw[e5]
       rcases PA (aD c) (fm c)with⟨h6,h7⟩|⟨e6,h6⟩
       ·exact .inl ⟨by rw[h6];decide,fun _=>h7⟩
       ·exact .inr ⟨e6,⟨hl,h1,h2,h3,h4,h5,h6⟩⟩
      ·exact .inl ⟨by rw[h5];decide,fun h=>by rw[h5]at h;cases h⟩
     ·exact .inl ⟨by rw[h4];decide,fun h=>by rw[h4]at h;cases h⟩
    ·exact .inl ⟨by rw[h3];decide,fun h=>by rw[h3]at h;cases h⟩
   ·exact .inl ⟨by rw[h2];decide,fun h=>by rw[h2]at h;cases h⟩
  ·exact .inl ⟨by rw[h1];decide,fun h=>by rw[h1]at h;cases h⟩
theorem FG:∀(l seen:List Bs),mw seen l=none->l.Nodup/\∀s∈l,s∉seen
 |[],seen,_=>⟨List.nodup_nil,fun s hs=>by cases hs⟩
 |a::l,seen,h=>by
  rw[mw]at h
  by_cases hm:a∈seen
  ·rw[if_pos hm]at h;cases h
  ·rw[if_neg hm]at h;obtain⟨h1,h2⟩:=FG l _ h;refine⟨lA.2 ⟨fun ha=>h2 a ha (by simp),h1⟩,fun s hs=>?_⟩
   rcases bz.1 hs with rfl|hs
   ·exact hm
   ·exact fun hs2=>h2 s hs (by simp[hs2])
theorem e_.nodup{c:Ct}(h:e_ c):(aD c).Nodup:=(FG _ _ h.bn).1
def GtB(g:Gt):Prop:=g.name.length<2^40/\g.ins.length<2^40/\g.rows.length<2^40/\(∀s∈g.ins,s.length<2^40)/\∀s∈g.rows,s.length<2^40
def kF(c:Ct):Prop:=c.an.length<2^40/\c.aw.length<2^40/\c.ah.length<2^40/\c.af.length<2^40/\(∀g∈c.af,GtB g)/\
 (∀s∈c.an,s.length<2^40)/\(∀s∈c.aw,s.length<2^40)/\∀q∈c.ah,q.name.length<2^40/\q.next.length<2^40
theorem RB{α:Type}{p:α->Bool}:∀{l:List α},bH p l=false->∀x∈l,p x=false
 |[],_,x,hx=>by cases hx
 |a::l,h,x,hx=>by
  rw[lE,kJ]at h
  rcases bz.1 hx with rfl|hx
  ·exact h.1
  ·exact RB h.2 x hx
theorem MK{c:Ct}(hb:kF c)(hl:gf c=false):cK c:=by
 simp only[gf,kJ,iD]at hl;obtain⟨h1,h2,h3⟩:=hl;obtain⟨b1,b2,b3,b4,b5,b6⟩:=hb;refine⟨by omega,by omega,by omega,by omega,fun g hg=>?_,b6⟩;obtain⟨g1,g2,g3,g4⟩:=b5 g hg;have:=RB h1 g hg;simp only[ue,kJ,iD]at this;exact⟨g1,by omega,by omega,g4⟩
set_option maxRecDepth 8000 in
theorem Hn(hΓ:jz Γ)(c:Ct)(hb:kF c):aS Tryz.prog Γ n8 [cN c] (ur (er c)):=by
 cases hl:gf c with
 |false=>exact agT hΓ c (MK hb hl)
 |true=>
  have b0:=hb.1;have b1:=hb.2.1;have b3:=hb.2.2.1;have b4:=hb.2.2.2.1;have hC:=LP (Γ:=Γ) (fl:=false) (Ql c.af) c.hG (by omega) (h:=Kx c) trivial;have e0:((c.an.length:Int)+c.ah.length+c.af.length<=200)=(c.an.length+c.ah.length+c.af.length<=200):=propext (by omega);have e1:((c.aw.length:Int)<=200)=(c.aw.length<=200):=propext (by omega);refine .run 160 MB (by simp) ?_;unfold er
  by_cases h1:c.an.length+c.ah.length+c.af.length<=200
  ·by_cases h2:c.aw.length<=200
   ·simp(disch:=omega) [e0,e1,h1,h2];refine .aW 160 hC ?_
    have h3:bH ue c.af=true:=by
     simp only[gf,ff,aZ]at hl
     rcases hl with h|h|h
     ·exact h
     ·omega
     ·omega
    rw[h3];simp;refine .mE 160 (by simp) (m_ 8 []) ?_;simp;refine .dr 90 ?_;simp;exact .back (by simp[hl])
   ·simp(disch:=omega) [e0,e1,h1,h2];refine .mE 160 (by simp) (m_ 8 []) ?_;simp;refine .dr 90 ?_;simp;exact .back (by simp[hl])
  ·simp(disch:=omega) [e0,e1,h1];refine .mE 160 (by simp) (m_ 8 []) ?_;simp;refine .dr 90 ?_;simp;exact .back (by simp[hl])
def lN(c:Ct):Bool:=decide ((er c).1=0)
theorem QH(hΓ:jz Γ)(c:Ct)(hb:kF c):aS Tryz.prog Γ Bt [cN c] (.bool (lN c)):=by
 have hC:=Hn hΓ c hb;unfold lN;generalize er c=r at*;obtain⟨e,s⟩:=r;refine .run 60 YH (by simp) ?_;simp;refine .call 60 (by simp) hC ?_;simp;exact .back (by simp)
theorem zn{c:Ct}(h:lN c=true):e_ c/\er c=(0,[]):=by
 rcases aeb c with⟨h1,_⟩|⟨h1,h2⟩
 ·exact absurd (A4 h) h1
 ·exact⟨h2,h1⟩
theorem rP{c:Ct}(hb:kF c)(h:lN c=true):cK c:=MK hb (zn h).1.mS
theorem tn{c:Ct}(h:lN c=true):(c.af.map (·.name)).Nodup:=by
 have:=(zn h).1.nodup;rw[aD,ly]at this;exact this.2.1
def kf(c:Ct)(out:List Nat):List (Bs×Nat):=(cu c).filter fun x=>!out.contains x.2
theorem Iq{c:Ct}{x:Bs×Nat}(hx:x∈cu c):∃h:x.2<c.af.length,x.1=c.af[x.2].name:=by
 obtain⟨j,hj,rfl⟩:=gC hx;rw[vT]at hj;rw[zJ c j hj];exact⟨hj,rfl⟩
theorem CB{c:Ct}(hd:(c.af.map (·.name)).Nodup){i j:Nat}(hi:i<c.af.length)(hj:j<c.af.length)(h:c.af[i].name=c.af[j].name):i=j:=by
 have h1:(c.af.map (·.name))[i]'(by simpa using hi)=(c.af.map (·.name))[j]'(by simpa using hj):=by simpa using h
 exact(E8 hd).1 h1
theorem abO{c:Ct}(hd:(c.af.map (·.name)).Nodup)(out:List Nat){a:Nat}(ha:a<c.af.length):pI c.af[a].name (kf c out)=kf c (out++[a]):=by
 unfold pI kf;rw[List.filter_filter];apply List.filter_congr;intro x hx;obtain⟨h1,h2⟩:=Iq hx;have e:(x.1=c.af[a].name)↔x.2=a:=⟨fun h=>CB hd h1 ha (by rw[<-h2,h]),fun h=>by rw[h2];simp[h]⟩;rw[fT];simp only[ay,aZ,j7,xg,iD,aT,cE,not_or,e];exact⟨fun h=>⟨h.2,h.1⟩,fun h=>⟨h.2,h.1⟩⟩
theorem aak{c:Ct}(hd:(c.af.map (·.name)).Nodup)(out:List Nat):((kf c out).map (·.1)).Nodup:=by
 have h1:((cu c).map (·.1)).Nodup:=by rw[adH];exact hd
 exact h1.sublist ((List.filter_sublist).map _)
theorem Oy(c:Ct):kf c []=cu c:=by simp[kf]
theorem OG{c:Ct}(hd:(c.af.map (·.name)).Nodup)(out:List Nat){i:Nat}(hi:i<c.af.length):getM c.af[i].name (kf c out)=if i∈out then none else some i:=by
 have key:∀l:List (Bs×Nat),(∀x∈l,x∈cu c)->getM c.af[i].name (l.filter fun x=>!out.contains x.2)=if i∈out then none else if(c.af[i].name,i)∈l then some i else none:=by
  intro l
  induction l with
  |nil=>intro _;simp[getM]
  |cons x l ih=>
   intro hl;obtain⟨h1,h2⟩:=Iq (hl x (by simp))
   have ih:=ih fun y hy=>hl y (by simp[hy])
   by_cases hx:x.2=i
   ·have hx1:x=(c.af[i].name,i):=by
     obtain⟨a,b⟩:=x;simp only at hx h2;subst hx;rw[h2]
    by_cases ho:i∈out
    ·rw[rD,if_neg (by rw[hx1];simpa using ho),ih,if_pos ho,if_pos ho]
    ·rw[rD,if_pos (by rw[hx1];simpa using ho),if_neg ho,hx1];simp[getM]
   ·have hne:¬c.af[i].name=x.1:=fun h=>hx (CB hd h1 hi (by rw[<-h2,h])).symm.symm
    have hm:((c.af[i].name,i)∈x::l)↔(c.af[i].name,i)∈l:=by
     rw[bz];exact⟨fun h=>h.resolve_left fun h=>hx (by rw[<-h]),.inr⟩
    rw[rD]
    split
    ·rw[getM,if_neg hne,ih];simp only[hm]
    ·rw[ih];simp only[hm]
 have hm:(c.af[i].name,i)∈cu c:=by
  have:=bw (l:=cu c) (n:=i) (by rw[vT];exact hi);rwa[zJ c i hi]at this
 rw[kf,key _ fun x hx=>hx,if_pos hm]
abbrev lpS:Ob:=.loop .ready .none o8 [U,.ptr 0 0,.sl 1 0 0,.sl 2 0 0,.ptr 3 0,.ptr 7 0,U,U,U,U,U,U,U,U,U,U,U,U,U,U,U,U,U,U,U,U,U,U,U,U,U,U,U,U,U,U,U,U,U,U,U,U,U,U,U,U,U,U,U,U,U,U,U,U] [19] (.ae Jn) KZ
abbrev lpE:Ob:=.loop .exhausted .none o8 [U,.ptr 0 0,.sl 1 0 0,.sl 2 0 0,.ptr 3 0,.ptr 7 0,U,U,U,U,U,U,U,U,U,U,U,U,U,U,U,U,U,U,U,U,U,U,U,U,U,U,U,U,U,U,U,U,U,U,U,U,U,U,U,U,U,U,U,U,U,U,U,U] [19] (.ae Jn) KZ
abbrev hS(c:Ct)(out:List Nat):List Ob:=[.cells (AV.cells (cN c)),.row 1 aq [] none true false,.row 1 au [] none true false,.cells [.sl 4 0 out.length],.row 1 aq (out.map iN) none true false,.cells (AV.cells (cN c)),.map ((kf c out).map iW) true,.cells [.mp 6],.cells (AV.cells (cN c)),.bD true,lpS]
set_option maxRecDepth 8000 in
theorem ahW(c:Ct)(hd:(c.af.map (·.name)).Nodup)(out:List Nat)(a:Nat)(T:List Ob)(up:List Fr)(ho:out.length<2^20)(ha:a<c.af.length)(hup:∀m,up.all (iv 4 m)=true)(hT:∀m,cQ 4 m T=true):
 AM.Reach Tryz.prog Γ ((jm.yl 10).cfg [.int .i64 a] up (hS c out++T)) (.back up (.bool true) (hS c (out++[a])++T)):=by
 have q2:=bR (c.hG.of ha);have hdl:=Oj (E:=.sc .str) (e:=AV.str) sa (fun n:Nat=>AV.int .i64 n) c.af[a].name (aak hd out);rw[abO hd out ha]at hdl
 have hle:(out.length+1)*8<=140737488355328:=by omega
 have hvp:=fun m=>qB 4 m (kf c out)
 simp[jm.cfg];refine .a8 13 ?_;simp(disch:=omega) [hle];refine .trans (.oF [19,20,21,22,23] _) ?_;simp[oA];refine .Ib (i:=4) rfl (by simp) (hup _) (by simp[hT,hvp]) ?_;refine .a8 60 ?_;simp[q2,ha,hdl,isKey,bN,b9]
theorem af3(c:Ct)(out:List Nat):bS (hS c out):=fun m hm=>by
 have h1:=pq m (kf c out);simp at hm
 simp[h1];omega
theorem agN(c:Ct)(out:List Nat):gV (hS c out):=fun i m hi=>by
 have h1:=qB i m (kf c out);simp at hi
 simp[h1];omega
def j9(out:List Nat):List Gt->Nat->List Bs
 |[],_=>[]
 |g::r,i=>if i∈out then j9 out r (i+1)else g.name::j9 out r (i+1)
set_option maxRecDepth 8000 in
theorem aft(c:Ct)(hc:cK c)(hd:(c.af.map (·.name)).Nodup)(out:List Nat):∀n i:Nat,i+n=c.af.length->∀l:List Bs,l.length<=i->
 aA Tryz.prog Γ (ydp (.ptr 3 0) (.ptr 7 0) (.sl 11 0 l.length) (.list false c.kG (c.af.map cW)) (.int .i64 c.af.length) (.int .i64 i)
  [.cells (AV.cells (cN c)),.row 1 aq [] none true false,.row 1 au [] none true false,.cells [.sl 4 0 out.length],.row 1 aq (out.map iN) none true false,.cells (AV.cells (cN c)),.map ((kf c out).map iW) true,.cells [.mp 6],.cells (AV.cells (cN c)),.bD true,lpE,.row 1 au (l.map .str) none true false] ⟨[.mark 9],.norm,0,[]⟩)
  (.ret (.aH [.own 1 aq (out.map iN),.own 1 au ((l++j9 out (c.af.drop i) i).map .str)])):=by
 have hN:=hc.2.2.2.1
 have hbp:=fun m=>pq m (kf c out)
 have hvp:=fun i m=>qB i m (kf c out)
 intro n
 induction n with
 |zero=>
  intro i hi l hl
  have q1:¬i<c.af.length:=by omega
  rw[bA (by omega),j9,ee];refine .go 60 ?_;simp[q1];exact .back (by simp)
 |succ n ih=>
  intro i hi l hl
  have q1:i<c.af.length:=by omega
  have q2:=bR (c.hG.of q1);have hfi:=y9 (E:=.sc .str) (e:=AV.str) sa (fun n:Nat=>AV.int .i64 n) c.af[i].name (kf c out);rw[OG hd out q1]at hfi;rw[bJ q1,j9]
  by_cases h0:i∈out
  ·have hh:=ih (i+1) (by omega) l (by omega);rw[if_pos h0]at hfi⊢;refine .go 90 ?_;simp(disch:=omega) [q1,q2,hfi,isKey,bN,b9];refine .aO ?_;simp;refine .drop 12 rfl (by simp) (by simp) (by simp[hbp]) ?_;simp at hh⊢;exact hh
  ·have hh:=ih (i+1) (by omega) (l++[c.af[i].name]) (by simp;omega)
   have hle:((l.length:Int)+1)*16<=140737488355328:=by omega
   rw[if_neg h0]at hfi⊢;refine .go 90 ?_;simp(disch:=omega) [q1,q2,hfi,isKey,bN,b9,hle];refine .aO ?_;simp;refine .drop 12 rfl (by simp) (by simp) (by simp[hbp]) ?_;refine .reset (i:=11) rfl (by simp) (by simp) (by simp[hvp]) ?_;simp at hh⊢;exact hh
set_option maxRecDepth 8000 in
theorem ag6(hΓ:jz Γ)(c:Ct)(hb:kF c)(hr:lN c=true)(f:Nat)(hf:f<=2^14)(hE:I_ c f)(hl:(px c f).length<2^20):aS Tryz.prog Γ o8 [cN c] (.aH [.own 1 aq ((px c f).map iN),.own 1 au ((j9 (px c f) c.af 0).map .str)]):=by
 have hc:=rP hb hr;have hd:=tn hr;have hR:=QH hΓ c hb;rw[hr]at hR
 have hpl:=fun h hw up=>P3 (Γ:=Γ) c hc (tn hr) (h:=h) hw up
 have hfold:∀(l out:List Nat),l.foldl (fun x a=>x++[a]) out=out++l:=by
  intro l
  induction l with
  |nil=>intro out;simp
  |cons a l ih=>intro out;rw[sM,ih];simp
 have hcm:=fun up hup=>ac4 (Γ:=Γ) c hc hd (hS c) (fun x a=>x++[a]) 11 10 4 8 (fun _=>rfl) (af3 c) (agN c) (by omega) (by omega) (fun _=>rfl) (fun x k=>x.length=k) (fun x k a h _=>by simp[h]) (fun x k a T up h hk ha hup hT=>ahW c hd x a T up (by omega) ha hup hT) up hup [] rfl f hf hE
 rw[hfold,j3]at hcm;have h1:=aft (Γ:=Γ) c hc hd (px c f) c.af.length 0 (by omega) [] (by simp);refine .run 60 L8 (by simp) ?_;simp;refine .call 60 (by simp) hR ?_;simp;refine .aW 60 (hpl _ ?_) ?_
 ·intro m hm;simp at hm
  simp;omega
 simp;refine .go 60 ?_;simp;refine .enter 60 Yl ?_;simp;rw[<-Oy c];refine .reach (hcm _ ?_) (.go 60 ?_)
 ·simp
 simp;refine .inLoop ?_;simp at h1⊢;exact h1
theorem afA(hΓ:jz Γ)(c:Ct)(hb:kF c)(hr:lN c=false):aS Tryz.prog Γ o8 [cN c] (.aH [.own 1 aq [],.own 1 au []]):=by
 have hR:=QH hΓ c hb;rw[hr]at hR;refine .run 60 L8 (by simp) ?_;simp;refine .call 60 (by simp) hR ?_;simp;exact .back (by simp)
end Go.Proofs.YtchjijfjidlpjaaGreatDoor
namespace Go.Proofs.YtchjijfjidlpjaaGreatDoor
open Go.AM Go.Proofs
def gX(c:Ct)(i j:Nat):Bool:=match c.af[i]?,c.af[j]? with
 |some g,some h=>g.ins.contains h.name
 |_,_=>false
theorem zV{c:Ct}{i j:Nat}(h:gX c i j=true):i<c.af.length/\j<c.af.length:=by
 unfold gX at h
 split at h
 ·rename_i g h' h1 h2;exact⟨(db.1 h1).1,(db.1 h2).1⟩
 ·cases h
theorem zY{c:Ct}{i j:Nat}(hi:i<c.af.length)(hj:j<c.af.length):gX c i j=true↔c.af[j].name∈c.af[i].ins:=by
 simp[gX,hi,hj]
theorem PL{K V:Type}[DecidableEq K]{k:K}{v:V}:∀{l:List (K×V)},getM k l=some v->(k,v)∈l
 |[],h=>by cases h
 |(a,u)::l,h=>by
  rw[getM]at h
  split at h
  ·rename_i h1;cases h;subst h1;simp
  ·exact dw _ (PL h)
theorem Rh{c:Ct}(hd:(c.af.map (·.name)).Nodup){s:Bs}{k:Nat}:getM s (cu c)=some k↔∃h:k<c.af.length,c.af[k].name=s:=by
 constructor
 ·intro h;obtain⟨h1,h2⟩:=Iq (PL h);exact⟨h1,h2.symm⟩
 ·rintro⟨h,rfl⟩
  have:=OG hd [] h;rw[Oy]at this;simpa using this
theorem BY(pl:List (Bs×Nat))(x:Nat):∀(l:List Bs)(a:List Nat),x∈fj pl l a↔x∈a\/∃s∈l,getM s pl=some x
 |[],a=>by simp[fj]
 |s::r,a=>by
  rw[fj]
  split
  ·rename_i h0;rw[BY pl x r a];simp[h0]
  ·rename_i k h0;rw[BY pl x r]
   have hk:(x∈if k∈a then a else a++[k])↔x∈a\/x=k:=by
    split
    ·rename_i hm;exact⟨.inl,fun h=>h.elim id fun h=>h▸hm⟩
    ·simp
   rw[hk];simp only[bz,exists_eq_or_imp,h0,ak];constructor
   ·rintro((h|h)|h)
    ·exact .inl h
    ·exact .inr (.inl h.symm)
    ·exact .inr (.inr h)
   ·rintro(h|h|h)
    ·exact .inl (.inl h)
    ·exact .inl (.inr h.symm)
    ·exact .inr h
theorem BX(pl:List (Bs×Nat)):∀(l:List Gt)(i:Nat)(nd b:List (List Nat)),(ga pl l i nd b).1=nd++l.map fun g=>fj pl g.ins []
 |[],_,_,_=>by simp[ga]
 |g::r,i,nd,b=>by rw[ga,BX pl r];simp
theorem y8{c:Ct}(hd:(c.af.map (·.name)).Nodup){i:Nat}(hi:i<c.af.length)(x:Nat):x∈(eu c).getD i []↔gX c i x=true:=by
 have e:(eu c).getD i []=fj (cu c) c.af[i].ins []:=by
  rw[eu,BX];simp[hi]
 rw[e,BY];constructor
 ·rintro(h|⟨s,hs,h⟩)
  ·cases h
  ·obtain⟨h1,h2⟩:=(Rh hd).1 h;exact(zY hi h1).2 (h2▸hs)
 ·intro h;obtain⟨_,h1⟩:=zV h;exact .inr ⟨_,(zY hi h1).1 h,(Rh hd).2 ⟨h1,rfl⟩⟩
theorem CN(pl:List (Bs×Nat))(i k:Nat):∀(l:List Bs)(a:List Nat)(b:List (List Nat)),k<b.length->(jW pl i l a b).getD k []=if k∈fj pl l a/\k∉a then b.getD k []++[i]else b.getD k []
 |[],a,b,hk=>by
  rw[jW,fj,if_neg (fun h=>h.2 h.1)]
 |s::r,a,b,hk=>by
  rw[jW,fj]
  split
  ·exact CN pl i k r a b hk
  ·rename_i k0 h0
   by_cases hm:k0∈a
   ·simp only[if_pos hm];exact CN pl i k r a b hk
   ·simp only[if_neg hm];rw[CN pl i k r _ _ (by simpa using hk)]
    have hset:(b.set k0 (b.getD k0 []++[i])).getD k []=if k0=k then b.getD k []++[i]else b.getD k []:=by
     simp only[bq,pX]
     by_cases h1:k0=k
     ·subst h1;simp[hk]
     ·simp[h1]
    rw[hset]
    by_cases h1:k0=k
    ·subst h1;have hin:k0∈fj pl r (a++[k0]):=(BY pl k0 r _).2 (.inl (by simp));rw[if_neg (by simp),if_pos rfl,if_pos ⟨hin,hm⟩]
    ·have hiff:(k∈fj pl r (a++[k0])/\k∉a++[k0])↔(k∈fj pl r (a++[k0])/\k∉a):=by
      simp only[aT,cE,not_or];exact⟨fun h=>⟨h.1,h.2.1⟩,fun h=>⟨h.1,h.2,fun h2=>h1 h2.symm⟩⟩
     rw[if_neg h1];simp only[hiff]
def nJ(pl:List (Bs×Nat))(k:Nat):List Gt->Nat->List Nat
 |[],_=>[]
 |g::r,i=>if k∈fj pl g.ins []then i::nJ pl k r (i+1)else nJ pl k r (i+1)
theorem N4(pl:List (Bs×Nat))(k:Nat):∀(l:List Gt)(i:Nat)(nd b:List (List Nat)),k<b.length->(ga pl l i nd b).2.getD k []=b.getD k []++nJ pl k l i
 |[],_,_,_,_=>by simp[ga,nJ]
 |g::r,i,nd,b,hk=>by
  rw[ga,N4 pl k r _ _ _ (by rw[zF];exact hk),CN pl i k g.ins [] b hk,nJ]
  split
  ·rename_i h
   rw[if_pos h.1];simp
  ·rename_i h;rw[if_neg fun h1=>h ⟨h1,by simp⟩]
theorem HP(pl:List (Bs×Nat))(k j:Nat):∀(l:List Gt)(i:Nat),j∈nJ pl k l i↔∃t,∃h:t<l.length,j=i+t/\k∈fj pl l[t].ins []
 |[],i=>by simp[nJ]
 |g::r,i=>by
  have ih:=HP pl k j r (i+1)
  have hs:(∃t,∃h:t<(g::r).length,j=i+t/\k∈fj pl (g::r)[t].ins [])↔(j=i/\k∈fj pl g.ins [])\/∃t,∃h:t<r.length,j=i+1+t/\k∈fj pl r[t].ins []:=by
   constructor
   ·rintro⟨t,h,e,hm⟩
    cases t with
    |zero=>exact .inl ⟨e,hm⟩
    |succ t=>exact .inr ⟨t,by simpa using h,by omega,hm⟩
   ·rintro(⟨e,hm⟩|⟨t,h,e,hm⟩)
    ·exact⟨0,by simp,e,hm⟩
    ·exact⟨t+1,by simpa using h,by omega,hm⟩
  rw[hs,nJ]
  split
  ·rename_i h0;simp only[bz,ih,h0,pR]
  ·rename_i h0;simp only[ih,h0,and_false,false_or]
theorem Gx(pl:List (Bs×Nat))(k:Nat):∀(l:List Gt)(i:Nat),(nJ pl k l i).Nodup
 |[],i=>by simp[nJ]
 |g::r,i=>by
  rw[nJ]
  split
  ·rw[lA];refine⟨fun h=>?_,Gx pl k r (i+1)⟩;obtain⟨t,_,e,_⟩:=(HP pl k i r (i+1)).1 h;omega
  ·exact Gx pl k r (i+1)
theorem QN(c:Ct){k:Nat}(hk:k<c.af.length):(bK c).getD k []=nJ (cu c) k c.af 0:=by
 rw[bK,N4 _ _ _ _ _ _ (by simpa using hk)];simp[hk]
theorem Cn{c:Ct}(hd:(c.af.map (·.name)).Nodup){k:Nat}(hk:k<c.af.length)(i:Nat):i∈(bK c).getD k []↔gX c i k=true:=by
 rw[QN c hk,HP];constructor
 ·rintro⟨t,ht,e,hm⟩
  have:i=t:=by omega
  subst this;rw[<-y8 hd ht,eu,BX];simpa[ht]using hm
 ·intro h;obtain⟨hi,_⟩:=zV h;refine⟨i,hi,by omega,?_⟩;rw[<-y8 hd hi,eu,BX]at h;simpa[hi]using h
theorem abr(c:Ct){k:Nat}(hk:k<c.af.length):((bK c).getD k []).Nodup:=by rw[QN c hk];exact Gx _ _ _ _
def kz(c:Ct)(done:List Nat)(k:Nat):Bool:=!done.contains k&&(List.range c.af.length).all fun x=>!gX c k x||done.contains x
theorem jJ{c:Ct}{done:List Nat}{k:Nat}:kz c done k=true↔k∉done/\∀x,gX c k x=true->x∈done:=by
 simp only[kz,ay,j7,xg,iD,dU,dJ,ff,aZ];constructor
 ·rintro⟨h1,h2⟩
  refine⟨h1,fun x hx=>?_⟩
  rcases h2 x (zV hx).2 with h|h
  ·rw[h]at hx;cases hx
  ·exact h
 ·rintro⟨h1,h2⟩
  refine⟨h1,fun x _=>?_⟩
  cases hx:gX c k x with
  |false=>exact .inl rfl
  |true=>exact .inr (h2 x hx)
def lP(c:Ct)(done:List Nat):Option Nat:=(List.range c.af.length).find? (kz c done)
def iK(c:Ct):Nat->List Nat->List Nat
 |0,_=>[]
 |f+1,done=>match lP c done with
  |none=>[]
  |some k=>k::iK c f (done++[k])
def bm(c:Ct):List Nat:=iK c c.af.length []
theorem M7{c:Ct}{done:List Nat}{a:Nat}(ha:a<c.af.length)(h1:kz c done a=true)(h2:∀j<a,kz c done j=false):lP c done=some a:=by
 rw[lP,List.find?_range_eq_some];exact⟨h1,by simpa using ha,fun j hj=>by simp[h2 j hj]⟩
theorem aa7{c:Ct}{done:List Nat}(h:∀a<c.af.length,kz c done a=false):lP c done=none:=by
 rw[lP,List.find?_eq_none];intro x hx
 rw[h x (by simpa using hx)];simp
theorem OY{c:Ct}{done:List Nat}{a:Nat}(h:lP c done=some a):a<c.af.length/\kz c done a=true/\∀j<a,kz c done j=false:=by
 rw[lP,List.find?_range_eq_some]at h;exact⟨by simpa using h.2.1,h.1,fun j hj=>by simpa using h.2.2 j hj⟩
theorem adZ{c:Ct}{done:List Nat}(h:lP c done=none){a:Nat}(ha:a<c.af.length):kz c done a=false:=by
 rw[lP,List.find?_eq_none]at h;simpa using h a (by simpa using ha)
structure Inv(c:Ct)(done:List Nat)(nd:List (List Nat))(l:List Nat):Prop where
 len:nd.length=c.af.length
 VU:∀i<c.af.length,∀x,x∈nd.getD i []↔gX c i x=true/\x∉done
 ls:∀i,i∈l↔i<c.af.length/\kz c done i=true
 AJ:l.Nodup
 heap:lU l.length l
 Vi:done.Nodup
 lt:∀x∈done,x<c.af.length
 all:∀i∈done,∀x,gX c i x=true->x∈done
structure uv(c:Ct)(done:List Nat)(a:Nat)(r:List Nat)(nd:List (List Nat))(l:List Nat):Prop where
 len:nd.length=c.af.length
 l8:∀i<c.af.length,i∈r->∀x,x∈nd.getD i []↔gX c i x=true/\x∉done
 new:∀i<c.af.length,i∉r->∀x,x∈nd.getD i []↔gX c i x=true/\x∉done++[a]
 ls:∀i,i∈l↔i<c.af.length/\i∉r/\kz c (done++[a]) i=true
 AJ:l.Nodup
 heap:lU l.length l
theorem adR(a:Nat)(l:List Nat)(x:Nat):x∈dG a l↔x∈l/\x≠a:=by simp[dG]
theorem uv.run{c:Ct}{done:List Nat}{a:Nat}(ha:a∉done)(haa:∀x,gX c a x=true->x∈done)(hall:∀i∈done,∀x,gX c i x=true->x∈done):∀(r:List Nat)(nd:List (List Nat))(l s:List Nat),r.Nodup->(∀i∈r,gX c i a=true)->uv c done a r nd l->
 uv c done a [] (eM a r nd l s).1 (eM a r nd l s).2.1
 |[],nd,l,s,_,_,h=>h
 |i::r,nd,l,s,hr,hW,h=>by
  have hi:=(zV (hW i (by simp))).1;rw[lA]at hr
  have hil:i∉l:=fun hm=>((h.ls i).1 hm).2.1 (by simp)
  have hid:i∉done:=fun hm=>ha (hall i hm a (hW i (by simp)))
  have hia:i≠a:=fun he=>ha (haa a (he▸hW i (by simp)))
  have hg:∀j,(nd.set i (dG a (nd.getD i []))).getD j []=if i=j then dG a (nd.getD i [])else nd.getD j []:=fun j=>by
   simp only[bq,pX]
   by_cases h1:i=j
   ·subst h1;simp[h.len,hi]
   ·simp[h1]
  have hmem:∀x,x∈dG a (nd.getD i [])↔gX c i x=true/\x∉done++[a]:=fun x=>by
   rw[adR,h.l8 i hi (by simp) x];simp only[aT,cE,not_or];exact⟨fun h=>⟨h.1.1,h.1.2,h.2⟩,fun h=>⟨⟨h.1,h.2.1⟩,h.2.2⟩⟩
  have hold:∀j<c.af.length,j∈r->∀x,x∈(nd.set i (dG a (nd.getD i []))).getD j []↔gX c j x=true/\x∉done:=fun j hj hjr x=>by
   have hne:¬i=j:=fun he=>hr.1 (he▸hjr)
   rw[hg,if_neg hne];exact h.l8 j hj (by simp[hjr]) x
  have hnew:∀j<c.af.length,j∉r->∀x,x∈(nd.set i (dG a (nd.getD i []))).getD j []↔gX c j x=true/\x∉done++[a]:=fun j hj hjr x=>by
   rw[hg]
   by_cases he:i=j
   ·subst he;rw[if_pos rfl];exact hmem x
   ·rw[if_neg he];exact h.new j hj (by simp only[bz,not_or];exact⟨fun h=>he h.symm,hjr⟩) x
  rw[eM]
  split
  ·rename_i h0;refine uv.run ha haa hall r _ _ _ hr.2 (fun j hj=>hW j (by simp[hj])) ⟨by simpa using h.len,hold,hnew,fun j=>?_,?_,Ng h.heap i⟩
   ·rw[(y6 l i).mem_iff,bz];constructor
    ·rintro(rfl|hj)
     ·refine⟨hi,hr.1,jJ.2 ⟨by simp[hid,hia],fun x hx=>?_⟩⟩
      refine Fa fun hn=>?_
      have:=(hmem x).2 ⟨hx,hn⟩
      rw[h0]at this;cases this
     ·have:=(h.ls j).1 hj;exact⟨this.1,fun h2=>this.2.1 (by simp[h2]),this.2.2⟩
    ·rintro⟨h1,h2,h3⟩
     by_cases he:j=i
     ·exact .inl he
     ·exact .inr ((h.ls j).2 ⟨h1,by simp only[bz,not_or];exact⟨he,h2⟩,h3⟩)
   ·rw[(y6 l i).nodup_iff,lA];exact⟨hil,h.AJ⟩
  ·rename_i h0;refine uv.run ha haa hall r _ _ _ hr.2 (fun j hj=>hW j (by simp[hj])) ⟨by simpa using h.len,hold,hnew,fun j=>?_,h.AJ,h.heap⟩;rw[h.ls j];refine⟨fun⟨h1,h2,h3⟩=>⟨h1,fun h4=>h2 (by simp[h4]),h3⟩,fun⟨h1,h2,h3⟩=>⟨h1,?_,h3⟩⟩;simp only[bz,not_or];refine⟨fun he=>?_,h2⟩;subst he;apply h0;rw[LC];intro x hx;obtain⟨h5,h6⟩:=(hmem x).1 hx;exact h6 ((jJ.1 h3).2 x h5)
theorem Inv.step{c:Ct}(hd:(c.af.map (·.name)).Nodup){done:List Nat}{nd:List (List Nat)}{l:List Nat}(h:Inv c done nd l)(h0:l≠[])(s:List Nat):
 lP c done=some (br l)/\Inv c (done++[br l]) (eM (br l) ((bK c).getD (br l) []) nd (dR l) s).1 (eM (br l) ((bK c).getD (br l) []) nd (dR l) s).2.1:=by
 have hpos:0<l.length:=sQ.2 h0;have hhr:=NR hpos;have hal:br l∈l:=hhr.mem_iff.1 (by simp);obtain⟨ha,hmay⟩:=(h.ls _).1 hal;obtain⟨had,haa⟩:=jJ.1 hmay;have hnod:=hhr.nodup_iff.2 h.AJ;rw[lA]at hnod
 have hn:lP c done=some (br l):=M7 ha hmay fun j hj=>by
  rw[AZ];intro hm;have:=ae2 h.heap hpos ((h.ls j).2 ⟨by omega,hm⟩);omega
 refine⟨hn,?_⟩
 have hR:uv c done (br l) ((bK c).getD (br l) []) nd (dR l):=by
  refine⟨h.len,fun i hi _ x=>h.VU i hi x,fun i hi hir x=>?_,fun i=>?_,hnod.2,aaZ h.heap hpos⟩
  ·rw[h.VU i hi x];refine⟨fun⟨h1,h2⟩=>⟨h1,?_⟩,fun⟨h1,h2⟩=>⟨h1,fun h3=>h2 (by simp[h3])⟩⟩;simp only[aT,cE,not_or];exact⟨h2,fun he=>hir ((Cn hd ha i).2 (he▸h1))⟩
  ·have hil:i∈l↔i=br l\/i∈dR l:=by rw[<-hhr.mem_iff,bz]
   constructor
   ·intro hi;obtain⟨h1,h2⟩:=(h.ls i).1 (hil.2 (.inr hi));obtain⟨h3,h4⟩:=jJ.1 h2;refine⟨h1,fun hb=>?_,jJ.2 ⟨?_,fun x hx=>by simp[h4 x hx]⟩⟩
    ·exact had (h4 _ ((Cn hd ha i).1 hb))
    ·simp only[aT,cE,not_or];exact⟨h3,fun he=>hnod.1 (he▸hi)⟩
   ·rintro⟨h1,h2,h3⟩
    obtain⟨h4,h5⟩:=jJ.1 h3;simp only[aT,cE,not_or]at h4
    have hi:i∈l:=(h.ls i).2 ⟨h1,jJ.2 ⟨h4.1,fun x hx=>by
     have:=h5 x hx;simp only[aT,cE]at this
     rcases this with h6|h6
     ·exact h6
     ·exact absurd ((Cn hd ha i).2 (h6▸hx)) h2⟩⟩
    exact(hil.1 hi).resolve_left h4.2
 have hE:=uv.run had haa h.all _ _ _ s (abr c ha) (fun i hi=>(Cn hd ha i).1 hi) hR;refine⟨hE.len,fun i hi x=>hE.new i hi (by simp) x,fun i=>by rw[hE.ls i];simp,hE.AJ,hE.heap,?_,fun x hx=>?_,fun i hi x hx=>?_⟩
 ·rw[ly];refine⟨h.Vi,by simp,fun x hx y hy=>?_⟩;rw[cE]at hy;subst hy
  exact fun he=>had (he▸hx)
 ·rcases aT.1 hx with h1|h1
  ·exact h.lt x h1
  ·rw[cE]at h1;subst h1;exact ha
 ·rcases aT.1 hi with h1|h1
  ·simp[h.all i h1 x hx]
  ·rw[cE]at h1;subst h1;simp[haa x hx]
theorem Hj:∀(N:Nat)(l:List Nat),l.Nodup->(∀x∈l,x<N)->l.length<=N
 |0,[],_,_=>aQ _
 |0,x::l,_,h=>absurd (h x (by simp)) (by omega)
 |N+1,l,hn,h=>by
  have h1:=Hj N (l.erase N) (hn.erase N) fun x hx=>by
   obtain⟨h2,h3⟩:=hn.mem_erase_iff.1 hx
   have:=h x h3;omega
  by_cases hm:N∈l
  ·rw[V2 hm]at h1;omega
  ·rw[List.erase_of_not_mem hm]at h1;omega
theorem Inv.come{c:Ct}(hd:(c.af.map (·.name)).Nodup):∀(f:Nat)(done:List Nat)(nd:List (List Nat))(l s:List Nat),Inv c done nd l->qS (bK c) f nd l s=iK c f done
 |0,_,_,_,_,_=>rfl
 |f+1,done,nd,l,s,h=>by
  rw[qS,iK]
  by_cases h0:l=[]
  ·have hn:lP c done=none:=aa7 fun a ha=>by
    rw[AZ];intro hm;have:=(h.ls a).2 ⟨ha,hm⟩
    rw[h0]at this;cases this
   rw[if_pos h0,hn]
  ·obtain⟨h1,h2⟩:=h.step hd h0 (br l::s);rw[if_neg h0,h1];simp only;rw[Inv.come hd f _ _ _ _ h2]
theorem Inv.ends{c:Ct}(hd:(c.af.map (·.name)).Nodup):∀(f:Nat)(done:List Nat)(nd:List (List Nat))(l s:List Nat),Inv c done nd l->c.af.length<=done.length+f->um (bK c) f nd l s
 |0,done,nd,l,s,h,hf=>by
  show l=[]
  rw[LC];intro x hx;obtain⟨h1,h2⟩:=(h.ls x).1 hx;have h3:=(jJ.1 h2).1
  have:=Hj c.af.length (x::done) (lA.2 ⟨h3,h.Vi⟩) (fun y hy=>by
   rcases bz.1 hy with rfl|hy
   ·exact h1
   ·exact h.lt y hy)
  simp only[bE]at this;omega
 |f+1,done,nd,l,s,h,hf=>by
  rw[um]
  by_cases h0:l=[]
  ·exact .inl h0
  ·obtain⟨h1,h2⟩:=h.step hd h0 (br l::s);exact .inr (Inv.ends hd f _ _ _ _ h2 (by simp;omega))
theorem GI(nd:List (List Nat))(N:Nat):∀(m i:Nat)(l:List Nat),i+m=N->l.Nodup->(∀x∈l,x<i)->lU l.length l->
 (∀x,x∈jv nd m i l↔x∈l\/(i<=x/\x<N/\nd.getD x []=[]))/\(jv nd m i l).Nodup/\lU (jv nd m i l).length (jv nd m i l)
 |0,i,l,h,h1,h2,h3=>⟨fun x=>by simp[jv];omega,h1,h3⟩
 |m+1,i,l,h,h1,h2,h3=>by
  rw[jv]
  have hil:i∉l:=fun hm=>by have:=h2 i hm;omega
  split
  ·rename_i h0;have hp:=y6 l i
   obtain⟨a1,a2,a3⟩:=GI nd N m (i+1) (fZ l i) (by omega) (by rw[hp.nodup_iff,lA];exact⟨hil,h1⟩) (fun x hx=>by
    rcases bz.1 (hp.mem_iff.1 hx)with rfl|hx
    ·omega
    ·have:=h2 x hx;omega) (Ng h3 i)
   refine⟨fun x=>?_,a2,a3⟩;rw[a1 x,hp.mem_iff,bz];constructor
   ·rintro((rfl|hx)|⟨b1,b2,b3⟩)
    ·exact .inr ⟨aQ _,by omega,h0⟩
    ·exact .inl hx
    ·exact .inr ⟨by omega,b2,b3⟩
   ·rintro(hx|⟨b1,b2,b3⟩)
    ·exact .inl (.inr hx)
    ·by_cases he:x=i
     ·exact .inl (.inl he)
     ·exact .inr ⟨by omega,b2,b3⟩
  ·rename_i h0;obtain⟨a1,a2,a3⟩:=GI nd N m (i+1) l (by omega) h1 (fun x hx=>by have:=h2 x hx;omega) h3;refine⟨fun x=>?_,a2,a3⟩;rw[a1 x];constructor
   ·rintro(hx|⟨b1,b2,b3⟩)
    ·exact .inl hx
    ·exact .inr ⟨by omega,b2,b3⟩
   ·rintro(hx|⟨b1,b2,b3⟩)
    ·exact .inl hx
    ·refine .inr ⟨?_,b2,b3⟩
     have:x≠i:=fun he=>h0 (he▸b3)
     omega
theorem SG{c:Ct}(hd:(c.af.map (·.name)).Nodup):Inv c [] (eu c) (jv (eu c) c.af.length 0 []):=by
 obtain⟨h1,h2,h3⟩:=GI (eu c) c.af.length c.af.length 0 [] (by omega) (by simp) (by simp) (fun k hk hkl=>by simp at hkl);refine⟨vp c,fun i hi x=>by rw[y8 hd hi];simp,fun i=>?_,h2,h3,by simp,by simp,by simp⟩;rw[h1 i];constructor
 ·rintro(h|⟨_,a,b⟩)
  ·cases h
  ·refine⟨a,jJ.2 ⟨by simp,fun x hx=>?_⟩⟩;have:=(y8 hd a x).2 hx
   rw[b]at this;exact this
 ·rintro⟨a,b⟩
  refine .inr ⟨by omega,a,?_⟩;rw[LC];intro x hx;have:=(jJ.1 b).2 x ((y8 hd a x).1 hx)
  cases this
theorem QY{c:Ct}(hd:(c.af.map (·.name)).Nodup):px c c.af.length=bm c:=Inv.come hd _ _ _ _ _ (SG hd)
theorem ace{c:Ct}(hd:(c.af.map (·.name)).Nodup):I_ c c.af.length:=Inv.ends hd _ _ _ _ _ (SG hd) (by simp)
theorem N8(c:Ct):∀(f:Nat)(done:List Nat),(iK c f done).length<=f
 |0,_=>by simp[iK]
 |f+1,done=>by
  rw[iK]
  split
  ·simp
  ·rename_i k _;have:=N8 c f (done++[k])
   simp only[bE];omega
theorem O3(c:Ct):∀(f:Nat)(done:List Nat),∀x∈iK c f done,x<c.af.length
 |0,_=>by simp[iK]
 |f+1,done=>by
  rw[iK]
  split
  ·simp
  ·rename_i k hk;intro x hx
   rcases bz.1 hx with rfl|hx
   ·exact(OY hk).1
   ·exact O3 c f _ x hx
end Go.Proofs.YtchjijfjidlpjaaGreatDoor
namespace Go.Proofs.YtchjijfjidlpjaaGreatDoor
open Go.AM Go.Proofs
variable{Γ:Nat->Option AV}
def Du(c:Ct):List Nat:=if lN c=true then bm c else[]
def mr(c:Ct):List Bs:=if lN c=true then j9 (bm c) c.af 0 else[]
theorem M1{c:Ct}(hc:cK c):(bm c).length<2^20:=by
 have h1:=N8 c c.af.length [];have:=hc.2.2.2.1
 unfold bm;omega
theorem QW(hΓ:jz Γ)(c:Ct)(hb:kF c):aS Tryz.prog Γ o8 [cN c] (.aH [.own 1 aq ((Du c).map iN),.own 1 au ((mr c).map .str)]):=by
 unfold Du mr
 cases hr:lN c with
 |false=>simpa using afA hΓ c hb hr
 |true=>
  have hc:=rP hb hr;have hd:=tn hr;have hN:=hc.2.2.2.1;have h:=ag6 hΓ c hb hr c.af.length (by omega) (ace hd) (by rw[QY hd];exact M1 hc);rw[QY hd]at h;simpa using h
def oi(c:Ct):Int×Bs:=if(er c).1=0 then(match mr c with
 |[]=>(0,[])
 |s::_=>(7,s))else er c
set_option maxRecDepth 8000 in
theorem aeR(hΓ:jz Γ)(c:Ct)(hb:kF c):aS Tryz.prog Γ Bp [cN c] (ur (oi c)):=by
 have hC:=Hn hΓ c hb;have hS:=QW hΓ c hb;unfold oi;generalize er c=r at*;obtain⟨e,s⟩:=r;refine .run 60 YC (by simp) ?_;simp;refine .call 60 (by simp) hC ?_
 by_cases h0:e=0
 ·simp[h0];refine .call 60 (by simp) hS ?_
  cases mr c with
  |nil=>
   simp;exact .back (by simp)
  |cons a l=>
   have hl:(0:Int)<(l.length:Int)+1:=by omega
   simp[hl];exact .back (by simp)
 ·simp[h0];exact .back (by simp)
def ah5(c:Ct):List (Bs×(Bool×Nat×List Bs)):=c.ah.map (fun q=>(q.name,(true,1,[q.next])))++c.af.map fun g=>(g.name,(false,g.ki,g.ins))
abbrev eNx(x:Bool×Nat×List Bs):AV:=.list x.1 x.2.1 (x.2.2.map .str)
abbrev J5(x:Bs×(Bool×Nat×List Bs)):AV×AV:=(.str x.1,eNx x.2)
@[simp] theorem afa(n:Nat):∀l:List (Bs×(Bool×Nat×List Bs)),fa n (l.map J5)=true
 |[]=>rfl
 |x::r=>by simp[afa n r]
@[simp] theorem afI(n m:Nat):∀l:List (Bs×(Bool×Nat×List Bs)),oB n m (l.map J5)=true
 |[]=>rfl
 |x::r=>by simp[afI n m r]
abbrev sF(c:Ct)(inn hist:List Bs)(g:Option Nat):List Ob:=[.cells (AV.cells (cN c)),.row 1 au [] none true false,.map ((ah5 c).map J5) true,.map (inn.map j_) true,.row 1 au (hist.map .str) g true false]
abbrev nL(c:Ct):List Ob:=[.cells (AV.cells (cN c)),.row 1 aq [] none true false]
def wk(s:Bs):Bool:=decide (60<s.length)
def r8(m:Nat)(l:List Bs):Bool:=decide (l.length<=m)&&!bH wk l
theorem FL(l:List Bs)(m:Nat)(hm:m<1000){k:Nat}(hk:Kd 1 k l):aS Tryz.prog Γ tv [.list false k (l.map .str),.int .i64 m] (.bool (r8 m l)):=by
 have key:∀n i:Nat,i+n=l.length->i<=m+1->aA Tryz.prog Γ (yfc (.list false k (l.map .str)) (.int .i64 m) (.int .i64 i) []) (.ret (.bool (decide (l.length<=m)&&!bH wk (l.drop i)))):=by
  intro n
  induction n with
  |zero=>
   intro i hi hL
   have q1:¬i<l.length:=by omega
   have e1:((l.length:Int)<=m)=(l.length<=m):=propext (by omega);rw[bA (by omega),Hw];refine .go 60 ?_;simp[q1,e1];exact .back (by simp)
  |succ n ih=>
   intro i hi hL
   have q1:i<l.length:=by omega
   have q2:=bR (hk.of q1)
   by_cases h2:i<=m
   ·have h2':((i:Int)<=m)=True:=bR (by omega);have hh:=ih (i+1) (by omega) (by omega);have e3:((60:Int)<(l[i].length:Int))=(60<l[i].length):=propext (by omega);rw[bJ q1,lE];refine .go 60 ?_
    by_cases h3:60<l[i].length
    ·have hl:wk l[i]=true:=by simp[wk,h3]
     simp[q1,q2,h2',e3,h3,hl];exact .back (by simp[h3])
    ·have hl:wk l[i]=false:=by simp only[wk,iD];exact h3
     simp(disch:=omega) [q1,q2,h2',e3,h3,hl];refine .aO ?_;simp at hh⊢;exact hh
   ·have h2':((i:Int)<=m)=False:=nY (by omega);have e1:((l.length:Int)<=m)=False:=nY (by omega)
    have h3:¬l.length<=m:=by omega
    refine .go 60 ?_;simp[q1,h2',e1,h3];exact .back (by simp)
 refine .run 60 ZJ (by simp) ?_;simp;refine .inLoop ?_;have hh:=key l.length 0 (by omega) (by omega);simp[r8]at hh⊢;exact hh
end Go.Proofs.YtchjijfjidlpjaaGreatDoor
namespace Go.Proofs.YtchjijfjidlpjaaGreatDoor
open Go.AM Go.Proofs
theorem GV(c:Ct):∀(f:Nat)(done:List Nat),done.Nodup->(∀x∈done,x<c.af.length)->
 (done++iK c f done).Nodup/\(∀p a q,iK c f done=p++a::q->kz c (done++p) a=true/\∀j<a,kz c (done++p) j=false)/\(c.af.length<=done.length+f->∀a<c.af.length,kz c (done++iK c f done) a=false)
 |0,done,hd,hl=>by
  refine⟨by simpa[iK]using hd,fun p a q h=>by simp[iK]at h,fun hf a ha=>?_⟩;rw[AZ];intro hm;have h3:=(jJ.1 hm).1;simp only[iK,ee]at h3
  have:=Hj c.af.length (a::done) (lA.2 ⟨h3,hd⟩) (fun y hy=>by
   rcases bz.1 hy with rfl|hy
   ·exact ha
   ·exact hl y hy)
  simp only[bE]at this;omega
 |f+1,done,hd,hl=>by
  rw[iK]
  cases hn:lP c done with
  |none=>
   refine⟨by simpa using hd,fun p a q h=>by simp at h,fun hf a ha=>?_⟩;simpa using adZ hn ha
  |some k=>
   obtain⟨hk,hm,hj⟩:=OY hn;have h3:=(jJ.1 hm).1
   obtain⟨i1,i2,i3⟩:=GV c f (done++[k]) (by
    rw[ly];refine⟨hd,by simp,fun x hx y hy=>?_⟩;rw[cE]at hy;subst hy
    exact fun he=>h3 (he▸hx)) (fun x hx=>by
    rcases aT.1 hx with hx|hx
    ·exact hl x hx
    ·rw[cE]at hx;subst hx;exact hk)
   simp only[cI,sP]at i1 i2 i3;refine⟨i1,fun p a q h=>?_,fun hf a ha=>i3 (by simp;omega) a ha⟩
   cases p with
   |nil=>
    simp only[j3,uD]at h;rw[ee,<-h.1];exact⟨hm,hj⟩
   |cons x p=>
    simp only[eo,uD]at h;obtain⟨rfl,h⟩:=h;exact i2 p a q h
theorem Mh(c:Ct):(bm c).Nodup:=by simpa[bm]using(GV c c.af.length [] (by simp) (by simp)).1
theorem qp(c:Ct):∀x∈bm c,x<c.af.length:=O3 c _ _
theorem Gu(c:Ct){p q:List Nat}{a:Nat}(h:bm c=p++a::q):kz c p a=true/\∀j<a,kz c p j=false:=by
 simpa using(GV c c.af.length [] (by simp) (by simp)).2.1 p a q h
theorem adW(c:Ct){i:Nat}(hi:i<(bm c).length){x:Nat}(hx:gX c (bm c)[i] x=true):x∈(bm c).take i:=by
 have h:bm c=(bm c).take i++(bm c)[i]::(bm c).drop (i+1):=by
  rw[<-bJ hi,mT]
 exact(jJ.1 (Gu c h).1).2 x hx
theorem F8(out:List Nat)(s:Bs):∀(l:List Gt)(i:Nat),s∈j9 out l i↔∃t,∃h:t<l.length,l[t].name=s/\i+t∉out
 |[],i=>by simp[j9]
 |g::r,i=>by
  have hs:(∃t,∃h:t<(g::r).length,(g::r)[t].name=s/\i+t∉out)↔(g.name=s/\i∉out)\/∃t,∃h:t<r.length,r[t].name=s/\i+1+t∉out:=by
   constructor
   ·rintro⟨t,h,e,hm⟩
    cases t with
    |zero=>exact .inl ⟨e,hm⟩
    |succ t=>exact .inr ⟨t,by simpa using h,e,by rwa[show i+1+t=i+(t+1) by omega]⟩
   ·rintro(⟨e,hm⟩|⟨t,h,e,hm⟩)
    ·exact⟨0,by simp,e,hm⟩
    ·exact⟨t+1,by simpa using h,e,by rwa[show i+(t+1)=i+1+t by omega]⟩
  rw[hs,j9]
  split
  ·rename_i h0;rw[F8 out s r (i+1)];exact⟨.inr,fun h=>h.elim (fun h=>absurd h0 h.2) id⟩
  ·rename_i h0;rw[bz,F8 out s r (i+1)];exact⟨fun h=>h.imp (fun h=>⟨h.symm,h0⟩) id,fun h=>h.imp (fun h=>h.1.symm) id⟩
theorem Pm{c:Ct}(hd:(c.af.map (·.name)).Nodup)(out:List Nat){i:Nat}(hi:i<c.af.length):c.af[i].name∈j9 out c.af 0↔i∉out:=by
 rw[F8];constructor
 ·rintro⟨t,ht,e,hm⟩
  rw[iZ]at hm;rwa[<-CB hd ht hi e]
 ·intro h;exact⟨i,hi,rfl,by rwa[iZ]⟩
theorem Nc(out:List Nat):∀(l:List Gt)(i:Nat),(j9 out l i).length=((List.range l.length).filter fun t=>!out.contains (i+t)).length
 |[],i=>rfl
 |g::r,i=>by
  have ih:=Nc out r (i+1);rw[j9,bE,List.range_succ_eq_map,rD]
  have e:((List.range r.length).map Nat.succ).filter (fun t=>!out.contains (i+t))=((List.range r.length).filter fun t=>!out.contains (i+1+t)).map Nat.succ:=by
   rw[List.filter_map];congr 1;apply List.filter_congr;intro x _;simp only[Function.comp];rw[show i+Nat.succ x=i+1+x by omega]
  rw[e]
  by_cases h0:i∈out
  ·rw[if_pos h0,if_neg (by simpa using h0),ih,fC]
  ·rw[if_neg h0,if_pos (by simpa using h0),bE,bE,ih,fC]
theorem acd(N:Nat)(out:List Nat)(hd:out.Nodup)(hl:∀x∈out,x<N):out.length+((List.range N).filter fun t=>!out.contains t).length=N:=by
 have h1:((List.range N).filter fun t=>out.contains t).Perm out:=by
  rw[List.perm_ext_iff_of_nodup (Lu.filter _) hd];intro a;simp only[dN,dJ,xg,aZ];exact⟨fun h=>h.2,fun h=>⟨hl a h,h⟩⟩
 have h2:∀l:List Nat,(l.filter fun t=>out.contains t).length+(l.filter fun t=>!out.contains t).length=l.length:=by
  intro l
  induction l with
  |nil=>rfl
  |cons a l ih=>
   rw[rD,rD]
   cases h:out.contains a<;>simp at ih⊢<;>omega
 have:=h2 (List.range N);rw[h1.length_eq,pV]at this;exact this
theorem acz(c:Ct):(bm c).length+(j9 (bm c) c.af 0).length=c.af.length:=by
 rw[Nc];simp only[iZ];exact acd _ _ (Mh c) (qp c)
end Go.Proofs.YtchjijfjidlpjaaGreatDoor
namespace Go.Proofs.YtchjijfjidlpjaaGreatDoor
open Go.AM Go.Proofs
variable{Γ:Nat->Option AV}
def Lj(c:Ct)(a:Nat):Bs:=match c.af[a]? with
 |some g=>g.name
 |none=>[]
theorem C9{c:Ct}{a:Nat}(h:a<c.af.length):Lj c a=c.af[a].name:=by simp[Lj,h]
theorem aby{c:Ct}(h:(oi c).1=0):lN c=true/\mr c=[]/\oi c=(0,[]):=by
 unfold oi at h⊢
 by_cases h0:(er c).1=0
 ·rw[if_pos h0]at h⊢
  cases hn:mr c with
  |nil=>exact⟨sY h0,rfl,rfl⟩
  |cons s l=>rw[hn]at h;cases h
 ·rw[if_neg h0]at h;exact absurd h h0
theorem PS(N:List Bs):∀l:List Bs,(∀s∈l,s∈N)->jh N l=(0,[])
 |[],_=>rfl
 |a::l,h=>by rw[jh,if_pos (h a (by simp)),PS N l fun s hs=>h s (by simp[hs])]
theorem O2(r:Int×Bs):∀l:List Gt,(∀g∈l,jj g=true)->ke r l=r
 |[],_=>rfl
 |a::l,h=>by rw[ke,if_pos (h a (by simp)),O2 r l fun s hs=>h s (by simp[hs])]
theorem OQ(r:Int×Bs):∀l:List Lt,(∀g∈l,mn g=true)->lS r l=r
 |[],_=>rfl
 |a::l,h=>by rw[lS,if_pos (h a (by simp)),OQ r l fun s hs=>h s (by simp[hs])]
theorem PN(r:Int×Bs):∀l:List Bs,(∀g∈l,fK g=true)->pr r l=r
 |[],_=>rfl
 |a::l,h=>by rw[pr,if_pos (h a (by simp)),PN r l fun s hs=>h s (by simp[hs])]
theorem Cd{c:Ct}(h:e_ c):er c=(0,[]):=by
 unfold er;rw[h.mS,if_neg (by simp),PN _ _ h.names,h.bn,h.outs,OQ _ _ h.init,O2 _ _ h.af,PS _ _ h.used];rfl
theorem zk{c:Ct}(h:e_ c):lN c=true:=by rw[lN,Cd h];rfl
theorem Og:∀(l seen:List Bs),l.Nodup->(∀s∈l,s∉seen)->mw seen l=none
 |[],_,_,_=>rfl
 |a::l,seen,hn,h=>by
  rw[lA]at hn;rw[mw,if_neg (h a (by simp))]
  refine Og l _ hn.2 fun s hs=>?_
  simp only[aT,cE,not_or];exact⟨h s (by simp[hs]),fun he=>hn.1 (he▸hs)⟩
theorem Hk{l:List Bs}(h:l.Nodup):je l=none:=Og l [] h (by simp)
theorem aaD{d:Ct}(h:∀i<d.af.length,∀x,gX d i x=true->x<i):bm d=List.range d.af.length:=by
 have key:∀f i,i+f=d.af.length->iK d f (List.range i)=(List.range f).map (i+·):=by
  intro f
  induction f with
  |zero=>intro i _;simp[iK]
  |succ f ih=>
   intro i hi
   have hn:lP d (List.range i)=some i:=M7 (by omega) (jJ.2 ⟨by simp,fun x hx=>by
    rw[dJ];exact h i (by omega) x hx⟩) fun j hj=>by
     rw[AZ];intro hm;exact(jJ.1 hm).1 (by rw[dJ];exact hj)
   rw[iK,hn];simp only;rw[<-E5,ih (i+1) (by omega),List.range_succ_eq_map,bU,iB];congr 1;apply mb;intro x _
   simp only[Function.comp];omega
 have:=key d.af.length 0 (by omega);simp only[List.range_zero,iZ,List.map_id']at this
 rw[bm];exact this
theorem HA{c:Ct}{s:Bs}:s∈aD c↔s∈c.an\/(∃q∈c.ah,q.name=s)\/∃g∈c.af,g.name=s:=by
 simp[aD]
theorem MQ:∀l:List Gt,mG l l=true
 |[]=>rfl
 |a::l=>by rw[mG,MQ l,nB];simp
end Go.Proofs.YtchjijfjidlpjaaGreatDoor
