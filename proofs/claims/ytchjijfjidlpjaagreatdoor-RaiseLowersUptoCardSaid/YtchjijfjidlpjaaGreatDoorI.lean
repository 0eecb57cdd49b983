/- Order: what comes: the l -/
import Derived.Test.YtchjijfjidlpjaaGreatDoorH
import Derived.Test.YtchjijfjidlpjaaGreatDoorG
import Derived.Test.YtchjijfjidlpjaaGreatDoorAMd
import Derived.Test.YtchjijfjidlpjaaGreatDoorF
import Derived.Test.YtchjijfjidlpjaaGreatDoorCode
set_option linter.unusedSimpArgs false
set_option linter.unusedVariables false
namespace Go.Proofs.YtchjijfjidlpjaaGreatDoor
set_option maxRecDepth 8000
open Go.AM Go.Proofs
variable{Γ:Nat->Option AV}
def dN(a:Nat)(l:List Nat):List Nat:=l.filter fun x=>decide (¬x=a)
theorem Rw(a:Nat):∀{l:List Nat},l.Nodup->n4 (.sc .int) (.int .i64 a) (l.map eK)=some ((dN a l).map eK)
 |[],_=>rfl
 |b::l,h=>by
  simp only[l0]at h
  by_cases h2:a=b
  ·subst h2
   have h3:dN a l=l:=by
    unfold dN;rw[Bx];intro x hx
    exact tH fun hn=>h.1 (hn▸hx)
   have h4:dN a (a::l)=l:=by rw[<-h3];simp[dN]
   simp only[bX,n4,uw,decide_true,h4]
  ·have h4:dN a (b::l)=b::dN a l:=by
    unfold dN;rw[r8,if_pos (by simpa using fun h=>h2 h.symm)]
   simp only[bX,n4,uw,h2,nD,Rw a h.2,dC,h4]
theorem NA(a:Nat){l:List Nat}(h:l.Nodup):(dN a l).Nodup:=h.filter _
theorem zP(l:List Nat)(x:Nat):(gH l x).length=l.length+1:=by rw[gH,ajc];simp
def jU(nd:List (List Nat)):Nat->Nat->List Nat->List Nat
 |0,_,l=>l
 |m+1,i,l=>jU nd m (i+1) (if nd.getD i []=[]then gH l i else l)
def fq(a:Nat):List Nat->List (List Nat)->List Nat->List Nat->List (List Nat)×List Nat×List Nat
 |[],nd,l,s=>(nd,l,s)
 |i::r,nd,l,s=>if dN a (nd.getD i [])=[]then fq a r (nd.set i (dN a (nd.getD i []))) (gH l i) s.tail else fq a r (nd.set i (dN a (nd.getD i []))) l s
theorem Qp{A:List Ob}{l s:List Nat}(s0:List Nat)(hs:s=s0.tail){f:Fr}{up:List Fr}(hb:f.base<=A.length)(hf:∀m,iQ A.length m f=true)(hv:∀m,c8 A.length m A=true):
 AM.Reach ak Γ (.fr f up (hP A l s (gP s0))) (.fr f up (hP A l s none)):=by
 unfold gP
 split
 ·rename_i h0
  have h2:s=[]:=by rw[hs,h0];rfl
  subst h2
  have e:(hP A l [] (some 0)).set A.length (.row 1 au ((l++[]).map iN) none true false)=hP A l [] none:=by simp[hP]
  refine .nN (wY (A:=A) (l:=l) (s:=[]) (g:=some 0)) hb (hf _) (by
   rw[hP,j6,hv]
   simp) ?_
  rw[e];exact .refl _
 ·exact .refl _
theorem aki(c:Ct)(hc:cH c){M:List Ob}(hv:eT M)(nd:List (List Nat))(hn:nd.length=c.af.length)(L:Nat)(p:AV)(up:List Fr):∀m i:Nat,i+m=c.af.length->∀l:List Nat,l.length<=i->
 AM.Reach ak Γ (yqO (.de L) (.ptr (M.length+(9+(c.af.length+c.af.length))) 0) (.ptr (M.length+(11+(c.af.length+c.af.length))) 0) (.int .i64 c.af.length) (.int .i64 i) (hP (aC c M nd) l [] none) ⟨[],.norm,M.length,up⟩)
  (yqP (.de L) (.ptr (M.length+(9+(c.af.length+c.af.length))) 0) (.ptr (M.length+(11+(c.af.length+c.af.length))) 0) (hP (aC c M nd) (jU nd m i l) [] none) ⟨[],.norm,M.length,up⟩):=by
 have hN:=hc.2.2.2.1;intro m
 induction m with
 |zero=>
  intro i hi l hl
  have q1:¬i<c.af.length:=by omega
  rw[jU];generalize hP (aC c M nd) l [] none=X at*;refine .dh 60 ?_;simp[q1];exact .exit rfl rfl
 |succ m ih=>
  intro i hi l hl
  have q1:i<c.af.length:=by omega
  have hx:=q9 (M:=M) hn;have xw:=rz (A:=aC c M nd) (l:=l) (s:=[]) (g:=none) (i:=M.length+(9+(c.af.length+c.af.length))) (by omega);have xn:=rz (A:=aC c M nd) (l:=l) (s:=[]) (g:=none) (i:=M.length+7) (by omega);have xm:=rz (A:=aC c M nd) (l:=l) (s:=[]) (g:=none) (i:=M.length+(9+(c.af.length+i))) (by omega);rw[JZ hn]at xw;rw[TG hn]at xn;rw[TD hn q1,jq]at xm;have yn:=Hw (n:=M.length+6) (N:=c.af.length) q1;rw[show M.length+6+(3+(c.af.length+i))=M.length+(9+(c.af.length+i)) by omega]at yn;have yl:=CI (n:=M.length+6) (N:=c.af.length) (m:=c.af.length) (aT _);have yt:List.take c.af.length (dZ (M.length+6) c.af.length c.af.length)=dZ (M.length+6) c.af.length c.af.length:=cj (by rw[yl];exact aT _);obtain⟨_,hk⟩:=cV.1 yn;rw[jU]
  by_cases h0:nd.getD i []=[]
  ·have hh:=ih (i+1) (by omega) (gH l i) (by rw[zP];omega);have h2:=R' (Γ:=Γ) (aC c M nd) l [] i (by omega) (by omega)
   have hj:=fun f hb hf=>Qp (Γ:=Γ) (l:=gH l i) (s:=[]) [] rfl (f:=f) (up:=up) hb hf (fun m=>SJ hv (nd:=nd) (by rw[hx];omega))
   rw[hx]at hj h2;rw[show M.length+(10+(c.af.length+c.af.length))+1=M.length+(11+(c.af.length+c.af.length)) by omega]at h2;rw[if_pos h0];rw[h0]at xm;generalize hP (aC c M nd) l [] none=X at*;generalize hP (aC c M nd) (gH l i) [] none=Y at*;rw[List.tail_nil]at h2;generalize hP (aC c M nd) (gH l i) [] (gP [])=Z at*;generalize dZ (M.length+6) c.af.length c.af.length=E at*;refine .dh 60 ?_;simp(disch:=omega) [q1,xw,xn,xm,yn,yl,yt,hk];refine .SD 1 60 h2 ?_;simp(disch:=omega);refine .trans (hj _ (by simp) (by intro m;simp;omega)) ?_;refine .aI ?_;simp at hh⊢;exact hh
  ·have hh:=ih (i+1) (by omega) l (by omega);rw[if_neg h0]
   have h4:¬(nd.getD i []).length=0:=by simpa using h0
   generalize nd.getD i []=z at*
   have e0:(((z.map eK).length:Nat):Int)=0↔False:=by simp;exact h0
   generalize hP (aC c M nd) l [] none=X at*;generalize dZ (M.length+6) c.af.length c.af.length=E at*;refine .dh 60 ?_;simp(disch:=omega) [q1,xw,xn,xm,yn,yl,yt,hk,h0,h4];refine .aI ?_;simp at hh⊢;exact hh
theorem ag5{A:List Ob}{l s:List Nat}{g:Option Nat}{i:Nat}(h:i<A.length)(o:Ob):(hP A l s g).set i o=hP (A.set i o) l s g:=by
 rw[hP,lZ _ _ h,hP,kD]
theorem akV(c:Ct)(hc:cH c){M:List Ob}(hv:eT M)(L a:Nat)(ha:a<c.af.length)(hb:∀i∈(bQ c).getD a [],i<c.af.length)(up:List Fr):∀m j:Nat,j+m=((bQ c).getD a []).length->∀(nd:List (List Nat))(l s:List Nat),nd.length=c.af.length->(∀x∈nd,x.Nodup)->l.length+m<2^38->j+m<2^38->
 AM.Reach ak Γ (yqJ (.de L) (.ptr (M.length+(9+(c.af.length+c.af.length))) 0) (.ptr (M.length+(11+(c.af.length+c.af.length))) 0) (.int .i64 a) (.sl (M.length+(9+a)) 0 ((bQ c).getD a []).length) (.int .i64 ((bQ c).getD a []).length) (.int .i64 j) (hP (aC c M nd) l s none) ⟨[],.norm,M.length,up⟩)
  (yqK (.de L) (.ptr (M.length+(9+(c.af.length+c.af.length))) 0) (.ptr (M.length+(11+(c.af.length+c.af.length))) 0) (hP (aC c M (fq a (((bQ c).getD a []).drop j) nd l s).1) (fq a (((bQ c).getD a []).drop j) nd l s).2.1 (fq a (((bQ c).getD a []).drop j) nd l s).2.2 none) ⟨[],.norm,M.length,up⟩):=by
 have hN:=hc.2.2.2.1;intro m
 induction m with
 |zero=>
  intro j hj nd l s hn hd hl ht
  have q1:¬j<((bQ c).getD a []).length:=by omega
  rw[bx (by omega),fq];generalize(bQ c).getD a []=bs at*;generalize hP (aC c M nd) l s none=X at*;refine .dh 60 ?_;simp[q1];exact .exit rfl rfl
 |succ m ih=>
  intro j hj nd l s hn hd hl ht;have xr:=rz (A:=aC c M nd) (l:=l) (s:=s) (g:=none) (i:=M.length+(9+a)) (by rw[q9 hn];omega);rw[ama ha]at xr;generalize e2:(bQ c).getD a []=bs at*
  have q1:j<bs.length:=by omega
  have hi:=hb _ (bA q1)
  have xi:(bs.map iN)[j]? =some (.int .i64 (bs[j]:Nat)):=by simp[q1]
  rw[bJ q1,fq];generalize bs[j]=i at*;have hg:=q9 (M:=M) hn;have xw:=rz (A:=aC c M nd) (l:=l) (s:=s) (g:=none) (i:=M.length+(9+(c.af.length+c.af.length))) (by omega);have xn:=rz (A:=aC c M nd) (l:=l) (s:=s) (g:=none) (i:=M.length+7) (by omega);have xm:=rz (A:=aC c M nd) (l:=l) (s:=s) (g:=none) (i:=M.length+(9+(c.af.length+i))) (by omega);rw[JZ hn]at xw;rw[TG hn]at xn;rw[TD hn hi,jq]at xm;rw[gK]at xr
  have q2:(hP (aC c M nd) l s none).length=M.length+(12+(c.af.length+c.af.length)):=by rw[Ay,hg];omega
  have xs:∀o,((hP (aC c M nd) l s none).set (M.length+(9+(c.af.length+i))) o)[M.length+(9+(c.af.length+i))]? =some o:=fun o=>ff (by omega)
  clear q2;have yn:=Hw (n:=M.length+6) (N:=c.af.length) hi;rw[show M.length+6+(3+(c.af.length+i))=M.length+(9+(c.af.length+i)) by omega]at yn;have yl:=CI (n:=M.length+6) (N:=c.af.length) (m:=c.af.length) (aT _);have yt:List.take c.af.length (dZ (M.length+6) c.af.length c.af.length)=dZ (M.length+6) c.af.length c.af.length:=cj (by rw[yl];exact aT _);obtain⟨_,hp⟩:=cV.1 yn
  have h5:(nd.getD i []).Nodup:=by
   rw[bz,aW (by omega)];exact hd _ (bA _)
  have dc:=Rw a h5
  have fin:(hP (aC c M nd) l s none).set (M.length+(9+(c.af.length+i))) (.map ((dN a (nd.getD i [])).map eK) true)=hP (aC c M (nd.set i (dN a (nd.getD i [])))) l s none:=by
   rw[ag5 (by omega),<-ai8 _ hn hi];rfl
  have h4:(nd.set i (dN a (nd.getD i []))).length=c.af.length:=by rw[kD];exact hn
  have hq:∀x∈nd.set i (dN a (nd.getD i [])),x.Nodup:=fun x hx=>by
   rcases qu hx with h1|h1
   ·exact hd x h1
   ·rw[h1];exact NA a h5
  have h2:=q9 (M:=M) h4
  by_cases h0:dN a (nd.getD i [])=[]
  ·have hh:=ih (j+1) (by omega) (nd.set i (dN a (nd.getD i []))) (gH l i) s.tail h4 hq (by rw[zP];omega) (by omega);have hk:=R' (Γ:=Γ) (aC c M (nd.set i (dN a (nd.getD i [])))) l s i (by omega) (by omega)
   have hy:=fun f hb hf=>Qp (Γ:=Γ) (l:=gH l i) (s:=s.tail) s rfl (f:=f) (up:=up) hb hf (fun m=>SJ hv (nd:=nd.set i (dN a (nd.getD i []))) (by rw[h2];omega))
   rw[h2]at hy hk;rw[show M.length+(10+(c.af.length+c.af.length))+1=M.length+(11+(c.af.length+c.af.length)) by omega]at hk;rw[if_pos h0]
   have h6:(dN a (nd.getD i [])).length=0:=by rw[h0];rfl
   rw[h0]at dc fin;rw[h0]at hk hy hh⊢;generalize(fq a (bs.drop (j+1)) (nd.set i []) (gH l i) s.tail)=R at*;generalize hP (aC c M nd) l s none=X at*;generalize hP (aC c M (nd.set i [])) l s none=Y at*;generalize hP (aC c M (nd.set i [])) (gH l i) s.tail none=Z at*;generalize hP (aC c M (nd.set i [])) (gH l i) s.tail (gP s)=W at*;generalize dZ (M.length+6) c.af.length c.af.length=E at*;generalize ps:nd.getD i []=z at*;refine .dh 60 ?_;simp(disch:=omega) [q1,xr,xi,xw,xn,xm,yn,yl,yt,hp,hi,dc,xs,isKey,bM,bV];simp at fin;rw[fin];refine .SD 1 60 hk ?_;simp(disch:=omega);refine .trans (hy _ (by simp) (by intro m;simp;omega)) ?_;refine .aI ?_;simp at hh⊢;exact hh
  ·have hh:=ih (j+1) (by omega) (nd.set i (dN a (nd.getD i []))) l s h4 hq (by omega) (by omega);rw[if_neg h0]
   have e1:¬(dN a (nd.getD i [])).length=0:=by simpa using h0
   generalize(fq a (bs.drop (j+1)) (nd.set i (dN a (nd.getD i []))) l s)=R at*;generalize hP (aC c M nd) l s none=X at*;generalize hP (aC c M (nd.set i (dN a (nd.getD i [])))) l s none=Y at*;generalize dZ (M.length+6) c.af.length c.af.length=E at*;generalize dN a (nd.getD i [])=z' at*;generalize ps:nd.getD i []=z at*;refine .dh 60 ?_;simp(disch:=omega) [q1,xr,xi,xw,xn,xm,yn,yl,yt,hp,hi,dc,xs,isKey,bM,bV,h0,e1];rw[fin];refine .aI ?_;simp at hh⊢;exact hh
theorem Ib{l:List Nat}{i j:Nat}(hi:i<l.length)(hj:j<l.length):(swp l i j).Perm l:=by
 rw[List.perm_iff_count];intro a
 have e1:l.getD i 0=l[i]:=by rw[bz,aW hi];rfl
 have e2:l.getD j 0=l[j]:=by rw[bz,aW hj];rfl
 have e3:(l.set i l[j])[j]'(by simpa using hj)=l[j]:=by
  rw[List.getElem_set];split<;>rfl
 rw[swp,e1,e2,List.count_set (by simpa using hj),List.count_set hi,e3]
 have hp:l[i]=a->0<l.count a:=fun h=>Yf.2 (h▸bA hi)
 by_cases h1:l[i]=a
 ·have:=hp h1
  by_cases h2:l[j]=a<;>simp[h1,h2]<;>omega
 ·by_cases h2:l[j]=a<;>simp[h1,h2]
theorem ag2(j:Nat):∀l:List Nat,j<l.length->(oh l j).Perm l:=by
 induction j using Nat.strongRecOn with
 |_ j ih=>
  intro l hj;rw[oh]
  split
  ·exact .refl _
  ·split
   ·exact(ih _ (by omega) _ (by rw[ep];omega)).trans (Ib (by omega) hj)
   ·exact .refl _
theorem adC(n:Nat):∀(m i:Nat)(l:List Nat),n-i<=m->n<=l.length->i<l.length->(iF n l i).1.Perm l:=by
 intro m
 induction m with
 |zero=>
  intro i l h hn hi;rw[iF,if_pos (by omega)]
 |succ m ih=>
  intro i l h hn hi;rw[iF]
  split
  ·exact .refl _
  ·split
   ·have:=At l (2*i+1) n;have:=DP l (j:=2*i+1) (n:=n) (by omega);exact(ih _ _ (by omega) (by rw[ep];omega) (by rw[ep];omega)).trans (Ib hi (by omega))
   ·exact .refl _
theorem zC(l:List Nat)(x:Nat):(gH l x).Perm (x::l):=(ag2 _ _ (by simp)).trans List.perm_append_comm
def bB(l:List Nat):Nat:=(dQ l).getD (l.length-1) 0
def d_(l:List Nat):List Nat:=(dQ l).take (l.length-1)
theorem ad9{l:List Nat}(h:0<l.length):(dQ l).Perm l:=by
 rw[dQ];exact(adC _ _ _ _ (aT _) (by rw[ep];omega) (by rw[ep];omega)).trans (Ib h (by omega))
theorem ad4{l:List Nat}(h:0<l.length):dQ l=d_ l++[bB l]:=by
 have hl:=C3 l
 have h2:l.length-1<(dQ l).length:=by omega
 have h5:(dQ l).getD (l.length-1) 0=(dQ l)[l.length-1]:=by rw[bz,aW h2];rfl
 rw[bB,d_,h5]
 conv=>lhs;rw[<-lY (l.length-1) (dQ l)]
 congr 1;rw[bJ h2,bx (by omega)]
theorem OD{l:List Nat}(h:0<l.length):(bB l::d_ l).Perm l:=by
 have:=ad9 h;rw[ad4 h]at this;exact List.perm_append_comm.symm.trans this
theorem OK(l:List Nat):(d_ l).length=l.length-1:=by rw[d_,fw,C3];omega
def mf(n:Nat)(l:List Nat):Prop:=∀k,0<k->k<n->l.getD ((k-1)/2) 0<=l.getD k 0
theorem Af{l:List Nat}{i j:Nat}(hi:i<l.length)(hj:j<l.length)(k:Nat):(swp l i j).getD k 0=if k=j then l.getD i 0 else if k=i then l.getD j 0 else l.getD k 0:=by
 simp only[swp,bz,qy,kD]
 by_cases h1:j=k
 ·subst h1;simp[hj]
 ·have hv:¬k=j:=fun h=>h1 h.symm
  by_cases h2:i=k
  ·subst h2;simp[h1,hv,hi]
  ·have hb:¬k=i:=fun h=>h2 h.symm
   simp[h1,hv,h2,hb]
theorem aga(j:Nat):∀l:List Nat,j<l.length->(∀k,0<k->k<l.length->k≠j->l.getD ((k-1)/2) 0<=l.getD k 0)->(0<j->∀k,k<l.length->0<k->(k-1)/2=j->l.getD ((j-1)/2) 0<=l.getD k 0)->mf l.length (oh l j):=by
 induction j using Nat.strongRecOn with
 |_ j ih=>
  intro l hj h1 h2;rw[oh]
  split
  ·rename_i h0;intro k hk hv;exact h1 k hk hv (by omega)
  ·rename_i h0
   have hl:(j-1)/2<l.length:=by omega
   split
   ·rename_i hf;have hs:=Af hl hj
    have key:mf (swp l ((j-1)/2) j).length (oh (swp l ((j-1)/2) j) ((j-1)/2)):=by
     refine ih _ (by omega) _ (by rw[ep];exact hl) (fun k hk hv q1=>?_) (fun hp k hv hk q1=>?_)
     ·rw[ep]at hv;rw[hs,hs]
      have hq:¬(k-1)/2=j\/(k-1)/2=j:=by omega
      by_cases hb:k=j
      ·subst hb;rw[if_neg (by omega),if_pos rfl,if_pos rfl];omega
      ·rw[if_neg hb,if_neg q1];have hx:=h1 k hk hv hb
       by_cases hc:(k-1)/2=j
       ·rw[if_pos hc];exact h2 (by omega) k hv hk hc
       ·rw[if_neg hc]
        by_cases hd:(k-1)/2=(j-1)/2
        ·rw[if_pos hd]
         rw[hd]at hx;omega
        ·rw[if_neg hd];exact hx
     ·rw[ep]at hv;rw[hs,hs,if_neg (by omega),if_neg (by omega)];have h4:=h1 ((j-1)/2) hp hl (by omega)
      by_cases hb:k=j
      ·rw[if_pos hb];exact h4
      ·rw[if_neg hb,if_neg (by omega)];have hx:=h1 k hk hv hb
       rw[q1]at hx;omega
    rw[ep]at key;exact key
   ·rename_i hy;intro k hk hv
    by_cases hb:k=j
    ·subst hb;omega
    ·exact h1 k hk hv hb
theorem NB{l:List Nat}(h:mf l.length l)(x:Nat):mf (gH l x).length (gH l x):=by
 have e:(gH l x).length=(l++[x]).length:=by rw[zP];simp
 have g:∀k,k<l.length->(l++[x]).getD k 0=l.getD k 0:=fun k hk=>by simp[cF hk]
 rw[e,gH];refine aga _ _ (by simp) (fun k hk h2 hv=>?_) (fun hj k h2 hk hb=>?_)
 ·simp only[bC,ve]at h2;rw[g _ (by omega),g _ (by omega)];exact h k hk (by omega)
 ·simp only[bC,ve]at h2;omega
theorem adq(n:Nat):∀(m i:Nat)(l:List Nat),n-i<=m->n<=l.length->i<l.length->(∀k,0<k->k<n->(k-1)/2≠i->l.getD ((k-1)/2) 0<=l.getD k 0)->(0<i->∀k,k<n->0<k->(k-1)/2=i->l.getD ((i-1)/2) 0<=l.getD k 0)->mf n (iF n l i).1:=by
 intro m
 induction m with
 |zero=>
  intro i l h hn hi h1 h2;rw[iF,if_pos (by omega)];intro k hk hv;exact h1 k hk hv (by omega)
 |succ m ih=>
  intro i l h hn hi h1 h2;rw[iF]
  split
  ·intro k hk hv;exact h1 k hk hv (by omega)
  ·rename_i hc;have kg:=At l (2*i+1) n;have kl:=DP l (j:=2*i+1) (n:=n) (by omega)
   have kk:iq l (2*i+1) n=2*i+1\/iq l (2*i+1) n=2*i+2:=by unfold iq;split<;>omega
   have least:∀k,k<n->0<k->(k-1)/2=i->l.getD (iq l (2*i+1) n) 0<=l.getD k 0:=by
    intro k hv hk hx
    have q1:k=2*i+1\/k=2*i+1+1:=by omega
    unfold iq
    split
    ·rename_i hh
     rcases q1 with rfl|rfl
     ·omega
     ·exact aT _
    ·rename_i hh
     rcases q1 with rfl|rfl
     ·exact aT _
     ·have:¬l.getD (2*i+1+1) 0<l.getD (2*i+1) 0:=fun h=>hh ⟨hv,h⟩
      omega
   generalize iq l (2*i+1) n=j at*
   have h4:j<l.length:=by omega
   have hs:=Af hi h4
   split
   ·rename_i hq;refine ih _ _ (by omega) (by rw[ep];exact hn) (by rw[ep];exact h4) (fun k hk hv hx=>?_) (fun hp k hv hk hx=>?_)
    ·rw[hs,hs,if_neg hx]
     by_cases hf:k=j
     ·subst hf;rw[if_pos rfl,if_pos (by omega)];omega
     ·rw[if_neg hf]
      by_cases hb:(k-1)/2=i
      ·rw[if_pos hb,if_neg (by omega)];exact least k hv hk hb
      ·rw[if_neg hb];have hy:=h1 k hk hv hb
       by_cases hj:k=i
       ·rw[if_pos hj];subst hj;exact h2 hk j kl (by omega) (by omega)
       ·rw[if_neg hj];exact hy
    ·rw[hs,hs]
     have h5:(j-1)/2=i:=by omega
     have hl:¬i=j:=by omega
     rw[h5,if_neg hl,if_pos rfl,if_neg (by omega),if_neg (by omega)];have:=h1 k hk hv (by omega)
     rw[hx]at this;exact this
   ·rename_i ht;intro k hk hv
    by_cases hb:(k-1)/2=i
    ·have:=least k hv hk hb
     show l.getD ((k-1)/2) 0<=l.getD k 0
     rw[hb];omega
    ·exact h1 k hk hv hb
theorem aeO{n:Nat}{l:List Nat}(h:mf n l):∀k,k<n->l.getD 0 0<=l.getD k 0:=by
 intro k
 induction k using Nat.strongRecOn with
 |_ k ih=>
  intro hk
  by_cases h0:k=0
  ·subst h0;exact aT _
  ·have h1:=h k (by omega) hk;have h2:=ih ((k-1)/2) (by omega) (by omega);omega
theorem adm{l:List Nat}(h:mf l.length l)(h0:0<l.length):mf (d_ l).length (d_ l):=by
 have hs:=Af (l:=l) (i:=0) (j:=l.length-1) h0 (by omega)
 have hd:mf (l.length-1) (dQ l):=by
  rw[dQ];refine adq _ _ 0 _ (aT _) (by rw[ep];omega) (by rw[ep];omega) (fun k hk h2 hv=>?_) (fun hp=>absurd hp (by omega));rw[hs,hs,if_neg (by omega),if_neg hv,if_neg (by omega),if_neg (by omega)];exact h k hk (by omega)
 have hl:=C3 l
 have g:∀k,k<l.length-1->(d_ l).getD k 0=(dQ l).getD k 0:=fun k hk=>by
  rw[d_];simp only[bz];rw[nC hk]
 rw[OK];intro k hk h2;rw[g _ (by omega),g _ h2];exact hd k hk h2
theorem agk{l:List Nat}(h0:0<l.length):bB l=l.getD 0 0:=by
 have hs:=Af (l:=l) (i:=0) (j:=l.length-1) h0 (by omega)
 have gp:∀(n m i:Nat)(x:List Nat),n-i<=m->n<x.length->i<=n->(i<x.length)->(i<n\/n=0)->(iF n x i).1.getD n 0=x.getD n 0:=by
  intro n m
  induction m with
  |zero=>
   intro i x h1 h2 h3 h4 h5;rw[iF,if_pos (by omega)]
  |succ m ih=>
   intro i x h1 h2 h3 h4 h5;rw[iF]
   split
   ·rfl
   ·rename_i hc;have kg:=At x (2*i+1) n;have kl:=DP x (j:=2*i+1) (n:=n) (by omega);generalize iq x (2*i+1) n=j at*
    split
    ·rw[ih j _ (by omega) (by rw[ep];exact h2) (by omega) (by rw[ep];omega) (by omega),Af h4 (by omega),if_neg (by omega),if_neg (by omega)]
    ·rfl
 rw[bB,dQ,gp _ _ 0 _ (aT _) (by rw[ep];omega) (by omega) (by rw[ep];omega) (by omega),hs,if_pos rfl]
theorem agd{l:List Nat}(h:mf l.length l)(h0:0<l.length){x:Nat}(hx:x∈l):bB l<=x:=by
 rw[agk h0];obtain⟨k,hk,rfl⟩:=gb hx;have:=aeO h k hk;rw[bz (i:=k),aW hk]at this;exact this
def rA(b:List (List Nat)):Nat->List (List Nat)->List Nat->List Nat->List Nat
 |0,_,_,_=>[]
 |f+1,nd,l,s=>if l=[]then[]else
  bB l::rA b f (fq (bB l) (b.getD (bB l) []) nd (d_ l) (bB l::s)).1 (fq (bB l) (b.getD (bB l) []) nd (d_ l) (bB l::s)).2.1 (fq (bB l) (b.getD (bB l) []) nd (d_ l) (bB l::s)).2.2
def uI(b:List (List Nat)):Nat->List (List Nat)->List Nat->List Nat->Prop
 |0,_,l,_=>l=[]
 |f+1,nd,l,s=>l=[]\/uI b f (fq (bB l) (b.getD (bB l) []) nd (d_ l) (bB l::s)).1 (fq (bB l) (b.getD (bB l) []) nd (d_ l) (bB l::s)).2.1 (fq (bB l) (b.getD (bB l) []) nd (d_ l) (bB l::s)).2.2
theorem IS(a N:Nat):∀(r:List Nat)(nd:List (List Nat))(l s:List Nat),(∀i∈r,i<N)->nd.length=N->(∀x∈nd,x.Nodup)->(∀x∈l,x<N)->
 (fq a r nd l s).1.length=N/\(∀x∈(fq a r nd l s).1,x.Nodup)/\(∀x∈(fq a r nd l s).2.1,x<N)/\(fq a r nd l s).2.1.length<=l.length+r.length
 |[],nd,l,s,_,h2,h3,h4=>⟨h2,h3,h4,by simp[fq]⟩
 |i::r,nd,l,s,h1,h2,h3,h4=>by
  have hi:=h1 i (by simp)
  have hn:(nd.set i (dN a (nd.getD i []))).length=N:=by simpa using h2
  have hd:∀x∈nd.set i (dN a (nd.getD i [])),x.Nodup:=fun x hx=>by
   rcases qu hx with h5|h5
   ·exact h3 x h5
   ·rw[h5];refine NA a ?_;rw[bz,aW (by omega)];exact h3 _ (bA _)
  rw[fq]
  split
  ·have:=IS a N r _ (gH l i) s.tail (fun x hx=>h1 x (by simp[hx])) hn hd (fun x hx=>by
    have:=(zC l i).mem_iff.1 hx
    rcases bD.1 this with rfl|h6
    ·exact hi
    ·exact h4 x h6)
   rw[zP]at this;refine⟨this.1,this.2.1,this.2.2.1,?_⟩;have:=this.2.2.2
   simp only[bL];omega
  ·have:=IS a N r _ l s (fun x hx=>h1 x (by simp[hx])) hn hd h4;refine⟨this.1,this.2.1,this.2.2.1,?_⟩;have:=this.2.2.2
   simp only[bL];omega
theorem ali(c:Ct)(hc:cH c)(e2:∀x∈bQ c,x.length<=2^21/\∀i∈x,i<c.af.length){S:Type}(M:S->List Ob)(F:S->Nat->S)(n L r:Nat)(hM:∀x,(M x).length=n)(hv:∀x,eT (M x))(hr:r<n)(I:S->Nat->Prop)(hI:∀x k a,I x k->a<c.af.length->I (F x a) (k+1))
 (hB:∀x k a T up,I x k->k<2^20->a<c.af.length->(∀m,up.all (iQ r m)=true)->(∀m,c8 r m T=true)->AM.Reach ak Γ ((jM.yl L).cfg [.int .i64 a] up (M x++T)) (.back up (.bool true) (M (F x a)++T)))
 (up:List Fr)(hp:∀m,up.all (iQ r m)=true):∀(f:Nat)(x:S)(k:Nat)(nd:List (List Nat))(l s:List Nat),nd.length=c.af.length->(∀x∈nd,x.Nodup)->(∀a∈l,a<c.af.length)->l.length+f*2^22<=2^37->I x k->k+f<=2^20->uI (bQ c) f nd l s->
 ∃T,AM.Reach ak Γ (UQ (.de L) (.ptr (n+(9+(c.af.length+c.af.length))) 0) (.ptr (n+(11+(c.af.length+c.af.length))) 0) (hP (aC c (M x) nd) l s none) ⟨[],.norm,n,up⟩)
  (.back up (.aH []) (M ((rA (bQ c) f nd l s).foldl F x)++T)):=by
 have stop:∀(x:S)(nd:List (List Nat))(s:List Nat),nd.length=c.af.length->∃T,AM.Reach ak Γ (UQ (.de L) (.ptr (n+(9+(c.af.length+c.af.length))) 0) (.ptr (n+(11+(c.af.length+c.af.length))) 0) (hP (aC c (M x) nd) [] s none) ⟨[],.norm,n,up⟩)
  (.back up (.aH []) (M x++T)):=by
  intro x nd s hn;have q1:=q9 (M:=M x) hn;rw[hM]at q1;have xc:=p9 (A:=aC c (M x) nd) (l:=[]) (s:=s) (g:=none);have h1:=DT (Γ:=Γ) (aC c (M x) nd) [] s none (.inl rfl)
  have he:hP (aC c (M x) nd) [] s none=M x++(tC c n nd++[.row 1 au (s.map iN) none true false,.cells [.sl (n+(10+(c.af.length+c.af.length))) 0 0]]):=by
   rw[hP,q1]
   conv=>lhs;rw[AL,hM]
   simp
  rw[q1,show n+(10+(c.af.length+c.af.length))+1=n+(11+(c.af.length+c.af.length)) by omega]at xc;rw[q1]at h1;refine⟨tC c n nd++[.row 1 au (s.map iN) none true false,.cells [.sl (n+(10+(c.af.length+c.af.length))) 0 0]],?_⟩;rw[<-he];generalize hP (aC c (M x) nd) [] s none=X at*;simp at xc h1;refine .aY 60 ?_;simp[xc];refine .aX 60 h1 ?_;simp
 intro f
 induction f with
 |zero=>
  intro x k nd l s hn hd hl hb h5 hk hE;rw[uI]at hE;subst hE;rw[rA];exact stop x nd s hn
 |succ f ih=>
  intro x k nd l s hn hd hl hb h5 hk hE;rw[rA]
  by_cases h0:l=[]
  ·subst h0;rw[if_pos rfl];exact stop x nd s hn
  ·rw[uI]at hE;have hE:=hE.resolve_left h0;rw[if_neg h0];have h4:0<l.length:=rW.2 h0;have hg:=OD h4;have ha:bB l<c.af.length:=hl _ (hg.mem_iff.1 (by simp))
   have h6:∀y∈d_ l,y<c.af.length:=fun y hy=>hl _ (hg.mem_iff.1 (by simp[hy]))
   have hz:(bQ c).getD (bB l) []∈bQ c:=by
    rw[bz,aW (by rw[i_];exact ha)];exact bA _
   obtain⟨fz,q2⟩:=e2 _ hz;have hf:=IS (bB l) c.af.length ((bQ c).getD (bB l) []) nd (d_ l) (bB l::s) q2 hn hd h6;have ps:=OK l
   have h3:=fun M' ys=>akV (Γ:=Γ) c hc (M:=M') ys L (bB l) ha q2 up ((bQ c).getD (bB l) []).length 0 (by omega) nd (d_ l) (bB l::s) hn hd (by omega) (by omega)
   obtain⟨T,hT⟩:=ih (F x (bB l)) (k+1) _ _ _ hf.1 hf.2.1 hf.2.2.1 (by have:=hf.2.2.2;omega) (hI x k _ h5 ha) (by omega) hE;refine⟨T,?_⟩;have q1:=q9 (M:=M x) hn;have hq:=q9 (M:=M (F x (bB l))) hn;rw[hM]at q1 hq;have ht:=h3 (M (F x (bB l))) (hv _);rw[fM,hM]at ht;have xc:=p9 (A:=aC c (M x) nd) (l:=l) (s:=s) (g:=none);have h1:=DT (Γ:=Γ) (aC c (M x) nd) l s none (.inl rfl);have h2:=aly (Γ:=Γ) (aC c (M x) nd) l s h4 (by omega);rw[q1]at xc h1 h2;rw[show n+(10+(c.af.length+c.af.length))+1=n+(11+(c.af.length+c.af.length)) by omega]at xc h2;rw[show(dQ l).getD (l.length-1) 0=bB l from rfl,show(dQ l).take (l.length-1)=d_ l from rfl]at h2
   let T2:List Ob:=tC c n nd++[.row 1 au ((d_ l++bB l::s).map iN) none true false,.cells [.sl (n+(10+(c.af.length+c.af.length))) 0 (d_ l).length]]
   have he:∀y,hP (aC c (M y) nd) (d_ l) (bB l::s) none=M y++T2:=fun y=>by
    have hy:=q9 (M:=M y) hn;rw[hM]at hy;rw[hP,hy]
    conv=>lhs;rw[AL,hM]
    simp[T2]
   have e1:∀m,c8 r m T2=true:=fun m=>by
    have h7:(n+(10+(c.af.length+c.af.length))==r)=false:=by simp;omega
    rw[show T2=tC c n nd++[.row 1 au ((d_ l++bB l::s).map iN) none true false,.cells [.sl (n+(10+(c.af.length+c.af.length))) 0 (d_ l).length]]from rfl,j6,aka n hr];simp[h7]
   have hx:=fun up hp=>hB x k (bB l) T2 up h5 (by omega) ha hp e1
   rw[<-he,<-he]at hx
   have ck:(0:Int)<l.length:=by omega
   have xw:=rz (A:=aC c (M (F x (bB l))) nd) (l:=d_ l) (s:=bB l::s) (g:=none) (i:=n+(9+(c.af.length+c.af.length))) (by omega);have xb:=rz (A:=aC c (M (F x (bB l))) nd) (l:=d_ l) (s:=bB l::s) (g:=none) (i:=n+8) (by omega);have w1:=JZ (M:=M (F x (bB l))) hn;have w2:=al5 (c:=c) (M:=M (F x (bB l))) (nd:=nd);rw[hM]at w1 w2;rw[w1]at xw;rw[w2]at xb;have yb:=uj (n:=n+6) (b:=bQ c) (k:=bB l) (by rw[i_];exact ha)
   have q3:(bQ c)[bB l]'(by rw[i_];exact ha)=(bQ c).getD (bB l) []:=by rw[bz,aW (by rw[i_];exact ha)];rfl
   rw[q3,show n+6+(3+bB l)=n+(9+bB l) by omega]at yb;have zl:=sA (n+6) (bQ c);rw[i_]at zl;have zt:List.take c.af.length (gQ (n+6) (bQ c))=gQ (n+6) (bQ c):=cj (by rw[zl];exact aT _);obtain⟨_,k2⟩:=cV.1 yb;generalize gu:fq (bB l) ((bQ c).getD (bB l) []) nd (d_ l) (bB l::s)=R at*;have hj:(bB l::rA (bQ c) f R.1 R.2.1 R.2.2).foldl F x=(rA (bQ c) f R.1 R.2.1 R.2.2).foldl F (F x (bB l)):=rfl;rw[hj];clear hj he e1 h3 hf w1 w2;generalize hP (aC c (M x) nd) l s none=X at*;generalize hP (aC c (M x) nd) (d_ l) (bB l::s) none=Y at*;generalize hP (aC c (M (F x (bB l))) nd) (d_ l) (bB l::s) none=Z at*;generalize hP (aC c (M (F x (bB l))) R.1) R.2.1 R.2.2 none=W at*;generalize gQ (n+6) (bQ c)=E at*;generalize(bQ c).getD (bB l) []=bs at*
   generalize bB l=a at*;refine .aY 60 ?_;simp[xc];refine .aX 60 h1 ?_;simp[h4];refine .aX 8 h2 ?_;simp;refine Reach.ak9 (l:=L) (args:=[.int .i64 a]) (v:=.bool true) (h':=Z) (by simp) (hx _ (fun m=>by simp[hp m];omega)) ?_;refine .aY 60 ?_;simp[xw,xb,yb,k2,zl,zt,ha];refine .inLoop ?_;simp at ht⊢;refine .trans ht ?_;refine .aY 60 ?_;simp;refine .aI ?_;simp at hT⊢;exact hT
theorem Ih(nd:List (List Nat))(N:Nat):∀(m i:Nat)(l:List Nat),i+m=N->(∀a∈l,a<N)->(∀a∈jU nd m i l,a<N)/\(jU nd m i l).length<=l.length+m
 |0,i,l,h,hl=>⟨hl,by simp[jU]⟩
 |m+1,i,l,h,hl=>by
  rw[jU]
  split
  ·have:=Ih nd N m (i+1) (gH l i) (by omega) (fun a ha=>by
    rcases bD.1 ((zC l i).mem_iff.1 ha)with rfl|h1
    ·omega
    ·exact hl a h1)
   rw[zP]at this;exact⟨this.1,by omega⟩
  ·have:=Ih nd N m (i+1) l (by omega) hl;exact⟨this.1,by omega⟩
theorem GH(pl:List (Bs×Nat)):∀(l:List Bs)(a:List Nat),a.Nodup->(fV pl l a).Nodup
 |[],a,h=>h
 |s::r,a,h=>by
  rw[fV]
  split
  ·exact GH pl r a h
  ·refine GH pl r _ ?_
   split
   ·exact h
   ·rename_i k _ hk;rw[mH];refine⟨h,by simp,fun x hx y hy=>?_⟩;simp only[cL]at hy;subst hy
    exact fun he=>hk (he▸hx)
theorem M7(pl:List (Bs×Nat)):∀(l:List Gt)(i:Nat)(nd b:List (List Nat)),(∀x∈nd,x.Nodup)->∀x∈(gD pl l i nd b).1,x.Nodup
 |[],_,_,_,h=>h
 |g::r,i,nd,b,h=>by
  rw[gD]
  refine M7 pl r _ _ _ fun x hx=>?_
  rcases a8.1 hx with h1|h1
  ·exact h x h1
  ·rw[cL]at h1
   rw[h1];exact GH pl _ _ (by simp)
theorem abB(c:Ct):∀x∈eL c,x.Nodup:=M7 _ _ _ _ _ (by simp)
theorem IY(pl:List (Bs×Nat))(i:Nat):∀(l:List Bs)(a:List Nat)(b:List (List Nat)),∀x∈kz pl i l a b,∀y∈x,y=i\/∃z∈b,y∈z
 |[],_,_,x,hx,y,hy=>.inr ⟨x,hx,hy⟩
 |s::r,a,b,x,hx,y,hy=>by
  rw[kz]at hx
  split at hx
  ·exact IY pl i r a b x hx y hy
  ·rename_i k _
   rcases IY pl i r _ _ x hx y hy with h|⟨z,hz,hv⟩
   ·exact .inl h
   ·split at hz
    ·exact .inr ⟨z,hz,hv⟩
    ·rcases qu hz with h1|h1
     ·exact .inr ⟨z,h1,hv⟩
     ·rw[h1]at hv
      rcases a8.1 hv with h2|h2
      ·by_cases hk:k<b.length
       ·rw[bz,aW hk]at h2;exact .inr ⟨_,bA hk,h2⟩
       ·rw[bz,gy (by omega)]at h2;simp at h2
      ·exact .inl (by simpa using h2)
theorem OL(pl:List (Bs×Nat)):∀(l:List Gt)(i N B:Nat)(nd b:List (List Nat)),(∀g∈l,g.ins.length<2^10)->i+l.length=N->(∀x∈b,x.length<=B/\∀y∈x,y<N)->∀x∈(gD pl l i nd b).2,x.length<=B+l.length*2^10/\∀y∈x,y<N
 |[],_,_,_,_,_,_,_,h=>fun x hx=>by simpa using h x hx
 |g::r,i,N,B,nd,b,hg,hN,h=>fun x hx=>by
  rw[gD]at hx;simp only[bL]at hN⊢;have hb:=IW pl i B g.ins [] b (fun x hx=>(h x hx).1)
  have:=OL pl r (i+1) N (B+2^10) _ _ (fun y hy=>hg y (by simp[hy])) (by omega) (fun y hy=>by
   have:=hb y hy;have:=hg g (by simp);refine⟨by omega,fun z hz=>?_⟩
   rcases IY pl i g.ins [] b y hy z hz with h1|⟨w,hw,h2⟩
   ·omega
   ·exact(h w hw).2 z h2) x hx
  rw[Fz];exact⟨by omega,this.2⟩
theorem agV{c:Ct}(hc:cH c):∀x∈bQ c,x.length<=2^21/\∀i∈x,i<c.af.length:=fun x hx=>by
 have hN:=hc.2.2.2.1
 have:=OL (cB c) c.af 0 c.af.length 0 [] (List.replicate c.af.length []) (fun g hg=>(hc.2.2.2.2.1 g hg).2.1) (by omega) (fun y hy=>by
  rw[Yh]at hy
  rw[hy.2];simp) x hx
 exact⟨by omega,this.2⟩
def pQ(c:Ct)(f:Nat):List Nat:=rA (bQ c) f (eL c) (jU (eL c) c.af.length 0 []) []
def J9(c:Ct)(f:Nat):Prop:=uI (bQ c) f (eL c) (jU (eL c) c.af.length 0 []) []
theorem ald(c:Ct){M:List Ob}(hw:bN M){nd:List (List Nat)}(hn:nd.length=c.af.length){m:Nat}(hm:M.length+(10+(c.af.length+c.af.length))<=m):cz m (aC c M nd)=true:=by
 have h1:=hw m (by omega);have h2:=akH c (n:=M.length) (m:=m) (by omega);have h3:=RD (n:=M.length+6) (m:=m) (bQ c) (by rw[i_];omega);have h4:=Hn (n:=M.length+6) (N:=c.af.length) (m:=nd.length) (q:=m) (by omega);rw[AL,qE,tC,qE,qE,qE,qE,h1,h2,Iu,H_];simp[hF,h3,h4];omega
theorem ae4(c:Ct)(hc:cH c)(hd:(c.af.map (·.name)).Nodup){S:Type}(M:S->List Ob)(F:S->Nat->S)(n L r p:Nat)(hM:∀x,(M x).length=n)(hw:∀x,bN (M x))(hv:∀x,eT (M x))(hr:r<n)(hL:L<n)(hp:∀x,(M x)[p]? =some (.cells (AV.cells (bU c))))(I:S->Nat->Prop)(hI:∀x k a,I x k->a<c.af.length->I (F x a) (k+1))
 (hB:∀x k a T up,I x k->k<2^20->a<c.af.length->(∀m,up.all (iQ r m)=true)->(∀m,c8 r m T=true)->AM.Reach ak Γ ((jM.yl L).cfg [.int .i64 a] up (M x++T)) (.back up (.bool true) (M (F x a)++T)))
 (up:List Fr)(hj:∀m,up.all (iQ r m)=true)(x:S)(hl:I x 0)(f:Nat)(hf:f<=2^14)(hE:J9 c f):
 AM.Reach ak Γ (.cl qC [.de L,.ptr p 0] up (M x)) (.back up (.aH []) (M ((pQ c f).foldl F x))):=by
 have hN:=hc.2.2.2.1;have hi:=Ih (eL c) c.af.length c.af.length 0 [] (by omega) (by simp);obtain⟨T,hT⟩:=ali (Γ:=Γ) c hc (agV hc) M F n L r hM hv hr I hI hB up hj f x 0 (eL c) (jU (eL c) c.af.length 0 []) [] (vH c) (abB c) hi.1 (by have:=hi.2;simp only[c_]at this;omega) hl (by omega) hE;have h2:=aki (Γ:=Γ) c hc (hv x) (eL c) (vH c) L (.ptr p 0) up c.af.length 0 (by omega) [] (aT _);have hb:=akq (Γ:=Γ) c hc hd (hw x) (hv x);have hx:=hp x;have h4:=hM x
 have key:AM.Reach ak Γ (.cl qC [.de L,.ptr p 0] up (M x)) (.back up (.aH []) (M ((pQ c f).foldl F x)++T)):=by
  have e1:hQ (je c (M x)) (eL c) (bQ c)++([.cells [.sl (n+7) 0 c.af.length,.sl (n+8) 0 c.af.length]])=aC c (M x) (eL c):=by rw[aC,hM]
  have e2:aC c (M x) (eL c)++[.row 1 au [] none true false,.cells [.sl (aC c (M x) (eL c)).length 0 0]]=hP (aC c (M x) (eL c)) [] [] none:=by simp[hP]
  have e3:=q9 (M:=M x) (vH c)
  have e4:(hQ (je c (M x)) (eL c) (bQ c)).length=n+(9+(c.af.length+c.af.length)):=by rw[mS,lA,i_,vH,hM];omega
  rw[lA]at hb;rw[hM]at h2 hb e3;refine .bp 60 ZW.1 ?_;simp[hx];have e5:=ald c (hw x) (vH c) (m:=n+(10+(c.af.length+c.af.length))) (by rw[hM];omega);have q1:=bd hx;rw[hM]at q1
  have e7:(aC c (M x) (eL c))[p]? =some (.cells (AV.cells (bU c))):=by rw[AL];exact ez hx _
  rw[<-e1]at e2 e5 e7 h2 hT;refine .aX 5 hb ?_;generalize hQ (je c (M x)) (eL c) (bQ c)=X at*;simp
  have et:(X++[Ob.cells [.sl (n+7) 0 c.af.length,.sl (n+8) 0 c.af.length],.row 1 oF [] none true false,.row 1 j9 [] none true false]).take (n+(10+(c.af.length+c.af.length)))=X++[.cells [.sl (n+7) 0 c.af.length,.sl (n+8) 0 c.af.length]]:=by
   rw[show n+(10+(c.af.length+c.af.length))=X.length+1 by omega,List.take_length_add_append];rfl
  refine .lF (n:=n+(10+(c.af.length+c.af.length))) et (by simp[hM]) (by simp;omega) e5 ?_
  have hk:(X++[Ob.cells [.sl (n+7) 0 c.af.length,.sl (n+8) 0 c.af.length]]).length=n+(10+(c.af.length+c.af.length)):=by simp;omega
  rw[hk]at e2;generalize X++[Ob.cells [.sl (n+7) 0 c.af.length,.sl (n+8) 0 c.af.length]]=A at*;refine .agO 60 au (es:=[]) (by simp) rfl ?_;have e6:A++[Ob.row 1 au [] none true false,.cells [.sl (n+(10+(c.af.length+c.af.length))) 0 0]]=hP A [] [] none:=e2
  have e8:=fun os=>ez e7 os
  simp[e8,hk,cG];rw[e6];refine .inLoop ?_
  have e9:n+(10+(c.af.length+c.af.length))+1=n+(11+(c.af.length+c.af.length)):=by omega
  rw[e9,e4,hM];simp at h2⊢;refine .trans h2 ?_;refine .aY 60 ?_;simp;refine .inLoop ?_;unfold pQ;simp at hT⊢;exact hT
 have:=AM.Reach.leave key rfl (by
  rw[hM,<-hM ((pQ c f).foldl F x),List.take_left]
  exact hw _ _ (aT _))
 rw[hM,<-hM ((pQ c f).foldl F x),List.take_left]at this;exact this
theorem P4(N:List Bs):∀l:List Bs,((jG N l).1=6/\(jG N l).2∉N)\/(jG N l=(0,[])/\∀s∈l,s∈N)
 |[]=>.inr ⟨rfl,fun s hs=>by cases hs⟩
 |a::l=>by
  rw[jG]
  by_cases h:a∈N
  ·rw[if_pos h]
   rcases P4 N l with h1|⟨h1,h2⟩
   ·exact .inl h1
   ·refine .inr ⟨h1,fun s hs=>?_⟩
    rcases bD.1 hs with rfl|hs
    ·exact h
    ·exact h2 s hs
  ·rw[if_neg h];exact .inl ⟨rfl,h⟩
theorem PW(r:Int×Bs):∀l:List Gt,kU r l=r/\(∀g∈l,ig g=true)\/(kU r l).1=1
 |[]=>.inl ⟨rfl,fun g hg=>by cases hg⟩
 |g::l=>by
  rw[kU]
  by_cases h:ig g=true
  ·rw[if_pos h]
   rcases PW r l with⟨h1,h2⟩|h1
   ·refine .inl ⟨h1,fun x hx=>?_⟩
    rcases bD.1 hx with rfl|hx
    ·exact h
    ·exact h2 x hx
   ·exact .inr h1
  ·rw[if_neg h];exact .inr rfl
theorem P3(r:Int×Bs):∀l:List Lt,mg r l=r/\(∀q∈l,mR q=true)\/(mg r l).1=1
 |[]=>.inl ⟨rfl,fun g hg=>by cases hg⟩
 |g::l=>by
  rw[mg]
  by_cases h:mR g=true
  ·rw[if_pos h]
   rcases P3 r l with⟨h1,h2⟩|h1
   ·refine .inl ⟨h1,fun x hx=>?_⟩
    rcases bD.1 hx with rfl|hx
    ·exact h
    ·exact h2 x hx
   ·exact .inr h1
  ·rw[if_neg h];exact .inr rfl
theorem PX(r:Int×Bs):∀l:List Bs,pT r l=r/\(∀s∈l,gC s=true)\/(pT r l).1=4
 |[]=>.inl ⟨rfl,fun g hg=>by cases hg⟩
 |g::l=>by
  rw[pT]
  by_cases h:gC g=true
  ·rw[if_pos h]
   rcases PX r l with⟨h1,h2⟩|h1
   ·refine .inl ⟨h1,fun x hx=>?_⟩
    rcases bD.1 hx with rfl|hx
    ·exact h
    ·exact h2 x hx
   ·exact .inr h1
  ·rw[if_neg h];exact .inr rfl
theorem Sg(t:Option Bs)(r:Int×Bs):(t=none/\ow t r=r)\/(ow t r).1=5:=by
 cases t with
 |none=>exact .inl ⟨rfl,rfl⟩
 |some s=>exact .inr rfl
structure eR(c:Ct):Prop where
 nz:gN c=false
 names:∀s∈ry c,gC s=true
 bq:jF (aE c)=none
 outs:jF c.az=none
 init:∀q∈c.ah,mR q=true
 af:∀g∈c.af,ig g=true
 used:∀s∈fT c,s∈aE c
theorem af5(c:Ct):((eJ c).1≠0/\((eJ c).1=6->(eJ c).2∉aE c))\/(eJ c=(0,[])/\eR c):=by
 unfold eJ
 cases hl:gN c with
 |true=>exact .inl ⟨by simp,by simp⟩
 |false=>
  rw[if_neg (by simp)]
  rcases PX (ow (jF (aE c)) (ow (jF c.az) (mg (kU (jG (aE c) (fT c)) c.af) c.ah))) (ry c)with⟨e1,h1⟩|h1
  ·rw[e1]
   rcases Sg (jF (aE c)) (ow (jF c.az) (mg (kU (jG (aE c) (fT c)) c.af) c.ah))with⟨h2,e2⟩|h2
   ·rw[e2]
    rcases Sg (jF c.az) (mg (kU (jG (aE c) (fT c)) c.af) c.ah)with⟨h3,e3⟩|h3
    ·rw[e3]
     rcases P3 (kU (jG (aE c) (fT c)) c.af) c.ah with⟨e4,h4⟩|h4
     ·rw[e4]
      rcases PW (jG (aE c) (fT c)) c.af with⟨e5,h5⟩|h5
      ·rw[e5]
       rcases P4 (aE c) (fT c)with⟨h6,h7⟩|⟨e6,h6⟩
       ·exact .inl ⟨by rw[h6];decide,fun _=>h7⟩
       ·exact .inr ⟨e6,⟨hl,h1,h2,h3,h4,h5,h6⟩⟩
      ·exact .inl ⟨by rw[h5];decide,fun h=>by rw[h5]at h;cases h⟩
     ·exact .inl ⟨by rw[h4];decide,fun h=>by rw[h4]at h;cases h⟩
    ·exact .inl ⟨by rw[h3];decide,fun h=>by rw[h3]at h;cases h⟩
   ·exact .inl ⟨by rw[h2];decide,fun h=>by rw[h2]at h;cases h⟩
  ·exact .inl ⟨by rw[h1];decide,fun h=>by rw[h1]at h;cases h⟩
theorem Gv:∀(l seen:List Bs),mT seen l=none->l.Nodup/\∀s∈l,s∉seen
 |[],seen,_=>⟨List.nodup_nil,fun s hs=>by cases hs⟩
 |a::l,seen,h=>by
  rw[mT]at h
  by_cases hm:a∈seen
  ·rw[if_pos hm]at h;cases h
  ·rw[if_neg hm]at h;obtain⟨h1,h2⟩:=Gv l _ h;refine⟨l0.2 ⟨fun ha=>h2 a ha (by simp),h1⟩,fun s hs=>?_⟩
   rcases bD.1 hs with rfl|hs
   ·exact hm
   ·exact fun hv=>h2 s hs (by simp[hv])
theorem eR.nodup{c:Ct}(h:eR c):(aE c).Nodup:=(Gv _ _ h.bq).1
def GtB(g:Gt):Prop:=g.name.length<2^40/\g.ins.length<2^40/\g.rows.length<2^40/\(∀s∈g.ins,s.length<2^40)/\∀s∈g.rows,s.length<2^40
def gR(c:Ct):Prop:=c.aq.length<2^40/\c.az.length<2^40/\c.ah.length<2^40/\c.af.length<2^40/\(∀g∈c.af,GtB g)/\
 (∀s∈c.aq,s.length<2^40)/\(∀s∈c.az,s.length<2^40)/\∀q∈c.ah,q.name.length<2^40/\q.next.length<2^40
theorem Sa{α:Type}{p:α->Bool}:∀{l:List α},bE p l=false->∀x∈l,p x=false
 |[],_,x,hx=>by cases hx
 |a::l,h,x,hx=>by
  rw[lB,lx]at h
  rcases bD.1 hx with rfl|hx
  ·exact h.1
  ·exact Sa h.2 x hx
theorem N8{c:Ct}(hb:gR c)(hl:gN c=false):cH c:=by
 simp only[gN,lx,jB]at hl;obtain⟨h1,h2,h3⟩:=hl;obtain⟨b1,b2,b3,b4,b5,b6⟩:=hb;refine⟨by omega,by omega,by omega,by omega,fun g hg=>?_,b6⟩;obtain⟨g1,g2,g3,g4⟩:=b5 g hg;have:=Sa h1 g hg;simp only[uz,lx,jB]at this;exact⟨g1,by omega,by omega,g4⟩
theorem Ii(hΓ:fE Γ)(c:Ct)(hb:gR c):aQ ak Γ pD [bU c] (uS (eJ c)):=by
 cases hl:gN c with
 |false=>exact aiT hΓ c (N8 hb hl)
 |true=>
  have b0:=hb.1;have b1:=hb.2.1;have b3:=hb.2.2.1;have b4:=hb.2.2.2.1;have hC:=Mw (Γ:=Γ) (fl:=false) (RR c.af) c.hG (by omega) (h:=Lv c) trivial;have e0:((c.aq.length:Int)+c.ah.length+c.af.length<=200)=(c.aq.length+c.ah.length+c.af.length<=200):=propext (by omega);have e1:((c.az.length:Int)<=200)=(c.az.length<=200):=propext (by omega);refine .run 160 M6.1 (by simp) ?_;unfold eJ
  by_cases h1:c.aq.length+c.ah.length+c.af.length<=200
  ·by_cases h2:c.az.length<=200
   ·simp(disch:=omega) [e0,e1,h1,h2];refine .aX 160 hC ?_
    have h3:bE uz c.af=true:=by
     simp only[gN,fL,bj]at hl
     rcases hl with h|h|h
     ·exact h
     ·omega
     ·omega
    rw[h3];simp;refine .mY 160 (by simp) (nH 8 []) ?_;simp;refine .dr 90 ?_;simp;exact .back (by simp[hl])
   ·simp(disch:=omega) [e0,e1,h1,h2];refine .mY 160 (by simp) (nH 8 []) ?_;simp;refine .dr 90 ?_;simp;exact .back (by simp[hl])
  ·simp(disch:=omega) [e0,e1,h1];refine .mY 160 (by simp) (nH 8 []) ?_;simp;refine .dr 90 ?_;simp;exact .back (by simp[hl])
def me(c:Ct):Bool:=decide ((eJ c).1=0)
theorem Q6(hΓ:fE Γ)(c:Ct)(hb:gR c):aQ ak Γ Gg [bU c] (.bool (me c)):=by
 have hC:=Ii hΓ c hb;unfold me;generalize eJ c=r at*;obtain⟨e,s⟩:=r;refine .run 60 aa0.1 (by simp) ?_;simp;refine .call 60 (by simp) hC ?_;simp;exact .back (by simp)
theorem Ac{c:Ct}(h:me c=true):eR c/\eJ c=(0,[]):=by
 rcases af5 c with⟨h1,_⟩|⟨h1,h2⟩
 ·exact absurd (BD h) h1
 ·exact⟨h2,h1⟩
theorem sq{c:Ct}(hb:gR c)(h:me c=true):cH c:=N8 hb (Ac h).1.nz
theorem vA{c:Ct}(h:me c=true):(c.af.map (·.name)).Nodup:=by
 have:=(Ac h).1.nodup;rw[aE,mH]at this;exact this.2.1
def kQ(c:Ct)(out:List Nat):List (Bs×Nat):=(cB c).filter fun x=>!out.contains x.2
theorem Jj{c:Ct}{x:Bs×Nat}(hx:x∈cB c):∃h:x.2<c.af.length,x.1=c.af[x.2].name:=by
 obtain⟨j,hj,rfl⟩:=gb hx;rw[wm]at hj;rw[Ao c j hj];exact⟨hj,rfl⟩
theorem Db{c:Ct}(hd:(c.af.map (·.name)).Nodup){i j:Nat}(hi:i<c.af.length)(hj:j<c.af.length)(h:c.af[i].name=c.af[j].name):i=j:=by
 have h1:(c.af.map (·.name))[i]'(by simpa using hi)=(c.af.map (·.name))[j]'(by simpa using hj):=by simpa using h
 exact(xQ hd).1 h1
theorem aeM{c:Ct}(hd:(c.af.map (·.name)).Nodup)(out:List Nat){a:Nat}(ha:a<c.af.length):pZ c.af[a].name (kQ c out)=kQ c (out++[a]):=by
 unfold pZ kQ;rw[List.filter_filter];apply List.filter_congr;intro x hx;obtain⟨h1,h2⟩:=Jj hx;have e:(x.1=c.af[a].name)↔x.2=a:=⟨fun h=>Db hd h1 ha (by rw[<-h2,h]),fun h=>by rw[h2];simp[h]⟩;rw[gV];simp only[aB,bj,j4,xI,jB,a8,cL,not_or,e];exact⟨fun h=>⟨h.2,h.1⟩,fun h=>⟨h.2,h.1⟩⟩
theorem ab5{c:Ct}(hd:(c.af.map (·.name)).Nodup)(out:List Nat):((kQ c out).map (·.1)).Nodup:=by
 have h1:((cB c).map (·.1)).Nodup:=by rw[agE];exact hd
 exact h1.sublist ((List.filter_sublist).map _)
theorem O6(c:Ct):kQ c []=cB c:=by simp[kQ]
theorem Pk{c:Ct}(hd:(c.af.map (·.name)).Nodup)(out:List Nat){i:Nat}(hi:i<c.af.length):getM c.af[i].name (kQ c out)=if i∈out then none else some i:=by
 have key:∀l:List (Bs×Nat),(∀x∈l,x∈cB c)->getM c.af[i].name (l.filter fun x=>!out.contains x.2)=if i∈out then none else if(c.af[i].name,i)∈l then some i else none:=by
  intro l
  induction l with
  |nil=>intro _;simp[getM]
  |cons x l ih=>
   intro hl;obtain⟨h1,h2⟩:=Jj (hl x (by simp))
   have ih:=ih fun y hy=>hl y (by simp[hy])
   by_cases hx:x.2=i
   ·have hv:x=(c.af[i].name,i):=by
     obtain⟨a,b⟩:=x;simp only at hx h2;subst hx;rw[h2]
    by_cases ho:i∈out
    ·rw[r8,if_neg (by rw[hv];simpa using ho),ih,if_pos ho,if_pos ho]
    ·rw[r8,if_pos (by rw[hv];simpa using ho),if_neg ho,hv];simp[getM]
   ·have hb:¬c.af[i].name=x.1:=fun h=>hx (Db hd h1 hi (by rw[<-h2,h])).symm.symm
    have hm:((c.af[i].name,i)∈x::l)↔(c.af[i].name,i)∈l:=by
     rw[bD];exact⟨fun h=>h.resolve_left fun h=>hx (by rw[<-h]),.inr⟩
    rw[r8]
    split
    ·rw[getM,if_neg hb,ih];simp only[hm]
    ·rw[ih];simp only[hm]
 have hm:(c.af[i].name,i)∈cB c:=by
  have:=bA (l:=cB c) (n:=i) (by rw[wm];exact hi);rwa[Ao c i hi]at this
 rw[kQ,key _ fun x hx=>hx,if_pos hm]
abbrev lpS:Ob:=.loop .ready .none pA [U,.ptr 0 0,.sl 1 0 0,.sl 2 0 0,.ptr 3 0,.ptr 7 0,U,U,U,U,U,U,U,U,U,U,U,U,U,U,U,U,U,U,U,U,U,U,U,U,U,U,U,U,U,U,U,U,U,U,U,U,U,U,U,U,U,U,U,U,U,U,U,U] [19] (.av La) LQ
abbrev lpE:Ob:=.loop .exhausted .none pA [U,.ptr 0 0,.sl 1 0 0,.sl 2 0 0,.ptr 3 0,.ptr 7 0,U,U,U,U,U,U,U,U,U,U,U,U,U,U,U,U,U,U,U,U,U,U,U,U,U,U,U,U,U,U,U,U,U,U,U,U,U,U,U,U,U,U,U,U,U,U,U,U] [19] (.av La) LQ
abbrev hS(c:Ct)(out:List Nat):List Ob:=[.cells (AV.cells (bU c)),.row 1 au [] none true false,.row 1 aw [] none true false,.cells [.sl 4 0 out.length],.row 1 au (out.map iN) none true false,.cells (AV.cells (bU c)),.map ((kQ c out).map ju) true,.cells [.mp 6],.cells (AV.cells (bU c)),.bK true,lpS]
theorem aky(c:Ct)(hd:(c.af.map (·.name)).Nodup)(out:List Nat)(a:Nat)(T:List Ob)(up:List Fr)(ho:out.length<2^20)(ha:a<c.af.length)(hv:∀m,up.all (iQ 4 m)=true)(hT:∀m,c8 4 m T=true):
 AM.Reach ak Γ ((jM.yl 10).cfg [.int .i64 a] up (hS c out++T)) (.back up (.bool true) (hS c (out++[a])++T)):=by
 have q2:=bG (c.hG.of ha);have h2:=Px (E:=.sc .str) (e:=AV.str) oR (fun n:Nat=>AV.int .i64 n) c.af[a].name (ab5 hd out);rw[aeM hd out ha]at h2
 have hle:(out.length+1)*8<=140737488355328:=by omega
 have hb:=fun m=>qY 4 m (kQ c out)
 simp[jM.cfg];refine .aY 13 ?_;simp(disch:=omega) [hle];refine .trans (.na [19,20,21,22,23] _) ?_;simp[nn];refine .IH (i:=4) rfl (by simp) (hv _) (by simp[hT,hb]) ?_;refine .aY 60 ?_;simp[q2,ha,h2,isKey,bM,bV]
theorem ajo(c:Ct)(out:List Nat):bN (hS c out):=fun m hm=>by
 have h1:=pL m (kQ c out);simp at hm
 simp[h1];omega
theorem aih(c:Ct)(out:List Nat):eT (hS c out):=fun i m hi=>by
 have h1:=qY i m (kQ c out);simp at hi
 simp[h1];omega
def lE(out:List Nat):List Gt->Nat->List Bs
 |[],_=>[]
 |g::r,i=>if i∈out then lE out r (i+1)else g.name::lE out r (i+1)
theorem ahT(c:Ct)(hc:cH c)(hd:(c.af.map (·.name)).Nodup)(out:List Nat):∀n i:Nat,i+n=c.af.length->∀l:List Bs,l.length<=i->
 aA ak Γ (ydi (.ptr 3 0) (.ptr 7 0) (.sl 11 0 l.length) (.list false c.kG (c.af.map df)) (.int .i64 c.af.length) (.int .i64 i)
  [.cells (AV.cells (bU c)),.row 1 au [] none true false,.row 1 aw [] none true false,.cells [.sl 4 0 out.length],.row 1 au (out.map iN) none true false,.cells (AV.cells (bU c)),.map ((kQ c out).map ju) true,.cells [.mp 6],.cells (AV.cells (bU c)),.bK true,lpE,.row 1 aw (l.map .str) none true false] ⟨[.mark 9],.norm,0,[]⟩)
  (.ret (.aH [.own 1 au (out.map iN),.own 1 aw ((l++lE out (c.af.drop i) i).map .str)])):=by
 have hN:=hc.2.2.2.1
 have hv:=fun m=>pL m (kQ c out)
 have hb:=fun i m=>qY i m (kQ c out)
 intro n
 induction n with
 |zero=>
  intro i hi l hl
  have q1:¬i<c.af.length:=by omega
  rw[bx (by omega),lE,ey];refine .go 60 ?_;simp[q1];exact .back (by simp)
 |succ n ih=>
  intro i hi l hl
  have q1:i<c.af.length:=by omega
  have q2:=bG (c.hG.of q1);have h2:=vI (E:=.sc .str) (e:=AV.str) oR (fun n:Nat=>AV.int .i64 n) c.af[i].name (kQ c out);rw[Pk hd out q1]at h2;rw[bJ q1,lE]
  by_cases h0:i∈out
  ·have hh:=ih (i+1) (by omega) l (by omega);rw[if_pos h0]at h2⊢;refine .go 90 ?_;simp(disch:=omega) [q1,q2,h2,isKey,bM,bV];refine .aI ?_;simp;refine .drop 12 rfl (by simp) (by simp) (by simp[hv]) ?_;simp at hh⊢;exact hh
  ·have hh:=ih (i+1) (by omega) (l++[c.af[i].name]) (by simp;omega)
   have hle:((l.length:Int)+1)*16<=140737488355328:=by omega
   rw[if_neg h0]at h2⊢;refine .go 90 ?_;simp(disch:=omega) [q1,q2,h2,isKey,bM,bV,hle];refine .aI ?_;simp;refine .drop 12 rfl (by simp) (by simp) (by simp[hv]) ?_;refine .reset (i:=11) rfl (by simp) (by simp) (by simp[hb]) ?_;simp at hh⊢;exact hh
theorem akK(hΓ:fE Γ)(c:Ct)(hb:gR c)(hr:me c=true)(f:Nat)(hf:f<=2^14)(hE:J9 c f)(hl:(pQ c f).length<2^20):aQ ak Γ pA [bU c] (.aH [.own 1 au ((pQ c f).map iN),.own 1 aw ((lE (pQ c f) c.af 0).map .str)]):=by
 have hc:=sq hb hr;have hd:=vA hr;have hR:=Q6 hΓ c hb;rw[hr]at hR
 have hj:=fun h hw up=>PR (Γ:=Γ) c hc (vA hr) (h:=h) hw up
 have h2:∀(l out:List Nat),l.foldl (fun x a=>x++[a]) out=out++l:=by
  intro l
  induction l with
  |nil=>intro out;simp
  |cons a l ih=>intro out;rw[tv,ih];simp
 have hx:=fun up hv=>ae4 (Γ:=Γ) c hc hd (hS c) (fun x a=>x++[a]) 11 10 4 8 (fun _=>rfl) (ajo c) (aih c) (by omega) (by omega) (fun _=>rfl) (fun x k=>x.length=k) (fun x k a h _=>by simp[h]) (fun x k a T up h hk ha hv hT=>aky c hd x a T up (by omega) ha hv hT) up hv [] rfl f hf hE
 rw[h2,kF]at hx;have h1:=ahT (Γ:=Γ) c hc hd (pQ c f) c.af.length 0 (by omega) [] (by simp);refine .run 60 MS.1 (by simp) ?_;simp;refine .call 60 (by simp) hR ?_;simp;refine .aX 60 (hj _ ?_) ?_
 ·intro m hm;simp at hm
  simp;omega
 simp;refine .go 60 ?_;simp;refine .enter 60 aaA.1 ?_;simp;rw[<-O6 c];refine .reach (hx _ ?_) (.go 60 ?_)
 ·simp
 simp;refine .inLoop ?_;simp at h1⊢;exact h1
theorem aiN(hΓ:fE Γ)(c:Ct)(hb:gR c)(hr:me c=false):aQ ak Γ pA [bU c] (.aH [.own 1 au [],.own 1 aw []]):=by
 have hR:=Q6 hΓ c hb;rw[hr]at hR;refine .run 60 MS.1 (by simp) ?_;simp;refine .call 60 (by simp) hR ?_;simp;exact .back (by simp)
def iy(c:Ct)(i j:Nat):Bool:=match c.af[i]?,c.af[j]? with
 |some g,some h=>g.ins.contains h.name
 |_,_=>false
theorem Av{c:Ct}{i j:Nat}(h:iy c i j=true):i<c.af.length/\j<c.af.length:=by
 unfold iy at h
 split at h
 ·rename_i g h' h1 h2;exact⟨(cV.1 h1).1,(cV.1 h2).1⟩
 ·cases h
theorem Az{c:Ct}{i j:Nat}(hi:i<c.af.length)(hj:j<c.af.length):iy c i j=true↔c.af[j].name∈c.af[i].ins:=by
 simp[iy,hi,hj]
theorem PD{K V:Type}[DecidableEq K]{k:K}{v:V}:∀{l:List (K×V)},getM k l=some v->(k,v)∈l
 |[],h=>by cases h
 |(a,u)::l,h=>by
  rw[getM]at h
  split at h
  ·rename_i h1;cases h;subst h1;simp
  ·exact dH _ (PD h)
theorem Sb{c:Ct}(hd:(c.af.map (·.name)).Nodup){s:Bs}{k:Nat}:getM s (cB c)=some k↔∃h:k<c.af.length,c.af[k].name=s:=by
 constructor
 ·intro h;obtain⟨h1,h2⟩:=Jj (PD h);exact⟨h1,h2.symm⟩
 ·rintro⟨h,rfl⟩
  have:=Pk hd [] h;rw[O6]at this;simpa using this
theorem CL(pl:List (Bs×Nat))(x:Nat):∀(l:List Bs)(a:List Nat),x∈fV pl l a↔x∈a\/∃s∈l,getM s pl=some x
 |[],a=>by simp[fV]
 |s::r,a=>by
  rw[fV]
  split
  ·rename_i h0;rw[CL pl x r a];simp[h0]
  ·rename_i k h0;rw[CL pl x r]
   have hk:(x∈if k∈a then a else a++[k])↔x∈a\/x=k:=by
    split
    ·rename_i hm;exact⟨.inl,fun h=>h.elim id fun h=>h▸hm⟩
    ·simp
   rw[hk];simp only[bD,exists_eq_or_imp,h0,an];constructor
   ·rintro((h|h)|h)
    ·exact .inl h
    ·exact .inr (.inl h.symm)
    ·exact .inr (.inr h)
   ·rintro(h|h|h)
    ·exact .inl (.inl h)
    ·exact .inl (.inr h.symm)
    ·exact .inr h
theorem CF(pl:List (Bs×Nat)):∀(l:List Gt)(i:Nat)(nd b:List (List Nat)),(gD pl l i nd b).1=nd++l.map fun g=>fV pl g.ins []
 |[],_,_,_=>by simp[gD]
 |g::r,i,nd,b=>by rw[gD,CF pl r];simp
theorem zA{c:Ct}(hd:(c.af.map (·.name)).Nodup){i:Nat}(hi:i<c.af.length)(x:Nat):x∈(eL c).getD i []↔iy c i x=true:=by
 have e:(eL c).getD i []=fV (cB c) c.af[i].ins []:=by
  rw[eL,CF];simp[hi]
 rw[e,CL];constructor
 ·rintro(h|⟨s,hs,h⟩)
  ·cases h
  ·obtain⟨h1,h2⟩:=(Sb hd).1 h;exact(Az hi h1).2 (h2▸hs)
 ·intro h;obtain⟨_,h1⟩:=Av h;exact .inr ⟨_,(Az hi h1).1 h,(Sb hd).2 ⟨h1,rfl⟩⟩
theorem Dw(pl:List (Bs×Nat))(i k:Nat):∀(l:List Bs)(a:List Nat)(b:List (List Nat)),k<b.length->(kz pl i l a b).getD k []=if k∈fV pl l a/\k∉a then b.getD k []++[i]else b.getD k []
 |[],a,b,hk=>by
  rw[kz,fV,if_neg (fun h=>h.2 h.1)]
 |s::r,a,b,hk=>by
  rw[kz,fV]
  split
  ·exact Dw pl i k r a b hk
  ·rename_i k0 h0
   by_cases hm:k0∈a
   ·simp only[if_pos hm];exact Dw pl i k r a b hk
   ·simp only[if_neg hm];rw[Dw pl i k r _ _ (by simpa using hk)]
    have hv:(b.set k0 (b.getD k0 []++[i])).getD k []=if k0=k then b.getD k []++[i]else b.getD k []:=by
     simp only[bz,qy]
     by_cases h1:k0=k
     ·subst h1;simp[hk]
     ·simp[h1]
    rw[hv]
    by_cases h1:k0=k
    ·subst h1;have hc:k0∈fV pl r (a++[k0]):=(CL pl k0 r _).2 (.inl (by simp));rw[if_neg (by simp),if_pos rfl,if_pos ⟨hc,hm⟩]
    ·have hb:(k∈fV pl r (a++[k0])/\k∉a++[k0])↔(k∈fV pl r (a++[k0])/\k∉a):=by
      simp only[a8,cL,not_or];exact⟨fun h=>⟨h.1,h.2.1⟩,fun h=>⟨h.1,h.2,fun h2=>h1 h2.symm⟩⟩
     rw[if_neg h1];simp only[hb]
def ou(pl:List (Bs×Nat))(k:Nat):List Gt->Nat->List Nat
 |[],_=>[]
 |g::r,i=>if k∈fV pl g.ins []then i::ou pl k r (i+1)else ou pl k r (i+1)
theorem Pj(pl:List (Bs×Nat))(k:Nat):∀(l:List Gt)(i:Nat)(nd b:List (List Nat)),k<b.length->(gD pl l i nd b).2.getD k []=b.getD k []++ou pl k l i
 |[],_,_,_,_=>by simp[gD,ou]
 |g::r,i,nd,b,hk=>by
  rw[gD,Pj pl k r _ _ _ (by rw[An];exact hk),Dw pl i k g.ins [] b hk,ou]
  split
  ·rename_i h
   rw[if_pos h.1];simp
  ·rename_i h;rw[if_neg fun h1=>h ⟨h1,by simp⟩]
theorem II(pl:List (Bs×Nat))(k j:Nat):∀(l:List Gt)(i:Nat),j∈ou pl k l i↔∃t,∃h:t<l.length,j=i+t/\k∈fV pl l[t].ins []
 |[],i=>by simp[ou]
 |g::r,i=>by
  have ih:=II pl k j r (i+1)
  have hs:(∃t,∃h:t<(g::r).length,j=i+t/\k∈fV pl (g::r)[t].ins [])↔(j=i/\k∈fV pl g.ins [])\/∃t,∃h:t<r.length,j=i+1+t/\k∈fV pl r[t].ins []:=by
   constructor
   ·rintro⟨t,h,e,hm⟩
    cases t with
    |zero=>exact .inl ⟨e,hm⟩
    |succ t=>exact .inr ⟨t,by simpa using h,by omega,hm⟩
   ·rintro(⟨e,hm⟩|⟨t,h,e,hm⟩)
    ·exact⟨0,by simp,e,hm⟩
    ·exact⟨t+1,by simpa using h,by omega,hm⟩
  rw[hs,ou]
  split
  ·rename_i h0;simp only[bD,ih,h0,qo]
  ·rename_i h0;simp only[ih,h0,and_false,false_or]
theorem Hm(pl:List (Bs×Nat))(k:Nat):∀(l:List Gt)(i:Nat),(ou pl k l i).Nodup
 |[],i=>by simp[ou]
 |g::r,i=>by
  rw[ou]
  split
  ·rw[l0];refine⟨fun h=>?_,Hm pl k r (i+1)⟩;obtain⟨t,_,e,_⟩:=(II pl k i r (i+1)).1 h;omega
  ·exact Hm pl k r (i+1)
theorem R1(c:Ct){k:Nat}(hk:k<c.af.length):(bQ c).getD k []=ou (cB c) k c.af 0:=by
 rw[bQ,Pj _ _ _ _ _ _ (by simpa using hk)];simp[hk]
theorem C_{c:Ct}(hd:(c.af.map (·.name)).Nodup){k:Nat}(hk:k<c.af.length)(i:Nat):i∈(bQ c).getD k []↔iy c i k=true:=by
 rw[R1 c hk,II];constructor
 ·rintro⟨t,ht,e,hm⟩
  have:i=t:=by omega
  subst this;rw[<-zA hd ht,eL,CF];simpa[ht]using hm
 ·intro h;obtain⟨hi,_⟩:=Av h;refine⟨i,hi,by omega,?_⟩;rw[<-zA hd hi,eL,CF]at h;simpa[hi]using h
theorem adV(c:Ct){k:Nat}(hk:k<c.af.length):((bQ c).getD k []).Nodup:=by rw[R1 c hk];exact Hm _ _ _ _
def kX(c:Ct)(done:List Nat)(k:Nat):Bool:=!done.contains k&&(List.range c.af.length).all fun x=>!iy c k x||done.contains x
theorem kc{c:Ct}{done:List Nat}{k:Nat}:kX c done k=true↔k∉done/\∀x,iy c k x=true->x∈done:=by
 simp only[kX,aB,j4,xI,jB,eh,dS,fL,bj];constructor
 ·rintro⟨h1,h2⟩
  refine⟨h1,fun x hx=>?_⟩
  rcases h2 x (Av hx).2 with h|h
  ·rw[h]at hx;cases hx
  ·exact h
 ·rintro⟨h1,h2⟩
  refine⟨h1,fun x _=>?_⟩
  cases hx:iy c k x with
  |false=>exact .inl rfl
  |true=>exact .inr (h2 x hx)
def mh(c:Ct)(done:List Nat):Option Nat:=(List.range c.af.length).find? (kX c done)
def jd(c:Ct):Nat->List Nat->List Nat
 |0,_=>[]
 |f+1,done=>match mh c done with
  |none=>[]
  |some k=>k::jd c f (done++[k])
def aS(c:Ct):List Nat:=jd c c.af.length []
theorem NZ{c:Ct}{done:List Nat}{a:Nat}(ha:a<c.af.length)(h1:kX c done a=true)(h2:∀j<a,kX c done j=false):mh c done=some a:=by
 rw[mh,List.find?_range_eq_some];exact⟨h1,by simpa using ha,fun j hj=>by simp[h2 j hj]⟩
theorem adr{c:Ct}{done:List Nat}(h:∀a<c.af.length,kX c done a=false):mh c done=none:=by
 rw[mh,List.find?_eq_none];intro x hx
 rw[h x (by simpa using hx)];simp
theorem PF{c:Ct}{done:List Nat}{a:Nat}(h:mh c done=some a):a<c.af.length/\kX c done a=true/\∀j<a,kX c done j=false:=by
 rw[mh,List.find?_range_eq_some]at h;exact⟨by simpa using h.2.1,h.1,fun j hj=>by simpa using h.2.2 j hj⟩
theorem agy{c:Ct}{done:List Nat}(h:mh c done=none){a:Nat}(ha:a<c.af.length):kX c done a=false:=by
 rw[mh,List.find?_eq_none]at h;simpa using h a (by simpa using ha)
structure Inv(c:Ct)(done:List Nat)(nd:List (List Nat))(l:List Nat):Prop where
 len:nd.length=c.af.length
 T5:∀i<c.af.length,∀x,x∈nd.getD i []↔iy c i x=true/\x∉done
 ls:∀i,i∈l↔i<c.af.length/\kX c done i=true
 Bq:l.Nodup
 heap:mf l.length l
 UL:done.Nodup
 lt:∀x∈done,x<c.af.length
 all:∀i∈done,∀x,iy c i x=true->x∈done
structure uO(c:Ct)(done:List Nat)(a:Nat)(r:List Nat)(nd:List (List Nat))(l:List Nat):Prop where
 len:nd.length=c.af.length
 mu:∀i<c.af.length,i∈r->∀x,x∈nd.getD i []↔iy c i x=true/\x∉done
 new:∀i<c.af.length,i∉r->∀x,x∈nd.getD i []↔iy c i x=true/\x∉done++[a]
 ls:∀i,i∈l↔i<c.af.length/\i∉r/\kX c (done++[a]) i=true
 Bq:l.Nodup
 heap:mf l.length l
theorem ahE(a:Nat)(l:List Nat)(x:Nat):x∈dN a l↔x∈l/\x≠a:=by simp[dN]
theorem uO.run{c:Ct}{done:List Nat}{a:Nat}(ha:a∉done)(hl:∀x,iy c a x=true->x∈done)(hv:∀i∈done,∀x,iy c i x=true->x∈done):∀(r:List Nat)(nd:List (List Nat))(l s:List Nat),r.Nodup->(∀i∈r,iy c i a=true)->uO c done a r nd l->
 uO c done a [] (fq a r nd l s).1 (fq a r nd l s).2.1
 |[],nd,l,s,_,_,h=>h
 |i::r,nd,l,s,hr,hW,h=>by
  have hi:=(Av (hW i (by simp))).1;rw[l0]at hr
  have q1:i∉l:=fun hm=>((h.ls i).1 hm).2.1 (by simp)
  have hid:i∉done:=fun hm=>ha (hv i hm a (hW i (by simp)))
  have ih:i≠a:=fun he=>ha (hl a (he▸hW i (by simp)))
  have hg:∀j,(nd.set i (dN a (nd.getD i []))).getD j []=if i=j then dN a (nd.getD i [])else nd.getD j []:=fun j=>by
   simp only[bz,qy]
   by_cases h1:i=j
   ·subst h1;simp[h.len,hi]
   ·simp[h1]
  have hb:∀x,x∈dN a (nd.getD i [])↔iy c i x=true/\x∉done++[a]:=fun x=>by
   rw[ahE,h.mu i hi (by simp) x];simp only[a8,cL,not_or];exact⟨fun h=>⟨h.1.1,h.1.2,h.2⟩,fun h=>⟨⟨h.1,h.2.1⟩,h.2.2⟩⟩
  have hold:∀j<c.af.length,j∈r->∀x,x∈(nd.set i (dN a (nd.getD i []))).getD j []↔iy c j x=true/\x∉done:=fun j hj hk x=>by
   have hf:¬i=j:=fun he=>hr.1 (he▸hk)
   rw[hg,if_neg hf];exact h.mu j hj (by simp[hk]) x
  have hc:∀j<c.af.length,j∉r->∀x,x∈(nd.set i (dN a (nd.getD i []))).getD j []↔iy c j x=true/\x∉done++[a]:=fun j hj hk x=>by
   rw[hg]
   by_cases he:i=j
   ·subst he;rw[if_pos rfl];exact hb x
   ·rw[if_neg he];exact h.new j hj (by simp only[bD,not_or];exact⟨fun h=>he h.symm,hk⟩) x
  rw[fq]
  split
  ·rename_i h0;refine uO.run ha hl hv r _ _ _ hr.2 (fun j hj=>hW j (by simp[hj])) ⟨by simpa using h.len,hold,hc,fun j=>?_,?_,NB h.heap i⟩
   ·rw[(zC l i).mem_iff,bD];constructor
    ·rintro(rfl|hj)
     ·refine⟨hi,hr.1,kc.2 ⟨by simp[hid,ih],fun x hx=>?_⟩⟩
      refine Ma fun hn=>?_
      have:=(hb x).2 ⟨hx,hn⟩
      rw[h0]at this;cases this
     ·have:=(h.ls j).1 hj;exact⟨this.1,fun h2=>this.2.1 (by simp[h2]),this.2.2⟩
    ·rintro⟨h1,h2,h3⟩
     by_cases he:j=i
     ·exact .inl he
     ·exact .inr ((h.ls j).2 ⟨h1,by simp only[bD,not_or];exact⟨he,h2⟩,h3⟩)
   ·rw[(zC l i).nodup_iff,l0];exact⟨q1,h.Bq⟩
  ·rename_i h0;refine uO.run ha hl hv r _ _ _ hr.2 (fun j hj=>hW j (by simp[hj])) ⟨by simpa using h.len,hold,hc,fun j=>?_,h.Bq,h.heap⟩;rw[h.ls j];refine⟨fun⟨h1,h2,h3⟩=>⟨h1,fun h4=>h2 (by simp[h4]),h3⟩,fun⟨h1,h2,h3⟩=>⟨h1,?_,h3⟩⟩;simp only[bD,not_or];refine⟨fun he=>?_,h2⟩;subst he;apply h0;rw[L'];intro x hx;obtain⟨h5,h6⟩:=(hb x).1 hx;exact h6 ((kc.1 h3).2 x h5)
theorem Inv.step{c:Ct}(hd:(c.af.map (·.name)).Nodup){done:List Nat}{nd:List (List Nat)}{l:List Nat}(h:Inv c done nd l)(h0:l≠[])(s:List Nat):
 mh c done=some (bB l)/\Inv c (done++[bB l]) (fq (bB l) ((bQ c).getD (bB l) []) nd (d_ l) s).1 (fq (bB l) ((bQ c).getD (bB l) []) nd (d_ l) s).2.1:=by
 have hv:0<l.length:=rW.2 h0;have hl:=OD hv;have hp:bB l∈l:=hl.mem_iff.1 (by simp);obtain⟨ha,hk⟩:=(h.ls _).1 hp;obtain⟨q1,ih⟩:=kc.1 hk;have hc:=hl.nodup_iff.2 h.Bq;rw[l0]at hc
 have hn:mh c done=some (bB l):=NZ ha hk fun j hj=>by
  rw[Bz];intro hm;have:=agd h.heap hv ((h.ls j).2 ⟨by omega,hm⟩);omega
 refine⟨hn,?_⟩
 have hR:uO c done (bB l) ((bQ c).getD (bB l) []) nd (d_ l):=by
  refine⟨h.len,fun i hi _ x=>h.T5 i hi x,fun i hi hq x=>?_,fun i=>?_,hc.2,adm h.heap hv⟩
  ·rw[h.T5 i hi x];refine⟨fun⟨h1,h2⟩=>⟨h1,?_⟩,fun⟨h1,h2⟩=>⟨h1,fun h3=>h2 (by simp[h3])⟩⟩;simp only[a8,cL,not_or];exact⟨h2,fun he=>hq ((C_ hd ha i).2 (he▸h1))⟩
  ·have hf:i∈l↔i=bB l\/i∈d_ l:=by rw[<-hl.mem_iff,bD]
   constructor
   ·intro hi;obtain⟨h1,h2⟩:=(h.ls i).1 (hf.2 (.inr hi));obtain⟨h3,h4⟩:=kc.1 h2;refine⟨h1,fun hb=>?_,kc.2 ⟨?_,fun x hx=>by simp[h4 x hx]⟩⟩
    ·exact q1 (h4 _ ((C_ hd ha i).1 hb))
    ·simp only[a8,cL,not_or];exact⟨h3,fun he=>hc.1 (he▸hi)⟩
   ·rintro⟨h1,h2,h3⟩
    obtain⟨h4,h5⟩:=kc.1 h3;simp only[a8,cL,not_or]at h4
    have hi:i∈l:=(h.ls i).2 ⟨h1,kc.2 ⟨h4.1,fun x hx=>by
     have:=h5 x hx;simp only[a8,cL]at this
     rcases this with h6|h6
     ·exact h6
     ·exact absurd ((C_ hd ha i).2 (h6▸hx)) h2⟩⟩
    exact(hf.1 hi).resolve_left h4.2
 have hE:=uO.run q1 ih h.all _ _ _ s (adV c ha) (fun i hi=>(C_ hd ha i).1 hi) hR;refine⟨hE.len,fun i hi x=>hE.new i hi (by simp) x,fun i=>by rw[hE.ls i];simp,hE.Bq,hE.heap,?_,fun x hx=>?_,fun i hi x hx=>?_⟩
 ·rw[mH];refine⟨h.UL,by simp,fun x hx y hy=>?_⟩;rw[cL]at hy;subst hy
  exact fun he=>q1 (he▸hx)
 ·rcases a8.1 hx with h1|h1
  ·exact h.lt x h1
  ·rw[cL]at h1;subst h1;exact ha
 ·rcases a8.1 hi with h1|h1
  ·simp[h.all i h1 x hx]
  ·rw[cL]at h1;subst h1;simp[ih x hx]
theorem Io:∀(N:Nat)(l:List Nat),l.Nodup->(∀x∈l,x<N)->l.length<=N
 |0,[],_,_=>aT _
 |0,x::l,_,h=>absurd (h x (by simp)) (by omega)
 |N+1,l,hn,h=>by
  have h1:=Io N (l.erase N) (hn.erase N) fun x hx=>by
   obtain⟨h2,h3⟩:=hn.mem_erase_iff.1 hx
   have:=h x h3;omega
  by_cases hm:N∈l
  ·rw[Ya hm]at h1;omega
  ·rw[List.erase_of_not_mem hm]at h1;omega
theorem Inv.come{c:Ct}(hd:(c.af.map (·.name)).Nodup):∀(f:Nat)(done:List Nat)(nd:List (List Nat))(l s:List Nat),Inv c done nd l->rA (bQ c) f nd l s=jd c f done
 |0,_,_,_,_,_=>rfl
 |f+1,done,nd,l,s,h=>by
  rw[rA,jd]
  by_cases h0:l=[]
  ·have hn:mh c done=none:=adr fun a ha=>by
    rw[Bz];intro hm;have:=(h.ls a).2 ⟨ha,hm⟩
    rw[h0]at this;cases this
   rw[if_pos h0,hn]
  ·obtain⟨h1,h2⟩:=h.step hd h0 (bB l::s);rw[if_neg h0,h1];simp only;rw[Inv.come hd f _ _ _ _ h2]
theorem Inv.ends{c:Ct}(hd:(c.af.map (·.name)).Nodup):∀(f:Nat)(done:List Nat)(nd:List (List Nat))(l s:List Nat),Inv c done nd l->c.af.length<=done.length+f->uI (bQ c) f nd l s
 |0,done,nd,l,s,h,hf=>by
  show l=[]
  rw[L'];intro x hx;obtain⟨h1,h2⟩:=(h.ls x).1 hx;have h3:=(kc.1 h2).1
  have:=Io c.af.length (x::done) (l0.2 ⟨h3,h.UL⟩) (fun y hy=>by
   rcases bD.1 hy with rfl|hy
   ·exact h1
   ·exact h.lt y hy)
  simp only[bL]at this;omega
 |f+1,done,nd,l,s,h,hf=>by
  rw[uI]
  by_cases h0:l=[]
  ·exact .inl h0
  ·obtain⟨h1,h2⟩:=h.step hd h0 (bB l::s);exact .inr (Inv.ends hd f _ _ _ _ h2 (by simp;omega))
theorem HW(nd:List (List Nat))(N:Nat):∀(m i:Nat)(l:List Nat),i+m=N->l.Nodup->(∀x∈l,x<i)->mf l.length l->
 (∀x,x∈jU nd m i l↔x∈l\/(i<=x/\x<N/\nd.getD x []=[]))/\(jU nd m i l).Nodup/\mf (jU nd m i l).length (jU nd m i l)
 |0,i,l,h,h1,h2,h3=>⟨fun x=>by simp[jU];omega,h1,h3⟩
 |m+1,i,l,h,h1,h2,h3=>by
  rw[jU]
  have hv:i∉l:=fun hm=>by have:=h2 i hm;omega
  split
  ·rename_i h0;have hp:=zC l i
   obtain⟨a1,a2,a3⟩:=HW nd N m (i+1) (gH l i) (by omega) (by rw[hp.nodup_iff,l0];exact⟨hv,h1⟩) (fun x hx=>by
    rcases bD.1 (hp.mem_iff.1 hx)with rfl|hx
    ·omega
    ·have:=h2 x hx;omega) (NB h3 i)
   refine⟨fun x=>?_,a2,a3⟩;rw[a1 x,hp.mem_iff,bD];constructor
   ·rintro((rfl|hx)|⟨b1,b2,b3⟩)
    ·exact .inr ⟨aT _,by omega,h0⟩
    ·exact .inl hx
    ·exact .inr ⟨by omega,b2,b3⟩
   ·rintro(hx|⟨b1,b2,b3⟩)
    ·exact .inl (.inr hx)
    ·by_cases he:x=i
     ·exact .inl (.inl he)
     ·exact .inr ⟨by omega,b2,b3⟩
  ·rename_i h0;obtain⟨a1,a2,a3⟩:=HW nd N m (i+1) l (by omega) h1 (fun x hx=>by have:=h2 x hx;omega) h3;refine⟨fun x=>?_,a2,a3⟩;rw[a1 x];constructor
   ·rintro(hx|⟨b1,b2,b3⟩)
    ·exact .inl hx
    ·exact .inr ⟨by omega,b2,b3⟩
   ·rintro(hx|⟨b1,b2,b3⟩)
    ·exact .inl hx
    ·refine .inr ⟨?_,b2,b3⟩
     have:x≠i:=fun he=>h0 (he▸b3)
     omega
theorem Tt{c:Ct}(hd:(c.af.map (·.name)).Nodup):Inv c [] (eL c) (jU (eL c) c.af.length 0 []):=by
 obtain⟨h1,h2,h3⟩:=HW (eL c) c.af.length c.af.length 0 [] (by omega) (by simp) (by simp) (fun k hk hv=>by simp at hv);refine⟨vH c,fun i hi x=>by rw[zA hd hi];simp,fun i=>?_,h2,h3,by simp,by simp,by simp⟩;rw[h1 i];constructor
 ·rintro(h|⟨_,a,b⟩)
  ·cases h
  ·refine⟨a,kc.2 ⟨by simp,fun x hx=>?_⟩⟩;have:=(zA hd a x).2 hx
   rw[b]at this;exact this
 ·rintro⟨a,b⟩
  refine .inr ⟨by omega,a,?_⟩;rw[L'];intro x hx;have:=(kc.1 b).2 x ((zA hd a x).1 hx)
  cases this
theorem Q5{c:Ct}(hd:(c.af.map (·.name)).Nodup):pQ c c.af.length=aS c:=Inv.come hd _ _ _ _ _ (Tt hd)
theorem aeD{c:Ct}(hd:(c.af.map (·.name)).Nodup):J9 c c.af.length:=Inv.ends hd _ _ _ _ _ (Tt hd) (by simp)
theorem OR(c:Ct):∀(f:Nat)(done:List Nat),(jd c f done).length<=f
 |0,_=>by simp[jd]
 |f+1,done=>by
  rw[jd]
  split
  ·simp
  ·rename_i k _;have:=OR c f (done++[k])
   simp only[bL];omega
theorem Qt(c:Ct):∀(f:Nat)(done:List Nat),∀x∈jd c f done,x<c.af.length
 |0,_=>by simp[jd]
 |f+1,done=>by
  rw[jd]
  split
  ·simp
  ·rename_i k hk;intro x hx
   rcases bD.1 hx with rfl|hx
   ·exact(PF hk).1
   ·exact Qt c f _ x hx
def wO(c:Ct):List Nat:=if me c=true then aS c else[]
def oS(c:Ct):List Bs:=if me c=true then lE (aS c) c.af 0 else[]
theorem Hh{c:Ct}(hc:cH c):(aS c).length<2^20:=by
 have h1:=OR c c.af.length [];have:=hc.2.2.2.1
 unfold aS;omega
theorem IT(hΓ:fE Γ)(c:Ct)(hb:gR c):aQ ak Γ pA [bU c] (.aH [.own 1 au ((wO c).map iN),.own 1 aw ((oS c).map .str)]):=by
 unfold wO oS
 cases hr:me c with
 |false=>simpa using aiN hΓ c hb hr
 |true=>
  have hc:=sq hb hr;have hd:=vA hr;have hN:=hc.2.2.2.1;have h:=akK hΓ c hb hr c.af.length (by omega) (aeD hd) (by rw[Q5 hd];exact Hh hc);rw[Q5 hd]at h;simpa using h
def mW(c:Ct):Int×Bs:=if(eJ c).1=0 then(match oS c with
 |[]=>(0,[])
 |s::_=>(7,s))else eJ c
theorem Qm(hΓ:fE Γ)(c:Ct)(hb:gR c):aQ ak Γ B3 [bU c] (uS (mW c)):=by
 have hC:=Ii hΓ c hb;have hS:=IT hΓ c hb;unfold mW;generalize eJ c=r at*;obtain⟨e,s⟩:=r;refine .run 60 abf.1 (by simp) ?_;simp;refine .call 60 (by simp) hC ?_
 by_cases h0:e=0
 ·simp[h0];refine .call 60 (by simp) hS ?_
  cases oS c with
  |nil=>
   simp;exact .back (by simp)
  |cons a l=>
   have hl:(0:Int)<(l.length:Int)+1:=by omega
   simp[hl];exact .back (by simp)
 ·simp[h0];exact .back (by simp)
def alB(c:Ct):List (Bs×(Bool×Nat×List Bs)):=c.ah.map (fun q=>(q.name,(true,1,[q.next])))++c.af.map fun g=>(g.name,(false,g.ki,g.ins))
abbrev eNx(x:Bool×Nat×List Bs):AV:=.list x.1 x.2.1 (x.2.2.map .str)
abbrev KL(x:Bs×(Bool×Nat×List Bs)):AV×AV:=(.str x.1,eNx x.2)
@[simp] theorem aij(n:Nat):∀l:List (Bs×(Bool×Nat×List Bs)),fC n (l.map KL)=true
 |[]=>rfl
 |x::r=>by simp[aij n r]
@[simp] theorem ai5(n m:Nat):∀l:List (Bs×(Bool×Nat×List Bs)),o_ n m (l.map KL)=true
 |[]=>rfl
 |x::r=>by simp[ai5 n m r]
abbrev tj(c:Ct)(hv h2:List Bs)(g:Option Nat):List Ob:=[.cells (AV.cells (bU c)),.row 1 aw [] none true false,.map ((alB c).map KL) true,.map (hv.map kP) true,.row 1 aw (h2.map .str) g true false]
abbrev Fh(c:Ct):List Ob:=[.cells (AV.cells (bU c)),.row 1 au [] none true false]
def wM(s:Bs):Bool:=decide (60<s.length)
def kN(m:Nat)(l:List Bs):Bool:=decide (l.length<=m)&&!bE wM l
theorem Ca(l:List Bs)(m:Nat)(hm:m<1000){k:Nat}(hk:Kd 1 k l):aQ ak Γ tY [.list false k (l.map .str),.int .i64 m] (.bool (kN m l)):=by
 have key:∀n i:Nat,i+n=l.length->i<=m+1->aA ak Γ (yfD (.list false k (l.map .str)) (.int .i64 m) (.int .i64 i) []) (.ret (.bool (decide (l.length<=m)&&!bE wM (l.drop i)))):=by
  intro n
  induction n with
  |zero=>
   intro i hi hL
   have q1:¬i<l.length:=by omega
   have e1:((l.length:Int)<=m)=(l.length<=m):=propext (by omega);rw[bx (by omega),ug];refine .go 60 ?_;simp[q1,e1];exact .back (by simp)
  |succ n ih=>
   intro i hi hL
   have q1:i<l.length:=by omega
   have q2:=bG (hk.of q1)
   by_cases h2:i<=m
   ·have hv:((i:Int)<=m)=True:=bG (by omega);have hh:=ih (i+1) (by omega) (by omega);have e3:((60:Int)<(l[i].length:Int))=(60<l[i].length):=propext (by omega);rw[bJ q1,lB];refine .go 60 ?_
    by_cases h3:60<l[i].length
    ·have hl:wM l[i]=true:=by simp[wM,h3]
     simp[q1,q2,hv,e3,h3,hl];exact .back (by simp[h3])
    ·have hl:wM l[i]=false:=by simp only[wM,jB];exact h3
     simp(disch:=omega) [q1,q2,hv,e3,h3,hl];refine .aI ?_;simp at hh⊢;exact hh
   ·have hv:((i:Int)<=m)=False:=jC (by omega);have e1:((l.length:Int)<=m)=False:=jC (by omega)
    have h3:¬l.length<=m:=by omega
    refine .go 60 ?_;simp[q1,hv,e1,h3];exact .back (by simp)
 refine .run 60 acN.1 (by simp) ?_;simp;refine .inLoop ?_;have hh:=key l.length 0 (by omega) (by omega);simp[kN]at hh⊢;exact hh
def A0(g:Gt):Bool:=kN 12 g.ins&&(kN 140 g.rows&&decide (g.name.length<=60))
theorem afb(g:Gt):aQ ak Γ Gn [df g] (.bool (A0 g)):=by
 have h1:=Ca (Γ:=Γ) g.ins 12 (by omega) g.hi;have h2:=Ca (Γ:=Γ) g.rows 140 (by omega) g.hr;have e:((g.name.length:Int)<=60)=(g.name.length<=60):=propext (by omega);refine .run 60 aaN.1 (by simp) ?_;simp;refine .call 60 (by simp) h1 ?_;simp;refine .call 60 (by simp) h2 ?_;unfold A0
 cases kN 12 g.ins with
 |false=>simp;exact .back (by simp)
 |true=>
  cases kN 140 g.rows with
  |false=>simp;exact .back (by simp)
  |true=>simp[e];exact .back (by simp)
def rp(q:Lt):Bool:=decide (60<q.name.length)||decide (60<q.next.length)
def Eh(c:Ct):Bool:=!bE (fun g=>!A0 g) (c.af.take 211)&&(!bE rp (c.ah.take 211)&&(kN 210 c.aq&&(kN 210 c.az&&(decide (c.af.length<=210)&&decide (c.ah.length<=210)))))
theorem alg(c:Ct):aQ ak Γ vR [bU c] (.bool (Eh c)):=by
 have h1:=Ca (Γ:=Γ) c.aq 210 (by omega) c.hI;have h2:=Ca (Γ:=Γ) c.az 210 (by omega) c.hO;have e1:((c.af.length:Int)<=210)=(c.af.length<=210):=propext (by omega);have e2:((c.ah.length:Int)<=210)=(c.ah.length<=210):=propext (by omega)
 have fin:∀H,H=[Ob.cells (AV.cells (bU c))]->aA ak Γ (yvj (.ptr 0 0) H) (.ret (.bool (kN 210 c.aq&&(kN 210 c.az&&(decide (c.af.length<=210)&&decide (c.ah.length<=210)))))):=by
  rintro H rfl
  refine .go 60 ?_;simp;refine .call 60 (by simp) h1 ?_;simp;refine .call 60 (by simp) h2 ?_
  cases kN 210 c.aq with
  |false=>simp;exact .back (by simp)
  |true=>
   cases kN 210 c.az with
   |false=>simp;exact .back (by simp)
   |true=>
    by_cases q:c.af.length<=210
    ·simp[e1,e2,q];exact .back (by simp[q])
    ·simp[e1,e2,q];exact .back (by simp[q])
 have hv:∀n i:Nat,i+n=211->aA ak Γ (yvi (.ptr 0 0) (.int .i64 i) [.cells (AV.cells (bU c))]) (.ret (.bool (!bE rp ((c.ah.take 211).drop i)&&(kN 210 c.aq&&(kN 210 c.az&&(decide (c.af.length<=210)&&decide (c.ah.length<=210))))))):=by
  intro n
  induction n with
  |zero=>
   intro i hi;have q1:((i:Int)<=210)=False:=jC (by omega);have hf:=fin _ rfl;rw[bx (by simp;omega),ug]
   by_cases q0:i<c.ah.length
   ·refine .dh 60 ?_;simp[q1,q0];refine .reach (.exit rfl rfl) ?_;simp at hf⊢;exact hf
   ·refine .dh 60 ?_;simp[q0];refine .reach (.exit rfl rfl) ?_;simp at hf⊢;exact hf
  |succ n ih=>
   intro i hi;have q1:((i:Int)<=210)=True:=bG (by omega)
   by_cases q0:i<c.ah.length
   ·have q2:=bG (c.hL.of q0);have hh:=ih (i+1) (by omega)
    have hT:i<(c.ah.take 211).length:=by simp;omega
    have e3:((60:Int)<(c.ah[i].name.length:Int))=(60<c.ah[i].name.length):=propext (by omega);have e4:((60:Int)<(c.ah[i].next.length:Int))=(60<c.ah[i].next.length):=propext (by omega);rw[bJ hT,lB,qp];refine .go 90 ?_
    by_cases h3:60<c.ah[i].name.length
    ·have hl:rp c.ah[i]=true:=by simp[rp,h3]
     simp[q0,q1,q2,e3,h3,hl];exact .back (by simp)
    ·by_cases h4:60<c.ah[i].next.length
     ·have hl:rp c.ah[i]=true:=by simp[rp,h4]
      simp[q0,q1,q2,e3,h3,e4,h4,hl];exact .back (by simp)
     ·have hl:rp c.ah[i]=false:=by simp only[rp,h3,h4,nD,Bool.or_self]
      simp(disch:=omega) [q0,q1,q2,e3,h3,e4,h4,hl];refine .aI ?_;simp at hh⊢;exact hh
   ·have hf:=fin _ rfl;rw[bx (by simp;omega),ug];refine .dh 60 ?_;simp[q0];refine .reach (.exit rfl rfl) ?_;simp at hf⊢;exact hf
 have hb:∀n i:Nat,i+n=211->aA ak Γ (yvl (.ptr 0 0) (.int .i64 i) [.cells (AV.cells (bU c))]) (.ret (.bool (!bE (fun g=>!A0 g) ((c.af.take 211).drop i)&&(!bE rp (c.ah.take 211)&&(kN 210 c.aq&&(kN 210 c.az&&(decide (c.af.length<=210)&&decide (c.ah.length<=210)))))))):=by
  intro n;have hf:=hv 211 0 (by omega)
  induction n with
  |zero=>
   intro i hi;have q1:((i:Int)<=210)=False:=jC (by omega);rw[bx (by simp;omega),ug];refine .go 60 ?_
   by_cases q0:i<c.af.length
   ·simp[q1,q0];refine .inLoop ?_;simp at hf⊢;exact hf
   ·simp[q0];refine .inLoop ?_;simp at hf⊢;exact hf
  |succ n ih=>
   intro i hi;have q1:((i:Int)<=210)=True:=bG (by omega)
   by_cases q0:i<c.af.length
   ·have q2:=bG (c.hG.of q0);have hh:=ih (i+1) (by omega)
    have hT:i<(c.af.take 211).length:=by simp;omega
    have hc:=afb (Γ:=Γ) c.af[i];rw[bJ hT,lB,qp];refine .go 90 ?_;simp[q0,q1,q2];refine .call 90 (by simp) hc ?_
    cases h3:A0 c.af[i]with
    |true=>
     simp(disch:=omega);refine .aI ?_;simp at hh⊢;exact hh
    |false=>
     simp;exact .back (by simp)
   ·rw[bx (by simp;omega),ug];refine .go 60 ?_;simp[q0];refine .inLoop ?_;simp at hf⊢;exact hf
 refine .run 60 afu.1 (by simp) ?_;simp;refine .inLoop ?_;have hh:=hb 211 0 (by omega);simp[Eh]at hh⊢;exact hh
theorem HH(c:Ct):∀(f:Nat)(done:List Nat),done.Nodup->(∀x∈done,x<c.af.length)->
 (done++jd c f done).Nodup/\(∀p a q,jd c f done=p++a::q->kX c (done++p) a=true/\∀j<a,kX c (done++p) j=false)/\(c.af.length<=done.length+f->∀a<c.af.length,kX c (done++jd c f done) a=false)
 |0,done,hd,hl=>by
  refine⟨by simpa[jd]using hd,fun p a q h=>by simp[jd]at h,fun hf a ha=>?_⟩;rw[Bz];intro hm;have h3:=(kc.1 hm).1;simp only[jd,ey]at h3
  have:=Io c.af.length (a::done) (l0.2 ⟨h3,hd⟩) (fun y hy=>by
   rcases bD.1 hy with rfl|hy
   ·exact ha
   ·exact hl y hy)
  simp only[bL]at this;omega
 |f+1,done,hd,hl=>by
  rw[jd]
  cases hn:mh c done with
  |none=>
   refine⟨by simpa using hd,fun p a q h=>by simp at h,fun hf a ha=>?_⟩;simpa using agy hn ha
  |some k=>
   obtain⟨hk,hm,hj⟩:=PF hn;have h3:=(kc.1 hm).1
   obtain⟨i1,i2,i3⟩:=HH c f (done++[k]) (by
    rw[mH];refine⟨hd,by simp,fun x hx y hy=>?_⟩;rw[cL]at hy;subst hy
    exact fun he=>h3 (he▸hx)) (fun x hx=>by
    rcases a8.1 hx with hx|hx
    ·exact hl x hx
    ·rw[cL]at hx;subst hx;exact hk)
   simp only[cR,tz]at i1 i2 i3;refine⟨i1,fun p a q h=>?_,fun hf a ha=>i3 (by simp;omega) a ha⟩
   cases p with
   |nil=>
    simp only[kF,vd]at h;rw[ey,<-h.1];exact⟨hm,hj⟩
   |cons x p=>
    simp only[eH,vd]at h;obtain⟨rfl,h⟩:=h;exact i2 p a q h
theorem GB(c:Ct):(aS c).Nodup:=by simpa[aS]using(HH c c.af.length [] (by simp) (by simp)).1
theorem pH(c:Ct):∀x∈aS c,x<c.af.length:=Qt c _ _
theorem Hx(c:Ct){p q:List Nat}{a:Nat}(h:aS c=p++a::q):kX c p a=true/\∀j<a,kX c p j=false:=by
 simpa using(HH c c.af.length [] (by simp) (by simp)).2.1 p a q h
theorem ag3(c:Ct){i:Nat}(hi:i<(aS c).length){x:Nat}(hx:iy c (aS c)[i] x=true):x∈(aS c).take i:=by
 have h:aS c=(aS c).take i++(aS c)[i]::(aS c).drop (i+1):=by
  rw[<-bJ hi,lY]
 exact(kc.1 (Hx c h).1).2 x hx
theorem He(out:List Nat)(s:Bs):∀(l:List Gt)(i:Nat),s∈lE out l i↔∃t,∃h:t<l.length,l[t].name=s/\i+t∉out
 |[],i=>by simp[lE]
 |g::r,i=>by
  have hs:(∃t,∃h:t<(g::r).length,(g::r)[t].name=s/\i+t∉out)↔(g.name=s/\i∉out)\/∃t,∃h:t<r.length,r[t].name=s/\i+1+t∉out:=by
   constructor
   ·rintro⟨t,h,e,hm⟩
    cases t with
    |zero=>exact .inl ⟨e,hm⟩
    |succ t=>exact .inr ⟨t,by simpa using h,e,by rwa[show i+1+t=i+(t+1) by omega]⟩
   ·rintro(⟨e,hm⟩|⟨t,h,e,hm⟩)
    ·exact⟨0,by simp,e,hm⟩
    ·exact⟨t+1,by simpa using h,e,by rwa[show i+(t+1)=i+1+t by omega]⟩
  rw[hs,lE]
  split
  ·rename_i h0;rw[He out s r (i+1)];exact⟨.inr,fun h=>h.elim (fun h=>absurd h0 h.2) id⟩
  ·rename_i h0;rw[bD,He out s r (i+1)];exact⟨fun h=>h.imp (fun h=>⟨h.symm,h0⟩) id,fun h=>h.imp (fun h=>h.1.symm) id⟩
theorem ahl{c:Ct}(hd:(c.af.map (·.name)).Nodup)(out:List Nat){i:Nat}(hi:i<c.af.length):c.af[i].name∈lE out c.af 0↔i∉out:=by
 rw[He];constructor
 ·rintro⟨t,ht,e,hm⟩
  rw[jw]at hm;rwa[<-Db hd ht hi e]
 ·intro h;exact⟨i,hi,rfl,by rwa[jw]⟩
theorem NQ(out:List Nat):∀(l:List Gt)(i:Nat),(lE out l i).length=((List.range l.length).filter fun t=>!out.contains (i+t)).length
 |[],i=>rfl
 |g::r,i=>by
  have ih:=NQ out r (i+1);rw[lE,bL,List.range_succ_eq_map,r8]
  have e:((List.range r.length).map Nat.succ).filter (fun t=>!out.contains (i+t))=((List.range r.length).filter fun t=>!out.contains (i+1+t)).map Nat.succ:=by
   rw[List.filter_map];congr 1;apply List.filter_congr;intro x _;simp only[Function.comp];rw[show i+Nat.succ x=i+1+x by omega]
  rw[e]
  by_cases h0:i∈out
  ·rw[if_pos h0,if_neg (by simpa using h0),ih,fy]
  ·rw[if_neg h0,if_pos (by simpa using h0),bL,bL,ih,fy]
theorem aft(N:Nat)(out:List Nat)(hd:out.Nodup)(hl:∀x∈out,x<N):out.length+((List.range N).filter fun t=>!out.contains t).length=N:=by
 have h1:((List.range N).filter fun t=>out.contains t).Perm out:=by
  rw[List.perm_ext_iff_of_nodup (LZ.filter _) hd];intro a;simp only[dX,dS,xI,bj];exact⟨fun h=>h.2,fun h=>⟨hl a h,h⟩⟩
 have h2:∀l:List Nat,(l.filter fun t=>out.contains t).length+(l.filter fun t=>!out.contains t).length=l.length:=by
  intro l
  induction l with
  |nil=>rfl
  |cons a l ih=>
   rw[r8,r8]
   cases h:out.contains a<;>simp at ih⊢<;>omega
 have:=h2 (List.range N);rw[h1.length_eq,qw]at this;exact this
theorem afw(c:Ct):(aS c).length+(lE (aS c) c.af 0).length=c.af.length:=by
 rw[NQ];simp only[jw];exact aft _ _ (GB c) (pH c)
def Kp(c:Ct)(a:Nat):Bs:=match c.af[a]? with
 |some g=>g.name
 |none=>[]
theorem DA{c:Ct}{a:Nat}(h:a<c.af.length):Kp c a=c.af[a].name:=by simp[Kp,h]
theorem afH{c:Ct}(h:(mW c).1=0):me c=true/\oS c=[]/\mW c=(0,[]):=by
 unfold mW at h⊢
 by_cases h0:(eJ c).1=0
 ·rw[if_pos h0]at h⊢
  cases hn:oS c with
  |nil=>exact⟨tH h0,rfl,rfl⟩
  |cons s l=>rw[hn]at h;cases h
 ·rw[if_neg h0]at h;exact absurd h h0
theorem Qk(N:List Bs):∀l:List Bs,(∀s∈l,s∈N)->jG N l=(0,[])
 |[],_=>rfl
 |a::l,h=>by rw[jG,if_pos (h a (by simp)),Qk N l fun s hs=>h s (by simp[hs])]
theorem QT(r:Int×Bs):∀l:List Gt,(∀g∈l,ig g=true)->kU r l=r
 |[],_=>rfl
 |a::l,h=>by rw[kU,if_pos (h a (by simp)),QT r l fun s hs=>h s (by simp[hs])]
theorem PH(r:Int×Bs):∀l:List Lt,(∀g∈l,mR g=true)->mg r l=r
 |[],_=>rfl
 |a::l,h=>by rw[mg,if_pos (h a (by simp)),PH r l fun s hs=>h s (by simp[hs])]
theorem PB(r:Int×Bs):∀l:List Bs,(∀g∈l,gC g=true)->pT r l=r
 |[],_=>rfl
 |a::l,h=>by rw[pT,if_pos (h a (by simp)),PB r l fun s hs=>h s (by simp[hs])]
theorem IF{c:Ct}(h:eR c):eJ c=(0,[]):=by
 unfold eJ;rw[h.nz,if_neg (by simp),PB _ _ h.names,h.bq,h.outs,PH _ _ h.init,QT _ _ h.af,Qk _ _ h.used];rfl
theorem CT{c:Ct}(h:eR c):me c=true:=by rw[me,IF h];rfl
theorem OO:∀(l seen:List Bs),l.Nodup->(∀s∈l,s∉seen)->mT seen l=none
 |[],_,_,_=>rfl
 |a::l,seen,hn,h=>by
  rw[l0]at hn;rw[mT,if_neg (h a (by simp))]
  refine OO l _ hn.2 fun s hs=>?_
  simp only[a8,cL,not_or];exact⟨h s (by simp[hs]),fun he=>hn.1 (he▸hs)⟩
theorem Qn{l:List Bs}(h:l.Nodup):jF l=none:=OO l [] h (by simp)
theorem ac5{d:Ct}(h:∀i<d.af.length,∀x,iy d i x=true->x<i):aS d=List.range d.af.length:=by
 have key:∀f i,i+f=d.af.length->jd d f (List.range i)=(List.range f).map (i+·):=by
  intro f
  induction f with
  |zero=>intro i _;simp[jd]
  |succ f ih=>
   intro i hi
   have hn:mh d (List.range i)=some i:=NZ (by omega) (kc.2 ⟨by simp,fun x hx=>by
    rw[dS];exact h i (by omega) x hx⟩) fun j hj=>by
     rw[Bz];intro hm;exact(kc.1 hm).1 (by rw[dS];exact hj)
   rw[jd,hn];simp only;rw[<-Fx,ih (i+1) (by omega),List.range_succ_eq_map,bX,iW];congr 1;apply nB;intro x _
   simp only[Function.comp];omega
 have:=key d.af.length 0 (by omega);simp only[List.range_zero,jw,List.map_id']at this
 rw[aS];exact this
theorem Iy{c:Ct}{s:Bs}:s∈aE c↔s∈c.aq\/(∃q∈c.ah,q.name=s)\/∃g∈c.af,g.name=s:=by
 simp[aE]
def Ae(c:Ct):Bool:=Eh c&&(decide (c.af.length<=24)&&(decide (c.aq.length<=24)&&decide (c.ah.length<=24)))
theorem agB(c:Ct):aQ ak Γ Gq [bU c] (.bool (Ae c)):=by
 have hF:=alg (Γ:=Γ) c;refine .run 60 abQ.1 (by simp) ?_;unfold Ae;simp;refine .call 60 (by simp) hF ?_
 cases Eh c with
 |false=>
  simp;exact .back (by simp)
 |true=>
  have e0:((c.af.length:Int)<=24)=(c.af.length<=24):=propext (by omega);have e1:((c.aq.length:Int)<=24)=(c.aq.length<=24):=propext (by omega);have e2:((c.ah.length:Int)<=24)=(c.ah.length<=24):=propext (by omega)
  by_cases h1:c.af.length<=24
  ·by_cases h2:c.aq.length<=24
   ·simp[e0,e1,e2,h1,h2];exact .back (by simp)
   ·simp[e0,e1,e2,h1,h2];exact .back (by simp)
  ·simp[e0,e1,e2,h1];exact .back (by simp)
end Go.Proofs.YtchjijfjidlpjaaGreatDoor
