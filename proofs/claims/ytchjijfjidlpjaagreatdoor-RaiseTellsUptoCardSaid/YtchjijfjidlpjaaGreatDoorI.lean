/- Order: what comes: the loops. -/
import Derived.Test.YtchjijfjidlpjaaGreatDoorH
import Derived.Test.YtchjijfjidlpjaaGreatDoorG
import Derived.Test.YtchjijfjidlpjaaGreatDoorAMd
import Derived.Test.YtchjijfjidlpjaaGreatDoorF
import Derived.Test.YtchjijfjidlpjaaGreatDoorCode
set_option linter.unusedSimpArgs false
set_option linter.unusedVariables false
namespace Go.Proofs.YtchjijfjidlpjaaGreatDoor
open Go.AM Go.Proofs
variable{Γ:Nat->Option AV}
def nV(a:Nat)(l:List Nat):List Nat:=l.filter fun x=>decide (¬x=a)
theorem W3(l:List Nat)(x:Nat):(qm l x).length=l.length+1:=by rw[qm,Zo];simp
def nW(a:Nat):List Nat->List (List Nat)->List Nat->List Nat->List (List Nat)×List Nat×List Nat
 |[],nd,l,s=>(nd,l,s)
 |i::r,nd,l,s=>if nV a (nd.getD i [])=[]then nW a r (nd.set i (nV a (nd.getD i []))) (qm l i) s.tail else nW a r (nd.set i (nV a (nd.getD i []))) l s
end Go.Proofs.YtchjijfjidlpjaaGreatDoor
namespace Go.Proofs.YtchjijfjidlpjaaGreatDoor
open Go.AM Go.Proofs
theorem D2{l:List Nat}{i j:Nat}(hi:i<l.length)(hj:j<l.length):(swp l i j).Perm l:=by
 rw[List.perm_iff_count];intro a
 have e1:l.getD i 0=l[i]:=by rw[bz,a_ hi];rfl
 have e2:l.getD j 0=l[j]:=by rw[bz,a_ hj];rfl
 have e3:(l.set i l[j])[j]'(by simpa using hj)=l[j]:=by
  rw[List.getElem_set];split<;>rfl
 rw[swp,e1,e2,List.count_set (by simpa using hj),List.count_set hi,e3]
 have hp:l[i]=a->0<l.count a:=fun h=>Q4.2 (h▸bZ hi)
 by_cases h1:l[i]=a
 ·have:=hp h1
  by_cases h2:l[j]=a<;>simp[h1,h2]<;>omega
 ·by_cases h2:l[j]=a<;>simp[h1,h2]
theorem YW(j:Nat):∀l:List Nat,j<l.length->(px l j).Perm l:=by
 induction j using Nat.strongRecOn with
 |_ j ih=>
  intro l hj;rw[px]
  split
  ·exact .refl _
  ·split
   ·exact(ih _ (by omega) _ (by rw[fV];omega)).trans (D2 (by omega) hj)
   ·exact .refl _
theorem UH(n:Nat):∀(m i:Nat)(l:List Nat),n-i<=m->n<=l.length->i<l.length->(jW n l i).1.Perm l:=by
 intro m
 induction m with
 |zero=>
  intro i l h hn hi;rw[jW,if_pos (by omega)]
 |succ m ih=>
  intro i l h hn hi;rw[jW]
  split
  ·exact .refl _
  ·split
   ·have:=Ax l (2*i+1) n;have:=E5 l (j:=2*i+1) (n:=n) (by omega);exact(ih _ _ (by omega) (by rw[fV];omega) (by rw[fV];omega)).trans (D2 hi (by omega))
   ·exact .refl _
theorem I9(l:List Nat)(x:Nat):(qm l x).Perm (x::l):=(YW _ _ (by simp)).trans List.perm_append_comm
def dQ(l:List Nat):Nat:=(jv l).getD (l.length-1) 0
def iI(l:List Nat):List Nat:=(jv l).take (l.length-1)
theorem WQ{l:List Nat}(h:0<l.length):(jv l).Perm l:=by
 rw[jv];exact(UH _ _ _ _ (aU _) (by rw[fV];omega) (by rw[fV];omega)).trans (D2 h (by omega))
theorem U_{l:List Nat}(h:0<l.length):jv l=iI l++[dQ l]:=by
 have hl:=Eg l
 have hlt:l.length-1<(jv l).length:=by omega
 have h5:(jv l).getD (l.length-1) 0=(jv l)[l.length-1]:=by rw[bz,a_ hlt];rfl
 rw[dQ,iI,h5]
 conv=>lhs;rw[<-oa (l.length-1) (jv l)]
 congr 1;rw[br hlt,bq (by omega)]
theorem WO{l:List Nat}(h:0<l.length):(dQ l::iI l).Perm l:=by
 have:=WQ h;rw[U_ h]at this;exact List.perm_append_comm.symm.trans this
theorem Wa(l:List Nat):(iI l).length=l.length-1:=by rw[iI,fc,Eg];omega
def lM(n:Nat)(l:List Nat):Prop:=∀k,0<k->k<n->l.getD ((k-1)/2) 0<=l.getD k 0
theorem wb{l:List Nat}{i j:Nat}(hi:i<l.length)(hj:j<l.length)(k:Nat):(swp l i j).getD k 0=if k=j then l.getD i 0 else if k=i then l.getD j 0 else l.getD k 0:=by
 simp only[swp,bz,mn,kp]
 by_cases h1:j=k
 ·subst h1;simp[hj]
 ·have h1':¬k=j:=fun h=>h1 h.symm
  by_cases h2:i=k
  ·subst h2;simp[h1,h1',hi]
  ·have h2':¬k=i:=fun h=>h2 h.symm
   simp[h1,h1',h2,h2']
theorem YI(j:Nat):∀l:List Nat,j<l.length->(∀k,0<k->k<l.length->k≠j->l.getD ((k-1)/2) 0<=l.getD k 0)->(0<j->∀k,k<l.length->0<k->(k-1)/2=j->l.getD ((j-1)/2) 0<=l.getD k 0)->lM l.length (px l j):=by
 induction j using Nat.strongRecOn with
 |_ j ih=>
  intro l hj h1 h2;rw[px]
  split
  ·rename_i h0;intro k hk hkl;exact h1 k hk hkl (by omega)
  ·rename_i h0
   have hpl:(j-1)/2<l.length:=by omega
   split
   ·rename_i hlt;have hs:=wb hpl hj
    have key:lM (swp l ((j-1)/2) j).length (px (swp l ((j-1)/2) j) ((j-1)/2)):=by
     refine ih _ (by omega) _ (by rw[fV];exact hpl) (fun k hk hkl hkp=>?_) (fun hp k hkl hk hkp=>?_)
     ·rw[fV]at hkl;rw[hs,hs]
      have hq:¬(k-1)/2=j\/(k-1)/2=j:=by omega
      by_cases hkj:k=j
      ·subst hkj;rw[if_neg (by omega),if_pos rfl,if_pos rfl];omega
      ·rw[if_neg hkj,if_neg hkp];have hk1:=h1 k hk hkl hkj
       by_cases hc:(k-1)/2=j
       ·rw[if_pos hc];exact h2 (by omega) k hkl hk hc
       ·rw[if_neg hc]
        by_cases hd:(k-1)/2=(j-1)/2
        ·rw[if_pos hd]
         rw[hd]at hk1;omega
        ·rw[if_neg hd];exact hk1
     ·rw[fV]at hkl;rw[hs,hs,if_neg (by omega),if_neg (by omega)];have hpp:=h1 ((j-1)/2) hp hpl (by omega)
      by_cases hkj:k=j
      ·rw[if_pos hkj];exact hpp
      ·rw[if_neg hkj,if_neg (by omega)];have hk1:=h1 k hk hkl hkj
       rw[hkp]at hk1;omega
    rw[fV]at key;exact key
   ·rename_i hge;intro k hk hkl
    by_cases hkj:k=j
    ·subst hkj;omega
    ·exact h1 k hk hkl hkj
theorem UI{l:List Nat}(h:lM l.length l)(x:Nat):lM (qm l x).length (qm l x):=by
 have e:(qm l x).length=(l++[x]).length:=by rw[W3];simp
 have g:∀k,k<l.length->(l++[x]).getD k 0=l.getD k 0:=fun k hk=>by simp[dk hk]
 rw[e,qm];refine YI _ _ (by simp) (fun k hk hkl hkj=>?_) (fun hj k hkl hk hkp=>?_)
 ·simp only[bp,xo]at hkl;rw[g _ (by omega),g _ (by omega)];exact h k hk (by omega)
 ·simp only[bp,xo]at hkl;omega
theorem Vj(n:Nat):∀(m i:Nat)(l:List Nat),n-i<=m->n<=l.length->i<l.length->(∀k,0<k->k<n->(k-1)/2≠i->l.getD ((k-1)/2) 0<=l.getD k 0)->(0<i->∀k,k<n->0<k->(k-1)/2=i->l.getD ((i-1)/2) 0<=l.getD k 0)->lM n (jW n l i).1:=by
 intro m
 induction m with
 |zero=>
  intro i l h hn hi h1 h2;rw[jW,if_pos (by omega)];intro k hk hkn;exact h1 k hk hkn (by omega)
 |succ m ih=>
  intro i l h hn hi h1 h2;rw[jW]
  split
  ·intro k hk hkn;exact h1 k hk hkn (by omega)
  ·rename_i hc;have kg:=Ax l (2*i+1) n;have kl:=E5 l (j:=2*i+1) (n:=n) (by omega)
   have kk:iS l (2*i+1) n=2*i+1\/iS l (2*i+1) n=2*i+2:=by unfold iS;split<;>omega
   have least:∀k,k<n->0<k->(k-1)/2=i->l.getD (iS l (2*i+1) n) 0<=l.getD k 0:=by
    intro k hkn hk hkp
    have hk2:k=2*i+1\/k=2*i+1+1:=by omega
    unfold iS
    split
    ·rename_i hh
     rcases hk2 with rfl|rfl
     ·omega
     ·exact aU _
    ·rename_i hh
     rcases hk2 with rfl|rfl
     ·exact aU _
     ·have:¬l.getD (2*i+1+1) 0<l.getD (2*i+1) 0:=fun h=>hh ⟨hkn,h⟩
      omega
   generalize iS l (2*i+1) n=j at*
   have hjl:j<l.length:=by omega
   have hs:=wb hi hjl
   split
   ·rename_i hlt;refine ih _ _ (by omega) (by rw[fV];exact hn) (by rw[fV];exact hjl) (fun k hk hkn hkp=>?_) (fun hp k hkn hk hkp=>?_)
    ·rw[hs,hs,if_neg hkp]
     by_cases hkj:k=j
     ·subst hkj;rw[if_pos rfl,if_pos (by omega)];omega
     ·rw[if_neg hkj]
      by_cases hci:(k-1)/2=i
      ·rw[if_pos hci,if_neg (by omega)];exact least k hkn hk hci
      ·rw[if_neg hci];have hk1:=h1 k hk hkn hci
       by_cases hki:k=i
       ·rw[if_pos hki];subst hki;exact h2 hk j kl (by omega) (by omega)
       ·rw[if_neg hki];exact hk1
    ·rw[hs,hs]
     have hpi:(j-1)/2=i:=by omega
     have hjne:¬i=j:=by omega
     rw[hpi,if_neg hjne,if_pos rfl,if_neg (by omega),if_neg (by omega)];have:=h1 k hk hkn (by omega)
     rw[hkp]at this;exact this
   ·rename_i hge;intro k hk hkn
    by_cases hci:(k-1)/2=i
    ·have:=least k hkn hk hci
     show l.getD ((k-1)/2) 0<=l.getD k 0
     rw[hci];omega
    ·exact h1 k hk hkn hci
theorem W2{n:Nat}{l:List Nat}(h:lM n l):∀k,k<n->l.getD 0 0<=l.getD k 0:=by
 intro k
 induction k using Nat.strongRecOn with
 |_ k ih=>
  intro hk
  by_cases h0:k=0
  ·subst h0;exact aU _
  ·have h1:=h k (by omega) hk;have h2:=ih ((k-1)/2) (by omega) (by omega);omega
theorem Vb{l:List Nat}(h:lM l.length l)(h0:0<l.length):lM (iI l).length (iI l):=by
 have hs:=wb (l:=l) (i:=0) (j:=l.length-1) h0 (by omega)
 have hd:lM (l.length-1) (jv l):=by
  rw[jv];refine Vj _ _ 0 _ (aU _) (by rw[fV];omega) (by rw[fV];omega) (fun k hk hkn hkp=>?_) (fun hp=>absurd hp (by omega));rw[hs,hs,if_neg (by omega),if_neg hkp,if_neg (by omega),if_neg (by omega)];exact h k hk (by omega)
 have hl:=Eg l
 have g:∀k,k<l.length-1->(iI l).getD k 0=(jv l).getD k 0:=fun k hk=>by
  rw[iI];simp only[bz];rw[xw hk]
 rw[Wa];intro k hk hkn;rw[g _ (by omega),g _ hkn];exact hd k hk hkn
theorem Yt{l:List Nat}(h0:0<l.length):dQ l=l.getD 0 0:=by
 have hs:=wb (l:=l) (i:=0) (j:=l.length-1) h0 (by omega)
 have eG:∀(n m i:Nat)(x:List Nat),n-i<=m->n<x.length->i<=n->(i<x.length)->(i<n\/n=0)->(jW n x i).1.getD n 0=x.getD n 0:=by
  intro n m
  induction m with
  |zero=>
   intro i x h1 h2 h3 h4 h5;rw[jW,if_pos (by omega)]
  |succ m ih=>
   intro i x h1 h2 h3 h4 h5;rw[jW]
   split
   ·rfl
   ·rename_i hc;have kg:=Ax x (2*i+1) n;have kl:=E5 x (j:=2*i+1) (n:=n) (by omega);generalize iS x (2*i+1) n=j at*
    split
    ·rw[ih j _ (by omega) (by rw[fV];exact h2) (by omega) (by rw[fV];omega) (by omega),wb h4 (by omega),if_neg (by omega),if_neg (by omega)]
    ·rfl
 rw[dQ,jv,eG _ _ 0 _ (aU _) (by rw[fV];omega) (by omega) (by rw[fV];omega) (by omega),hs,if_pos rfl]
theorem Yn{l:List Nat}(h:lM l.length l)(h0:0<l.length){x:Nat}(hx:x∈l):dQ l<=x:=by
 rw[Yt h0];obtain⟨k,hk,rfl⟩:=jK hx;have:=W2 h k hk;rw[bz (i:=k),a_ hk]at this;exact this
end Go.Proofs.YtchjijfjidlpjaaGreatDoor
namespace Go.Proofs.YtchjijfjidlpjaaGreatDoor
open Go.AM Go.Proofs
variable{Γ:Nat->Option AV}
def Ff(b:List (List Nat)):Nat->List (List Nat)->List Nat->List Nat->List Nat
 |0,_,_,_=>[]
 |f+1,nd,l,s=>if l=[]then[]else
  dQ l::Ff b f (nW (dQ l) (b.getD (dQ l) []) nd (iI l) (dQ l::s)).1 (nW (dQ l) (b.getD (dQ l) []) nd (iI l) (dQ l::s)).2.1 (nW (dQ l) (b.getD (dQ l) []) nd (iI l) (dQ l::s)).2.2
structure pa(c:Ct):Prop where
 nf:fD c=false
 names:∀s∈qo c,dd s=true
 ar:jn (bt c)=none
 outs:jn c.aq=none
 init:∀q∈c.ai,nF q=true
 af:∀g∈c.af,iM g=true
 used:∀s∈kQ c,s∈bt c
theorem Iw:∀(l seen:List Bs),iG seen l=none->l.Nodup/\∀s∈l,s∉seen
 |[],seen,_=>⟨List.nodup_nil,fun s hs=>by cases hs⟩
 |a::l,seen,h=>by
  rw[iG]at h
  by_cases hm:a∈seen
  ·rw[if_pos hm]at h;cases h
  ·rw[if_neg hm]at h;obtain⟨h1,h2⟩:=Iw l _ h;refine⟨oo.2 ⟨fun ha=>h2 a ha (by simp),h1⟩,fun s hs=>?_⟩
   rcases bw.1 hs with rfl|hs
   ·exact hm
   ·exact fun hs2=>h2 s hs (by simp[hs2])
def GtB(g:Gt):Prop:=g.name.length<2^40/\g.ins.length<2^40/\g.rows.length<2^40/\(∀s∈g.ins,s.length<2^40)/\∀s∈g.rows,s.length<2^40
def w6(c:Ct):Prop:=c.ak.length<2^40/\c.aq.length<2^40/\c.ai.length<2^40/\c.af.length<2^40/\(∀g∈c.af,GtB g)/\
 (∀s∈c.ak,s.length<2^40)/\(∀s∈c.aq,s.length<2^40)/\∀q∈c.ai,q.name.length<2^40/\q.next.length<2^40
theorem E1{α:Type}{p:α->Bool}:∀{l:List α},aZ p l=false->∀x∈l,p x=false
 |[],_,x,hx=>by cases hx
 |a::l,h,x,hx=>by
  rw[jM,jI]at h
  rcases bw.1 hx with rfl|hx
  ·exact h.1
  ·exact E1 h.2 x hx
theorem I_{c:Ct}(hb:w6 c)(hl:fD c=false):eP c:=by
 simp only[fD,jI,gK]at hl;obtain⟨h1,h2,h3⟩:=hl;obtain⟨b1,b2,b3,b4,b5,b6⟩:=hb;refine⟨by omega,by omega,by omega,by omega,fun g hg=>?_,b6⟩;obtain⟨g1,g2,g3,g4⟩:=b5 g hg;have:=E1 h1 g hg;simp only[oL,jI,gK]at this;exact⟨g1,by omega,by omega,g4⟩
set_option maxRecDepth 8000 in
theorem Yk(hΓ:lU Γ)(c:Ct)(hb:w6 c):aN Tryz.prog Γ ou [dT c] (uw (fY c)):=by
 cases hl:fD c with
 |false=>exact Zx hΓ c (I_ hb hl)
 |true=>
  have b0:=hb.1;have b1:=hb.2.1;have b3:=hb.2.2.1;have b4:=hb.2.2.2.1;have hC:=Ia (Γ:=Γ) (fl:=false) (Mb c.af) c.hG (by omega) (h:=G8 c) trivial;have e0:((c.ak.length:Int)+c.ai.length+c.af.length<=200)=(c.ak.length+c.ai.length+c.af.length<=200):=propext (by omega);have e1:((c.aq.length:Int)<=200)=(c.aq.length<=200):=propext (by omega);refine .run 160 IH (by simp) ?_;unfold fY
  by_cases h1:c.ak.length+c.ai.length+c.af.length<=200
  ·by_cases h2:c.aq.length<=200
   ·simp(disch:=omega) [e0,e1,h1,h2];refine .dE 160 hC ?_
    have h3:aZ oL c.af=true:=by
     simp only[fD,fR,a8]at hl
     rcases hl with h|h|h
     ·exact h
     ·omega
     ·omega
    rw[h3];simp;refine .kP 160 (by simp) (lu 8 []) ?_;simp;refine .dr 90 ?_;simp;exact .back (by simp[hl])
   ·simp(disch:=omega) [e0,e1,h1,h2];refine .kP 160 (by simp) (lu 8 []) ?_;simp;refine .dr 90 ?_;simp;exact .back (by simp[hl])
  ·simp(disch:=omega) [e0,e1,h1];refine .kP 160 (by simp) (lu 8 []) ?_;simp;refine .dr 90 ?_;simp;exact .back (by simp[hl])
def ET(c:Ct):Bool:=decide ((fY c).1=0)
def wz(c:Ct)(out:List Nat):List (Bs×Nat):=(jD c).filter fun x=>!out.contains x.2
theorem Nl{c:Ct}{x:Bs×Nat}(hx:x∈jD c):∃h:x.2<c.af.length,x.1=c.af[x.2].name:=by
 obtain⟨j,hj,rfl⟩:=jK hx;rw[Ew]at hj;rw[MZ c j hj];exact⟨hj,rfl⟩
theorem YL{c:Ct}(hd:(c.af.map (·.name)).Nodup){i j:Nat}(hi:i<c.af.length)(hj:j<c.af.length)(h:c.af[i].name=c.af[j].name):i=j:=by
 have h1:(c.af.map (·.name))[i]'(by simpa using hi)=(c.af.map (·.name))[j]'(by simpa using hj):=by simpa using h
 exact(List.getElem_inj hd).1 h1
theorem VK(c:Ct):wz c []=jD c:=by simp[wz]
theorem V7{c:Ct}(hd:(c.af.map (·.name)).Nodup)(out:List Nat){i:Nat}(hi:i<c.af.length):getM c.af[i].name (wz c out)=if i∈out then none else some i:=by
 have key:∀l:List (Bs×Nat),(∀x∈l,x∈jD c)->getM c.af[i].name (l.filter fun x=>!out.contains x.2)=if i∈out then none else if(c.af[i].name,i)∈l then some i else none:=by
  intro l
  induction l with
  |nil=>intro _;simp[getM]
  |cons x l ih=>
   intro hl;obtain⟨h1,h2⟩:=Nl (hl x (by simp))
   have ih:=ih fun y hy=>hl y (by simp[hy])
   by_cases hx:x.2=i
   ·have hx1:x=(c.af[i].name,i):=by
     obtain⟨a,b⟩:=x;simp only at hx h2;subst hx;rw[h2]
    by_cases ho:i∈out
    ·rw[u6,if_neg (by rw[hx1];simpa using ho),ih,if_pos ho,if_pos ho]
    ·rw[u6,if_pos (by rw[hx1];simpa using ho),if_neg ho,hx1];simp[getM]
   ·have hne:¬c.af[i].name=x.1:=fun h=>hx (YL hd h1 hi (by rw[<-h2,h])).symm.symm
    have hm:((c.af[i].name,i)∈x::l)↔(c.af[i].name,i)∈l:=by
     rw[bw];exact⟨fun h=>h.resolve_left fun h=>hx (by rw[<-h]),.inr⟩
    rw[u6]
    split
    ·rw[getM,if_neg hne,ih];simp only[hm]
    ·rw[ih];simp only[hm]
 have hm:(c.af[i].name,i)∈jD c:=by
  have:=bZ (l:=jD c) (n:=i) (by rw[Ew];exact hi);rwa[MZ c i hi]at this
 rw[wz,key _ fun x hx=>hx,if_pos hm]
abbrev lpS:Ob:=.loop .ready .none Iy [U,.ptr 0 0,.sl 1 0 0,.sl 2 0 0,.ptr 3 0,.ptr 7 0,U,U,U,U,U,U,U,U,U,U,U,U,U,U,U,U,U,U,U,U,U,U,U,U,U,U,U,U,U,U,U,U,U,U,U,U,U,U,U,U,U,U,U,U,U,U,U,U] [19] (.ae yeV) yeZ
abbrev hS(c:Ct)(out:List Nat):List Ob:=[.cells (AV.cells (dT c)),.row 1 az [] none true false,.row 1 au [] none true false,.cells [.sl 4 0 out.length],.row 1 az (out.map iN) none true false,.cells (AV.cells (dT c)),.map ((wz c out).map Qz) true,.cells [.mp 6],.cells (AV.cells (dT c)),.bB true,lpS]
def oR(out:List Nat):List Gt->Nat->List Bs
 |[],_=>[]
 |g::r,i=>if i∈out then oR out r (i+1)else g.name::oR out r (i+1)
end Go.Proofs.YtchjijfjidlpjaaGreatDoor
namespace Go.Proofs.YtchjijfjidlpjaaGreatDoor
open Go.AM Go.Proofs
def ea(c:Ct)(i j:Nat):Bool:=match c.af[i]?,c.af[j]? with
 |some g,some h=>g.ins.contains h.name
 |_,_=>false
theorem qh{c:Ct}{i j:Nat}(h:ea c i j=true):i<c.af.length/\j<c.af.length:=by
 unfold ea at h
 split at h
 ·rename_i g h' h1 h2;exact⟨(pJ.1 h1).1,(pJ.1 h2).1⟩
 ·cases h
theorem EU{c:Ct}{i j:Nat}(hi:i<c.af.length)(hj:j<c.af.length):ea c i j=true↔c.af[j].name∈c.af[i].ins:=by
 simp[ea,hi,hj]
theorem LJ{K V:Type}[DecidableEq K]{k:K}{v:V}:∀{l:List (K×V)},getM k l=some v->(k,v)∈l
 |[],h=>by cases h
 |(a,u)::l,h=>by
  rw[getM]at h
  split at h
  ·rename_i h1;cases h;subst h1;simp
  ·exact dm _ (LJ h)
theorem M9{c:Ct}(hd:(c.af.map (·.name)).Nodup){s:Bs}{k:Nat}:getM s (jD c)=some k↔∃h:k<c.af.length,c.af[k].name=s:=by
 constructor
 ·intro h;obtain⟨h1,h2⟩:=Nl (LJ h);exact⟨h1,h2.symm⟩
 ·rintro⟨h,rfl⟩
  have:=V7 hd [] h;rw[VK]at this;simpa using this
theorem zA(pl:List (Bs×Nat))(x:Nat):∀(l:List Bs)(a:List Nat),x∈gD pl l a↔x∈a\/∃s∈l,getM s pl=some x
 |[],a=>by simp[gD]
 |s::r,a=>by
  rw[gD]
  split
  ·rename_i h0;rw[zA pl x r a];simp[h0]
  ·rename_i k h0;rw[zA pl x r]
   have hk:(x∈if k∈a then a else a++[k])↔x∈a\/x=k:=by
    split
    ·rename_i hm;exact⟨.inl,fun h=>h.elim id fun h=>h▸hm⟩
    ·simp
   rw[hk];simp only[bw,exists_eq_or_imp,h0,al];constructor
   ·rintro((h|h)|h)
    ·exact .inl h
    ·exact .inr (.inl h.symm)
    ·exact .inr (.inr h)
   ·rintro(h|h|h)
    ·exact .inl (.inl h)
    ·exact .inl (.inr h.symm)
    ·exact .inr h
theorem zw(pl:List (Bs×Nat)):∀(l:List Gt)(i:Nat)(nd b:List (List Nat)),(o7 pl l i nd b).1=nd++l.map fun g=>gD pl g.ins []
 |[],_,_,_=>by simp[o7]
 |g::r,i,nd,b=>by rw[o7,zw pl r];simp
theorem JF{c:Ct}(hd:(c.af.map (·.name)).Nodup){i:Nat}(hi:i<c.af.length)(x:Nat):x∈(wh c).getD i []↔ea c i x=true:=by
 have e:(wh c).getD i []=gD (jD c) c.af[i].ins []:=by
  rw[wh,zw];simp[hi]
 rw[e,zA];constructor
 ·rintro(h|⟨s,hs,h⟩)
  ·cases h
  ·obtain⟨h1,h2⟩:=(M9 hd).1 h;exact(EU hi h1).2 (h2▸hs)
 ·intro h;obtain⟨_,h1⟩:=qh h;exact .inr ⟨_,(EU hi h1).1 h,(M9 hd).2 ⟨h1,rfl⟩⟩
theorem Af(pl:List (Bs×Nat))(i k:Nat):∀(l:List Bs)(a:List Nat)(b:List (List Nat)),k<b.length->(qF pl i l a b).getD k []=if k∈gD pl l a/\k∉a then b.getD k []++[i]else b.getD k []
 |[],a,b,hk=>by
  rw[qF,gD,if_neg (fun h=>h.2 h.1)]
 |s::r,a,b,hk=>by
  rw[qF,gD]
  split
  ·exact Af pl i k r a b hk
  ·rename_i k0 h0
   by_cases hm:k0∈a
   ·simp only[if_pos hm];exact Af pl i k r a b hk
   ·simp only[if_neg hm];rw[Af pl i k r _ _ (by simpa using hk)]
    have hset:(b.set k0 (b.getD k0 []++[i])).getD k []=if k0=k then b.getD k []++[i]else b.getD k []:=by
     simp only[bz,mn]
     by_cases h1:k0=k
     ·subst h1;simp[hk]
     ·simp[h1]
    rw[hset]
    by_cases h1:k0=k
    ·subst h1;have hin:k0∈gD pl r (a++[k0]):=(zA pl k0 r _).2 (.inl (by simp));rw[if_neg (by simp),if_pos rfl,if_pos ⟨hin,hm⟩]
    ·have hiff:(k∈gD pl r (a++[k0])/\k∉a++[k0])↔(k∈gD pl r (a++[k0])/\k∉a):=by
      simp only[ba,cG,not_or];exact⟨fun h=>⟨h.1,h.2.1⟩,fun h=>⟨h.1,h.2,fun h2=>h1 h2.symm⟩⟩
     rw[if_neg h1];simp only[hiff]
def l7(pl:List (Bs×Nat))(k:Nat):List Gt->Nat->List Nat
 |[],_=>[]
 |g::r,i=>if k∈gD pl g.ins []then i::l7 pl k r (i+1)else l7 pl k r (i+1)
theorem KP(pl:List (Bs×Nat))(k:Nat):∀(l:List Gt)(i:Nat)(nd b:List (List Nat)),k<b.length->(o7 pl l i nd b).2.getD k []=b.getD k []++l7 pl k l i
 |[],_,_,_,_=>by simp[o7,l7]
 |g::r,i,nd,b,hk=>by
  rw[o7,KP pl k r _ _ _ (by rw[Eu];exact hk),Af pl i k g.ins [] b hk,l7]
  split
  ·rename_i h
   rw[if_pos h.1];simp
  ·rename_i h;rw[if_neg fun h1=>h ⟨h1,by simp⟩]
theorem EF(pl:List (Bs×Nat))(k j:Nat):∀(l:List Gt)(i:Nat),j∈l7 pl k l i↔∃t,∃h:t<l.length,j=i+t/\k∈gD pl l[t].ins []
 |[],i=>by simp[l7]
 |g::r,i=>by
  have ih:=EF pl k j r (i+1)
  have hs:(∃t,∃h:t<(g::r).length,j=i+t/\k∈gD pl (g::r)[t].ins [])↔(j=i/\k∈gD pl g.ins [])\/∃t,∃h:t<r.length,j=i+1+t/\k∈gD pl r[t].ins []:=by
   constructor
   ·rintro⟨t,h,e,hm⟩
    cases t with
    |zero=>exact .inl ⟨e,hm⟩
    |succ t=>exact .inr ⟨t,by simpa using h,by omega,hm⟩
   ·rintro(⟨e,hm⟩|⟨t,h,e,hm⟩)
    ·exact⟨0,by simp,e,hm⟩
    ·exact⟨t+1,by simpa using h,by omega,hm⟩
  rw[hs,l7]
  split
  ·rename_i h0;simp only[bw,ih,h0,pD]
  ·rename_i h0;simp only[ih,h0,and_false,false_or]
theorem Dr(pl:List (Bs×Nat))(k:Nat):∀(l:List Gt)(i:Nat),(l7 pl k l i).Nodup
 |[],i=>by simp[l7]
 |g::r,i=>by
  rw[l7]
  split
  ·rw[oo];refine⟨fun h=>?_,Dr pl k r (i+1)⟩;obtain⟨t,_,e,_⟩:=(EF pl k i r (i+1)).1 h;omega
  ·exact Dr pl k r (i+1)
theorem MF(c:Ct){k:Nat}(hk:k<c.af.length):(nU c).getD k []=l7 (jD c) k c.af 0:=by
 rw[nU,KP _ _ _ _ _ _ (by simpa using hk)];simp[hk]
theorem tx{c:Ct}(hd:(c.af.map (·.name)).Nodup){k:Nat}(hk:k<c.af.length)(i:Nat):i∈(nU c).getD k []↔ea c i k=true:=by
 rw[MF c hk,EF];constructor
 ·rintro⟨t,ht,e,hm⟩
  have:i=t:=by omega
  subst this;rw[<-JF hd ht,wh,zw];simpa[ht]using hm
 ·intro h;obtain⟨hi,_⟩:=qh h;refine⟨i,hi,by omega,?_⟩;rw[<-JF hd hi,wh,zw]at h;simpa[hi]using h
theorem JG(c:Ct){k:Nat}(hk:k<c.af.length):((nU c).getD k []).Nodup:=by rw[MF c hk];exact Dr _ _ _ _
def ir(c:Ct)(done:List Nat)(k:Nat):Bool:=!done.contains k&&(List.range c.af.length).all fun x=>!ea c k x||done.contains x
theorem kC{c:Ct}{done:List Nat}{k:Nat}:ir c done k=true↔k∉done/\∀x,ea c k x=true->x∈done:=by
 simp only[ir,aC,je,xv,gK,dL,dw,fR,a8];constructor
 ·rintro⟨h1,h2⟩
  refine⟨h1,fun x hx=>?_⟩
  rcases h2 x (qh hx).2 with h|h
  ·rw[h]at hx;cases hx
  ·exact h
 ·rintro⟨h1,h2⟩
  refine⟨h1,fun x _=>?_⟩
  cases hx:ea c k x with
  |false=>exact .inl rfl
  |true=>exact .inr (h2 x hx)
def jX(c:Ct)(done:List Nat):Option Nat:=(List.range c.af.length).find? (ir c done)
def ij(c:Ct):Nat->List Nat->List Nat
 |0,_=>[]
 |f+1,done=>match jX c done with
  |none=>[]
  |some k=>k::ij c f (done++[k])
def cH(c:Ct):List Nat:=ij c c.af.length []
theorem JD{c:Ct}{done:List Nat}{a:Nat}(ha:a<c.af.length)(h1:ir c done a=true)(h2:∀j<a,ir c done j=false):jX c done=some a:=by
 rw[jX,List.find?_range_eq_some];exact⟨h1,by simpa using ha,fun j hj=>by simp[h2 j hj]⟩
theorem Vh{c:Ct}{done:List Nat}(h:∀a<c.af.length,ir c done a=false):jX c done=none:=by
 rw[jX,List.find?_eq_none];intro x hx
 rw[h x (by simpa using hx)];simp
theorem LN{c:Ct}{done:List Nat}{a:Nat}(h:jX c done=some a):a<c.af.length/\ir c done a=true/\∀j<a,ir c done j=false:=by
 rw[jX,List.find?_range_eq_some]at h;exact⟨by simpa using h.2.1,h.1,fun j hj=>by simpa using h.2.2 j hj⟩
theorem Yq{c:Ct}{done:List Nat}(h:jX c done=none){a:Nat}(ha:a<c.af.length):ir c done a=false:=by
 rw[jX,List.find?_eq_none]at h;simpa using h a (by simpa using ha)
structure Inv(c:Ct)(done:List Nat)(nd:List (List Nat))(l:List Nat):Prop where
 len:nd.length=c.af.length
 Qb:∀i<c.af.length,∀x,x∈nd.getD i []↔ea c i x=true/\x∉done
 ls:∀i,i∈l↔i<c.af.length/\ir c done i=true
 xe:l.Nodup
 heap:lM l.length l
 don:done.Nodup
 lt:∀x∈done,x<c.af.length
 all:∀i∈done,∀x,ea c i x=true->x∈done
structure sa(c:Ct)(done:List Nat)(a:Nat)(r:List Nat)(nd:List (List Nat))(l:List Nat):Prop where
 len:nd.length=c.af.length
 ke:∀i<c.af.length,i∈r->∀x,x∈nd.getD i []↔ea c i x=true/\x∉done
 new:∀i<c.af.length,i∉r->∀x,x∈nd.getD i []↔ea c i x=true/\x∉done++[a]
 ls:∀i,i∈l↔i<c.af.length/\i∉r/\ir c (done++[a]) i=true
 xe:l.Nodup
 heap:lM l.length l
theorem X6(a:Nat)(l:List Nat)(x:Nat):x∈nV a l↔x∈l/\x≠a:=by simp[nV]
theorem sa.run{c:Ct}{done:List Nat}{a:Nat}(ha:a∉done)(haa:∀x,ea c a x=true->x∈done)(hall:∀i∈done,∀x,ea c i x=true->x∈done):∀(r:List Nat)(nd:List (List Nat))(l s:List Nat),r.Nodup->(∀i∈r,ea c i a=true)->sa c done a r nd l->
 sa c done a [] (nW a r nd l s).1 (nW a r nd l s).2.1
 |[],nd,l,s,_,_,h=>h
 |i::r,nd,l,s,hr,hW,h=>by
  have hi:=(qh (hW i (by simp))).1;rw[oo]at hr
  have hil:i∉l:=fun hm=>((h.ls i).1 hm).2.1 (by simp)
  have hid:i∉done:=fun hm=>ha (hall i hm a (hW i (by simp)))
  have hia:i≠a:=fun he=>ha (haa a (he▸hW i (by simp)))
  have hg:∀j,(nd.set i (nV a (nd.getD i []))).getD j []=if i=j then nV a (nd.getD i [])else nd.getD j []:=fun j=>by
   simp only[bz,mn]
   by_cases h1:i=j
   ·subst h1;simp[h.len,hi]
   ·simp[h1]
  have hmem:∀x,x∈nV a (nd.getD i [])↔ea c i x=true/\x∉done++[a]:=fun x=>by
   rw[X6,h.ke i hi (by simp) x];simp only[ba,cG,not_or];exact⟨fun h=>⟨h.1.1,h.1.2,h.2⟩,fun h=>⟨⟨h.1,h.2.1⟩,h.2.2⟩⟩
  have hold:∀j<c.af.length,j∈r->∀x,x∈(nd.set i (nV a (nd.getD i []))).getD j []↔ea c j x=true/\x∉done:=fun j hj hjr x=>by
   have hne:¬i=j:=fun he=>hr.1 (he▸hjr)
   rw[hg,if_neg hne];exact h.ke j hj (by simp[hjr]) x
  have hnew:∀j<c.af.length,j∉r->∀x,x∈(nd.set i (nV a (nd.getD i []))).getD j []↔ea c j x=true/\x∉done++[a]:=fun j hj hjr x=>by
   rw[hg]
   by_cases he:i=j
   ·subst he;rw[if_pos rfl];exact hmem x
   ·rw[if_neg he];exact h.new j hj (by simp only[bw,not_or];exact⟨fun h=>he h.symm,hjr⟩) x
  rw[nW]
  split
  ·rename_i h0;refine sa.run ha haa hall r _ _ _ hr.2 (fun j hj=>hW j (by simp[hj])) ⟨by simpa using h.len,hold,hnew,fun j=>?_,?_,UI h.heap i⟩
   ·rw[(I9 l i).mem_iff,bw];constructor
    ·rintro(rfl|hj)
     ·refine⟨hi,hr.1,kC.2 ⟨by simp[hid,hia],fun x hx=>?_⟩⟩
      refine HW fun hn=>?_
      have:=(hmem x).2 ⟨hx,hn⟩
      rw[h0]at this;cases this
     ·have:=(h.ls j).1 hj;exact⟨this.1,fun h2=>this.2.1 (by simp[h2]),this.2.2⟩
    ·rintro⟨h1,h2,h3⟩
     by_cases he:j=i
     ·exact .inl he
     ·exact .inr ((h.ls j).2 ⟨h1,by simp only[bw,not_or];exact⟨he,h2⟩,h3⟩)
   ·rw[(I9 l i).nodup_iff,oo];exact⟨hil,h.xe⟩
  ·rename_i h0;refine sa.run ha haa hall r _ _ _ hr.2 (fun j hj=>hW j (by simp[hj])) ⟨by simpa using h.len,hold,hnew,fun j=>?_,h.xe,h.heap⟩;rw[h.ls j];refine⟨fun⟨h1,h2,h3⟩=>⟨h1,fun h4=>h2 (by simp[h4]),h3⟩,fun⟨h1,h2,h3⟩=>⟨h1,?_,h3⟩⟩;simp only[bw,not_or];refine⟨fun he=>?_,h2⟩;subst he;apply h0;rw[Q9];intro x hx;obtain⟨h5,h6⟩:=(hmem x).1 hx;exact h6 ((kC.1 h3).2 x h5)
theorem Inv.step{c:Ct}(hd:(c.af.map (·.name)).Nodup){done:List Nat}{nd:List (List Nat)}{l:List Nat}(h:Inv c done nd l)(h0:l≠[])(s:List Nat):
 jX c done=some (dQ l)/\Inv c (done++[dQ l]) (nW (dQ l) ((nU c).getD (dQ l) []) nd (iI l) s).1 (nW (dQ l) ((nU c).getD (dQ l) []) nd (iI l) s).2.1:=by
 have hpos:0<l.length:=uW.2 h0;have hhr:=WO hpos;have hal:dQ l∈l:=hhr.mem_iff.1 (by simp);obtain⟨ha,hmay⟩:=(h.ls _).1 hal;obtain⟨had,haa⟩:=kC.1 hmay;have hnod:=hhr.nodup_iff.2 h.xe;rw[oo]at hnod
 have hn:jX c done=some (dQ l):=JD ha hmay fun j hj=>by
  rw[HX];intro hm;have:=Yn h.heap hpos ((h.ls j).2 ⟨by omega,hm⟩);omega
 refine⟨hn,?_⟩
 have hR:sa c done (dQ l) ((nU c).getD (dQ l) []) nd (iI l):=by
  refine⟨h.len,fun i hi _ x=>h.Qb i hi x,fun i hi hir x=>?_,fun i=>?_,hnod.2,Vb h.heap hpos⟩
  ·rw[h.Qb i hi x];refine⟨fun⟨h1,h2⟩=>⟨h1,?_⟩,fun⟨h1,h2⟩=>⟨h1,fun h3=>h2 (by simp[h3])⟩⟩;simp only[ba,cG,not_or];exact⟨h2,fun he=>hir ((tx hd ha i).2 (he▸h1))⟩
  ·have hil:i∈l↔i=dQ l\/i∈iI l:=by rw[<-hhr.mem_iff,bw]
   constructor
   ·intro hi;obtain⟨h1,h2⟩:=(h.ls i).1 (hil.2 (.inr hi));obtain⟨h3,h4⟩:=kC.1 h2;refine⟨h1,fun hb=>?_,kC.2 ⟨?_,fun x hx=>by simp[h4 x hx]⟩⟩
    ·exact had (h4 _ ((tx hd ha i).1 hb))
    ·simp only[ba,cG,not_or];exact⟨h3,fun he=>hnod.1 (he▸hi)⟩
   ·rintro⟨h1,h2,h3⟩
    obtain⟨h4,h5⟩:=kC.1 h3;simp only[ba,cG,not_or]at h4
    have hi:i∈l:=(h.ls i).2 ⟨h1,kC.2 ⟨h4.1,fun x hx=>by
     have:=h5 x hx;simp only[ba,cG]at this
     rcases this with h6|h6
     ·exact h6
     ·exact absurd ((tx hd ha i).2 (h6▸hx)) h2⟩⟩
    exact(hil.1 hi).resolve_left h4.2
 have hE:=sa.run had haa h.all _ _ _ s (JG c ha) (fun i hi=>(tx hd ha i).1 hi) hR;refine⟨hE.len,fun i hi x=>hE.new i hi (by simp) x,fun i=>by rw[hE.ls i];simp,hE.xe,hE.heap,?_,fun x hx=>?_,fun i hi x hx=>?_⟩
 ·rw[om];refine⟨h.don,by simp,fun x hx y hy=>?_⟩;rw[cG]at hy;subst hy
  exact fun he=>had (he▸hx)
 ·rcases ba.1 hx with h1|h1
  ·exact h.lt x h1
  ·rw[cG]at h1;subst h1;exact ha
 ·rcases ba.1 hi with h1|h1
  ·simp[h.all i h1 x hx]
  ·rw[cG]at h1;subst h1;simp[haa x hx]
theorem Lg:∀(N:Nat)(l:List Nat),l.Nodup->(∀x∈l,x<N)->l.length<=N
 |0,[],_,_=>aU _
 |0,x::l,_,h=>absurd (h x (by simp)) (by omega)
 |N+1,l,hn,h=>by
  have h1:=Lg N (l.erase N) (hn.erase N) fun x hx=>by
   obtain⟨h2,h3⟩:=hn.mem_erase_iff.1 hx
   have:=h x h3;omega
  by_cases hm:N∈l
  ·rw[QZ hm]at h1;omega
  ·rw[List.erase_of_not_mem hm]at h1;omega
theorem Inv.come{c:Ct}(hd:(c.af.map (·.name)).Nodup):∀(f:Nat)(done:List Nat)(nd:List (List Nat))(l s:List Nat),Inv c done nd l->Ff (nU c) f nd l s=ij c f done
 |0,_,_,_,_,_=>rfl
 |f+1,done,nd,l,s,h=>by
  rw[Ff,ij]
  by_cases h0:l=[]
  ·have hn:jX c done=none:=Vh fun a ha=>by
    rw[HX];intro hm;have:=(h.ls a).2 ⟨ha,hm⟩
    rw[h0]at this;cases this
   rw[if_pos h0,hn]
  ·obtain⟨h1,h2⟩:=h.step hd h0 (dQ l::s);rw[if_neg h0,h1];simp only;rw[Inv.come hd f _ _ _ _ h2]
theorem LZ(c:Ct):∀(f:Nat)(done:List Nat),∀x∈ij c f done,x<c.af.length
 |0,_=>by simp[ij]
 |f+1,done=>by
  rw[ij]
  split
  ·simp
  ·rename_i k hk;intro x hx
   rcases bw.1 hx with rfl|hx
   ·exact(LN hk).1
   ·exact LZ c f _ x hx
end Go.Proofs.YtchjijfjidlpjaaGreatDoor
namespace Go.Proofs.YtchjijfjidlpjaaGreatDoor
open Go.AM Go.Proofs
variable{Γ:Nat->Option AV}
def wc(c:Ct):List Bs:=if ET c=true then oR (cH c) c.af 0 else[]
def As(c:Ct):Int×Bs:=if(fY c).1=0 then(match wc c with
 |[]=>(0,[])
 |s::_=>(7,s))else fY c
def ab7(c:Ct):List (Bs×(Bool×Nat×List Bs)):=c.ai.map (fun q=>(q.name,(true,1,[q.next])))++c.af.map fun g=>(g.name,(false,g.ki,g.ins))
abbrev eNx(x:Bool×Nat×List Bs):AV:=.list x.1 x.2.1 (x.2.2.map .str)
abbrev F9(x:Bs×(Bool×Nat×List Bs)):AV×AV:=(.str x.1,eNx x.2)
@[simp] theorem ZJ(n:Nat):∀l:List (Bs×(Bool×Nat×List Bs)),iw n (l.map F9)=true
 |[]=>rfl
 |x::r=>by simp[ZJ n r]
@[simp] theorem ZV(n m:Nat):∀l:List (Bs×(Bool×Nat×List Bs)),pd n m (l.map F9)=true
 |[]=>rfl
 |x::r=>by simp[ZV n m r]
abbrev qE(c:Ct)(inn hist:List Bs)(g:Option Nat):List Ob:=[.cells (AV.cells (dT c)),.row 1 au [] none true false,.map ((ab7 c).map F9) true,.map (inn.map iH) true,.row 1 au (hist.map .str) g true false]
def rZ(a:Nat):List Nat->List Nat->List Nat
 |[],lv=>lv
 |i::r,lv=>rZ a r (lv.set i (max (lv.getD i 0) (lv.getD a 0+1)))
theorem L5(a:Nat):∀(r lv:List Nat),(rZ a r lv).length=lv.length
 |[],_=>rfl
 |i::r,lv=>by rw[rZ,L5 a r];simp
def FE(k:Nat)(l:List Nat):List Nat:=if k∈l then l else l++[k]
def r8(c:Ct)(s:List Nat×List Nat)(a:Nat):List Nat×List Nat:=(rZ a ((nU c).getD a []) s.1,FE a s.2)
def qv(s:Bs):Bool:=decide (60<s.length)
def oS(m:Nat)(l:List Bs):Bool:=decide (l.length<=m)&&!aZ qv l
theorem CO(l:List Bs)(m:Nat)(hm:m<1000){k:Nat}(hk:Kd 1 k l):aN Tryz.prog Γ ri [.list false k (l.map .str),.int .i64 m] (.bool (oS m l)):=by
 have key:∀n i:Nat,i+n=l.length->i<=m+1->aB Tryz.prog Γ (yfE (.list false k (l.map .str)) (.int .i64 m) (.int .i64 i) []) (.ret (.bool (decide (l.length<=m)&&!aZ qv (l.drop i)))):=by
  intro n
  induction n with
  |zero=>
   intro i hi hL
   have q1:¬i<l.length:=by omega
   have e1:((l.length:Int)<=m)=(l.length<=m):=propext (by omega);rw[bq (by omega),zU];refine .go 60 ?_;simp[q1,e1];exact .back (by simp)
  |succ n ih=>
   intro i hi hL
   have q1:i<l.length:=by omega
   have q2:=bl (hk.of q1)
   by_cases h2:i<=m
   ·have h2':((i:Int)<=m)=True:=bl (by omega);have hh:=ih (i+1) (by omega) (by omega);have e3:((60:Int)<(l[i].length:Int))=(60<l[i].length):=propext (by omega);rw[br q1,jM];refine .go 60 ?_
    by_cases h3:60<l[i].length
    ·have hl:qv l[i]=true:=by simp[qv,h3]
     simp[q1,q2,h2',e3,h3,hl];exact .back (by simp[h3])
    ·have hl:qv l[i]=false:=by simp only[qv,gK];exact h3
     simp(disch:=omega) [q1,q2,h2',e3,h3,hl];refine .aT ?_;simp at hh⊢;exact hh
   ·have h2':((i:Int)<=m)=False:=gq (by omega);have e1:((l.length:Int)<=m)=False:=gq (by omega)
    have h3:¬l.length<=m:=by omega
    refine .go 60 ?_;simp[q1,h2',e1,h3];exact .back (by simp)
 refine .run 60 T0 (by simp) ?_;simp;refine .inLoop ?_;have hh:=key l.length 0 (by omega) (by omega);simp[oS]at hh⊢;exact hh
end Go.Proofs.YtchjijfjidlpjaaGreatDoor
namespace Go.Proofs.YtchjijfjidlpjaaGreatDoor
open Go.AM Go.Proofs
theorem DL(c:Ct):∀(f:Nat)(done:List Nat),done.Nodup->(∀x∈done,x<c.af.length)->
 (done++ij c f done).Nodup/\(∀p a q,ij c f done=p++a::q->ir c (done++p) a=true/\∀j<a,ir c (done++p) j=false)/\(c.af.length<=done.length+f->∀a<c.af.length,ir c (done++ij c f done) a=false)
 |0,done,hd,hl=>by
  refine⟨by simpa[ij]using hd,fun p a q h=>by simp[ij]at h,fun hf a ha=>?_⟩;rw[HX];intro hm;have h3:=(kC.1 hm).1;simp only[ij,eL]at h3
  have:=Lg c.af.length (a::done) (oo.2 ⟨h3,hd⟩) (fun y hy=>by
   rcases bw.1 hy with rfl|hy
   ·exact ha
   ·exact hl y hy)
  simp only[bC]at this;omega
 |f+1,done,hd,hl=>by
  rw[ij]
  cases hn:jX c done with
  |none=>
   refine⟨by simpa using hd,fun p a q h=>by simp at h,fun hf a ha=>?_⟩;simpa using Yq hn ha
  |some k=>
   obtain⟨hk,hm,hj⟩:=LN hn;have h3:=(kC.1 hm).1
   obtain⟨i1,i2,i3⟩:=DL c f (done++[k]) (by
    rw[om];refine⟨hd,by simp,fun x hx y hy=>?_⟩;rw[cG]at hy;subst hy
    exact fun he=>h3 (he▸hx)) (fun x hx=>by
    rcases ba.1 hx with hx|hx
    ·exact hl x hx
    ·rw[cG]at hx;subst hx;exact hk)
   simp only[c8,sA]at i1 i2 i3;refine⟨i1,fun p a q h=>?_,fun hf a ha=>i3 (by simp;omega) a ha⟩
   cases p with
   |nil=>
    simp only[lg,xn]at h;rw[eL,<-h.1];exact⟨hm,hj⟩
   |cons x p=>
    simp only[ek,xn]at h;obtain⟨rfl,h⟩:=h;exact i2 p a q h
theorem IS(c:Ct):(cH c).Nodup:=by simpa[cH]using(DL c c.af.length [] (by simp) (by simp)).1
theorem tu(c:Ct):∀x∈cH c,x<c.af.length:=LZ c _ _
theorem Wj(c:Ct){p q:List Nat}{a:Nat}(h:cH c=p++a::q):ir c p a=true/\∀j<a,ir c p j=false:=by
 simpa using(DL c c.af.length [] (by simp) (by simp)).2.1 p a q h
theorem Yr(c:Ct){i:Nat}(hi:i<(cH c).length){x:Nat}(hx:ea c (cH c)[i] x=true):x∈(cH c).take i:=by
 have h:cH c=(cH c).take i++(cH c)[i]::(cH c).drop (i+1):=by
  rw[<-br hi,oa]
 exact(kC.1 (Wj c h).1).2 x hx
theorem CY(out:List Nat)(s:Bs):∀(l:List Gt)(i:Nat),s∈oR out l i↔∃t,∃h:t<l.length,l[t].name=s/\i+t∉out
 |[],i=>by simp[oR]
 |g::r,i=>by
  have hs:(∃t,∃h:t<(g::r).length,(g::r)[t].name=s/\i+t∉out)↔(g.name=s/\i∉out)\/∃t,∃h:t<r.length,r[t].name=s/\i+1+t∉out:=by
   constructor
   ·rintro⟨t,h,e,hm⟩
    cases t with
    |zero=>exact .inl ⟨e,hm⟩
    |succ t=>exact .inr ⟨t,by simpa using h,e,by rwa[show i+1+t=i+(t+1) by omega]⟩
   ·rintro(⟨e,hm⟩|⟨t,h,e,hm⟩)
    ·exact⟨0,by simp,e,hm⟩
    ·exact⟨t+1,by simpa using h,e,by rwa[show i+(t+1)=i+1+t by omega]⟩
  rw[hs,oR]
  split
  ·rename_i h0;rw[CY out s r (i+1)];exact⟨.inr,fun h=>h.elim (fun h=>absurd h0 h.2) id⟩
  ·rename_i h0;rw[bw,CY out s r (i+1)];exact⟨fun h=>h.imp (fun h=>⟨h.symm,h0⟩) id,fun h=>h.imp (fun h=>h.1.symm) id⟩
theorem Jt(out:List Nat):∀(l:List Gt)(i:Nat),(oR out l i).length=((List.range l.length).filter fun t=>!out.contains (i+t)).length
 |[],i=>rfl
 |g::r,i=>by
  have ih:=Jt out r (i+1);rw[oR,bC,List.range_succ_eq_map,u6]
  have e:((List.range r.length).map Nat.succ).filter (fun t=>!out.contains (i+t))=((List.range r.length).filter fun t=>!out.contains (i+1+t)).map Nat.succ:=by
   rw[List.filter_map];congr 1;apply List.filter_congr;intro x _;simp only[Function.comp];rw[show i+Nat.succ x=i+1+x by omega]
  rw[e]
  by_cases h0:i∈out
  ·rw[if_pos h0,if_neg (by simpa using h0),ih,iB]
  ·rw[if_neg h0,if_pos (by simpa using h0),bC,bC,ih,iB]
theorem VO(N:Nat)(out:List Nat)(hd:out.Nodup)(hl:∀x∈out,x<N):out.length+((List.range N).filter fun t=>!out.contains t).length=N:=by
 have h1:((List.range N).filter fun t=>out.contains t).Perm out:=by
  rw[List.perm_ext_iff_of_nodup (HM.filter _) hd];intro a;simp only[dh,dw,xv,a8];exact⟨fun h=>h.2,fun h=>⟨hl a h,h⟩⟩
 have h2:∀l:List Nat,(l.filter fun t=>out.contains t).length+(l.filter fun t=>!out.contains t).length=l.length:=by
  intro l
  induction l with
  |nil=>rfl
  |cons a l ih=>
   rw[u6,u6]
   cases h:out.contains a<;>simp at ih⊢<;>omega
 have:=h2 (List.range N);rw[h1.length_eq,qQ]at this;exact this
theorem WS(c:Ct):(cH c).length+(oR (cH c) c.af 0).length=c.af.length:=by
 rw[Jt];simp only[gY];exact VO _ _ (IS c) (tu c)
end Go.Proofs.YtchjijfjidlpjaaGreatDoor
namespace Go.Proofs.YtchjijfjidlpjaaGreatDoor
open Go.AM Go.Proofs
variable{Γ:Nat->Option AV}
theorem LB(a:Nat):∀(r lv:List Nat)(i:Nat),r.Nodup->a∉r->i<lv.length->(rZ a r lv).getD i 0=if i∈r then max (lv.getD i 0) (lv.getD a 0+1)else lv.getD i 0
 |[],lv,i,_,_,_=>by simp[rZ]
 |j::r,lv,i,hr,ha,hi=>by
  rw[oo]at hr;simp only[bw,not_or]at ha
  have hg:∀k,(lv.set j (max (lv.getD j 0) (lv.getD a 0+1))).getD k 0=if j=k/\k<lv.length then max (lv.getD j 0) (lv.getD a 0+1)else lv.getD k 0:=fun k=>by
   simp only[bz,mn]
   by_cases h1:j=k
   ·subst h1
    by_cases h2:j<lv.length
    ·simp[h2]
    ·simp[h2]
   ·simp[h1]
  have e1:=hg a;have e2:=hg i;rw[if_neg (fun h=>ha.1 h.1.symm)]at e1;rw[rZ,LB a r _ i hr.2 ha.2 (by simpa using hi),e1,e2]
  by_cases hij:j=i
  ·subst hij;rw[if_neg hr.1,if_pos ⟨rfl,hi⟩,if_pos (by simp)]
  ·have hne:¬i=j:=fun h=>hij h.symm
   have e3:¬(j=i/\i<lv.length):=fun h=>hij h.1
   simp only[if_neg e3]
   by_cases h3:i∈r
   ·rw[if_pos h3,if_pos (by simp[h3])]
   ·rw[if_neg h3,if_neg (by simp[h3,hne])]
structure FA(c:Ct)(p:List Nat)(s:List Nat×List Nat):Prop where
 len:s.1.length=c.af.length
 cm:∀x,x∈s.2↔x∈p
 ge:∀i<c.af.length,∀a∈p,ea c i a=true->s.1.getD a 0+1<=s.1.getD i 0
 eq:∀i<c.af.length,s.1.getD i 0=0\/∃a∈p,ea c i a=true/\s.1.getD i 0=s.1.getD a 0+1
theorem Yv(k x:Nat)(l:List Nat):x∈FE k l↔x∈l\/x=k:=by
 unfold FE
 split
 ·rename_i h;exact⟨.inl,fun h1=>h1.elim id fun h1=>h1▸h⟩
 ·simp
theorem FA.step{c:Ct}(hd:(c.af.map (·.name)).Nodup){p:List Nat}{s:List Nat×List Nat}(h:FA c p s)(hall:∀i∈p,∀x,ea c i x=true->x∈p){a:Nat}(ha:a<c.af.length)(hm:ir c p a=true):FA c (p++[a]) (r8 c s a):=by
 obtain⟨hap,haa⟩:=kC.1 hm
 have hab:a∉(nU c).getD a []:=fun hb=>hap (haa a ((tx hd ha a).1 hb))
 have hg:∀i<c.af.length,(r8 c s a).1.getD i 0=if ea c i a=true then max (s.1.getD i 0) (s.1.getD a 0+1)else s.1.getD i 0:=fun i hi=>by
  rw[r8,LB a _ _ i (JG c ha) hab (by rw[h.len];exact hi)];simp only[tx hd ha i]
 have hsame:∀x∈p,x<c.af.length->(r8 c s a).1.getD x 0=s.1.getD x 0:=fun x hx hxl=>by
  rw[hg x hxl,if_neg fun hk=>hap (hall x hx a hk)]
 have hsa:(r8 c s a).1.getD a 0=s.1.getD a 0:=by rw[hg a ha,if_neg fun hk=>hap (haa a hk)]
 refine⟨by rw[r8,L5];exact h.len,fun x=>?_,fun i hi x hx hk=>?_,fun i hi=>?_⟩
 ·rw[r8];simp only[Yv,h.cm,ba,cG]
 ·rcases ba.1 hx with hx|hx
  ·have:=h.ge i hi x hx hk;rw[hsame x hx (qh hk).2,hg i hi]
   split<;>omega
  ·rw[cG]at hx;subst hx
   rw[hsa,hg i hi,if_pos hk];omega
 ·rw[hg i hi]
  by_cases hk:ea c i a=true
  ·rw[if_pos hk]
   rcases Nat.le_total (s.1.getD i 0) (s.1.getD a 0+1)with hle|hle
   ·exact .inr ⟨a,by simp,hk,by rw[hsa];omega⟩
   ·rcases h.eq i hi with h0|⟨x,hx,hkx,he⟩
    ·omega
    ·exact .inr ⟨x,by simp[hx],hkx,by rw[hsame x hx (qh hkx).2];omega⟩
  ·rw[if_neg hk]
   rcases h.eq i hi with h0|⟨x,hx,hkx,he⟩
   ·exact .inl h0
   ·exact .inr ⟨x,by simp[hx],hkx,by rw[hsame x hx (qh hkx).2];exact he⟩
theorem Lx(N:List Bs):∀l:List Bs,(∀s∈l,s∈N)->nL N l=(0,[])
 |[],_=>rfl
 |a::l,h=>by rw[nL,if_pos (h a (by simp)),Lx N l fun s hs=>h s (by simp[hs])]
theorem LI(r:Int×Bs):∀l:List Gt,(∀g∈l,iM g=true)->o8 r l=r
 |[],_=>rfl
 |a::l,h=>by rw[o8,if_pos (h a (by simp)),LI r l fun s hs=>h s (by simp[hs])]
theorem KV(r:Int×Bs):∀l:List Lt,(∀g∈l,nF g=true)->ql r l=r
 |[],_=>rfl
 |a::l,h=>by rw[ql,if_pos (h a (by simp)),KV r l fun s hs=>h s (by simp[hs])]
theorem LO(r:Int×Bs):∀l:List Bs,(∀g∈l,dd g=true)->rY r l=r
 |[],_=>rfl
 |a::l,h=>by rw[rY,if_pos (h a (by simp)),LO r l fun s hs=>h s (by simp[hs])]
theorem zV{c:Ct}(h:pa c):fY c=(0,[]):=by
 unfold fY;rw[h.nf,if_neg (by simp),LO _ _ h.names,h.ar,h.outs,KV _ _ h.init,LI _ _ h.af,Lx _ _ h.used];rfl
theorem LS{c:Ct}(h:pa c):ET c=true:=by rw[ET,zV h];rfl
theorem J':∀(l seen:List Bs),l.Nodup->(∀s∈l,s∉seen)->iG seen l=none
 |[],_,_,_=>rfl
 |a::l,seen,hn,h=>by
  rw[oo]at hn;rw[iG,if_neg (h a (by simp))]
  refine J' l _ hn.2 fun s hs=>?_
  simp only[ba,cG,not_or];exact⟨h s (by simp[hs]),fun he=>hn.1 (he▸hs)⟩
theorem Lk{l:List Bs}(h:l.Nodup):jn l=none:=J' l [] h (by simp)
theorem UD{d:Ct}(h:∀i<d.af.length,∀x,ea d i x=true->x<i):cH d=List.range d.af.length:=by
 have key:∀f i,i+f=d.af.length->ij d f (List.range i)=(List.range f).map (i+·):=by
  intro f
  induction f with
  |zero=>intro i _;simp[ij]
  |succ f ih=>
   intro i hi
   have hn:jX d (List.range i)=some i:=JD (by omega) (kC.2 ⟨by simp,fun x hx=>by
    rw[dw];exact h i (by omega) x hx⟩) fun j hj=>by
     rw[HX];intro hm;exact(kC.1 hm).1 (by rw[dw];exact hj)
   rw[ij,hn];simp only;rw[<-List.range_succ,ih (i+1) (by omega),List.range_succ_eq_map,cv,lf];congr 1;apply pK;intro x _
   simp only[Function.comp];omega
 have:=key d.af.length 0 (by omega);simp only[List.range_zero,gY,List.map_id']at this
 rw[cH];exact this
theorem Dd:∀l:List Gt,kM l l=true
 |[]=>rfl
 |a::l=>by rw[kM,Dd l,lG];simp
end Go.Proofs.YtchjijfjidlpjaaGreatDoor
