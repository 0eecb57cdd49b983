/- Raise: what each gate of -/
import Derived.Test.YtchjijfjidlpjaaGreatDoorK
import Derived.Test.YtchjijfjidlpjaaGreatDoorJ
import Derived.Test.YtchjijfjidlpjaaGreatDoorF
import Derived.Test.YtchjijfjidlpjaaGreatDoorI
import Derived.Test.YtchjijfjidlpjaaGreatDoorAMd
import Derived.Test.YtchjijfjidlpjaaGreatDoorCards
import Derived.Test.YtchjijfjidlpjaaGreatDoorTie
import Derived.ProofKit
import Derived.Deep.DeepHandedRow
import Derived.LaidMore
import Derived.JoinedCond
import Derived.Test.YtchjijfjidlpjaaGreatDoorH
import Derived.Test.YtchjijfjidlpjaaGreatDoorG
set_option linter.unusedSimpArgs false
set_option linter.unusedVariables false
namespace Go.Proofs.YtchjijfjidlpjaaGreatDoor
set_option maxRecDepth 8000
open Go.AM Go.Proofs
inductive GD(N:List Bs)(V:List Nat)(first:Nat)(ands:List (Int×Int))(pos:Nat):Nat->Gt->Nat->Nat->Prop
 |const (t:Nat) (s:Bs) (b:Bool):GD N V first ands pos t (uC s (if b then 1 else 0)) (if b then 1 else 0) t
 |buf (t:Nat) (s:Bs) (k:Nat) (r:Bs) (a:Nat):k<pos->N[k]? =some r->V[k]? =some a->GD N V first ands pos t (fj s 2 [r]) a t
 |not (t:Nat) (s:Bs) (k:Nat) (r:Bs) (a:Nat):k<pos->N[k]? =some r->V[k]? =some a->GD N V first ands pos t (fj s 3 [r]) (a^^^1) t
 |and (t:Nat) (s:Bs) (k1 k2:Nat) (r1 r2:Bs) (p q:Nat):k1<pos->k2<pos->N[k1]? =some r1->N[k2]? =some r2->V[k1]? =some p->V[k2]? =some q->ands[t]? =some ((p:Int),(q:Int))->GD N V first ands pos t (fj s 4 [r1,r2]) (2*(first+t)) (t+1)
theorem aiQ(u:List Bs)(n:Nat):∀k:Nat,∃e,dR u (n+k)=dR u n++e:=by
 intro k
 induction k with
 |zero=>exact⟨[],by simp⟩
 |succ k ih=>
  obtain⟨e,he⟩:=ih;exact⟨e++[gk (u++dR u (n+k)) fU],by rw[<-lu,dR,he,cR]⟩
theorem Rb{m:Md}{L:List (Nat×By)}{i:Nat}(hi:i<=L.length)(hd:(bY m L).Nodup)(E:List Bs)(F:List Nat){a:Nat}(ha:a∈bY m (L.take i)):
 ∃k,k<(m.aq++m.ah).length+i/\(gJ m L.length++E)[k]? =some (dE (cY m (L.take i)).bq a)/\(bY m L++F)[k]? =some a:=by
 obtain⟨k,hk,rfl⟩:=gb ha
 have h2:bY m L=bY m (L.take i)++(L.drop i).map (·.1):=by rw[<-v7,lY]
 have qh:(bY m (L.take i)).Nodup:=by
  rw[h2,mH]at hd;exact hd.1
 have hv:(L.take i).length=i:=by simp;omega
 have hc:(bY m (L.take i)).length=(m.aq++m.ah).length+i:=by simp only[bY,kV,bC,fy,qw,hv]
 refine⟨k,by omega,?_,?_⟩
 ·rw[alv qh hk];obtain⟨e,he⟩:=aiQ (jI m) i (L.length-i);rw[show i+(L.length-i)=L.length by omega]at he
  have hn:gJ m L.length=gJ m (L.take i).length++e:=by rw[hv,gJ,he,gJ,<-cR]
  have hb:k<(gJ m (L.take i).length).length:=by rw[<-nL];exact hk
  rw[hn,cR,cF hb,aW hb]
 ·rw[h2,cR,cF hk,aW hk]
theorem ah6{a:Nat}(h:a%2=1):a^^^1=a-1:=by rw[nJ,if_neg (by omega)]
theorem ahm{a:Nat}(h:a%2=1):(a-1)^^^1=a:=by rw[nJ,if_pos (by omega)];omega
theorem RJ{m:Md}{first:Nat}{ands:List (Int×Int)}{N:List Bs}{V:List Nat}{bq:List (Nat×Bs)}{pos:Nat}(s:Bs)(t:Nat){a:Nat}(h:a<2\/(a%2=1/\∃k,k<pos/\N[k]? =some (dE bq (a-1))/\V[k]? =some (a-1))):
 GD N V first ands pos t ((fZ a).gate bq s) a t:=by
 unfold fZ
 by_cases h2:a<2
 ·rw[if_pos h2];have:=GD.const (N:=N) (V:=V) (first:=first) (ands:=ands) (pos:=pos) t s (decide (a=1))
  have e:(if decide (a=1)=true then 1 else 0)=a:=by
   by_cases h1:a=1
   ·simp[h1]
   ·simp[h1];omega
  rw[e]at this;exact this
 ·rw[if_neg h2];obtain⟨h3,k,k1,k2,k3⟩:=h.resolve_left h2;have:=GD.not (first:=first) (ands:=ands) t s k _ _ k1 k2 k3;rw[ahm h3]at this;simp only[By.gate,ah6 h3];exact this
def fD(n:Md):List (Bs×Int):=(n.az.zip n.g.outs).filter fun p=>decide (eM n p.1<0)
theorem HZ(d:Md)(m:List (Nat×Bs)):∀(l:List Bs)(r:List Int),lJ d m l r=((l.zip r).filter fun p=>decide (eM d p.1<0)).map fun p=>nk m p.1 p.2.toNat
 |[],r=>by simp[lJ]
 |s::l,[]=>by simp[lJ]
 |s::l,a::r=>by
  rw[lJ,xH,r8]
  by_cases h:eM d s<0
  ·simp[h,HZ d m l r]
  ·simp[h,HZ d m l r]
theorem alE{n:Md}(ok:kx n)(hs:n.g.strict=true):∃L,Tr n n.g.first n.g.ands L n.g.ands.length/\(eg n).1=cY n L/\(∀a∈n.g.next,a.toNat∈bY n L)/\(eg n).2.map (·.name)=n.ah/\(eg n).2.map (·.init)=n.g.init/\(eg n).2.map (·.next)=n.g.next.map (fun a=>dE (cY n L).bq a.toNat)/\∀e∈L,re e=false->(∃p∈n.g.ands,e.1=p.1.toNat\/e.1=p.2.toNat)\/∃a∈n.g.next,e.1=a.toNat:=by
 have hf:=ok.first
 obtain⟨o,_,_⟩:=qI hs;obtain⟨L1,t1,e1,s1⟩:=ahG hf o.ands n.g.ands.length 0 (by omega) [] .nil
 have hA:ta n=cY n L1:=by
  rw[fM,kF]at e1;exact e1
 rw[kF]at t1
 obtain⟨L2,t2,e2,k2,e3,e4,e5,s2⟩:=QC hf n.ah n.g.next n.g.init ok.lL o.same (fun a ha=>by
  have:=o.next a ha;have e:n.g.lits=2*(n.g.first+n.g.ands.length):=rfl
  omega) L1 t1
 refine⟨L1++L2,t2,?_,k2,?_,?_,?_,fun x hx hb=>?_⟩
 ·unfold eg;rw[hA];exact e2
 ·unfold eg;rw[hA];exact e3
 ·unfold eg;rw[hA];exact e4
 ·unfold eg;rw[hA];exact e5
 ·rcases a8.1 hx with hx|hx
  ·exact .inl (s1 x hx hb)
  ·exact .inr (s2 x hx).2
structure iS(n:Md)(V:List Nat)(ts:Nat->Nat):Prop where
 len:V.length=(aE (aP n)).length
 nd:(aE (aP n)).Nodup
 low:∀k,k<(n.aq++n.ah).length->V[k]? =some (2*(k+1))
 t0:ts 0=0
 tN:ts (aP n).af.length=n.g.ands.length
 gd:∀i(h:i<(aP n).af.length),∃d,V[(n.aq++n.ah).length+i]? =some d/\GD (aE (aP n)) V n.g.first n.g.ands ((n.aq++n.ah).length+i) (ts i) (aP n).af[i] d (ts (i+1))
 next:∀i(h:i<n.g.next.length),∃q,(aP n).ah[i]? =some q/\∃k:Nat,(aE (aP n))[k]? =some q.next/\V[k]? =some (n.g.next[i]).toNat
 outs:∀i(h:i<n.g.outs.length)(h2:i<n.az.length),∃k:Nat,(aE (aP n))[k]? =some n.az[i]/\V[k]? =some (n.g.outs[i]).toNat
 Te:(aP n).ah.map (·.name)=n.ah
 Tp:(aP n).ah.map (·.init)=n.g.init
 names:∀s∈aE (aP n),s∈n.aq++n.ah++n.az\/∃j,j<10^7/\s=fU++Lib.decDigits j
 Tv:(aP n).af.length<=2^15
theorem abI(L:List (Nat×By)){i:Nat}(hi:i<L.length):rI (L.take (i+1))=rI (L.take i)+if re L[i]=true then 1 else 0:=by
 rw[iA hi,Ik]
theorem LA{n:Md}(ok:kx n)(hs:n.g.strict=true):∃V ts,iS n V ts:=by
 obtain⟨L,tr,hL,hk,l1,l2,l3,_⟩:=alE ok hs;obtain⟨o,so,_⟩:=qI hs
 have hf:=ok.first
 have F:=tr.facts hf
 obtain⟨ht,e2⟩:=tr.at
 have hd:=NU n L
 have hG:(aP n).af=(cY n L).af++(fD n).map fun p=>nk (cY n L).bq p.1 p.2.toNat:=by
  show(eg n).1.af++lJ n (eg n).1.bq n.az n.g.outs=_
  rw[hL,HZ];rfl
 have hc:(aP n).ah=(eg n).2:=rfl
 have h6:∀p:Bs×Int,(nk (cY n L).bq p.1 p.2.toNat).name=p.1:=by
  intro p;unfold nk
  split
  ·rfl
  ·simp
 have hN:aE (aP n)=gJ n L.length++(fD n).map (·.1):=by
  unfold aE;rw[hG,hc,l1,jA,adQ,iW]
  have:((fD n).map ((fun g:Gt=>g.name)∘fun p=>nk (cY n L).bq p.1 p.2.toNat))=(fD n).map (·.1):=nB fun p _=>h6 p
  rw[this];simp[gJ,aP,cR]
 have ys:(aP n).af.length=L.length+(fD n).length:=by rw[hG];simp[hd]
 have hv:(bY n L).length=(n.aq++n.ah).length+L.length:=by simp[bY,kV]
 obtain⟨f1,f2⟩:=R3 (jI n) L.length
 have hj:∀p∈fD n,p.1∈n.az/\p.1∉n.aq++n.ah/\p.2∈n.g.outs:=by
  intro p hp;simp only[fD,dX,bj]at hp;obtain⟨h1,h2⟩:=Mb (a:=p.1) (b:=p.2) hp.1;exact⟨h1,adH.1 hp.2,h2⟩
 have ps:n.g.lits=2*(n.g.first+n.g.ands.length):=rfl
 have hl:∀a∈bY n L,∃k,k<(n.aq++n.ah).length+L.length/\(aE (aP n))[k]? =some (dE (cY n L).bq a)/\(bY n L++(fD n).map (·.2.toNat))[k]? =some a:=by
  intro a ha;have:=Rb (m:=n) (L:=L) (i:=L.length) (aT _) F.nodup ((fD n).map (·.1)) ((fD n).map (·.2.toNat)) (a:=a) (by rw[xz];exact ha);rw[xz,<-hN]at this;exact this
 refine⟨bY n L++(fD n).map (·.2.toNat),fun i=>rI (L.take i),?_⟩
 have q3:L.length<=2^14:=by
  have h1:=Hv (bY n L) (List.range n.g.lits) F.nodup (fun x hx=>dS.2 (by have:=F.lt x hx;omega));rw[qw,hv]at h1;have h2:=lC o;omega
 have fz:(fD n).length<=4000:=by
  have h1:(fD n).length<=(n.az.zip n.g.outs).length:=FA _ _;have h2:=o.jT;simp only[List.length_zip]at h1;omega
 have ck:(jI n).length<=12000:=by
  have h1:=ok.lI;have h2:=ok.lL;have h3:=ok.lO;have h4:=o.sum;have h5:=o.jT;simp only[jI,bC];omega
 refine⟨?_,?_,fun k hk=>?_,rfl,?_,fun i hi=>?_,fun i hi=>?_,fun i h1 h2=>?_,l1,l2,fun s hs=>?_,by omega⟩
 ·rw[hN,bC,bC,nL];simp
 ·rw[hN,gJ,mH];refine⟨?_,?_,fun a ha b hb=>?_⟩
  ·rw[mH];refine⟨ok.nd,f1,fun a ha b hb=>?_⟩
   rintro rfl
   exact f2 a hb (nE _ ha)
  ·refine ok.Lo.sublist ?_;refine List.Sublist.trans (List.Sublist.map _ List.filter_sublist) ?_;rw[List.map_fst_zip (by rw[ok.lO];exact aT _)];exact List.Sublist.refl _
  ·obtain⟨p,hp,rfl⟩:=cd.1 hb;obtain⟨q1,q2,_⟩:=hj p hp
   rintro rfl
   rcases a8.1 ha with ha|ha
   ·exact q2 ha
   ·exact f2 _ ha (xM _ q1)
 ·rw[cF (by rw[hv];omega),bY,cF (by simpa[kV]using hk)];simp only[kV,jP,L4 hk,dC]
 ·rw[ys,cj (by omega),<-ht]
 ·by_cases hq:i<L.length
  ·have h7:=e2 i hq
   have ih:L=L.take i++L[i]::L.drop (i+1):=by rw[<-bJ hq,lY]
   have e1:(L.take i).length=i:=by simp;omega
   have hg:(aP n).af[i]=(L[i]).2.gate (cY n (L.take i)).bq (gk (jI n++dR (jI n) i) fU):=by
    have h1:=aiz n (L.take i) L[i] (L.drop (i+1));rw[<-ih,e1]at h1
    have h2:(aP n).af[i]? =some ((L[i]).2.gate (cY n (L.take i)).bq (gk (jI n++dR (jI n) i) fU)):=by
     rw[hG,cF (by omega)];exact h1
    exact(cV.1 h2).2
   have hV:(bY n L++(fD n).map (·.2.toNat))[(n.aq++n.ah).length+i]? =some (L[i]).1:=by
    rw[cF (by rw[hv];omega),bY,dB (by simp[kV])];simp[kV,jP,aW hq]
   refine⟨(L[i]).1,hV,?_⟩;rw[hg,hN];rw[abI L hq]
   have hy:=fun a=>Rb (m:=n) (L:=L) (i:=i) (by omega) F.nodup ((fD n).map (·.1)) ((fD n).map (·.2.toNat)) (a:=a)
   rcases h7 with⟨a,he,ha⟩|⟨p,q,he,hp,h1,h2⟩
   ·rw[he,Ie];refine RJ (m:=n) _ _ ?_
    rcases ha with ha|⟨ha,hb⟩
    ·exact .inl ha
    ·exact .inr ⟨ha,hy _ hb⟩
   ·obtain⟨k1,a1,a2,a3⟩:=hy p h1;obtain⟨k2,b1,b2,b3⟩:=hy q h2;rw[he];exact .and _ _ k1 k2 _ _ p q a1 b1 a2 b2 a3 b3 hp
  ·obtain⟨r,rfl⟩:∃r,i=L.length+r:=⟨i-L.length,by omega⟩
   have hr:r<(fD n).length:=by omega
   have hg:(aP n).af[L.length+r]=nk (cY n L).bq (fD n)[r].1 (fD n)[r].2.toNat:=by
    have h2:(aP n).af[L.length+r]? =some (nk (cY n L).bq (fD n)[r].1 (fD n)[r].2.toNat):=by
     rw[hG,dB (by omega),hd,rY,jP,aW hr];rfl
    exact(cV.1 h2).2
   have hV:(bY n L++(fD n).map (·.2.toNat))[(n.aq++n.ah).length+(L.length+r)]? =some (fD n)[r].2.toNat:=by
    rw[dB (by rw[hv];omega),hv,show(n.aq++n.ah).length+(L.length+r)-((n.aq++n.ah).length+L.length)=r by omega,jP,aW hr];rfl
   refine⟨_,hV,?_⟩;rw[hg,cj (by omega),cj (by omega)];obtain⟨_,_,h3⟩:=hj _ (bA hr);have hb:=o.outs _ h3;generalize(fD n)[r]=p at*;obtain⟨s,a⟩:=p;obtain⟨a,rfl⟩:=gW hb.1;simp only[eo]at*
   have e1:a<2*(n.g.first+n.g.ands.length):=by omega
   unfold nk
   by_cases he:2<=a/\a%2=0
   ·rw[if_pos he]
    obtain⟨k,k1,k2,k3⟩:=hl a (by
     have:=F.even (a/2) (by omega) (by omega)
     rwa[show 2*(a/2)=a by omega]at this)
    exact .buf _ _ k _ _ (by omega) k2 k3
   ·rw[if_neg he];refine RJ (m:=n) _ _ ?_
    by_cases h2:a<2
    ·exact .inl h2
    ·have ho:a%2=1:=by omega
     obtain⟨k,k1,k2,k3⟩:=hl (a-1) (by
      have:=F.even (a/2) (by omega) (by omega)
      rwa[show 2*(a/2)=a-1 by omega]at this)
     exact .inr ⟨ho,k,by omega,k2,k3⟩
 ·have h1:i<(aP n).ah.length:=by
   have:=congrArg List.length l1;rw[fy]at this
   rw[hc,this,ok.lL];exact hi
  refine⟨_,aW h1,?_⟩
  have e:(aP n).ah[i].next=dE (cY n L).bq (n.g.next[i]).toNat:=by
   have h2:((eg n).2.map (·.next))[i]? =some (dE (cY n L).bq (n.g.next[i]).toNat):=by rw[l3,jP,aW hi];rfl
   rw[jP,<-hc,aW h1]at h2;simpa using h2
  rw[e];obtain⟨k,_,k2,k3⟩:=hl _ (hk _ (bA hi));exact⟨k,k2,k3⟩
 ·by_cases hp:eM n n.az[i]<0
  ·have hz:i<(n.az.zip n.g.outs).length:=by simp;omega
   have hm:(n.az[i],n.g.outs[i])∈fD n:=by
    simp only[fD,dX,bj];refine⟨?_,hp⟩;have:=bA hz;rwa[List.getElem_zip]at this
   obtain⟨r,hr,he⟩:=gb hm;refine⟨(n.aq++n.ah).length+L.length+r,?_,?_⟩
   ·rw[hN,dB (by rw[<-nL,hv];omega),<-nL,hv,rY,jP,aW hr,he];rfl
   ·rw[dB (by rw[hv];omega),hv,rY,jP,aW hr,he];rfl
  ·have h3:=ok.out i h2 h1 (by omega);obtain⟨k,k1,k2,k3⟩:=ac2 (m:=n) (s:=n.az[i]) (by omega);refine⟨k,?_,?_⟩
   ·rw[hN,gJ,cR,cF k1,aW k1,k2]
   ·rw[cF (by rw[hv];omega),bY,cF (by simpa[kV]using k1)];simp only[kV,jP,L4 k1,dC];congr 1;omega
 ·rw[hN,gJ]at hs
  rcases a8.1 hs with hs|hs
  ·rcases a8.1 hs with hs|hs
   ·exact .inl (nE _ hs)
   ·obtain⟨j,j1,j2⟩:=QX (jI n) L.length s hs;exact .inr ⟨j,by omega,j2⟩
  ·obtain⟨p,hp,rfl⟩:=cd.1 hs;exact .inl (xM _ (hj p hp).1)
def kv(l:List Nat)(a:Nat):List Nat:=if a%2=1/\a∉l then l++[a]else l
def JL(p:Int×Int):List Nat:=[p.1.toNat,p.2.toNat]
def asked(g:Gr):List Nat:=g.ands.flatMap JL++g.next.map (·.toNat)
def Ti(g:Gr):List Nat:=(asked g).foldl kv []
def Jt(g:Gr):Nat:=if g.check=0 then g.normal.ands.length+(Ti g.normal).length else 0
variable{Γ:Nat->Option AV}
theorem Pa(m:Md)(hb:uY m):aQ ak Γ BW [fa m] (.aH [fa (rj m).1,.int .i64 (rj m).2]):=by
 have hC:=ahN (Γ:=Γ) m hb;have hN:=Gu (Γ:=Γ) m.g hb.1;unfold rj;refine .run 60 aav.1 (by simp) ?_;simp;refine .call 60 (by simp) hC ?_
 by_cases h:kh m=0
 ·simp[h];refine .call 60 (by simp) hN ?_;simp;exact .back (by simp[bI])
 ·simp[h];exact .back (by simp[lj,ga])
abbrev EO(a:Nat):AV×AV:=(iN a,.bool true)
theorem Rg(a:Nat):∀s:List Nat,gG (.sc .int) (iN a) (.bool true) (s.map EO)=some ((if a∈s then s else s++[a]).map EO)
 |[]=>by simp[gG]
 |b::s=>by
  have ih:=Rg a s;rw[bX,gG,uw]
  by_cases h:a=b
  ·subst h;simp
  ·simp only[h,nD,ih]
   by_cases h2:a∈s<;>simp[h2,h]
abbrev EF(g:Gr)(s:List Nat)(tl:List Ob):List Ob:=.cells (AV.cells (fJ g))::.cells (AV.cells (fJ g.normal))::.row 1 au [] none true false::.row 1 au [] none true false::.row 2 da [] none true false::.row 1 au [] none true false::.map (s.map EO) true::.cells [.mp 6]::tl
theorem and_1{a:Nat}(ha:(a:Int)<2^60):iv .and .i64 (a:Int) 1=some ((a%2:Nat):Int):=by
 have h1:(BitVec.ofInt 64 (a:Int)&&&BitVec.ofInt 64 1).toNat=a%2:=by
  have e1:(BitVec.ofInt 64 1).toNat=1:=by decide
  rw[BitVec.toNat_and,e1,Nat.and_one_is_mod,L7];omega
 show some (IntKind.i64.wrap ((BitVec.ofInt 64 (a:Int)&&&BitVec.ofInt 64 1).toNat:Int))=_
 rw[h1,AI (by omega)]
theorem ahu(n:Nat)(s:List Nat):fC n (s.map EO)=true:=by
 induction s with
 |nil=>rfl
 |cons a s ih=>simpa[fC]using ih
theorem ah5(s:List Nat)(a:Nat):kv s a=if a%2=1 then(if a∈s then s else s++[a])else s:=by
 unfold kv
 by_cases h:a%2=1<;>by_cases h2:a∈s<;>simp[h,h2]
theorem JA(g:Gr)(s:List Nat)(tl:List Ob)(a:Nat)(ha:(a:Int)<2^60):∀up,AM.Reach ak Γ (.cl y6 [iN a,.ptr 7 0] up (EF g s tl)) (.back up (.aH []) (EF g (kv s a) tl)):=by
 intro up;have hp:=Rg a s;have h2:=and_1 ha;have q:((a:Int)%2=1)=(a%2=1):=propext (by omega);rw[ah5];refine .bp 60 aak.1 ?_
 by_cases h:a%2=1
 ·simp[h2,q,h,hp,isKey,bM,bV]
  try exact .refl _
 ·simp[h2,q,h]
  try exact .refl _
theorem alF(g:Gr)(x:Gr)(hx:x=g.normal)(ox:x.Ok):∀k i:Nat,i+k=x.next.length->∀s:List Nat,s.length<2^30+i->
 aA ak Γ (yco (.ptr 1 0) (.ptr 7 0) (.fn (.func y6) [] [.ptr 7 0]) (.list false x.kn (x.next.map i64)) (.int .i64 x.next.length) (.int .i64 i) (EF g s [])) (.ret (.int .i64 ((x.ands.length+(((x.next.drop i).map (·.toNat)).foldl kv s).length:Nat):Int))):=by
 have hv:=lC ox;have o3:=ox.sum;have o1:=ox.ins;intro k
 induction k with
 |zero=>
  intro i hi s hs
  have q1:¬i<x.next.length:=by omega
  rw[bx (by omega)];subst hx;refine .go 60 ?_;simp(disch:=omega) [q1];exact .back (by simp)
 |succ k ih=>
  intro i hi s hs
  have q1:i<x.next.length:=by omega
  have q2:=bG (x.hn.of q1);obtain⟨b1,b2⟩:=ox.next _ (bA q1);obtain⟨a,ha⟩:=gW b1;have hR:=JA (Γ:=Γ) g s [] a (by omega)
  have h2:(kv s a).length<=s.length+1:=by
   unfold kv
   split<;>simp
  have hh:=ih (i+1) (by omega) (kv s a) (by omega);rw[bJ q1,bX,tv,ha];simp only[eo];refine .go 60 ?_;simp[q1,q2,ha];refine .aX 60 hR ?_;simp;refine .aI ?_;simp(disch:=omega);simp at hh⊢;exact hh
theorem akQ(g:Gr)(x:Gr)(hx:x=g.normal)(ox:x.Ok):∀k i:Nat,i+k=x.ands.length->∀s:List Nat,s.length<2^29+2*i->
 aA ak Γ (ycq (.ptr 1 0) (.ptr 7 0) (.fn (.func y6) [] [.ptr 7 0]) (.list false x.ka (x.ands.map dA)) (.int .i64 x.ands.length) (.int .i64 i) (EF g s [])) (.ret (.int .i64 ((x.ands.length+(((x.ands.drop i).flatMap JL++x.next.map (·.toNat)).foldl kv s).length:Nat):Int))):=by
 have hk:=lC ox;have o3:=ox.sum;have o1:=ox.ins;intro k
 induction k with
 |zero=>
  intro i hi s hs
  have q1:¬i<x.ands.length:=by omega
  have hh:=alF (Γ:=Γ) g x hx ox x.next.length 0 (by omega) s (by omega);rw[bx (by omega)];subst hx;refine .go 60 ?_;simp[q1];refine .inLoop ?_;simp at hh⊢;exact hh
 |succ k ih=>
  intro i hi s hs
  have q1:i<x.ands.length:=by omega
  have q2:=bG (x.ha.of q1);obtain⟨⟨b1,b2⟩,b3,b4⟩:=ox.ands i q1;obtain⟨a,ha⟩:=gW b1;obtain⟨b,hb⟩:=gW b3
  have hj:x.first<=8001:=by have:=ox.ins;unfold Gr.first;omega
  have hR:=JA (Γ:=Γ) g s [.cells [iN a,iN b]] a (by omega);have hv:=JA (Γ:=Γ) g (kv s a) [.cells [iN a,iN b]] b (by omega)
  have h2:∀(s:List Nat)(a:Nat),(kv s a).length<=s.length+1:=by
   intro s a;unfold kv
   split<;>simp
  have h3:=h2 s a;have h4:=h2 (kv s a) b;have hh:=ih (i+1) (by omega) (kv (kv s a) b) (by omega);have hc:=ahu 8 (kv (kv s a) b);rw[bJ q1,oD,JL,ha,hb,cR];simp only[eo,eH,kF,tv];refine .go 60 ?_;simp[q1,q2,ha,hb];refine .aX 60 hR ?_;simp;refine .aX 60 hv ?_;simp;refine .aI ?_;simp(disch:=omega);refine .drop 8 rfl (by simp) (by simp) (by simp[hc]) ?_;simp at hh⊢;exact hh
theorem agA(g:Gr)(hf:g.iU):aQ ak Γ y9 [fJ g] (.int .i64 (Jt g)):=by
 have hN:=Gu (Γ:=Γ) g hf;unfold Jt;refine .run 60 aa2.1 (by simp) ?_;simp;refine .call 60 (by simp) hN ?_
 by_cases h:g.check=0
 ·have ox:g.normal.Ok:=Gr.rk (B0 h).2.1;have hh:=akQ (Γ:=Γ) g g.normal rfl ox g.normal.ands.length 0 (by omega) [] (by simp);unfold Ti asked;simp[h];refine .inLoop ?_;simp at hh⊢;exact hh
 ·simp[h];exact .back (by simp)
theorem O9{a b:Nat}{m:List (Nat×Bs)}{s:Bs}(h:getM b m=none)(h2:¬b=a):getM b (m++[(a,s)])=none:=by
 rw[getM_none]at h⊢;intro x hx
 rcases a8.1 hx with hx|hx
 ·exact h x hx
 ·simp only[cL]at hx;subst hx
  exact fun e=>h2 e.symm
structure oX(x:Ra)(B K:Nat):Prop where
 g:x.af.length<=K
 u:x.used.length<=20000+K
 k:∀b,B<=b->getM b x.bq=none
theorem oX.make{x:Ra}{B K a:Nat}(h:oX x B K)(b:By){B':Nat}(hB:B<=B')(ha:a<B'):oX (x.make a b) B' (K+1):=
 ⟨by have:=h.g;simp[Ra.make];omega,by have:=h.u;simp[Ra.make];omega,fun c hc=>O9 (h.k c (by omega)) (by omega)⟩
theorem oX.dy{x:Ra}{B K a:Nat}(h:oX x B K)(ha:a<B):oX (x.dy a) B (K+1):=by
 unfold Ra.dy
 split
 ·exact⟨by have:=h.g;omega,by have:=h.u;omega,h.k⟩
 ·exact h.make _ (aT _) ha
theorem wH(x:Ra)(a:Nat){g:Option Nat}(h:g=none\/g=some 0):w_ x a g=none\/w_ x a g=some 0:=by
 unfold w_
 split
 ·exact h
 ·exact .inr rfl
section
variable{a1 a2 a3 a4 a5 rL:Ob}{I O:AV}
theorem alX(hP:pa Γ)(n:Md)(og:n.g.Ok)(H:jo (.cells (AV.cells (fa n))) a1 a2 a3 a4 a5 I O rL [])(nl:Nat)(X:Ra){o:Out}
 (hc:∀gu gg,gu=none\/gu=some 0->gg=none\/gg=some 0->aA ak Γ (ybE (.ptr 0 0) (.ptr 1 0) (.ptr 6 0) (ek (.cells (AV.cells (fa n))) a1 a2 a3 a4 a5 I O nl X gu gg rL [])) o):
 ∀k i:Nat,i+k=n.g.ands.length->∀(x:Ra)(gu gg:Option Nat),gu=none\/gu=some 0->gg=none\/gg=some 0->oX x (2*(n.g.first+i)) (3*i)->n6 n.g.first (n.g.ands.drop i) i x=X->
 aA ak Γ (Vq (.ptr 0 0) (.ptr 1 0) (.ptr 6 0) (iN n.g.first) (.list false n.g.ka (n.g.ands.map dA)) (.int .i64 n.g.ands.length) (.int .i64 i) (ek (.cells (AV.cells (fa n))) a1 a2 a3 a4 a5 I O nl x gu gg rL [])) o:=by
 have o1:=og.ins;have o3:=og.sum
 have h2:n.g.first<=8001:=by unfold Gr.first;omega
 intro k
 induction k with
 |zero=>
  intro i hi x gu gg hu hg hF hX
  have q1:¬i<n.g.ands.length:=by omega
  rw[bx (by omega),n6]at hX;subst hX;refine .dh 60 ?_;simp[q1];exact .reach (.exit rfl rfl) (hc gu gg hu hg)
 |succ k ih=>
  intro i hi x gu gg hu hg hF hX
  have q1:i<n.g.ands.length:=by omega
  have q2:=bG (n.g.ha.of q1);obtain⟨⟨b1,b2⟩,b3,b4⟩:=og.ands i q1;obtain⟨p,hp⟩:=gW b1;obtain⟨q,hq⟩:=gW b3;rw[bJ q1,n6,hp,hq]at hX;simp only[eo]at hX;have f1:=hF.dy (a:=p) (by omega);have f2:=f1.dy (a:=q) (by omega);have f3:=f2.make (a:=2*(n.g.first+i)) (.both p q) (B':=2*(n.g.first+(i+1))) (by omega) (by omega)
  have hJ:∀m,12<=m->cz m [Ob.cells [iN p,iN q]]=true:=fun m hm=>by simp
  have H1:=H.more hJ;have N1:=JJ hP H1 nl x gu gg hu hg (by have:=hF.g;omega) (by have:=hF.u;omega) p (by omega);have m1:=wH x p hu;have m2:=wH x p hg;have N2:=JJ hP H1 nl (x.dy p) _ _ m1 m2 (by have:=f1.g;omega) (by have:=f1.u;omega) q (by omega);have m3:=wH (x.dy p) q m1;have m4:=wH (x.dy p) q m2;have N3:=R9 hP H1 nl ((x.dy p).dy q) _ _ m3 m4 (by have:=f2.g;omega) (by have:=f2.u;omega) (2*(n.g.first+i)) (f2.k _ (by omega)) (.both p q) trivial;have hh:=ih (i+1) (by omega) _ (some 0) (some 0) (.inr rfl) (.inr rfl) (by have:=f3;rw[show 3*(i+1)=3*i+1+1+1 by omega];exact this) hX;refine .go 60 ?_;simp[q1,q2,hp,hq];refine .aX 60 N1 ?_;simp;refine .aX 60 N2 ?_;simp(disch:=omega);refine .aX 60 N3 ?_;simp(disch:=omega);refine .aI ?_;simp;refine .drop 12 rfl (by simp) (by simp) (H.wf nl _ _ _ 12 (by simp)) ?_;simp at hh⊢;exact hh
abbrev w6(ls:List Lt)(gl:Option Nat):Ob:=.row 3 oJ (ls.map ov) gl true false
theorem aha(n:Nat)(l:List Lt):aN n (l.map ov)=true:=by
 induction l with
 |nil=>rfl
 |cons x m ih=>simp[ih]
theorem jo.A'{a0:Ob}{tl:List Ob}(H:jo a0 a1 a2 a3 a4 a5 I O rL tl)(ls:List Lt)(gl:Option Nat):jo a0 a1 a2 a3 a4 a5 I O (w6 ls gl) tl:=
 ⟨fun n hn=>by
  have:=H.a n hn;have b:=aha n ls;simp at this⊢
  simp[this,b],H.i,H.t⟩
theorem alZ(hP:pa Γ)(n:Md)(og:n.g.Ok)(hl:n.ah.length=n.g.next.length)(H:jo (.cells (AV.cells (fa n))) a1 a2 a3 a4 a5 I O rL [])(X:Ra)(XL:List Lt){o:Out}
 (hc:∀gu gg gl,gu=none\/gu=some 0->gg=none\/gg=some 0->gl=none\/gl=some 0->aA ak Γ (ybB (.ptr 0 0) (.ptr 1 0) (.ptr 6 0) (ek (.cells (AV.cells (fa n))) a1 a2 a3 a4 a5 I O XL.length X gu gg (w6 XL gl) [])) o):
 ∀k i:Nat,i+k=n.ah.length->∀(x:Ra)(ls:List Lt)(gu gg gl:Option Nat),gu=none\/gu=some 0->gg=none\/gg=some 0->gl=none\/gl=some 0->oX x (2*(n.g.first+n.g.ands.length)) (3*n.g.ands.length+i)->ls.length=i->(jg (n.ah.drop i) (n.g.next.drop i) (n.g.init.drop i) x).1=X->ls++(jg (n.ah.drop i) (n.g.next.drop i) (n.g.init.drop i) x).2=XL->
 aA ak Γ (ybA (.ptr 0 0) (.ptr 1 0) (.ptr 6 0) (.list false n.kL (n.ah.map .str)) (.int .i64 n.ah.length) (.int .i64 i) (ek (.cells (AV.cells (fa n))) a1 a2 a3 a4 a5 I O ls.length x gu gg (w6 ls gl) [])) o:=by
 have o1:=og.ins;have o3:=og.sum
 have hk:n.g.first<=8001:=by unfold Gr.first;omega
 have hs:=og.same;intro k
 induction k with
 |zero=>
  intro i hi x ls gu gg gl hu hg hl hF hv hX h2
  have q1:¬i<n.ah.length:=by omega
  rw[bx (by omega),jg]at hX h2
  ·subst hX;rw[ey]at h2;subst h2;refine .dh 60 ?_;simp[q1];exact .reach (.exit rfl rfl) (hc gu gg gl hu hg hl)
  all_goals (intro s l a n v i h;cases h)
 |succ k ih=>
  intro i hi x ls gu gg gl hu hg hx hF hv hX h2
  have q1:i<n.ah.length:=by omega
  have q2:=bG (n.hL.of q1)
  have q3:i<n.g.next.length:=by omega
  have q4:=bG (n.g.hn.of q3)
  have q5:i<n.g.init.length:=by omega
  have q6:=bG (n.g.hi.of q5);obtain⟨b1,b2⟩:=og.next _ (bA q3);have hb:n.g.lits=2*(n.g.first+n.g.ands.length):=rfl;obtain⟨p,hp⟩:=gW b1;rw[bJ q1,bJ q3,bJ q5,jg,hp]at hX h2;simp only[eo]at hX h2;have f1:=hF.dy (a:=p) (by omega);have N1:=JJ hP (H.A' ls gl) ls.length x gu gg hu hg (by have:=hF.g;omega) (by have:=hF.u;omega) p (by omega);have m1:=wH x p hu;have m2:=wH x p hg;have hh:=ih (i+1) (by omega) (x.dy p) (ls++[⟨n.ah[i],dE (x.dy p).bq p,n.g.init[i]⟩]) _ _ (some 0) m1 m2 (.inr rfl) f1 (by simp[hv]) hX (by rw[<-h2];simp)
  have hle:(ls.length+1)*40<=140737488355328:=by omega
  subst hv
  rcases hx with rfl|rfl
  all_goals
   refine .go 60 ?_;simp[q1,q2];refine .dr 60 ?_;simp[q3,q4,hp];refine .reach (by simp) N1 ?_;simp(disch:=omega) [q5,q6,hle];refine .aI ?_;simp[w6]at hh⊢;exact hh
end
def mQ(m:List (Nat×Bs))(s:Bs)(a:Nat):AV:=if 2<=a/\a%2=0 then oc s 2 (.list true 1 [.str (dE m a)])else(fZ a).raw m s
section
variable{a0 a1 a2 a3 a4 a5 rL:Ob}{I O:AV}{tl:List Ob}
theorem agN(H:jo a0 a1 a2 a3 a4 a5 I O rL tl)(nl:Nat)(x:Ra)(gu gg:Option Nat)(s:Bs)(a:Nat)(ha:(a:Int)<2^60):
 ∀up,AM.Reach ak Γ (.cl FM [.ptr 6 0,.str s,iN a] up (ek a0 a1 a2 a3 a4 a5 I O nl x gu gg rL tl)) (.back up (mQ x.bq s a) (ek a0 a1 a2 a3 a4 a5 I O nl x gu gg rL tl)):=by
 intro up;have hw:=H.wf nl x gu gg;have hB:=TI (Γ:=Γ) a;have hb:=and_1 ha;have hc:=wq a x.bq
 have hk:∀n,aK n (mQ x.bq s a)=true:=by
  intro n;unfold mQ fZ
  split
  ·simp
  ·split<;>simp[By.raw]
 refine .Ah [.cells (AV.cells (mQ x.bq s a)),.row 1 aw [] none true false,.row 1 aw [] none true false,.cells (AV.cells (mQ x.bq s a)),.row 1 aw [] none true false,.row 1 aw [] none true false] hw (hk _) ?_;refine .bp 60 Za.1 ?_
 by_cases h2:a<2
 ·have hx:fZ a=.one (decide (a=1)):=by unfold fZ;rw[if_pos h2]
  have hv:mQ x.bq s a=oc s (if a=1 then 1 else 0) (.list true 0 []):=by
   unfold mQ;rw[if_neg (by omega),hx];simp[By.raw]
  have hG:=fun g hg=>Ss (Γ:=Γ) (decide (a=1)) (.mp 8) (h:=g) hg
  have q1:¬(1:Int)<a:=by omega
  rw[hx]at hB;rw[hv];simp;refine .ei 60 ?_;simp;refine .quiet hB (wN _) (by simp[eV]) ?_;simp[eV];refine .ur bN (by simp) hG (by simp;exact H.pd nl x gu gg _ (by intro n hn;simp at hn;simp;omega)) ?_;simp[q1];exact H.pd nl x gu gg _ (by intro n hn;simp at hn;simp;omega)
 ·have hx:fZ a=.sE a:=by unfold fZ;rw[if_neg h2]
  have hG:=fun g (hg:bN g/\g[8]? =some (.map (x.bq.map lV) true))=>O2 (Γ:=Γ) a ha x.bq (q:=8) (h:=g) hg.2 hg.1
  have q1:(1:Int)<a:=by omega
  have q2:((a:Int)%2=0)=(a%2=0):=propext (by omega);rw[hx]at hB
  by_cases h0:a%2=0
  ·have hv:mQ x.bq s a=oc s 2 (.list true 1 [.str (dE x.bq a)]):=by
    unfold mQ;rw[if_pos ⟨by omega,h0⟩]
   rw[hv];unfold dE at*
   cases hg:getM a x.bq with
   |none=>
    rw[hg]at hc;simp at hc;simp;refine .ei 60 ?_;simp;refine .quiet hB (wN _) (by simp[eV]) ?_;simp[eV];refine .ur (fun g=>bN g/\g[8]? =some (.map (x.bq.map lV) true)) (by simp) hG (by simp;exact H.pd nl x gu gg _ (by intro n hn;simp at hn;simp;omega)) ?_;simp[q1,hb,q2,h0,hc,isKey,bM,bV];exact H.pd nl x gu gg _ (by intro n hn;simp at hn;simp;omega)
   |some r=>
    rw[hg]at hc;simp at hc;simp;refine .ei 60 ?_;simp;refine .quiet hB (wN _) (by simp[eV]) ?_;simp[eV];refine .ur (fun g=>bN g/\g[8]? =some (.map (x.bq.map lV) true)) (by simp) hG (by simp;exact H.pd nl x gu gg _ (by intro n hn;simp at hn;simp;omega)) ?_;simp[q1,hb,q2,h0,hc,isKey,bM,bV];exact H.pd nl x gu gg _ (by intro n hn;simp at hn;simp;omega)
  ·have hv:mQ x.bq s a=oc s 3 (.list true 1 [.str (dE x.bq (a^^^1))]):=by
    unfold mQ;rw[if_neg (by omega),hx];rfl
   rw[hv];simp;refine .ei 60 ?_;simp;refine .quiet hB (wN _) (by simp[eV]) ?_;simp[eV];refine .ur (fun g=>bN g/\g[8]? =some (.map (x.bq.map lV) true)) (by simp) hG (by simp;exact H.pd nl x gu gg _ (by intro n hn;simp at hn;simp;omega)) ?_;simp[q1,hb,q2,h0];exact H.pd nl x gu gg _ (by intro n hn;simp at hn;simp;omega)
end
section
variable{a0 a1 a2 a3 a4 a5 rL:Ob}{I O:AV}{tl:List Ob}
theorem aie(H:jo a0 a1 a2 a3 a4 a5 I O rL tl)(nl:Nat)(x:Ra)(gu gg:Option Nat)(hg:gg=none\/gg=some 0)(hl:x.af.length<2^30)(s r:Bs):∀up,AM.Reach ak Γ (.cl vt [oc s 2 (.list true 1 [.str r]),.ptr 7 0] up (ek a0 a1 a2 a3 a4 a5 I O nl x gu gg rL tl))
 (.back up (.aH []) (ek a0 a1 a2 a3 a4 a5 I O nl ⟨x.af++[fj s 2 [r]],x.used,x.bq⟩ gu (some 0) rL tl)):=by
 intro up;have hw:=H.wf nl ⟨x.af++[fj s 2 [r]],x.used,x.bq⟩ gu (some 0)
 have hle:(x.af.length+1)*80<=140737488355328:=by omega
 refine .IJ [.cells (AV.cells (oc s 2 (.list true 1 [.str r])))] (by simp) hw rfl ?_
 rcases hg with rfl|rfl<;>(
  refine .bp 60 MF.1 ?_;simp;refine .ei 60 ?_;simp(disch:=omega) [fj,hle]
  exact .refl _)
theorem ahX(H:jo a0 a1 a2 a3 a4 a5 I O rL tl)(nl:Nat)(x:Ra)(gu gg:Option Nat)(hg:gg=none\/gg=some 0)(hl:x.af.length<2^30)(s:Bs)(a:Nat):∀up,AM.Reach ak Γ (.cl vt [mQ x.bq s a,.ptr 7 0] up (ek a0 a1 a2 a3 a4 a5 I O nl x gu gg rL tl))
 (.back up (.aH []) (ek a0 a1 a2 a3 a4 a5 I O nl ⟨x.af++[nk x.bq s a],x.used,x.bq⟩ gu (some 0) rL tl)):=by
 unfold mQ nk
 by_cases h:2<=a/\a%2=0
 ·rw[if_pos h,if_pos h];exact aie H nl x gu gg hg hl s _
 ·rw[if_neg h,if_neg h];exact SS H nl x gu gg hg hl x.bq (fZ a) s
theorem al3(n:Md)(og:n.g.Ok)(hI:n.aq.length<2^30)(hL:n.ah.length<2^30)(hb:n.az.length=n.g.outs.length)(H:jo (.cells (AV.cells (fa n))) a1 a2 a3 a4 a5 I O rL [])(nl:Nat)(N:List (Nat×Bs))(U:List Bs)(G:List Gt){o:Out}
 (hc:∀gu gg,gu=none\/gu=some 0->gg=none\/gg=some 0->aA ak Γ (yby (.ptr 1 0) (.ptr 6 0) (ek (.cells (AV.cells (fa n))) a1 a2 a3 a4 a5 I O nl ⟨G,U,N⟩ gu gg rL [])) o):
 ∀k i:Nat,i+k=n.az.length->∀(gs:List Gt)(gu gg:Option Nat),gu=none\/gu=some 0->gg=none\/gg=some 0->gs.length<=40000+i->gs++lJ n N (n.az.drop i) (n.g.outs.drop i)=G->
 aA ak Γ (ybx (.ptr 0 0) (.ptr 1 0) (.ptr 6 0) (.list false n.kO (n.az.map .str)) (.int .i64 n.az.length) (.int .i64 i) (ek (.cells (AV.cells (fa n))) a1 a2 a3 a4 a5 I O nl ⟨gs,U,N⟩ gu gg rL [])) o:=by
 have o1:=og.jT;have hx:=lC og;intro k
 induction k with
 |zero=>
  intro i hi gs gu gg hu hg hl hG
  have q1:¬i<n.az.length:=by omega
  rw[bx (by omega),lJ,ey]at hG
  ·subst hG;refine .dh 60 ?_;simp[q1];exact .reach (.exit rfl rfl) (hc gu gg hu hg)
  ·intro s l a r h;cases h
 |succ k ih=>
  intro i hi gs gu gg hu hg hl hG
  have q1:i<n.az.length:=by omega
  have q2:=bG (n.hO.of q1)
  have q3:i<n.g.outs.length:=by omega
  have q4:=bG (n.g.ho.of q3);obtain⟨b1,b2⟩:=og.outs _ (bA q3);obtain⟨a,ha⟩:=gW b1;have hP:=QN (Γ:=Γ) n n.az[i] hI hL;rw[bJ q1,bJ q3,lJ,ha]at hG;simp only[eo]at hG;have h2:=agN (Γ:=Γ) H nl ⟨gs,U,N⟩ gu gg n.az[i] a (by omega);have hv:=ahX (Γ:=Γ) H nl ⟨gs,U,N⟩ gu gg hg (by simp;omega) n.az[i] a;generalize eM n n.az[i]=pl at*;refine .go 60 ?_;simp[q1,q2];refine .call 60 (by simp) hP ?_
  by_cases hp:pl<0
  ·rw[if_pos hp]at hG;have hh:=ih (i+1) (by omega) (gs++[nk N n.az[i] a]) gu (some 0) hu (.inr rfl) (by simp;omega) (by rw[<-hG];simp);simp[hp];refine .dr 60 ?_;simp[q3,q4,ha];refine .reach (by simp) h2 ?_;simp;refine .reach (by simp) hv ?_;simp(disch:=omega);refine .aI ?_;simp at hh⊢;exact hh
  ·rw[if_neg hp]at hG;have hh:=ih (i+1) (by omega) gs gu gg hu hg (by omega) hG;simp(disch:=omega) [hp];refine .aI ?_;simp at hh⊢;exact hh
end
theorem GD.ins{N:List Bs}{V:List Nat}{first:Nat}{ands:List (Int×Int)}{pos t t2 d:Nat}{g:Gt}(h:GD N V first ands pos t g d t2):ig g=true/\∀s∈g.ins,∃k,k<pos/\N[k]? =some s:=by
 cases h with
 |const s b=>
  refine⟨by cases b<;>simp[uC,ig,ll],fun s hs=>?_⟩;simp[uC]at hs
 |buf s k r a h1 h2 h3=>
  refine⟨by simp[fj,ig,ll],fun s hs=>?_⟩;simp only[fj,cL]at hs;subst hs;exact⟨k,h1,h2⟩
 |not s k r a h1 h2 h3=>
  refine⟨by simp[fj,ig,ll],fun s hs=>?_⟩;simp only[fj,cL]at hs;subst hs;exact⟨k,h1,h2⟩
 |and s k1 k2 r1 r2 p q h1 h2 h3 h4 h5 h6 h7=>
  refine⟨by simp[fj,ig,ll],fun s hs=>?_⟩;simp only[fj,bD,px,po]at hs
  rcases hs with rfl|rfl
  ·exact⟨k1,h1,h3⟩
  ·exact⟨k2,h2,h4⟩
theorem iS.A6{n:Md}{V:List Nat}{ts:Nat->Nat}(h:iS n V ts):(aP n).ah.length=n.ah.length:=by
 have:=congrArg List.length h.Te;rwa[fy]at this
theorem iS.base{n:Md}{V:List Nat}{ts:Nat->Nat}(h:iS n V ts):(aP n).aq.length+(aP n).ah.length=(n.aq++n.ah).length:=by
 rw[h.A6,bC];rfl
theorem iS.Al{n:Md}{V:List Nat}{ts:Nat->Nat}(h:iS n V ts){i:Nat}(hi:i<(aP n).af.length):ig (aP n).af[i]=true/\∀s∈(aP n).af[i].ins,∃k,k<(n.aq++n.ah).length+i/\(aE (aP n))[k]? =some s:=by
 obtain⟨d,_,h1⟩:=h.gd i hi;exact h1.ins
theorem zu{α:Type}{l:List α}{k:Nat}{a:α}(h:l[k]? =some a):a∈l:=jz h
theorem iS.zU{n:Md}(ok:kx n){V:List Nat}{ts:Nat->Nat}(h:iS n V ts){q:Lt}(hq:q∈(aP n).ah):q.next∈aE (aP n):=by
 obtain⟨i,hi,rfl⟩:=gb hq;obtain⟨q,h1,k,h2,_⟩:=h.next i (by rw[<-ok.lL,<-h.A6];exact hi);rw[aW hi]at h1
 cases h1
 exact zu h2
theorem iS.IU{n:Md}(ok:kx n){V:List Nat}{ts:Nat->Nat}(h:iS n V ts){s:Bs}(hs:s∈n.az):s∈aE (aP n):=by
 obtain⟨i,hi,rfl⟩:=gb hs;obtain⟨k,h2,_⟩:=h.outs i (by rw[<-ok.lO];exact hi) hi;exact zu h2
theorem iS.ok{n:Md}(ok:kx n)(hs:n.g.strict=true){V:List Nat}{ts:Nat->Nat}(h:iS n V ts)(hl:gN (aP n)=false):eR (aP n):=by
 obtain⟨o,_,_⟩:=qI hs;have hc:=hl;simp only[gN,lx,jB]at hc;have hb:=h.base
 have hv:∀s∈aE (aP n),gC s=true:=fun s hs=>by
  rcases h.names s hs with h1|⟨j,hj,rfl⟩
  ·exact ok.names s h1
  ·exact NF hj
 have hI:(aP n).aq=n.aq:=rfl;have hO:(aP n).az=n.az:=rfl;refine⟨hl,fun s hs=>?_,Qn h.nd,Qn ok.Lo,fun q hq=>?_,fun g hg=>?_,fun s hs=>?_⟩
 ·simp only[ry,rr,pO,a8,qA,hI,hO]at hs
  rcases hs with((hs|hs)|⟨q,hq,hs⟩)|⟨g,hg,hs⟩
  ·exact ok.names s (by simp[hs])
  ·exact ok.names s (by simp[hs])
  ·simp only[bD,px,po]at hs
   rcases hs with rfl|rfl
   ·refine hv _ ?_;simp only[aE,a8];exact .inl (.inr (cd.2 ⟨q,hq,rfl⟩))
   ·exact hv _ (h.zU ok hq)
  ·simp only[bD]at hs
   rcases hs with rfl|hs
   ·refine hv _ ?_;simp only[aE,a8];exact .inr (cd.2 ⟨g,hg,rfl⟩)
   ·obtain⟨i,hi,rfl⟩:=gb hg;obtain⟨k,_,h2⟩:=(h.Al hi).2 s hs;exact hv _ (zu h2)
 ·have h1:q.init∈n.g.init:=by rw[<-h.Tp];exact cd.2 ⟨q,hq,rfl⟩
  have:=o.init _ h1;simp[mR,this]
 ·obtain⟨i,hi,rfl⟩:=gb hg;exact(h.Al hi).1
 ·simp only[fT,mX,a8,qA,hO]at hs
  rcases hs with(hs|hs)|⟨g,hg,hs⟩
  ·exact h.IU ok hs
  ·obtain⟨q,hq,rfl⟩:=cd.1 hs;exact h.zU ok hq
  ·obtain⟨i,hi,rfl⟩:=gb hg;obtain⟨k,_,h2⟩:=(h.Al hi).2 s hs;exact zu h2
theorem iS.sort{n:Md}{V:List Nat}{ts:Nat->Nat}(h:iS n V ts):aS (aP n)=List.range (aP n).af.length:=by
 refine ac5 fun i hi x hx=>?_
 obtain⟨_,hv⟩:=Av hx;unfold iy at hx;rw[aW hi,aW hv]at hx;simp only[Fv]at hx;obtain⟨k,hk,he⟩:=(h.Al hi).2 _ hx;obtain⟨h1,h2⟩:=DM (aP n) hv;obtain⟨hc,hj⟩:=cV.1 he;have:=(xQ (h₀:=hc) (h₁:=h1) h.nd).1 (hj.trans h2.symm);have hb:=h.base;omega
theorem ac9{c:Ct}(ok:eR c)(h:aS c=List.range c.af.length):j3 c=true:=by
 have hr:=CT ok
 have hn:oS c=[]:=by
  have h2:=afw c;rw[h,qw]at h2;rw[oS,if_pos hr,h];exact lq.1 (by omega)
 unfold j3 mW;rw[IF ok,hn];rfl
theorem PQ(c:Ct):∀(l l2:List Nat)(x:Gr)(v:List Nat),k9 c (l++l2) x v=gn (k9 c l x v) fun y w=>k9 c l2 y w
 |[],l2,x,v=>rfl
 |a::l,l2,x,v=>by
  rw[eH,k9,k9]
  cases c.af[a]? with
  |none=>rfl
  |some g=>
   simp only
   cases ku x g (cO ((aE c).zip v) g.ins)with
   |mk y o=>
    cases o with
    |none=>rfl
    |some d=>simp only[gn];exact PQ c l l2 y _
theorem Ad{N:List Bs}{v V:List Nat}(hn:N.Nodup)(hv:v.length=N.length)(hV:V.length=N.length){pos k:Nat}{r:Bs}{a:Nat}(hp:v.take pos=V.take pos)(hk:k<pos)(h1:N[k]? =some r)(h2:V[k]? =some a):rJ (N.zip v) r=a:=by
 obtain⟨hb,rfl⟩:=cV.1 h1;rw[sN N v k hn hb hv]
 have h3:(v.take pos)[k]? =(V.take pos)[k]? :=by rw[hp]
 rw[nC hk,nC hk,h2,aW (by omega)]at h3;simpa using h3
theorem Ph(x:Gr)(a:Nat):jc 0 x [a]=(x,some a):=by simp[jc,lM]
theorem afj(x:Gr)(p q:Nat):jc 0 x [p,q]=fH x p q:=by
 simp only[jc,lM,xO]
 cases fH x p q with
 |mk y o=>cases o<;>rfl
structure sV(n:Md)(c:Ct)(t:Nat)(x:Gr):Prop where
 grow:iJ (dT c) x
 ands:x.ands=n.g.ands.take t
theorem sV.and{n:Md}{c:Ct}(hs:n.g.strict=true)(h1:(c.aq.length:Int)=n.g.ins)(h2:c.ah.length=n.g.next.length){t:Nat}{x:Gr}(h:sV n c t x){p q:Nat}(hp:n.g.ands[t]? =some ((p:Int),(q:Int))):
 ∃y,fH x p q=(y,some (2*(n.g.first+t)))/\sV n c (t+1) y:=by
 obtain⟨o,so,_⟩:=qI hs;obtain⟨ht,he⟩:=cV.1 hp;obtain⟨p',q',e,a1,a2,a3,a4⟩:=so.at_ t ht;rw[he]at e;simp only[b9,Int.natCast_inj]at e;obtain⟨rfl,rfl⟩:=e;have hv:=Iw (first:=n.g.first) (l:=n.g.ands.take t) a1 a2 a3 (by rw[<-he];exact Cq so.nd ht)
 have hf:x.first=n.g.first:=by
  rw[h.grow.first];simp only[Gr.first,dT,qx,eo];omega
 have hlen:(n.g.ands.take t).length=t:=by simp;omega
 have hc:=o.sum
 have hb:x.ins=n.g.ins:=by rw[h.grow.ins];exact h1
 have hx:x.next.length=n.g.next.length:=by rw[h.grow.next];simp[dT,h2]
 have hE:x.k_ p q=0:=by
  unfold Gr.k_;rw[if_neg (by rw[Gr.su h.grow.ok];decide),if_neg,if_neg]
  ·simp only[eo,hf,h.ands,hv,hb,hx,bC,bL,c_,hlen];omega
  ·have hl:x.lits=2*(n.g.first+t):=by unfold Gr.lits Gr.all;rw[hf,h.ands,hlen]
   simp only[eZ,hl,fL,bj];omega
 refine⟨x.eQ p q,?_,?_⟩
 ·unfold fH;rw[if_pos hE];simp only[Gr.fY,hE,cE,eo,hf,h.ands,hv,hlen]
 ·have hO:fH x p q=(x.eQ p q,some (x.fY p q)):=by unfold fH;rw[if_pos hE]
  refine⟨h.grow.trans (pE h.grow.ok hO).1,?_⟩;simp only[Gr.eQ,hE,cE,Gr.jY,eo,hf,h.ands,hv];rw[iA ht,he]
theorem GD.lower{n:Md}{c:Ct}(hs:n.g.strict=true)(h1:(c.aq.length:Int)=n.g.ins)(h2:c.ah.length=n.g.next.length){V v:List Nat}{pos t t2 d:Nat}{g:Gt}(hg:GD (aE c) V n.g.first n.g.ands pos t g d t2)(hn:(aE c).Nodup)(hv:v.length=(aE c).length)(hV:V.length=(aE c).length)(hp:v.take pos=V.take pos){x:Gr}(h:sV n c t x):
 ∃y,ku x g (cO ((aE c).zip v) g.ins)=(y,some d)/\sV n c t2 y:=by
 cases hg with
 |const s b=>
  refine⟨x,?_,h⟩
  cases b<;>simp[ku,uC,oa,eY]
 |buf s k r a k1 k2 k3=>
  refine⟨x,?_,h⟩;have e:=Ad hn hv hV hp k1 k2 k3;simp[ku,fj,oa,eY,cO,e,Ph]
 |not s k r a k1 k2 k3=>
  refine⟨x,?_,h⟩;have e:=Ad hn hv hV hp k1 k2 k3;simp[ku,fj,oa,eY,cO,e,Ph]
 |and s k1 k2 r1 r2 p q a1 a2 a3 a4 a5 a6 a7=>
  have e1:=Ad hn hv hV hp a1 a3 a5;have e2:=Ad hn hv hV hp a2 a4 a6;obtain⟨y,y1,y2⟩:=h.and hs h1 h2 a7;refine⟨y,?_,y2⟩;simp[ku,fj,oa,eY,cO,e1,e2,afj,y1]
theorem iS.lowers{n:Md}(ok:kx n)(hs:n.g.strict=true){V:List Nat}{ts:Nat->Nat}(h:iS n V ts)(hc:cH (aP n))(hx:eR (aP n)):
 ∃y,kZ (aP n)=(y,some V)/\sV n (aP n) n.g.ands.length y:=by
 have hb:=h.base;have h1:((aP n).aq.length:Int)=n.g.ins:=ok.lI
 have h2:(aP n).ah.length=n.g.next.length:=by rw[h.A6];exact ok.lL
 have hN:=wa (aP n)
 have key:∀i,i<=(aP n).af.length->∃y v,k9 (aP n) (List.range i) (dT (aP n)) (ij (aE (aP n)).length)=(y,some v)/\sV n (aP n) (ts i) y/\v.length=(aE (aP n)).length/\v.take ((n.aq++n.ah).length+i)=V.take ((n.aq++n.ah).length+i):=by
  intro i
  induction i with
  |zero=>
   intro _;refine⟨_,_,rfl,⟨.refl (IZ hc hx),by rw[h.t0];rfl⟩,vY _,?_⟩
   refine iX fun k=>?_
   by_cases hk:k<(n.aq++n.ah).length
   ·rw[nC (by omega),nC (by omega),h.low k hk];simp[ij,jP,L4 (show k<(aE (aP n)).length by omega)]
   ·rw[gy (by simp only[fw];omega),gy (by simp only[fw];omega)]
  |succ i ih=>
   intro hi;obtain⟨y,v,e,hh,hv,hp⟩:=ih (by omega);obtain⟨d,hd,hg⟩:=h.gd i (by omega);obtain⟨z,hz,hj⟩:=hg.lower hs h1 h2 h.nd hv h.len hp hh;refine⟨z,v.set ((n.aq++n.ah).length+i) d,?_,hj,by simpa using hv,?_⟩
   ·rw[Fx,PQ,e];simp only[gn];rw[HO _ (by omega),hz,hb];rfl
   ·refine iX fun k=>?_
    by_cases hk:k<(n.aq++n.ah).length+(i+1)
    ·rw[nC hk,nC hk]
     by_cases hl:k=(n.aq++n.ah).length+i
     ·subst hl;rw[hd,ff (by omega)]
     ·rw[dW (by omega)]
      have h3:(v.take ((n.aq++n.ah).length+i))[k]? =(V.take ((n.aq++n.ah).length+i))[k]? :=by rw[hp]
      rwa[nC (by omega),nC (by omega)]at h3
    ·rw[gy (by simp only[fw];omega),gy (by simp only[fw];omega)]
 obtain⟨y,v,e,hh,hv,hp⟩:=key _ (aT _)
 have q1:v=V:=by
  have h3:=h.len;rwa[cj (by omega),cj (by omega)]at hp
 subst q1;rw[h.tN]at hh;refine⟨y,?_,hh⟩;unfold kZ;rw[h.sort];exact e
theorem iS.agR{n:Md}(ok:kx n)(hs:n.g.strict=true){V:List Nat}{ts:Nat->Nat}(h:iS n V ts){y:Gr}(hy:sV n (aP n) n.g.ands.length y):fP (cX (aP n) y V) n.g=true:=by
 have hb:=h.base;obtain⟨o,_,_⟩:=qI hs
 have hc:∀{k:Nat}{r:Bs}{a:Nat},(aE (aP n))[k]? =some r->V[k]? =some a->rJ ((aE (aP n)).zip V) r=a:=fun{k r a} h1 h2=>
  Ad (pos:=k+1) h.nd h.len h.len rfl (by omega) h1 h2
 have e1:(cX (aP n) y V).ins=n.g.ins:=by
  show y.ins=_
  rw[hy.grow.ins];exact ok.lI
 have e2:(cX (aP n) y V).next=n.g.next:=by
  refine iX fun i=>?_
  by_cases hi:i<n.g.next.length
  ·obtain⟨q,h1,k,h2,h3⟩:=h.next i hi;have hv:=o.next _ (bA hi);simp only[cX,cO,jP,h1,dC,hc h2 h3,aW hi];congr 1;omega
  ·have hl:(aP n).ah.length<=i:=by rw[h.A6,ok.lL];omega
   rw[gy (l:=n.g.next) (by omega),gy]
   simp only[cX,cO,fy];exact hl
 have e3:(cX (aP n) y V).init=n.g.init:=by
  show y.init=_
  rw[hy.grow.init];exact h.Tp
 have e4:(cX (aP n) y V).ands=n.g.ands:=by
  show y.ands=_
  rw[hy.ands,xz]
 have e5:(cX (aP n) y V).outs=n.g.outs:=by
  refine iX fun i=>?_
  by_cases hi:i<n.g.outs.length
  ·have hx:i<n.az.length:=by rw[ok.lO];exact hi
   obtain⟨k,h2,h3⟩:=h.outs i hi hx;have hv:=o.outs _ (bA hi);have hO:(aP n).az[i]? =some n.az[i]:=aW hx;simp only[cX,cO,jP,hO,dC,hc h2 h3,aW hi];congr 1;omega
  ·have hl:n.az.length<=i:=by rw[ok.lO];omega
   rw[gy (l:=n.g.outs) (by omega),gy]
   simp only[cX,cO,fy];exact hl
 simp[fP,e1,e2,e3,e4,e5]
theorem CA{s:Bs}(h:gC s=true):s.length<2^40:=by
 unfold gC at h;simp only[aB,bj]at h;have:=h.2;omega
theorem GD.small{N:List Bs}{V:List Nat}{first:Nat}{ands:List (Int×Int)}{pos t t2 d:Nat}{g:Gt}(h:GD N V first ands pos t g d t2):g.ins.length<=2/\g.rows=[]:=by
 cases h<;>simp[uC,fj]
theorem iS.b{n:Md}(ok:kx n)(hs:n.g.strict=true){V:List Nat}{ts:Nat->Nat}(h:iS n V ts):gR (aP n):=by
 obtain⟨o,_,_⟩:=qI hs;have h1:=ok.lI;have h2:=ok.lL;have h3:=ok.lO;have h4:=o.sum;have h5:=o.jT;have h6:=h.A6;have h7:=h.Tv
 have hv:∀s∈aE (aP n),s.length<2^40:=fun s hs=>by
  rcases h.names s hs with h1|⟨j,hj,rfl⟩
  ·exact CA (ok.names s h1)
  ·exact CA (NF hj)
 have hg:∀g∈(aP n).af,g.name∈aE (aP n):=fun g hg=>by
  simp only[aE,a8];exact .inr (cd.2 ⟨g,hg,rfl⟩)
 have hI:(aP n).aq=n.aq:=rfl;have hO:(aP n).az=n.az:=rfl;refine⟨by rw[hI];omega,by rw[hO];omega,by omega,by omega,fun g hb=>?_,fun s hs=>?_,fun s hs=>?_,fun q hq=>⟨?_,?_⟩⟩
 ·obtain⟨i,hi,rfl⟩:=gb hb;obtain⟨d,_,h8⟩:=h.gd i hi
  have h9:=fun s hs=>(h.Al hi).2 s hs
  obtain⟨s1,s2⟩:=h8.small;refine⟨hv _ (hg _ hb),by omega,by rw[s2];simp,fun s hs=>?_,by rw[s2];simp⟩;obtain⟨k,_,h2⟩:=h9 s hs;exact hv _ (zu h2)
 ·exact CA (ok.names s (by rw[hI]at hs;simp[hs]))
 ·exact CA (ok.names s (by rw[hO]at hs;simp[hs]))
 ·refine hv _ ?_;simp only[aE,a8];exact .inl (.inr (cd.2 ⟨q,hq,rfl⟩))
 ·exact hv _ (h.zU ok hq)
theorem ae2{c:Ct}(h:gN c=true):eJ c=(8,[]):=by unfold eJ;rw[if_pos h]
theorem QI{m:Md}(h:kh m=0):kx (bI m)/\(bI m).g.strict=true/\gR (aP (bI m))/\((gN (aP (bI m))=true/\fA m=(pg,8))\/(gN (aP (bI m))=false/\fA m=(aP (bI m),0)/\eR (aP (bI m))/\j3 (aP (bI m))=true)):=by
 obtain⟨ok,hs⟩:=(O' h).norm;obtain⟨V,ts,D⟩:=LA ok hs;refine⟨ok,hs,D.b ok hs,?_⟩;unfold fA;rw[if_pos h]
 cases hl:gN (aP (bI m))with
 |true=>
  rw[ae2 hl];exact .inl ⟨rfl,rfl⟩
 |false=>
  have h2:=D.ok ok hs hl;rw[IF h2];exact .inr ⟨rfl,rfl,h2,ac9 h2 D.sort⟩
theorem HD{m:Md}(h:(fA m).2=0):kh m=0/\kx (bI m)/\(bI m).g.strict=true/\(fA m).1=aP (bI m)/\gR (aP (bI m))/\eR (aP (bI m))/\j3 (aP (bI m))=true:=by
 have h0:kh m=0:=by
  unfold fA at h
  split at h
  ·assumption
  ·exact h
 obtain⟨a,b,c,d⟩:=QI h0
 rcases d with⟨_,e⟩|⟨_,e,f,g⟩
 ·rw[e]at h;cases h
 ·exact⟨h0,a,b,by rw[e],c,f,g⟩
theorem Oe{m:Md}(h:(fA m).2=0):∃y v,kZ (aP (bI m))=(y,some v)/\cv (aP (bI m))=(oT (aP (bI m)) y v,0,[])/\fP (cX (aP (bI m)) y v) (bI m).g=true/\sK (oT (aP (bI m)) y v) (bI m)=true:=by
 obtain⟨h0,ok,hs,e,hb,hx,ho⟩:=HD h;obtain⟨V,ts,D⟩:=LA ok hs;have hc:=sq hb (CT hx);obtain⟨y,hy,hh⟩:=D.lowers ok hs hc hx;have hv:=D.agR ok hs hh
 have hk:(cX (aP (bI m)) y V).strict=true:=by rw[(Cy hv).2.2.2.2.1];exact hs
 refine⟨y,V,hy,?_,hv,?_⟩
 ·unfold cv;rw[if_pos (BD ho),hy]
 ·have h1:=GA (GP hk) hv;have h2:(aP (bI m)).ah.map (·.name)=(bI m).ah:=D.Te;simp only[sK,oT,h1,h2,tA];simp[aP]
theorem ach{a b:Gr}(h:fP a b=true)(state ins:List Bool):a.eA state ins=b.eA state ins/\a.dI state ins=b.dI state ins/\a.jb state ins=b.jb state ins:=by
 obtain⟨e1,e2,e3,e4,e5⟩:=zH h;have ec:=(Cy h).2.1
 have ev:a.eA state ins=b.eA state ins:=by unfold Gr.eA Gr.fits;rw[ec,e1,e2]
 refine⟨ev,?_,?_⟩
 ·unfold Gr.dI Gr.rF;rw[ev,e4,e5]
 ·unfold Gr.jb Gr.rF;rw[ev,e4,e2]
theorem adP{m:Md}(h:(fA m).2=0)(state ins:List Bool):h_ (aP (bI m)) ins state=(m.g.dI state ins,m.g.jb state ins,m.g.eA state ins):=by
 obtain⟨h0,ok,hs,e,hb,hc,ho⟩:=HD h;obtain⟨y,v,h1,h2,h3,h4⟩:=Oe h;obtain⟨s0,s1,s2,s3⟩:=H8 hb ho h1 state ins
 have hv:(cX (aP (bI m)) y v).strict=true:=by rw[(Cy h3).2.2.2.2.1];exact hs
 obtain⟨t1,t2,t3⟩:=ach (GA (GP hv) h3) state ins;obtain⟨n1,n2,n3⟩:=Nk (O' h0).g state ins;have u1:(bI m).g.eA state ins=m.g.eA state ins:=n1;have u2:(bI m).g.dI state ins=m.g.dI state ins:=n2;have u3:(bI m).g.jb state ins=m.g.jb state ins:=n3;rw[<-u1,<-u2,<-u3,<-t1,<-t2,<-t3,s1,s2,s3]
theorem af8{a b:Md}(h:sK a b=true):fP a.g b.g=true/\a.aq=b.aq/\a.ah=b.ah/\a.az=b.az:=by
 simp only[sK,aB,bj]at h;exact⟨h.1,h.2.1,h.2.2.1,h.2.2.2⟩
def dV{α:Type}(g:Option Nat):List α->Option Nat
 |[]=>g
 |_=>some 0
theorem wB{α:Type}(g:Option Nat):dV g ([]:List α)=g:=rfl
theorem agX{α:Type}(g:Option Nat)(a:α)(l:List α):dV g (a::l)=some 0:=rfl
theorem agh{α:Type}(l:List α):dV (some 0) l=some 0:=by cases l<;>rfl
theorem wI{α:Type}{g:Option Nat}(h:g=none\/g=some 0)(l:List α):dV g l=none\/dV g l=some 0:=by
 cases l
 ·exact h
 ·exact .inr rfl
section
variable{a0 a1 a2 a3 a4 a5 rL:Ob}{I O:AV}{tl:List Ob}
theorem TK(l:List Bs){fl:Bool}{kd:Nat}(hk:Kd 1 kd l)(hl:l.length<2^30)(x1 hx hj h4:AV)(e:Cx)(nl:Nat)(gg:Option Nat)(U:List Bs)(N2:List (Nat×Bs)){c:AM.ar}:
 ∀k i:Nat,i+k=l.length->∀(u:List Bs)(N:List (Nat×Bs))(gu:Option Nat),gu=none\/gu=some 0->u.length<2^31+i->(∀b,2*u.length<b->getM b N=none)->u++l.drop i=U->N++jh u.length (l.drop i)=N2->
 AM.Reach ak Γ (ygf x1 (.ptr 7 0) hx hj h4 (ek a0 a1 a2 a3 a4 a5 I O nl ⟨[],U,N2⟩ (dV gu (l.drop i)) gg rL tl) e) c->
 AM.Reach ak Γ (yge x1 (.ptr 7 0) hx hj h4 (.list fl kd (l.map .str)) (.int .i64 l.length) (.int .i64 i) (ek a0 a1 a2 a3 a4 a5 I O nl ⟨[],u,N⟩ gu gg rL tl) e) c:=by
 intro k
 induction k with
 |zero=>
  intro i hi u N gu hu hf hN hU h2 hc
  have q1:¬i<l.length:=by omega
  rw[bx (by omega),ey]at hU;rw[bx (by omega),jh,ey]at h2;rw[bx (by omega),wB]at hc;subst hU;subst h2;refine .dh 60 ?_;simp[q1];exact .trans (.exit rfl rfl) hc
 |succ k ih=>
  intro i hi u N gu hu hf hN hU h2 hc
  have q1:i<l.length:=by omega
  have q2:=bG (hk.of q1);rw[bJ q1]at hU h2 hc;rw[jh]at h2;rw[agX,<-agh (l.drop (i+1))]at hc;have hv:=Sr (a:=2*(u.length+1)) l[i] (hN _ (by omega));have hh:=ih (i+1) (by omega) (u++[l[i]]) (N++[(2*(u.length+1),l[i])]) (some 0) (.inr rfl) (by simp;omega) (fun b hb=>O9 (hN b (by simp at hb;omega)) (by simp at hb;omega)) (by rw[<-hU];simp) (by rw[<-h2];simp) hc
  have hle:(u.length+1)*16<=140737488355328:=by omega
  have e1:(2*((u.length:Int)+1))=((2*(u.length+1):Nat):Int):=by omega
  rw[<-e1]at hv
  rcases hu with rfl|rfl
  all_goals
   refine .dh 60 ?_;simp[q1,q2];refine .LI 60 ?_;simp(disch:=omega) [hle,hv,isKey,bM,bV];refine .aI ?_;simp[ek]at hh⊢;exact hh
theorem O5:∀(l l2:List Bs)(k:Nat),jh k (l++l2)=jh k l++jh (k+l.length) l2
 |[],l2,k=>by simp[jh]
 |s::l,l2,k=>by
  rw[eH,jh,jh,O5 l l2 (k+1),eH,bL,show k+1+l.length=k+(l.length+1) by omega]
theorem Hl:∀(l:List Bs)(k b:Nat),2*(k+l.length)<b->getM b (jh k l)=none
 |[],k,b,h=>rfl
 |s::l,k,b,h=>by
  simp only[bL]at h;rw[jh,getM,if_neg (by omega)];exact Hl l (k+1) b (by omega)
abbrev xd:Ob:=.cells [.sl 2 0 0,.sl 3 0 0,.sl 4 0 0,.sl 5 0 0]
abbrev oo:Ob:=.row 1 aw [] none true false
abbrev xf:Ob:=.row 3 oJ [] none true false
abbrev xo:Ob:=.row 5 sg [] none true false
theorem ahB(n:Md)(hI:n.aq.length<2^20)(hL:n.ah.length<2^20)(hO:n.az.length<2^20):∀up,AM.Reach ak Γ (.cl vw [fa n] up [.cells (AV.cells (fa n)),xd,oo,oo,xf,xo])
 (.back up (.ptr 6 0) (ek (.cells (AV.cells (fa n))) xd oo oo xf xo (.list false 1 (n.aq.map .str)) (.list false 1 (n.az.map .str)) 0 (kC n) (dV (dV (dV none n.aq) n.ah) n.az) none (.row 3 oJ [] none true false)
  [.row 1 aw (n.aq.map .str) (dV none n.aq) true true,.row 1 aw (n.az.map .str) (dV none n.az) true true,.cells (AV.cells (fa n))])):=by
 intro up;have hx:(n.kI=1\/n.aq=[])=True:=bG n.hI;have hc:(n.kO=1\/n.az=[])=True:=bG n.hO;refine .bp 60 abg.1 ?_;simp;refine .trans (.mN (i:=8) (j:=4) (k:=1) aw rfl rfl (by omega)) ?_;simp;refine .trans (.mN (i:=8) (j:=3) (k:=5) sg rfl rfl (by omega)) ?_;simp;refine .trans (.mN (i:=8) (j:=2) (k:=3) oJ rfl rfl (by omega)) ?_;simp;refine .trans (.mN (i:=8) (j:=0) (k:=1) aw rfl rfl (by omega)) ?_;simp;refine .trans (.mN (i:=8) (j:=1) (k:=1) aw rfl rfl (by omega)) ?_;simp;refine .nq 6 [2,3,1,4,5,6,7,8,0] (by simp) (by decide) ?_;simp;refine .trans (.Sz [9]) ?_;simp[share,eI];have e1:(n.aq.length*16<=140737488355328)=True:=bG (by omega);have e2:(n.az.length*16<=140737488355328)=True:=bG (by omega)
 have k1:¬n.aq=[]->n.kI=1:=fun h=>n.hI.resolve_right h
 have k2:¬n.az=[]->n.kO=1:=fun h=>n.hO.resolve_right h
 have hk:∀oI oO:Ob,AM.Reach ak Γ (ygh (.ptr 14 0) (.ptr 7 0) (.list true 1 [.list false n.kI (n.aq.map .str),.list false n.kL (n.ah.map .str)]) (.int .i64 2) (.int .i64 0)
  (ek (.cells (AV.cells (fa n))) xd oo oo xf xo (.list false 1 (n.aq.map .str)) (.list false 1 (n.az.map .str)) 0 ⟨[],[],[]⟩ none none (.row 3 oJ [] none true false) [oI,oO,.cells (AV.cells (fa n))]) ⟨[],.norm,6,up⟩)
  (.back up (.ptr 6 0) (ek (.cells (AV.cells (fa n))) xd oo oo xf xo (.list false 1 (n.aq.map .str)) (.list false 1 (n.az.map .str)) 0 (kC n) (dV (dV (dV none n.aq) n.ah) n.az) none (.row 3 oJ [] none true false) [oI,oO,.cells (AV.cells (fa n))])):=by
  intro oI oO;refine .aY 60 ?_;simp;refine .inLoop ?_;simp;refine TK (fl:=false) n.aq n.hI (by omega) _ _ _ _ ⟨[],.norm,6,up⟩ 0 none n.aq (jh 0 n.aq) n.aq.length 0 (by omega) [] [] none (.inl rfl) (by simp) (by simp[getM]) (by simp) (by simp) ?_;refine .aY 60 ?_;simp;refine .aI ?_;simp;refine .aY 60 ?_;simp;refine .inLoop ?_;simp;refine TK (fl:=false) n.ah n.hL (by omega) _ _ _ _ ⟨[],.norm,6,up⟩ 0 none (n.aq++n.ah) (jh 0 (n.aq++n.ah)) n.ah.length 0 (by omega) n.aq (jh 0 n.aq) (dV none n.aq) (wI (.inl rfl) _) (by omega) (fun b hb=>Hl _ _ _ (by omega)) (by simp) (by rw[O5];simp) ?_;refine .aY 60 ?_;simp;refine .aI ?_;simp;have hg:=wI (wI (.inl rfl:(none:Option Nat)=none\/(none:Option Nat)=some 0) n.aq) n.ah;generalize dV (dV none n.aq) n.ah=gu at hg⊢
  have e3:((n.aq.length+n.ah.length+n.az.length)*16<=140737488355328)=True:=bG (by omega);have e4:((n.aq.length+n.ah.length)*16<=140737488355328)=True:=bG (by omega)
  by_cases h2:n.az=[]
  ·rcases hg with rfl|rfl<;>(
    refine .aY 60 ?_;simp;refine .ei 60 ?_
    simp[h2,e4,hc,wB,kC,ek]<;>exact .refl _)
  ·have m2:∀g,dV g n.az=some 0:=by intro g;cases h:n.az<;>simp_all [dV]
   rcases hg with rfl|rfl<;>(
    refine .aY 60 ?_;simp;refine .ei 60 ?_
    simp[h2,e3,bG (k2 h2),m2,kC,ek]<;>(simp only[lu];exact .refl _))
 by_cases hv:n.aq=[]
 ·by_cases h2:n.az=[]
  ·have m1:dV none n.aq=none:=by rw[hv];rfl
   have m2:dV none n.az=none:=by rw[h2];rfl
   refine .ei 60 ?_;simp[hx,hc,e1,e2,hv,h2];refine .trans (.iE (i:=6) 0 rfl) ?_;simp[eI,share];refine .trans (.iE (i:=6) 1 rfl) ?_;simp[eI,share];refine .inLoop ?_;simp;have hh:=hk (.row 1 aw (n.aq.map .str) none true true) (.row 1 aw (n.az.map .str) none true true);simp[hv,h2,m1,m2,wB]at hh⊢;exact hh
  ·have m1:dV none n.aq=none:=by rw[hv];rfl
   have m2:dV none n.az=some 0:=by cases h:n.az<;>simp_all [dV]
   refine .ei 60 ?_;simp[hx,hc,e1,e2,hv,h2,bG (k2 h2)];refine .trans (.iE (i:=6) 0 rfl) ?_;simp[eI,share];refine .trans (.iE (i:=6) 1 rfl) ?_;simp[eI,share];refine .inLoop ?_;simp;have hh:=hk (.row 1 aw (n.aq.map .str) none true true) (.row 1 aw (n.az.map .str) (some 0) true true);simp[hv,h2,m1,m2,wB]at hh⊢;exact hh
 ·by_cases h2:n.az=[]
  ·have m1:dV none n.aq=some 0:=by cases h:n.aq<;>simp_all [dV]
   have m2:dV none n.az=none:=by rw[h2];rfl
   refine .ei 60 ?_;simp[hx,hc,e1,e2,hv,h2,bG (k1 hv)];refine .trans (.iE (i:=6) 0 rfl) ?_;simp[eI,share];refine .trans (.iE (i:=6) 1 rfl) ?_;simp[eI,share];refine .inLoop ?_;simp;have hh:=hk (.row 1 aw (n.aq.map .str) (some 0) true true) (.row 1 aw (n.az.map .str) none true true);simp[hv,h2,m1,m2,wB]at hh⊢;exact hh
  ·have m1:dV none n.aq=some 0:=by cases h:n.aq<;>simp_all [dV]
   have m2:dV none n.az=some 0:=by cases h:n.az<;>simp_all [dV]
   refine .ei 60 ?_;simp[hx,hc,e1,e2,hv,h2,bG (k1 hv),bG (k2 h2)];refine .trans (.iE (i:=6) 0 rfl) ?_;simp[eI,share];refine .trans (.iE (i:=6) 1 rfl) ?_;simp[eI,share];refine .inLoop ?_;simp;have hh:=hk (.row 1 aw (n.aq.map .str) (some 0) true true) (.row 1 aw (n.az.map .str) (some 0) true true);simp[hv,h2,m1,m2,wB]at hh⊢;exact hh
end
theorem aeW{n:Md}(og:n.g.Ok):∀k i:Nat,i+k=n.g.ands.length->∀x:Ra,oX x (2*(n.g.first+i)) (3*i)->oX (n6 n.g.first (n.g.ands.drop i) i x) (2*(n.g.first+n.g.ands.length)) (3*n.g.ands.length):=by
 intro k
 induction k with
 |zero=>
  intro i hi x h
  obtain rfl:i=n.g.ands.length:=by omega
  rw[xy,n6];exact h
 |succ k ih=>
  intro i hi x h
  have q1:i<n.g.ands.length:=by omega
  obtain⟨⟨b1,b2⟩,b3,b4⟩:=og.ands i q1;rw[bJ q1,n6];have f1:=h.dy (a:=n.g.ands[i].1.toNat) (by omega);have f2:=f1.dy (a:=n.g.ands[i].2.toNat) (by omega);have f3:=f2.make (a:=2*(n.g.first+i)) (.both n.g.ands[i].1.toNat n.g.ands[i].2.toNat) (B':=2*(n.g.first+(i+1))) (by omega) (by omega);exact ih (i+1) (by omega) _ (by rw[show 3*(i+1)=3*i+1+1+1 by omega];exact f3)
theorem ai9(hΓ:fE Γ)(hP:pa Γ)(n:Md)(ok:kx n)(hs:n.g.strict=true)(hc:gR (aP n))(gu:Option Nat)(hu:gu=none\/gu=some 0):
 aA ak Γ (Vq (.ptr 0 0) (.ptr 1 0) (.ptr 6 0) (iN n.g.first) (.list false n.g.ka (n.g.ands.map dA)) (.int .i64 n.g.ands.length) (.int .i64 0) (ek (.cells (AV.cells (fa n))) xd oo oo xf xo (.list false 1 (n.aq.map .str)) (.list false 1 (n.az.map .str)) 0 (kC n) gu none (w6 [] none) []))
  (.ret (.aH [bU (if(eJ (aP n)).1=0 then aP n else pg),.int .i64 (if(eJ (aP n)).1=0 then 0 else 8)])):=by
 obtain⟨o,_,_⟩:=qI hs;obtain⟨V,ts,D⟩:=LA ok hs;have h1:=ok.lI;have h2:=ok.lL;have h3:=ok.lO;have h4:=o.sum;have h5:=o.jT
 have hx:=ok.first
 have hC:=Ii hΓ (aP n) hc
 have H:jo (.cells (AV.cells (fa n))) xd oo oo xf xo (.list false 1 (n.aq.map .str)) (.list false 1 (n.az.map .str)) (w6 [] none) []:=
  ⟨fun k hk=>by simp;omega,fun k hk=>by simp,fun k hk=>rfl⟩
 have F0:oX (kC n) (2*(n.g.first+0)) (3*0):=by
  refine⟨by simp[kC],by simp[kC];omega,fun b hb=>?_⟩;simp only[kC];refine Hl _ _ _ ?_;simp only[bC]at hx⊢;omega
 have F1:=aeW o n.g.ands.length 0 (by omega) (kC n) F0;rw[fM]at F1
 have hj:(eg n).1.af.length<=40000:=by
  have h6:=D.Tv;have h7:(aP n).af.length=(eg n).1.af.length+(lJ n (eg n).1.bq n.az n.g.outs).length:=bC;omega
 refine alX hP n o H 0 (ta n) (fun gu gg hu hg=>?_) n.g.ands.length 0 (by omega) (kC n) gu none hu (.inl rfl) F0 (by rw[fM];rfl);refine .go 60 ?_;simp;refine .inLoop ?_;simp;refine alZ hP n o h2 H (eg n).1 (eg n).2 (fun gu gg gl hu hg hl=>?_) n.ah.length 0 (by omega) (ta n) [] gu gg none hu hg (.inl rfl) F1 rfl (by simp[eg]) (by simp[eg]);refine .go 60 ?_;simp;refine .inLoop ?_;simp;refine al3 n o (by omega) (by omega) h3 (H.A' (eg n).2 gl) (eg n).2.length (eg n).1.bq (eg n).1.used (aP n).af (fun gu gg hu hg=>?_) n.az.length 0 (by omega) (eg n).1.af gu gg hu hg (by omega) (by rw[fM,fM];rfl);have e1:(aP n).aq=n.aq:=rfl;have e2:(aP n).az=n.az:=rfl;have e3:(aP n).ah=(eg n).2:=rfl;have e4:(aP n).kI=1/\(aP n).kO=1/\(aP n).kL=3/\(aP n).kG=5:=⟨rfl,rfl,rfl,rfl⟩
 rcases hg with rfl|rfl<;>rcases hl with rfl|rfl
 all_goals
  refine .go 60 ?_;simp;refine .call 60 (by simp[e1,e2,e3,e4]) hC ?_
  by_cases hv:(eJ (aP n)).1=0
  ·simp[hv];exact .back (by simp[e1,e2,e3,e4])
  ·simp[hv];exact .back (by simp[pg])
theorem IP(hΓ:fE Γ)(hP:pa Γ)(m:Md)(hb:uY m):aQ ak Γ oG [fa m] (.aH [bU (fA m).1,.int .i64 (fA m).2]):=by
 have hN:=Pa (Γ:=Γ) m hb;refine .run 60 aaS.1 (by simp) ?_;unfold fA
 by_cases h0:kh m=0
 ·have hn:rj m=(bI m,0):=by unfold rj;rw[if_pos h0]
  rw[hn]at hN;rw[if_pos h0];simp;refine .call 60 (by simp) hN ?_;simp;obtain⟨ok,hv,hc,_⟩:=QI h0;obtain⟨o,_,_⟩:=qI hv;have h1:=ok.lI;have h2:=ok.lL;have h3:=ok.lO;have h4:=o.sum;have h5:=o.jT;have hB:=ahB (Γ:=Γ) (bI m) (by omega) (by omega) (by omega);have hu:=wI (wI (wI (.inl rfl:(none:Option Nat)=none\/(none:Option Nat)=some 0) (bI m).aq) (bI m).ah) (bI m).az;have key:=ai9 hΓ hP (bI m) ok hv hc _ hu;generalize dV (dV (dV none (bI m).aq) (bI m).ah) (bI m).az=gu at hu hB key
  have ef:1+(bI m).g.ins+(bI m).g.next.length=((bI m).g.first:Int):=by unfold Gr.first;omega
  have hx:=Sd 12 (jh 0 ((bI m).aq++(bI m).ah));refine .aX 60 hB ?_;simp(disch:=omega) [ef];refine .inLoop ?_;simp;refine .drop 12 rfl (by simp) (by simp) (by simp[kC,hx]) ?_
  have e5:(if(eJ (aP (bI m))).1=0 then(aP (bI m),(0:Int))else(pg,8)).1=if(eJ (aP (bI m))).1=0 then aP (bI m)else pg:=by split<;>rfl
  have e6:(if(eJ (aP (bI m))).1=0 then(aP (bI m),(0:Int))else(pg,8)).2=if(eJ (aP (bI m))).1=0 then 0 else 8:=by split<;>rfl
  rw[e5,e6];simp at key⊢;exact key
 ·have hn:rj m=(lj,kh m):=by unfold rj;rw[if_neg h0]
  rw[hn]at hN;rw[if_neg h0];simp;refine .call 60 (by simp) hN ?_;simp[h0,lj,ga];exact .back (by simp[pg])
open Go.AM Go.Proofs Go.ChangeShapes Go.WideShapes Go.ChangeAt Go.RowKit
theorem own:ownKnob Tryz.prog.godebug=none:=by kernel_rfl
theorem laid:laidOutB Tryz.prog=true:=by kernel_rfl
theorem akW:mapsRowed Tryz.prog=true:=by kernel_rfl
def JQ:List (Lit×DataW Unit):=match(Rows.laid_patchbay_net_ins:DataW Unit)with
 |.map D=>D
 |_=>[]
theorem aiI:(Rows.laid_patchbay_net_ins:DataW Unit)=.map JQ:=by kernel_rfl
def AZ:List (AV×AV):=[(.int .i64 0,p2 0 0),(.int .i64 1,p2 0 0),(.int .i64 2,p2 1 1),(.int .i64 3,p2 1 1),(.int .i64 4,p2 2 8),(.int .i64 5,p2 2 8),(.int .i64 6,p2 2 8),(.int .i64 7,p2 2 8),(.int .i64 8,p2 2 8),(.int .i64 9,p2 2 8),(.int .i64 10,p2 0 8)]
theorem aiu:(JQ.map fun d=>(kp d.1,pP d.2))=AZ:=by kernel_rfl
theorem als:Tryz.prog.globalNamed "patchbay/net.ins" =some 1:=by kernel_rfl
theorem alS:(Tryz.prog.globals[1]?).map (·.type)=some 219:=by kernel_rfl
theorem ame:Tryz.prog.underlying 219=some (.map 63 62):=by kernel_rfl
theorem T4:Tryz.prog.underlying 63=some (.int .i64):=by kernel_rfl
theorem u74:Tryz.prog.underlying 62=some (.array 2 3):=by kernel_rfl
theorem u3:Tryz.prog.underlying 3=some (.int .i64):=by kernel_rfl
theorem u4:Tryz.prog.underlying 4=some .bool:=by kernel_rfl
theorem alY:(Tryz.prog.globals[4]?).map (·.type)=some 284:=by kernel_rfl
theorem alQ:Tryz.prog.underlying 284=some (.array 20 272):=by kernel_rfl
theorem al2:Tryz.prog.underlying 272=some (.int .u64):=by kernel_rfl
theorem aiR:(Rows.laid_internal_strconv_uint64pow10:DataW Unit)=Lib.tabData .u64 Lib.pow10Tab:=by kernel_rfl
abbrev aj3:Nat:=2
theorem Rv(g:G)(h:List Ob):∀zs:List Int,VL g h (zs.map fun z=>AV.int .u64 z) (zs.map fun z=>Value.int .u64 z)
 |[]=>by simp[VL]
 |z::zs=>by
  simp only[bX,VL];exact⟨_,_,rfl,by simp[V],Rv g h zs⟩
theorem PC(n:Nat):∀zs:List Int,aN n (zs.map fun z=>AV.int .u64 z)=true
 |[]=>rfl
 |z::zs=>by simp[PC n zs]
theorem ah7{zs ws:List Int}(h:(AV.agg (zs.map fun z=>AV.int .u64 z))=.agg (ws.map fun z=>AV.int .u64 z)):zs=ws:=by
 simp only[AV.agg.injEq]at h;exact(List.map_inj_right (fun x y e=>by simpa using e)).1 h
theorem ahv{W:World}{l:List (String×DataW Unit)}(h:laidMetH Tryz.prog l W)(hn:(l.all fun x=>x.2.handleName?.isNone)=true)(hm:("internal/strconv.uint64pow10",(Lib.tabData .u64 Lib.pow10Tab:DataW Unit))∈l):
 ∃t q,W.heap[4]? =some (Obj.cells (Lib.pow10Tab.map fun z=>Value.int .u64 z).toArray t q):=by
 rw[MakeChecks.laidMetH_plain _ _ _ hn]at h;obtain⟨ps,hL,_⟩:=h;obtain⟨g,t,cs,fuel,p,h1,h2,h3,h4⟩:=Iq hL _ _ hm;obtain rfl:=Option.some.inj (IQ.symm.trans h1);obtain rfl:=Option.some.inj (alY.symm.trans h2);have e:=Lib.cells_of_tab alQ al2 (by kernel_rfl) (by kernel_rfl) h4;unfold World.var? at h3;rw[IQ]at h3;simp only[lv]at h3
 split at h3
 ·rename_i hv t' q' hh
  cases h3
  refine⟨t',q',?_⟩;rw[hh,<-e]
 ·cases h3
noncomputable def Jp(os:Os):World:=
 {World.doorLaid Tryz.prog 4000 os with heap:=((World.doorLaid Tryz.prog 4000 os).heap.toList.zipIdx.map fun x=>if x.2=aj3 then(match x.1 with
  |.cells _ t q=>.cells (Go.Pinned.utf8FirstZ.map fun n:Nat=>Value.int .u8 (n:Int)).toArray t q
  |o=>o)else x.1).toArray}
abbrev shI:Sh:=.int .i64
abbrev AU:Sh:=.list 1 false .str
abbrev TO:Sh:=.parts [.str,.str,.int .i64]
abbrev TB:Sh:=.parts [.str,.int .i64,AU,AU,.bool]
abbrev TJ:Sh:=.parts [AU,AU,.list 3 true TO,.list 5 true TB]
abbrev JX:Sh:=.list 1 false .bool
theorem alq{B:Nat}{cs:List AV}(h:e_ B shI cs):∃n:Int,cs=[.int .i64 n]:=by
 simp only[e_]at h;obtain⟨n,rfl,h1,h2⟩:=h;exact⟨n,rfl⟩
theorem ajj{B:Nat}{cs:List AV}(h:e_ B .str cs):∃s:List UInt8,cs=[.str s]/\s.length<=B:=by
 simp only[e_]at h;exact h
theorem C2{B:Nat}{cs:List AV}(h:e_ B AU cs):∃l:List (List UInt8),cs=[.list false 1 (l.map .str)]/\l.length<=B/\∀s∈l,s.length<=B:=by
 simp only[e_]at h;obtain⟨xs,rfl,h0,h1⟩:=h
 obtain⟨l,hl,hn⟩:=Am (f:=nw false) (e:=fun s:{s:List UInt8//s.length<=B}=>AV.str s.val) (fun x hx=>by
  obtain⟨⟨n,rfl,hb⟩,_⟩:=h1 x hx
  exact⟨⟨n,hb⟩,rfl⟩)
 refine⟨l.map (·.val),by rw[hl,iW];rfl,by rw[fy];omega,fun s hs=>?_⟩;obtain⟨x,_,rfl⟩:=cd.1 hs;exact x.property
theorem agv{H:Type}(d:DataW H):1<=Rows.uptoBulk d:=by
 cases d with
 |lit l=>cases l<;>simp[Rows.uptoBulk]
 |_=>simp[Rows.uptoBulk]
theorem PT{H:Type}:∀ds:List (DataW H),ds.length<=Rows.uptoBulkAll ds
 |[]=>by simp
 |d::ds=>by have:=PT ds;have:=agv d;simp only[bL,Rows.uptoBulkAll];omega
theorem CY{H:Type}:∀{ds:List (DataW H)}{d:DataW H},d∈ds->Rows.uptoBulk d<=Rows.uptoBulkAll ds
 |e::ds,d,h=>by
  simp only[Rows.uptoBulkAll]
  rcases bD.1 h with rfl|h
  ·omega
  ·have:=CY h;omega
def Small{H:Type}(d:DataW H):Prop:=Rows.uptoBulk d<=1048576
theorem ak5{H:Type}:Down (H:=H) 1048576 Small:=by
 refine⟨fun e r h _=>?_,fun ps h d hd=>?_,fun b h _=>?_⟩
 ·simp only[Small,Rows.uptoBulk]at h;refine⟨by have:=PT e;omega,fun d hd=>?_⟩;have:=CY hd
  simp only[Small];omega
 ·simp only[Small,Rows.uptoBulk]at h⊢;have:=CY hd;omega
 ·simp only[Small,Rows.uptoBulk]at h;omega
theorem agG{H:Type}{ds gs:List (DataW H)}(hk:Rows.uptoSmall H (ds++gs)=true):∀d∈ds,Small d:=by
 intro d hd;have h:=BD hk;have:=CY (nE gs hd)
 simp only[Small];omega
theorem NM{B:Nat}{cs:List AV}(h:e_ B JX cs):∃l:List Bool,cs=[.list false 1 (l.map .bool)]/\l.length<=B:=by
 simp only[e_]at h;obtain⟨xs,rfl,h0,h1⟩:=h
 obtain⟨l,hl,hn⟩:=Am (f:=nw false) (e:=AV.bool) (fun x hx=>by
  obtain⟨⟨n,rfl⟩,_⟩:=h1 x hx
  exact⟨n,rfl⟩)
 exact⟨l,by rw[hl],by omega⟩
def Eg:List (Lit×DataW Unit):=match(Rows.laid_patchbay_lower_ops:DataW Unit)with
 |.iface _ (.map D)=>D
 |_=>[]
theorem ai3:(Rows.laid_patchbay_lower_ops:DataW Unit)=.iface "func table" (.map Eg):=by kernel_rfl
def wZ:List (List UInt8×FuncId):=[([40,42,112,97,116,99,104,98,97,121,47,108,111,119,101,114,46,98,117,105,108,100,101,114,41,46,110,111,110,101],BN),
 ([40,42,112,97,116,99,104,98,97,121,47,108,111,119,101,114,46,98,117,105,108,100,101,114,41,46,97,108,108],yE),
 ([40,42,112,97,116,99,104,98,97,121,47,108,111,119,101,114,46,98,117,105,108,100,101,114,41,46,111,110,101],xY),
 ([40,42,112,97,116,99,104,98,97,121,47,108,111,119,101,114,46,98,117,105,108,100,101,114,41,46,111,100,100],xZ)]
def AQ(t:List UInt8):FuncId:=((wZ.find? fun p=>p.1==t).map (·.2)).getD 0
def D7:List (AV×AV):=(List.range 10).map fun(n:Nat)=>(.int .i64 (n:Int),KO (rD (n:Int)) ((n%2:Nat):Int))
theorem ajt:((DataW.funcsOutEntries Eg).map fun d=>(kp d.1,pN AQ d.2))=D7:=by kernel_rfl
theorem alK:Tryz.prog.globalNamed "patchbay/lower.ops" =some 0:=by kernel_rfl
theorem amf:(Tryz.prog.globals[0]?).map (·.type)=some 172:=by kernel_rfl
theorem alV:Tryz.prog.underlying 172=some (.map 63 170):=by kernel_rfl
def SP:DataW (List UInt8)->Bool
 |.agg [.held t,.lit (.int .i64 _)]=>wZ.any fun p=>p.1==t
 |_=>false
theorem aeN:((DataW.funcsOutEntries Eg).all fun d=>SP d.2)=true:=by kernel_rfl
theorem ahe:((List.range Tryz.prog.funcs.size).all fun f=>match Tryz.prog.funcs[f]? with
 |some fn=>!(wZ.any fun p=>p.1==fn.name.toUTF8.data.toList)||AQ fn.name.toUTF8.data.toList==f
 |none=>true)=true:=by kernel_rfl
theorem ak8:∃fs,Tryz.prog.underlying 170=some (.struct fs)/\fs.toList.map (fun f=>(f.type,f.offset))=[(168,0),(3,1)]:=⟨_,Tryz.underlying170,by kernel_rfl⟩
theorem aiU{t:List UInt8}(h:(wZ.any fun p=>p.1==t)=true)(f:FuncId)(fn:Func)(hf:Tryz.prog.funcs[f]? =some fn)(hn:fn.name.toUTF8.data.toList=t):AQ t=f:=by
 have hs:f<Tryz.prog.funcs.size:=by
  refine xL fun hc=>?_
  rw[pn (Nat.le_of_not_lt hc)]at hf
  cases hf
 have h1:=eh.1 ahe f (dS.2 hs);generalize Tryz.prog.funcs[f]? =o at hf h1;subst hf;have h2:(!(wZ.any fun p=>p.1==fn.name.toUTF8.data.toList)||AQ fn.name.toUTF8.data.toList==f)=true:=h1;rw[hn,h]at h2;simpa using h2
theorem aeg{W:World}(h:laidMetH Tryz.prog Rows.raiseBackRow.laid W):∃Γ:Nat->Option AV,(fE Γ/\AT Γ/\pa Γ)/\(∀n a,Γ n=some a->aN 0 a.cells=true/\∃vs,VL (gw W) [] a.cells vs/\∀j(hj:j<vs.length),W.cell? ⟨n,j,none⟩=some vs[j])/\
 ∀N:Env,N.K=(fun b=>W.heap[b]?)->JS Γ N:=by
 obtain⟨ks,us,h1,h2,z,hz,hm⟩:=agp (N6 h) (by kernel_rfl) (name:= "patchbay/net.ins") (D:=JQ) (by
  rw[<-aiI]
  refine dX.2 ⟨dH _ (dH _ (dH _ (dH _ (pv ..)))),by kernel_rfl⟩) als alS ame
  (fun v q hq=>by obtain⟨a,b,_⟩:=RC T4 (g:=gw W) (h:=[]) hq;exact⟨a,b⟩) (fun n v x hf ht=>agU u74 u3 (by kernel_rfl) (by kernel_rfl) hf ht)
 obtain⟨tt,tq,hl⟩:=ahv (N6 h) (by kernel_rfl) (by
  rw[<-aiR]
  refine dX.2 ⟨dH _ (dH _ (pv ..)),by kernel_rfl⟩)
 obtain⟨fs,h7,h5⟩:=ak8
 obtain⟨ps,h6,q3,k2,z2,fz,ih⟩:=afB h (name:= "patchbay/lower.ops") (en:=Eg) (by
  rw[<-ai3]
  exact dH _ (dH _ (dH _ (dH _ (dH _ (pv ..)))))) AQ alK amf alV
  (fun v q hq=>by obtain⟨a,b,_⟩:=RC T4 (g:=gw W) (h:=[]) hq;exact⟨a,b⟩) (fun n v x hx hf ht=>by
   obtain⟨d,hd,he⟩:=hx;have h4:=eh.1 aeN d hd;rw[he]at h4
   obtain⟨t0,k0,hg,ys⟩:∃t0 k0,x.1=.agg [.held t0,.lit (.int .i64 k0)]/\(wZ.any fun p=>p.1==t0)=true:=by
    unfold SP at h4
    split at h4
    ·rename_i t0 k0 hg;exact⟨t0,k0,hg,h4⟩
    ·cases h4
   refine agS h7 h5 (by kernel_rfl) u3 (by kernel_rfl) (by kernel_rfl) (by kernel_rfl) hg ?_ (aiU ys) hf ht
   rintro rfl
   exact absurd ys (by decide))
 have hb:∀n m:Int,(cC (.sc .int) (.int .i64 n) (.int .i64 m)=some true/\AV.int .i64 n=.int .i64 m)\/(cC (.sc .int) (.int .i64 n) (.int .i64 m)=some false/\AV.int .i64 n≠.int .i64 m):=by
  intro n m
  by_cases hp:n=m
  ·exact .inl ⟨by simp[cC,fR,hp],by rw[hp]⟩
  ·exact .inr ⟨by simp[cC,fR,hp],by simp[hp]⟩
 refine⟨fun n=>if n=1 then some (.dG ks us)else if n=0 then some (.dG ps h6)else if n=4 then some (.agg (Lib.pow10Tab.map fun z=>AV.int .u64 z))else none,⟨⟨ks,us,rfl,fun n=>?_⟩,⟨ps,h6,rfl,fun n=>?_⟩,rfl⟩,fun n a hn=>?_,fun N hN n zs gu hn=>?_⟩
 ·rw[hz];rw[aiu]at hm
  obtain⟨r,e1,e2,e3⟩:=GN (.sc .int) (.int .i64 n) z (by
   intro y hy;have q1:=(hm y).1 hy;simp only[AZ,bD,px,po]at q1
   rcases q1 with rfl|rfl|rfl|rfl|rfl|rfl|rfl|rfl|rfl|rfl|rfl<;>exact hb _ _)
  rw[e1];unfold J8
  cases r with
  |some v=>
   have hv:=(hm _).1 (e3 v rfl);simp only[AZ,bD,px,po,b9,AV.int.injEq,xB]at hv
   rcases hv with⟨rfl,rfl⟩|⟨rfl,rfl⟩|⟨rfl,rfl⟩|⟨rfl,rfl⟩|⟨rfl,rfl⟩|⟨rfl,rfl⟩|⟨rfl,rfl⟩|⟨rfl,rfl⟩|⟨rfl,rfl⟩|⟨rfl,rfl⟩|⟨rfl,rfl⟩<;>rfl
  |none=>
   have q2:∀y∈AZ,¬(AV.int .i64 n=y.1):=fun y hy=>e2 rfl y ((hm y).2 hy)
   simp only[AZ,bD,px,po,L9,forall_eq,AV.int.injEq,xB]at q2;rw[if_neg (by omega),if_neg (by omega),if_neg (by omega),if_neg (by omega)]
 ·rw[fz];rw[ajt]at ih
  obtain⟨r,e1,e2,e3⟩:=GN (.sc .int) (.int .i64 n) z2 (by
   intro y hy;have q1:=(ih y).1 hy;simp only[D7,cd]at q1;obtain⟨k,_,rfl⟩:=q1
   exact hb _ _)
  rw[e1];unfold D_
  cases r with
  |some v=>
   have hv:=(ih _).1 (e3 v rfl);simp only[D7,cd,dS,b9,AV.int.injEq,xB]at hv;obtain⟨k,hk,rfl,rfl⟩:=hv;rw[if_pos (by omega)];simp
  |none=>
   have q2:∀y∈D7,¬(AV.int .i64 n=y.1):=fun y hy=>e2 rfl y ((ih y).2 hy)
   rw[if_neg]
   rintro⟨h0,h9⟩
   obtain⟨k,rfl⟩:=gW h0;exact q2 (.int .i64 k,KO (rD k) ((k%2:Nat):Int)) (cd.2 ⟨k,dS.2 (by omega),rfl⟩) rfl
 ·simp only at hn
  split at hn
  ·rename_i h0
   cases hn
   subst h0;exact⟨h1,h2⟩
  ·split at hn
   ·rename_i h0
    cases hn
    subst h0;exact⟨q3,k2⟩
   ·split at hn
    ·rename_i h0
     cases hn
     subst h0;refine⟨PC 0 _,_,Rv _ _ _,fun j hj=>?_⟩
     have ck:j<Lib.pow10Tab.length:=by simpa using hj
     have hc:W.cell? ⟨4,j,none⟩=((Lib.pow10Tab.map fun z=>Value.int .u64 z).toArray)[j]? :=by simp[World.cell?,hl]
     rw[hc];simp[ck]
    ·cases hn
 ·simp only at hn
  split at hn
  ·cases hn
  ·split at hn
   ·cases hn
   ·split at hn
    ·rename_i h0;simp only[an]at hn;obtain rfl:=ah7 hn;subst h0;rw[hN];exact⟨tt,tq,hl⟩
    ·cases hn
theorem aeP(os:Os)(args:Array Value):laidMetH Tryz.prog Rows.raiseBackRow.laid ((Jp os).forCall (fun _ _=>0) ⟨#[],args,[]⟩).memory:=
 laidMetH_of_parts3 (fuel:=8) (laidMet_of_run' 8 (by kernel_rfl) (by kernel_rfl)) (by kernel_rfl) (by kernel_rfl)
def LF(B:Nat)(q:Lt):Prop:=q.name.length<=B/\q.next.length<=B
def LH(B:Nat)(g:Gt):Prop:=g.name.length<=B/\g.ins.length<=B/\g.rows.length<=B/\(∀s∈g.ins,s.length<=B)/\∀s∈g.rows,s.length<=B
def Bt(B:Nat)(c:Ct):Prop:=c.aq.length<=B/\c.az.length<=B/\c.ah.length<=B/\c.af.length<=B/\(∀g∈c.af,LH B g)/\(∀s∈c.aq,s.length<=B)/\(∀s∈c.az,s.length<=B)/\∀q∈c.ah,LF B q
theorem Bt.toB{B:Nat}{c:Ct}(h:Bt B c)(hB:B<2^40):gR c:=by
 obtain⟨h1,h2,h3,h4,h5,h6,h7,h8⟩:=h;refine⟨by omega,by omega,by omega,by omega,fun g hg=>?_,fun s hs=>?_,fun s hs=>?_,fun q hq=>?_⟩
 ·obtain⟨a,b,d,e,f⟩:=h5 g hg;exact⟨by omega,by omega,by omega,fun s hs=>by have:=e s hs;omega,fun s hs=>by have:=f s hs;omega⟩
 ·have:=h6 s hs;omega
 ·have:=h7 s hs;omega
 ·obtain⟨a,b⟩:=h8 q hq;exact⟨by omega,by omega⟩
theorem dec_lt{B:Nat}{cs:List AV}(h:e_ B TO cs):∃q:Lt,AV.agg cs=ov q/\LF B q:=by
 simp only[e_,sQ]at h;obtain⟨_,_,rfl,⟨a,rfl,ha⟩,_,_,rfl,⟨b,rfl,hb⟩,_,_,rfl,⟨m,rfl,_⟩,rfl⟩:=h;exact⟨⟨a,b,m⟩,rfl,ha,hb⟩
theorem ako{B:Nat}{cs:List AV}(h:e_ B TB cs):∃g:Gt,AV.agg cs=df g/\LH B g:=by
 rw[e_]at h;simp only[sQ]at h;obtain⟨_,_,rfl,h1,_,_,rfl,h2,_,_,rfl,h3,_,_,rfl,h4,_,_,rfl,h5,rfl⟩:=h;obtain⟨n,rfl,hn⟩:=ajj h1;obtain⟨op,rfl⟩:=alq h2;obtain⟨i,rfl,hi,hv⟩:=C2 h3;obtain⟨r,rfl,hr,hb⟩:=C2 h4;simp only[e_]at h5;obtain⟨b,rfl⟩:=h5;exact⟨⟨n,op,i,r,b,1,1,.self,.self⟩,rfl,hn,hi,hr,hv,hb⟩
theorem aj7{B:Nat}{cs:List AV}(h:e_ B TJ cs):∃c:Ct,AV.agg cs=bU c/\Bt B c:=by
 rw[e_]at h;simp only[sQ]at h;obtain⟨_,_,rfl,h1,_,_,rfl,h2,_,_,rfl,h3,_,_,rfl,h4,rfl⟩:=h;obtain⟨i,rfl,hi,hv⟩:=C2 h1;obtain⟨o,rfl,ho,hc⟩:=C2 h2;rw[e_]at h3 h4;obtain⟨xs,rfl,hk,h3⟩:=h3;obtain⟨ys,rfl,hj,h4⟩:=h4
 obtain⟨l,hl,hn⟩:=Am (f:=nw true) (e:=fun q:{q:Lt//LF B q}=>ov q.val) (fun x hx=>by
  obtain⟨t,ht,hb⟩:=dec_lt (h3 x hx).1
  exact⟨⟨t,hb⟩,ht⟩)
 obtain⟨g,hg,hm⟩:=Am (f:=nw true) (e:=fun q:{q:Gt//LH B q}=>df q.val) (fun x hx=>by
  obtain⟨t,ht,hb⟩:=ako (h4 x hx).1
  exact⟨⟨t,hb⟩,ht⟩)
 refine⟨⟨i,o,l.map (·.val),g.map (·.val),1,1,3,5,.self,.self,.self,.self⟩,by rw[hl,hg];simp[bU,iW,BC],hi,ho,by rw[fy];omega,by rw[fy];omega,fun x hx=>?_,hv,hc,fun x hx=>?_⟩
 ·obtain⟨y,_,rfl⟩:=cd.1 hx;exact y.property
 ·obtain⟨y,_,rfl⟩:=cd.1 hx;exact y.property
theorem Bt.toL{c:Ct}(h:Bt 1048576 c):Xc c:=⟨h.toB (by decide),fun g hg=>by
 have:=(h.2.2.2.2.1 g hg).2.2.1
 omega⟩
def Bm:Gr:=⟨2,[],[],[(5,2)],[6,2],0,0,2,1,.nil,.nil,.self,.self⟩
def tm:Gr:=⟨2,[],[],[(5,2)],[6,2],1,1,2,1,.self,.self,.self,.self⟩
def rO:Md:=⟨Bm,[[97],[98]],[],[[122],[97]],1,0,1,.self,.nil,.self⟩
def A7:Md:=⟨Bm,[[97],[98]],[],[],1,0,0,.self,.nil,.nil⟩
def gq:Md:=⟨tm,[[97],[98]],[],[[122],[97]],1,0,1,.self,.nil,.self⟩
def Ba:Ct:=⟨[[97],[98]],[[122],[97]],[],[fj [110,49] 3 [[98]],fj [110,50] 4 [[110,49],[97]],fj [122] 2 [[110,50]]],1,1,3,5,.self,.self,.self,.self⟩
theorem Ri:Bm.iU:=by unfold Gr.iU Bm;decide
theorem S7:uY rO:=⟨Ri,by decide,by decide,by decide⟩
theorem akZ:uY A7:=⟨Ri,by decide,by decide,by decide⟩
theorem S_:bI rO=gq:=by kernel_rfl
def alU(i o:List Bs)(l:List Lt)(g:List Gt):Ct:=⟨i,o,l,g,1,1,3,5,.self,.self,.self,.self⟩
theorem alu:aP gq=Ba:=by
 have d1:Lib.decDigits 1=[49]:=Hp (by omega);have d2:Lib.decDigits 2=[50]:=Hp (by omega)
 have f1:gk [[97],[98],[122],[97]] fU=[110,49]:=by simp[gk,pe,d1]
 have f2:gk [[97],[98],[122],[97],[110,49]] fU=[110,50]:=by simp[gk,pe,d1,d2]
 have hA:ta gq=⟨[fj [110,49] 3 [[98]],fj [110,50] 4 [[110,49],[97]]],[[97],[98],[122],[97],[110,49],[110,50]],[(2,[97]),(4,[98]),(5,[110,49]),(6,[110,50])]⟩:=by
  simp[ta,gq,tm,n6,kC,jh,Ra.dy,Ra.make,getM,fZ,By.gate,dE,f1,f2,Gr.first]
 have hL:eg gq=(ta gq,[]):=by
  unfold eg;simp[gq,tm,jg]
 have hO:lJ gq (ta gq).bq gq.az gq.g.outs=[fj [122] 2 [[110,50]]]:=by
  rw[hA]
  have p1:eM gq [122]=-1:=by kernel_rfl
  have p2:eM gq [97]=1:=by kernel_rfl
  simp only[gq,tm]at p1 p2⊢;simp[lJ,p1,p2,nk,dE,getM]
 show alU gq.aq gq.az (eg gq).2 ((eg gq).1.af++lJ gq (eg gq).1.bq gq.az gq.g.outs)=Ba
 rw[hL];simp only[hO];rw[hA];rfl
theorem ahS:fA rO=(Ba,0):=by
 have h:kh rO=0:=by kernel_rfl
 unfold fA;rw[if_pos h,S_,alu,show(eJ Ba).1=0 by kernel_rfl];rfl
theorem agD:fA A7=(pg,1):=by
 have h:kh A7=1:=by kernel_rfl
 unfold fA;rw[if_neg (by rw[h];decide),h]
theorem akp:rj rO=(gq,0):=by
 have h:kh rO=0:=by kernel_rfl
 unfold rj;rw[if_pos h,S_]
theorem agt(hΓ:fE Γ)(hP:pa Γ):aQ ak Γ GO [] (.bool true):=by
 have h1:=IP hΓ hP rO S7;have h2:=Pa (Γ:=Γ) rO S7;have h3:=IP hΓ hP A7 akZ;have h4:=abY (Γ:=Γ) [[110,49],[97]] [[110,49],[97]] (ka:=1) (kb:=1) .self .self (by simp);have h5:=agA (Γ:=Γ) tm (by unfold Gr.iU tm;decide);rw[ahS]at h1;rw[akp]at h2;rw[agD]at h3;rw[show Jt tm=2 by kernel_rfl]at h5;unfold Ba fj at h1;unfold gq at h2;unfold pg at h3;unfold rO at h1 h2;unfold A7 at h3;unfold Bm tm at*;simp at h1 h2 h3 h4 h5;refine .run 120 acj.1 (by simp) ?_;simp;refine .call 120 (by simp) h1 ?_;simp;refine .call 120 (by simp) h2 ?_;simp;refine .call 120 (by simp) h3 ?_;simp;refine .call 120 (by simp) h4 ?_;simp;refine .call 120 (by simp) h5 ?_;simp;exact .back (by simp)
theorem afQ{c:Ct}(hb:gR c)(h0:(cv c).2.1=0)(h1:(fA (cv c).1).2=0)(state ins:List Bool):
 h_ (fA (cv c).1).1 ins state=h_ c ins state/\gR (fA (cv c).1).1/\(cv (fA (cv c).1).1).2=(0,[])/\sK (cv c).1 (cv (fA (cv c).1).1).1=true:=by
 obtain⟨ho,v,hv,he⟩:=agC h0;obtain⟨s0,s1,s2,s3⟩:=H8 hb ho (y:=(kZ c).1) (v:=v) (by rw[<-hv]) state ins
 have t1:(cv c).1.g.dI state ins=(h_ c ins state).1:=by rw[he];exact s2
 have t2:(cv c).1.g.jb state ins=(h_ c ins state).2.1:=by rw[he];exact s3
 have t3:(cv c).1.g.eA state ins=(h_ c ins state).2.2:=by rw[he];exact s1
 obtain⟨hj,hl,q1,hc,hx,h4,_⟩:=HD h1;obtain⟨y2,v2,_,e2,_,e4⟩:=Oe h1;have hs:=adP h1 state ins;rw[t1,t2,t3]at hs
 have h2:(cv c).1.g.strict=true:=by
  rw[he]
  show((cX c (kZ c).1 v).normal).strict=true
  by_cases hn:(cX c (kZ c).1 v).check=0
  ·exact(B0 hn).1
  ·have hz:(cX c (kZ c).1 v).normal=ga:=by unfold Gr.normal;rw[if_neg hn]
   rw[hz];decide
 have hk:=GP h2;obtain⟨a1,a2,a3,a4⟩:=af8 e4;rw[hc,e2];refine⟨hs,hx,rfl,?_⟩;obtain⟨b1,b2,b3,b4,b5⟩:=zH hk;obtain⟨d1,d2,d3,d4,d5⟩:=zH a1;have c1:(bI (cv c).1).g.ins=(cv c).1.g.ins:=b1;have c2:(bI (cv c).1).g.next=(cv c).1.g.next:=b2;have c3:(bI (cv c).1).g.init=(cv c).1.g.init:=b3;have c4:(bI (cv c).1).g.ands=(cv c).1.g.ands:=b4;have c5:(bI (cv c).1).g.outs=(cv c).1.g.outs:=b5;have i1:(bI (cv c).1).aq=(cv c).1.aq:=rfl;have i2:(bI (cv c).1).ah=(cv c).1.ah:=rfl;have i3:(bI (cv c).1).az=(cv c).1.az:=rfl
 rw[c1]at d1;rw[c2]at d2;rw[c3]at d3;rw[c4]at d4;rw[c5]at d5
 rw[i1]at a2;rw[i2]at a3;rw[i3]at a4
 simp[sK,fP,a2,a3,a4,d1,d2,d3,d4,d5]
theorem aaO(hΓ:fE Γ)(hΩ:AT Γ)(hP:pa Γ)(c:Ct)(hb:Xc c)(state ins:List Bool)(hx:state.length<2^40)(hk:ins.length<2^40){ks ki:Nat}(hj:Kd 1 ks state)(hl:Kd 1 ki ins):
 aQ ak Γ My [bU c,.list false ks (state.map .bool),.list false ki (ins.map .bool)] (.bool true):=by
 have hF:=ahw (Γ:=Γ) c hb.1.2.2.2.1 hb.2;have hL:=RH hΓ hΩ c hb.1;have hv:=Md.amd hb.1;have hR:=IP hΓ hP (cv c).1 hv;refine .run 150 ZO.1 (by simp) ?_;simp;refine .call 150 (by simp) (agt hΓ hP) ?_;simp;refine .call 150 (by simp) hF ?_;simp;refine .call 150 (by simp) hL ?_;simp;refine .call 150 (by simp) hR ?_
 cases hp:Jo c with
 |false=>
  simp;exact .back (by simp)
 |true=>
  by_cases h0:(cv c).2.1=0
  ·by_cases h3:(fA (cv c).1).2=0
   ·have e1:((60:Int)<state.length)=(60<state.length):=propext (by omega);have e2:((60:Int)<ins.length)=(60<ins.length):=propext (by omega)
    by_cases h1:60<state.length
    ·simp[h0,h3,e1,h1];exact .back (by simp)
    ·by_cases h2:60<ins.length
     ·simp[h0,h3,e1,h1,e2,h2];exact .back (by simp)
     ·obtain⟨k1,k2,k3,k4⟩:=afQ hb.1 h0 h3 state ins;have hS:=Ng hΓ c hb.1 ins state hk hx hl hj;have hc:=Ng hΓ (fA (cv c).1).1 k2 ins state hk hx hl hj;rw[k1]at hc;have ih:=RH hΓ hΩ (fA (cv c).1).1 k2;have hM:=ahW (Γ:=Γ) (cv c).1 (cv (fA (cv c).1).1).1 hv;rw[k4]at hM;obtain⟨l1,l2⟩:=aeU c ins state;have b1:=hb.1.2.1;have b2:=hb.1.2.2.1;have q1:=M_ (Γ:=Γ) (h_ c ins state).1 (h_ c ins state).1 (ka:=1) (kb:=1) .self .self (by omega);have h4:=M_ (Γ:=Γ) (h_ c ins state).2.1 (h_ c ins state).2.1 (ka:=1) (kb:=1) .self .self (by omega);have k5:=congrArg Prod.fst k3;have k6:=congrArg Prod.snd k3;clear k1 k3 k4 hv hL hR;generalize cv (fA (cv c).1).1=L2 at*;generalize fA (cv c).1=Rm at*;generalize cv c=L at*;generalize h_ c ins state=R at*
      simp at hS hc q1 h4 k5 k6;simp[h0,h3,e1,h1,e2,h2];refine .call 150 (by simp) hS ?_;simp;refine .call 150 (by simp) hc ?_;simp;refine .call 150 (by simp) ih ?_;simp[k5,k6];have j1:(R.1.map AV.bool).take R.1.length=R.1.map AV.bool:=cj (by simp);have j2:(R.2.1.map AV.bool).take R.2.1.length=R.2.1.map AV.bool:=cj (by simp);refine .call 150 (by simp[j1]) q1 ?_;simp;refine .call 150 (by simp[j2]) h4 ?_;simp;refine .call 150 (by simp) hM ?_;simp;exact .back (by simp)
   ·simp[h0,h3];exact .back (by simp)
  ·simp[h0];exact .back (by simp)
end Go.Proofs.YtchjijfjidlpjaaGreatDoor
