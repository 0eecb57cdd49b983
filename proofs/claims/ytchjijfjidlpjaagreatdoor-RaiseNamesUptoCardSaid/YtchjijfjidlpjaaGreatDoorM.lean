/- Raise: what each gate of the netlist is (plain). -/
import Derived.Test.YtchjijfjidlpjaaGreatDoorK
import Derived.Test.YtchjijfjidlpjaaGreatDoorJ
import Derived.Test.YtchjijfjidlpjaaGreatDoorF
import Derived.Test.YtchjijfjidlpjaaGreatDoorI
import Derived.Test.YtchjijfjidlpjaaGreatDoorAMd
import Derived.Test.YtchjijfjidlpjaaGreatDoorCards
import Derived.Test.YtchjijfjidlpjaaGreatDoorTie
import Derived.ProofKit
import Derived.Deep.DeepHandedRow
import Derived.LaidMore
import Derived.JoinedCond
import Derived.Test.YtchjijfjidlpjaaGreatDoorG
set_option linter.unusedSimpArgs false
set_option linter.unusedVariables false
namespace Go.Proofs.YtchjijfjidlpjaaGreatDoor
open Go.AM Go.Proofs
inductive GD(N:List Bs)(V:List Nat)(first:Nat)(ands:List (Int×Int))(pos:Nat):Nat->Gt->Nat->Nat->Prop
 |const (t:Nat) (s:Bs) (b:Bool):GD N V first ands pos t (sW s (if b then 1 else 0)) (if b then 1 else 0) t
 |buf (t:Nat) (s:Bs) (k:Nat) (r:Bs) (a:Nat):k<pos->N[k]? =some r->V[k]? =some a->GD N V first ands pos t (eB s 2 [r]) a t
 |not (t:Nat) (s:Bs) (k:Nat) (r:Bs) (a:Nat):k<pos->N[k]? =some r->V[k]? =some a->GD N V first ands pos t (eB s 3 [r]) (a^^^1) t
 |and (t:Nat) (s:Bs) (k1 k2:Nat) (r1 r2:Bs) (p q:Nat):k1<pos->k2<pos->N[k1]? =some r1->N[k2]? =some r2->V[k1]? =some p->V[k2]? =some q->ands[t]? =some ((p:Int),(q:Int))->GD N V first ands pos t (eB s 4 [r1,r2]) (2*(first+t)) (t+1)
theorem adx(u:List Bs)(n:Nat):∀k:Nat,∃e,dq u (n+k)=dq u n++e:=by
 intro k
 induction k with
 |zero=>exact⟨[],by simp⟩
 |succ k ih=>
  obtain⟨e,he⟩:=ih;exact⟨e++[ff (u++dq u (n+k)) eW],by rw[<-kJ,dq,he,cM]⟩
theorem OX{m:Md}{L:List (Nat×By)}{i:Nat}(hi:i<=L.length)(hd:(bE m L).Nodup)(E:List Bs)(F:List Nat){a:Nat}(ha:a∈bE m (L.take i)):
 ∃k,k<(m.an++m.ah).length+i/\(fJ m L.length++E)[k]? =some (db (cD m (L.take i)).a8 a)/\(bE m L++F)[k]? =some a:=by
 obtain⟨k,hk,rfl⟩:=eM ha
 have hsp:bE m L=bE m (L.take i)++(L.drop i).map (·.1):=by rw[<-uO,mn]
 have hd1:(bE m (L.take i)).Nodup:=by
  rw[hsp,jM]at hd;exact hd.1
 have hlt:(L.take i).length=i:=by simp;omega
 have hkl:(bE m (L.take i)).length=(m.an++m.ah).length+i:=by simp only[bE,jz,bq,eb,pt,hlt]
 refine⟨k,by omega,?_,?_⟩
 ·rw[afm hd1 hk];obtain⟨e,he⟩:=adx (iI m) i (L.length-i);rw[show i+(L.length-i)=L.length by omega]at he
  have hn:fJ m L.length=fJ m (L.take i).length++e:=by rw[hlt,fJ,he,fJ,<-cM]
  have hk2:k<(fJ m (L.take i).length).length:=by rw[<-mA];exact hk
  rw[hn,cM,cz hk2,aM hk2]
 ·rw[hsp,cM,cz hk,aM hk]
theorem adv{a:Nat}(h:a%2=1):a^^^1=a-1:=by rw[mC,if_neg (by omega)]
theorem aa1{a:Nat}(h:a%2=1):(a-1)^^^1=a:=by rw[mC,if_pos (by omega)];omega
theorem OL{m:Md}{first:Nat}{ands:List (Int×Int)}{N:List Bs}{V:List Nat}{a8:List (Nat×Bs)}{pos:Nat}(s:Bs)(t:Nat){a:Nat}(h:a<2\/(a%2=1/\∃k,k<pos/\N[k]? =some (db a8 (a-1))/\V[k]? =some (a-1))):
 GD N V first ands pos t ((eZ a).gate a8 s) a t:=by
 unfold eZ
 by_cases h2:a<2
 ·rw[if_pos h2];have:=GD.const (N:=N) (V:=V) (first:=first) (ands:=ands) (pos:=pos) t s (decide (a=1))
  have e:(if decide (a=1)=true then 1 else 0)=a:=by
   by_cases h1:a=1
   ·simp[h1]
   ·simp[h1];omega
  rw[e]at this;exact this
 ·rw[if_neg h2];obtain⟨h3,k,k1,k2,k3⟩:=h.resolve_left h2;have:=GD.not (first:=first) (ands:=ands) t s k _ _ k1 k2 k3;rw[aa1 h3]at this;simp only[By.gate,adv h3];exact this
def dT(n:Md):List (Bs×Int):=(n.aq.zip n.g.outs).filter fun p=>decide (dA n p.1<0)
theorem Bn(d:Md)(m:List (Nat×Bs)):∀(l:List Bs)(r:List Int),jY d m l r=((l.zip r).filter fun p=>decide (dA d p.1<0)).map fun p=>mb m p.1 p.2.toNat
 |[],r=>by simp[jY]
 |s::l,[]=>by simp[jY]
 |s::l,a::r=>by
  rw[jY,z1,nF]
  by_cases h:dA d s<0
  ·simp[h,Bn d m l r]
  ·simp[h,Bn d m l r]
theorem Qn{n:Md}(ok:jc n)(hs:n.g.strict=true):∃L,Tr n n.g.first n.g.ands L n.g.ands.length/\(dn n).1=cD n L/\(∀a∈n.g.next,a.toNat∈bE n L)/\(dn n).2.map (·.name)=n.ah/\(dn n).2.map (·.init)=n.g.init/\(dn n).2.map (·.next)=n.g.next.map (fun a=>db (cD n L).a8 a.toNat)/\∀e∈L,ju e=false->(∃p∈n.g.ands,e.1=p.1.toNat\/e.1=p.2.toNat)\/∃a∈n.g.next,e.1=a.toNat:=by
 have hf:=ok.first
 obtain⟨o,_,_⟩:=oD hs;obtain⟨L1,t1,e1,s1⟩:=aaR hf o.ands n.g.ands.length 0 (by omega) [] .nil
 have hA:rK n=cD n L1:=by
  rw[fe,kK]at e1;exact e1
 rw[kK]at t1
 obtain⟨L2,t2,e2,k2,e3,e4,e5,s2⟩:=Ow hf n.ah n.g.next n.g.init ok.lL o.same (fun a ha=>by
  have:=o.next a ha;have e:n.g.lits=2*(n.g.first+n.g.ands.length):=rfl
  omega) L1 t1
 refine⟨L1++L2,t2,?_,k2,?_,?_,?_,fun x hx hb=>?_⟩
 ·unfold dn;rw[hA];exact e2
 ·unfold dn;rw[hA];exact e3
 ·unfold dn;rw[hA];exact e4
 ·unfold dn;rw[hA];exact e5
 ·rcases aN.1 hx with hx|hx
  ·exact .inl (s1 x hx hb)
  ·exact .inr (s2 x hx).2
structure gI(n:Md)(V:List Nat)(ts:Nat->Nat):Prop where
 len:V.length=(aD (aI n)).length
 nd:(aD (aI n)).Nodup
 low:∀k,k<(n.an++n.ah).length->V[k]? =some (2*(k+1))
 t0:ts 0=0
 tN:ts (aI n).af.length=n.g.ands.length
 gd:∀i(h:i<(aI n).af.length),∃d,V[(n.an++n.ah).length+i]? =some d/\GD (aD (aI n)) V n.g.first n.g.ands ((n.an++n.ah).length+i) (ts i) (aI n).af[i] d (ts (i+1))
 next:∀i(h:i<n.g.next.length),∃q,(aI n).ah[i]? =some q/\∃k:Nat,(aD (aI n))[k]? =some q.next/\V[k]? =some (n.g.next[i]).toNat
 outs:∀i(h:i<n.g.outs.length)(h2:i<n.aq.length),∃k:Nat,(aD (aI n))[k]? =some n.aq[i]/\V[k]? =some (n.g.outs[i]).toNat
 G0:(aI n).ah.map (·.name)=n.ah
 Hb:(aI n).ah.map (·.init)=n.g.init
 names:∀s∈aD (aI n),s∈n.an++n.ah++n.aq\/∃j,j<10^7/\s=eW++Lib.decDigits j
 zp:(aI n).af.length<=2^15
theorem Wo(L:List (Nat×By)){i:Nat}(hi:i<L.length):qv (L.take (i+1))=qv (L.take i)+if ju L[i]=true then 1 else 0:=by
 rw[ke hi,FL]
theorem Db{n:Md}(ok:jc n)(hs:n.g.strict=true):∃V ts,gI n V ts:=by
 obtain⟨L,tr,hL,hk,l1,l2,l3,_⟩:=Qn ok hs;obtain⟨o,so,_⟩:=oD hs
 have hf:=ok.first
 have F:=tr.facts hf
 obtain⟨hcnt,hat⟩:=tr.at
 have hgl:=Ez n L
 have hG:(aI n).af=(cD n L).af++(dT n).map fun p=>mb (cD n L).a8 p.1 p.2.toNat:=by
  show(dn n).1.af++jY n (dn n).1.a8 n.aq n.g.outs=_
  rw[hL,Bn];rfl
 have hlat:(aI n).ah=(dn n).2:=rfl
 have hoN:∀p:Bs×Int,(mb (cD n L).a8 p.1 p.2.toNat).name=p.1:=by
  intro p;unfold mb
  split
  ·rfl
  ·simp
 have hN:aD (aI n)=fJ n L.length++(dT n).map (·.1):=by
  unfold aD;rw[hG,hlat,l1,jK,Yw,jH]
  have:((dT n).map ((fun g:Gt=>g.name)∘fun p=>mb (cD n L).a8 p.1 p.2.toNat))=(dT n).map (·.1):=mq fun p _=>hoN p
  rw[this];simp[fJ,aI,cM]
 have hgN:(aI n).af.length=L.length+(dT n).length:=by rw[hG];simp[hgl]
 have hkl:(bE n L).length=(n.an++n.ah).length+L.length:=by simp[bE,jz]
 obtain⟨f1,f2⟩:=Oz (iI n) L.length
 have hout:∀p∈dT n,p.1∈n.aq/\p.1∉n.an++n.ah/\p.2∈n.g.outs:=by
  intro p hp;simp only[dT,du,aW]at hp;obtain⟨h1,h2⟩:=List.of_mem_zip (a:=p.1) (b:=p.2) hp.1;exact⟨h1,Yd.1 hp.2,h2⟩
 have hlits:n.g.lits=2*(n.g.first+n.g.ands.length):=rfl
 have hnet:∀a∈bE n L,∃k,k<(n.an++n.ah).length+L.length/\(aD (aI n))[k]? =some (db (cD n L).a8 a)/\(bE n L++(dT n).map (·.2.toNat))[k]? =some a:=by
  intro a ha;have:=OX (m:=n) (L:=L) (i:=L.length) (aO _) F.nodup ((dT n).map (·.1)) ((dT n).map (·.2.toNat)) (a:=a) (by rw[wa];exact ha);rw[wa,<-hN]at this;exact this
 refine⟨bE n L++(dT n).map (·.2.toNat),fun i=>qv (L.take i),?_⟩
 have hLl:L.length<=2^14:=by
  have h1:=xt (bE n L) (List.range n.g.lits) F.nodup (fun x hx=>dL.2 (by have:=F.lt x hx;omega));rw[pt,hkl]at h1;have h2:=BY o;omega
 have hol:(dT n).length<=4000:=by
  have h1:(dT n).length<=(n.aq.zip n.g.outs).length:=List.length_filter_le _ _;have h2:=o.jP;simp only[List.length_zip]at h1;omega
 have hul:(iI n).length<=12000:=by
  have h1:=ok.lI;have h2:=ok.lL;have h3:=ok.lO;have h4:=o.sum;have h5:=o.jP;simp only[iI,bq];omega
 refine⟨?_,?_,fun k hk=>?_,rfl,?_,fun i hi=>?_,fun i hi=>?_,fun i h1 h2=>?_,l1,l2,fun s hs=>?_,by omega⟩
 ·rw[hN,bq,bq,mA];simp
 ·rw[hN,fJ,jM];refine⟨?_,?_,fun a ha b hb=>?_⟩
  ·rw[jM];refine⟨ok.nd,f1,fun a ha b hb=>?_⟩
   rintro rfl
   exact f2 a hb (iU _ ha)
  ·refine ok.IY.sublist ?_;refine List.Sublist.trans (List.Sublist.map _ TN) ?_;rw[JD (by rw[ok.lO];exact aO _)];exact List.Sublist.refl _
  ·obtain⟨p,hp,rfl⟩:=b_.1 hb;obtain⟨q1,q2,_⟩:=hout p hp
   rintro rfl
   rcases aN.1 ha with ha|ha
   ·exact q2 ha
   ·exact f2 _ ha (wm _ q1)
 ·rw[cz (by rw[hkl];omega),bE,cz (by simpa[jz]using hk)];simp only[jz,gK,JJ hk,dO]
 ·rw[hgN,cJ (by omega),<-hcnt]
 ·by_cases hiL:i<L.length
  ·have hst:=hat i hiL
   have hsplit:L=L.take i++L[i]::L.drop (i+1):=by rw[<-bZ hiL,mn]
   have hlt:(L.take i).length=i:=by simp;omega
   have hg:(aI n).af[i]=(L[i]).2.gate (cD n (L.take i)).a8 (ff (iI n++dq (iI n) i) eW):=by
    have h1:=adk n (L.take i) L[i] (L.drop (i+1));rw[<-hsplit,hlt]at h1
    have h2:(aI n).af[i]? =some ((L[i]).2.gate (cD n (L.take i)).a8 (ff (iI n++dq (iI n) i) eW)):=by
     rw[hG,cz (by omega)];exact h1
    exact(dd.1 h2).2
   have hV:(bE n L++(dT n).map (·.2.toNat))[(n.an++n.ah).length+i]? =some (L[i]).1:=by
    rw[cz (by rw[hkl];omega),bE,df (by simp[jz])];simp[jz,gK,aM hiL]
   refine⟨(L[i]).1,hV,?_⟩;rw[hg,hN];rw[Wo L hiL]
   have hpre:=fun a=>OX (m:=n) (L:=L) (i:=i) (by omega) F.nodup ((dT n).map (·.1)) ((dT n).map (·.2.toNat)) (a:=a)
   rcases hst with⟨a,he,ha⟩|⟨p,q,he,hp,h1,h2⟩
   ·rw[he,Bp];refine OL (m:=n) _ _ ?_
    rcases ha with ha|⟨ha,hb⟩
    ·exact .inl ha
    ·exact .inr ⟨ha,hpre _ hb⟩
   ·obtain⟨k1,a1,a2,a3⟩:=hpre p h1;obtain⟨k2,b1,b2,b3⟩:=hpre q h2;rw[he];exact .and _ _ k1 k2 _ _ p q a1 b1 a2 b2 a3 b3 hp
  ·obtain⟨r,rfl⟩:∃r,i=L.length+r:=⟨i-L.length,by omega⟩
   have hr:r<(dT n).length:=by omega
   have hg:(aI n).af[L.length+r]=mb (cD n L).a8 (dT n)[r].1 (dT n)[r].2.toNat:=by
    have h2:(aI n).af[L.length+r]? =some (mb (cD n L).a8 (dT n)[r].1 (dT n)[r].2.toNat):=by
     rw[hG,df (by omega),hgl,qO,gK,aM hr];rfl
    exact(dd.1 h2).2
   have hV:(bE n L++(dT n).map (·.2.toNat))[(n.an++n.ah).length+(L.length+r)]? =some (dT n)[r].2.toNat:=by
    rw[df (by rw[hkl];omega),hkl,show(n.an++n.ah).length+(L.length+r)-((n.an++n.ah).length+L.length)=r by omega,gK,aM hr];rfl
   refine⟨_,hV,?_⟩;rw[hg,cJ (by omega),cJ (by omega)];obtain⟨_,_,h3⟩:=hout _ (bF hr);have hb:=o.outs _ h3;generalize(dT n)[r]=p at*;obtain⟨s,a⟩:=p;obtain⟨a,rfl⟩:=fP hb.1;simp only[dt]at*
   have hlt:a<2*(n.g.first+n.g.ands.length):=by omega
   unfold mb
   by_cases he:2<=a/\a%2=0
   ·rw[if_pos he]
    obtain⟨k,k1,k2,k3⟩:=hnet a (by
     have:=F.even (a/2) (by omega) (by omega)
     rwa[show 2*(a/2)=a by omega]at this)
    exact .buf _ _ k _ _ (by omega) k2 k3
   ·rw[if_neg he];refine OL (m:=n) _ _ ?_
    by_cases h2:a<2
    ·exact .inl h2
    ·have ho:a%2=1:=by omega
     obtain⟨k,k1,k2,k3⟩:=hnet (a-1) (by
      have:=F.even (a/2) (by omega) (by omega)
      rwa[show 2*(a/2)=a-1 by omega]at this)
     exact .inr ⟨ho,k,by omega,k2,k3⟩
 ·have h1:i<(aI n).ah.length:=by
   have:=congrArg List.length l1;rw[eb]at this
   rw[hlat,this,ok.lL];exact hi
  refine⟨_,aM h1,?_⟩
  have e:(aI n).ah[i].next=db (cD n L).a8 (n.g.next[i]).toNat:=by
   have h2:((dn n).2.map (·.next))[i]? =some (db (cD n L).a8 (n.g.next[i]).toNat):=by rw[l3,gK,aM hi];rfl
   rw[gK,<-hlat,aM h1]at h2;simpa using h2
  rw[e];obtain⟨k,_,k2,k3⟩:=hnet _ (hk _ (bF hi));exact⟨k,k2,k3⟩
 ·by_cases hp:dA n n.aq[i]<0
  ·have hz:i<(n.aq.zip n.g.outs).length:=by simp;omega
   have hm:(n.aq[i],n.g.outs[i])∈dT n:=by
    simp only[dT,du,aW];refine⟨?_,hp⟩;have:=bF hz;rwa[List.getElem_zip]at this
   obtain⟨r,hr,he⟩:=eM hm;refine⟨(n.an++n.ah).length+L.length+r,?_,?_⟩
   ·rw[hN,df (by rw[<-mA,hkl];omega),<-mA,hkl,qO,gK,aM hr,he];rfl
   ·rw[df (by rw[hkl];omega),hkl,qO,gK,aM hr,he];rfl
  ·have h3:=ok.out i h2 h1 (by omega);obtain⟨k,k1,k2,k3⟩:=Yv (m:=n) (s:=n.aq[i]) (by omega);refine⟨k,?_,?_⟩
   ·rw[hN,fJ,cM,cz k1,aM k1,k2]
   ·rw[cz (by rw[hkl];omega),bE,cz (by simpa[jz]using k1)];simp only[jz,gK,JJ k1,dO];congr 1;omega
 ·rw[hN,fJ]at hs
  rcases aN.1 hs with hs|hs
  ·rcases aN.1 hs with hs|hs
   ·exact .inl (iU _ hs)
   ·obtain⟨j,j1,j2⟩:=Oe (iI n) L.length s hs;exact .inr ⟨j,by omega,j2⟩
  ·obtain⟨p,hp,rfl⟩:=b_.1 hs;exact .inl (wm _ (hout p hp).1)
def eO(l:List Nat)(a:Nat):List Nat:=if a%2=1/\a∉l then l++[a]else l
def s_(p:Int×Int):List Nat:=[p.1.toNat,p.2.toNat]
def asked(g:Gr):List Nat:=g.ands.flatMap s_++g.next.map (·.toNat)
def oP(g:Gr):List Nat:=(asked g).foldl eO []
def kX(g:Gr):Nat:=if g.check=0 then g.normal.ands.length+(oP g.normal).length else 0
theorem Ll:∀(l s:List Nat),s.Nodup->(l.foldl eO s).Nodup/\∀a,a∈l.foldl eO s↔a∈s\/(a%2=1/\a∈l)
 |[],s,h=>⟨h,fun a=>by simp⟩
 |b::l,s,h=>by
  rw[pn]
  have h1:(eO s b).Nodup:=by
   unfold eO
   split
   ·rename_i hb;rw[jM];refine⟨h,by simp,fun x hx y hy=>?_⟩;simp only[cq]at hy;subst hy
    rintro rfl
    exact hb.2 hx
   ·exact h
  obtain⟨h2,h3⟩:=Ll l _ h1;refine⟨h2,fun a=>?_⟩;rw[h3];unfold eO
  split
  ·rename_i hb;simp only[aN,bo,mu,ml];constructor
   ·rintro((h|rfl)|h)
    ·exact .inl h
    ·exact .inr ⟨hb.1,.inl rfl⟩
    ·exact .inr ⟨h.1,.inr h.2⟩
   ·rintro(h|⟨h,rfl|h4⟩)
    ·exact .inl (.inl h)
    ·exact .inl (.inr rfl)
    ·exact .inr ⟨h,h4⟩
  ·rename_i hb;simp only[bo];constructor
   ·rintro(h|h)
    ·exact .inl h
    ·exact .inr ⟨h.1,.inr h.2⟩
   ·rintro(h|⟨h,rfl|h4⟩)
    ·exact .inl h
    ·refine .inl (DJ fun hn=>hb ⟨h,hn⟩)
    ·exact .inr ⟨h,h4⟩
theorem Tr.afa{m:Md}{first:Nat}{ands:List (Int×Int)}{L:List (Nat×By)}{t:Nat}(h:Tr m first ands L t):∀j,j<t->∀p q:Nat,ands[j]? =some ((p:Int),(q:Int))->p∈bE m L/\q∈bE m L:=by
 induction h with
 |nil=>intro j hj;omega
 |cQ a _ _ _ ih=>
  intro j hj p q he;obtain⟨h1,h2⟩:=ih j hj p q he;rw[pF];exact⟨iU _ h1,iU _ h2⟩
 |both p' q' _ hp h1 h2 ih=>
  intro j hj p q he;rw[pF];rename_i L t _
  by_cases hjt:j<t
  ·obtain⟨h1,h2⟩:=ih j hjt p q he;exact⟨iU _ h1,iU _ h2⟩
  ·obtain rfl:j=t:=by omega
   rw[hp]at he;simp only[aj,bX,Int.natCast_inj]at he;rw[<-he.1,<-he.2];exact⟨iU _ h1,iU _ h2⟩
theorem K6{α:Type}(p:α->Bool):∀l:List α,l.length=(l.filter p).length+(l.filter fun a=>!p a).length
 |[]=>rfl
 |a::l=>by
  have:=K6 p l;rw[nF,nF]
  cases h:p a<;>simp<;>omega
theorem abP{n:Md}(ok:jc n)(hs:n.g.strict=true):(aI n).af.length=n.g.ands.length+(oP n.g).length+(if(0:Int)∈n.g.next then 1 else 0)+(dT n).length:=by
 obtain⟨L,tr,hL,hk,l1,l2,l3,hask⟩:=Qn ok hs;obtain⟨o,so,_⟩:=oD hs
 have hf:=ok.first
 have F:=tr.facts hf
 obtain⟨hcnt,hat⟩:=tr.at
 have hpairs:=tr.afa
 have hG:(aI n).af.length=L.length+(dT n).length:=by
  show((dn n).1.af++jY n (dn n).1.a8 n.aq n.g.outs).length=_
  rw[hL,Bn,bq,Ez,eb];rfl
 have hsplit:=K6 ju L
 have hD:((L.filter fun e=>!ju e).map (·.1)).Nodup:=by
  have h1:(L.map (·.1)).Nodup:=by
   have:=F.nodup;rw[bE,jM]at this;exact this.2.1
  exact h1.sublist (List.Sublist.map _ TN)
 obtain⟨s1,s2⟩:=Ll (asked n.g) [] List.nodup_nil
 have hE:(oP n.g++if(0:Int)∈n.g.next then[0]else[]).Nodup:=by
  rw[jM];refine⟨s1,by split<;>simp,fun a ha b hb=>?_⟩;rw[oP,s2]at ha
  split at hb
  ·simp only[cq]at hb
   rintro rfl
   rcases ha with ha|ha
   ·cases ha
   ·omega
  ·cases hb
 have hstep:∀e∈L,(ju e=false->e.1<2\/e.1%2=1)/\(ju e=true->e.1%2=0/\e.1≠0):=by
  intro e he;obtain⟨i,hi,rfl⟩:=eM he
  rcases hat i hi with⟨a,e1,h1⟩|⟨p,q,e1,_⟩
  ·rw[e1];refine⟨fun _=>?_,fun h=>(by rw[Bp]at h;cases h)⟩
   rcases h1 with h1|h1
   ·exact .inl h1
   ·exact .inr h1.1
  ·rw[e1];refine⟨fun h=>(by cases h),fun _=>⟨by simp,by simp;omega⟩⟩
 have hmem:∀a,a∈(L.filter fun e=>!ju e).map (·.1)↔a∈oP n.g++if(0:Int)∈n.g.next then[0]else[]:=by
  intro a;rw[aN,oP,s2];constructor
  ·intro h;obtain⟨e,he,rfl⟩:=b_.1 h;simp only[du,iA]at he;obtain⟨he,hb⟩:=he;have h1:=(hstep e he).1 hb
   rcases hask e he hb with⟨p,hp,h2⟩|⟨x,hx,h2⟩
   ·obtain⟨j,hj,rfl⟩:=eM hp;obtain⟨p',q',e3,a1,a2,a3,a4⟩:=so.at_ j hj;rw[e3]at h2;simp only[dt]at h2;refine .inl (.inr ⟨by omega,?_⟩);simp only[asked,aN,nD];refine .inl ⟨_,hp,?_⟩;rw[e3];simp only[s_,dt,bo,mu,ml];exact h2
   ·have hx0:=(o.next x hx).1
    by_cases h0:x=0
    ·subst h0;refine .inr ?_;rw[if_pos hx,h2];simp
    ·refine .inl (.inr ⟨by omega,?_⟩);simp only[asked,aN,b_];exact .inr ⟨x,hx,h2.symm⟩
  ·intro h
   have hin:a∈bE n L/\(a%2=1\/a=0):=by
    rcases h with(h|⟨h1,h2⟩)|h
    ·cases h
    ·refine⟨?_,.inl h1⟩;simp only[asked,aN,nD,b_]at h2
     rcases h2 with⟨p,hp,h2⟩|⟨x,hx,rfl⟩
     ·obtain⟨j,hj,rfl⟩:=eM hp;obtain⟨p',q',e3,_⟩:=so.at_ j hj;obtain⟨k1,k2⟩:=hpairs j hj p' q' (by rw[aM hj,e3]);rw[e3]at h2;simp only[s_,dt,bo,mu,ml]at h2
      rcases h2 with rfl|rfl
      ·exact k1
      ·exact k2
     ·exact hk x hx
    ·split at h
     ·rename_i h0;simp only[cq]at h;subst h;exact⟨by simpa using hk 0 h0,.inr rfl⟩
     ·cases h
   obtain⟨hk1,h2⟩:=hin;rw[bE]at hk1
   rcases aN.1 hk1 with h3|h3
   ·simp only[jz,b_,dL]at h3;obtain⟨k,_,rfl⟩:=h3;omega
   ·obtain⟨e,he,rfl⟩:=b_.1 h3;refine b_.2 ⟨e,?_,rfl⟩;simp only[du,iA];refine⟨he,?_⟩
    cases hb:ju e with
    |false=>rfl
    |true=>
     have:=(hstep e he).2 hb;omega
 have hlen:((L.filter fun e=>!ju e).map (·.1)).length=(oP n.g++if(0:Int)∈n.g.next then[0]else[]).length:=by
  have a1:=xt _ _ hD (fun x hx=>(hmem x).1 hx);have a2:=xt _ _ hE (fun x hx=>(hmem x).2 hx);omega
 rw[eb,bq]at hlen;have hc:(L.filter ju).length=n.g.ands.length:=hcnt.symm;rw[hG,hsplit,hc,hlen]
 split<;>simp<;>omega
end Go.Proofs.YtchjijfjidlpjaaGreatDoor
namespace Go.Proofs.YtchjijfjidlpjaaGreatDoor
open Go.AM Go.Proofs
variable{Γ:Nat->Option AV}
theorem Fa(m:Md)(hb:nq m):aP Tryz.prog Γ tS [dz m] (.aE [dz (n4 m).1,.int .i64 (n4 m).2]):=by
 have hC:=abU (Γ:=Γ) m hb;have hN:=Kn (Γ:=Γ) m.g hb.1;unfold n4;refine .run 60 VI (by simp) ?_;simp;refine .call 60 (by simp) hC ?_
 by_cases h:iY m=0
 ·simp[h];refine .call 60 (by simp) hN ?_;simp;exact .back (by simp[bp])
 ·simp[h];exact .back (by simp[vN,tp])
abbrev CP(a:Nat):AV×AV:=(iN a,.bool true)
theorem OD(a:Nat):∀s:List Nat,i_ (.sc .int) (iN a) (.bool true) (s.map CP)=some ((if a∈s then s else s++[a]).map CP)
 |[]=>by simp[i_]
 |b::s=>by
  have ih:=OD a s;rw[bL,i_,sE]
  by_cases h:a=b
  ·subst h;simp
  ·simp only[h,ot,ih]
   by_cases h2:a∈s<;>simp[h2,h]
abbrev CZ(g:Gr)(s:List Nat)(tl:List Ob):List Ob:=.cells (AV.cells (gJ g))::.cells (AV.cells (gJ g.normal))::.row 1 av [] none true false::.row 1 av [] none true false::.row 2 dv [] none true false::.row 1 av [] none true false::.map (s.map CP) true::.cells [.mp 6]::tl
theorem and_1{a:Nat}(ha:(a:Int)<2^60):ie .and .i64 (a:Int) 1=some ((a%2:Nat):Int):=by
 have h1:(BitVec.ofInt 64 (a:Int)&&&BitVec.ofInt 64 1).toNat=a%2:=by
  have e1:(BitVec.ofInt 64 1).toNat=1:=by decide
  rw[BitVec.toNat_and,e1,Nat.and_one_is_mod,JL];omega
 show some (IntKind.i64.wrap ((BitVec.ofInt 64 (a:Int)&&&BitVec.ofInt 64 1).toNat:Int))=_
 rw[h1,zb (by omega)]
theorem aaK(n:Nat)(s:List Nat):gE n (s.map CP)=true:=by
 induction s with
 |nil=>rfl
 |cons a s ih=>simpa[gE]using ih
theorem adS(s:List Nat)(a:Nat):eO s a=if a%2=1 then(if a∈s then s else s++[a])else s:=by
 unfold eO
 by_cases h:a%2=1<;>by_cases h2:a∈s<;>simp[h,h2]
theorem G_(g:Gr)(s:List Nat)(tl:List Ob)(a:Nat)(ha:(a:Int)<2^60):∀up,AM.Reach Tryz.prog Γ (.cl tP [iN a,.ptr 7 0] up (CZ g s tl)) (.back up (.aE []) (CZ g (eO s a) tl)):=by
 intro up;have hp:=OD a s;have hbit:=and_1 ha;have q:((a:Int)%2=1)=(a%2=1):=propext (by omega);rw[adS];refine .bJ 60 Vr ?_
 by_cases h:a%2=1
 ·simp[hbit,q,h,hp,isKey,bM,cj]
  try exact .refl _
 ·simp[hbit,q,h]
  try exact .refl _
theorem acS(l:List Nat):∀s:List Nat,(l.foldl eO s).length<=s.length+l.length:=by
 induction l with
 |nil=>intro s;simp
 |cons a l ih=>
  intro s;rw[pn];have h1:=ih (eO s a)
  have h2:(eO s a).length<=s.length+1:=by
   unfold eO
   split<;>simp
  simp only[bz];omega
set_option maxRecDepth 8000 in
theorem aft(g:Gr)(x:Gr)(hx:x=g.normal)(ox:x.Ok):∀k i:Nat,i+k=x.next.length->∀s:List Nat,s.length<2^30+i->
 aB Tryz.prog Γ (ydQ (.ptr 1 0) (.ptr 7 0) (.fn (.func tP) [] [.ptr 7 0]) (.list false x.kn (x.next.map i64)) (.int .i64 x.next.length) (.int .i64 i) (CZ g s [])) (.ret (.int .i64 ((x.ands.length+(((x.next.drop i).map (·.toNat)).foldl eO s).length:Nat):Int))):=by
 have hlt:=BY ox;have o3:=ox.sum;have o1:=ox.ins;intro k
 induction k with
 |zero=>
  intro i hi s hs
  have q1:¬i<x.next.length:=by omega
  rw[bT (by omega)];subst hx;refine .go 60 ?_;simp(disch:=omega) [q1];exact .back (by simp)
 |succ k ih=>
  intro i hi s hs
  have q1:i<x.next.length:=by omega
  have q2:=bU (x.hn.of q1);obtain⟨b1,b2⟩:=ox.next _ (bF q1);obtain⟨a,ha⟩:=fP b1;have hR:=G_ (Γ:=Γ) g s [] a (by omega)
  have h2:(eO s a).length<=s.length+1:=by
   unfold eO
   split<;>simp
  have hh:=ih (i+1) (by omega) (eO s a) (by omega);rw[bZ q1,bL,pn,ha];simp only[dt];refine .go 60 ?_;simp[q1,q2,ha];refine .bA 60 hR ?_;simp;refine .aR ?_;simp(disch:=omega);simp at hh⊢;exact hh
set_option maxRecDepth 8000 in
theorem afw(g:Gr)(x:Gr)(hx:x=g.normal)(ox:x.Ok):∀k i:Nat,i+k=x.ands.length->∀s:List Nat,s.length<2^29+2*i->
 aB Tryz.prog Γ (ydS (.ptr 1 0) (.ptr 7 0) (.fn (.func tP) [] [.ptr 7 0]) (.list false x.ka (x.ands.map dI)) (.int .i64 x.ands.length) (.int .i64 i) (CZ g s [])) (.ret (.int .i64 ((x.ands.length+(((x.ands.drop i).flatMap s_++x.next.map (·.toNat)).foldl eO s).length:Nat):Int))):=by
 have hlt:=BY ox;have o3:=ox.sum;have o1:=ox.ins;intro k
 induction k with
 |zero=>
  intro i hi s hs
  have q1:¬i<x.ands.length:=by omega
  have hh:=aft (Γ:=Γ) g x hx ox x.next.length 0 (by omega) s (by omega);rw[bT (by omega)];subst hx;refine .go 60 ?_;simp[q1];refine .inLoop ?_;simp at hh⊢;exact hh
 |succ k ih=>
  intro i hi s hs
  have q1:i<x.ands.length:=by omega
  have q2:=bU (x.ha.of q1);obtain⟨⟨b1,b2⟩,b3,b4⟩:=ox.ands i q1;obtain⟨a,ha⟩:=fP b1;obtain⟨b,hb⟩:=fP b3
  have hfb:x.first<=8001:=by have:=ox.ins;unfold Gr.first;omega
  have hR:=G_ (Γ:=Γ) g s [.cells [iN a,iN b]] a (by omega);have hR2:=G_ (Γ:=Γ) g (eO s a) [.cells [iN a,iN b]] b (by omega)
  have h2:∀(s:List Nat)(a:Nat),(eO s a).length<=s.length+1:=by
   intro s a;unfold eO
   split<;>simp
  have h3:=h2 s a;have h4:=h2 (eO s a) b;have hh:=ih (i+1) (by omega) (eO (eO s a) b) (by omega);have hbs:=aaK 8 (eO (eO s a) b);rw[bZ q1,ou,s_,ha,hb,cM];simp only[dt,ep,kK,pn];refine .go 60 ?_;simp[q1,q2,ha,hb];refine .bA 60 hR ?_;simp;refine .bA 60 hR2 ?_;simp;refine .aR ?_;simp(disch:=omega);refine .drop 8 rfl (by simp) (by simp) (by simp[hbs]) ?_;simp at hh⊢;exact hh
theorem Nk(g:Gr)(hf:g.me):aP Tryz.prog Γ rZ [gJ g] (.int .i64 (kX g)):=by
 have hN:=Kn (Γ:=Γ) g hf;unfold kX;refine .run 60 V9 (by simp) ?_;simp;refine .call 60 (by simp) hN ?_
 by_cases h:g.check=0
 ·have ox:g.normal.Ok:=Gr.qk (Ay h).2.1;have hh:=afw (Γ:=Γ) g g.normal rfl ox g.normal.ands.length 0 (by omega) [] (by simp);unfold oP asked;simp[h];refine .inLoop ?_;simp at hh⊢;exact hh
 ·simp[h];exact .back (by simp)
theorem Me{a b:Nat}{m:List (Nat×Bs)}{s:Bs}(h:getM b m=none)(hne:¬b=a):getM b (m++[(a,s)])=none:=by
 rw[getM_none]at h⊢;intro x hx
 rcases aN.1 hx with hx|hx
 ·exact h x hx
 ·simp only[cq]at hx;subst hx
  exact fun e=>hne e.symm
structure n5(x:Ra)(B K:Nat):Prop where
 g:x.af.length<=K
 u:x.used.length<=20000+K
 k:∀b,B<=b->getM b x.a8=none
theorem n5.make{x:Ra}{B K a:Nat}(h:n5 x B K)(b:By){B':Nat}(hB:B<=B')(ha:a<B'):n5 (x.make a b) B' (K+1):=
 ⟨by have:=h.g;simp[Ra.make];omega,by have:=h.u;simp[Ra.make];omega,fun c hc=>Me (h.k c (by omega)) (by omega)⟩
theorem n5.cQ{x:Ra}{B K a:Nat}(h:n5 x B K)(ha:a<B):n5 (x.cQ a) B (K+1):=by
 unfold Ra.cQ
 split
 ·exact⟨by have:=h.g;omega,by have:=h.u;omega,h.k⟩
 ·exact h.make _ (aO _) ha
theorem vl(x:Ra)(a:Nat){g:Option Nat}(h:g=none\/g=some 0):vV x a g=none\/vV x a g=some 0:=by
 unfold vV
 split
 ·exact h
 ·exact .inr rfl
section
variable{a1 a2 a3 a4 a5 rL:Ob}{I O:AV}
set_option maxRecDepth 8000 in
theorem af8(hP:l9 Γ)(n:Md)(og:n.g.Ok)(H:il (.cells (AV.cells (dz n))) a1 a2 a3 a4 a5 I O rL [])(nl:Nat)(X:Ra){o:Out}
 (hc:∀gu gg,gu=none\/gu=some 0->gg=none\/gg=some 0->aB Tryz.prog Γ (ydg (.ptr 0 0) (.ptr 1 0) (.ptr 6 0) (dN (.cells (AV.cells (dz n))) a1 a2 a3 a4 a5 I O nl X gu gg rL [])) o):
 ∀k i:Nat,i+k=n.g.ands.length->∀(x:Ra)(gu gg:Option Nat),gu=none\/gu=some 0->gg=none\/gg=some 0->n5 x (2*(n.g.first+i)) (3*i)->mN n.g.first (n.g.ands.drop i) i x=X->
 aB Tryz.prog Γ (Rg (.ptr 0 0) (.ptr 1 0) (.ptr 6 0) (iN n.g.first) (.list false n.g.ka (n.g.ands.map dI)) (.int .i64 n.g.ands.length) (.int .i64 i) (dN (.cells (AV.cells (dz n))) a1 a2 a3 a4 a5 I O nl x gu gg rL [])) o:=by
 have o1:=og.ins;have o3:=og.sum
 have hfb:n.g.first<=8001:=by unfold Gr.first;omega
 intro k
 induction k with
 |zero=>
  intro i hi x gu gg hu hg hF hX
  have q1:¬i<n.g.ands.length:=by omega
  rw[bT (by omega),mN]at hX;subst hX;refine .ey 60 ?_;simp[q1];exact .reach (.exit rfl rfl) (hc gu gg hu hg)
 |succ k ih=>
  intro i hi x gu gg hu hg hF hX
  have q1:i<n.g.ands.length:=by omega
  have q2:=bU (n.g.ha.of q1);obtain⟨⟨b1,b2⟩,b3,b4⟩:=og.ands i q1;obtain⟨p,hp⟩:=fP b1;obtain⟨q,hq⟩:=fP b3;rw[bZ q1,mN,hp,hq]at hX;simp only[dt]at hX;have f1:=hF.cQ (a:=p) (by omega);have f2:=f1.cQ (a:=q) (by omega);have f3:=f2.make (a:=2*(n.g.first+i)) (.both p q) (B':=2*(n.g.first+(i+1))) (by omega) (by omega)
  have hJ:∀m,12<=m->cI m [Ob.cells [iN p,iN q]]=true:=fun m hm=>by simp
  have H1:=H.more hJ;have N1:=G' hP H1 nl x gu gg hu hg (by have:=hF.g;omega) (by have:=hF.u;omega) p (by omega);have m1:=vl x p hu;have m2:=vl x p hg;have N2:=G' hP H1 nl (x.cQ p) _ _ m1 m2 (by have:=f1.g;omega) (by have:=f1.u;omega) q (by omega);have m3:=vl (x.cQ p) q m1;have m4:=vl (x.cQ p) q m2;have N3:=Pw hP H1 nl ((x.cQ p).cQ q) _ _ m3 m4 (by have:=f2.g;omega) (by have:=f2.u;omega) (2*(n.g.first+i)) (f2.k _ (by omega)) (.both p q) trivial;have hh:=ih (i+1) (by omega) _ (some 0) (some 0) (.inr rfl) (.inr rfl) (by have:=f3;rw[show 3*(i+1)=3*i+1+1+1 by omega];exact this) hX;refine .go 60 ?_;simp[q1,q2,hp,hq];refine .bA 60 N1 ?_;simp;refine .bA 60 N2 ?_;simp(disch:=omega);refine .bA 60 N3 ?_;simp(disch:=omega);refine .aR ?_;simp;refine .drop 12 rfl (by simp) (by simp) (H.wf nl _ _ _ 12 (by simp)) ?_;simp at hh⊢;exact hh
abbrev vB(ls:List Lt)(gl:Option Nat):Ob:=.row 3 jN (ls.map qF) gl true false
theorem aaC(n:Nat)(l:List Lt):aL n (l.map qF)=true:=by
 induction l with
 |nil=>rfl
 |cons x m ih=>simp[ih]
theorem il.zr{a0:Ob}{tl:List Ob}(H:il a0 a1 a2 a3 a4 a5 I O rL tl)(ls:List Lt)(gl:Option Nat):il a0 a1 a2 a3 a4 a5 I O (vB ls gl) tl:=
 ⟨fun n hn=>by
  have:=H.a n hn;have b:=aaC n ls;simp at this⊢
  simp[this,b],H.i,H.t⟩
set_option maxRecDepth 8000 in
theorem af1(hP:l9 Γ)(n:Md)(og:n.g.Ok)(hl:n.ah.length=n.g.next.length)(H:il (.cells (AV.cells (dz n))) a1 a2 a3 a4 a5 I O rL [])(X:Ra)(XL:List Lt){o:Out}
 (hc:∀gu gg gl,gu=none\/gu=some 0->gg=none\/gg=some 0->gl=none\/gl=some 0->aB Tryz.prog Γ (ydd (.ptr 0 0) (.ptr 1 0) (.ptr 6 0) (dN (.cells (AV.cells (dz n))) a1 a2 a3 a4 a5 I O XL.length X gu gg (vB XL gl) [])) o):
 ∀k i:Nat,i+k=n.ah.length->∀(x:Ra)(ls:List Lt)(gu gg gl:Option Nat),gu=none\/gu=some 0->gg=none\/gg=some 0->gl=none\/gl=some 0->n5 x (2*(n.g.first+n.g.ands.length)) (3*n.g.ands.length+i)->ls.length=i->(gV (n.ah.drop i) (n.g.next.drop i) (n.g.init.drop i) x).1=X->ls++(gV (n.ah.drop i) (n.g.next.drop i) (n.g.init.drop i) x).2=XL->
 aB Tryz.prog Γ (ydc (.ptr 0 0) (.ptr 1 0) (.ptr 6 0) (.list false n.kL (n.ah.map .str)) (.int .i64 n.ah.length) (.int .i64 i) (dN (.cells (AV.cells (dz n))) a1 a2 a3 a4 a5 I O ls.length x gu gg (vB ls gl) [])) o:=by
 have o1:=og.ins;have o3:=og.sum
 have hfb:n.g.first<=8001:=by unfold Gr.first;omega
 have hs:=og.same;intro k
 induction k with
 |zero=>
  intro i hi x ls gu gg gl hu hg hl hF hls hX hXL
  have q1:¬i<n.ah.length:=by omega
  rw[bT (by omega),gV]at hX hXL
  ·subst hX;rw[eR]at hXL;subst hXL;refine .ey 60 ?_;simp[q1];exact .reach (.exit rfl rfl) (hc gu gg gl hu hg hl)
  all_goals (intro s l a n v i h;cases h)
 |succ k ih=>
  intro i hi x ls gu gg gl hu hg hgl hF hls hX hXL
  have q1:i<n.ah.length:=by omega
  have q2:=bU (n.hL.of q1)
  have q3:i<n.g.next.length:=by omega
  have q4:=bU (n.g.hn.of q3)
  have q5:i<n.g.init.length:=by omega
  have q6:=bU (n.g.hi.of q5);obtain⟨b1,b2⟩:=og.next _ (bF q3);have hlits:n.g.lits=2*(n.g.first+n.g.ands.length):=rfl;obtain⟨p,hp⟩:=fP b1;rw[bZ q1,bZ q3,bZ q5,gV,hp]at hX hXL;simp only[dt]at hX hXL;have f1:=hF.cQ (a:=p) (by omega);have N1:=G' hP (H.zr ls gl) ls.length x gu gg hu hg (by have:=hF.g;omega) (by have:=hF.u;omega) p (by omega);have m1:=vl x p hu;have m2:=vl x p hg;have hh:=ih (i+1) (by omega) (x.cQ p) (ls++[⟨n.ah[i],db (x.cQ p).a8 p,n.g.init[i]⟩]) _ _ (some 0) m1 m2 (.inr rfl) f1 (by simp[hls]) hX (by rw[<-hXL];simp)
  have hle:(ls.length+1)*40<=140737488355328:=by omega
  subst hls
  rcases hgl with rfl|rfl
  all_goals
   refine .go 60 ?_;simp[q1,q2];refine .dr 60 ?_;simp[q3,q4,hp];refine .reach (by simp) N1 ?_;simp(disch:=omega) [q5,q6,hle];refine .aR ?_;simp[vB]at hh⊢;exact hh
end
def lR(m:List (Nat×Bs))(s:Bs)(a:Nat):AV:=if 2<=a/\a%2=0 then nb s 2 (.list true 1 [.str (db m a)])else(eZ a).raw m s
section
variable{a0 a1 a2 a3 a4 a5 rL:Ob}{I O:AV}{tl:List Ob}
set_option maxRecDepth 8000 in
theorem abZ(H:il a0 a1 a2 a3 a4 a5 I O rL tl)(nl:Nat)(x:Ra)(gu gg:Option Nat)(s:Bs)(a:Nat)(ha:(a:Int)<2^60):
 ∀up,AM.Reach Tryz.prog Γ (.cl Ag [.ptr 6 0,.str s,iN a] up (dN a0 a1 a2 a3 a4 a5 I O nl x gu gg rL tl)) (.back up (lR x.a8 s a) (dN a0 a1 a2 a3 a4 a5 I O nl x gu gg rL tl)):=by
 intro up;have hw:=H.wf nl x gu gg;have hB:=QI (Γ:=Γ) a;have hbit:=and_1 ha;have hlk:=u9 a x.a8
 have hbr:∀n,aK n (lR x.a8 s a)=true:=by
  intro n;unfold lR eZ
  split
  ·simp
  ·split<;>simp[By.raw]
 refine .B4 [.cells (AV.cells (lR x.a8 s a)),.row 1 aw [] none true false,.row 1 aw [] none true false,.cells (AV.cells (lR x.a8 s a)),.row 1 aw [] none true false,.row 1 aw [] none true false] hw (hbr _) ?_;refine .bJ 60 Ur ?_
 by_cases h2:a<2
 ·have hby:eZ a=.one (decide (a=1)):=by unfold eZ;rw[if_pos h2]
  have hout:lR x.a8 s a=nb s (if a=1 then 1 else 0) (.list true 0 []):=by
   unfold lR;rw[if_neg (by omega),hby];simp[By.raw]
  have hG:=fun g hg=>PS (Γ:=Γ) (decide (a=1)) (.mp 8) (h:=g) hg
  have q1:¬(1:Int)<a:=by omega
  rw[hby]at hB;rw[hout];simp;refine .eQ 60 ?_;simp;refine .quiet hB (vw _) (by simp[dV]) ?_;simp[dV];refine .sL cL (by simp) hG (by simp;exact H.od nl x gu gg _ (by intro n hn;simp at hn;simp;omega)) ?_;simp[q1];exact H.od nl x gu gg _ (by intro n hn;simp at hn;simp;omega)
 ·have hby:eZ a=.q8 a:=by unfold eZ;rw[if_neg h2]
  have hG:=fun g (hg:cL g/\g[8]? =some (.map (x.a8.map kF) true))=>MW (Γ:=Γ) a ha x.a8 (q:=8) (h:=g) hg.2 hg.1
  have q1:(1:Int)<a:=by omega
  have q2:((a:Int)%2=0)=(a%2=0):=propext (by omega);rw[hby]at hB
  by_cases h0:a%2=0
  ·have hout:lR x.a8 s a=nb s 2 (.list true 1 [.str (db x.a8 a)]):=by
    unfold lR;rw[if_pos ⟨by omega,h0⟩]
   rw[hout];unfold db at*
   cases hg:getM a x.a8 with
   |none=>
    rw[hg]at hlk;simp at hlk;simp;refine .eQ 60 ?_;simp;refine .quiet hB (vw _) (by simp[dV]) ?_;simp[dV];refine .sL (fun g=>cL g/\g[8]? =some (.map (x.a8.map kF) true)) (by simp) hG (by simp;exact H.od nl x gu gg _ (by intro n hn;simp at hn;simp;omega)) ?_;simp[q1,hbit,q2,h0,hlk,isKey,bM,cj];exact H.od nl x gu gg _ (by intro n hn;simp at hn;simp;omega)
   |some r=>
    rw[hg]at hlk;simp at hlk;simp;refine .eQ 60 ?_;simp;refine .quiet hB (vw _) (by simp[dV]) ?_;simp[dV];refine .sL (fun g=>cL g/\g[8]? =some (.map (x.a8.map kF) true)) (by simp) hG (by simp;exact H.od nl x gu gg _ (by intro n hn;simp at hn;simp;omega)) ?_;simp[q1,hbit,q2,h0,hlk,isKey,bM,cj];exact H.od nl x gu gg _ (by intro n hn;simp at hn;simp;omega)
  ·have hout:lR x.a8 s a=nb s 3 (.list true 1 [.str (db x.a8 (a^^^1))]):=by
    unfold lR;rw[if_neg (by omega),hby];rfl
   rw[hout];simp;refine .eQ 60 ?_;simp;refine .quiet hB (vw _) (by simp[dV]) ?_;simp[dV];refine .sL (fun g=>cL g/\g[8]? =some (.map (x.a8.map kF) true)) (by simp) hG (by simp;exact H.od nl x gu gg _ (by intro n hn;simp at hn;simp;omega)) ?_;simp[q1,hbit,q2,h0];exact H.od nl x gu gg _ (by intro n hn;simp at hn;simp;omega)
end
section
variable{a0 a1 a2 a3 a4 a5 rL:Ob}{I O:AV}{tl:List Ob}
theorem adL(H:il a0 a1 a2 a3 a4 a5 I O rL tl)(nl:Nat)(x:Ra)(gu gg:Option Nat)(hg:gg=none\/gg=some 0)(hl:x.af.length<2^30)(s r:Bs):∀up,AM.Reach Tryz.prog Γ (.cl rX [nb s 2 (.list true 1 [.str r]),.ptr 7 0] up (dN a0 a1 a2 a3 a4 a5 I O nl x gu gg rL tl))
 (.back up (.aE []) (dN a0 a1 a2 a3 a4 a5 I O nl ⟨x.af++[eB s 2 [r]],x.used,x.a8⟩ gu (some 0) rL tl)):=by
 intro up;have hw:=H.wf nl ⟨x.af++[eB s 2 [r]],x.used,x.a8⟩ gu (some 0)
 have hle:(x.af.length+1)*80<=140737488355328:=by omega
 refine .GF [.cells (AV.cells (nb s 2 (.list true 1 [.str r])))] (by simp) hw rfl ?_
 rcases hg with rfl|rfl<;>(
  refine .bJ 60 Kg ?_;simp;refine .eQ 60 ?_;simp(disch:=omega) [eB,hle]
  exact .refl _)
theorem adJ(H:il a0 a1 a2 a3 a4 a5 I O rL tl)(nl:Nat)(x:Ra)(gu gg:Option Nat)(hg:gg=none\/gg=some 0)(hl:x.af.length<2^30)(s:Bs)(a:Nat):∀up,AM.Reach Tryz.prog Γ (.cl rX [lR x.a8 s a,.ptr 7 0] up (dN a0 a1 a2 a3 a4 a5 I O nl x gu gg rL tl))
 (.back up (.aE []) (dN a0 a1 a2 a3 a4 a5 I O nl ⟨x.af++[mb x.a8 s a],x.used,x.a8⟩ gu (some 0) rL tl)):=by
 unfold lR mb
 by_cases h:2<=a/\a%2=0
 ·rw[if_pos h,if_pos h];exact adL H nl x gu gg hg hl s _
 ·rw[if_neg h,if_neg h];exact P5 H nl x gu gg hg hl x.a8 (eZ a) s
set_option maxRecDepth 8000 in
theorem af0(n:Md)(og:n.g.Ok)(hI:n.an.length<2^30)(hL:n.ah.length<2^30)(hlo:n.aq.length=n.g.outs.length)(H:il (.cells (AV.cells (dz n))) a1 a2 a3 a4 a5 I O rL [])(nl:Nat)(N:List (Nat×Bs))(U:List Bs)(G:List Gt){o:Out}
 (hc:∀gu gg,gu=none\/gu=some 0->gg=none\/gg=some 0->aB Tryz.prog Γ (yda (.ptr 1 0) (.ptr 6 0) (dN (.cells (AV.cells (dz n))) a1 a2 a3 a4 a5 I O nl ⟨G,U,N⟩ gu gg rL [])) o):
 ∀k i:Nat,i+k=n.aq.length->∀(gs:List Gt)(gu gg:Option Nat),gu=none\/gu=some 0->gg=none\/gg=some 0->gs.length<=40000+i->gs++jY n N (n.aq.drop i) (n.g.outs.drop i)=G->
 aB Tryz.prog Γ (ycZ (.ptr 0 0) (.ptr 1 0) (.ptr 6 0) (.list false n.kO (n.aq.map .str)) (.int .i64 n.aq.length) (.int .i64 i) (dN (.cells (AV.cells (dz n))) a1 a2 a3 a4 a5 I O nl ⟨gs,U,N⟩ gu gg rL [])) o:=by
 have o1:=og.jP;have hlt:=BY og;intro k
 induction k with
 |zero=>
  intro i hi gs gu gg hu hg hl hG
  have q1:¬i<n.aq.length:=by omega
  rw[bT (by omega),jY,eR]at hG
  ·subst hG;refine .ey 60 ?_;simp[q1];exact .reach (.exit rfl rfl) (hc gu gg hu hg)
  ·intro s l a r h;cases h
 |succ k ih=>
  intro i hi gs gu gg hu hg hl hG
  have q1:i<n.aq.length:=by omega
  have q2:=bU (n.hO.of q1)
  have q3:i<n.g.outs.length:=by omega
  have q4:=bU (n.g.ho.of q3);obtain⟨b1,b2⟩:=og.outs _ (bF q3);obtain⟨a,ha⟩:=fP b1;have hP:=F6 (Γ:=Γ) n n.aq[i] hI hL;rw[bZ q1,bZ q3,jY,ha]at hG;simp only[dt]at hG;have hR1:=abZ (Γ:=Γ) H nl ⟨gs,U,N⟩ gu gg n.aq[i] a (by omega);have hR2:=adJ (Γ:=Γ) H nl ⟨gs,U,N⟩ gu gg hg (by simp;omega) n.aq[i] a;generalize dA n n.aq[i]=pl at*;refine .go 60 ?_;simp[q1,q2];refine .call 60 (by simp) hP ?_
  by_cases hp:pl<0
  ·rw[if_pos hp]at hG;have hh:=ih (i+1) (by omega) (gs++[mb N n.aq[i] a]) gu (some 0) hu (.inr rfl) (by simp;omega) (by rw[<-hG];simp);simp[hp];refine .dr 60 ?_;simp[q3,q4,ha];refine .reach (by simp) hR1 ?_;simp;refine .reach (by simp) hR2 ?_;simp(disch:=omega);refine .aR ?_;simp at hh⊢;exact hh
  ·rw[if_neg hp]at hG;have hh:=ih (i+1) (by omega) gs gu gg hu hg (by omega) hG;simp(disch:=omega) [hp];refine .aR ?_;simp at hh⊢;exact hh
end
end Go.Proofs.YtchjijfjidlpjaaGreatDoor
namespace Go.Proofs.YtchjijfjidlpjaaGreatDoor
open Go.AM Go.Proofs
theorem GD.ins{N:List Bs}{V:List Nat}{first:Nat}{ands:List (Int×Int)}{pos t t2 d:Nat}{g:Gt}(h:GD N V first ands pos t g d t2):gD g=true/\∀s∈g.ins,∃k,k<pos/\N[k]? =some s:=by
 cases h with
 |const s b=>
  refine⟨by cases b<;>simp[sW,gD,j6],fun s hs=>?_⟩;simp[sW]at hs
 |buf s k r a h1 h2 h3=>
  refine⟨by simp[eB,gD,j6],fun s hs=>?_⟩;simp only[eB,cq]at hs;subst hs;exact⟨k,h1,h2⟩
 |not s k r a h1 h2 h3=>
  refine⟨by simp[eB,gD,j6],fun s hs=>?_⟩;simp only[eB,cq]at hs;subst hs;exact⟨k,h1,h2⟩
 |and s k1 k2 r1 r2 p q h1 h2 h3 h4 h5 h6 h7=>
  refine⟨by simp[eB,gD,j6],fun s hs=>?_⟩;simp only[eB,bo,mu,ml]at hs
  rcases hs with rfl|rfl
  ·exact⟨k1,h1,h3⟩
  ·exact⟨k2,h2,h4⟩
theorem gI.zn{n:Md}{V:List Nat}{ts:Nat->Nat}(h:gI n V ts):(aI n).ah.length=n.ah.length:=by
 have:=congrArg List.length h.G0;rwa[eb]at this
theorem gI.base{n:Md}{V:List Nat}{ts:Nat->Nat}(h:gI n V ts):(aI n).an.length+(aI n).ah.length=(n.an++n.ah).length:=by
 rw[h.zn,bq];rfl
theorem gI.xX{n:Md}{V:List Nat}{ts:Nat->Nat}(h:gI n V ts){i:Nat}(hi:i<(aI n).af.length):gD (aI n).af[i]=true/\∀s∈(aI n).af[i].ins,∃k,k<(n.an++n.ah).length+i/\(aD (aI n))[k]? =some s:=by
 obtain⟨d,_,h1⟩:=h.gd i hi;exact h1.ins
theorem w9{α:Type}{l:List α}{k:Nat}{a:α}(h:l[k]? =some a):a∈l:=iw h
theorem gI.xN{n:Md}(ok:jc n){V:List Nat}{ts:Nat->Nat}(h:gI n V ts){q:Lt}(hq:q∈(aI n).ah):q.next∈aD (aI n):=by
 obtain⟨i,hi,rfl⟩:=eM hq;obtain⟨q,h1,k,h2,_⟩:=h.next i (by rw[<-ok.lL,<-h.zn];exact hi);rw[aM hi]at h1
 cases h1
 exact w9 h2
theorem gI.GB{n:Md}(ok:jc n){V:List Nat}{ts:Nat->Nat}(h:gI n V ts){s:Bs}(hs:s∈n.aq):s∈aD (aI n):=by
 obtain⟨i,hi,rfl⟩:=eM hs;obtain⟨k,h2,_⟩:=h.outs i (by rw[<-ok.lO];exact hi) hi;exact w9 h2
theorem gI.ok{n:Md}(ok:jc n)(hs:n.g.strict=true){V:List Nat}{ts:Nat->Nat}(h:gI n V ts)(hl:fI (aI n)=false):ew (aI n):=by
 obtain⟨o,_,_⟩:=oD hs;have hl2:=hl;simp only[fI,j_,iz]at hl2;have hb:=h.base
 have hnet:∀s∈aD (aI n),fC s=true:=fun s hs=>by
  rcases h.names s hs with h1|⟨j,hj,rfl⟩
  ·exact ok.names s h1
  ·exact Lc hj
 have hI:(aI n).an=n.an:=rfl;have hO:(aI n).aq=n.aq:=rfl;refine⟨hl,fun s hs=>?_,N7 h.nd,N7 ok.IY,fun q hq=>?_,fun g hg=>?_,fun s hs=>?_⟩
 ·simp only[qh,qg,oS,aN,nD,hI,hO]at hs
  rcases hs with((hs|hs)|⟨q,hq,hs⟩)|⟨g,hg,hs⟩
  ·exact ok.names s (by simp[hs])
  ·exact ok.names s (by simp[hs])
  ·simp only[bo,mu,ml]at hs
   rcases hs with rfl|rfl
   ·refine hnet _ ?_;simp only[aD,aN];exact .inl (.inr (b_.2 ⟨q,hq,rfl⟩))
   ·exact hnet _ (h.xN ok hq)
  ·simp only[bo]at hs
   rcases hs with rfl|hs
   ·refine hnet _ ?_;simp only[aD,aN];exact .inr (b_.2 ⟨g,hg,rfl⟩)
   ·obtain⟨i,hi,rfl⟩:=eM hg;obtain⟨k,_,h2⟩:=(h.xX hi).2 s hs;exact hnet _ (w9 h2)
 ·have h1:q.init∈n.g.init:=by rw[<-h.Hb];exact b_.2 ⟨q,hq,rfl⟩
  have:=o.init _ h1;simp[lU,this]
 ·obtain⟨i,hi,rfl⟩:=eM hg;exact(h.xX hi).1
 ·simp only[eU,lZ,aN,nD,hO]at hs
  rcases hs with(hs|hs)|⟨g,hg,hs⟩
  ·exact h.GB ok hs
  ·obtain⟨q,hq,rfl⟩:=b_.1 hs;exact h.xN ok hq
  ·obtain⟨i,hi,rfl⟩:=eM hg;obtain⟨k,_,h2⟩:=(h.xX hi).2 s hs;exact w9 h2
theorem gI.sort{n:Md}{V:List Nat}{ts:Nat->Nat}(h:gI n V ts):aV (aI n)=List.range (aI n).af.length:=by
 refine X7 fun i hi x hx=>?_
 obtain⟨_,hxl⟩:=q9 hx;unfold eJ at hx;rw[aM hi,aM hxl]at hx;simp only[DE]at hx;obtain⟨k,hk,he⟩:=(h.xX hi).2 _ hx;obtain⟨h1,h2⟩:=GZ (aI n) hxl;obtain⟨hk2,he2⟩:=dd.1 he;have:=(z8 (h₀:=hk2) (h₁:=h1) h.nd).1 (he2.trans h2.symm);have hb:=h.base;omega
theorem YL{c:Ct}(ok:ew c)(h:aV c=List.range c.af.length):nw c=true:=by
 have hr:=xE ok
 have hn:mH c=[]:=by
  have h2:=aap c;rw[h,pt]at h2;rw[mH,if_pos hr,h];exact mj.1 (by omega)
 unfold nw mJ;rw[FO ok,hn];rfl
theorem Np(c:Ct):∀(l l2:List Nat)(x:Gr)(v:List Nat),l6 c (l++l2) x v=ky (l6 c l x v) fun y w=>l6 c l2 y w
 |[],l2,x,v=>rfl
 |a::l,l2,x,v=>by
  rw[ep,l6,l6]
  cases c.af[a]? with
  |none=>rfl
  |some g=>
   simp only
   cases lW x g (fy ((aD c).zip v) g.ins)with
   |mk y o=>
    cases o with
    |none=>rfl
    |some d=>simp only[ky];exact Np c l l2 y _
theorem xY{N:List Bs}{v V:List Nat}(hn:N.Nodup)(hv:v.length=N.length)(hV:V.length=N.length){pos k:Nat}{r:Bs}{a:Nat}(hp:v.take pos=V.take pos)(hk:k<pos)(h1:N[k]? =some r)(h2:V[k]? =some a):tv (N.zip v) r=a:=by
 obtain⟨hk1,rfl⟩:=dd.1 h1;rw[ri N v k hn hk1 hv]
 have h3:(v.take pos)[k]? =(V.take pos)[k]? :=by rw[hp]
 rw[mr hk,mr hk,h2,aM (by omega)]at h3;simpa using h3
theorem Mj(x:Gr)(a:Nat):mT 0 x [a]=(x,some a):=by simp[mT,mS]
theorem Y7(x:Gr)(p q:Nat):mT 0 x [p,q]=h_ x p q:=by
 simp only[mT,mS,wu]
 cases h_ x p q with
 |mk y o=>cases o<;>rfl
structure rv(n:Md)(c:Ct)(t:Nat)(x:Gr):Prop where
 grow:gb (dS c) x
 ands:x.ands=n.g.ands.take t
theorem rv.and{n:Md}{c:Ct}(hs:n.g.strict=true)(h1:(c.an.length:Int)=n.g.ins)(h2:c.ah.length=n.g.next.length){t:Nat}{x:Gr}(h:rv n c t x){p q:Nat}(hp:n.g.ands[t]? =some ((p:Int),(q:Int))):
 ∃y,h_ x p q=(y,some (2*(n.g.first+t)))/\rv n c (t+1) y:=by
 obtain⟨o,so,_⟩:=oD hs;obtain⟨ht,he⟩:=dd.1 hp;obtain⟨p',q',e,a1,a2,a3,a4⟩:=so.at_ t ht;rw[he]at e;simp only[bX,Int.natCast_inj]at e;obtain⟨rfl,rfl⟩:=e;have hnew:=Fx (first:=n.g.first) (l:=n.g.ands.take t) a1 a2 a3 (by rw[<-he];exact AS so.nd ht)
 have hf:x.first=n.g.first:=by
  rw[h.grow.first];simp only[Gr.first,dS,pv,dt];omega
 have hlen:(n.g.ands.take t).length=t:=by simp;omega
 have hsum:=o.sum
 have hins:x.ins=n.g.ins:=by rw[h.grow.ins];exact h1
 have hnx:x.next.length=n.g.next.length:=by rw[h.grow.next];simp[dS,h2]
 have hE:x.rr p q=0:=by
  unfold Gr.rr;rw[if_neg (by rw[Gr.qV h.grow.ok];decide),if_neg,if_neg]
  ·simp only[dt,hf,h.ands,hnew,hins,hnx,bq,bz,c9,hlen];omega
  ·have hl:x.lits=2*(n.g.first+t):=by unfold Gr.lits Gr.all;rw[hf,h.ands,hlen]
   simp only[fF,hl,fv,aW];omega
 refine⟨x.n_ p q,?_,?_⟩
 ·unfold h_;rw[if_pos hE];simp only[Gr.rm,hE,cG,dt,hf,h.ands,hnew,hlen]
 ·have hO:h_ x p q=(x.n_ p q,some (x.rm p q)):=by unfold h_;rw[if_pos hE]
  refine⟨h.grow.trans (uv h.grow.ok hO).1,?_⟩;simp only[Gr.n_,hE,cG,Gr.tn,dt,hf,h.ands,hnew];rw[ke ht,he]
theorem GD.lower{n:Md}{c:Ct}(hs:n.g.strict=true)(h1:(c.an.length:Int)=n.g.ins)(h2:c.ah.length=n.g.next.length){V v:List Nat}{pos t t2 d:Nat}{g:Gt}(hg:GD (aD c) V n.g.first n.g.ands pos t g d t2)(hn:(aD c).Nodup)(hv:v.length=(aD c).length)(hV:V.length=(aD c).length)(hp:v.take pos=V.take pos){x:Gr}(h:rv n c t x):
 ∃y,lW x g (fy ((aD c).zip v) g.ins)=(y,some d)/\rv n c t2 y:=by
 cases hg with
 |const s b=>
  refine⟨x,?_,h⟩
  cases b<;>simp[lW,sW,qo,g_]
 |buf s k r a k1 k2 k3=>
  refine⟨x,?_,h⟩;have e:=xY hn hv hV hp k1 k2 k3;simp[lW,eB,qo,g_,fy,e,Mj]
 |not s k r a k1 k2 k3=>
  refine⟨x,?_,h⟩;have e:=xY hn hv hV hp k1 k2 k3;simp[lW,eB,qo,g_,fy,e,Mj]
 |and s k1 k2 r1 r2 p q a1 a2 a3 a4 a5 a6 a7=>
  have e1:=xY hn hv hV hp a1 a3 a5;have e2:=xY hn hv hV hp a2 a4 a6;obtain⟨y,y1,y2⟩:=h.and hs h1 h2 a7;refine⟨y,?_,y2⟩;simp[lW,eB,qo,g_,fy,e1,e2,Y7,y1]
theorem gI.lowers{n:Md}(ok:jc n)(hs:n.g.strict=true){V:List Nat}{ts:Nat->Nat}(h:gI n V ts)(hc:cB (aI n))(okc:ew (aI n)):
 ∃y,tf (aI n)=(y,some V)/\rv n (aI n) n.g.ands.length y:=by
 have hb:=h.base;have h1:((aI n).an.length:Int)=n.g.ins:=ok.lI
 have h2:(aI n).ah.length=n.g.next.length:=by rw[h.zn];exact ok.lL
 have hN:=uI (aI n)
 have key:∀i,i<=(aI n).af.length->∃y v,l6 (aI n) (List.range i) (dS (aI n)) (oR (aD (aI n)).length)=(y,some v)/\rv n (aI n) (ts i) y/\v.length=(aD (aI n)).length/\v.take ((n.an++n.ah).length+i)=V.take ((n.an++n.ah).length+i):=by
  intro i
  induction i with
  |zero=>
   intro _;refine⟨_,_,rfl,⟨.refl (O0 hc okc),by rw[h.t0];rfl⟩,Mk _,?_⟩
   refine iy fun k=>?_
   by_cases hk:k<(n.an++n.ah).length
   ·rw[mr (by omega),mr (by omega),h.low k hk];simp[oR,gK,JJ (show k<(aD (aI n)).length by omega)]
   ·rw[fu (by simp only[eA];omega),fu (by simp only[eA];omega)]
  |succ i ih=>
   intro hi;obtain⟨y,v,e,hh,hv,hp⟩:=ih (by omega);obtain⟨d,hd,hg⟩:=h.gd i (by omega);obtain⟨z,hz,hz2⟩:=hg.lower hs h1 h2 h.nd hv h.len hp hh;refine⟨z,v.set ((n.an++n.ah).length+i) d,?_,hz2,by simpa using hv,?_⟩
   ·rw[DG,Np,e];simp only[ky];rw[MZ _ (by omega),hz,hb];rfl
   ·refine iy fun k=>?_
    by_cases hk:k<(n.an++n.ah).length+(i+1)
    ·rw[mr hk,mr hk]
     by_cases hk2:k=(n.an++n.ah).length+i
     ·subst hk2;rw[hd,eL (by omega)]
     ·rw[dK (by omega)]
      have h3:(v.take ((n.an++n.ah).length+i))[k]? =(V.take ((n.an++n.ah).length+i))[k]? :=by rw[hp]
      rwa[mr (by omega),mr (by omega)]at h3
    ·rw[fu (by simp only[eA];omega),fu (by simp only[eA];omega)]
 obtain⟨y,v,e,hh,hv,hp⟩:=key _ (aO _)
 have hvV:v=V:=by
  have h3:=h.len;rwa[cJ (by omega),cJ (by omega)]at hp
 subst hvV;rw[h.tN]at hh;refine⟨y,?_,hh⟩;unfold tf;rw[h.sort];exact e
theorem gI.ab9{n:Md}(ok:jc n)(hs:n.g.strict=true){V:List Nat}{ts:Nat->Nat}(h:gI n V ts){y:Gr}(hy:rv n (aI n) n.g.ands.length y):gT (dF (aI n) y V) n.g=true:=by
 have hb:=h.base;obtain⟨o,_,_⟩:=oD hs
 have hlk:∀{k:Nat}{r:Bs}{a:Nat},(aD (aI n))[k]? =some r->V[k]? =some a->tv ((aD (aI n)).zip V) r=a:=fun{k r a} h1 h2=>
  xY (pos:=k+1) h.nd h.len h.len rfl (by omega) h1 h2
 have e1:(dF (aI n) y V).ins=n.g.ins:=by
  show y.ins=_
  rw[hy.grow.ins];exact ok.lI
 have e2:(dF (aI n) y V).next=n.g.next:=by
  refine iy fun i=>?_
  by_cases hi:i<n.g.next.length
  ·obtain⟨q,h1,k,h2,h3⟩:=h.next i hi;have hpos:=o.next _ (bF hi);simp only[dF,fy,gK,h1,dO,hlk h2 h3,aM hi];congr 1;omega
  ·have hl:(aI n).ah.length<=i:=by rw[h.zn,ok.lL];omega
   rw[fu (l:=n.g.next) (by omega),fu]
   simp only[dF,fy,eb];exact hl
 have e3:(dF (aI n) y V).init=n.g.init:=by
  show y.init=_
  rw[hy.grow.init];exact h.Hb
 have e4:(dF (aI n) y V).ands=n.g.ands:=by
  show y.ands=_
  rw[hy.ands,wa]
 have e5:(dF (aI n) y V).outs=n.g.outs:=by
  refine iy fun i=>?_
  by_cases hi:i<n.g.outs.length
  ·have hi2:i<n.aq.length:=by rw[ok.lO];exact hi
   obtain⟨k,h2,h3⟩:=h.outs i hi hi2;have hpos:=o.outs _ (bF hi);have hO:(aI n).aq[i]? =some n.aq[i]:=aM hi2;simp only[dF,fy,gK,hO,dO,hlk h2 h3,aM hi];congr 1;omega
  ·have hl:n.aq.length<=i:=by rw[ok.lO];omega
   rw[fu (l:=n.g.outs) (by omega),fu]
   simp only[dF,fy,eb];exact hl
 simp[gT,e1,e2,e3,e4,e5]
theorem AN{s:Bs}(h:fC s=true):s.length<2^40:=by
 unfold fC at h;simp only[ay,aW]at h;have:=h.2;omega
theorem GD.small{N:List Bs}{V:List Nat}{first:Nat}{ands:List (Int×Int)}{pos t t2 d:Nat}{g:Gt}(h:GD N V first ands pos t g d t2):g.ins.length<=2/\g.rows=[]:=by
 cases h<;>simp[sW,eB]
theorem gI.b{n:Md}(ok:jc n)(hs:n.g.strict=true){V:List Nat}{ts:Nat->Nat}(h:gI n V ts):jF (aI n):=by
 obtain⟨o,_,_⟩:=oD hs;have h1:=ok.lI;have h2:=ok.lL;have h3:=ok.lO;have h4:=o.sum;have h5:=o.jP;have h6:=h.zn;have h7:=h.zp
 have hnet:∀s∈aD (aI n),s.length<2^40:=fun s hs=>by
  rcases h.names s hs with h1|⟨j,hj,rfl⟩
  ·exact AN (ok.names s h1)
  ·exact AN (Lc hj)
 have hg:∀g∈(aI n).af,g.name∈aD (aI n):=fun g hg=>by
  simp only[aD,aN];exact .inr (b_.2 ⟨g,hg,rfl⟩)
 have hI:(aI n).an=n.an:=rfl;have hO:(aI n).aq=n.aq:=rfl;refine⟨by rw[hI];omega,by rw[hO];omega,by omega,by omega,fun g hg2=>?_,fun s hs=>?_,fun s hs=>?_,fun q hq=>⟨?_,?_⟩⟩
 ·obtain⟨i,hi,rfl⟩:=eM hg2;obtain⟨d,_,h8⟩:=h.gd i hi
  have h9:=fun s hs=>(h.xX hi).2 s hs
  obtain⟨s1,s2⟩:=h8.small;refine⟨hnet _ (hg _ hg2),by omega,by rw[s2];simp,fun s hs=>?_,by rw[s2];simp⟩;obtain⟨k,_,h2⟩:=h9 s hs;exact hnet _ (w9 h2)
 ·exact AN (ok.names s (by rw[hI]at hs;simp[hs]))
 ·exact AN (ok.names s (by rw[hO]at hs;simp[hs]))
 ·refine hnet _ ?_;simp only[aD,aN];exact .inl (.inr (b_.2 ⟨q,hq,rfl⟩))
 ·exact hnet _ (h.xN ok hq)
theorem ZU{c:Ct}(h:fI c=true):eg c=(8,[]):=by unfold eg;rw[if_pos h]
theorem Ov{m:Md}(h:iY m=0):jc (bp m)/\(bp m).g.strict=true/\jF (aI (bp m))/\((fI (aI (bp m))=true/\dR m=(mi,8))\/(fI (aI (bp m))=false/\dR m=(aI (bp m),0)/\ew (aI (bp m))/\nw (aI (bp m))=true)):=by
 obtain⟨ok,hs⟩:=(Ba h).norm;obtain⟨V,ts,D⟩:=Db ok hs;refine⟨ok,hs,D.b ok hs,?_⟩;unfold dR;rw[if_pos h]
 cases hl:fI (aI (bp m))with
 |true=>
  rw[ZU hl];exact .inl ⟨rfl,rfl⟩
 |false=>
  have okc:=D.ok ok hs hl;rw[FO okc];exact .inr ⟨rfl,rfl,okc,YL okc D.sort⟩
theorem sn{m:Md}(h:(dR m).2=0):iY m=0/\jc (bp m)/\(bp m).g.strict=true/\(dR m).1=aI (bp m)/\jF (aI (bp m))/\ew (aI (bp m))/\nw (aI (bp m))=true:=by
 have h0:iY m=0:=by
  unfold dR at h
  split at h
  ·assumption
  ·exact h
 obtain⟨a,b,c,d⟩:=Ov h0
 rcases d with⟨_,e⟩|⟨_,e,f,g⟩
 ·rw[e]at h;cases h
 ·exact⟨h0,a,b,by rw[e],c,f,g⟩
theorem ZL{m:Md}(h:(dR m).2=0):∃y v,tf (aI (bp m))=(y,some v)/\PT (aI (bp m))=(Cf (aI (bp m)) y v,0,[])/\gT (dF (aI (bp m)) y v) (bp m).g=true/\Qs (Cf (aI (bp m)) y v) (bp m)=true:=by
 obtain⟨h0,ok,hs,e,hb,okc,ho⟩:=sn h;obtain⟨V,ts,D⟩:=Db ok hs;have hc:=uB hb (xE okc);obtain⟨y,hy,hh⟩:=D.lowers ok hs hc okc;have hsame:=D.ab9 ok hs hh
 have hst:(dF (aI (bp m)) y V).strict=true:=by rw[(AU hsame).2.2.2.2.1];exact hs
 refine⟨y,V,hy,?_,hsame,?_⟩
 ·unfold PT;rw[if_pos (qP ho),hy]
 ·have h1:=D8 (K0 hst) hsame;have h2:(aI (bp m)).ah.map (·.name)=(bp m).ah:=D.G0;simp only[Qs,Cf,h1,h2,rR];simp[aI]
theorem Xo{a b:Gr}(h:gT a b=true)(state ins:List Bool):a.dw state ins=b.dw state ins/\a.cK state ins=b.cK state ins/\a.eC state ins=b.eC state ins:=by
 obtain⟨e1,e2,e3,e4,e5⟩:=Fk h;have ec:=(AU h).2.1
 have ev:a.dw state ins=b.dw state ins:=by unfold Gr.dw Gr.fits;rw[ec,e1,e2]
 refine⟨ev,?_,?_⟩
 ·unfold Gr.cK Gr.jB;rw[ev,e4,e5]
 ·unfold Gr.eC Gr.jB;rw[ev,e4,e2]
theorem Yq{m:Md}(h:(dR m).2=0)(state ins:List Bool):ql (aI (bp m)) ins state=(m.g.cK state ins,m.g.eC state ins,m.g.dw state ins):=by
 obtain⟨h0,ok,hs,e,hb,okc,ho⟩:=sn h;obtain⟨y,v,h1,h2,h3,h4⟩:=ZL h;obtain⟨s0,s1,s2,s3⟩:=abx hb ho h1 state ins
 have hst:(dF (aI (bp m)) y v).strict=true:=by rw[(AU h3).2.2.2.2.1];exact hs
 obtain⟨t1,t2,t3⟩:=Xo (D8 (K0 hst) h3) state ins;obtain⟨n1,n2,n3⟩:=KI (Ba h0).g state ins;have u1:(bp m).g.dw state ins=m.g.dw state ins:=n1;have u2:(bp m).g.cK state ins=m.g.cK state ins:=n2;have u3:(bp m).g.eC state ins=m.g.eC state ins:=n3;rw[<-u1,<-u2,<-u3,<-t1,<-t2,<-t3,s1,s2,s3]
end Go.Proofs.YtchjijfjidlpjaaGreatDoor
namespace Go.Proofs.YtchjijfjidlpjaaGreatDoor
open Go.AM Go.Proofs
variable{Γ:Nat->Option AV}
def dy{α:Type}(g:Option Nat):List α->Option Nat
 |[]=>g
 |_=>some 0
theorem uX{α:Type}(g:Option Nat):dy g ([]:List α)=g:=rfl
theorem ab4{α:Type}(g:Option Nat)(a:α)(l:List α):dy g (a::l)=some 0:=rfl
theorem abL{α:Type}(l:List α):dy (some 0) l=some 0:=by cases l<;>rfl
theorem vm{α:Type}{g:Option Nat}(h:g=none\/g=some 0)(l:List α):dy g l=none\/dy g l=some 0:=by
 cases l
 ·exact h
 ·exact .inr rfl
section
variable{a0 a1 a2 a3 a4 a5 rL:Ob}{I O:AV}{tl:List Ob}
set_option maxRecDepth 8000 in
theorem QL(l:List Bs){fl:Bool}{kd:Nat}(hk:Kd 1 kd l)(hl:l.length<2^30)(x1 x46 x47 x48:AV)(e:Cx)(nl:Nat)(gg:Option Nat)(U:List Bs)(N2:List (Nat×Bs)){c:AM.ar}:
 ∀k i:Nat,i+k=l.length->∀(u:List Bs)(N:List (Nat×Bs))(gu:Option Nat),gu=none\/gu=some 0->u.length<2^31+i->(∀b,2*u.length<b->getM b N=none)->u++l.drop i=U->N++gX u.length (l.drop i)=N2->
 AM.Reach Tryz.prog Γ (ygz x1 (.ptr 7 0) x46 x47 x48 (dN a0 a1 a2 a3 a4 a5 I O nl ⟨[],U,N2⟩ (dy gu (l.drop i)) gg rL tl) e) c->
 AM.Reach Tryz.prog Γ (ygy x1 (.ptr 7 0) x46 x47 x48 (.list fl kd (l.map .str)) (.int .i64 l.length) (.int .i64 i) (dN a0 a1 a2 a3 a4 a5 I O nl ⟨[],u,N⟩ gu gg rL tl) e) c:=by
 intro k
 induction k with
 |zero=>
  intro i hi u N gu hu hul hN hU hN2 hc
  have q1:¬i<l.length:=by omega
  rw[bT (by omega),eR]at hU;rw[bT (by omega),gX,eR]at hN2;rw[bT (by omega),uX]at hc;subst hU;subst hN2;refine .ey 60 ?_;simp[q1];exact .trans (.exit rfl rfl) hc
 |succ k ih=>
  intro i hi u N gu hu hul hN hU hN2 hc
  have q1:i<l.length:=by omega
  have q2:=bU (hk.of q1);rw[bZ q1]at hU hN2 hc;rw[gX]at hN2;rw[ab4,<-abL (l.drop (i+1))]at hc;have hput:=PQ (a:=2*(u.length+1)) l[i] (hN _ (by omega));have hh:=ih (i+1) (by omega) (u++[l[i]]) (N++[(2*(u.length+1),l[i])]) (some 0) (.inr rfl) (by simp;omega) (fun b hb=>Me (hN b (by simp at hb;omega)) (by simp at hb;omega)) (by rw[<-hU];simp) (by rw[<-hN2];simp) hc
  have hle:(u.length+1)*16<=140737488355328:=by omega
  have e1:(2*((u.length:Int)+1))=((2*(u.length+1):Nat):Int):=by omega
  rw[<-e1]at hput
  rcases hu with rfl|rfl
  all_goals
   refine .ey 60 ?_;simp[q1,q2];refine .Jo 60 ?_;simp(disch:=omega) [hle,hput,isKey,bM,cj];refine .aR ?_;simp[dN]at hh⊢;exact hh
theorem M1:∀(l l2:List Bs)(k:Nat),gX k (l++l2)=gX k l++gX (k+l.length) l2
 |[],l2,k=>by simp[gX]
 |s::l,l2,k=>by
  rw[ep,gX,gX,M1 l l2 (k+1),ep,bz,show k+1+l.length=k+(l.length+1) by omega]
theorem EB:∀(l:List Bs)(k b:Nat),2*(k+l.length)<b->getM b (gX k l)=none
 |[],k,b,h=>rfl
 |s::l,k,b,h=>by
  simp only[bz]at h;rw[gX,getM,if_neg (by omega)];exact EB l (k+1) b (by omega)
abbrev vR:Ob:=.cells [.sl 2 0 0,.sl 3 0 0,.sl 4 0 0,.sl 5 0 0]
abbrev np:Ob:=.row 1 aw [] none true false
abbrev vU:Ob:=.row 3 jN [] none true false
abbrev vH:Ob:=.row 5 lD [] none true false
set_option maxRecDepth 8000 in
theorem aaN(n:Md)(hI:n.an.length<2^20)(hL:n.ah.length<2^20)(hO:n.aq.length<2^20):∀up,AM.Reach Tryz.prog Γ (.cl rY [dz n] up [.cells (AV.cells (dz n)),vR,np,np,vU,vH])
 (.back up (.ptr 6 0) (dN (.cells (AV.cells (dz n))) vR np np vU vH (.list false 1 (n.an.map .str)) (.list false 1 (n.aq.map .str)) 0 (jC n) (dy (dy (dy none n.an) n.ah) n.aq) none (.row 3 jN [] none true false)
  [.row 1 aw (n.an.map .str) (dy none n.an) true true,.row 1 aw (n.aq.map .str) (dy none n.aq) true true,.cells (AV.cells (dz n))])):=by
 intro up;have hkI:(n.kI=1\/n.an=[])=True:=bU n.hI;have hkO:(n.kO=1\/n.aq=[])=True:=bU n.hO;refine .bJ 60 VV ?_;simp;refine .trans (.oJ (i:=8) (j:=4) (k:=1) aw rfl rfl (by omega)) ?_;simp;refine .trans (.oJ (i:=8) (j:=3) (k:=5) lD rfl rfl (by omega)) ?_;simp;refine .trans (.oJ (i:=8) (j:=2) (k:=3) jN rfl rfl (by omega)) ?_;simp;refine .trans (.oJ (i:=8) (j:=0) (k:=1) aw rfl rfl (by omega)) ?_;simp;refine .trans (.oJ (i:=8) (j:=1) (k:=1) aw rfl rfl (by omega)) ?_;simp;refine .l0 6 [2,3,1,4,5,6,7,8,0] (by simp) (by decide) ?_;simp;refine .trans (.PV [9]) ?_;simp[share,fR];have e1:(n.an.length*16<=140737488355328)=True:=bU (by omega);have e2:(n.aq.length*16<=140737488355328)=True:=bU (by omega)
 have k1:¬n.an=[]->n.kI=1:=fun h=>n.hI.resolve_right h
 have k2:¬n.aq=[]->n.kO=1:=fun h=>n.hO.resolve_right h
 have hL2:∀oI oO:Ob,AM.Reach Tryz.prog Γ (ygB (.ptr 14 0) (.ptr 7 0) (.list true 1 [.list false n.kI (n.an.map .str),.list false n.kL (n.ah.map .str)]) (.int .i64 2) (.int .i64 0)
  (dN (.cells (AV.cells (dz n))) vR np np vU vH (.list false 1 (n.an.map .str)) (.list false 1 (n.aq.map .str)) 0 ⟨[],[],[]⟩ none none (.row 3 jN [] none true false) [oI,oO,.cells (AV.cells (dz n))]) ⟨[],.norm,6,up⟩)
  (.back up (.ptr 6 0) (dN (.cells (AV.cells (dz n))) vR np np vU vH (.list false 1 (n.an.map .str)) (.list false 1 (n.aq.map .str)) 0 (jC n) (dy (dy (dy none n.an) n.ah) n.aq) none (.row 3 jN [] none true false) [oI,oO,.cells (AV.cells (dz n))])):=by
  intro oI oO;refine .bw 60 ?_;simp;refine .inLoop ?_;simp;refine QL (fl:=false) n.an n.hI (by omega) _ _ _ _ ⟨[],.norm,6,up⟩ 0 none n.an (gX 0 n.an) n.an.length 0 (by omega) [] [] none (.inl rfl) (by simp) (by simp[getM]) (by simp) (by simp) ?_;refine .bw 60 ?_;simp;refine .aR ?_;simp;refine .bw 60 ?_;simp;refine .inLoop ?_;simp;refine QL (fl:=false) n.ah n.hL (by omega) _ _ _ _ ⟨[],.norm,6,up⟩ 0 none (n.an++n.ah) (gX 0 (n.an++n.ah)) n.ah.length 0 (by omega) n.an (gX 0 n.an) (dy none n.an) (vm (.inl rfl) _) (by omega) (fun b hb=>EB _ _ _ (by omega)) (by simp) (by rw[M1];simp) ?_;refine .bw 60 ?_;simp;refine .aR ?_;simp;have hg:=vm (vm (.inl rfl:(none:Option Nat)=none\/(none:Option Nat)=some 0) n.an) n.ah;generalize dy (dy none n.an) n.ah=gu at hg⊢
  have e3:((n.an.length+n.ah.length+n.aq.length)*16<=140737488355328)=True:=bU (by omega);have e4:((n.an.length+n.ah.length)*16<=140737488355328)=True:=bU (by omega)
  by_cases hO0:n.aq=[]
  ·rcases hg with rfl|rfl<;>(
    refine .bw 60 ?_;simp;refine .eQ 60 ?_
    simp[hO0,e4,hkO,uX,jC,dN]<;>exact .refl _)
  ·have m2:∀g,dy g n.aq=some 0:=by intro g;cases h:n.aq<;>simp_all [dy]
   rcases hg with rfl|rfl<;>(
    refine .bw 60 ?_;simp;refine .eQ 60 ?_
    simp[hO0,e3,bU (k2 hO0),m2,jC,dN]<;>(simp only[kJ];exact .refl _))
 by_cases hI0:n.an=[]
 ·by_cases hO0:n.aq=[]
  ·have m1:dy none n.an=none:=by rw[hI0];rfl
   have m2:dy none n.aq=none:=by rw[hO0];rfl
   refine .eQ 60 ?_;simp[hkI,hkO,e1,e2,hI0,hO0];refine .trans (.mM (i:=6) 0 rfl) ?_;simp[fR,share];refine .trans (.mM (i:=6) 1 rfl) ?_;simp[fR,share];refine .inLoop ?_;simp;have hh:=hL2 (.row 1 aw (n.an.map .str) none true true) (.row 1 aw (n.aq.map .str) none true true);simp[hI0,hO0,m1,m2,uX]at hh⊢;exact hh
  ·have m1:dy none n.an=none:=by rw[hI0];rfl
   have m2:dy none n.aq=some 0:=by cases h:n.aq<;>simp_all [dy]
   refine .eQ 60 ?_;simp[hkI,hkO,e1,e2,hI0,hO0,bU (k2 hO0)];refine .trans (.mM (i:=6) 0 rfl) ?_;simp[fR,share];refine .trans (.mM (i:=6) 1 rfl) ?_;simp[fR,share];refine .inLoop ?_;simp;have hh:=hL2 (.row 1 aw (n.an.map .str) none true true) (.row 1 aw (n.aq.map .str) (some 0) true true);simp[hI0,hO0,m1,m2,uX]at hh⊢;exact hh
 ·by_cases hO0:n.aq=[]
  ·have m1:dy none n.an=some 0:=by cases h:n.an<;>simp_all [dy]
   have m2:dy none n.aq=none:=by rw[hO0];rfl
   refine .eQ 60 ?_;simp[hkI,hkO,e1,e2,hI0,hO0,bU (k1 hI0)];refine .trans (.mM (i:=6) 0 rfl) ?_;simp[fR,share];refine .trans (.mM (i:=6) 1 rfl) ?_;simp[fR,share];refine .inLoop ?_;simp;have hh:=hL2 (.row 1 aw (n.an.map .str) (some 0) true true) (.row 1 aw (n.aq.map .str) none true true);simp[hI0,hO0,m1,m2,uX]at hh⊢;exact hh
  ·have m1:dy none n.an=some 0:=by cases h:n.an<;>simp_all [dy]
   have m2:dy none n.aq=some 0:=by cases h:n.aq<;>simp_all [dy]
   refine .eQ 60 ?_;simp[hkI,hkO,e1,e2,hI0,hO0,bU (k1 hI0),bU (k2 hO0)];refine .trans (.mM (i:=6) 0 rfl) ?_;simp[fR,share];refine .trans (.mM (i:=6) 1 rfl) ?_;simp[fR,share];refine .inLoop ?_;simp;have hh:=hL2 (.row 1 aw (n.an.map .str) (some 0) true true) (.row 1 aw (n.aq.map .str) (some 0) true true);simp[hI0,hO0,m1,m2,uX]at hh⊢;exact hh
end
theorem Zv{n:Md}(og:n.g.Ok):∀k i:Nat,i+k=n.g.ands.length->∀x:Ra,n5 x (2*(n.g.first+i)) (3*i)->n5 (mN n.g.first (n.g.ands.drop i) i x) (2*(n.g.first+n.g.ands.length)) (3*n.g.ands.length):=by
 intro k
 induction k with
 |zero=>
  intro i hi x h
  obtain rfl:i=n.g.ands.length:=by omega
  rw[v_,mN];exact h
 |succ k ih=>
  intro i hi x h
  have q1:i<n.g.ands.length:=by omega
  obtain⟨⟨b1,b2⟩,b3,b4⟩:=og.ands i q1;rw[bZ q1,mN];have f1:=h.cQ (a:=n.g.ands[i].1.toNat) (by omega);have f2:=f1.cQ (a:=n.g.ands[i].2.toNat) (by omega);have f3:=f2.make (a:=2*(n.g.first+i)) (.both n.g.ands[i].1.toNat n.g.ands[i].2.toNat) (B':=2*(n.g.first+(i+1))) (by omega) (by omega);exact ih (i+1) (by omega) _ (by rw[show 3*(i+1)=3*i+1+1+1 by omega];exact f3)
set_option maxRecDepth 8000 in
theorem adK(hΓ:eG Γ)(hP:l9 Γ)(n:Md)(ok:jc n)(hs:n.g.strict=true)(hCB:jF (aI n))(gu:Option Nat)(hu:gu=none\/gu=some 0):
 aB Tryz.prog Γ (Rg (.ptr 0 0) (.ptr 1 0) (.ptr 6 0) (iN n.g.first) (.list false n.g.ka (n.g.ands.map dI)) (.int .i64 n.g.ands.length) (.int .i64 0) (dN (.cells (AV.cells (dz n))) vR np np vU vH (.list false 1 (n.an.map .str)) (.list false 1 (n.aq.map .str)) 0 (jC n) gu none (vB [] none) []))
  (.ret (.aE [bW (if(eg (aI n)).1=0 then aI n else mi),.int .i64 (if(eg (aI n)).1=0 then 0 else 8)])):=by
 obtain⟨o,_,_⟩:=oD hs;obtain⟨V,ts,D⟩:=Db ok hs;have h1:=ok.lI;have h2:=ok.lL;have h3:=ok.lO;have h4:=o.sum;have h5:=o.jP
 have hfi:=ok.first
 have hC:=FW hΓ (aI n) hCB
 have H:il (.cells (AV.cells (dz n))) vR np np vU vH (.list false 1 (n.an.map .str)) (.list false 1 (n.aq.map .str)) (vB [] none) []:=
  ⟨fun k hk=>by simp;omega,fun k hk=>by simp,fun k hk=>rfl⟩
 have F0:n5 (jC n) (2*(n.g.first+0)) (3*0):=by
  refine⟨by simp[jC],by simp[jC];omega,fun b hb=>?_⟩;simp only[jC];refine EB _ _ _ ?_;simp only[bq]at hfi⊢;omega
 have F1:=Zv o n.g.ands.length 0 (by omega) (jC n) F0;rw[fe]at F1
 have hgl:(dn n).1.af.length<=40000:=by
  have h6:=D.zp;have h7:(aI n).af.length=(dn n).1.af.length+(jY n (dn n).1.a8 n.aq n.g.outs).length:=bq;omega
 refine af8 hP n o H 0 (rK n) (fun gu gg hu hg=>?_) n.g.ands.length 0 (by omega) (jC n) gu none hu (.inl rfl) F0 (by rw[fe];rfl);refine .go 60 ?_;simp;refine .inLoop ?_;simp;refine af1 hP n o h2 H (dn n).1 (dn n).2 (fun gu gg gl hu hg hl=>?_) n.ah.length 0 (by omega) (rK n) [] gu gg none hu hg (.inl rfl) F1 rfl (by simp[dn]) (by simp[dn]);refine .go 60 ?_;simp;refine .inLoop ?_;simp;refine af0 n o (by omega) (by omega) h3 (H.zr (dn n).2 gl) (dn n).2.length (dn n).1.a8 (dn n).1.used (aI n).af (fun gu gg hu hg=>?_) n.aq.length 0 (by omega) (dn n).1.af gu gg hu hg (by omega) (by rw[fe,fe];rfl);have e1:(aI n).an=n.an:=rfl;have e2:(aI n).aq=n.aq:=rfl;have e3:(aI n).ah=(dn n).2:=rfl;have e4:(aI n).kI=1/\(aI n).kO=1/\(aI n).kL=3/\(aI n).kG=5:=⟨rfl,rfl,rfl,rfl⟩
 rcases hg with rfl|rfl<;>rcases hl with rfl|rfl
 all_goals
  refine .go 60 ?_;simp;refine .call 60 (by simp[e1,e2,e3,e4]) hC ?_
  by_cases hc0:(eg (aI n)).1=0
  ·simp[hc0];exact .back (by simp[e1,e2,e3,e4])
  ·simp[hc0];exact .back (by simp[mi])
set_option maxRecDepth 8000 in
theorem xQ(hΓ:eG Γ)(hP:l9 Γ)(m:Md)(hb:nq m):aP Tryz.prog Γ kN [dz m] (.aE [bW (dR m).1,.int .i64 (dR m).2]):=by
 have hN:=Fa (Γ:=Γ) m hb;refine .run 60 VK (by simp) ?_;unfold dR
 by_cases h0:iY m=0
 ·have hn:n4 m=(bp m,0):=by unfold n4;rw[if_pos h0]
  rw[hn]at hN;rw[if_pos h0];simp;refine .call 60 (by simp) hN ?_;simp;obtain⟨ok,hs2,hCB,_⟩:=Ov h0;obtain⟨o,_,_⟩:=oD hs2;have h1:=ok.lI;have h2:=ok.lL;have h3:=ok.lO;have h4:=o.sum;have h5:=o.jP;have hB:=aaN (Γ:=Γ) (bp m) (by omega) (by omega) (by omega);have hu:=vm (vm (vm (.inl rfl:(none:Option Nat)=none\/(none:Option Nat)=some 0) (bp m).an) (bp m).ah) (bp m).aq;have key:=adK hΓ hP (bp m) ok hs2 hCB _ hu;generalize dy (dy (dy none (bp m).an) (bp m).ah) (bp m).aq=gu at hu hB key
  have ef:1+(bp m).g.ins+(bp m).g.next.length=((bp m).g.first:Int):=by unfold Gr.first;omega
  have hbl:=Py 12 (gX 0 ((bp m).an++(bp m).ah));refine .bA 60 hB ?_;simp(disch:=omega) [ef];refine .inLoop ?_;simp;refine .drop 12 rfl (by simp) (by simp) (by simp[jC,hbl]) ?_
  have e5:(if(eg (aI (bp m))).1=0 then(aI (bp m),(0:Int))else(mi,8)).1=if(eg (aI (bp m))).1=0 then aI (bp m)else mi:=by split<;>rfl
  have e6:(if(eg (aI (bp m))).1=0 then(aI (bp m),(0:Int))else(mi,8)).2=if(eg (aI (bp m))).1=0 then 0 else 8:=by split<;>rfl
  rw[e5,e6];simp at key⊢;exact key
 ·have hn:n4 m=(vN,iY m):=by unfold n4;rw[if_neg h0]
  rw[hn]at hN;rw[if_neg h0];simp;refine .call 60 (by simp) hN ?_;simp[h0,vN,tp];exact .back (by simp[mi])
end Go.Proofs.YtchjijfjidlpjaaGreatDoor
namespace Go.Proofs.YtchjijfjidlpjaaGreatDoor
open Go.AM Go.Proofs Go.ChangeShapes Go.WideShapes Go.ChangeAt Go.RowKit
theorem own:ownKnob Tryz.prog.godebug=none:=by kernel_rfl
theorem laid:laidOutB Tryz.prog=true:=by kernel_rfl
theorem G5:mapsRowed Tryz.prog=true:=by kernel_rfl
def Hs:List (Lit×DataW Unit):=match(Rows.laid_patchbay_net_ins:DataW Unit)with
 |.map D=>D
 |_=>[]
theorem acn:(Rows.laid_patchbay_net_ins:DataW Unit)=.map Hs:=by kernel_rfl
def zq:List (AV×AV):=[(.int .i64 0,p2 0 0),(.int .i64 1,p2 0 0),(.int .i64 2,p2 1 1),(.int .i64 3,p2 1 1),(.int .i64 4,p2 2 8),(.int .i64 5,p2 2 8),(.int .i64 6,p2 2 8),(.int .i64 7,p2 2 8),(.int .i64 8,p2 2 8),(.int .i64 9,p2 2 8),(.int .i64 10,p2 0 8)]
theorem acB:(Hs.map fun d=>(oN d.1,oW d.2))=zq:=by kernel_rfl
theorem afM:Tryz.prog.globalNamed "patchbay/net.ins" =some 1:=by kernel_rfl
theorem af3:(Tryz.prog.globals[1]?).map (·.type)=some 219:=by kernel_rfl
theorem afP:Tryz.prog.underlying 219=some (.map 63 62):=by kernel_rfl
theorem u37:Tryz.prog.underlying 63=some (.int .i64):=by kernel_rfl
theorem u74:Tryz.prog.underlying 62=some (.array 2 3):=by kernel_rfl
theorem u3:Tryz.prog.underlying 3=some (.int .i64):=by kernel_rfl
theorem u4:Tryz.prog.underlying 4=some .bool:=by kernel_rfl
theorem afU:(Tryz.prog.globals[4]?).map (·.type)=some 284:=by kernel_rfl
theorem afR:Tryz.prog.underlying 284=some (.array 20 272):=by kernel_rfl
theorem afV:Tryz.prog.underlying 272=some (.int .u64):=by kernel_rfl
theorem adh:(Rows.laid_internal_strconv_uint64pow10:DataW Unit)=Lib.tabData .u64 Lib.pow10Tab:=by kernel_rfl
abbrev aeE:Nat:=2
theorem Ps(g:G)(h:List Ob):∀zs:List Int,VL g h (zs.map fun z=>AV.int .u64 z) (zs.map fun z=>Value.int .u64 z)
 |[]=>by simp[VL]
 |z::zs=>by
  simp only[bL,VL];exact⟨_,_,rfl,by simp[V],Ps g h zs⟩
theorem Ot(n:Nat):∀zs:List Int,aL n (zs.map fun z=>AV.int .u64 z)=true
 |[]=>rfl
 |z::zs=>by simp[Ot n zs]
theorem acD{zs ws:List Int}(h:(AV.agg (zs.map fun z=>AV.int .u64 z))=.agg (ws.map fun z=>AV.int .u64 z)):zs=ws:=by
 simp only[AV.agg.injEq]at h;exact(List.map_inj_right (fun x y e=>by simpa using e)).1 h
theorem aaD{W:World}{l:List (String×DataW Unit)}(h:laidMetH Tryz.prog l W)(hn:(l.all fun x=>x.2.handleName?.isNone)=true)(hm:("internal/strconv.uint64pow10",(Lib.tabData .u64 Lib.pow10Tab:DataW Unit))∈l):
 ∃t q,W.heap[4]? =some (Obj.cells (Lib.pow10Tab.map fun z=>Value.int .u64 z).toArray t q):=by
 rw[MakeChecks.laidMetH_plain _ _ _ hn]at h;obtain⟨ps,hL,_⟩:=h;obtain⟨g,t,cs,fuel,p,h1,h2,h3,h4⟩:=F8 hL _ _ hm;obtain rfl:=Option.some.inj (Gz.symm.trans h1);obtain rfl:=Option.some.inj (afU.symm.trans h2);have e:=Lib.cells_of_tab afR afV (by kernel_rfl) (by kernel_rfl) h4;unfold World.var? at h3;rw[Gz]at h3;simp only[j9]at h3
 split at h3
 ·rename_i cs' t' q' hh
  cases h3
  refine⟨t',q',?_⟩;rw[hh,<-e]
 ·cases h3
theorem F5{W:World}(h:laidMetH Tryz.prog Rows.raiseMeansRow.laid W):∃Γ:Nat->Option AV,(eG Γ/\l9 Γ)/\(∀n a,Γ n=some a->aL 0 a.cells=true/\∃vs,VL (gw W) [] a.cells vs/\∀j(hj:j<vs.length),W.cell? ⟨n,j,none⟩=some vs[j])/\
 ∀N:Env,N.K=(fun b=>W.heap[b]?)->Hn Γ N:=by
 obtain⟨ks,us,h1,h2,z,hz,hm⟩:=aa8 (K7 h) (by kernel_rfl) (name:= "patchbay/net.ins") (D:=Hs) (by
  rw[<-acn]
  refine du.2 ⟨dP _ (dP _ (dP _ (dP _ (ov ..)))),by kernel_rfl⟩) afM af3 afP
  (fun v q hq=>by obtain⟨a,b,_⟩:=adO u37 (g:=gw W) (h:=[]) hq;exact⟨a,b⟩) (fun n v x hf ht=>abM u74 u3 (by kernel_rfl) (by kernel_rfl) hf ht)
 obtain⟨tt,tq,hpow⟩:=aaD (K7 h) (by kernel_rfl) (by
  rw[<-adh]
  refine du.2 ⟨dP _ (dP _ (ov ..)),by kernel_rfl⟩)
 have hcase:∀n m:Int,(cw (.sc .int) (.int .i64 n) (.int .i64 m)=some true/\AV.int .i64 n=.int .i64 m)\/(cw (.sc .int) (.int .i64 n) (.int .i64 m)=some false/\AV.int .i64 n≠.int .i64 m):=by
  intro n m
  by_cases hnm:n=m
  ·exact .inl ⟨by simp[cw,fg,hnm],by rw[hnm]⟩
  ·exact .inr ⟨by simp[cw,fg,hnm],by simp[hnm]⟩
 refine⟨fun n=>if n=1 then some (.dH ks us)else if n=4 then some (.agg (Lib.pow10Tab.map fun z=>AV.int .u64 z))else none,⟨⟨ks,us,rfl,fun n=>?_⟩,rfl⟩,fun n a hn=>?_,fun N hN n zs hzs hn=>?_⟩
 ·rw[hz];rw[acB]at hm
  obtain⟨r,e1,e2,e3⟩:=KW (.sc .int) (.int .i64 n) z (by
   intro y hy;have hy2:=(hm y).1 hy;simp only[zq,bo,mu,ml]at hy2
   rcases hy2 with rfl|rfl|rfl|rfl|rfl|rfl|rfl|rfl|rfl|rfl|rfl<;>exact hcase _ _)
  rw[e1];unfold Hq
  cases r with
  |some v=>
   have hv:=(hm _).1 (e3 v rfl);simp only[zq,bo,mu,ml,bX,AV.int.injEq,true_and]at hv
   rcases hv with⟨rfl,rfl⟩|⟨rfl,rfl⟩|⟨rfl,rfl⟩|⟨rfl,rfl⟩|⟨rfl,rfl⟩|⟨rfl,rfl⟩|⟨rfl,rfl⟩|⟨rfl,rfl⟩|⟨rfl,rfl⟩|⟨rfl,rfl⟩|⟨rfl,rfl⟩<;>rfl
  |none=>
   have hno:∀y∈zq,¬(AV.int .i64 n=y.1):=fun y hy=>e2 rfl y ((hm y).2 hy)
   simp only[zq,bo,mu,ml,JO,forall_eq,AV.int.injEq,true_and]at hno;rw[if_neg (by omega),if_neg (by omega),if_neg (by omega),if_neg (by omega)]
 ·simp only at hn
  split at hn
  ·rename_i h0
   cases hn
   subst h0;exact⟨h1,h2⟩
  ·split at hn
   ·rename_i h0
    cases hn
    subst h0;refine⟨Ot 0 _,_,Ps _ _ _,fun j hj=>?_⟩
    have hj2:j<Lib.pow10Tab.length:=by simpa using hj
    have hc:W.cell? ⟨4,j,none⟩=((Lib.pow10Tab.map fun z=>Value.int .u64 z).toArray)[j]? :=by simp[World.cell?,hpow]
    rw[hc];simp[hj2]
   ·cases hn
 ·simp only at hn
  split at hn
  ·cases hn
  ·split at hn
   ·rename_i h0;simp only[aj]at hn;obtain rfl:=acD hn;subst h0;rw[hN];exact⟨tt,tq,hpow⟩
   ·cases hn
noncomputable def sH(os:Os):World:=
 {World.doorLaid Tryz.prog 4000 os with heap:=((World.doorLaid Tryz.prog 4000 os).heap.toList.zipIdx.map fun x=>if x.2=aeE then(match x.1 with
  |.cells _ t q=>.cells (Go.Pinned.utf8FirstZ.map fun n:Nat=>Value.int .u8 (n:Int)).toArray t q
  |o=>o)else x.1).toArray}
theorem F7(os:Os)(args:Array Value):laidMetH Tryz.prog Rows.raiseMeansRow.laid ((sH os).forCall (fun _ _=>0) ⟨#[],args,[]⟩).memory:=
 laidMetH_of_parts3 (fuel:=8) (laidMet_of_run' 8 (by kernel_rfl) (by kernel_rfl)) (by kernel_rfl) (by kernel_rfl)
abbrev zL:Sh:=.int .i64
abbrev CJ:Sh:=.list 1 false .str
abbrev Ht:Sh:=.list 1 false .bool
theorem afl{B:Nat}{cs:List AV}(h:eP B zL cs):∃n:Int,cs=[.int .i64 n]:=by
 simp only[eP]at h;obtain⟨n,rfl,h1,h2⟩:=h;exact⟨n,rfl⟩
theorem FX{B:Nat}{cs:List AV}(h:eP B CJ cs):∃l:List (List UInt8),cs=[.list false 1 (l.map .str)]/\l.length<=B/\∀s∈l,s.length<=B:=by
 simp only[eP]at h;obtain⟨xs,rfl,h0,h1⟩:=h
 obtain⟨l,hl,hn⟩:=xR (f:=kD false) (e:=fun s:{s:List UInt8//s.length<=B}=>AV.str s.val) (fun x hx=>by
  obtain⟨⟨n,rfl,hb⟩,_⟩:=h1 x hx
  exact⟨⟨n,hb⟩,rfl⟩)
 refine⟨l.map (·.val),by rw[hl,jH];rfl,by rw[eb];omega,fun s hs=>?_⟩;obtain⟨x,_,rfl⟩:=b_.1 hs;exact x.property
abbrev CN:Sh:=.list 1 false zL
abbrev QC:Sh:=.list 2 true (.parts [zL,zL])
abbrev afO:Sh:=.parts [zL,CN,CN,QC,CN]
abbrev CH:Sh:=.parts [afO,CJ,CJ,CJ]
theorem FI{B:Nat}{cs:List AV}(h:eP B CN cs):∃l:List Int,cs=[.list false 1 (l.map i64)]/\l.length<=B:=by
 simp only[eP]at h;obtain⟨xs,rfl,h0,h1⟩:=h
 obtain⟨l,hl,hn⟩:=xR (f:=kD false) (e:=i64) (fun x hx=>by
  obtain⟨⟨n,rfl,_⟩,_⟩:=h1 x hx
  exact⟨n,rfl⟩)
 exact⟨l,by rw[hl],by omega⟩
theorem Zo{B:Nat}{cs:List AV}(h:eP B QC cs):∃l:List (Int×Int),cs=[.list false 2 (l.map dI)]/\l.length<=B:=by
 rw[eP]at h;obtain⟨xs,rfl,h0,h1⟩:=h
 obtain⟨l,hl,hn⟩:=xR (f:=kD true) (e:=dI) (fun x hx=>by
  have h2:=(h1 x hx).1;simp only[eP,rl]at h2;obtain⟨_,_,rfl,⟨n,rfl,_⟩,_,_,rfl,⟨m,rfl,_⟩,rfl⟩:=h2
  exact⟨⟨n,m⟩,rfl⟩)
 exact⟨l,by rw[hl],by omega⟩
theorem GR{B:Nat}{cs:List AV}(h:eP B CH cs):∃m:Md,AV.agg cs=dz m/\(B<2^30->nq m):=by
 rw[eP]at h;simp only[rl]at h;obtain⟨_,_,rfl,hg,_,_,rfl,h1,_,_,rfl,h2,_,_,rfl,h3,rfl⟩:=h;rw[eP]at hg;simp only[rl]at hg;obtain⟨_,_,rfl,g1,_,_,rfl,g2,_,_,rfl,g3,_,_,rfl,g4,_,_,rfl,g5,rfl⟩:=hg;obtain⟨n,rfl⟩:=afl g1;obtain⟨a,rfl,la⟩:=FI g2;obtain⟨b,rfl,lb⟩:=FI g3;obtain⟨c,rfl,lc⟩:=Zo g4;obtain⟨d,rfl,ld⟩:=FI g5;obtain⟨i,rfl,li,_⟩:=FX h1;obtain⟨l,rfl,ll,_⟩:=FX h2;obtain⟨o,rfl,lo,_⟩:=FX h3;exact⟨⟨⟨n,a,b,c,d,1,1,2,1,.self,.self,.self,.self⟩,i,l,o,1,1,1,.self,.self,.self⟩,rfl,fun hB=>⟨⟨by simp only;omega,by simp only;omega,by simp only;omega,by simp only;omega⟩,by simp only;omega,by simp only;omega,by simp only;omega⟩⟩
theorem aaw{H:Type}(d:DataW H):1<=Rows.uptoBulk d:=by
 cases d with
 |lit l=>cases l<;>simp[Rows.uptoBulk]
 |_=>simp[Rows.uptoBulk]
theorem Nx{H:Type}:∀ds:List (DataW H),ds.length<=Rows.uptoBulkAll ds
 |[]=>by simp
 |d::ds=>by have:=Nx ds;have:=aaw d;simp only[bz,Rows.uptoBulkAll];omega
theorem BH{H:Type}:∀{ds:List (DataW H)}{d:DataW H},d∈ds->Rows.uptoBulk d<=Rows.uptoBulkAll ds
 |e::ds,d,h=>by
  simp only[Rows.uptoBulkAll]
  rcases bo.1 h with rfl|h
  ·omega
  ·have:=BH h;omega
def Small{H:Type}(d:DataW H):Prop:=Rows.uptoBulk d<=1048576
theorem He{H:Type}:Down (H:=H) 1048576 Small:=by
 refine⟨fun e r h _=>?_,fun ps h d hd=>?_,fun b h _=>?_⟩
 ·simp only[Small,Rows.uptoBulk]at h;refine⟨by have:=Nx e;omega,fun d hd=>?_⟩;have:=BH hd
  simp only[Small];omega
 ·simp only[Small,Rows.uptoBulk]at h⊢;have:=BH hd;omega
 ·simp only[Small,Rows.uptoBulk]at h;omega
theorem Gc{H:Type}{ds gs:List (DataW H)}(hk:Rows.uptoSmall H (ds++gs)=true):∀d∈ds,Small d:=by
 intro d hd;have h:=qP hk;have:=BH (iU gs hd)
 simp only[Small];omega
theorem Lv{B:Nat}{cs:List AV}(h:eP B Ht cs):∃l:List Bool,cs=[.list false 1 (l.map .bool)]/\l.length<=B:=by
 simp only[eP]at h;obtain⟨xs,rfl,h0,h1⟩:=h
 obtain⟨l,hl,hn⟩:=xR (f:=kD false) (e:=AV.bool) (fun x hx=>by
  obtain⟨⟨n,rfl⟩,_⟩:=h1 x hx
  exact⟨n,rfl⟩)
 exact⟨l,by rw[hl],by omega⟩
end Go.Proofs.YtchjijfjidlpjaaGreatDoor
namespace Go.Proofs.YtchjijfjidlpjaaGreatDoor
open Go.AM Go.Proofs
variable{Γ:Nat->Option AV}
def zM:Gr:=⟨2,[],[],[(5,2)],[6,2],0,0,2,1,.nil,.nil,.self,.self⟩
def rH:Gr:=⟨2,[],[],[(5,2)],[6,2],1,1,2,1,.self,.self,.self,.self⟩
def qD:Md:=⟨zM,[[97],[98]],[],[[122],[97]],1,0,1,.self,.nil,.self⟩
def zz:Md:=⟨zM,[[97],[98]],[],[],1,0,0,.self,.nil,.nil⟩
def fo:Md:=⟨rH,[[97],[98]],[],[[122],[97]],1,0,1,.self,.nil,.self⟩
def zG:Ct:=⟨[[97],[98]],[[122],[97]],[],[eB [110,49] 3 [[98]],eB [110,50] 4 [[110,49],[97]],eB [122] 2 [[110,50]]],1,1,3,5,.self,.self,.self,.self⟩
theorem OE:zM.me:=by unfold Gr.me zM;decide
theorem Qu:nq qD:=⟨OE,by decide,by decide,by decide⟩
theorem afe:nq zz:=⟨OE,by decide,by decide,by decide⟩
theorem Qv:bp qD=fo:=by kernel_rfl
def afZ(i o:List Bs)(l:List Lt)(g:List Gt):Ct:=⟨i,o,l,g,1,1,3,5,.self,.self,.self,.self⟩
theorem afA:aI fo=zG:=by
 have d1:Lib.decDigits 1=[49]:=Fc (by omega);have d2:Lib.decDigits 2=[50]:=Fc (by omega)
 have f1:ff [[97],[98],[122],[97]] eW=[110,49]:=by simp[ff,oh,d1]
 have f2:ff [[97],[98],[122],[97],[110,49]] eW=[110,50]:=by simp[ff,oh,d1,d2]
 have hA:rK fo=⟨[eB [110,49] 3 [[98]],eB [110,50] 4 [[110,49],[97]]],[[97],[98],[122],[97],[110,49],[110,50]],[(2,[97]),(4,[98]),(5,[110,49]),(6,[110,50])]⟩:=by
  simp[rK,fo,rH,mN,jC,gX,Ra.cQ,Ra.make,getM,eZ,By.gate,db,f1,f2,Gr.first]
 have hL:dn fo=(rK fo,[]):=by
  unfold dn;simp[fo,rH,gV]
 have hO:jY fo (rK fo).a8 fo.aq fo.g.outs=[eB [122] 2 [[110,50]]]:=by
  rw[hA]
  have p1:dA fo [122]=-1:=by kernel_rfl
  have p2:dA fo [97]=1:=by kernel_rfl
  simp only[fo,rH]at p1 p2⊢;simp[jY,p1,p2,mb,db,getM]
 show afZ fo.an fo.aq (dn fo).2 ((dn fo).1.af++jY fo (dn fo).1.a8 fo.aq fo.g.outs)=zG
 rw[hL];simp only[hO];rw[hA];rfl
theorem acI:dR qD=(zG,0):=by
 have h:iY qD=0:=by kernel_rfl
 unfold dR;rw[if_pos h,Qv,afA,show(eg zG).1=0 by kernel_rfl];rfl
theorem aa9:dR zz=(mi,1):=by
 have h:iY zz=1:=by kernel_rfl
 unfold dR;rw[if_neg (by rw[h];decide),h]
theorem ad0:n4 qD=(fo,0):=by
 have h:iY qD=0:=by kernel_rfl
 unfold n4;rw[if_pos h,Qv]
set_option maxRecDepth 8000 in
theorem FB(hΓ:eG Γ)(hP:l9 Γ):aP Tryz.prog Γ uf [] (.bool true):=by
 have h1:=xQ hΓ hP qD Qu;have h2:=Fa (Γ:=Γ) qD Qu;have h3:=xQ hΓ hP zz afe;have h4:=Ea (Γ:=Γ) [[110,49],[97]] [[110,49],[97]] (ka:=1) (kb:=1) .self .self (by simp);have h5:=Nk (Γ:=Γ) rH (by unfold Gr.me rH;decide);rw[acI]at h1;rw[ad0]at h2;rw[aa9]at h3;rw[show kX rH=2 by kernel_rfl]at h5;unfold zG eB at h1;unfold fo at h2;unfold mi at h3;unfold qD at h1 h2;unfold zz at h3;unfold zM rH at*;simp at h1 h2 h3 h4 h5;refine .run 120 Xl (by simp) ?_;simp;refine .call 120 (by simp) h1 ?_;simp;refine .call 120 (by simp) h2 ?_;simp;refine .call 120 (by simp) h3 ?_;simp;refine .call 120 (by simp) h4 ?_;simp;refine .call 120 (by simp) h5 ?_;simp;exact .back (by simp)
def s7(m:Md):Bool:=m.g.zi&&(q_ 40 m.an&&(q_ 40 m.ah&&q_ 60 m.aq))
theorem Gh(m:Md):aP Tryz.prog Γ uD [dz m] (.bool (s7 m)):=by
 have h1:=MB (Γ:=Γ) m.g;have h2:=Ed (Γ:=Γ) m.an 40 (by omega) m.hI;have h3:=Ed (Γ:=Γ) m.ah 40 (by omega) m.hL;have h4:=Ed (Γ:=Γ) m.aq 60 (by omega) m.hO;unfold s7;simp at h1 h2 h3 h4;refine .run 90 Zx (by simp) ?_;simp;refine .call 90 (by simp) h1 ?_;simp;refine .call 90 (by simp) h2 ?_;simp;refine .call 90 (by simp) h3 ?_;simp;refine .call 90 (by simp) h4 ?_
 cases m.g.zi<;>cases q_ 40 m.an<;>cases q_ 40 m.ah<;>cases q_ 60 m.aq<;>simp<;>exact .back (by simp)
theorem Y2(g:Gr)(hf:g.me)(state ins:List Bool):(g.cK state ins).length<2^40/\(g.eC state ins).length<2^40:=by
 obtain⟨f1,f2,f3,f4⟩:=hf;unfold Gr.cK Gr.eC
 split
 ·simp[jS];omega
 ·simp
set_option maxRecDepth 8000 in
theorem WE(hΓ:eG Γ)(hP:l9 Γ)(m:Md)(hb:nq m)(state ins:List Bool)(hs2:state.length<2^40)(hi2:ins.length<2^40){ks ki:Nat}(hks:Kd 1 ks state)(hki:Kd 1 ki ins):
 aP Tryz.prog Γ DW [dz m,.list false ks (state.map .bool),.list false ki (ins.map .bool)] (.bool true):=by
 have hF:=Gh (Γ:=Γ) m;have hR:=xQ hΓ hP m hb;refine .run 90 U6 (by simp) ?_;simp;refine .call 90 (by simp) (FB hΓ hP) ?_;simp;refine .call 90 (by simp) hF ?_;simp;refine .call 90 (by simp) hR ?_
 cases hp:s7 m with
 |false=>
  simp;exact .back (by simp)
 |true=>
  by_cases h0:(dR m).2=0
  ·have e1:((60:Int)<state.length)=(60<state.length):=propext (by omega);have e2:((60:Int)<ins.length)=(60<ins.length):=propext (by omega)
   by_cases h1:60<state.length
   ·simp[h0,e1,h1];exact .back (by simp)
   ·by_cases h2:60<ins.length
    ·simp[h0,e1,h1,e2,h2];exact .back (by simp)
    ·obtain⟨_,_,_,hc,hCB,_,_⟩:=sn h0;have hst:=Yq h0 state ins;have hS:=XE hΓ (aI (bp m)) hCB ins state hi2 hs2 hki hks;have hA:=X_ (Γ:=Γ) m.g hb.1 state ins hks hki hs2 hi2;rw[hst]at hS;rw[<-hc]at hS;obtain⟨l1,l2⟩:=Y2 m.g hb.1 state ins;have hB1:=KP (Γ:=Γ) (m.g.cK state ins) (m.g.cK state ins) (ka:=1) (kb:=1) .self .self (by omega);have hB2:=KP (Γ:=Γ) (m.g.eC state ins) (m.g.eC state ins) (ka:=1) (kb:=1) .self .self (by omega);clear hst hc hCB hR;generalize dR m=L at h0 hS⊢;generalize m.g.cK state ins=RO at*;generalize m.g.eC state ins=RN at*;generalize m.g.dw state ins=RE at*;simp at hS hA hB1 hB2;simp[h0,e1,h1,e2,h2];refine .call 90 (by simp) hS ?_;simp;refine .call 90 (by simp) hA ?_;simp;have k1:(RO.map AV.bool).take RO.length=RO.map AV.bool:=cJ (by simp)
     have k2:(RN.map AV.bool).take RN.length=RN.map AV.bool:=cJ (by simp);refine .call 90 (by simp[k1]) hB1 ?_;simp;refine .call 90 (by simp[k2]) hB2 ?_;simp;exact .back (by simp)
  ·simp[h0];exact .back (by simp)
def je(m:Md)(l:List Bs):Nat:=(l.filter fun s=>decide (dA m s<0)).length
theorem aaP{n:Md}(h:n.aq.length=n.g.outs.length):(dT n).length=je n n.aq:=by
 unfold dT je;have h1:(n.aq.zip n.g.outs).map Prod.fst=n.aq:=JD (by omega)
 conv=>rhs;rw[<-h1,List.filter_map,eb]
 rfl
theorem Zh(g:Gr):(asked g).length=2*g.ands.length+g.next.length:=by
 unfold asked;rw[bq,eb,List.length_flatMap]
 have:∀l:List (Int×Int),(l.map fun a=>(s_ a).length).sum=2*l.length:=by
  intro l
  induction l with
  |nil=>rfl
  |cons a l ih=>rw[bL,List.sum_cons,ih];simp[s_];omega
 rw[this]
abbrev hGt(m x:Md)(c:Ct):List Ob:=[.cells (AV.cells (dz m)),.cells (AV.cells (bW c)),.row 1 aw [] none true false,.row 1 aw [] none true false,.row 3 jN [] none true false,.row 5 lD [] none true false,.cells (AV.cells (dz x)),.row 1 av [] none true false,.row 1 av [] none true false,.row 2 dv [] none true false,.row 1 av [] none true false,.row 1 aw [] none true false,.row 1 aw [] none true false,.row 1 aw [] none true false]
abbrev vI(m:Md)(c:Ct):List Ob:=[.cells (AV.cells (dz m)),.cells (AV.cells (bW c)),.row 1 aw [] none true false,.row 1 aw [] none true false,.row 3 jN [] none true false,.row 5 lD [] none true false]
set_option maxRecDepth 8000 in
theorem ae7(m x:Md)(c:Ct)(hx:x.g.next.length<2^30)(n:Int)(hn:0<=n/\n<2^40):∀k i:Nat,i+k=x.g.next.length->∀z:Int,(z=0\/z=1)->
 aB Tryz.prog Γ (yO (.bool true) (.ptr 1 0) (.int .i64 n) (.ptr 6 0) (.int .i64 0) (.int .i64 z) (.int .i64 i) (hGt m x c)) (.ret (.bool (decide ((c.af.length:Int)=n+if(0:Int)∈x.g.next.drop i then 1 else z)))):=by
 intro k
 induction k with
 |zero=>
  intro i hi z hz
  have q1:¬i<x.g.next.length:=by omega
  rw[bT (by omega)];refine .go 90 ?_;simp(disch:=omega) [q1];exact .back (by simp)
 |succ k ih=>
  intro i hi z hz
  have q1:i<x.g.next.length:=by omega
  have q2:=bU (x.g.hn.of q1);have hd:=bZ q1;refine .go 90 ?_
  by_cases h0:x.g.next[i]=0
  ·have hh:=ih (i+1) (by omega) 1 (.inr rfl)
   have e:(if(0:Int)∈x.g.next.drop i then(1:Int)else z)=if(0:Int)∈x.g.next.drop (i+1)then 1 else 1:=by
    rw[hd,if_pos (by rw[h0];exact ov ..)];simp
   rw[e];simp[q1,q2,h0];refine .aR ?_;simp(disch:=omega)at hh⊢;exact hh
  ·have hh:=ih (i+1) (by omega) z hz
   have e:(if(0:Int)∈x.g.next.drop i then(1:Int)else z)=if(0:Int)∈x.g.next.drop (i+1)then 1 else z:=by
    rw[hd];simp only[bo,Ne.symm h0,false_or]
   rw[e];simp[q1,q2,h0];refine .aR ?_;simp(disch:=omega)at hh⊢;exact hh
set_option maxRecDepth 8000 in
theorem aeD(m:Md)(hb:nq m)(c:Ct)(hC:iY m=0)(hg:kX m.g<2^39)(hx:m.g.normal.next.length<2^30):∀k i:Nat,i+k=m.aq.length->∀t:Nat,t<=i->
 aB Tryz.prog Γ (yQ (.ptr 0 0) (.bool true) (.ptr 1 0) (.int .i64 t) (.int .i64 i) (vI m c)) (.ret (.bool (decide ((c.af.length:Int)=((kX m.g+(t+je m (m.aq.drop i)):Nat):Int)+if(0:Int)∈m.g.normal.next then 1 else 0)))):=by
 intro k
 induction k with
 |zero=>
  intro i hi t ht;obtain⟨f,f1,f2,f3⟩:=hb
  have q1:¬i<m.aq.length:=by omega
  have hG:=Nk (Γ:=Γ) m.g f;have hN:=Fa (Γ:=Γ) m ⟨f,f1,f2,f3⟩
  have ry:n4 m=(bp m,0):=by rw[n4,if_pos hC]
  rw[ry]at hN;have hh:=ae7 (Γ:=Γ) m (bp m) c hx ((kX m.g+t:Nat):Int) (by omega) (bp m).g.next.length 0 (by omega) 0 (.inl rfl);rw[bT (by omega)];simp only[je,List.filter_nil,c9,gM];have hX:(bp m).g.next=m.g.normal.next:=rfl;rw[<-hX];generalize bp m=X at*;refine .go 90 ?_;simp[q1,vI];refine .call 90 (by simp) hG ?_;simp(disch:=omega);refine .call 90 (by simp) hN ?_;simp;refine .inLoop ?_;simp at hh⊢;exact hh
 |succ k ih=>
  intro i hi t ht
  have q1:i<m.aq.length:=by omega
  have q2:=bU (m.hO.of q1);have hd:=bZ q1;have hP:=F6 (Γ:=Γ) m m.aq[i] hb.2.1 hb.2.2.1;have hb3:=hb.2.2.2
  by_cases h0:dA m m.aq[i]<0
  ·have hh:=ih (i+1) (by omega) (t+1) (by omega)
   have e:je m (m.aq.drop i)=1+je m (m.aq.drop (i+1)):=by
    rw[hd,je,nF,if_pos (by simpa using h0),bz,je];omega
   rw[e];generalize dA m m.aq[i]=p at*;rw[show kX m.g+(t+1+je m (m.aq.drop (i+1)))=kX m.g+(t+(1+je m (m.aq.drop (i+1)))) by omega]at hh;generalize kX m.g+(t+(1+je m (m.aq.drop (i+1))))=R at*;refine .go 90 ?_;simp[q1,q2,vI];refine .dr 90 ?_;simp[q1,q2];refine .call (by simp) hP ?_;simp(disch:=omega) [h0,vI];refine .aR ?_;simp(disch:=omega);exact hh
  ·have hh:=ih (i+1) (by omega) t (by omega)
   have e:je m (m.aq.drop i)=je m (m.aq.drop (i+1)):=by
    rw[hd,je,nF,if_neg (by simpa using h0),je]
   rw[e];generalize dA m m.aq[i]=p at*;generalize kX m.g+(t+je m (m.aq.drop (i+1)))=R at*;refine .go 90 ?_;simp[q1,q2,vI];refine .dr 90 ?_;simp[q1,q2];refine .call (by simp) hP ?_;simp(disch:=omega) [h0,vI];refine .aR ?_;simp(disch:=omega);exact hh
theorem W2{m:Md}(h0:(dR m).2=0):kX m.g<2^39/\m.g.normal.next.length<2^30/\((dR m).1.af.length:Int)=((kX m.g+(0+je m (m.aq.drop 0)):Nat):Int)+(if(0:Int)∈m.g.normal.next then 1 else 0):=by
 obtain⟨hc0,ok,hs,hc,hCB,_,_⟩:=sn h0;have hck:=(Ba hc0).g;have ox:m.g.normal.Ok:=Gr.qk (Ay hck).2.1;have o3:=ox.sum;have hcount:=abP ok hs
 have e1:kX m.g=m.g.normal.ands.length+(oP m.g.normal).length:=by rw[kX,if_pos hck]
 have e2:(oP m.g.normal).length<=0+(asked m.g.normal).length:=acS _ [];rw[Zh]at e2;have e3:(dT (bp m)).length=je m m.aq:=aaP ok.lO;have e4:(bp m).g=m.g.normal:=rfl;rw[e4,e3]at hcount;have e5:=ok.lI;rw[e4]at e5;refine⟨by omega,by omega,?_⟩;rw[hc,hcount,e1,fe]
 split<;>simp<;>omega
set_option maxRecDepth 8000 in
theorem Wu(hΓ:eG Γ)(hP:l9 Γ)(m:Md)(hb:nq m):
 aP Tryz.prog Γ wL [dz m] (.bool true):=by
 have hF:=Gh (Γ:=Γ) m;have hF9:=MB (Γ:=Γ) m.g;have hR:=xQ hΓ hP m hb;refine .run 90 U5 (by simp) ?_;simp;refine .call 90 (by simp) (FB hΓ hP) ?_;simp;refine .call 90 (by simp) hF ?_
 cases hp:s7 m with
 |false=>
  simp;refine .call 90 (by simp) hR ?_;simp;exact .back (by simp)
 |true=>
  have hp9:m.g.zi=true:=by
   unfold s7 at hp;simp only[ay]at hp;exact hp.1
  rw[hp9]at hF9;simp;refine .call 90 (by simp) hF9 ?_;simp;refine .call 90 (by simp) hR ?_
  by_cases h0:(dR m).2=0
  ·obtain⟨b1,b2,b3⟩:=W2 h0;have hh:=aeD (Γ:=Γ) m hb (dR m).1 (sn h0).1 b1 b2 m.aq.length 0 (by omega) 0 (by omega);rw[ow b3]at hh;simp[h0];refine .inLoop ?_;simp at hh⊢;exact hh
  ·simp[h0];exact .back (by simp)
structure HZ(m:Md)(c:Ct):Prop where
 ins:c.an=m.an
 outs:c.aq=m.aq
 len:c.ah.length=m.ah.length
 ini:m.g.init.length=m.ah.length
 name:∀i(h:i<c.ah.length)(h2:i<m.ah.length),c.ah[i].name=m.ah[i]
 init:∀i(h:i<c.ah.length)(h2:i<m.g.init.length),c.ah[i].init=m.g.init[i]
 zp:c.af.length<2^30
 sort:vt c=List.range c.af.length
 check:mJ c=(0,[])
theorem Xj{m:Md}(h0:(dR m).2=0):HZ m (dR m).1:=by
 obtain⟨hc0,ok,hs,hc,hCB,okc,ho⟩:=sn h0;obtain⟨V,ts,D⟩:=Db ok hs;obtain⟨F,f1,f2,f3,f4,f5⟩:=K1 (Ba hc0).g;have hin:(bp m).g.init=m.g.init:=f4;rw[hc];have n1:=D.G0;have n2:=D.Hb;rw[hin]at n2
 have hlen:(aI (bp m)).ah.length=m.ah.length:=by
  have:=congrArg List.length n1;rw[eb]at this;exact this
 refine⟨rfl,rfl,hlen,?_,fun i h h2=>?_,fun i h h2=>?_,?_,?_,(BM ho).2.2⟩
 ·have:=congrArg List.length n2;rw[eb]at this;omega
 ·have:=congrArg (fun l=>l[i]?) n1;simp only[gK,aM h]at this;have h3:(bp m).ah[i]? =some m.ah[i]:=aM h2;rw[h3]at this;simpa using this
 ·have:=congrArg (fun l=>l[i]?) n2;simp only[gK,aM h,aM h2]at this;simpa using this
 ·have:=D.zp;omega
 ·rw[vt,if_pos (xE okc),D.sort]
abbrev ry(m:Md)(c:Ct)(nv:List AV):List Ob:=[.cells (AV.cells (dz m)),.cells (AV.cells (bW c)),.row 1 aw [] none true false,.row 1 aw [] none true false,.row 3 jN [] none true false,.row 5 lD [] none true false,.row 1 av ((List.range c.af.length).map iN) none true false,.row 1 aw nv none true false]
set_option maxRecDepth 8000 in
theorem afo(m:Md)(c:Ct)(nv:List AV)(hb:nq m)(H:HZ m c):∀k i:Nat,i+k=m.ah.length->
 aB Tryz.prog Γ (ybC (.ptr 0 0) (.bool true) (.ptr 1 0) (.int .i64 0) (.sl 6 0 c.af.length) (.int .i64 i) (ry m c nv)) (.ret (.bool true)):=by
 intro k;have hlen:=H.len;have hini:=H.ini;have hb2:=hb.2.2.1
 induction k with
 |zero=>
  intro i hi
  have q1:¬i<m.ah.length:=by omega
  have hT1:=Ea (Γ:=Γ) c.an m.an c.hI m.hI (by rw[H.ins];have:=hb.2.1;omega);have hT2:=Ea (Γ:=Γ) c.aq m.aq c.hO m.hO (by rw[H.outs];have:=hb.2.2.2;omega);rw[ow H.ins]at hT1;rw[ow H.outs]at hT2;refine .go 150 ?_;simp[q1,ry];refine .call 150 (by simp) hT1 ?_;simp;refine .call 150 (by simp) hT2 ?_;simp[hlen];exact .back (by simp)
 |succ k ih=>
  intro i hi
  have q1:i<m.ah.length:=by omega
  have q2:=bU (m.hL.of q1)
  have q3:i<c.ah.length:=by omega
  have q4:=bU (c.hL.of q3)
  have q5:i<m.g.init.length:=by omega
  have q7:¬c.ah.length<=i:=by omega
  have q6:=bU (m.g.hi.of q5);have e1:=H.name i q3 q1;have e2:=H.init i q3 q5;have hh:=ih (i+1) (by omega);refine .go 150 ?_;simp(maxSteps:=2000000) [q1,q2,q3,q4,q5,q6,q7,e1,e2,ry];refine .aR ?_;simp(disch:=omega)at hh⊢;exact hh
set_option maxRecDepth 8000 in
theorem aeI(m:Md)(c:Ct)(nv:List AV)(hb:nq m)(H:HZ m c):∀k i:Nat,i+k=c.af.length->
 aB Tryz.prog Γ (ybE (.ptr 0 0) (.bool true) (.ptr 1 0) (.int .i64 0) (.sl 6 0 c.af.length) (.int .i64 i) (ry m c nv)) (.ret (.bool true)):=by
 intro k;have hg:=H.zp
 induction k with
 |zero=>
  intro i hi
  have q1:¬i<c.af.length:=by omega
  have hh:=afo (Γ:=Γ) m c nv hb H m.ah.length 0 (by omega);refine .go 150 ?_;simp[q1,ry];refine .inLoop ?_;simp at hh⊢;exact hh
 |succ k ih=>
  intro i hi
  have q1:i<c.af.length:=by omega
  have hh:=ih (i+1) (by omega);refine .go 150 ?_;simp[q1,ry];refine .aR ?_;simp(disch:=omega)at hh⊢;exact hh
set_option maxRecDepth 8000 in
theorem Wk(hΓ:eG Γ)(hP:l9 Γ)(m:Md)(hb:nq m):
 aP Tryz.prog Γ wK [dz m] (.bool true):=by
 have hF:=Gh (Γ:=Γ) m;have hR:=xQ hΓ hP m hb;refine .run 150 U3 (by simp) ?_;simp;refine .call 150 (by simp) (FB hΓ hP) ?_;simp;refine .call 150 (by simp) hF ?_;simp;refine .call 150 (by simp) hR ?_
 by_cases h0:(dR m).2=0
 ·cases hp:s7 m with
  |false=>
   simp[h0];exact .back (by simp)
  |true=>
   obtain⟨_,hok,hst,hc,hCB,okc,ho⟩:=sn h0;rw[<-hc]at hCB;have H:=Xj h0;have hCk:=N0 hΓ (dR m).1 hCB;have hSo:=Gi hΓ (dR m).1 hCB;rw[H.check]at hCk;rw[H.sort]at hSo;have hh:=aeI (Γ:=Γ) m (dR m).1 ((mH (dR m).1).map .str) hb H (dR m).1.af.length 0 (by omega);simp[h0];refine .call 150 (by simp) hCk ?_;simp;refine .call 150 (by simp) hSo ?_;simp;refine .inLoop ?_;simp at hh⊢;exact hh
 ·have e0:(dR m).1=mi:=by
   unfold dR at h0⊢
   split at h0
   ·split at h0
    ·exact absurd rfl h0
    ·rename_i h1 h2;rw[if_pos h1,if_neg h2]
   ·rename_i h1;rw[if_neg h1]
  cases hp:s7 m with
  |false=>
   simp[h0];exact .back (by simp)
  |true=>
   simp[h0,e0,mi];exact .back (by simp)
end Go.Proofs.YtchjijfjidlpjaaGreatDoor
